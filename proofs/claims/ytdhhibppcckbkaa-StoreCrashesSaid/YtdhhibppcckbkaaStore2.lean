import Derived.Test.YtdhhibppcckbkaaStore1
import Derived.Test.YtdhhibppcckbkaaStp
import Derived.Deep.RegionLaw
import Derived.Deep.DeepCutAuto
namespace Go.Proofs.Ytdhhibppcckbkaa
open Go.RowKit
set_option linter.unusedVariables false
set_option linter.unusedSimpArgs false
/-! rule.Read, greater -/
def readStF (b : ByteArray) : Stt × Int :=
  if b.size = 8 then (if be (b.extract 0 4).data.toList ≤ 1000000 ∧ be (b.extract 4 8).data.toList ≤ 1000000 then (⟨be (b.extract 0 4).data.toList, be (b.extract 4 8).data.toList⟩, 0) else (⟨0, 0⟩, 2)) else (⟨0, 0⟩, 2)
set_option maxHeartbeats 2000000 in
theorem rread_bad (b : ByteArray) (w : World) (h : b.size ≠ 8) (hb : b.size ≤ M47) : Calls Try.prog 35 #[.string b] w fun e w' => e = .returned (.tuple #[.agg #[.int .i64 0, .int .i64 0], .int .i64 2]) ∧ Keep [] w w' := by
  have n1 : ((b.size : Int) != 8) = true := by rw [bne_iff_ne]; omega
  have n2 : ¬ (b.size : Int) = 8 := by omega
  clear h
  unfold M47 at hb
  have hb2 : b.size < 9223372036854775808 := by omega
  clear hb
  have b1 := Blk.new w zSt 23
  go_enter Try.func35, Try.ntmps35
  go_wp2_with (first
    | ((with_reducible refine wl_alloc 23 ?_ ?_); (with_reducible rfl); refine sx_alloc rfl 23 rfl _ 2 zSt zSt_info rfl ?_; intro w2 b2 k2 z2; clear z2; (try simp only [Act.put, List.setIfInBounds_toArray, List.set_cons_zero, List.set_cons_succ]))
    | ((with_reducible refine wl_build 23 _ ?_ ?_); (with_reducible rfl); refine sx_build rfl 23 _ rfl zSt (by kernel_rfl) ?_; (try simp only [Act.put, List.setIfInBounds_toArray, List.set_cons_zero, List.set_cons_succ]))
    | ((with_reducible refine wl_store 23 (.tmp 2) (.tmp 8) ?_ ?_); (with_reducible rfl); refine sx_storeW rfl 23 (.tmp 2) (.tmp 8) rfl w.heap.size zSt zSt _ 2 rfl rfl b2 zSt_size rfl rfl rfl ?_; intro w3 b3 k3 z3; clear z3; (try simp only [Act.put, List.setIfInBounds_toArray, List.set_cons_zero, List.set_cons_succ])))
  refine ret_cell2 rfl rfl rfl b3 Try.underlying23 rfl zSt_size _ rfl ?_
  exact ⟨rfl, k2.new k3 (fun i hi => .inr (by simp at hi; omega))⟩
set_option maxRecDepth 100000 in
set_option maxHeartbeats 4000000 in
theorem rread_eight (b : ByteArray) (w : World) (h : b.size = 8) : Calls Try.prog 35 #[.string b] w fun e w' => e = .returned (.tuple #[.agg (stV (readStF b).1), .int .i64 (readStF b).2]) ∧ Keep [] w w' := by
  have s1 : (b.extract 0 4).size = 4 := by simp [ByteArray.size_extract]; omega
  have s2 : (b.extract 4 8).size = 4 := by simp [ByteArray.size_extract]; omega
  have N1 := Lib.hid (fun w' => rnum_call (b.extract 0 4) w' s1)
  have N2 := Lib.hid (fun w' => rnum_call (b.extract 4 8) w' s2)
  have hr : Hid (readStF b = if be (b.extract 0 4).data.toList ≤ 1000000 ∧ be (b.extract 4 8).data.toList ≤ 1000000 then (⟨be (b.extract 0 4).data.toList, be (b.extract 4 8).data.toList⟩, 0) else (⟨0, 0⟩, 2)) := Lib.hid (by unfold readStF; rw [if_pos h])
  generalize hv : be (b.extract 0 4).data.toList = v at *
  generalize hl : be (b.extract 4 8).data.toList = l at *
  generalize readStF b = out at *
  clear s1 s2 hv hl
  go_enter Try.func35, Try.ntmps35
  go_wp2_with (first
    | ((with_reducible refine wl_alloc 23 ?_ ?_); (with_reducible rfl); refine sx_alloc rfl 23 rfl _ 2 zSt zSt_info rfl ?_; intro w2 b2 k2 z2; clear z2; (try simp only [Act.put, List.setIfInBounds_toArray, List.set_cons_zero, List.set_cons_succ])))
  go_cut [4] (fun v4 wx => ∃ g, v4 = .pointer (some ⟨g, 0, none⟩) ∧ Blk wx g (stV ⟨v, l⟩) 23 ∧ Keep [] w2 wx ∧ w2.heap.size ≤ g)
  case first =>
    refine wp_region_any (by kernel_rfl) ?_
    (try (change wpAny _ _ _ _ _ _ _ (World.drew _)))
    have K0 : Keep [] w2 w2.drew := (Keep.refl [] w2).drew
    generalize World.drew w2 = u0 at *
    refine wpAny_take (i := 0) (v := ?_) rfl (by kernel_rfl) (by kernel_rfl) (by kernel_rfl) (fun _ _ _ h => h) (Or.inl ⟨by rfl, ?_⟩) ?_
    rotate_left
    · intro w9
      go_simp
      with_reducible rfl
    refine wpAny_take (i := 1) (v := ?_) rfl (by kernel_rfl) (by kernel_rfl) (by kernel_rfl) (fun _ _ _ h => h) (Or.inl ⟨by rfl, ?_⟩) ?_
    rotate_left
    · intro w9
      go_simp
      with_reducible rfl
    refine wpAny_take (i := 3) (v := ?_) rfl (by kernel_rfl) (by kernel_rfl) (by kernel_rfl) (fun _ _ _ h => h) (Or.inl ⟨by rfl, ?_⟩) ?_
    rotate_left
    · intro w9
      go_simp
      with_reducible rfl
    refine wpAny_take (i := 4) (v := ?_) rfl (by kernel_rfl) (by kernel_rfl) (by kernel_rfl) (fun _ _ _ h => h) (Or.inl ⟨by rfl, ?_⟩) ?_
    rotate_left
    · intro w9
      go_simp
      with_reducible rfl
    refine wpAny_ready (rs := [2, 7]) (by kernel_rfl) (by simp) ?_
    refine AllReady.consS rfl (fun K hK => ?_) ?_
    · refine Stp.mk ?_
      go_simp
      go_at_call 55
      refine (N1.out _).mono ?_
      rintro e u1 ⟨rfl, kN⟩
      have K1 := K0.trans kN
      clear kN
      refine hK _ _ ?_
      clear hK K
      refine wpAny_ready (rs := [5, 7]) (by kernel_rfl) (by simp) ?_
      refine AllReady.consS rfl (fun K hK => ?_) ?_
      · refine Stp.mk ?_
        go_simp
        go_at_call 55
        refine (N2.out _).mono ?_
        rintro e u2 ⟨rfl, kN⟩
        have K2 := K1.trans kN
        clear kN
        refine hK _ _ ?_
        clear hK K
        refine wpAny_take (i := 6) (v := ?_) rfl (by kernel_rfl) (by kernel_rfl) (by kernel_rfl) (fun _ _ _ h => h) (Or.inl ⟨by rfl, ?_⟩) ?_
        rotate_left
        · intro w9
          go_simp
          with_reducible rfl
        refine wpAny_ready (rs := [7]) (by kernel_rfl) (by simp) ?_
        refine AllReady.consS rfl (fun K hK => ?_) ?_
        · refine Stp.mk ?_
          go_simp
          have kN : Keep [] u2 (u2.alloc (.cells zSt 23)) := (Keep.refl _ _).alloc _
          have B3 := Blk.new u2 zSt 23
          have K3 := K2.trans kN
          have L3 := K2.size
          generalize u2.alloc (.cells zSt 23) = u3 at *
          clear kN
          refine hK _ _ ?_
          clear hK K
          refine wpAny_ready (rs := [8]) (by kernel_rfl) (by simp) ?_
          refine AllReady.consS rfl (fun K hK => ?_) ?_
          · refine stp_store rfl 23 (.tmp 4) (.tmp 15) rfl u2.heap.size 0 (stV ⟨v, l⟩) zSt (stV ⟨v, l⟩) _ rfl rfl B3 zSt_size (by simp) rfl rfl ?_
            intro u4 bN kN zN
            clear zN
            have K4 : Keep [] w2 u4 := K3.new kN (fun i hi => .inr (by rw [List.mem_singleton.1 hi]; exact L3))
            have B4 := bN
            clear bN kN
            refine hK _ _ ?_
            clear hK K
            refine wpAny_done (by kernel_rfl) ?_ _
            go_wp2
            go_meet
            exact ⟨u2.heap.size, rfl, B4, K4, L3⟩
          exact AllReady.nil
        exact AllReady.nil
      refine AllReady.consS rfl (fun K hK => ?_) ?_
      · refine Stp.mk ?_
        go_simp
        have kN : Keep [] u1 (u1.alloc (.cells zSt 23)) := (Keep.refl _ _).alloc _
        have B2 := Blk.new u1 zSt 23
        have K2 := K1.trans kN
        have L2 := K1.size
        generalize u1.alloc (.cells zSt 23) = u2 at *
        clear kN
        refine hK _ _ ?_
        clear hK K
        refine wpAny_ready (rs := [5]) (by kernel_rfl) (by simp) ?_
        refine AllReady.consS rfl (fun K hK => ?_) ?_
        · refine Stp.mk ?_
          go_simp
          go_at_call 55
          refine (N2.out _).mono ?_
          rintro e u3 ⟨rfl, kN⟩
          have K3 := K2.trans kN
          have B3 := B2.keep kN (by simp)
          clear kN
          refine hK _ _ ?_
          clear hK K
          refine wpAny_take (i := 6) (v := ?_) rfl (by kernel_rfl) (by kernel_rfl) (by kernel_rfl) (fun _ _ _ h => h) (Or.inl ⟨by rfl, ?_⟩) ?_
          rotate_left
          · intro w9
            go_simp
            with_reducible rfl
          refine wpAny_ready (rs := [8]) (by kernel_rfl) (by simp) ?_
          refine AllReady.consS rfl (fun K hK => ?_) ?_
          · refine stp_store rfl 23 (.tmp 4) (.tmp 15) rfl u1.heap.size 0 (stV ⟨v, l⟩) zSt (stV ⟨v, l⟩) _ rfl rfl B3 zSt_size (by simp) rfl rfl ?_
            intro u4 bN kN zN
            clear zN
            have K4 : Keep [] w2 u4 := K3.new kN (fun i hi => .inr (by rw [List.mem_singleton.1 hi]; exact L2))
            have B4 := bN
            clear bN kN
            refine hK _ _ ?_
            clear hK K
            refine wpAny_done (by kernel_rfl) ?_ _
            go_wp2
            go_meet
            exact ⟨u1.heap.size, rfl, B4, K4, L2⟩
          exact AllReady.nil
        exact AllReady.nil
      exact AllReady.nil
    refine AllReady.consS rfl (fun K hK => ?_) ?_
    · refine Stp.mk ?_
      go_simp
      have kN : Keep [] u0 (u0.alloc (.cells zSt 23)) := (Keep.refl _ _).alloc _
      have B1 := Blk.new u0 zSt 23
      have K1 := K0.trans kN
      have L1 := K0.size
      generalize u0.alloc (.cells zSt 23) = u1 at *
      clear kN
      refine hK _ _ ?_
      clear hK K
      refine wpAny_ready (rs := [2]) (by kernel_rfl) (by simp) ?_
      refine AllReady.consS rfl (fun K hK => ?_) ?_
      · refine Stp.mk ?_
        go_simp
        go_at_call 55
        refine (N1.out _).mono ?_
        rintro e u2 ⟨rfl, kN⟩
        have K2 := K1.trans kN
        have B2 := B1.keep kN (by simp)
        clear kN
        refine hK _ _ ?_
        clear hK K
        refine wpAny_ready (rs := [5]) (by kernel_rfl) (by simp) ?_
        refine AllReady.consS rfl (fun K hK => ?_) ?_
        · refine Stp.mk ?_
          go_simp
          go_at_call 55
          refine (N2.out _).mono ?_
          rintro e u3 ⟨rfl, kN⟩
          have K3 := K2.trans kN
          have B3 := B2.keep kN (by simp)
          clear kN
          refine hK _ _ ?_
          clear hK K
          refine wpAny_take (i := 6) (v := ?_) rfl (by kernel_rfl) (by kernel_rfl) (by kernel_rfl) (fun _ _ _ h => h) (Or.inl ⟨by rfl, ?_⟩) ?_
          rotate_left
          · intro w9
            go_simp
            with_reducible rfl
          refine wpAny_ready (rs := [8]) (by kernel_rfl) (by simp) ?_
          refine AllReady.consS rfl (fun K hK => ?_) ?_
          · refine stp_store rfl 23 (.tmp 4) (.tmp 15) rfl u0.heap.size 0 (stV ⟨v, l⟩) zSt (stV ⟨v, l⟩) _ rfl rfl B3 zSt_size (by simp) rfl rfl ?_
            intro u4 bN kN zN
            clear zN
            have K4 : Keep [] w2 u4 := K3.new kN (fun i hi => .inr (by rw [List.mem_singleton.1 hi]; exact L1))
            have B4 := bN
            clear bN kN
            refine hK _ _ ?_
            clear hK K
            refine wpAny_done (by kernel_rfl) ?_ _
            go_wp2
            go_meet
            exact ⟨u0.heap.size, rfl, B4, K4, L1⟩
          exact AllReady.nil
        exact AllReady.nil
      exact AllReady.nil
    exact AllReady.nil
  case rest =>
    obtain ⟨g, rfl, bg, kg, lg⟩ := hcut
    have b0 := b2.keep kg (by simp)
    have kk := k2.trans kg
    have c0 : wc.cell? ⟨g, 0, none⟩ = some (.int .i64 v) := bg.cell 0
    have c1 : wc.cell? ⟨g, 1, none⟩ = some (.int .i64 l) := bg.cell 1
    have l2 := b2.lt
    have hgn : g ∉ [w.heap.size] := by simp; omega
    by_cases h1 : v ≤ 1000000
    · have t1 : decide (1000000 < v) = false := by simp; omega
      by_cases h2 : l ≤ 1000000
      · have t2 : decide (1000000 < l) = false := by simp; omega
        have h1' := Lib.hid h1
        have h2' := Lib.hid h2
        clear h1 h2
        go_wp2_with (first | ((with_reducible refine wl_load 23 (.tmp 4) ?_ ?_); (with_reducible rfl); refine sx_loadW rfl 23 (.tmp 4) rfl g (stV ⟨v, l⟩) _ _ 2 rfl bg Try.underlying23 rfl zSt_size rfl ?_; (try simp only [Act.put, List.setIfInBounds_toArray, List.set_cons_zero, List.set_cons_succ])) | ((with_reducible refine wl_store 23 (.tmp 2) (.tmp 25) ?_ ?_); (with_reducible rfl); refine sx_storeW rfl 23 (.tmp 2) (.tmp 25) rfl w.heap.size (stV ⟨v, l⟩) zSt _ 2 rfl rfl b0 zSt_size rfl rfl rfl ?_; intro wz bwz kwz zwz; clear zwz; (try simp only [Act.put, List.setIfInBounds_toArray, List.set_cons_zero, List.set_cons_succ])))
        refine ret_cell2 rfl rfl rfl bwz Try.underlying23 rfl zSt_size _ rfl ?_
        rw [hr.out, if_pos ⟨h1'.out, h2'.out⟩]
        exact ⟨rfl, kk.new kwz (fun i hi => .inr (by simp at hi; omega))⟩
      · have t2 : decide (1000000 < l) = true := by simp; omega
        have hbad : ¬ (v ≤ 1000000 ∧ l ≤ 1000000) := fun h => h2 h.2
        replace hbad := Lib.hid hbad
        clear h1 h2
        go_wp2_with (first | ((with_reducible refine wl_build 23 _ ?_ ?_); (with_reducible rfl); refine sx_build rfl 23 _ rfl zSt (by kernel_rfl) ?_; (try simp only [Act.put, List.setIfInBounds_toArray, List.set_cons_zero, List.set_cons_succ])) | ((with_reducible refine wl_store 23 (.tmp 2) (.tmp 24) ?_ ?_); (with_reducible rfl); refine sx_storeW rfl 23 (.tmp 2) (.tmp 24) rfl w.heap.size zSt zSt _ 2 rfl rfl b0 zSt_size rfl rfl rfl ?_; intro wz bwz kwz zwz; clear zwz; (try simp only [Act.put, List.setIfInBounds_toArray, List.set_cons_zero, List.set_cons_succ])))
        refine ret_cell2 rfl rfl rfl bwz Try.underlying23 rfl zSt_size _ rfl ?_
        rw [hr.out, if_neg hbad.out]
        exact ⟨rfl, kk.new kwz (fun i hi => .inr (by simp at hi; omega))⟩
    · have t1 : decide (1000000 < v) = true := by simp; omega
      have hbad : ¬ (v ≤ 1000000 ∧ l ≤ 1000000) := fun h => h1 h.1
      replace hbad := Lib.hid hbad
      clear h1
      go_wp2_with (first | ((with_reducible refine wl_build 23 _ ?_ ?_); (with_reducible rfl); refine sx_build rfl 23 _ rfl zSt (by kernel_rfl) ?_; (try simp only [Act.put, List.setIfInBounds_toArray, List.set_cons_zero, List.set_cons_succ])) | ((with_reducible refine wl_store 23 (.tmp 2) (.tmp 24) ?_ ?_); (with_reducible rfl); refine sx_storeW rfl 23 (.tmp 2) (.tmp 24) rfl w.heap.size zSt zSt _ 2 rfl rfl b0 zSt_size rfl rfl rfl ?_; intro wz bwz kwz zwz; clear zwz; (try simp only [Act.put, List.setIfInBounds_toArray, List.set_cons_zero, List.set_cons_succ])))
      refine ret_cell2 rfl rfl rfl bwz Try.underlying23 rfl zSt_size _ rfl ?_
      rw [hr.out, if_neg hbad.out]
      exact ⟨rfl, kk.new kwz (fun i hi => .inr (by simp at hi; omega))⟩
theorem rread_call (b : ByteArray) (w : World) (hb : b.size ≤ M47) : Calls Try.prog 35 #[.string b] w fun e w' => e = .returned (.tuple #[.agg (stV (readStF b).1), .int .i64 (readStF b).2]) ∧ Keep [] w w' := by
  by_cases h : b.size = 8
  · exact rread_eight b w h
  · rw [show readStF b = (⟨0, 0⟩, 2) by unfold readStF; rw [if_neg h]]
    exact rread_bad b w h hb
end Go.Proofs.Ytdhhibppcckbkaa
