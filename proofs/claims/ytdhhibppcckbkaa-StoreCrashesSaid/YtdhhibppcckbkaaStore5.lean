import Derived.Test.YtdhhibppcckbkaaStore4
import Derived.Deep.DeepCutAuto
namespace Go.Proofs.Ytdhhibppcckbkaa
open Go.RowKit
set_option linter.unusedVariables false
set_option linter.unusedSimpArgs false
/-! the store: awake -/
theorem ext_left (a b : ByteArray) (n : Nat) (h : a.size = n) : (a ++ b).extract 0 n = a := by
  subst h
  exact ByteArray.extract_append_eq_left rfl
theorem ext_right (a b : ByteArray) (n m : Nat) (h : a.size = n) (h2 : n + b.size = m) : (a ++ b).extract n m = b := by
  subst h h2
  exact ByteArray.extract_append_eq_right rfl (by simp)
theorem readSt_stF (s : Stt) (h : 0 ≤ s.v ∧ s.v ≤ 1000000 ∧ 0 ≤ s.l ∧ s.l ≤ 1000000) : readStF (stF s) = (s, 0) := by
  obtain ⟨v, l⟩ := s
  obtain ⟨h1, h2, h3, h4⟩ := h
  dsimp only at h1 h2 h3 h4
  have e1 : (stF ⟨v, l⟩).extract 0 4 = numF v := ext_left _ _ _ (numF_size v)
  have e2 : (stF ⟨v, l⟩).extract 4 8 = numF l := ext_right _ _ _ _ (numF_size v) (by rw [numF_size])
  unfold readStF
  rw [if_pos (stF_size _), e1, e2, be_numFS v ⟨h1, by omega⟩, be_numFS l ⟨h3, by omega⟩, if_pos ⟨h2, h4⟩]
theorem containsNil (fv : Value) (w : World) : Calls Try.prog 42 #[.slice none 0 0, fv] w fun e w' => e = .returned (.bool false) ∧ Keep [] w w' := by
  have hI : ∀ w, Calls Try.prog 59 #[.slice none 0 0, fv] w fun e w' => e = .returned (.int .i64 (-1)) ∧ Keep [] w w' := fun w => by
    go_enter Try.func59, Try.ntmps59
    go_wp2_with fail
    go_loopw [8] (fun i wr => i = .int .i64 0 ∧ Keep [] w wr) (fun _ _ => 0)
    case atStart => exact ⟨rfl, Keep.refl _ _⟩
    case round =>
      obtain ⟨rfl, kk⟩ := hrel
      go_wp2
      go_ret
      exact ⟨rfl, kk⟩
  go_enter Try.func42, Try.ntmps42
  go_wp2_with fail
  refine (hI _).mono ?_
  rintro e w1 ⟨rfl, k1⟩
  go_wp2
  go_ret
  exact ⟨rfl, k1⟩
abbrev s0 : Stt := ⟨0, 0⟩
abbrev s1 : Stt := ⟨1, 0⟩
abbrev stoV (p : Nat) (s : Stt) (v : Value) : Array Value := #[.pointer (some ⟨p, 0, none⟩), .int .i64 s.v, .int .i64 s.l, v]
set_option maxRecDepth 100000 in
set_option maxHeartbeats 16000000 in
theorem save_one (m p : Nat) (w : World) (hm : StAt w m p s0 (.slice none 0 0)) (hp : LogAt w p ⟨⟨#[]⟩, 0, -1, false⟩) (hmp : m ≠ p) :
    Calls Try.prog 24 #[.pointer (some ⟨m, 0, none⟩), .agg (stV s1), .slice none 0 0] w fun e w' => e = .returned (.int .i64 0) ∧ StAt w' m p s1 (.slice none 0 0) ∧ Keep [m, p] w w' := by
  have hr := readSt_stF s1 (by decide)
  have hml := Blk.lt hm
  have hpl := Blk.lt hp
  have hap : appF ⟨⟨#[]⟩, 0, -1, false⟩ (recF s1) = (0, ⟨⟨#[]⟩ ++ textF (recF s1), 0, -1, false⟩) := by
    have z : (recF s1).size = 9 := by unfold recF; rw [ByteArray.size_append, stF_size]; rfl
    unfold appF
    rw [if_neg (by simp), if_neg (by omega), if_neg (by simp [burnF])]
    rfl
  have hsy : ∀ b : ByteArray, (syncF ⟨b, 0, -1, false⟩).1 = 0 := fun b => by unfold syncF; simp [burnF]
  have hrs : (recF s1).size ≤ 140737488355328 := by unfold recF; rw [ByteArray.size_append, stF_size]; show 1 + 8 ≤ _; omega
  replace hm := Lib.hid hm
  replace hp := Lib.hid hp
  replace hap := Lib.hid hap
  replace hsy := Lib.hid hsy
  replace hr := Lib.hid hr
  replace hmp := Lib.hid hmp
  replace hrs := Lib.hid hrs
  go_enter Try.func24, Try.ntmps24
  go_wp2_with (first | ((with_reducible refine wl_box 23 (.tmp 1) ?_ ?_); (with_reducible rfl); refine sx_box rfl 23 (.tmp 1) rfl (stV s1) rfl ?_; intro w1 bw1 kw1 zw1; clear zw1; (try simp only [Act.put, List.setIfInBounds_toArray, List.set_cons_zero, List.set_cons_succ])) | ((with_reducible refine wl_load 23 (.tmp 4) ?_ ?_); (with_reducible rfl); refine sx_loadW rfl 23 (.tmp 4) rfl w.heap.size (stV s1) _ _ 2 rfl bw1 Try.underlying23 rfl zSt_size rfl ?_; (try simp only [Act.put, List.setIfInBounds_toArray, List.set_cons_zero, List.set_cons_succ])))
  refine (rbytes_call s1 _).mono ?_
  rintro e w2 ⟨rfl, k2⟩
  go_wp2_with fail
  refine (rread_call (stF s1) _ (by rw [stF_size]; unfold M47; omega)).mono ?_
  rw [hr.out]
  rintro e w3 ⟨rfl, k3⟩
  have d1 := (bw1.keep k2 (by simp)).keep k3 (by simp)
  have kk3 := (kw1.trans k2).trans k3
  have l1 := d1.lt
  have l0 := kk3.size
  clear bw1 kw1 k2 k3
  go_upto_region 2 with (first | ((with_reducible refine wl_alloc 23 ?_ ?_); (with_reducible rfl); refine sx_alloc rfl 23 rfl _ 2 zSt zSt_info rfl ?_; intro w4 bw4 kw4 zw4; clear zw4; (try simp only [Act.put, List.setIfInBounds_toArray, List.set_cons_zero, List.set_cons_succ])) | ((with_reducible refine wl_store 23 (.tmp 7) (.tmp 20) ?_ ?_); (with_reducible rfl); refine sx_storeW rfl 23 (.tmp 7) (.tmp 20) rfl w3.heap.size (stV s1) zSt _ 2 rfl rfl bw4 zSt_size rfl rfl rfl ?_; intro w5 bw5 kw5 zw5; clear zw5; (try simp only [Act.put, List.setIfInBounds_toArray, List.set_cons_zero, List.set_cons_succ])))
  have kk5 := (kk3.trans kw4).new kw5 (fun i hi => .inr (by simp at hi; omega))
  have d5 := (d1.keep kw4 (by simp)).keep kw5 (by simp; omega)
  clear bw4 kw4 kw5 d1 kk3
  go_wp2_with (first | ((with_reducible refine wl_load 23 (.tmp 7) ?_ ?_); (with_reducible rfl); refine sv_loadW 23 (.tmp 7) rfl rfl w3.heap.size (stV s1) _ _ 2 rfl bw5 Try.underlying23 rfl zSt_size rfl ?_; (try simp only [Act.put, List.setIfInBounds_toArray, List.set_cons_zero, List.set_cons_succ])) | ((with_reducible refine wl_load 23 (.tmp 4) ?_ ?_); (with_reducible rfl); refine sv_loadW 23 (.tmp 4) rfl rfl w.heap.size (stV s1) _ _ 2 rfl d5 Try.underlying23 rfl zSt_size rfl ?_; (try simp only [Act.put, List.setIfInBounds_toArray, List.set_cons_zero, List.set_cons_succ])))
  refine (containsNil _ _).mono ?_
  rintro e w6 ⟨rfl, k6⟩
  have d6 := d5.keep k6 (by simp)
  have kk6 := kk5.trans k6
  clear d5 bw5 kk5 k6
  go_wp2_with fail
  go_loopw [9, 35] (fun r i wr => r = .slice none 0 0 ∧ i = .int .i64 0 ∧ Keep [] w6 wr) (fun _ _ _ => 0)
  case atStart => exact ⟨rfl, rfl, Keep.refl _ _⟩
  case round =>
    obtain ⟨rfl, rfl, k7⟩ := hrel
    have d7 := d6.keep k7 (by simp)
    have kk7 := kk6.trans k7
    have h7 := Lib.hid (hm.out.keep kk7 (by simp))
    have p7 := Lib.hid (hp.out.keepS kk7 (by simp))
    clear d6 kk6 k7
    go_upto_region 10 with fail
    go_cut [50] (fun v wx => v = .bool true ∧ Keep [] wr wx)
    case first =>
      refine wp_region_any (by kernel_rfl) ?_
      (try (change wpAny _ _ _ _ _ _ _ (World.drew _)))
      have K0 : Keep [] wr wr.drew := (Keep.refl [] wr).drew
      generalize World.drew wr = u0 at *
      refine wpAny_take (i := 1) (v := ?_) rfl (by kernel_rfl) (by kernel_rfl) (by kernel_rfl) (fun _ _ _ h => h) (Or.inl ⟨by rfl, ?_⟩) ?_
      rotate_left
      · intro w9
        go_simp
        with_reducible rfl
      refine wpAny_take (i := 2) (v := ?_) rfl (by kernel_rfl) (by kernel_rfl) (by kernel_rfl) (fun _ _ _ h => h) (Or.inl ⟨by rfl, ?_⟩) ?_
      rotate_left
      · intro w9
        go_simp
        with_reducible rfl
      refine wpAny_take (i := 3) (v := ?_) rfl (by kernel_rfl) (by kernel_rfl) (by kernel_rfl) (fun _ _ _ h => h) (Or.inl ⟨by rfl, ?_⟩) ?_
      rotate_left
      · intro w9
        go_simp
        with_reducible rfl
      refine wpAny_ready (rs := [0, 4]) (by kernel_rfl) (by simp) ?_
      refine AllReady.consS rfl (fun K hK => ?_) ?_
      · refine stp_load rfl 23 (.tmp 4) rfl w.heap.size 0 (stV s1) (stV s1) _ _ 2 rfl (d7.keep K0 (by simp)) rfl Try.underlying23 rfl zSt_size rfl ?_
        refine hK _ _ ?_
        clear hK K
        refine wpAny_ready (rs := [4]) (by kernel_rfl) (by simp) ?_
        refine AllReady.consS rfl (fun K hK => ?_) ?_
        · refine stp_load rfl 23 (.tmp 48) rfl m 1 (stoV p s0 (.slice none 0 0)) (stV s0) _ _ 2 rfl (h7.out.keep K0 (by simp)) rfl Try.underlying23 rfl zSt_size rfl ?_
          refine hK _ _ ?_
          clear hK K
          refine wpAny_take (i := 5) (v := ?_) rfl (by kernel_rfl) (by kernel_rfl) (by kernel_rfl) (fun _ _ _ h => h) (Or.inl ⟨by rfl, ?_⟩) ?_
          rotate_left
          · intro w9
            go_simp
            with_reducible rfl
          refine wpAny_done (by kernel_rfl) ?_ _
          go_wp2
          go_meet
          exact ⟨rfl, K0⟩
        exact AllReady.nil
      refine AllReady.consS rfl (fun K hK => ?_) ?_
      · refine stp_load rfl 23 (.tmp 48) rfl m 1 (stoV p s0 (.slice none 0 0)) (stV s0) _ _ 2 rfl (h7.out.keep K0 (by simp)) rfl Try.underlying23 rfl zSt_size rfl ?_
        refine hK _ _ ?_
        clear hK K
        refine wpAny_ready (rs := [0]) (by kernel_rfl) (by simp) ?_
        refine AllReady.consS rfl (fun K hK => ?_) ?_
        · refine stp_load rfl 23 (.tmp 4) rfl w.heap.size 0 (stV s1) (stV s1) _ _ 2 rfl (d7.keep K0 (by simp)) rfl Try.underlying23 rfl zSt_size rfl ?_
          refine hK _ _ ?_
          clear hK K
          refine wpAny_take (i := 5) (v := ?_) rfl (by kernel_rfl) (by kernel_rfl) (by kernel_rfl) (fun _ _ _ h => h) (Or.inl ⟨by rfl, ?_⟩) ?_
          rotate_left
          · intro w9
            go_simp
            with_reducible rfl
          refine wpAny_done (by kernel_rfl) ?_ _
          go_wp2
          go_meet
          exact ⟨rfl, K0⟩
        exact AllReady.nil
      exact AllReady.nil
    case rest =>
      rename World => w8
      obtain ⟨rfl, k8⟩ := hcut
      have d8 := d7.keep k8 (by simp)
      have kk8 := kk7.trans k8
      have h8 := Lib.hid (h7.out.keep k8 (by simp))
      have p8 := Lib.hid (p7.out.keepS k8 (by simp))
      clear d7 kk7 k8 h7 p7
      go_wp2_with (first | ((with_reducible refine wl_load 23 (.tmp 4) ?_ ?_); (with_reducible rfl); refine sx_loadW rfl 23 (.tmp 4) rfl w.heap.size (stV s1) _ _ 2 rfl d8 Try.underlying23 rfl zSt_size rfl ?_; (try simp only [Act.put, List.setIfInBounds_toArray, List.set_cons_zero, List.set_cons_succ])))
      refine (record_call s1 _).mono ?_
      rintro e w9 ⟨rfl, k9⟩
      have d9 := d8.keep k9 (by simp)
      have kk9 := kk8.trans k9
      have h9 := Lib.hid (h8.out.keep k9 (by simp))
      have p9 := Lib.hid (p8.out.keepS k9 (by simp))
      have s9 := kk9.size
      clear d8 kk8 k9 h8 p8
      generalize hrc : recF s1 = rc at *
      replace hrc := Lib.hid hrc
      go_wp2_with (at_builtin; refine wpList_app Rep.str rfl (.tmp 51) (.tmp 54) 35 9 _ 16 w9.heap.size rfl Try.underlying35 infoStrS rfl (by decide) (by decide) _ (.slice none 0 0) [] rc #[.string rc] rfl rfl (Own.nil _ _ _ _) ⟨rfl, by have := hrs.out; unfold M47; omega⟩ (by simp [Value.oneCell']) (by simp) (Nat.le_refl _) ?_; intro gg cap w10 ho10 hg10 hat10 hlt10 hlo10; have k10 : Keep [] w9 w10 := (Keep.refl _ _).grown hg10 (fun i hi => by simp [Value.ownBlock] at hi); clear hg10 hat10; replace ho10 := Lib.hid ho10; simp only [List.length_nil, Nat.zero_add, List.nil_append] at *)
      have d10 := d9.keep k10 (by simp)
      have kk10 := kk9.trans k10
      have h10 := Lib.hid (h9.out.keep k10 (by simp))
      have p10 := Lib.hid (p9.out.keepS k10 (by simp))
      have s10 := kk10.size
      clear d9 kk9 k10 h9 p9
      have hrow := (ho10.out.slice (by simp; unfold M47; omega)).str_at (i := 0) (by simp)
      obtain ⟨g', o', e', hcell, -⟩ := hrow
      cases e'
      replace hcell : w10.cell? ⟨gg, 0, none⟩ = some (.string rc) := hcell
      have hgp : gg ≠ p := by omega
      have hgm : gg ≠ m := by omega
      go_loopw [13, 58] (fun _ i wx => (i = .int .i64 0 ∧ Keep [] w10 wx) ∨ (i = .int .i64 1 ∧ Keep [p] w10 wx ∧ LogAt wx p ⟨⟨#[]⟩ ++ textF rc, 0, -1, false⟩)) (fun _ i _ => 1 - (intOf i).toNat)
      case atStart => exact .inl ⟨rfl, Keep.refl _ _⟩
      case round =>
        rename World => wx
        rcases hrel with ⟨rfl, kx⟩ | ⟨rfl, kx, px⟩
        · have hx := h10.out.keep kx (by simp)
          have cm : wx.cell? ⟨m, 0, none⟩ = some (.pointer (some ⟨p, 0, none⟩)) := Blk.cell hx 0
          have cg := kx.cell (by simp) hcell
          have px := p10.out.keepS kx (by simp)
          clear hx
          go_wp2_with fail
          refine (append_call p _ rc _ px (by decide) hrs.out (by decide)).mono ?_
          rw [hap.out]
          rintro e w12 ⟨rfl, h12, k12⟩
          go_wp2
          go_roundw
          case rel => exact .inr ⟨rfl, (kx.mono (by simp)).trans k12, h12⟩
          case measure => simp [intOf]
        · have hmp' : m ∉ [p] := by simpa using hmp.out
          have hx := Lib.hid (h10.out.keep kx hmp')
          have cm : wx.cell? ⟨m, 0, none⟩ = some (.pointer (some ⟨p, 0, none⟩)) := Blk.cell hx.out 0
          have dx := d10.keep kx (by simp; omega)
          have kkx : Keep [m, p] w wx := (kk10.mono (by simp)).trans (kx.mono (fun i _ hi => by simp at hi ⊢; simp [hi]))
          have hsx := Lib.hid (hsy.out (⟨#[]⟩ ++ textF rc))
          go_wp2_with fail
          refine (sync_call p _ _ px ⟨by show (-1 : Int) ≤ -1; decide, by show (-1 : Int) ≤ _; decide⟩).mono ?_
          rw [hsx.out]
          rintro e w13 ⟨rfl, -, k13⟩
          have h13 := Lib.hid (hx.out.keep k13 hmp')
          have d13 := dx.keep k13 (by simp; omega)
          have kk13 : Keep [m, p] w w13 := kkx.trans (k13.mono (fun i _ hi => by simp at hi ⊢; simp [hi]))
          have s13 := kk13.size
          clear hx cm dx kkx k13 px kx d10 kk10 h10 p10 hcell
          go_upto_region 23 with fail
          go_cut [] (fun wx => Blk wx m (stoV p s1 (.slice none 0 0)) 75 ∧ Keep [m, p] w wx)
          case first =>
            refine wp_region_any (by kernel_rfl) ?_
            (try (change wpAny _ _ _ _ _ _ _ (World.drew _)))
            have K0 : Keep [] w13 w13.drew := (Keep.refl [] w13).drew
            generalize World.drew w13 = u0 at *
            refine wpAny_take (i := 0) (v := ?_) rfl (by kernel_rfl) (by kernel_rfl) (by kernel_rfl) (fun _ _ _ h => h) (Or.inl ⟨by rfl, ?_⟩) ?_
            rotate_left
            · intro w9
              go_simp
              with_reducible rfl
            refine wpAny_take (i := 1) (v := ?_) rfl (by kernel_rfl) (by kernel_rfl) (by kernel_rfl) (fun _ _ _ h => h) (Or.inl ⟨by rfl, ?_⟩) ?_
            rotate_left
            · intro w9
              go_simp
              with_reducible rfl
            refine wpAny_take (i := 2) (v := ?_) rfl (by kernel_rfl) (by kernel_rfl) (by kernel_rfl) (fun _ _ _ h => h) (Or.inl ⟨by rfl, ?_⟩) ?_
            rotate_left
            · intro w9
              go_simp
              with_reducible rfl
            refine wpAny_take (i := 3) (v := ?_) rfl (by kernel_rfl) (by kernel_rfl) (by kernel_rfl) (fun _ _ _ h => h) (Or.inl ⟨by rfl, ?_⟩) ?_
            rotate_left
            · intro w9
              go_simp
              with_reducible rfl
            refine wpAny_ready (rs := [4, 5]) (by kernel_rfl) (by simp) ?_
            refine AllReady.consS rfl (fun K hK => ?_) ?_
            · refine stp_load rfl 23 (.tmp 86) rfl m 1 (stoV p s0 (.slice none 0 0)) (stV s0) _ _ 2 rfl (h13.out.keep K0 (by simp)) rfl Try.underlying23 rfl zSt_size rfl ?_
              refine hK _ _ ?_
              clear hK K
              refine wpAny_ready (rs := [5]) (by kernel_rfl) (by simp) ?_
              refine AllReady.consS rfl (fun K hK => ?_) ?_
              · refine stp_load rfl 23 (.tmp 4) rfl w.heap.size 0 (stV s1) (stV s1) _ _ 2 rfl (d13.keep K0 (by simp)) rfl Try.underlying23 rfl zSt_size rfl ?_
                refine hK _ _ ?_
                clear hK K
                refine wpAny_ready (rs := [6]) (by kernel_rfl) (by simp) ?_
                refine AllReady.consS rfl (fun K hK => ?_) ?_
                · refine Stp.mk ?_
                  go_simp
                  go_at_call 36
                  refine (greater_call s0 s1 _).mono ?_
                  rintro e u1 ⟨rfl, kN⟩
                  have K1 := K0.trans kN
                  clear kN
                  refine hK _ _ ?_
                  clear hK K
                  refine wpAny_take (i := 7) (v := ?_) rfl (by kernel_rfl) (by kernel_rfl) (by kernel_rfl) (fun _ _ _ h => h) (Or.inl ⟨by rfl, ?_⟩) ?_
                  rotate_left
                  · intro w9
                    go_simp
                    with_reducible rfl
                  refine wpAny_take (i := 8) (v := ?_) rfl (by kernel_rfl) (by kernel_rfl) (by kernel_rfl) (fun _ _ _ h => h) (Or.inl ⟨by rfl, ?_⟩) ?_
                  rotate_left
                  · intro w9
                    go_simp
                    with_reducible rfl
                  refine wpAny_ready (rs := [9]) (by kernel_rfl) (by simp) ?_
                  refine AllReady.consS rfl (fun K hK => ?_) ?_
                  · refine stp_store rfl 23 (.tmp 91) (.tmp 89) rfl m 1 (stV (gtF s0 s1)) (stoV p s0 (.slice none 0 0)) (stoV p s1 (.slice none 0 0)) _ rfl rfl (h13.out.keep K1 (by simp)) zSt_size (by simp) rfl (by rfl) ?_
                    intro u2 bN kN zN
                    clear zN
                    have K2 : Keep [m, p] w u2 := (kk13.trans (K1.mono (by simp))).trans (kN.mono (fun i _ hi => by simp at hi ⊢; simp [hi]))
                    have BB := bN
                    clear bN kN
                    refine hK _ _ ?_
                    clear hK K
                    refine wpAny_done (by kernel_rfl) ?_ _
                    go_wp2
                    go_meet
                    exact ⟨BB, K2⟩
                  exact AllReady.nil
                exact AllReady.nil
              exact AllReady.nil
            refine AllReady.consS rfl (fun K hK => ?_) ?_
            · refine stp_load rfl 23 (.tmp 4) rfl w.heap.size 0 (stV s1) (stV s1) _ _ 2 rfl (d13.keep K0 (by simp)) rfl Try.underlying23 rfl zSt_size rfl ?_
              refine hK _ _ ?_
              clear hK K
              refine wpAny_ready (rs := [4]) (by kernel_rfl) (by simp) ?_
              refine AllReady.consS rfl (fun K hK => ?_) ?_
              · refine stp_load rfl 23 (.tmp 86) rfl m 1 (stoV p s0 (.slice none 0 0)) (stV s0) _ _ 2 rfl (h13.out.keep K0 (by simp)) rfl Try.underlying23 rfl zSt_size rfl ?_
                refine hK _ _ ?_
                clear hK K
                refine wpAny_ready (rs := [6]) (by kernel_rfl) (by simp) ?_
                refine AllReady.consS rfl (fun K hK => ?_) ?_
                · refine Stp.mk ?_
                  go_simp
                  go_at_call 36
                  refine (greater_call s0 s1 _).mono ?_
                  rintro e u1 ⟨rfl, kN⟩
                  have K1 := K0.trans kN
                  clear kN
                  refine hK _ _ ?_
                  clear hK K
                  refine wpAny_take (i := 7) (v := ?_) rfl (by kernel_rfl) (by kernel_rfl) (by kernel_rfl) (fun _ _ _ h => h) (Or.inl ⟨by rfl, ?_⟩) ?_
                  rotate_left
                  · intro w9
                    go_simp
                    with_reducible rfl
                  refine wpAny_take (i := 8) (v := ?_) rfl (by kernel_rfl) (by kernel_rfl) (by kernel_rfl) (fun _ _ _ h => h) (Or.inl ⟨by rfl, ?_⟩) ?_
                  rotate_left
                  · intro w9
                    go_simp
                    with_reducible rfl
                  refine wpAny_ready (rs := [9]) (by kernel_rfl) (by simp) ?_
                  refine AllReady.consS rfl (fun K hK => ?_) ?_
                  · refine stp_store rfl 23 (.tmp 91) (.tmp 89) rfl m 1 (stV (gtF s0 s1)) (stoV p s0 (.slice none 0 0)) (stoV p s1 (.slice none 0 0)) _ rfl rfl (h13.out.keep K1 (by simp)) zSt_size (by simp) rfl (by rfl) ?_
                    intro u2 bN kN zN
                    clear zN
                    have K2 : Keep [m, p] w u2 := (kk13.trans (K1.mono (by simp))).trans (kN.mono (fun i _ hi => by simp at hi ⊢; simp [hi]))
                    have BB := bN
                    clear bN kN
                    refine hK _ _ ?_
                    clear hK K
                    refine wpAny_done (by kernel_rfl) ?_ _
                    go_wp2
                    go_meet
                    exact ⟨BB, K2⟩
                  exact AllReady.nil
                exact AllReady.nil
              exact AllReady.nil
            exact AllReady.nil
          case rest =>
            rename World => w14
            obtain ⟨b14, k14⟩ := hcut
            have c3 : w14.cell? ⟨m, 3, none⟩ = some (.slice none 0 0) := b14.cell 3
            have f3 := b14.frozen 3
            go_wp2
            go_ret
            refine ⟨rfl, ?_, k14.setCell _ _ (.inl (by simp))⟩
            have hz := b14.set 3 (.slice none 0 0)
            unfold StAt
            simpa using hz
end Go.Proofs.Ytdhhibppcckbkaa
