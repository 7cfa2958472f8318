import Derived.Test.YtpndbidpennlcaaQueue13
import Derived.Deep.DeepCutAuto
namespace Go.Proofs.Ytpndbidpennlcaa
open Go.RowKit
set_option linter.unusedVariables false
set_option linter.unusedSimpArgs false
set_option maxRecDepth 100000 in
set_option maxHeartbeats 32000000 in
theorem rpop_some (A B : Option Addr) (ca cb : Nat) (a b : List Ms) (d i : Int) (G : Nat → Prop) (w : World) (ha : SliceOf Rep.ms w G (.slice A a.length ca) a) (hb : SliceOf Rep.ms w G (.slice B b.length cb) b)
    (hG : ∀ i, G i → i < w.heap.size) (n p : Nat) (hn : a.length + b.length = n) (hn2 : n ≤ 128) (hp : Int.tmod (Int.tmod i n + n) n = (p : Int)) (hpn : p < n) :
    Calls Try.prog 17 #[.agg #[.slice A a.length ca, .slice B b.length cb, .int .i64 d], .int .i64 i] w fun e w' => ∃ v' v1 v2 v3 v4, e = .returned (.tuple #[v', .agg (msgV ((a ++ b)[p]'(by simp; omega)) v1 v2 v3 v4), .bool true]) ∧
      RqAt w' (fun i => G i ∨ w.heap.size ≤ i) v' (popR p a b).1 (popR p a b).2 d ∧ MsOk w' G ((a ++ b)[p]'(by simp; omega)) v1 v2 v3 v4 ∧ Keep [] w w' := by
  have hi0 : -(n : Int) < Int.tmod i n := Int.lt_tmod_of_pos i (by omega)
  have hi1 : Int.tmod i n < (n : Int) := Int.tmod_lt_of_pos i (by omega)
  have zw1 : (RowKit.wrap64 (Int.tmod i n + n)).tmod n = (p : Int) := by
    rw [show RowKit.wrap64 (Int.tmod i n + n) = Int.tmod i n + n by unfold RowKit.wrap64; omega, hp]
  clear hi0 hi1 hp
  have zn0 : ((n : Int) == 0) = false := by rw [beq_eq_false_iff_ne]; omega
  have zn1 : ¬ (n : Int) = 0 := by omega
  have hpz : (p : Int) < (n : Int) := by omega
  have hpz0 : (0 : Int) ≤ (p : Int) := by omega
  have hpl : p < (a ++ b).length := by simp; omega
  replace ha := Lib.hid ha
  replace hb := Lib.hid hb
  replace hG := Lib.hid hG
  have HN : Hid (a.length + b.length = n ∧ n ≤ 128 ∧ p < n) := Lib.hid ⟨hn, hn2, hpn⟩
  have HPL := Lib.hid hpl
  generalize hxx : (a ++ b)[p]'hpl = xx at *
  replace hxx := Lib.hid hxx
  clear hn hpn
  go_enter Try.func17, Try.ntmps17
  go_upto_region 1 with (first
    | ((with_reducible refine wl_box 53 (.tmp 0) ?_ ?_); (with_reducible rfl); refine sx_box rfl 53 (.tmp 0) rfl #[.slice A a.length ca, .slice B b.length cb, .int .i64 d] rfl ?_; intro w1 b1 k1 z1; clear z1; (try simp only [Act.put, List.setIfInBounds_toArray, List.set_cons_zero, List.set_cons_succ]))
    | ((with_reducible refine wl_alloc 53 ?_ ?_); (with_reducible rfl); refine sx_alloc rfl 53 rfl _ 3 zRq zRq_info rfl ?_; intro w2 b2 k2 z2; clear z2; (try simp only [Act.put, List.setIfInBounds_toArray, List.set_cons_zero, List.set_cons_succ]))
    | ((with_reducible refine wl_alloc 38 ?_ ?_); (with_reducible rfl); refine sx_alloc rfl 38 rfl _ 21 zMs zMs_info rfl ?_; intro w4 b4 k4 z4; clear z4; (try simp only [Act.put, List.setIfInBounds_toArray, List.set_cons_zero, List.set_cons_succ])))
  have C1 := (b1.keep k2 (by simp)).keep k4 (by simp)
  have C2 := b2.keep k4 (by simp)
  have kk4 := (k1.trans k2).trans k4
  have l1 := b1.lt
  have l2 := b2.lt
  have l4 := b4.lt
  have l0 : w.heap.size ≤ w2.heap.size := (k1.trans k2).size
  clear b1 b2 k1 k2 k4
  have y0 : w4.cell? ⟨w.heap.size, 0, none⟩ = some (.slice A a.length ca) := C1.cell 0
  have y1 : w4.cell? ⟨w.heap.size, 1, none⟩ = some (.slice B b.length cb) := C1.cell 1
  have ha4 := Lib.hid (ha.out.keep (kk4.at G (by simp)))
  have hb4 := Lib.hid (hb.out.keep (kk4.at G (by simp)))
  have hG4 : Hid (∀ k, G k → k < w4.heap.size) := Lib.hid (fun k hk => Nat.lt_of_lt_of_le (hG.out k hk) kk4.size)
  go_cut [7] (fun v wx => ∃ B2 p2, v = .slice B2 n p2 ∧ Hid (RowG Rep.ms 38 wx w4.heap.size G (.slice B2 n p2) (a ++ b)) ∧ Keep [] w4 wx)
  case first =>
    refine wp_region_any (by kernel_rfl) ?_
    (try (change wpAny _ _ _ _ _ _ _ (World.drew _)))
    have K0 : Keep [] w4 w4.drew := (Keep.refl [] w4).drew
    generalize World.drew w4 = u0 at *
    refine wpAny_take (i := 1) (v := ?_) rfl (by kernel_rfl) (by kernel_rfl) (by kernel_rfl) (fun _ _ _ h => h) (Or.inl ⟨by rfl, ?_⟩) ?_
    rotate_left
    · intro w9
      go_simp
      with_reducible rfl
    refine wpAny_take (i := 4) (v := ?_) rfl (by kernel_rfl) (by kernel_rfl) (by kernel_rfl) (fun _ _ _ h => h) (Or.inl ⟨by rfl, ?_⟩) ?_
    rotate_left
    · intro w9
      go_simp
      with_reducible rfl
    refine wpAny_ready (rs := [0, 2, 5]) (by kernel_rfl) (by simp) ?_
    refine AllReady.consS rfl (fun K hK => ?_) ?_
    · refine step_noneS rfl 51 38 rfl (.agg zMs) 21 272 Try.underlying51 infoMs ?_
      intro u1 bN kN zN
      clear zN
      have K1 := K0.trans kN
      have R1 : RowG Rep.ms 38 u1 w4.heap.size G (.slice (some ⟨u0.heap.size, 0, none⟩) 0 0) [] := RowG.empty _ _ _ _ _ _ bN K0.size
      replace R1 := Lib.hid R1
      clear bN kN
      refine hK _ _ ?_
      clear hK K
      refine wpAny_ready (rs := [2, 5]) (by kernel_rfl) (by simp) ?_
      refine AllReady.consS rfl (fun K hK => ?_) ?_
      · have cc := K1.cell (by simp) y0
        refine Stp.mk ?_
        go_simp
        clear cc
        refine hK _ _ ?_
        clear hK K
        refine wpAny_ready (rs := [3, 5]) (by kernel_rfl) (by simp) ?_
        refine AllReady.consS rfl (fun K hK => ?_) ?_
        · refine step_appMS rfl (.tmp 11) (.tmp 13) rfl w4.heap.size G (.slice (some ⟨u0.heap.size, 0, none⟩) 0 0) [] a A ca rfl rfl R1.out (SliceOf.reads (ha4.out.keep (K1.at G (by simp)))) hG4.out (by have := HN.out; simp; omega) K1.size ?_
          simp only [List.length_nil, Nat.zero_add, List.nil_append]
          intro B1 p1 u2 rN kN
          have K2 : Keep [] w4 u2 := K1.new kN (fun i hi => .inr (R1.out.lt i (by simpa using hi)).1)
          have R2 := Lib.hid rN
          clear rN kN
          refine hK _ _ ?_
          clear hK K
          refine wpAny_ready (rs := [5]) (by kernel_rfl) (by simp) ?_
          refine AllReady.consS rfl (fun K hK => ?_) ?_
          · have cc := K2.cell (by simp) y1
            refine Stp.mk ?_
            go_simp
            clear cc
            refine hK _ _ ?_
            clear hK K
            refine wpAny_ready (rs := [6]) (by kernel_rfl) (by simp) ?_
            refine AllReady.consS rfl (fun K hK => ?_) ?_
            · refine step_appMS rfl (.tmp 14) (.tmp 16) rfl w4.heap.size G (.slice B1 a.length p1) a b B cb rfl rfl R2.out (SliceOf.reads (hb4.out.keep (K2.at G (by simp)))) hG4.out (by have := HN.out; omega) K2.size ?_
              intro B2 p2 u3 rN kN
              have K3 : Keep [] w4 u3 := K2.new kN (fun i hi => .inr (R2.out.lt i (by simpa using hi)).1)
              have R3 := Lib.hid rN
              clear rN kN
              refine hK _ _ ?_
              clear hK K
              refine wpAny_ready (rs := [7]) (by kernel_rfl) (by simp) ?_
              refine AllReady.consS rfl (fun K hK => ?_) ?_
              · refine Stp.mk ?_
                go_simp
                refine hK _ _ ?_
                clear hK K
                refine wpAny_done (by kernel_rfl) ?_ _
                go_wp2
                go_meet
                exact ⟨B2, p2, by rw [HN.out.1], Lib.hid (by rw [← HN.out.1]; exact R3.out), K3⟩
              exact AllReady.nil
            exact AllReady.nil
          exact AllReady.nil
        refine AllReady.consS rfl (fun K hK => ?_) ?_
        · have cc := K1.cell (by simp) y1
          refine Stp.mk ?_
          go_simp
          clear cc
          refine hK _ _ ?_
          clear hK K
          refine wpAny_ready (rs := [3]) (by kernel_rfl) (by simp) ?_
          refine AllReady.consS rfl (fun K hK => ?_) ?_
          · refine step_appMS rfl (.tmp 11) (.tmp 13) rfl w4.heap.size G (.slice (some ⟨u0.heap.size, 0, none⟩) 0 0) [] a A ca rfl rfl R1.out (SliceOf.reads (ha4.out.keep (K1.at G (by simp)))) hG4.out (by have := HN.out; simp; omega) K1.size ?_
            simp only [List.length_nil, Nat.zero_add, List.nil_append]
            intro B1 p1 u2 rN kN
            have K2 : Keep [] w4 u2 := K1.new kN (fun i hi => .inr (R1.out.lt i (by simpa using hi)).1)
            have R2 := Lib.hid rN
            clear rN kN
            refine hK _ _ ?_
            clear hK K
            refine wpAny_ready (rs := [6]) (by kernel_rfl) (by simp) ?_
            refine AllReady.consS rfl (fun K hK => ?_) ?_
            · refine step_appMS rfl (.tmp 14) (.tmp 16) rfl w4.heap.size G (.slice B1 a.length p1) a b B cb rfl rfl R2.out (SliceOf.reads (hb4.out.keep (K2.at G (by simp)))) hG4.out (by have := HN.out; omega) K2.size ?_
              intro B2 p2 u3 rN kN
              have K3 : Keep [] w4 u3 := K2.new kN (fun i hi => .inr (R2.out.lt i (by simpa using hi)).1)
              have R3 := Lib.hid rN
              clear rN kN
              refine hK _ _ ?_
              clear hK K
              refine wpAny_ready (rs := [7]) (by kernel_rfl) (by simp) ?_
              refine AllReady.consS rfl (fun K hK => ?_) ?_
              · refine Stp.mk ?_
                go_simp
                refine hK _ _ ?_
                clear hK K
                refine wpAny_done (by kernel_rfl) ?_ _
                go_wp2
                go_meet
                exact ⟨B2, p2, by rw [HN.out.1], Lib.hid (by rw [← HN.out.1]; exact R3.out), K3⟩
              exact AllReady.nil
            exact AllReady.nil
          exact AllReady.nil
        exact AllReady.nil
      refine AllReady.consS rfl (fun K hK => ?_) ?_
      · have cc := K1.cell (by simp) y1
        refine Stp.mk ?_
        go_simp
        clear cc
        refine hK _ _ ?_
        clear hK K
        refine wpAny_ready (rs := [2]) (by kernel_rfl) (by simp) ?_
        refine AllReady.consS rfl (fun K hK => ?_) ?_
        · have cc := K1.cell (by simp) y0
          refine Stp.mk ?_
          go_simp
          clear cc
          refine hK _ _ ?_
          clear hK K
          refine wpAny_ready (rs := [3]) (by kernel_rfl) (by simp) ?_
          refine AllReady.consS rfl (fun K hK => ?_) ?_
          · refine step_appMS rfl (.tmp 11) (.tmp 13) rfl w4.heap.size G (.slice (some ⟨u0.heap.size, 0, none⟩) 0 0) [] a A ca rfl rfl R1.out (SliceOf.reads (ha4.out.keep (K1.at G (by simp)))) hG4.out (by have := HN.out; simp; omega) K1.size ?_
            simp only [List.length_nil, Nat.zero_add, List.nil_append]
            intro B1 p1 u2 rN kN
            have K2 : Keep [] w4 u2 := K1.new kN (fun i hi => .inr (R1.out.lt i (by simpa using hi)).1)
            have R2 := Lib.hid rN
            clear rN kN
            refine hK _ _ ?_
            clear hK K
            refine wpAny_ready (rs := [6]) (by kernel_rfl) (by simp) ?_
            refine AllReady.consS rfl (fun K hK => ?_) ?_
            · refine step_appMS rfl (.tmp 14) (.tmp 16) rfl w4.heap.size G (.slice B1 a.length p1) a b B cb rfl rfl R2.out (SliceOf.reads (hb4.out.keep (K2.at G (by simp)))) hG4.out (by have := HN.out; omega) K2.size ?_
              intro B2 p2 u3 rN kN
              have K3 : Keep [] w4 u3 := K2.new kN (fun i hi => .inr (R2.out.lt i (by simpa using hi)).1)
              have R3 := Lib.hid rN
              clear rN kN
              refine hK _ _ ?_
              clear hK K
              refine wpAny_ready (rs := [7]) (by kernel_rfl) (by simp) ?_
              refine AllReady.consS rfl (fun K hK => ?_) ?_
              · refine Stp.mk ?_
                go_simp
                refine hK _ _ ?_
                clear hK K
                refine wpAny_done (by kernel_rfl) ?_ _
                go_wp2
                go_meet
                exact ⟨B2, p2, by rw [HN.out.1], Lib.hid (by rw [← HN.out.1]; exact R3.out), K3⟩
              exact AllReady.nil
            exact AllReady.nil
          exact AllReady.nil
        exact AllReady.nil
      exact AllReady.nil
    refine AllReady.consS rfl (fun K hK => ?_) ?_
    · have cc := K0.cell (by simp) y0
      refine Stp.mk ?_
      go_simp
      clear cc
      refine hK _ _ ?_
      clear hK K
      refine wpAny_ready (rs := [0, 5]) (by kernel_rfl) (by simp) ?_
      refine AllReady.consS rfl (fun K hK => ?_) ?_
      · refine step_noneS rfl 51 38 rfl (.agg zMs) 21 272 Try.underlying51 infoMs ?_
        intro u1 bN kN zN
        clear zN
        have K1 := K0.trans kN
        have R1 : RowG Rep.ms 38 u1 w4.heap.size G (.slice (some ⟨u0.heap.size, 0, none⟩) 0 0) [] := RowG.empty _ _ _ _ _ _ bN K0.size
        replace R1 := Lib.hid R1
        clear bN kN
        refine hK _ _ ?_
        clear hK K
        refine wpAny_ready (rs := [3, 5]) (by kernel_rfl) (by simp) ?_
        refine AllReady.consS rfl (fun K hK => ?_) ?_
        · refine step_appMS rfl (.tmp 11) (.tmp 13) rfl w4.heap.size G (.slice (some ⟨u0.heap.size, 0, none⟩) 0 0) [] a A ca rfl rfl R1.out (SliceOf.reads (ha4.out.keep (K1.at G (by simp)))) hG4.out (by have := HN.out; simp; omega) K1.size ?_
          simp only [List.length_nil, Nat.zero_add, List.nil_append]
          intro B1 p1 u2 rN kN
          have K2 : Keep [] w4 u2 := K1.new kN (fun i hi => .inr (R1.out.lt i (by simpa using hi)).1)
          have R2 := Lib.hid rN
          clear rN kN
          refine hK _ _ ?_
          clear hK K
          refine wpAny_ready (rs := [5]) (by kernel_rfl) (by simp) ?_
          refine AllReady.consS rfl (fun K hK => ?_) ?_
          · have cc := K2.cell (by simp) y1
            refine Stp.mk ?_
            go_simp
            clear cc
            refine hK _ _ ?_
            clear hK K
            refine wpAny_ready (rs := [6]) (by kernel_rfl) (by simp) ?_
            refine AllReady.consS rfl (fun K hK => ?_) ?_
            · refine step_appMS rfl (.tmp 14) (.tmp 16) rfl w4.heap.size G (.slice B1 a.length p1) a b B cb rfl rfl R2.out (SliceOf.reads (hb4.out.keep (K2.at G (by simp)))) hG4.out (by have := HN.out; omega) K2.size ?_
              intro B2 p2 u3 rN kN
              have K3 : Keep [] w4 u3 := K2.new kN (fun i hi => .inr (R2.out.lt i (by simpa using hi)).1)
              have R3 := Lib.hid rN
              clear rN kN
              refine hK _ _ ?_
              clear hK K
              refine wpAny_ready (rs := [7]) (by kernel_rfl) (by simp) ?_
              refine AllReady.consS rfl (fun K hK => ?_) ?_
              · refine Stp.mk ?_
                go_simp
                refine hK _ _ ?_
                clear hK K
                refine wpAny_done (by kernel_rfl) ?_ _
                go_wp2
                go_meet
                exact ⟨B2, p2, by rw [HN.out.1], Lib.hid (by rw [← HN.out.1]; exact R3.out), K3⟩
              exact AllReady.nil
            exact AllReady.nil
          exact AllReady.nil
        refine AllReady.consS rfl (fun K hK => ?_) ?_
        · have cc := K1.cell (by simp) y1
          refine Stp.mk ?_
          go_simp
          clear cc
          refine hK _ _ ?_
          clear hK K
          refine wpAny_ready (rs := [3]) (by kernel_rfl) (by simp) ?_
          refine AllReady.consS rfl (fun K hK => ?_) ?_
          · refine step_appMS rfl (.tmp 11) (.tmp 13) rfl w4.heap.size G (.slice (some ⟨u0.heap.size, 0, none⟩) 0 0) [] a A ca rfl rfl R1.out (SliceOf.reads (ha4.out.keep (K1.at G (by simp)))) hG4.out (by have := HN.out; simp; omega) K1.size ?_
            simp only [List.length_nil, Nat.zero_add, List.nil_append]
            intro B1 p1 u2 rN kN
            have K2 : Keep [] w4 u2 := K1.new kN (fun i hi => .inr (R1.out.lt i (by simpa using hi)).1)
            have R2 := Lib.hid rN
            clear rN kN
            refine hK _ _ ?_
            clear hK K
            refine wpAny_ready (rs := [6]) (by kernel_rfl) (by simp) ?_
            refine AllReady.consS rfl (fun K hK => ?_) ?_
            · refine step_appMS rfl (.tmp 14) (.tmp 16) rfl w4.heap.size G (.slice B1 a.length p1) a b B cb rfl rfl R2.out (SliceOf.reads (hb4.out.keep (K2.at G (by simp)))) hG4.out (by have := HN.out; omega) K2.size ?_
              intro B2 p2 u3 rN kN
              have K3 : Keep [] w4 u3 := K2.new kN (fun i hi => .inr (R2.out.lt i (by simpa using hi)).1)
              have R3 := Lib.hid rN
              clear rN kN
              refine hK _ _ ?_
              clear hK K
              refine wpAny_ready (rs := [7]) (by kernel_rfl) (by simp) ?_
              refine AllReady.consS rfl (fun K hK => ?_) ?_
              · refine Stp.mk ?_
                go_simp
                refine hK _ _ ?_
                clear hK K
                refine wpAny_done (by kernel_rfl) ?_ _
                go_wp2
                go_meet
                exact ⟨B2, p2, by rw [HN.out.1], Lib.hid (by rw [← HN.out.1]; exact R3.out), K3⟩
              exact AllReady.nil
            exact AllReady.nil
          exact AllReady.nil
        exact AllReady.nil
      refine AllReady.consS rfl (fun K hK => ?_) ?_
      · have cc := K0.cell (by simp) y1
        refine Stp.mk ?_
        go_simp
        clear cc
        refine hK _ _ ?_
        clear hK K
        refine wpAny_ready (rs := [0]) (by kernel_rfl) (by simp) ?_
        refine AllReady.consS rfl (fun K hK => ?_) ?_
        · refine step_noneS rfl 51 38 rfl (.agg zMs) 21 272 Try.underlying51 infoMs ?_
          intro u1 bN kN zN
          clear zN
          have K1 := K0.trans kN
          have R1 : RowG Rep.ms 38 u1 w4.heap.size G (.slice (some ⟨u0.heap.size, 0, none⟩) 0 0) [] := RowG.empty _ _ _ _ _ _ bN K0.size
          replace R1 := Lib.hid R1
          clear bN kN
          refine hK _ _ ?_
          clear hK K
          refine wpAny_ready (rs := [3]) (by kernel_rfl) (by simp) ?_
          refine AllReady.consS rfl (fun K hK => ?_) ?_
          · refine step_appMS rfl (.tmp 11) (.tmp 13) rfl w4.heap.size G (.slice (some ⟨u0.heap.size, 0, none⟩) 0 0) [] a A ca rfl rfl R1.out (SliceOf.reads (ha4.out.keep (K1.at G (by simp)))) hG4.out (by have := HN.out; simp; omega) K1.size ?_
            simp only [List.length_nil, Nat.zero_add, List.nil_append]
            intro B1 p1 u2 rN kN
            have K2 : Keep [] w4 u2 := K1.new kN (fun i hi => .inr (R1.out.lt i (by simpa using hi)).1)
            have R2 := Lib.hid rN
            clear rN kN
            refine hK _ _ ?_
            clear hK K
            refine wpAny_ready (rs := [6]) (by kernel_rfl) (by simp) ?_
            refine AllReady.consS rfl (fun K hK => ?_) ?_
            · refine step_appMS rfl (.tmp 14) (.tmp 16) rfl w4.heap.size G (.slice B1 a.length p1) a b B cb rfl rfl R2.out (SliceOf.reads (hb4.out.keep (K2.at G (by simp)))) hG4.out (by have := HN.out; omega) K2.size ?_
              intro B2 p2 u3 rN kN
              have K3 : Keep [] w4 u3 := K2.new kN (fun i hi => .inr (R2.out.lt i (by simpa using hi)).1)
              have R3 := Lib.hid rN
              clear rN kN
              refine hK _ _ ?_
              clear hK K
              refine wpAny_ready (rs := [7]) (by kernel_rfl) (by simp) ?_
              refine AllReady.consS rfl (fun K hK => ?_) ?_
              · refine Stp.mk ?_
                go_simp
                refine hK _ _ ?_
                clear hK K
                refine wpAny_done (by kernel_rfl) ?_ _
                go_wp2
                go_meet
                exact ⟨B2, p2, by rw [HN.out.1], Lib.hid (by rw [← HN.out.1]; exact R3.out), K3⟩
              exact AllReady.nil
            exact AllReady.nil
          exact AllReady.nil
        exact AllReady.nil
      exact AllReady.nil
    refine AllReady.consS rfl (fun K hK => ?_) ?_
    · have cc := K0.cell (by simp) y1
      refine Stp.mk ?_
      go_simp
      clear cc
      refine hK _ _ ?_
      clear hK K
      refine wpAny_ready (rs := [0, 2]) (by kernel_rfl) (by simp) ?_
      refine AllReady.consS rfl (fun K hK => ?_) ?_
      · refine step_noneS rfl 51 38 rfl (.agg zMs) 21 272 Try.underlying51 infoMs ?_
        intro u1 bN kN zN
        clear zN
        have K1 := K0.trans kN
        have R1 : RowG Rep.ms 38 u1 w4.heap.size G (.slice (some ⟨u0.heap.size, 0, none⟩) 0 0) [] := RowG.empty _ _ _ _ _ _ bN K0.size
        replace R1 := Lib.hid R1
        clear bN kN
        refine hK _ _ ?_
        clear hK K
        refine wpAny_ready (rs := [2]) (by kernel_rfl) (by simp) ?_
        refine AllReady.consS rfl (fun K hK => ?_) ?_
        · have cc := K1.cell (by simp) y0
          refine Stp.mk ?_
          go_simp
          clear cc
          refine hK _ _ ?_
          clear hK K
          refine wpAny_ready (rs := [3]) (by kernel_rfl) (by simp) ?_
          refine AllReady.consS rfl (fun K hK => ?_) ?_
          · refine step_appMS rfl (.tmp 11) (.tmp 13) rfl w4.heap.size G (.slice (some ⟨u0.heap.size, 0, none⟩) 0 0) [] a A ca rfl rfl R1.out (SliceOf.reads (ha4.out.keep (K1.at G (by simp)))) hG4.out (by have := HN.out; simp; omega) K1.size ?_
            simp only [List.length_nil, Nat.zero_add, List.nil_append]
            intro B1 p1 u2 rN kN
            have K2 : Keep [] w4 u2 := K1.new kN (fun i hi => .inr (R1.out.lt i (by simpa using hi)).1)
            have R2 := Lib.hid rN
            clear rN kN
            refine hK _ _ ?_
            clear hK K
            refine wpAny_ready (rs := [6]) (by kernel_rfl) (by simp) ?_
            refine AllReady.consS rfl (fun K hK => ?_) ?_
            · refine step_appMS rfl (.tmp 14) (.tmp 16) rfl w4.heap.size G (.slice B1 a.length p1) a b B cb rfl rfl R2.out (SliceOf.reads (hb4.out.keep (K2.at G (by simp)))) hG4.out (by have := HN.out; omega) K2.size ?_
              intro B2 p2 u3 rN kN
              have K3 : Keep [] w4 u3 := K2.new kN (fun i hi => .inr (R2.out.lt i (by simpa using hi)).1)
              have R3 := Lib.hid rN
              clear rN kN
              refine hK _ _ ?_
              clear hK K
              refine wpAny_ready (rs := [7]) (by kernel_rfl) (by simp) ?_
              refine AllReady.consS rfl (fun K hK => ?_) ?_
              · refine Stp.mk ?_
                go_simp
                refine hK _ _ ?_
                clear hK K
                refine wpAny_done (by kernel_rfl) ?_ _
                go_wp2
                go_meet
                exact ⟨B2, p2, by rw [HN.out.1], Lib.hid (by rw [← HN.out.1]; exact R3.out), K3⟩
              exact AllReady.nil
            exact AllReady.nil
          exact AllReady.nil
        exact AllReady.nil
      refine AllReady.consS rfl (fun K hK => ?_) ?_
      · have cc := K0.cell (by simp) y0
        refine Stp.mk ?_
        go_simp
        clear cc
        refine hK _ _ ?_
        clear hK K
        refine wpAny_ready (rs := [0]) (by kernel_rfl) (by simp) ?_
        refine AllReady.consS rfl (fun K hK => ?_) ?_
        · refine step_noneS rfl 51 38 rfl (.agg zMs) 21 272 Try.underlying51 infoMs ?_
          intro u1 bN kN zN
          clear zN
          have K1 := K0.trans kN
          have R1 : RowG Rep.ms 38 u1 w4.heap.size G (.slice (some ⟨u0.heap.size, 0, none⟩) 0 0) [] := RowG.empty _ _ _ _ _ _ bN K0.size
          replace R1 := Lib.hid R1
          clear bN kN
          refine hK _ _ ?_
          clear hK K
          refine wpAny_ready (rs := [3]) (by kernel_rfl) (by simp) ?_
          refine AllReady.consS rfl (fun K hK => ?_) ?_
          · refine step_appMS rfl (.tmp 11) (.tmp 13) rfl w4.heap.size G (.slice (some ⟨u0.heap.size, 0, none⟩) 0 0) [] a A ca rfl rfl R1.out (SliceOf.reads (ha4.out.keep (K1.at G (by simp)))) hG4.out (by have := HN.out; simp; omega) K1.size ?_
            simp only [List.length_nil, Nat.zero_add, List.nil_append]
            intro B1 p1 u2 rN kN
            have K2 : Keep [] w4 u2 := K1.new kN (fun i hi => .inr (R1.out.lt i (by simpa using hi)).1)
            have R2 := Lib.hid rN
            clear rN kN
            refine hK _ _ ?_
            clear hK K
            refine wpAny_ready (rs := [6]) (by kernel_rfl) (by simp) ?_
            refine AllReady.consS rfl (fun K hK => ?_) ?_
            · refine step_appMS rfl (.tmp 14) (.tmp 16) rfl w4.heap.size G (.slice B1 a.length p1) a b B cb rfl rfl R2.out (SliceOf.reads (hb4.out.keep (K2.at G (by simp)))) hG4.out (by have := HN.out; omega) K2.size ?_
              intro B2 p2 u3 rN kN
              have K3 : Keep [] w4 u3 := K2.new kN (fun i hi => .inr (R2.out.lt i (by simpa using hi)).1)
              have R3 := Lib.hid rN
              clear rN kN
              refine hK _ _ ?_
              clear hK K
              refine wpAny_ready (rs := [7]) (by kernel_rfl) (by simp) ?_
              refine AllReady.consS rfl (fun K hK => ?_) ?_
              · refine Stp.mk ?_
                go_simp
                refine hK _ _ ?_
                clear hK K
                refine wpAny_done (by kernel_rfl) ?_ _
                go_wp2
                go_meet
                exact ⟨B2, p2, by rw [HN.out.1], Lib.hid (by rw [← HN.out.1]; exact R3.out), K3⟩
              exact AllReady.nil
            exact AllReady.nil
          exact AllReady.nil
        exact AllReady.nil
      exact AllReady.nil
    exact AllReady.nil
  case rest =>
    rename World => wA
    obtain ⟨B2, p2, rfl, rB, kB⟩ := hcut
    have lc := kB.size
    have D1 := C1.keep kB (by simp)
    have D2 := C2.keep kB (by simp)
    have D4 := b4.keep kB (by simp)
    have kk5 := kk4.trans kB
    clear C1 C2 b4 y0 y1 ha4 hb4 hG4
    have hGc : Hid (∀ k, G k → k < wA.heap.size) := Lib.hid (fun k hk => Nat.lt_of_lt_of_le (hG.out k hk) kk5.size)
    obtain ⟨g2, -, -, -, -, rfl, -⟩ := (by have := HN.out.1; rw [← HN.out.1] at rB; exact rB.out : RowG Rep.ms 38 wA w4.heap.size G (.slice B2 (a.length + b.length) p2) (a ++ b)).ms_at HPL.out
    have lg2 := (rB.out.lt g2 rfl).1
    have y0 : wA.cell? ⟨w.heap.size, 0, none⟩ = some (.slice A a.length ca) := D1.cell 0
    have y2 : wA.cell? ⟨w.heap.size, 2, none⟩ = some (.int .i64 d) := D1.cell 2
    go_wp2_with (first
      | ((with_reducible refine wl_build 53 _ ?_ ?_); (with_reducible rfl); refine sx_build rfl 53 _ rfl #[.slice none 0 0, .slice none 0 0, .int .i64 d] (by kernel_rfl) ?_; (try simp only [Act.put, List.setIfInBounds_toArray, List.set_cons_zero, List.set_cons_succ]))
      | ((with_reducible refine wl_alloc 53 ?_ ?_); (with_reducible rfl); refine sx_alloc rfl 53 rfl _ 3 zRq zRq_info rfl ?_; intro w5 b5 k5 z5; clear z5; (try simp only [Act.put, List.setIfInBounds_toArray, List.set_cons_zero, List.set_cons_succ]))
      | ((with_reducible refine wl_store 53 (.tmp 9) (.tmp 33) ?_ ?_); (with_reducible rfl); refine sx_storeW rfl 53 (.tmp 9) (.tmp 33) rfl wA.heap.size #[.slice none 0 0, .slice none 0 0, .int .i64 d] zRq _ 3 rfl rfl b5 zRq_size rfl rfl rfl ?_; intro w6 b6 k6 z6; clear z6; (try simp only [Act.put, List.setIfInBounds_toArray, List.set_cons_zero, List.set_cons_succ])))
    have k6' : Hid (Keep [] wA w6) := Lib.hid (k5.new k6 (fun i hi => .inr (by simp at hi; omega)))
    have X0 : Hid (XAt w6 wA.heap.size G [] [] d) := Lib.hid (XAt.begin b6)
    have lX : Hid (wA.heap.size < w6.heap.size) := Lib.hid b6.lt
    clear b5 b6 k5 k6 y2
    go_loopw [10] (fun i wr => ∃ k : Nat, k ≤ n ∧ i = .int .i64 k ∧ Hid (Keep [] wA wr) ∧ Hid (XAt wr wA.heap.size G (sel p a.length (a ++ b) k).1 (sel p a.length (a ++ b) k).2 d)) (fun i _ => n - (intOf i).toNat)
    case atStart => exact ⟨0, Nat.zero_le _, rfl, k6', X0⟩
    case round =>
      obtain ⟨k, hk, rfl, kk, hx⟩ := hrel
      clear k6' X0
      by_cases hlt : k < n
      · have hltz : (k : Int) < (n : Int) := by omega
        have hk0 : (0 : Int) ≤ (k : Int) := by omega
        by_cases hkp : k = p
        · have hxn := Lib.hid (sel_skip p a.length (a ++ b) k hkp)
          subst hkp
          go_wp2
          go_roundw
          case rel => exact ⟨k + 1, by omega, by go_num, kk, by rw [hxn.out]; exact hx⟩
          case measure => simp [intOf]; omega
        · have zkp : ((k : Int) == (p : Int)) = false := by rw [beq_eq_false_iff_ne]; omega
          have zkp1 : ¬ (k : Int) = (p : Int) := by omega
          replace hkp := Lib.hid hkp
          have hkl : k < (a ++ b).length := by have := HN.out; simp; omega
          obtain ⟨g3, m1, m2, m3, m4, e3, hr3, hm3⟩ := (by rw [← HN.out.1] at rB; exact rB.out : RowG Rep.ms 38 wA w4.heap.size G (.slice (some ⟨g2, 0, none⟩) (a.length + b.length) p2) (a ++ b)).ms_at hkl
          cases e3
          have y0r := kk.out.cell (by simp) y0
          by_cases hka : k < a.length
          · have hkaz : (k : Int) < (a.length : Int) := by omega
            have hxn := Lib.hid (sel_one p a.length (a ++ b) k hkp.out hkl hka)
            have hsl := sel_len p a.length (a ++ b) k
            generalize sel p a.length (a ++ b) k = st at *
            obtain ⟨s, t⟩ := st
            dsimp only at *
            generalize (a ++ b)[k]'hkl = y at *
            obtain ⟨A', B', c', e', hb', h1', h2', h3'⟩ := hx.out
            have yx : wr.cell? ⟨wA.heap.size, 0, none⟩ = some (.slice A' s.length c') := hb'.cell 0
            have lXr := hb'.lt
            replace hr3 := Lib.hid hr3
            replace hm3 := Lib.hid hm3
            replace hb' := Lib.hid hb'
            replace h1' := Lib.hid h1'
            replace h2' := Lib.hid h2'
            replace h3' := Lib.hid h3'
            clear hx hkl
            go_wp2_with fail
            refine wp_region_any (by kernel_rfl) ?_
            (try (change wpAny _ _ _ _ _ _ _ (World.drew _)))
            have K0 : Keep [] wr wr.drew := (Keep.refl [] wr).drew
            generalize World.drew wr = u0 at *
            refine wpAny_take (i := 0) (v := ?_) rfl (by kernel_rfl) (by kernel_rfl) (by kernel_rfl) (fun _ _ _ h => h) (Or.inl ⟨by rfl, ?_⟩) ?_
            rotate_left
            · intro w9
              go_simp
              with_reducible rfl
            refine wpAny_take (i := 2) (v := ?_) rfl (by kernel_rfl) (by kernel_rfl) (by kernel_rfl) (fun _ _ _ h => h) (Or.inl ⟨by rfl, ?_⟩) ?_
            rotate_left
            · intro w9
              go_simp
              with_reducible rfl
            refine wpAny_take (i := 3) (v := ?_) rfl (by kernel_rfl) (by kernel_rfl) (by kernel_rfl) (fun _ _ _ h => h) (Or.inl ⟨by rfl, ?_⟩) ?_
            rotate_left
            · intro w9
              go_simp
              with_reducible rfl
            refine wpAny_take (i := 4) (v := ?_) rfl (by kernel_rfl) (by kernel_rfl) (by kernel_rfl) (fun _ _ _ h => h) (Or.inl ⟨by rfl, ?_⟩) ?_
            rotate_left
            · intro w9
              go_simp
              with_reducible rfl
            refine wpAny_ready (rs := [1, 5]) (by kernel_rfl) (by simp) ?_
            refine AllReady.consS rfl (fun K hK => ?_) ?_
            · have cc := K0.cell (by simp) yx
              refine Stp.mk ?_
              go_simp
              clear cc
              refine hK _ _ ?_
              clear hK K
              refine wpAny_ready (rs := [5]) (by kernel_rfl) (by simp) ?_
              refine AllReady.consS rfl (fun K hK => ?_) ?_
              · refine step_loadMS rfl 38 (.tmp 51) rfl g2 (k * 21) (msgV y m1 m2 m3 m4) _ 21 rfl (fun j v hj => (kk.out.trans K0).cell (by simp) (hr3.out j v hj)) Try.underlying38 rfl zMs_size rfl ?_
                refine hK _ _ ?_
                clear hK K
                refine wpAny_ready (rs := [6]) (by kernel_rfl) (by simp) ?_
                refine AllReady.consS rfl (fun K hK => ?_) ?_
                · refine step_oneMS rfl (.tmp 52) rfl (msgV y m1 m2 m3 m4) rfl rfl ?_
                  intro u1 bN kN zN
                  clear zN
                  have K1 := K0.trans kN
                  have O1 := Lib.hid bN
                  clear bN kN
                  refine hK _ _ ?_
                  clear hK K
                  refine wpAny_ready (rs := [7]) (by kernel_rfl) (by simp) ?_
                  refine AllReady.consS rfl (fun K hK => ?_) ?_
                  · refine step_appM2S rfl (.tmp 48) (.tmp 53) rfl (wA.heap.size + 1) G (.slice A' s.length c') s [y] (some ⟨u0.heap.size, 0, none⟩) 1 rfl rfl (h1'.out.keep (fun k _ hl => K1.block k hl (by simp))) (reads_one O1.out ⟨_, _, _, _, rfl, hm3.out.keep ((kk.out.trans K1).at G (by simp))⟩) (fun k hk => Nat.lt_succ_of_lt (hGc.out k hk)) (by have := HN.out; simp; omega) (Nat.le_trans lXr K1.size) ?_
                    simp only [List.length_singleton]
                    intro B1 p1 u2 rN kN oN
                    refine hK _ _ ?_
                    clear hK K
                    refine wpAny_ready (rs := [8]) (by kernel_rfl) (by simp) ?_
                    refine AllReady.consS rfl (fun K hK => ?_) ?_
                    · refine Stp.mk ?_
                      go_simp
                      refine hK _ _ ?_
                      clear hK K
                      refine wpAny_ready (rs := [9]) (by kernel_rfl) (by simp) ?_
                      refine AllReady.consS rfl (fun K hK => ?_) ?_
                      · have DD := (hb'.out.keep K1 (by simp)).keep kN (fun hm => by have := ((h1'.out.keep (fun k _ hl => K1.block k hl (by simp)) : RowG Rep.ms 38 u1 _ _ _ _).lt _ (by simpa using hm)).1; omega)
                        have dc : u2.cell? ⟨wA.heap.size, 0, none⟩ = some (.slice A' s.length c') := DD.cell 0
                        have df := DD.frozen 0
                        clear DD
                        refine Stp.mk ?_
                        go_simp
                        refine hK _ _ ?_
                        clear hK K
                        refine wpAny_done (by kernel_rfl) ?_ _
                        have XX := Lib.hid (XAt.first (w := u1) (x := y) (Nat.lt_of_lt_of_le lXr K1.size) hGc.out (hb'.out.keep K1 (by simp)) (h1'.out.keep (fun k _ hl => K1.block k hl (by simp))) (h2'.out.keep (fun k _ hl => K1.block k hl (by simp))) h3'.out rN kN (oN.imp id (fun h => ⟨_, Nat.le_refl _, h⟩)))
                        have KE : Hid (Keep [] wA (u2.setCell ⟨wA.heap.size, 0, none⟩ (.slice B1 (s.length + 1) p1))) := Lib.hid (((kk.out.trans K1).new kN (fun i hi => .inr (by have := (h1'.out.lt i (by simpa using hi)).1; omega))).setCell _ _ (.inr (Nat.le_refl _)))
                        generalize u2.setCell ⟨wA.heap.size, 0, none⟩ (.slice B1 (s.length + 1) p1) = w9 at *
                        clear dc df rN kN oN
                        go_wp2
                        go_roundw
                        case rel => exact ⟨k + 1, by omega, by go_num, KE, by rw [hxn.out]; exact XX⟩
                        case measure => simp [intOf]; omega
                      exact AllReady.nil
                    exact AllReady.nil
                  exact AllReady.nil
                exact AllReady.nil
              exact AllReady.nil
            refine AllReady.consS rfl (fun K hK => ?_) ?_
            · refine step_loadMS rfl 38 (.tmp 51) rfl g2 (k * 21) (msgV y m1 m2 m3 m4) _ 21 rfl (fun j v hj => (kk.out.trans K0).cell (by simp) (hr3.out j v hj)) Try.underlying38 rfl zMs_size rfl ?_
              refine hK _ _ ?_
              clear hK K
              refine wpAny_ready (rs := [1, 6]) (by kernel_rfl) (by simp) ?_
              refine AllReady.consS rfl (fun K hK => ?_) ?_
              · have cc := K0.cell (by simp) yx
                refine Stp.mk ?_
                go_simp
                clear cc
                refine hK _ _ ?_
                clear hK K
                refine wpAny_ready (rs := [6]) (by kernel_rfl) (by simp) ?_
                refine AllReady.consS rfl (fun K hK => ?_) ?_
                · refine step_oneMS rfl (.tmp 52) rfl (msgV y m1 m2 m3 m4) rfl rfl ?_
                  intro u1 bN kN zN
                  clear zN
                  have K1 := K0.trans kN
                  have O1 := Lib.hid bN
                  clear bN kN
                  refine hK _ _ ?_
                  clear hK K
                  refine wpAny_ready (rs := [7]) (by kernel_rfl) (by simp) ?_
                  refine AllReady.consS rfl (fun K hK => ?_) ?_
                  · refine step_appM2S rfl (.tmp 48) (.tmp 53) rfl (wA.heap.size + 1) G (.slice A' s.length c') s [y] (some ⟨u0.heap.size, 0, none⟩) 1 rfl rfl (h1'.out.keep (fun k _ hl => K1.block k hl (by simp))) (reads_one O1.out ⟨_, _, _, _, rfl, hm3.out.keep ((kk.out.trans K1).at G (by simp))⟩) (fun k hk => Nat.lt_succ_of_lt (hGc.out k hk)) (by have := HN.out; simp; omega) (Nat.le_trans lXr K1.size) ?_
                    simp only [List.length_singleton]
                    intro B1 p1 u2 rN kN oN
                    refine hK _ _ ?_
                    clear hK K
                    refine wpAny_ready (rs := [8]) (by kernel_rfl) (by simp) ?_
                    refine AllReady.consS rfl (fun K hK => ?_) ?_
                    · refine Stp.mk ?_
                      go_simp
                      refine hK _ _ ?_
                      clear hK K
                      refine wpAny_ready (rs := [9]) (by kernel_rfl) (by simp) ?_
                      refine AllReady.consS rfl (fun K hK => ?_) ?_
                      · have DD := (hb'.out.keep K1 (by simp)).keep kN (fun hm => by have := ((h1'.out.keep (fun k _ hl => K1.block k hl (by simp)) : RowG Rep.ms 38 u1 _ _ _ _).lt _ (by simpa using hm)).1; omega)
                        have dc : u2.cell? ⟨wA.heap.size, 0, none⟩ = some (.slice A' s.length c') := DD.cell 0
                        have df := DD.frozen 0
                        clear DD
                        refine Stp.mk ?_
                        go_simp
                        refine hK _ _ ?_
                        clear hK K
                        refine wpAny_done (by kernel_rfl) ?_ _
                        have XX := Lib.hid (XAt.first (w := u1) (x := y) (Nat.lt_of_lt_of_le lXr K1.size) hGc.out (hb'.out.keep K1 (by simp)) (h1'.out.keep (fun k _ hl => K1.block k hl (by simp))) (h2'.out.keep (fun k _ hl => K1.block k hl (by simp))) h3'.out rN kN (oN.imp id (fun h => ⟨_, Nat.le_refl _, h⟩)))
                        have KE : Hid (Keep [] wA (u2.setCell ⟨wA.heap.size, 0, none⟩ (.slice B1 (s.length + 1) p1))) := Lib.hid (((kk.out.trans K1).new kN (fun i hi => .inr (by have := (h1'.out.lt i (by simpa using hi)).1; omega))).setCell _ _ (.inr (Nat.le_refl _)))
                        generalize u2.setCell ⟨wA.heap.size, 0, none⟩ (.slice B1 (s.length + 1) p1) = w9 at *
                        clear dc df rN kN oN
                        go_wp2
                        go_roundw
                        case rel => exact ⟨k + 1, by omega, by go_num, KE, by rw [hxn.out]; exact XX⟩
                        case measure => simp [intOf]; omega
                      exact AllReady.nil
                    exact AllReady.nil
                  exact AllReady.nil
                exact AllReady.nil
              refine AllReady.consS rfl (fun K hK => ?_) ?_
              · refine step_oneMS rfl (.tmp 52) rfl (msgV y m1 m2 m3 m4) rfl rfl ?_
                intro u1 bN kN zN
                clear zN
                have K1 := K0.trans kN
                have O1 := Lib.hid bN
                clear bN kN
                refine hK _ _ ?_
                clear hK K
                refine wpAny_ready (rs := [1]) (by kernel_rfl) (by simp) ?_
                refine AllReady.consS rfl (fun K hK => ?_) ?_
                · have cc := K1.cell (by simp) yx
                  refine Stp.mk ?_
                  go_simp
                  clear cc
                  refine hK _ _ ?_
                  clear hK K
                  refine wpAny_ready (rs := [7]) (by kernel_rfl) (by simp) ?_
                  refine AllReady.consS rfl (fun K hK => ?_) ?_
                  · refine step_appM2S rfl (.tmp 48) (.tmp 53) rfl (wA.heap.size + 1) G (.slice A' s.length c') s [y] (some ⟨u0.heap.size, 0, none⟩) 1 rfl rfl (h1'.out.keep (fun k _ hl => K1.block k hl (by simp))) (reads_one O1.out ⟨_, _, _, _, rfl, hm3.out.keep ((kk.out.trans K1).at G (by simp))⟩) (fun k hk => Nat.lt_succ_of_lt (hGc.out k hk)) (by have := HN.out; simp; omega) (Nat.le_trans lXr K1.size) ?_
                    simp only [List.length_singleton]
                    intro B1 p1 u2 rN kN oN
                    refine hK _ _ ?_
                    clear hK K
                    refine wpAny_ready (rs := [8]) (by kernel_rfl) (by simp) ?_
                    refine AllReady.consS rfl (fun K hK => ?_) ?_
                    · refine Stp.mk ?_
                      go_simp
                      refine hK _ _ ?_
                      clear hK K
                      refine wpAny_ready (rs := [9]) (by kernel_rfl) (by simp) ?_
                      refine AllReady.consS rfl (fun K hK => ?_) ?_
                      · have DD := (hb'.out.keep K1 (by simp)).keep kN (fun hm => by have := ((h1'.out.keep (fun k _ hl => K1.block k hl (by simp)) : RowG Rep.ms 38 u1 _ _ _ _).lt _ (by simpa using hm)).1; omega)
                        have dc : u2.cell? ⟨wA.heap.size, 0, none⟩ = some (.slice A' s.length c') := DD.cell 0
                        have df := DD.frozen 0
                        clear DD
                        refine Stp.mk ?_
                        go_simp
                        refine hK _ _ ?_
                        clear hK K
                        refine wpAny_done (by kernel_rfl) ?_ _
                        have XX := Lib.hid (XAt.first (w := u1) (x := y) (Nat.lt_of_lt_of_le lXr K1.size) hGc.out (hb'.out.keep K1 (by simp)) (h1'.out.keep (fun k _ hl => K1.block k hl (by simp))) (h2'.out.keep (fun k _ hl => K1.block k hl (by simp))) h3'.out rN kN (oN.imp id (fun h => ⟨_, Nat.le_refl _, h⟩)))
                        have KE : Hid (Keep [] wA (u2.setCell ⟨wA.heap.size, 0, none⟩ (.slice B1 (s.length + 1) p1))) := Lib.hid (((kk.out.trans K1).new kN (fun i hi => .inr (by have := (h1'.out.lt i (by simpa using hi)).1; omega))).setCell _ _ (.inr (Nat.le_refl _)))
                        generalize u2.setCell ⟨wA.heap.size, 0, none⟩ (.slice B1 (s.length + 1) p1) = w9 at *
                        clear dc df rN kN oN
                        go_wp2
                        go_roundw
                        case rel => exact ⟨k + 1, by omega, by go_num, KE, by rw [hxn.out]; exact XX⟩
                        case measure => simp [intOf]; omega
                      exact AllReady.nil
                    exact AllReady.nil
                  exact AllReady.nil
                exact AllReady.nil
              exact AllReady.nil
            exact AllReady.nil
          · have hkaz : ¬ (k : Int) < (a.length : Int) := by omega
            have hxn := Lib.hid (sel_two p a.length (a ++ b) k hkp.out hkl hka)
            have hsl := sel_len p a.length (a ++ b) k
            generalize sel p a.length (a ++ b) k = st at *
            obtain ⟨s, t⟩ := st
            dsimp only at *
            generalize (a ++ b)[k]'hkl = y at *
            obtain ⟨A', B', c', e', hb', h1', h2', h3'⟩ := hx.out
            have yx : wr.cell? ⟨wA.heap.size, 1, none⟩ = some (.slice B' t.length e') := hb'.cell 1
            have lXr := hb'.lt
            replace hr3 := Lib.hid hr3
            replace hm3 := Lib.hid hm3
            replace hb' := Lib.hid hb'
            replace h1' := Lib.hid h1'
            replace h2' := Lib.hid h2'
            replace h3' := Lib.hid h3'
            clear hx hkl
            go_wp2_with fail
            refine wp_region_any (by kernel_rfl) ?_
            (try (change wpAny _ _ _ _ _ _ _ (World.drew _)))
            have K0 : Keep [] wr wr.drew := (Keep.refl [] wr).drew
            generalize World.drew wr = u0 at *
            refine wpAny_take (i := 0) (v := ?_) rfl (by kernel_rfl) (by kernel_rfl) (by kernel_rfl) (fun _ _ _ h => h) (Or.inl ⟨by rfl, ?_⟩) ?_
            rotate_left
            · intro w9
              go_simp
              with_reducible rfl
            refine wpAny_take (i := 2) (v := ?_) rfl (by kernel_rfl) (by kernel_rfl) (by kernel_rfl) (fun _ _ _ h => h) (Or.inl ⟨by rfl, ?_⟩) ?_
            rotate_left
            · intro w9
              go_simp
              with_reducible rfl
            refine wpAny_take (i := 3) (v := ?_) rfl (by kernel_rfl) (by kernel_rfl) (by kernel_rfl) (fun _ _ _ h => h) (Or.inl ⟨by rfl, ?_⟩) ?_
            rotate_left
            · intro w9
              go_simp
              with_reducible rfl
            refine wpAny_take (i := 4) (v := ?_) rfl (by kernel_rfl) (by kernel_rfl) (by kernel_rfl) (fun _ _ _ h => h) (Or.inl ⟨by rfl, ?_⟩) ?_
            rotate_left
            · intro w9
              go_simp
              with_reducible rfl
            refine wpAny_ready (rs := [1, 5]) (by kernel_rfl) (by simp) ?_
            refine AllReady.consS rfl (fun K hK => ?_) ?_
            · have cc := K0.cell (by simp) yx
              refine Stp.mk ?_
              go_simp
              clear cc
              refine hK _ _ ?_
              clear hK K
              refine wpAny_ready (rs := [5]) (by kernel_rfl) (by simp) ?_
              refine AllReady.consS rfl (fun K hK => ?_) ?_
              · refine step_loadMS rfl 38 (.tmp 60) rfl g2 (k * 21) (msgV y m1 m2 m3 m4) _ 21 rfl (fun j v hj => (kk.out.trans K0).cell (by simp) (hr3.out j v hj)) Try.underlying38 rfl zMs_size rfl ?_
                refine hK _ _ ?_
                clear hK K
                refine wpAny_ready (rs := [6]) (by kernel_rfl) (by simp) ?_
                refine AllReady.consS rfl (fun K hK => ?_) ?_
                · refine step_oneMS rfl (.tmp 61) rfl (msgV y m1 m2 m3 m4) rfl rfl ?_
                  intro u1 bN kN zN
                  clear zN
                  have K1 := K0.trans kN
                  have O1 := Lib.hid bN
                  clear bN kN
                  refine hK _ _ ?_
                  clear hK K
                  refine wpAny_ready (rs := [7]) (by kernel_rfl) (by simp) ?_
                  refine AllReady.consS rfl (fun K hK => ?_) ?_
                  · refine step_appM2S rfl (.tmp 57) (.tmp 62) rfl (wA.heap.size + 1) G (.slice B' t.length e') t [y] (some ⟨u0.heap.size, 0, none⟩) 1 rfl rfl (h2'.out.keep (fun k _ hl => K1.block k hl (by simp))) (reads_one O1.out ⟨_, _, _, _, rfl, hm3.out.keep ((kk.out.trans K1).at G (by simp))⟩) (fun k hk => Nat.lt_succ_of_lt (hGc.out k hk)) (by have := HN.out; simp; omega) (Nat.le_trans lXr K1.size) ?_
                    simp only [List.length_singleton]
                    intro B1 p1 u2 rN kN oN
                    refine hK _ _ ?_
                    clear hK K
                    refine wpAny_ready (rs := [8]) (by kernel_rfl) (by simp) ?_
                    refine AllReady.consS rfl (fun K hK => ?_) ?_
                    · refine Stp.mk ?_
                      go_simp
                      refine hK _ _ ?_
                      clear hK K
                      refine wpAny_ready (rs := [9]) (by kernel_rfl) (by simp) ?_
                      refine AllReady.consS rfl (fun K hK => ?_) ?_
                      · have DD := (hb'.out.keep K1 (by simp)).keep kN (fun hm => by have := ((h2'.out.keep (fun k _ hl => K1.block k hl (by simp)) : RowG Rep.ms 38 u1 _ _ _ _).lt _ (by simpa using hm)).1; omega)
                        have dc : u2.cell? ⟨wA.heap.size, 1, none⟩ = some (.slice B' t.length e') := DD.cell 1
                        have df := DD.frozen 1
                        clear DD
                        refine Stp.mk ?_
                        go_simp
                        refine hK _ _ ?_
                        clear hK K
                        refine wpAny_done (by kernel_rfl) ?_ _
                        have XX := Lib.hid (XAt.second (w := u1) (x := y) (Nat.lt_of_lt_of_le lXr K1.size) hGc.out (hb'.out.keep K1 (by simp)) (h1'.out.keep (fun k _ hl => K1.block k hl (by simp))) (h2'.out.keep (fun k _ hl => K1.block k hl (by simp))) h3'.out rN kN (oN.imp id (fun h => ⟨_, Nat.le_refl _, h⟩)))
                        have KE : Hid (Keep [] wA (u2.setCell ⟨wA.heap.size, 1, none⟩ (.slice B1 (t.length + 1) p1))) := Lib.hid (((kk.out.trans K1).new kN (fun i hi => .inr (by have := (h2'.out.lt i (by simpa using hi)).1; omega))).setCell _ _ (.inr (Nat.le_refl _)))
                        generalize u2.setCell ⟨wA.heap.size, 1, none⟩ (.slice B1 (t.length + 1) p1) = w9 at *
                        clear dc df rN kN oN
                        go_wp2
                        go_roundw
                        case rel => exact ⟨k + 1, by omega, by go_num, KE, by rw [hxn.out]; exact XX⟩
                        case measure => simp [intOf]; omega
                      exact AllReady.nil
                    exact AllReady.nil
                  exact AllReady.nil
                exact AllReady.nil
              exact AllReady.nil
            refine AllReady.consS rfl (fun K hK => ?_) ?_
            · refine step_loadMS rfl 38 (.tmp 60) rfl g2 (k * 21) (msgV y m1 m2 m3 m4) _ 21 rfl (fun j v hj => (kk.out.trans K0).cell (by simp) (hr3.out j v hj)) Try.underlying38 rfl zMs_size rfl ?_
              refine hK _ _ ?_
              clear hK K
              refine wpAny_ready (rs := [1, 6]) (by kernel_rfl) (by simp) ?_
              refine AllReady.consS rfl (fun K hK => ?_) ?_
              · have cc := K0.cell (by simp) yx
                refine Stp.mk ?_
                go_simp
                clear cc
                refine hK _ _ ?_
                clear hK K
                refine wpAny_ready (rs := [6]) (by kernel_rfl) (by simp) ?_
                refine AllReady.consS rfl (fun K hK => ?_) ?_
                · refine step_oneMS rfl (.tmp 61) rfl (msgV y m1 m2 m3 m4) rfl rfl ?_
                  intro u1 bN kN zN
                  clear zN
                  have K1 := K0.trans kN
                  have O1 := Lib.hid bN
                  clear bN kN
                  refine hK _ _ ?_
                  clear hK K
                  refine wpAny_ready (rs := [7]) (by kernel_rfl) (by simp) ?_
                  refine AllReady.consS rfl (fun K hK => ?_) ?_
                  · refine step_appM2S rfl (.tmp 57) (.tmp 62) rfl (wA.heap.size + 1) G (.slice B' t.length e') t [y] (some ⟨u0.heap.size, 0, none⟩) 1 rfl rfl (h2'.out.keep (fun k _ hl => K1.block k hl (by simp))) (reads_one O1.out ⟨_, _, _, _, rfl, hm3.out.keep ((kk.out.trans K1).at G (by simp))⟩) (fun k hk => Nat.lt_succ_of_lt (hGc.out k hk)) (by have := HN.out; simp; omega) (Nat.le_trans lXr K1.size) ?_
                    simp only [List.length_singleton]
                    intro B1 p1 u2 rN kN oN
                    refine hK _ _ ?_
                    clear hK K
                    refine wpAny_ready (rs := [8]) (by kernel_rfl) (by simp) ?_
                    refine AllReady.consS rfl (fun K hK => ?_) ?_
                    · refine Stp.mk ?_
                      go_simp
                      refine hK _ _ ?_
                      clear hK K
                      refine wpAny_ready (rs := [9]) (by kernel_rfl) (by simp) ?_
                      refine AllReady.consS rfl (fun K hK => ?_) ?_
                      · have DD := (hb'.out.keep K1 (by simp)).keep kN (fun hm => by have := ((h2'.out.keep (fun k _ hl => K1.block k hl (by simp)) : RowG Rep.ms 38 u1 _ _ _ _).lt _ (by simpa using hm)).1; omega)
                        have dc : u2.cell? ⟨wA.heap.size, 1, none⟩ = some (.slice B' t.length e') := DD.cell 1
                        have df := DD.frozen 1
                        clear DD
                        refine Stp.mk ?_
                        go_simp
                        refine hK _ _ ?_
                        clear hK K
                        refine wpAny_done (by kernel_rfl) ?_ _
                        have XX := Lib.hid (XAt.second (w := u1) (x := y) (Nat.lt_of_lt_of_le lXr K1.size) hGc.out (hb'.out.keep K1 (by simp)) (h1'.out.keep (fun k _ hl => K1.block k hl (by simp))) (h2'.out.keep (fun k _ hl => K1.block k hl (by simp))) h3'.out rN kN (oN.imp id (fun h => ⟨_, Nat.le_refl _, h⟩)))
                        have KE : Hid (Keep [] wA (u2.setCell ⟨wA.heap.size, 1, none⟩ (.slice B1 (t.length + 1) p1))) := Lib.hid (((kk.out.trans K1).new kN (fun i hi => .inr (by have := (h2'.out.lt i (by simpa using hi)).1; omega))).setCell _ _ (.inr (Nat.le_refl _)))
                        generalize u2.setCell ⟨wA.heap.size, 1, none⟩ (.slice B1 (t.length + 1) p1) = w9 at *
                        clear dc df rN kN oN
                        go_wp2
                        go_roundw
                        case rel => exact ⟨k + 1, by omega, by go_num, KE, by rw [hxn.out]; exact XX⟩
                        case measure => simp [intOf]; omega
                      exact AllReady.nil
                    exact AllReady.nil
                  exact AllReady.nil
                exact AllReady.nil
              refine AllReady.consS rfl (fun K hK => ?_) ?_
              · refine step_oneMS rfl (.tmp 61) rfl (msgV y m1 m2 m3 m4) rfl rfl ?_
                intro u1 bN kN zN
                clear zN
                have K1 := K0.trans kN
                have O1 := Lib.hid bN
                clear bN kN
                refine hK _ _ ?_
                clear hK K
                refine wpAny_ready (rs := [1]) (by kernel_rfl) (by simp) ?_
                refine AllReady.consS rfl (fun K hK => ?_) ?_
                · have cc := K1.cell (by simp) yx
                  refine Stp.mk ?_
                  go_simp
                  clear cc
                  refine hK _ _ ?_
                  clear hK K
                  refine wpAny_ready (rs := [7]) (by kernel_rfl) (by simp) ?_
                  refine AllReady.consS rfl (fun K hK => ?_) ?_
                  · refine step_appM2S rfl (.tmp 57) (.tmp 62) rfl (wA.heap.size + 1) G (.slice B' t.length e') t [y] (some ⟨u0.heap.size, 0, none⟩) 1 rfl rfl (h2'.out.keep (fun k _ hl => K1.block k hl (by simp))) (reads_one O1.out ⟨_, _, _, _, rfl, hm3.out.keep ((kk.out.trans K1).at G (by simp))⟩) (fun k hk => Nat.lt_succ_of_lt (hGc.out k hk)) (by have := HN.out; simp; omega) (Nat.le_trans lXr K1.size) ?_
                    simp only [List.length_singleton]
                    intro B1 p1 u2 rN kN oN
                    refine hK _ _ ?_
                    clear hK K
                    refine wpAny_ready (rs := [8]) (by kernel_rfl) (by simp) ?_
                    refine AllReady.consS rfl (fun K hK => ?_) ?_
                    · refine Stp.mk ?_
                      go_simp
                      refine hK _ _ ?_
                      clear hK K
                      refine wpAny_ready (rs := [9]) (by kernel_rfl) (by simp) ?_
                      refine AllReady.consS rfl (fun K hK => ?_) ?_
                      · have DD := (hb'.out.keep K1 (by simp)).keep kN (fun hm => by have := ((h2'.out.keep (fun k _ hl => K1.block k hl (by simp)) : RowG Rep.ms 38 u1 _ _ _ _).lt _ (by simpa using hm)).1; omega)
                        have dc : u2.cell? ⟨wA.heap.size, 1, none⟩ = some (.slice B' t.length e') := DD.cell 1
                        have df := DD.frozen 1
                        clear DD
                        refine Stp.mk ?_
                        go_simp
                        refine hK _ _ ?_
                        clear hK K
                        refine wpAny_done (by kernel_rfl) ?_ _
                        have XX := Lib.hid (XAt.second (w := u1) (x := y) (Nat.lt_of_lt_of_le lXr K1.size) hGc.out (hb'.out.keep K1 (by simp)) (h1'.out.keep (fun k _ hl => K1.block k hl (by simp))) (h2'.out.keep (fun k _ hl => K1.block k hl (by simp))) h3'.out rN kN (oN.imp id (fun h => ⟨_, Nat.le_refl _, h⟩)))
                        have KE : Hid (Keep [] wA (u2.setCell ⟨wA.heap.size, 1, none⟩ (.slice B1 (t.length + 1) p1))) := Lib.hid (((kk.out.trans K1).new kN (fun i hi => .inr (by have := (h2'.out.lt i (by simpa using hi)).1; omega))).setCell _ _ (.inr (Nat.le_refl _)))
                        generalize u2.setCell ⟨wA.heap.size, 1, none⟩ (.slice B1 (t.length + 1) p1) = w9 at *
                        clear dc df rN kN oN
                        go_wp2
                        go_roundw
                        case rel => exact ⟨k + 1, by omega, by go_num, KE, by rw [hxn.out]; exact XX⟩
                        case measure => simp [intOf]; omega
                      exact AllReady.nil
                    exact AllReady.nil
                  exact AllReady.nil
                exact AllReady.nil
              exact AllReady.nil
            exact AllReady.nil
      · have hltz : ¬ (k : Int) < (n : Int) := by omega
        obtain rfl : k = n := by omega
        have hsl : (popR p a b).1.length ≤ 1000000 ∧ (popR p a b).2.length ≤ 1000000 := by have h := sel_len p a.length (a ++ b) k; rw [sel_end p a b k HN.out.1] at h; omega
        rw [sel_end p a b k HN.out.1] at hx
        generalize hst : popR p a b = st at *
        obtain ⟨s, t⟩ := st
        replace hst := Lib.hid hst
        dsimp only at *
        obtain ⟨g3, m1, m2, m3, m4, e3, hr3, hm3⟩ := (by rw [← HN.out.1] at rB; exact rB.out : RowG Rep.ms 38 wA w4.heap.size G (.slice (some ⟨g2, 0, none⟩) (a.length + b.length) p2) (a ++ b)).ms_at HPL.out
        cases e3
        rw [hxx.out] at hr3 hm3
        obtain ⟨A1, c1, rfl, -⟩ := hm3.bs.form
        obtain ⟨A2, c2, rfl, -⟩ := hm3.bq.form
        obtain ⟨A3, c3, rfl, -⟩ := hm3.cs.form
        obtain ⟨A4, c4, rfl, -⟩ := hm3.st.form
        obtain ⟨A', B', c', e', hb', h1', h2', h3'⟩ := hx.out
        have lXr := hb'.lt
        have F2 := Lib.hid (D2.keep kk.out (by simp))
        have F4 := Lib.hid (D4.keep kk.out (by simp))
        have f2 : w1.heap.size < w2.heap.size := l2
        have f4 : w2.heap.size < wA.heap.size := D4.lt
        have kwr := Lib.hid (kk5.trans kk.out)
        replace hr3 := Lib.hid hr3
        replace hm3 := Lib.hid hm3
        replace hb' := Lib.hid hb'
        replace h1' := Lib.hid h1'
        replace h2' := Lib.hid h2'
        clear hx h3' D1 D2 D4 y0
        go_upto_region 14 with fail
        go_cut [6] (fun v wx => v = .bool true ∧ Hid (Blk wx w1.heap.size #[.slice A' s.length c', .slice B' t.length e', .int .i64 d] 53) ∧ Hid (Blk wx w2.heap.size (msgV xx (.slice A1 xx.b.j.sg.length c1) (.slice A2 xx.b.q.length c2) (.slice A3 xx.c.sg.length c3) (.slice A4 xx.s.ts.length c4)) 38) ∧ Keep [] w wx ∧ Keep [w1.heap.size, w2.heap.size] wr wx)
        case rest =>
          obtain ⟨rfl, Q2', Q4, KW, KR⟩ := hcut
          go_wp2_with fail
          refine ret_cell3 rfl rfl rfl Q2'.out Try.underlying53 rfl zRq_size rfl Q4.out Try.underlying38 rfl zMs_size _ rfl ?_
          have nb : ∀ k, (k ∈ [w1.heap.size, w2.heap.size]) → wA.heap.size + 1 ≤ k → False := fun k hk h => by simp at hk; omega
          have ng : ∀ k, (k ∈ [w1.heap.size, w2.heap.size]) → G k → False := fun k hk h => by have := hG.out k h; simp at hk; omega
          have S1 := ((h1'.out.keep (fun k hk hl => KR.block k hl (fun hm => hk.elim (fun h => nb k hm (h1'.out.lt k h).1) (ng k hm)))).slice (by unfold M47; omega)).mono (G := fun i => G i ∨ w.heap.size ≤ i) (fun i hi _ => hi.imp id (fun h => by have := (h1'.out.lt i h).1; omega))
          have S2 := ((h2'.out.keep (fun k hk hl => KR.block k hl (fun hm => hk.elim (fun h => nb k hm (h2'.out.lt k h).1) (ng k hm)))).slice (by unfold M47; omega)).mono (G := fun i => G i ∨ w.heap.size ≤ i) (fun i hi _ => hi.imp id (fun h => by have := (h2'.out.lt i h).1; omega))
          rw [hst.out]
          exact ⟨_, _, _, _, _, rfl, ⟨A', B', c', e', rfl, S1, S2⟩, (hm3.out.keep (kk.out.at G (by simp))).keep (KR.at G (fun i hi h => ng i hi h)), KW⟩
        case first =>
        skip
        refine wp_region_any (by kernel_rfl) ?_
        (try (change wpAny _ _ _ _ _ _ _ (World.drew _)))
        have K0 : Keep [] wr wr.drew := (Keep.refl [] wr).drew
        have S0 : wr.heap.size ≤ wr.drew.heap.size := K0.size
        generalize World.drew wr = u0 at *
        refine wpAny_take (i := 1) (v := ?_) rfl (by kernel_rfl) (by kernel_rfl) (by kernel_rfl) (fun _ _ _ h => h) (Or.inl ⟨by rfl, ?_⟩) ?_
        rotate_left
        · intro w9
          go_simp
          with_reducible rfl
        refine wpAny_take (i := 2) (v := ?_) rfl (by kernel_rfl) (by kernel_rfl) (by kernel_rfl) (fun _ _ _ h => h) (Or.inl ⟨by rfl, ?_⟩) ?_
        rotate_left
        · intro w9
          go_simp
          with_reducible rfl
        refine wpAny_take (i := 3) (v := ?_) rfl (by kernel_rfl) (by kernel_rfl) (by kernel_rfl) (fun _ _ _ h => h) (Or.inl ⟨by rfl, ?_⟩) ?_
        rotate_left
        · intro w9
          go_simp
          with_reducible rfl
        refine wpAny_ready (rs := [0, 4]) (by kernel_rfl) (by simp) ?_
        refine AllReady.consS rfl (fun K hK => ?_) ?_
        · refine step_loadMS rfl 53 (.tmp 9) rfl wA.heap.size 0 #[.slice A' s.length c', .slice B' t.length e', .int .i64 d] _ 3 rfl (fun j v hj => by rw [Nat.zero_add, (hb'.out.keep K0 (by simp)).cell]; exact hj) Try.underlying53 rfl zRq_size rfl ?_
          refine hK _ _ ?_
          clear hK K
          refine wpAny_ready (rs := [4, 5]) (by kernel_rfl) (by simp) ?_
          refine AllReady.consS rfl (fun K hK => ?_) ?_
          · refine step_loadMS rfl 38 (.tmp 68) rfl g2 (p * 21) (msgV xx (.slice A1 xx.b.j.sg.length c1) (.slice A2 xx.b.q.length c2) (.slice A3 xx.c.sg.length c3) (.slice A4 xx.s.ts.length c4)) _ 21 rfl (fun j v hj => K0.cell (by simp) (kk.out.cell (by simp) (hr3.out j v hj))) Try.underlying38 rfl zMs_size rfl ?_
            refine hK _ _ ?_
            clear hK K
            refine wpAny_ready (rs := [5]) (by kernel_rfl) (by simp) ?_
            refine AllReady.consS rfl (fun K hK => ?_) ?_
            · refine step_storeMS rfl 53 (.tmp 4) (.tmp 65) rfl w1.heap.size #[.slice A' s.length c', .slice B' t.length e', .int .i64 d] zRq _ 3 rfl rfl (F2.out.keep K0 (by simp)) zRq_size rfl rfl rfl ?_
              intro u1 bN kN zN
              clear zN
              have K1 : Keep [w1.heap.size] wr u1 := (K0.mono (by simp)).trans kN
              have Q2 := Lib.hid bN
              clear bN kN
              refine hK _ _ ?_
              clear hK K
              refine wpAny_ready (rs := [6]) (by kernel_rfl) (by simp) ?_
              refine AllReady.consS rfl (fun K hK => ?_) ?_
              · refine step_storeMS rfl 38 (.tmp 5) (.tmp 69) rfl w2.heap.size (msgV xx (.slice A1 xx.b.j.sg.length c1) (.slice A2 xx.b.q.length c2) (.slice A3 xx.c.sg.length c3) (.slice A4 xx.s.ts.length c4)) zMs _ 21 rfl rfl (F4.out.keep K1 (by simp; omega)) zMs_size rfl rfl rfl ?_
                intro u2 bN kN zN
                clear zN
                have Q2' := Lib.hid (Q2.out.keep kN (by simp; omega))
                have KW : Keep [] w u2 := (kwr.out.new K1 (fun i hi => .inr (by simp at hi; omega))).new kN (fun i hi => .inr (by simp at hi; omega))
                have KR : Keep [w1.heap.size, w2.heap.size] wr u2 := (K1.mono (fun i _ hi => by simp at hi ⊢; simp [hi])).trans (kN.mono (fun i _ hi => by simp at hi ⊢; simp [hi]))
                have Q4 := Lib.hid bN
                clear bN kN
                refine hK _ _ ?_
                clear hK K
                refine wpAny_ready (rs := [7]) (by kernel_rfl) (by simp) ?_
                refine AllReady.consS rfl (fun K hK => ?_) ?_
                · refine Stp.mk ?_
                  go_simp
                  refine hK _ _ ?_
                  clear hK K
                  refine wpAny_done (by kernel_rfl) ?_ _
                  go_wp2
                  go_meet
                  exact ⟨rfl, Q2', Q4, KW, KR⟩
                exact AllReady.nil
              exact AllReady.nil
            exact AllReady.nil
          refine AllReady.consS rfl (fun K hK => ?_) ?_
          · refine step_storeMS rfl 53 (.tmp 4) (.tmp 65) rfl w1.heap.size #[.slice A' s.length c', .slice B' t.length e', .int .i64 d] zRq _ 3 rfl rfl (F2.out.keep K0 (by simp)) zRq_size rfl rfl rfl ?_
            intro u1 bN kN zN
            clear zN
            have K1 : Keep [w1.heap.size] wr u1 := (K0.mono (by simp)).trans kN
            have Q2 := Lib.hid bN
            clear bN kN
            refine hK _ _ ?_
            clear hK K
            refine wpAny_ready (rs := [4]) (by kernel_rfl) (by simp) ?_
            refine AllReady.consS rfl (fun K hK => ?_) ?_
            · refine step_loadMS rfl 38 (.tmp 68) rfl g2 (p * 21) (msgV xx (.slice A1 xx.b.j.sg.length c1) (.slice A2 xx.b.q.length c2) (.slice A3 xx.c.sg.length c3) (.slice A4 xx.s.ts.length c4)) _ 21 rfl (fun j v hj => K1.cell (by simp; omega) (kk.out.cell (by simp) (hr3.out j v hj))) Try.underlying38 rfl zMs_size rfl ?_
              refine hK _ _ ?_
              clear hK K
              refine wpAny_ready (rs := [6]) (by kernel_rfl) (by simp) ?_
              refine AllReady.consS rfl (fun K hK => ?_) ?_
              · refine step_storeMS rfl 38 (.tmp 5) (.tmp 69) rfl w2.heap.size (msgV xx (.slice A1 xx.b.j.sg.length c1) (.slice A2 xx.b.q.length c2) (.slice A3 xx.c.sg.length c3) (.slice A4 xx.s.ts.length c4)) zMs _ 21 rfl rfl (F4.out.keep K1 (by simp; omega)) zMs_size rfl rfl rfl ?_
                intro u2 bN kN zN
                clear zN
                have Q2' := Lib.hid (Q2.out.keep kN (by simp; omega))
                have KW : Keep [] w u2 := (kwr.out.new K1 (fun i hi => .inr (by simp at hi; omega))).new kN (fun i hi => .inr (by simp at hi; omega))
                have KR : Keep [w1.heap.size, w2.heap.size] wr u2 := (K1.mono (fun i _ hi => by simp at hi ⊢; simp [hi])).trans (kN.mono (fun i _ hi => by simp at hi ⊢; simp [hi]))
                have Q4 := Lib.hid bN
                clear bN kN
                refine hK _ _ ?_
                clear hK K
                refine wpAny_ready (rs := [7]) (by kernel_rfl) (by simp) ?_
                refine AllReady.consS rfl (fun K hK => ?_) ?_
                · refine Stp.mk ?_
                  go_simp
                  refine hK _ _ ?_
                  clear hK K
                  refine wpAny_done (by kernel_rfl) ?_ _
                  go_wp2
                  go_meet
                  exact ⟨rfl, Q2', Q4, KW, KR⟩
                exact AllReady.nil
              exact AllReady.nil
            exact AllReady.nil
          exact AllReady.nil
        refine AllReady.consS rfl (fun K hK => ?_) ?_
        · refine step_loadMS rfl 38 (.tmp 68) rfl g2 (p * 21) (msgV xx (.slice A1 xx.b.j.sg.length c1) (.slice A2 xx.b.q.length c2) (.slice A3 xx.c.sg.length c3) (.slice A4 xx.s.ts.length c4)) _ 21 rfl (fun j v hj => K0.cell (by simp) (kk.out.cell (by simp) (hr3.out j v hj))) Try.underlying38 rfl zMs_size rfl ?_
          refine hK _ _ ?_
          clear hK K
          refine wpAny_ready (rs := [0]) (by kernel_rfl) (by simp) ?_
          refine AllReady.consS rfl (fun K hK => ?_) ?_
          · refine step_loadMS rfl 53 (.tmp 9) rfl wA.heap.size 0 #[.slice A' s.length c', .slice B' t.length e', .int .i64 d] _ 3 rfl (fun j v hj => by rw [Nat.zero_add, (hb'.out.keep K0 (by simp)).cell]; exact hj) Try.underlying53 rfl zRq_size rfl ?_
            refine hK _ _ ?_
            clear hK K
            refine wpAny_ready (rs := [5]) (by kernel_rfl) (by simp) ?_
            refine AllReady.consS rfl (fun K hK => ?_) ?_
            · refine step_storeMS rfl 53 (.tmp 4) (.tmp 65) rfl w1.heap.size #[.slice A' s.length c', .slice B' t.length e', .int .i64 d] zRq _ 3 rfl rfl (F2.out.keep K0 (by simp)) zRq_size rfl rfl rfl ?_
              intro u1 bN kN zN
              clear zN
              have K1 : Keep [w1.heap.size] wr u1 := (K0.mono (by simp)).trans kN
              have Q2 := Lib.hid bN
              clear bN kN
              refine hK _ _ ?_
              clear hK K
              refine wpAny_ready (rs := [6]) (by kernel_rfl) (by simp) ?_
              refine AllReady.consS rfl (fun K hK => ?_) ?_
              · refine step_storeMS rfl 38 (.tmp 5) (.tmp 69) rfl w2.heap.size (msgV xx (.slice A1 xx.b.j.sg.length c1) (.slice A2 xx.b.q.length c2) (.slice A3 xx.c.sg.length c3) (.slice A4 xx.s.ts.length c4)) zMs _ 21 rfl rfl (F4.out.keep K1 (by simp; omega)) zMs_size rfl rfl rfl ?_
                intro u2 bN kN zN
                clear zN
                have Q2' := Lib.hid (Q2.out.keep kN (by simp; omega))
                have KW : Keep [] w u2 := (kwr.out.new K1 (fun i hi => .inr (by simp at hi; omega))).new kN (fun i hi => .inr (by simp at hi; omega))
                have KR : Keep [w1.heap.size, w2.heap.size] wr u2 := (K1.mono (fun i _ hi => by simp at hi ⊢; simp [hi])).trans (kN.mono (fun i _ hi => by simp at hi ⊢; simp [hi]))
                have Q4 := Lib.hid bN
                clear bN kN
                refine hK _ _ ?_
                clear hK K
                refine wpAny_ready (rs := [7]) (by kernel_rfl) (by simp) ?_
                refine AllReady.consS rfl (fun K hK => ?_) ?_
                · refine Stp.mk ?_
                  go_simp
                  refine hK _ _ ?_
                  clear hK K
                  refine wpAny_done (by kernel_rfl) ?_ _
                  go_wp2
                  go_meet
                  exact ⟨rfl, Q2', Q4, KW, KR⟩
                exact AllReady.nil
              exact AllReady.nil
            exact AllReady.nil
          exact AllReady.nil
        exact AllReady.nil
end Go.Proofs.Ytpndbidpennlcaa
