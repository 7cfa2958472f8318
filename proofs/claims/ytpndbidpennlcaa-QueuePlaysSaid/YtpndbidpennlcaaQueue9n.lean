import Derived.Test.YtpndbidpennlcaaQueue9
namespace Go.Proofs.Ytpndbidpennlcaa
open Go.RowKit
set_option linter.unusedVariables false
set_option linter.unusedSimpArgs false
set_option maxRecDepth 100000 in
set_option maxHeartbeats 16000000 in
theorem rpush_okn (A B : Option Addr) (ca cb : Nat) (a b : List Ms) (d : Int) (m : Ms) (v1 v2 v3 v4 : Value) (G : Nat → Prop) (w : World) (ha : SliceOf Rep.ms w G (.slice A a.length ca) a) (hb : SliceOf Rep.ms w G (.slice B b.length cb) b) (hok : MsOk w G m v1 v2 v3 v4)
    (hG : ∀ i, G i → i < w.heap.size) (ha2 : a.length ≤ 64) (hb2 : b.length ≤ 64) (hd : 0 ≤ d ∧ d ≤ 1000000) (hr : rightMsg m = true) (h4 : m.k ≠ 4) (h5 : m.k ≠ 5) (hf : a.length < 64) :
    Calls Try.prog 16 #[.agg #[.slice A a.length ca, .slice B b.length cb, .int .i64 d], .agg (msgV m v1 v2 v3 v4)] w fun e w' => ∃ B' c', e = .returned (.tuple #[.agg #[.slice B' (a.length + 1) c', .slice B b.length cb, .int .i64 d], .int .i64 0]) ∧ SliceOf Rep.ms w' (fun i => G i ∨ w.heap.size ≤ i) (.slice B' (a.length + 1) c') (a ++ [m]) ∧ Keep [] w w' := by
  obtain ⟨A1, c1, rfl, -⟩ := hok.bs.form
  obtain ⟨A2, c2, rfl, -⟩ := hok.bq.form
  obtain ⟨A3, c3, rfl, -⟩ := hok.cs.form
  obtain ⟨A4, c4, rfl, -⟩ := hok.st.form
  have HR := Lib.hid hr
  clear hr
  have t4 : (m.k == 4) = false := by simp [h4]
  have t5 : (m.k == 5) = false := by simp [h5]
  replace h4 := Lib.hid h4
  replace h5 := Lib.hid h5
  have n1 : ((a.length : Int) == 64) = false := by rw [beq_eq_false_iff_ne]; omega
  have n2 : ¬ (a.length : Int) = 64 := by omega
  replace ha := Lib.hid ha
  replace hb := Lib.hid hb
  replace hok := Lib.hid hok
  replace hG := Lib.hid hG
  obtain ⟨hd1, hd2⟩ := hd
  go_enter Try.func16, Try.ntmps16
  go_upto_region 1 with (first
    | ((with_reducible refine wl_box 53 (.tmp 0) ?_ ?_); (with_reducible rfl); refine sx_box rfl 53 (.tmp 0) rfl #[.slice A a.length ca, .slice B b.length cb, .int .i64 d] rfl ?_; intro w1 b1 k1 z1; clear z1; (try simp only [Act.put, List.setIfInBounds_toArray, List.set_cons_zero, List.set_cons_succ]))
    | ((with_reducible refine wl_box 38 (.tmp 1) ?_ ?_); (with_reducible rfl); refine sx_box rfl 38 (.tmp 1) rfl (msgV m (.slice A1 m.b.j.sg.length c1) (.slice A2 m.b.q.length c2) (.slice A3 m.c.sg.length c3) (.slice A4 m.s.ts.length c4)) rfl ?_; intro w2 b2 k2 z2; clear z2; (try simp only [Act.put, List.setIfInBounds_toArray, List.set_cons_zero, List.set_cons_succ]))
    | ((with_reducible refine wl_alloc 53 ?_ ?_); (with_reducible rfl); refine sx_alloc rfl 53 rfl _ 3 zRq zRq_info rfl ?_; intro w3 b3 k3 z3; clear z3; (try simp only [Act.put, List.setIfInBounds_toArray, List.set_cons_zero, List.set_cons_succ])))
  have B1 := (b1.keep k2 (by simp)).keep k3 (by simp)
  have B2 := b2.keep k3 (by simp)
  have kk3 := (k1.trans k2).trans k3
  have l0 : w.heap.size ≤ w2.heap.size := (k1.trans k2).size
  have l1 := b1.lt
  have l2 := b2.lt
  clear b1 b2 k1 k2 k3
  go_wp2_with (first
    | ((with_reducible refine wl_load 38 (.tmp 3) ?_ ?_); (with_reducible rfl); refine sx_loadW rfl 38 (.tmp 3) rfl w1.heap.size (msgV m (.slice A1 m.b.j.sg.length c1) (.slice A2 m.b.q.length c2) (.slice A3 m.c.sg.length c3) (.slice A4 m.s.ts.length c4)) _ _ 21 rfl B2 Try.underlying38 rfl zMs_size rfl ?_; (try simp only [Act.put, List.setIfInBounds_toArray, List.set_cons_zero, List.set_cons_succ])))
  refine (rightMsg_call m _ _ _ _ G _ (hok.out.keep (kk3.at G (by simp)))).mono ?_
  rw [HR.out]
  rintro e w4 ⟨rfl, k4⟩
  have C1 := B1.keep k4 (by simp)
  have C2 := B2.keep k4 (by simp)
  have C3 := b3.keep k4 (by simp)
  have kk4 := kk3.trans k4
  clear B1 B2 b3 kk3
  have x0 : w4.cell? ⟨w1.heap.size, 0, none⟩ = some (.int .i64 m.k) := C2.cell 0
  have y0 : w4.cell? ⟨w.heap.size, 0, none⟩ = some (.slice A a.length ca) := C1.cell 0
  have y1 : w4.cell? ⟨w.heap.size, 1, none⟩ = some (.slice B b.length cb) := C1.cell 1
  have y2 : w4.cell? ⟨w.heap.size, 2, none⟩ = some (.int .i64 d) := C1.cell 2
  have f2 := C1.frozen 2
  have hl4 := Lib.hid (ha.out.keep (kk4.at G (by simp)))
  have hok4 := Lib.hid (hok.out.keep (kk4.at G (by simp)))
  have hG4 : Hid (∀ k, G k → k < w4.heap.size) := Lib.hid (fun k hk => Nat.lt_of_lt_of_le (hG.out k hk) kk4.size)
  go_wp2_with fail
  refine wp_region_any (by kernel_rfl) ?_
  (try (change wpAny _ _ _ _ _ _ _ (World.drew _)))
  have K0 : Keep [] w4 w4.drew := (Keep.refl [] w4).drew
  generalize World.drew w4 = u0 at *
  refine wpAny_take (i := 1) (v := ?_) rfl (by kernel_rfl) (by kernel_rfl) (by kernel_rfl) (fun _ _ _ h => h) (Or.inl ⟨by rfl, ?_⟩) ?_
  rotate_left
  · intro w9
    go_simp
    with_reducible rfl
  refine wpAny_ready (rs := [0, 2, 4]) (by kernel_rfl) (by simp) ?_
  refine AllReady.cons rfl (fun K hK => ?_) ?_
  · refine step_none rfl 51 38 rfl (.agg zMs) 21 272 Try.underlying51 infoMs ?_
    intro u1 bN kN zN
    clear zN
    have K1 := K0.trans kN
    have R1 : RowG Rep.ms 38 u1 w4.heap.size G (.slice (some ⟨u0.heap.size, 0, none⟩) 0 0) [] := RowG.empty _ _ _ _ _ _ bN K0.size
    replace R1 := Lib.hid R1
    clear bN kN
    refine hK _ _ ?_
    clear hK K
    refine wpAny_ready (rs := [2, 4]) (by kernel_rfl) (by simp) ?_
    refine AllReady.cons rfl (fun K hK => ?_) ?_
    · have cc := K1.cell (by simp) y0
      go_simp
      clear cc
      refine hK _ _ ?_
      clear hK K
      refine wpAny_ready (rs := [3, 4]) (by kernel_rfl) (by simp) ?_
      refine AllReady.cons rfl (fun K hK => ?_) ?_
      · refine step_appM rfl (.tmp 50) (.tmp 52) rfl w4.heap.size G (.slice (some ⟨u0.heap.size, 0, none⟩) 0 0) [] a A ca rfl rfl R1.out (SliceOf.reads (hl4.out.keep (K1.at G (by simp)))) hG4.out (by simp; omega) K1.size ?_
        simp only [List.length_nil, Nat.zero_add, List.nil_append]
        intro B1 p1 u2 rN kN
        have K2 : Keep [] w4 u2 := K1.new kN (fun i hi => .inr (R1.out.lt i (by simpa using hi)).1)
        have R2 := Lib.hid rN
        clear rN kN
        refine hK _ _ ?_
        clear hK K
        refine wpAny_ready (rs := [4]) (by kernel_rfl) (by simp) ?_
        refine AllReady.cons rfl (fun K hK => ?_) ?_
        · refine step_loadM rfl 38 (.tmp 3) rfl w1.heap.size 0 (msgV m (.slice A1 m.b.j.sg.length c1) (.slice A2 m.b.q.length c2) (.slice A3 m.c.sg.length c3) (.slice A4 m.s.ts.length c4)) _ 21 rfl (fun j v hj => by rw [Nat.zero_add, (C2.keep K2 (by simp)).cell]; exact hj) Try.underlying38 rfl zMs_size rfl ?_
          refine hK _ _ ?_
          clear hK K
          refine wpAny_ready (rs := [5]) (by kernel_rfl) (by simp) ?_
          refine AllReady.cons rfl (fun K hK => ?_) ?_
          · refine step_oneM rfl (.tmp 54) rfl (msgV m (.slice A1 m.b.j.sg.length c1) (.slice A2 m.b.q.length c2) (.slice A3 m.c.sg.length c3) (.slice A4 m.s.ts.length c4)) rfl rfl ?_
            intro u3 bN kN zN
            clear zN
            have K3 := K2.trans kN
            have O3 := bN
            have R3 := Lib.hid (R2.out.keep (fun k _ hl => kN.block k hl (by simp)))
            clear bN kN
            refine hK _ _ ?_
            clear hK K
            refine wpAny_ready (rs := [6]) (by kernel_rfl) (by simp) ?_
            refine AllReady.cons rfl (fun K hK => ?_) ?_
            · refine step_appM rfl (.tmp 53) (.tmp 55) rfl w4.heap.size G (.slice B1 a.length p1) a [m] (some ⟨u2.heap.size, 0, none⟩) 1 rfl rfl R3.out (reads_one O3 ⟨_, _, _, _, rfl, hok4.out.keep (K3.at G (by simp))⟩) hG4.out (by simp; omega) K3.size ?_
              simp only [List.length_singleton]
              intro B2 p2 u4 rN kN
              have K4 : Keep [] w4 u4 := K3.new kN (fun i hi => .inr (R3.out.lt i (by simpa using hi)).1)
              have R4 := Lib.hid rN
              clear rN kN
              refine hK _ _ ?_
              clear hK K
              refine wpAny_ready (rs := [7]) (by kernel_rfl) (by simp) ?_
              refine AllReady.cons rfl (fun K hK => ?_) ?_
              · go_simp
                refine hK _ _ ?_
                clear hK K
                refine wpAny_ready (rs := [8]) (by kernel_rfl) (by simp) ?_
                refine AllReady.cons rfl (fun K hK => ?_) ?_
                · have DD := C1.keep K4 (by simp)
                  have dc : u4.cell? ⟨w.heap.size, 0, none⟩ = some (.slice A a.length ca) := DD.cell 0
                  have df := DD.frozen 0
                  go_simp
                  refine hK _ _ ?_
                  clear hK K
                  refine wpAny_done (by kernel_rfl) ?_ _
                  have D1 : Blk (u4.setCell ⟨w.heap.size, 0, none⟩ (.slice B2 (a.length + 1) p2)) w.heap.size #[.slice B2 (a.length + 1) p2, .slice B b.length cb, .int .i64 d] 53 := by simpa using DD.set 0 (.slice B2 (a.length + 1) p2)
                  have sk : Keep [w.heap.size] u4 (u4.setCell ⟨w.heap.size, 0, none⟩ (.slice B2 (a.length + 1) p2)) := (Keep.refl _ _).setCell _ _ (.inl (by simp))
                  have l4 := kk4.size
                  have l41 := C1.lt
                  have l42 := C3.lt
                  have RF := Lib.hid ((R4.out.keep (fun k hk hl => sk.block k hl (by simp; rintro rfl; exact hk.elim (fun hk => by have := (R4.out.lt _ hk).1; omega) (fun hk => by have := hG.out _ hk; omega)))).slice (by simp; unfold M47; omega))
                  have RL := Lib.hid (fun k hk => (R4.out.lt k hk).1)
                  have D3 := (C3.keep K4 (by simp)).keep sk (by simp; omega)
                  have kk5 : Keep [] w _ := (kk4.trans K4).new sk (fun i hi => .inr (by simp at hi; omega))
                  generalize u4.setCell ⟨w.heap.size, 0, none⟩ (.slice B2 (a.length + 1) p2) = w5 at *
                  clear dc df DD x0 y0 y1 y2 f2
                  go_wp2_with (first
                    | ((with_reducible refine wl_load 53 (.tmp 2) ?_ ?_); (with_reducible rfl); refine sx_loadW rfl 53 (.tmp 2) rfl w.heap.size #[.slice B2 (a.length + 1) p2, .slice B b.length cb, .int .i64 d] _ _ 3 rfl D1 Try.underlying53 rfl zRq_size rfl ?_; (try simp only [Act.put, List.setIfInBounds_toArray, List.set_cons_zero, List.set_cons_succ]))
                    | ((with_reducible refine wl_store 53 (.tmp 4) (.tmp 58) ?_ ?_); (with_reducible rfl); refine sx_storeW rfl 53 (.tmp 4) (.tmp 58) rfl w2.heap.size #[.slice B2 (a.length + 1) p2, .slice B b.length cb, .int .i64 d] zRq _ 3 rfl rfl D3 zRq_size rfl rfl rfl ?_; intro w9 b9 k9 z9; clear z9; (try simp only [Act.put, List.setIfInBounds_toArray, List.set_cons_zero, List.set_cons_succ])))
                  refine ret_cell2 rfl rfl rfl b9 Try.underlying53 rfl zRq_size _ rfl ?_
                  refine ⟨B2, p2, rfl, (RF.out.keep (k9.at _ (by intro i hi; simp at hi; subst hi; intro h; exact h.elim (fun h => by have := hG.out _ h; omega) (fun h => by have := RL.out _ h; omega)))).mono ?_, kk5.new k9 (fun i hi => .inr (by simp at hi; omega))⟩
                  rintro i (h | h) _
                  · exact .inl h
                  · exact .inr (by have := RL.out _ h; omega)
                exact AllReady.nil
              exact AllReady.nil
            exact AllReady.nil
          exact AllReady.nil
        exact AllReady.nil
      refine AllReady.cons rfl (fun K hK => ?_) ?_
      · refine step_loadM rfl 38 (.tmp 3) rfl w1.heap.size 0 (msgV m (.slice A1 m.b.j.sg.length c1) (.slice A2 m.b.q.length c2) (.slice A3 m.c.sg.length c3) (.slice A4 m.s.ts.length c4)) _ 21 rfl (fun j v hj => by rw [Nat.zero_add, (C2.keep K1 (by simp)).cell]; exact hj) Try.underlying38 rfl zMs_size rfl ?_
        refine hK _ _ ?_
        clear hK K
        refine wpAny_ready (rs := [3, 5]) (by kernel_rfl) (by simp) ?_
        refine AllReady.cons rfl (fun K hK => ?_) ?_
        · refine step_appM rfl (.tmp 50) (.tmp 52) rfl w4.heap.size G (.slice (some ⟨u0.heap.size, 0, none⟩) 0 0) [] a A ca rfl rfl R1.out (SliceOf.reads (hl4.out.keep (K1.at G (by simp)))) hG4.out (by simp; omega) K1.size ?_
          simp only [List.length_nil, Nat.zero_add, List.nil_append]
          intro B1 p1 u2 rN kN
          have K2 : Keep [] w4 u2 := K1.new kN (fun i hi => .inr (R1.out.lt i (by simpa using hi)).1)
          have R2 := Lib.hid rN
          clear rN kN
          refine hK _ _ ?_
          clear hK K
          refine wpAny_ready (rs := [5]) (by kernel_rfl) (by simp) ?_
          refine AllReady.cons rfl (fun K hK => ?_) ?_
          · refine step_oneM rfl (.tmp 54) rfl (msgV m (.slice A1 m.b.j.sg.length c1) (.slice A2 m.b.q.length c2) (.slice A3 m.c.sg.length c3) (.slice A4 m.s.ts.length c4)) rfl rfl ?_
            intro u3 bN kN zN
            clear zN
            have K3 := K2.trans kN
            have O3 := bN
            have R3 := Lib.hid (R2.out.keep (fun k _ hl => kN.block k hl (by simp)))
            clear bN kN
            refine hK _ _ ?_
            clear hK K
            refine wpAny_ready (rs := [6]) (by kernel_rfl) (by simp) ?_
            refine AllReady.cons rfl (fun K hK => ?_) ?_
            · refine step_appM rfl (.tmp 53) (.tmp 55) rfl w4.heap.size G (.slice B1 a.length p1) a [m] (some ⟨u2.heap.size, 0, none⟩) 1 rfl rfl R3.out (reads_one O3 ⟨_, _, _, _, rfl, hok4.out.keep (K3.at G (by simp))⟩) hG4.out (by simp; omega) K3.size ?_
              simp only [List.length_singleton]
              intro B2 p2 u4 rN kN
              have K4 : Keep [] w4 u4 := K3.new kN (fun i hi => .inr (R3.out.lt i (by simpa using hi)).1)
              have R4 := Lib.hid rN
              clear rN kN
              refine hK _ _ ?_
              clear hK K
              refine wpAny_ready (rs := [7]) (by kernel_rfl) (by simp) ?_
              refine AllReady.cons rfl (fun K hK => ?_) ?_
              · go_simp
                refine hK _ _ ?_
                clear hK K
                refine wpAny_ready (rs := [8]) (by kernel_rfl) (by simp) ?_
                refine AllReady.cons rfl (fun K hK => ?_) ?_
                · have DD := C1.keep K4 (by simp)
                  have dc : u4.cell? ⟨w.heap.size, 0, none⟩ = some (.slice A a.length ca) := DD.cell 0
                  have df := DD.frozen 0
                  go_simp
                  refine hK _ _ ?_
                  clear hK K
                  refine wpAny_done (by kernel_rfl) ?_ _
                  have D1 : Blk (u4.setCell ⟨w.heap.size, 0, none⟩ (.slice B2 (a.length + 1) p2)) w.heap.size #[.slice B2 (a.length + 1) p2, .slice B b.length cb, .int .i64 d] 53 := by simpa using DD.set 0 (.slice B2 (a.length + 1) p2)
                  have sk : Keep [w.heap.size] u4 (u4.setCell ⟨w.heap.size, 0, none⟩ (.slice B2 (a.length + 1) p2)) := (Keep.refl _ _).setCell _ _ (.inl (by simp))
                  have l4 := kk4.size
                  have l41 := C1.lt
                  have l42 := C3.lt
                  have RF := Lib.hid ((R4.out.keep (fun k hk hl => sk.block k hl (by simp; rintro rfl; exact hk.elim (fun hk => by have := (R4.out.lt _ hk).1; omega) (fun hk => by have := hG.out _ hk; omega)))).slice (by simp; unfold M47; omega))
                  have RL := Lib.hid (fun k hk => (R4.out.lt k hk).1)
                  have D3 := (C3.keep K4 (by simp)).keep sk (by simp; omega)
                  have kk5 : Keep [] w _ := (kk4.trans K4).new sk (fun i hi => .inr (by simp at hi; omega))
                  generalize u4.setCell ⟨w.heap.size, 0, none⟩ (.slice B2 (a.length + 1) p2) = w5 at *
                  clear dc df DD x0 y0 y1 y2 f2
                  go_wp2_with (first
                    | ((with_reducible refine wl_load 53 (.tmp 2) ?_ ?_); (with_reducible rfl); refine sx_loadW rfl 53 (.tmp 2) rfl w.heap.size #[.slice B2 (a.length + 1) p2, .slice B b.length cb, .int .i64 d] _ _ 3 rfl D1 Try.underlying53 rfl zRq_size rfl ?_; (try simp only [Act.put, List.setIfInBounds_toArray, List.set_cons_zero, List.set_cons_succ]))
                    | ((with_reducible refine wl_store 53 (.tmp 4) (.tmp 58) ?_ ?_); (with_reducible rfl); refine sx_storeW rfl 53 (.tmp 4) (.tmp 58) rfl w2.heap.size #[.slice B2 (a.length + 1) p2, .slice B b.length cb, .int .i64 d] zRq _ 3 rfl rfl D3 zRq_size rfl rfl rfl ?_; intro w9 b9 k9 z9; clear z9; (try simp only [Act.put, List.setIfInBounds_toArray, List.set_cons_zero, List.set_cons_succ])))
                  refine ret_cell2 rfl rfl rfl b9 Try.underlying53 rfl zRq_size _ rfl ?_
                  refine ⟨B2, p2, rfl, (RF.out.keep (k9.at _ (by intro i hi; simp at hi; subst hi; intro h; exact h.elim (fun h => by have := hG.out _ h; omega) (fun h => by have := RL.out _ h; omega)))).mono ?_, kk5.new k9 (fun i hi => .inr (by simp at hi; omega))⟩
                  rintro i (h | h) _
                  · exact .inl h
                  · exact .inr (by have := RL.out _ h; omega)
                exact AllReady.nil
              exact AllReady.nil
            exact AllReady.nil
          exact AllReady.nil
        refine AllReady.cons rfl (fun K hK => ?_) ?_
        · refine step_oneM rfl (.tmp 54) rfl (msgV m (.slice A1 m.b.j.sg.length c1) (.slice A2 m.b.q.length c2) (.slice A3 m.c.sg.length c3) (.slice A4 m.s.ts.length c4)) rfl rfl ?_
          intro u2 bN kN zN
          clear zN
          have K2 := K1.trans kN
          have O2 := bN
          have hne : u0.heap.size < u1.heap.size := (R1.out.lt _ rfl).2
          have R2 := Lib.hid (R1.out.keep (fun k _ hl => kN.block k hl (by simp)))
          clear bN kN
          refine hK _ _ ?_
          clear hK K
          refine wpAny_ready (rs := [3]) (by kernel_rfl) (by simp) ?_
          refine AllReady.cons rfl (fun K hK => ?_) ?_
          · refine step_appM rfl (.tmp 50) (.tmp 52) rfl w4.heap.size G (.slice (some ⟨u0.heap.size, 0, none⟩) 0 0) [] a A ca rfl rfl R2.out (SliceOf.reads (hl4.out.keep (K2.at G (by simp)))) hG4.out (by simp; omega) K2.size ?_
            simp only [List.length_nil, Nat.zero_add, List.nil_append]
            intro B1 p1 u3 rN kN
            have K3 : Keep [] w4 u3 := K2.new kN (fun i hi => .inr (R2.out.lt i (by simpa using hi)).1)
            have O3 := O2.keep kN (by simp [Value.ownBlock]; omega)
            have R3 := Lib.hid rN
            clear rN kN
            refine hK _ _ ?_
            clear hK K
            refine wpAny_ready (rs := [6]) (by kernel_rfl) (by simp) ?_
            refine AllReady.cons rfl (fun K hK => ?_) ?_
            · refine step_appM rfl (.tmp 53) (.tmp 55) rfl w4.heap.size G (.slice B1 a.length p1) a [m] (some ⟨u1.heap.size, 0, none⟩) 1 rfl rfl R3.out (reads_one O3 ⟨_, _, _, _, rfl, hok4.out.keep (K3.at G (by simp))⟩) hG4.out (by simp; omega) K3.size ?_
              simp only [List.length_singleton]
              intro B2 p2 u4 rN kN
              have K4 : Keep [] w4 u4 := K3.new kN (fun i hi => .inr (R3.out.lt i (by simpa using hi)).1)
              have R4 := Lib.hid rN
              clear rN kN
              refine hK _ _ ?_
              clear hK K
              refine wpAny_ready (rs := [7]) (by kernel_rfl) (by simp) ?_
              refine AllReady.cons rfl (fun K hK => ?_) ?_
              · go_simp
                refine hK _ _ ?_
                clear hK K
                refine wpAny_ready (rs := [8]) (by kernel_rfl) (by simp) ?_
                refine AllReady.cons rfl (fun K hK => ?_) ?_
                · have DD := C1.keep K4 (by simp)
                  have dc : u4.cell? ⟨w.heap.size, 0, none⟩ = some (.slice A a.length ca) := DD.cell 0
                  have df := DD.frozen 0
                  go_simp
                  refine hK _ _ ?_
                  clear hK K
                  refine wpAny_done (by kernel_rfl) ?_ _
                  have D1 : Blk (u4.setCell ⟨w.heap.size, 0, none⟩ (.slice B2 (a.length + 1) p2)) w.heap.size #[.slice B2 (a.length + 1) p2, .slice B b.length cb, .int .i64 d] 53 := by simpa using DD.set 0 (.slice B2 (a.length + 1) p2)
                  have sk : Keep [w.heap.size] u4 (u4.setCell ⟨w.heap.size, 0, none⟩ (.slice B2 (a.length + 1) p2)) := (Keep.refl _ _).setCell _ _ (.inl (by simp))
                  have l4 := kk4.size
                  have l41 := C1.lt
                  have l42 := C3.lt
                  have RF := Lib.hid ((R4.out.keep (fun k hk hl => sk.block k hl (by simp; rintro rfl; exact hk.elim (fun hk => by have := (R4.out.lt _ hk).1; omega) (fun hk => by have := hG.out _ hk; omega)))).slice (by simp; unfold M47; omega))
                  have RL := Lib.hid (fun k hk => (R4.out.lt k hk).1)
                  have D3 := (C3.keep K4 (by simp)).keep sk (by simp; omega)
                  have kk5 : Keep [] w _ := (kk4.trans K4).new sk (fun i hi => .inr (by simp at hi; omega))
                  generalize u4.setCell ⟨w.heap.size, 0, none⟩ (.slice B2 (a.length + 1) p2) = w5 at *
                  clear dc df DD x0 y0 y1 y2 f2
                  go_wp2_with (first
                    | ((with_reducible refine wl_load 53 (.tmp 2) ?_ ?_); (with_reducible rfl); refine sx_loadW rfl 53 (.tmp 2) rfl w.heap.size #[.slice B2 (a.length + 1) p2, .slice B b.length cb, .int .i64 d] _ _ 3 rfl D1 Try.underlying53 rfl zRq_size rfl ?_; (try simp only [Act.put, List.setIfInBounds_toArray, List.set_cons_zero, List.set_cons_succ]))
                    | ((with_reducible refine wl_store 53 (.tmp 4) (.tmp 58) ?_ ?_); (with_reducible rfl); refine sx_storeW rfl 53 (.tmp 4) (.tmp 58) rfl w2.heap.size #[.slice B2 (a.length + 1) p2, .slice B b.length cb, .int .i64 d] zRq _ 3 rfl rfl D3 zRq_size rfl rfl rfl ?_; intro w9 b9 k9 z9; clear z9; (try simp only [Act.put, List.setIfInBounds_toArray, List.set_cons_zero, List.set_cons_succ])))
                  refine ret_cell2 rfl rfl rfl b9 Try.underlying53 rfl zRq_size _ rfl ?_
                  refine ⟨B2, p2, rfl, (RF.out.keep (k9.at _ (by intro i hi; simp at hi; subst hi; intro h; exact h.elim (fun h => by have := hG.out _ h; omega) (fun h => by have := RL.out _ h; omega)))).mono ?_, kk5.new k9 (fun i hi => .inr (by simp at hi; omega))⟩
                  rintro i (h | h) _
                  · exact .inl h
                  · exact .inr (by have := RL.out _ h; omega)
                exact AllReady.nil
              exact AllReady.nil
            exact AllReady.nil
          exact AllReady.nil
        exact AllReady.nil
      exact AllReady.nil
    refine AllReady.cons rfl (fun K hK => ?_) ?_
    · refine step_loadM rfl 38 (.tmp 3) rfl w1.heap.size 0 (msgV m (.slice A1 m.b.j.sg.length c1) (.slice A2 m.b.q.length c2) (.slice A3 m.c.sg.length c3) (.slice A4 m.s.ts.length c4)) _ 21 rfl (fun j v hj => by rw [Nat.zero_add, (C2.keep K1 (by simp)).cell]; exact hj) Try.underlying38 rfl zMs_size rfl ?_
      refine hK _ _ ?_
      clear hK K
      refine wpAny_ready (rs := [2, 5]) (by kernel_rfl) (by simp) ?_
      refine AllReady.cons rfl (fun K hK => ?_) ?_
      · have cc := K1.cell (by simp) y0
        go_simp
        clear cc
        refine hK _ _ ?_
        clear hK K
        refine wpAny_ready (rs := [3, 5]) (by kernel_rfl) (by simp) ?_
        refine AllReady.cons rfl (fun K hK => ?_) ?_
        · refine step_appM rfl (.tmp 50) (.tmp 52) rfl w4.heap.size G (.slice (some ⟨u0.heap.size, 0, none⟩) 0 0) [] a A ca rfl rfl R1.out (SliceOf.reads (hl4.out.keep (K1.at G (by simp)))) hG4.out (by simp; omega) K1.size ?_
          simp only [List.length_nil, Nat.zero_add, List.nil_append]
          intro B1 p1 u2 rN kN
          have K2 : Keep [] w4 u2 := K1.new kN (fun i hi => .inr (R1.out.lt i (by simpa using hi)).1)
          have R2 := Lib.hid rN
          clear rN kN
          refine hK _ _ ?_
          clear hK K
          refine wpAny_ready (rs := [5]) (by kernel_rfl) (by simp) ?_
          refine AllReady.cons rfl (fun K hK => ?_) ?_
          · refine step_oneM rfl (.tmp 54) rfl (msgV m (.slice A1 m.b.j.sg.length c1) (.slice A2 m.b.q.length c2) (.slice A3 m.c.sg.length c3) (.slice A4 m.s.ts.length c4)) rfl rfl ?_
            intro u3 bN kN zN
            clear zN
            have K3 := K2.trans kN
            have O3 := bN
            have R3 := Lib.hid (R2.out.keep (fun k _ hl => kN.block k hl (by simp)))
            clear bN kN
            refine hK _ _ ?_
            clear hK K
            refine wpAny_ready (rs := [6]) (by kernel_rfl) (by simp) ?_
            refine AllReady.cons rfl (fun K hK => ?_) ?_
            · refine step_appM rfl (.tmp 53) (.tmp 55) rfl w4.heap.size G (.slice B1 a.length p1) a [m] (some ⟨u2.heap.size, 0, none⟩) 1 rfl rfl R3.out (reads_one O3 ⟨_, _, _, _, rfl, hok4.out.keep (K3.at G (by simp))⟩) hG4.out (by simp; omega) K3.size ?_
              simp only [List.length_singleton]
              intro B2 p2 u4 rN kN
              have K4 : Keep [] w4 u4 := K3.new kN (fun i hi => .inr (R3.out.lt i (by simpa using hi)).1)
              have R4 := Lib.hid rN
              clear rN kN
              refine hK _ _ ?_
              clear hK K
              refine wpAny_ready (rs := [7]) (by kernel_rfl) (by simp) ?_
              refine AllReady.cons rfl (fun K hK => ?_) ?_
              · go_simp
                refine hK _ _ ?_
                clear hK K
                refine wpAny_ready (rs := [8]) (by kernel_rfl) (by simp) ?_
                refine AllReady.cons rfl (fun K hK => ?_) ?_
                · have DD := C1.keep K4 (by simp)
                  have dc : u4.cell? ⟨w.heap.size, 0, none⟩ = some (.slice A a.length ca) := DD.cell 0
                  have df := DD.frozen 0
                  go_simp
                  refine hK _ _ ?_
                  clear hK K
                  refine wpAny_done (by kernel_rfl) ?_ _
                  have D1 : Blk (u4.setCell ⟨w.heap.size, 0, none⟩ (.slice B2 (a.length + 1) p2)) w.heap.size #[.slice B2 (a.length + 1) p2, .slice B b.length cb, .int .i64 d] 53 := by simpa using DD.set 0 (.slice B2 (a.length + 1) p2)
                  have sk : Keep [w.heap.size] u4 (u4.setCell ⟨w.heap.size, 0, none⟩ (.slice B2 (a.length + 1) p2)) := (Keep.refl _ _).setCell _ _ (.inl (by simp))
                  have l4 := kk4.size
                  have l41 := C1.lt
                  have l42 := C3.lt
                  have RF := Lib.hid ((R4.out.keep (fun k hk hl => sk.block k hl (by simp; rintro rfl; exact hk.elim (fun hk => by have := (R4.out.lt _ hk).1; omega) (fun hk => by have := hG.out _ hk; omega)))).slice (by simp; unfold M47; omega))
                  have RL := Lib.hid (fun k hk => (R4.out.lt k hk).1)
                  have D3 := (C3.keep K4 (by simp)).keep sk (by simp; omega)
                  have kk5 : Keep [] w _ := (kk4.trans K4).new sk (fun i hi => .inr (by simp at hi; omega))
                  generalize u4.setCell ⟨w.heap.size, 0, none⟩ (.slice B2 (a.length + 1) p2) = w5 at *
                  clear dc df DD x0 y0 y1 y2 f2
                  go_wp2_with (first
                    | ((with_reducible refine wl_load 53 (.tmp 2) ?_ ?_); (with_reducible rfl); refine sx_loadW rfl 53 (.tmp 2) rfl w.heap.size #[.slice B2 (a.length + 1) p2, .slice B b.length cb, .int .i64 d] _ _ 3 rfl D1 Try.underlying53 rfl zRq_size rfl ?_; (try simp only [Act.put, List.setIfInBounds_toArray, List.set_cons_zero, List.set_cons_succ]))
                    | ((with_reducible refine wl_store 53 (.tmp 4) (.tmp 58) ?_ ?_); (with_reducible rfl); refine sx_storeW rfl 53 (.tmp 4) (.tmp 58) rfl w2.heap.size #[.slice B2 (a.length + 1) p2, .slice B b.length cb, .int .i64 d] zRq _ 3 rfl rfl D3 zRq_size rfl rfl rfl ?_; intro w9 b9 k9 z9; clear z9; (try simp only [Act.put, List.setIfInBounds_toArray, List.set_cons_zero, List.set_cons_succ])))
                  refine ret_cell2 rfl rfl rfl b9 Try.underlying53 rfl zRq_size _ rfl ?_
                  refine ⟨B2, p2, rfl, (RF.out.keep (k9.at _ (by intro i hi; simp at hi; subst hi; intro h; exact h.elim (fun h => by have := hG.out _ h; omega) (fun h => by have := RL.out _ h; omega)))).mono ?_, kk5.new k9 (fun i hi => .inr (by simp at hi; omega))⟩
                  rintro i (h | h) _
                  · exact .inl h
                  · exact .inr (by have := RL.out _ h; omega)
                exact AllReady.nil
              exact AllReady.nil
            exact AllReady.nil
          exact AllReady.nil
        refine AllReady.cons rfl (fun K hK => ?_) ?_
        · refine step_oneM rfl (.tmp 54) rfl (msgV m (.slice A1 m.b.j.sg.length c1) (.slice A2 m.b.q.length c2) (.slice A3 m.c.sg.length c3) (.slice A4 m.s.ts.length c4)) rfl rfl ?_
          intro u2 bN kN zN
          clear zN
          have K2 := K1.trans kN
          have O2 := bN
          have hne : u0.heap.size < u1.heap.size := (R1.out.lt _ rfl).2
          have R2 := Lib.hid (R1.out.keep (fun k _ hl => kN.block k hl (by simp)))
          clear bN kN
          refine hK _ _ ?_
          clear hK K
          refine wpAny_ready (rs := [3]) (by kernel_rfl) (by simp) ?_
          refine AllReady.cons rfl (fun K hK => ?_) ?_
          · refine step_appM rfl (.tmp 50) (.tmp 52) rfl w4.heap.size G (.slice (some ⟨u0.heap.size, 0, none⟩) 0 0) [] a A ca rfl rfl R2.out (SliceOf.reads (hl4.out.keep (K2.at G (by simp)))) hG4.out (by simp; omega) K2.size ?_
            simp only [List.length_nil, Nat.zero_add, List.nil_append]
            intro B1 p1 u3 rN kN
            have K3 : Keep [] w4 u3 := K2.new kN (fun i hi => .inr (R2.out.lt i (by simpa using hi)).1)
            have O3 := O2.keep kN (by simp [Value.ownBlock]; omega)
            have R3 := Lib.hid rN
            clear rN kN
            refine hK _ _ ?_
            clear hK K
            refine wpAny_ready (rs := [6]) (by kernel_rfl) (by simp) ?_
            refine AllReady.cons rfl (fun K hK => ?_) ?_
            · refine step_appM rfl (.tmp 53) (.tmp 55) rfl w4.heap.size G (.slice B1 a.length p1) a [m] (some ⟨u1.heap.size, 0, none⟩) 1 rfl rfl R3.out (reads_one O3 ⟨_, _, _, _, rfl, hok4.out.keep (K3.at G (by simp))⟩) hG4.out (by simp; omega) K3.size ?_
              simp only [List.length_singleton]
              intro B2 p2 u4 rN kN
              have K4 : Keep [] w4 u4 := K3.new kN (fun i hi => .inr (R3.out.lt i (by simpa using hi)).1)
              have R4 := Lib.hid rN
              clear rN kN
              refine hK _ _ ?_
              clear hK K
              refine wpAny_ready (rs := [7]) (by kernel_rfl) (by simp) ?_
              refine AllReady.cons rfl (fun K hK => ?_) ?_
              · go_simp
                refine hK _ _ ?_
                clear hK K
                refine wpAny_ready (rs := [8]) (by kernel_rfl) (by simp) ?_
                refine AllReady.cons rfl (fun K hK => ?_) ?_
                · have DD := C1.keep K4 (by simp)
                  have dc : u4.cell? ⟨w.heap.size, 0, none⟩ = some (.slice A a.length ca) := DD.cell 0
                  have df := DD.frozen 0
                  go_simp
                  refine hK _ _ ?_
                  clear hK K
                  refine wpAny_done (by kernel_rfl) ?_ _
                  have D1 : Blk (u4.setCell ⟨w.heap.size, 0, none⟩ (.slice B2 (a.length + 1) p2)) w.heap.size #[.slice B2 (a.length + 1) p2, .slice B b.length cb, .int .i64 d] 53 := by simpa using DD.set 0 (.slice B2 (a.length + 1) p2)
                  have sk : Keep [w.heap.size] u4 (u4.setCell ⟨w.heap.size, 0, none⟩ (.slice B2 (a.length + 1) p2)) := (Keep.refl _ _).setCell _ _ (.inl (by simp))
                  have l4 := kk4.size
                  have l41 := C1.lt
                  have l42 := C3.lt
                  have RF := Lib.hid ((R4.out.keep (fun k hk hl => sk.block k hl (by simp; rintro rfl; exact hk.elim (fun hk => by have := (R4.out.lt _ hk).1; omega) (fun hk => by have := hG.out _ hk; omega)))).slice (by simp; unfold M47; omega))
                  have RL := Lib.hid (fun k hk => (R4.out.lt k hk).1)
                  have D3 := (C3.keep K4 (by simp)).keep sk (by simp; omega)
                  have kk5 : Keep [] w _ := (kk4.trans K4).new sk (fun i hi => .inr (by simp at hi; omega))
                  generalize u4.setCell ⟨w.heap.size, 0, none⟩ (.slice B2 (a.length + 1) p2) = w5 at *
                  clear dc df DD x0 y0 y1 y2 f2
                  go_wp2_with (first
                    | ((with_reducible refine wl_load 53 (.tmp 2) ?_ ?_); (with_reducible rfl); refine sx_loadW rfl 53 (.tmp 2) rfl w.heap.size #[.slice B2 (a.length + 1) p2, .slice B b.length cb, .int .i64 d] _ _ 3 rfl D1 Try.underlying53 rfl zRq_size rfl ?_; (try simp only [Act.put, List.setIfInBounds_toArray, List.set_cons_zero, List.set_cons_succ]))
                    | ((with_reducible refine wl_store 53 (.tmp 4) (.tmp 58) ?_ ?_); (with_reducible rfl); refine sx_storeW rfl 53 (.tmp 4) (.tmp 58) rfl w2.heap.size #[.slice B2 (a.length + 1) p2, .slice B b.length cb, .int .i64 d] zRq _ 3 rfl rfl D3 zRq_size rfl rfl rfl ?_; intro w9 b9 k9 z9; clear z9; (try simp only [Act.put, List.setIfInBounds_toArray, List.set_cons_zero, List.set_cons_succ])))
                  refine ret_cell2 rfl rfl rfl b9 Try.underlying53 rfl zRq_size _ rfl ?_
                  refine ⟨B2, p2, rfl, (RF.out.keep (k9.at _ (by intro i hi; simp at hi; subst hi; intro h; exact h.elim (fun h => by have := hG.out _ h; omega) (fun h => by have := RL.out _ h; omega)))).mono ?_, kk5.new k9 (fun i hi => .inr (by simp at hi; omega))⟩
                  rintro i (h | h) _
                  · exact .inl h
                  · exact .inr (by have := RL.out _ h; omega)
                exact AllReady.nil
              exact AllReady.nil
            exact AllReady.nil
          exact AllReady.nil
        exact AllReady.nil
      refine AllReady.cons rfl (fun K hK => ?_) ?_
      · refine step_oneM rfl (.tmp 54) rfl (msgV m (.slice A1 m.b.j.sg.length c1) (.slice A2 m.b.q.length c2) (.slice A3 m.c.sg.length c3) (.slice A4 m.s.ts.length c4)) rfl rfl ?_
        intro u2 bN kN zN
        clear zN
        have K2 := K1.trans kN
        have O2 := bN
        have hne : u0.heap.size < u1.heap.size := (R1.out.lt _ rfl).2
        have R2 := Lib.hid (R1.out.keep (fun k _ hl => kN.block k hl (by simp)))
        clear bN kN
        refine hK _ _ ?_
        clear hK K
        refine wpAny_ready (rs := [2]) (by kernel_rfl) (by simp) ?_
        refine AllReady.cons rfl (fun K hK => ?_) ?_
        · have cc := K2.cell (by simp) y0
          go_simp
          clear cc
          refine hK _ _ ?_
          clear hK K
          refine wpAny_ready (rs := [3]) (by kernel_rfl) (by simp) ?_
          refine AllReady.cons rfl (fun K hK => ?_) ?_
          · refine step_appM rfl (.tmp 50) (.tmp 52) rfl w4.heap.size G (.slice (some ⟨u0.heap.size, 0, none⟩) 0 0) [] a A ca rfl rfl R2.out (SliceOf.reads (hl4.out.keep (K2.at G (by simp)))) hG4.out (by simp; omega) K2.size ?_
            simp only [List.length_nil, Nat.zero_add, List.nil_append]
            intro B1 p1 u3 rN kN
            have K3 : Keep [] w4 u3 := K2.new kN (fun i hi => .inr (R2.out.lt i (by simpa using hi)).1)
            have O3 := O2.keep kN (by simp [Value.ownBlock]; omega)
            have R3 := Lib.hid rN
            clear rN kN
            refine hK _ _ ?_
            clear hK K
            refine wpAny_ready (rs := [6]) (by kernel_rfl) (by simp) ?_
            refine AllReady.cons rfl (fun K hK => ?_) ?_
            · refine step_appM rfl (.tmp 53) (.tmp 55) rfl w4.heap.size G (.slice B1 a.length p1) a [m] (some ⟨u1.heap.size, 0, none⟩) 1 rfl rfl R3.out (reads_one O3 ⟨_, _, _, _, rfl, hok4.out.keep (K3.at G (by simp))⟩) hG4.out (by simp; omega) K3.size ?_
              simp only [List.length_singleton]
              intro B2 p2 u4 rN kN
              have K4 : Keep [] w4 u4 := K3.new kN (fun i hi => .inr (R3.out.lt i (by simpa using hi)).1)
              have R4 := Lib.hid rN
              clear rN kN
              refine hK _ _ ?_
              clear hK K
              refine wpAny_ready (rs := [7]) (by kernel_rfl) (by simp) ?_
              refine AllReady.cons rfl (fun K hK => ?_) ?_
              · go_simp
                refine hK _ _ ?_
                clear hK K
                refine wpAny_ready (rs := [8]) (by kernel_rfl) (by simp) ?_
                refine AllReady.cons rfl (fun K hK => ?_) ?_
                · have DD := C1.keep K4 (by simp)
                  have dc : u4.cell? ⟨w.heap.size, 0, none⟩ = some (.slice A a.length ca) := DD.cell 0
                  have df := DD.frozen 0
                  go_simp
                  refine hK _ _ ?_
                  clear hK K
                  refine wpAny_done (by kernel_rfl) ?_ _
                  have D1 : Blk (u4.setCell ⟨w.heap.size, 0, none⟩ (.slice B2 (a.length + 1) p2)) w.heap.size #[.slice B2 (a.length + 1) p2, .slice B b.length cb, .int .i64 d] 53 := by simpa using DD.set 0 (.slice B2 (a.length + 1) p2)
                  have sk : Keep [w.heap.size] u4 (u4.setCell ⟨w.heap.size, 0, none⟩ (.slice B2 (a.length + 1) p2)) := (Keep.refl _ _).setCell _ _ (.inl (by simp))
                  have l4 := kk4.size
                  have l41 := C1.lt
                  have l42 := C3.lt
                  have RF := Lib.hid ((R4.out.keep (fun k hk hl => sk.block k hl (by simp; rintro rfl; exact hk.elim (fun hk => by have := (R4.out.lt _ hk).1; omega) (fun hk => by have := hG.out _ hk; omega)))).slice (by simp; unfold M47; omega))
                  have RL := Lib.hid (fun k hk => (R4.out.lt k hk).1)
                  have D3 := (C3.keep K4 (by simp)).keep sk (by simp; omega)
                  have kk5 : Keep [] w _ := (kk4.trans K4).new sk (fun i hi => .inr (by simp at hi; omega))
                  generalize u4.setCell ⟨w.heap.size, 0, none⟩ (.slice B2 (a.length + 1) p2) = w5 at *
                  clear dc df DD x0 y0 y1 y2 f2
                  go_wp2_with (first
                    | ((with_reducible refine wl_load 53 (.tmp 2) ?_ ?_); (with_reducible rfl); refine sx_loadW rfl 53 (.tmp 2) rfl w.heap.size #[.slice B2 (a.length + 1) p2, .slice B b.length cb, .int .i64 d] _ _ 3 rfl D1 Try.underlying53 rfl zRq_size rfl ?_; (try simp only [Act.put, List.setIfInBounds_toArray, List.set_cons_zero, List.set_cons_succ]))
                    | ((with_reducible refine wl_store 53 (.tmp 4) (.tmp 58) ?_ ?_); (with_reducible rfl); refine sx_storeW rfl 53 (.tmp 4) (.tmp 58) rfl w2.heap.size #[.slice B2 (a.length + 1) p2, .slice B b.length cb, .int .i64 d] zRq _ 3 rfl rfl D3 zRq_size rfl rfl rfl ?_; intro w9 b9 k9 z9; clear z9; (try simp only [Act.put, List.setIfInBounds_toArray, List.set_cons_zero, List.set_cons_succ])))
                  refine ret_cell2 rfl rfl rfl b9 Try.underlying53 rfl zRq_size _ rfl ?_
                  refine ⟨B2, p2, rfl, (RF.out.keep (k9.at _ (by intro i hi; simp at hi; subst hi; intro h; exact h.elim (fun h => by have := hG.out _ h; omega) (fun h => by have := RL.out _ h; omega)))).mono ?_, kk5.new k9 (fun i hi => .inr (by simp at hi; omega))⟩
                  rintro i (h | h) _
                  · exact .inl h
                  · exact .inr (by have := RL.out _ h; omega)
                exact AllReady.nil
              exact AllReady.nil
            exact AllReady.nil
          exact AllReady.nil
        exact AllReady.nil
      exact AllReady.nil
    exact AllReady.nil
  refine AllReady.cons rfl (fun K hK => ?_) ?_
  · have cc := K0.cell (by simp) y0
    go_simp
    clear cc
    refine hK _ _ ?_
    clear hK K
    refine wpAny_ready (rs := [0, 4]) (by kernel_rfl) (by simp) ?_
    refine AllReady.cons rfl (fun K hK => ?_) ?_
    · refine step_none rfl 51 38 rfl (.agg zMs) 21 272 Try.underlying51 infoMs ?_
      intro u1 bN kN zN
      clear zN
      have K1 := K0.trans kN
      have R1 : RowG Rep.ms 38 u1 w4.heap.size G (.slice (some ⟨u0.heap.size, 0, none⟩) 0 0) [] := RowG.empty _ _ _ _ _ _ bN K0.size
      replace R1 := Lib.hid R1
      clear bN kN
      refine hK _ _ ?_
      clear hK K
      refine wpAny_ready (rs := [3, 4]) (by kernel_rfl) (by simp) ?_
      refine AllReady.cons rfl (fun K hK => ?_) ?_
      · refine step_appM rfl (.tmp 50) (.tmp 52) rfl w4.heap.size G (.slice (some ⟨u0.heap.size, 0, none⟩) 0 0) [] a A ca rfl rfl R1.out (SliceOf.reads (hl4.out.keep (K1.at G (by simp)))) hG4.out (by simp; omega) K1.size ?_
        simp only [List.length_nil, Nat.zero_add, List.nil_append]
        intro B1 p1 u2 rN kN
        have K2 : Keep [] w4 u2 := K1.new kN (fun i hi => .inr (R1.out.lt i (by simpa using hi)).1)
        have R2 := Lib.hid rN
        clear rN kN
        refine hK _ _ ?_
        clear hK K
        refine wpAny_ready (rs := [4]) (by kernel_rfl) (by simp) ?_
        refine AllReady.cons rfl (fun K hK => ?_) ?_
        · refine step_loadM rfl 38 (.tmp 3) rfl w1.heap.size 0 (msgV m (.slice A1 m.b.j.sg.length c1) (.slice A2 m.b.q.length c2) (.slice A3 m.c.sg.length c3) (.slice A4 m.s.ts.length c4)) _ 21 rfl (fun j v hj => by rw [Nat.zero_add, (C2.keep K2 (by simp)).cell]; exact hj) Try.underlying38 rfl zMs_size rfl ?_
          refine hK _ _ ?_
          clear hK K
          refine wpAny_ready (rs := [5]) (by kernel_rfl) (by simp) ?_
          refine AllReady.cons rfl (fun K hK => ?_) ?_
          · refine step_oneM rfl (.tmp 54) rfl (msgV m (.slice A1 m.b.j.sg.length c1) (.slice A2 m.b.q.length c2) (.slice A3 m.c.sg.length c3) (.slice A4 m.s.ts.length c4)) rfl rfl ?_
            intro u3 bN kN zN
            clear zN
            have K3 := K2.trans kN
            have O3 := bN
            have R3 := Lib.hid (R2.out.keep (fun k _ hl => kN.block k hl (by simp)))
            clear bN kN
            refine hK _ _ ?_
            clear hK K
            refine wpAny_ready (rs := [6]) (by kernel_rfl) (by simp) ?_
            refine AllReady.cons rfl (fun K hK => ?_) ?_
            · refine step_appM rfl (.tmp 53) (.tmp 55) rfl w4.heap.size G (.slice B1 a.length p1) a [m] (some ⟨u2.heap.size, 0, none⟩) 1 rfl rfl R3.out (reads_one O3 ⟨_, _, _, _, rfl, hok4.out.keep (K3.at G (by simp))⟩) hG4.out (by simp; omega) K3.size ?_
              simp only [List.length_singleton]
              intro B2 p2 u4 rN kN
              have K4 : Keep [] w4 u4 := K3.new kN (fun i hi => .inr (R3.out.lt i (by simpa using hi)).1)
              have R4 := Lib.hid rN
              clear rN kN
              refine hK _ _ ?_
              clear hK K
              refine wpAny_ready (rs := [7]) (by kernel_rfl) (by simp) ?_
              refine AllReady.cons rfl (fun K hK => ?_) ?_
              · go_simp
                refine hK _ _ ?_
                clear hK K
                refine wpAny_ready (rs := [8]) (by kernel_rfl) (by simp) ?_
                refine AllReady.cons rfl (fun K hK => ?_) ?_
                · have DD := C1.keep K4 (by simp)
                  have dc : u4.cell? ⟨w.heap.size, 0, none⟩ = some (.slice A a.length ca) := DD.cell 0
                  have df := DD.frozen 0
                  go_simp
                  refine hK _ _ ?_
                  clear hK K
                  refine wpAny_done (by kernel_rfl) ?_ _
                  have D1 : Blk (u4.setCell ⟨w.heap.size, 0, none⟩ (.slice B2 (a.length + 1) p2)) w.heap.size #[.slice B2 (a.length + 1) p2, .slice B b.length cb, .int .i64 d] 53 := by simpa using DD.set 0 (.slice B2 (a.length + 1) p2)
                  have sk : Keep [w.heap.size] u4 (u4.setCell ⟨w.heap.size, 0, none⟩ (.slice B2 (a.length + 1) p2)) := (Keep.refl _ _).setCell _ _ (.inl (by simp))
                  have l4 := kk4.size
                  have l41 := C1.lt
                  have l42 := C3.lt
                  have RF := Lib.hid ((R4.out.keep (fun k hk hl => sk.block k hl (by simp; rintro rfl; exact hk.elim (fun hk => by have := (R4.out.lt _ hk).1; omega) (fun hk => by have := hG.out _ hk; omega)))).slice (by simp; unfold M47; omega))
                  have RL := Lib.hid (fun k hk => (R4.out.lt k hk).1)
                  have D3 := (C3.keep K4 (by simp)).keep sk (by simp; omega)
                  have kk5 : Keep [] w _ := (kk4.trans K4).new sk (fun i hi => .inr (by simp at hi; omega))
                  generalize u4.setCell ⟨w.heap.size, 0, none⟩ (.slice B2 (a.length + 1) p2) = w5 at *
                  clear dc df DD x0 y0 y1 y2 f2
                  go_wp2_with (first
                    | ((with_reducible refine wl_load 53 (.tmp 2) ?_ ?_); (with_reducible rfl); refine sx_loadW rfl 53 (.tmp 2) rfl w.heap.size #[.slice B2 (a.length + 1) p2, .slice B b.length cb, .int .i64 d] _ _ 3 rfl D1 Try.underlying53 rfl zRq_size rfl ?_; (try simp only [Act.put, List.setIfInBounds_toArray, List.set_cons_zero, List.set_cons_succ]))
                    | ((with_reducible refine wl_store 53 (.tmp 4) (.tmp 58) ?_ ?_); (with_reducible rfl); refine sx_storeW rfl 53 (.tmp 4) (.tmp 58) rfl w2.heap.size #[.slice B2 (a.length + 1) p2, .slice B b.length cb, .int .i64 d] zRq _ 3 rfl rfl D3 zRq_size rfl rfl rfl ?_; intro w9 b9 k9 z9; clear z9; (try simp only [Act.put, List.setIfInBounds_toArray, List.set_cons_zero, List.set_cons_succ])))
                  refine ret_cell2 rfl rfl rfl b9 Try.underlying53 rfl zRq_size _ rfl ?_
                  refine ⟨B2, p2, rfl, (RF.out.keep (k9.at _ (by intro i hi; simp at hi; subst hi; intro h; exact h.elim (fun h => by have := hG.out _ h; omega) (fun h => by have := RL.out _ h; omega)))).mono ?_, kk5.new k9 (fun i hi => .inr (by simp at hi; omega))⟩
                  rintro i (h | h) _
                  · exact .inl h
                  · exact .inr (by have := RL.out _ h; omega)
                exact AllReady.nil
              exact AllReady.nil
            exact AllReady.nil
          exact AllReady.nil
        exact AllReady.nil
      refine AllReady.cons rfl (fun K hK => ?_) ?_
      · refine step_loadM rfl 38 (.tmp 3) rfl w1.heap.size 0 (msgV m (.slice A1 m.b.j.sg.length c1) (.slice A2 m.b.q.length c2) (.slice A3 m.c.sg.length c3) (.slice A4 m.s.ts.length c4)) _ 21 rfl (fun j v hj => by rw [Nat.zero_add, (C2.keep K1 (by simp)).cell]; exact hj) Try.underlying38 rfl zMs_size rfl ?_
        refine hK _ _ ?_
        clear hK K
        refine wpAny_ready (rs := [3, 5]) (by kernel_rfl) (by simp) ?_
        refine AllReady.cons rfl (fun K hK => ?_) ?_
        · refine step_appM rfl (.tmp 50) (.tmp 52) rfl w4.heap.size G (.slice (some ⟨u0.heap.size, 0, none⟩) 0 0) [] a A ca rfl rfl R1.out (SliceOf.reads (hl4.out.keep (K1.at G (by simp)))) hG4.out (by simp; omega) K1.size ?_
          simp only [List.length_nil, Nat.zero_add, List.nil_append]
          intro B1 p1 u2 rN kN
          have K2 : Keep [] w4 u2 := K1.new kN (fun i hi => .inr (R1.out.lt i (by simpa using hi)).1)
          have R2 := Lib.hid rN
          clear rN kN
          refine hK _ _ ?_
          clear hK K
          refine wpAny_ready (rs := [5]) (by kernel_rfl) (by simp) ?_
          refine AllReady.cons rfl (fun K hK => ?_) ?_
          · refine step_oneM rfl (.tmp 54) rfl (msgV m (.slice A1 m.b.j.sg.length c1) (.slice A2 m.b.q.length c2) (.slice A3 m.c.sg.length c3) (.slice A4 m.s.ts.length c4)) rfl rfl ?_
            intro u3 bN kN zN
            clear zN
            have K3 := K2.trans kN
            have O3 := bN
            have R3 := Lib.hid (R2.out.keep (fun k _ hl => kN.block k hl (by simp)))
            clear bN kN
            refine hK _ _ ?_
            clear hK K
            refine wpAny_ready (rs := [6]) (by kernel_rfl) (by simp) ?_
            refine AllReady.cons rfl (fun K hK => ?_) ?_
            · refine step_appM rfl (.tmp 53) (.tmp 55) rfl w4.heap.size G (.slice B1 a.length p1) a [m] (some ⟨u2.heap.size, 0, none⟩) 1 rfl rfl R3.out (reads_one O3 ⟨_, _, _, _, rfl, hok4.out.keep (K3.at G (by simp))⟩) hG4.out (by simp; omega) K3.size ?_
              simp only [List.length_singleton]
              intro B2 p2 u4 rN kN
              have K4 : Keep [] w4 u4 := K3.new kN (fun i hi => .inr (R3.out.lt i (by simpa using hi)).1)
              have R4 := Lib.hid rN
              clear rN kN
              refine hK _ _ ?_
              clear hK K
              refine wpAny_ready (rs := [7]) (by kernel_rfl) (by simp) ?_
              refine AllReady.cons rfl (fun K hK => ?_) ?_
              · go_simp
                refine hK _ _ ?_
                clear hK K
                refine wpAny_ready (rs := [8]) (by kernel_rfl) (by simp) ?_
                refine AllReady.cons rfl (fun K hK => ?_) ?_
                · have DD := C1.keep K4 (by simp)
                  have dc : u4.cell? ⟨w.heap.size, 0, none⟩ = some (.slice A a.length ca) := DD.cell 0
                  have df := DD.frozen 0
                  go_simp
                  refine hK _ _ ?_
                  clear hK K
                  refine wpAny_done (by kernel_rfl) ?_ _
                  have D1 : Blk (u4.setCell ⟨w.heap.size, 0, none⟩ (.slice B2 (a.length + 1) p2)) w.heap.size #[.slice B2 (a.length + 1) p2, .slice B b.length cb, .int .i64 d] 53 := by simpa using DD.set 0 (.slice B2 (a.length + 1) p2)
                  have sk : Keep [w.heap.size] u4 (u4.setCell ⟨w.heap.size, 0, none⟩ (.slice B2 (a.length + 1) p2)) := (Keep.refl _ _).setCell _ _ (.inl (by simp))
                  have l4 := kk4.size
                  have l41 := C1.lt
                  have l42 := C3.lt
                  have RF := Lib.hid ((R4.out.keep (fun k hk hl => sk.block k hl (by simp; rintro rfl; exact hk.elim (fun hk => by have := (R4.out.lt _ hk).1; omega) (fun hk => by have := hG.out _ hk; omega)))).slice (by simp; unfold M47; omega))
                  have RL := Lib.hid (fun k hk => (R4.out.lt k hk).1)
                  have D3 := (C3.keep K4 (by simp)).keep sk (by simp; omega)
                  have kk5 : Keep [] w _ := (kk4.trans K4).new sk (fun i hi => .inr (by simp at hi; omega))
                  generalize u4.setCell ⟨w.heap.size, 0, none⟩ (.slice B2 (a.length + 1) p2) = w5 at *
                  clear dc df DD x0 y0 y1 y2 f2
                  go_wp2_with (first
                    | ((with_reducible refine wl_load 53 (.tmp 2) ?_ ?_); (with_reducible rfl); refine sx_loadW rfl 53 (.tmp 2) rfl w.heap.size #[.slice B2 (a.length + 1) p2, .slice B b.length cb, .int .i64 d] _ _ 3 rfl D1 Try.underlying53 rfl zRq_size rfl ?_; (try simp only [Act.put, List.setIfInBounds_toArray, List.set_cons_zero, List.set_cons_succ]))
                    | ((with_reducible refine wl_store 53 (.tmp 4) (.tmp 58) ?_ ?_); (with_reducible rfl); refine sx_storeW rfl 53 (.tmp 4) (.tmp 58) rfl w2.heap.size #[.slice B2 (a.length + 1) p2, .slice B b.length cb, .int .i64 d] zRq _ 3 rfl rfl D3 zRq_size rfl rfl rfl ?_; intro w9 b9 k9 z9; clear z9; (try simp only [Act.put, List.setIfInBounds_toArray, List.set_cons_zero, List.set_cons_succ])))
                  refine ret_cell2 rfl rfl rfl b9 Try.underlying53 rfl zRq_size _ rfl ?_
                  refine ⟨B2, p2, rfl, (RF.out.keep (k9.at _ (by intro i hi; simp at hi; subst hi; intro h; exact h.elim (fun h => by have := hG.out _ h; omega) (fun h => by have := RL.out _ h; omega)))).mono ?_, kk5.new k9 (fun i hi => .inr (by simp at hi; omega))⟩
                  rintro i (h | h) _
                  · exact .inl h
                  · exact .inr (by have := RL.out _ h; omega)
                exact AllReady.nil
              exact AllReady.nil
            exact AllReady.nil
          exact AllReady.nil
        refine AllReady.cons rfl (fun K hK => ?_) ?_
        · refine step_oneM rfl (.tmp 54) rfl (msgV m (.slice A1 m.b.j.sg.length c1) (.slice A2 m.b.q.length c2) (.slice A3 m.c.sg.length c3) (.slice A4 m.s.ts.length c4)) rfl rfl ?_
          intro u2 bN kN zN
          clear zN
          have K2 := K1.trans kN
          have O2 := bN
          have hne : u0.heap.size < u1.heap.size := (R1.out.lt _ rfl).2
          have R2 := Lib.hid (R1.out.keep (fun k _ hl => kN.block k hl (by simp)))
          clear bN kN
          refine hK _ _ ?_
          clear hK K
          refine wpAny_ready (rs := [3]) (by kernel_rfl) (by simp) ?_
          refine AllReady.cons rfl (fun K hK => ?_) ?_
          · refine step_appM rfl (.tmp 50) (.tmp 52) rfl w4.heap.size G (.slice (some ⟨u0.heap.size, 0, none⟩) 0 0) [] a A ca rfl rfl R2.out (SliceOf.reads (hl4.out.keep (K2.at G (by simp)))) hG4.out (by simp; omega) K2.size ?_
            simp only [List.length_nil, Nat.zero_add, List.nil_append]
            intro B1 p1 u3 rN kN
            have K3 : Keep [] w4 u3 := K2.new kN (fun i hi => .inr (R2.out.lt i (by simpa using hi)).1)
            have O3 := O2.keep kN (by simp [Value.ownBlock]; omega)
            have R3 := Lib.hid rN
            clear rN kN
            refine hK _ _ ?_
            clear hK K
            refine wpAny_ready (rs := [6]) (by kernel_rfl) (by simp) ?_
            refine AllReady.cons rfl (fun K hK => ?_) ?_
            · refine step_appM rfl (.tmp 53) (.tmp 55) rfl w4.heap.size G (.slice B1 a.length p1) a [m] (some ⟨u1.heap.size, 0, none⟩) 1 rfl rfl R3.out (reads_one O3 ⟨_, _, _, _, rfl, hok4.out.keep (K3.at G (by simp))⟩) hG4.out (by simp; omega) K3.size ?_
              simp only [List.length_singleton]
              intro B2 p2 u4 rN kN
              have K4 : Keep [] w4 u4 := K3.new kN (fun i hi => .inr (R3.out.lt i (by simpa using hi)).1)
              have R4 := Lib.hid rN
              clear rN kN
              refine hK _ _ ?_
              clear hK K
              refine wpAny_ready (rs := [7]) (by kernel_rfl) (by simp) ?_
              refine AllReady.cons rfl (fun K hK => ?_) ?_
              · go_simp
                refine hK _ _ ?_
                clear hK K
                refine wpAny_ready (rs := [8]) (by kernel_rfl) (by simp) ?_
                refine AllReady.cons rfl (fun K hK => ?_) ?_
                · have DD := C1.keep K4 (by simp)
                  have dc : u4.cell? ⟨w.heap.size, 0, none⟩ = some (.slice A a.length ca) := DD.cell 0
                  have df := DD.frozen 0
                  go_simp
                  refine hK _ _ ?_
                  clear hK K
                  refine wpAny_done (by kernel_rfl) ?_ _
                  have D1 : Blk (u4.setCell ⟨w.heap.size, 0, none⟩ (.slice B2 (a.length + 1) p2)) w.heap.size #[.slice B2 (a.length + 1) p2, .slice B b.length cb, .int .i64 d] 53 := by simpa using DD.set 0 (.slice B2 (a.length + 1) p2)
                  have sk : Keep [w.heap.size] u4 (u4.setCell ⟨w.heap.size, 0, none⟩ (.slice B2 (a.length + 1) p2)) := (Keep.refl _ _).setCell _ _ (.inl (by simp))
                  have l4 := kk4.size
                  have l41 := C1.lt
                  have l42 := C3.lt
                  have RF := Lib.hid ((R4.out.keep (fun k hk hl => sk.block k hl (by simp; rintro rfl; exact hk.elim (fun hk => by have := (R4.out.lt _ hk).1; omega) (fun hk => by have := hG.out _ hk; omega)))).slice (by simp; unfold M47; omega))
                  have RL := Lib.hid (fun k hk => (R4.out.lt k hk).1)
                  have D3 := (C3.keep K4 (by simp)).keep sk (by simp; omega)
                  have kk5 : Keep [] w _ := (kk4.trans K4).new sk (fun i hi => .inr (by simp at hi; omega))
                  generalize u4.setCell ⟨w.heap.size, 0, none⟩ (.slice B2 (a.length + 1) p2) = w5 at *
                  clear dc df DD x0 y0 y1 y2 f2
                  go_wp2_with (first
                    | ((with_reducible refine wl_load 53 (.tmp 2) ?_ ?_); (with_reducible rfl); refine sx_loadW rfl 53 (.tmp 2) rfl w.heap.size #[.slice B2 (a.length + 1) p2, .slice B b.length cb, .int .i64 d] _ _ 3 rfl D1 Try.underlying53 rfl zRq_size rfl ?_; (try simp only [Act.put, List.setIfInBounds_toArray, List.set_cons_zero, List.set_cons_succ]))
                    | ((with_reducible refine wl_store 53 (.tmp 4) (.tmp 58) ?_ ?_); (with_reducible rfl); refine sx_storeW rfl 53 (.tmp 4) (.tmp 58) rfl w2.heap.size #[.slice B2 (a.length + 1) p2, .slice B b.length cb, .int .i64 d] zRq _ 3 rfl rfl D3 zRq_size rfl rfl rfl ?_; intro w9 b9 k9 z9; clear z9; (try simp only [Act.put, List.setIfInBounds_toArray, List.set_cons_zero, List.set_cons_succ])))
                  refine ret_cell2 rfl rfl rfl b9 Try.underlying53 rfl zRq_size _ rfl ?_
                  refine ⟨B2, p2, rfl, (RF.out.keep (k9.at _ (by intro i hi; simp at hi; subst hi; intro h; exact h.elim (fun h => by have := hG.out _ h; omega) (fun h => by have := RL.out _ h; omega)))).mono ?_, kk5.new k9 (fun i hi => .inr (by simp at hi; omega))⟩
                  rintro i (h | h) _
                  · exact .inl h
                  · exact .inr (by have := RL.out _ h; omega)
                exact AllReady.nil
              exact AllReady.nil
            exact AllReady.nil
          exact AllReady.nil
        exact AllReady.nil
      exact AllReady.nil
    refine AllReady.cons rfl (fun K hK => ?_) ?_
    · refine step_loadM rfl 38 (.tmp 3) rfl w1.heap.size 0 (msgV m (.slice A1 m.b.j.sg.length c1) (.slice A2 m.b.q.length c2) (.slice A3 m.c.sg.length c3) (.slice A4 m.s.ts.length c4)) _ 21 rfl (fun j v hj => by rw [Nat.zero_add, (C2.keep K0 (by simp)).cell]; exact hj) Try.underlying38 rfl zMs_size rfl ?_
      refine hK _ _ ?_
      clear hK K
      refine wpAny_ready (rs := [0, 5]) (by kernel_rfl) (by simp) ?_
      refine AllReady.cons rfl (fun K hK => ?_) ?_
      · refine step_none rfl 51 38 rfl (.agg zMs) 21 272 Try.underlying51 infoMs ?_
        intro u1 bN kN zN
        clear zN
        have K1 := K0.trans kN
        have R1 : RowG Rep.ms 38 u1 w4.heap.size G (.slice (some ⟨u0.heap.size, 0, none⟩) 0 0) [] := RowG.empty _ _ _ _ _ _ bN K0.size
        replace R1 := Lib.hid R1
        clear bN kN
        refine hK _ _ ?_
        clear hK K
        refine wpAny_ready (rs := [3, 5]) (by kernel_rfl) (by simp) ?_
        refine AllReady.cons rfl (fun K hK => ?_) ?_
        · refine step_appM rfl (.tmp 50) (.tmp 52) rfl w4.heap.size G (.slice (some ⟨u0.heap.size, 0, none⟩) 0 0) [] a A ca rfl rfl R1.out (SliceOf.reads (hl4.out.keep (K1.at G (by simp)))) hG4.out (by simp; omega) K1.size ?_
          simp only [List.length_nil, Nat.zero_add, List.nil_append]
          intro B1 p1 u2 rN kN
          have K2 : Keep [] w4 u2 := K1.new kN (fun i hi => .inr (R1.out.lt i (by simpa using hi)).1)
          have R2 := Lib.hid rN
          clear rN kN
          refine hK _ _ ?_
          clear hK K
          refine wpAny_ready (rs := [5]) (by kernel_rfl) (by simp) ?_
          refine AllReady.cons rfl (fun K hK => ?_) ?_
          · refine step_oneM rfl (.tmp 54) rfl (msgV m (.slice A1 m.b.j.sg.length c1) (.slice A2 m.b.q.length c2) (.slice A3 m.c.sg.length c3) (.slice A4 m.s.ts.length c4)) rfl rfl ?_
            intro u3 bN kN zN
            clear zN
            have K3 := K2.trans kN
            have O3 := bN
            have R3 := Lib.hid (R2.out.keep (fun k _ hl => kN.block k hl (by simp)))
            clear bN kN
            refine hK _ _ ?_
            clear hK K
            refine wpAny_ready (rs := [6]) (by kernel_rfl) (by simp) ?_
            refine AllReady.cons rfl (fun K hK => ?_) ?_
            · refine step_appM rfl (.tmp 53) (.tmp 55) rfl w4.heap.size G (.slice B1 a.length p1) a [m] (some ⟨u2.heap.size, 0, none⟩) 1 rfl rfl R3.out (reads_one O3 ⟨_, _, _, _, rfl, hok4.out.keep (K3.at G (by simp))⟩) hG4.out (by simp; omega) K3.size ?_
              simp only [List.length_singleton]
              intro B2 p2 u4 rN kN
              have K4 : Keep [] w4 u4 := K3.new kN (fun i hi => .inr (R3.out.lt i (by simpa using hi)).1)
              have R4 := Lib.hid rN
              clear rN kN
              refine hK _ _ ?_
              clear hK K
              refine wpAny_ready (rs := [7]) (by kernel_rfl) (by simp) ?_
              refine AllReady.cons rfl (fun K hK => ?_) ?_
              · go_simp
                refine hK _ _ ?_
                clear hK K
                refine wpAny_ready (rs := [8]) (by kernel_rfl) (by simp) ?_
                refine AllReady.cons rfl (fun K hK => ?_) ?_
                · have DD := C1.keep K4 (by simp)
                  have dc : u4.cell? ⟨w.heap.size, 0, none⟩ = some (.slice A a.length ca) := DD.cell 0
                  have df := DD.frozen 0
                  go_simp
                  refine hK _ _ ?_
                  clear hK K
                  refine wpAny_done (by kernel_rfl) ?_ _
                  have D1 : Blk (u4.setCell ⟨w.heap.size, 0, none⟩ (.slice B2 (a.length + 1) p2)) w.heap.size #[.slice B2 (a.length + 1) p2, .slice B b.length cb, .int .i64 d] 53 := by simpa using DD.set 0 (.slice B2 (a.length + 1) p2)
                  have sk : Keep [w.heap.size] u4 (u4.setCell ⟨w.heap.size, 0, none⟩ (.slice B2 (a.length + 1) p2)) := (Keep.refl _ _).setCell _ _ (.inl (by simp))
                  have l4 := kk4.size
                  have l41 := C1.lt
                  have l42 := C3.lt
                  have RF := Lib.hid ((R4.out.keep (fun k hk hl => sk.block k hl (by simp; rintro rfl; exact hk.elim (fun hk => by have := (R4.out.lt _ hk).1; omega) (fun hk => by have := hG.out _ hk; omega)))).slice (by simp; unfold M47; omega))
                  have RL := Lib.hid (fun k hk => (R4.out.lt k hk).1)
                  have D3 := (C3.keep K4 (by simp)).keep sk (by simp; omega)
                  have kk5 : Keep [] w _ := (kk4.trans K4).new sk (fun i hi => .inr (by simp at hi; omega))
                  generalize u4.setCell ⟨w.heap.size, 0, none⟩ (.slice B2 (a.length + 1) p2) = w5 at *
                  clear dc df DD x0 y0 y1 y2 f2
                  go_wp2_with (first
                    | ((with_reducible refine wl_load 53 (.tmp 2) ?_ ?_); (with_reducible rfl); refine sx_loadW rfl 53 (.tmp 2) rfl w.heap.size #[.slice B2 (a.length + 1) p2, .slice B b.length cb, .int .i64 d] _ _ 3 rfl D1 Try.underlying53 rfl zRq_size rfl ?_; (try simp only [Act.put, List.setIfInBounds_toArray, List.set_cons_zero, List.set_cons_succ]))
                    | ((with_reducible refine wl_store 53 (.tmp 4) (.tmp 58) ?_ ?_); (with_reducible rfl); refine sx_storeW rfl 53 (.tmp 4) (.tmp 58) rfl w2.heap.size #[.slice B2 (a.length + 1) p2, .slice B b.length cb, .int .i64 d] zRq _ 3 rfl rfl D3 zRq_size rfl rfl rfl ?_; intro w9 b9 k9 z9; clear z9; (try simp only [Act.put, List.setIfInBounds_toArray, List.set_cons_zero, List.set_cons_succ])))
                  refine ret_cell2 rfl rfl rfl b9 Try.underlying53 rfl zRq_size _ rfl ?_
                  refine ⟨B2, p2, rfl, (RF.out.keep (k9.at _ (by intro i hi; simp at hi; subst hi; intro h; exact h.elim (fun h => by have := hG.out _ h; omega) (fun h => by have := RL.out _ h; omega)))).mono ?_, kk5.new k9 (fun i hi => .inr (by simp at hi; omega))⟩
                  rintro i (h | h) _
                  · exact .inl h
                  · exact .inr (by have := RL.out _ h; omega)
                exact AllReady.nil
              exact AllReady.nil
            exact AllReady.nil
          exact AllReady.nil
        refine AllReady.cons rfl (fun K hK => ?_) ?_
        · refine step_oneM rfl (.tmp 54) rfl (msgV m (.slice A1 m.b.j.sg.length c1) (.slice A2 m.b.q.length c2) (.slice A3 m.c.sg.length c3) (.slice A4 m.s.ts.length c4)) rfl rfl ?_
          intro u2 bN kN zN
          clear zN
          have K2 := K1.trans kN
          have O2 := bN
          have hne : u0.heap.size < u1.heap.size := (R1.out.lt _ rfl).2
          have R2 := Lib.hid (R1.out.keep (fun k _ hl => kN.block k hl (by simp)))
          clear bN kN
          refine hK _ _ ?_
          clear hK K
          refine wpAny_ready (rs := [3]) (by kernel_rfl) (by simp) ?_
          refine AllReady.cons rfl (fun K hK => ?_) ?_
          · refine step_appM rfl (.tmp 50) (.tmp 52) rfl w4.heap.size G (.slice (some ⟨u0.heap.size, 0, none⟩) 0 0) [] a A ca rfl rfl R2.out (SliceOf.reads (hl4.out.keep (K2.at G (by simp)))) hG4.out (by simp; omega) K2.size ?_
            simp only [List.length_nil, Nat.zero_add, List.nil_append]
            intro B1 p1 u3 rN kN
            have K3 : Keep [] w4 u3 := K2.new kN (fun i hi => .inr (R2.out.lt i (by simpa using hi)).1)
            have O3 := O2.keep kN (by simp [Value.ownBlock]; omega)
            have R3 := Lib.hid rN
            clear rN kN
            refine hK _ _ ?_
            clear hK K
            refine wpAny_ready (rs := [6]) (by kernel_rfl) (by simp) ?_
            refine AllReady.cons rfl (fun K hK => ?_) ?_
            · refine step_appM rfl (.tmp 53) (.tmp 55) rfl w4.heap.size G (.slice B1 a.length p1) a [m] (some ⟨u1.heap.size, 0, none⟩) 1 rfl rfl R3.out (reads_one O3 ⟨_, _, _, _, rfl, hok4.out.keep (K3.at G (by simp))⟩) hG4.out (by simp; omega) K3.size ?_
              simp only [List.length_singleton]
              intro B2 p2 u4 rN kN
              have K4 : Keep [] w4 u4 := K3.new kN (fun i hi => .inr (R3.out.lt i (by simpa using hi)).1)
              have R4 := Lib.hid rN
              clear rN kN
              refine hK _ _ ?_
              clear hK K
              refine wpAny_ready (rs := [7]) (by kernel_rfl) (by simp) ?_
              refine AllReady.cons rfl (fun K hK => ?_) ?_
              · go_simp
                refine hK _ _ ?_
                clear hK K
                refine wpAny_ready (rs := [8]) (by kernel_rfl) (by simp) ?_
                refine AllReady.cons rfl (fun K hK => ?_) ?_
                · have DD := C1.keep K4 (by simp)
                  have dc : u4.cell? ⟨w.heap.size, 0, none⟩ = some (.slice A a.length ca) := DD.cell 0
                  have df := DD.frozen 0
                  go_simp
                  refine hK _ _ ?_
                  clear hK K
                  refine wpAny_done (by kernel_rfl) ?_ _
                  have D1 : Blk (u4.setCell ⟨w.heap.size, 0, none⟩ (.slice B2 (a.length + 1) p2)) w.heap.size #[.slice B2 (a.length + 1) p2, .slice B b.length cb, .int .i64 d] 53 := by simpa using DD.set 0 (.slice B2 (a.length + 1) p2)
                  have sk : Keep [w.heap.size] u4 (u4.setCell ⟨w.heap.size, 0, none⟩ (.slice B2 (a.length + 1) p2)) := (Keep.refl _ _).setCell _ _ (.inl (by simp))
                  have l4 := kk4.size
                  have l41 := C1.lt
                  have l42 := C3.lt
                  have RF := Lib.hid ((R4.out.keep (fun k hk hl => sk.block k hl (by simp; rintro rfl; exact hk.elim (fun hk => by have := (R4.out.lt _ hk).1; omega) (fun hk => by have := hG.out _ hk; omega)))).slice (by simp; unfold M47; omega))
                  have RL := Lib.hid (fun k hk => (R4.out.lt k hk).1)
                  have D3 := (C3.keep K4 (by simp)).keep sk (by simp; omega)
                  have kk5 : Keep [] w _ := (kk4.trans K4).new sk (fun i hi => .inr (by simp at hi; omega))
                  generalize u4.setCell ⟨w.heap.size, 0, none⟩ (.slice B2 (a.length + 1) p2) = w5 at *
                  clear dc df DD x0 y0 y1 y2 f2
                  go_wp2_with (first
                    | ((with_reducible refine wl_load 53 (.tmp 2) ?_ ?_); (with_reducible rfl); refine sx_loadW rfl 53 (.tmp 2) rfl w.heap.size #[.slice B2 (a.length + 1) p2, .slice B b.length cb, .int .i64 d] _ _ 3 rfl D1 Try.underlying53 rfl zRq_size rfl ?_; (try simp only [Act.put, List.setIfInBounds_toArray, List.set_cons_zero, List.set_cons_succ]))
                    | ((with_reducible refine wl_store 53 (.tmp 4) (.tmp 58) ?_ ?_); (with_reducible rfl); refine sx_storeW rfl 53 (.tmp 4) (.tmp 58) rfl w2.heap.size #[.slice B2 (a.length + 1) p2, .slice B b.length cb, .int .i64 d] zRq _ 3 rfl rfl D3 zRq_size rfl rfl rfl ?_; intro w9 b9 k9 z9; clear z9; (try simp only [Act.put, List.setIfInBounds_toArray, List.set_cons_zero, List.set_cons_succ])))
                  refine ret_cell2 rfl rfl rfl b9 Try.underlying53 rfl zRq_size _ rfl ?_
                  refine ⟨B2, p2, rfl, (RF.out.keep (k9.at _ (by intro i hi; simp at hi; subst hi; intro h; exact h.elim (fun h => by have := hG.out _ h; omega) (fun h => by have := RL.out _ h; omega)))).mono ?_, kk5.new k9 (fun i hi => .inr (by simp at hi; omega))⟩
                  rintro i (h | h) _
                  · exact .inl h
                  · exact .inr (by have := RL.out _ h; omega)
                exact AllReady.nil
              exact AllReady.nil
            exact AllReady.nil
          exact AllReady.nil
        exact AllReady.nil
      refine AllReady.cons rfl (fun K hK => ?_) ?_
      · refine step_oneM rfl (.tmp 54) rfl (msgV m (.slice A1 m.b.j.sg.length c1) (.slice A2 m.b.q.length c2) (.slice A3 m.c.sg.length c3) (.slice A4 m.s.ts.length c4)) rfl rfl ?_
        intro u1 bN kN zN
        clear zN
        have K1 := K0.trans kN
        have O1 := bN
        clear bN kN
        refine hK _ _ ?_
        clear hK K
        refine wpAny_ready (rs := [0]) (by kernel_rfl) (by simp) ?_
        refine AllReady.cons rfl (fun K hK => ?_) ?_
        · refine step_none rfl 51 38 rfl (.agg zMs) 21 272 Try.underlying51 infoMs ?_
          intro u2 bN kN zN
          clear zN
          have K2 := K1.trans kN
          have R2 : RowG Rep.ms 38 u2 w4.heap.size G (.slice (some ⟨u1.heap.size, 0, none⟩) 0 0) [] := RowG.empty _ _ _ _ _ _ bN K1.size
          have hne : u0.heap.size < u1.heap.size := O1.lt
          have O2 := O1.keep kN (by simp)
          replace R2 := Lib.hid R2
          clear bN kN
          refine hK _ _ ?_
          clear hK K
          refine wpAny_ready (rs := [3]) (by kernel_rfl) (by simp) ?_
          refine AllReady.cons rfl (fun K hK => ?_) ?_
          · refine step_appM rfl (.tmp 50) (.tmp 52) rfl w4.heap.size G (.slice (some ⟨u1.heap.size, 0, none⟩) 0 0) [] a A ca rfl rfl R2.out (SliceOf.reads (hl4.out.keep (K2.at G (by simp)))) hG4.out (by simp; omega) K2.size ?_
            simp only [List.length_nil, Nat.zero_add, List.nil_append]
            intro B1 p1 u3 rN kN
            have K3 : Keep [] w4 u3 := K2.new kN (fun i hi => .inr (R2.out.lt i (by simpa using hi)).1)
            have O3 := O2.keep kN (by simp [Value.ownBlock]; omega)
            have R3 := Lib.hid rN
            clear rN kN
            refine hK _ _ ?_
            clear hK K
            refine wpAny_ready (rs := [6]) (by kernel_rfl) (by simp) ?_
            refine AllReady.cons rfl (fun K hK => ?_) ?_
            · refine step_appM rfl (.tmp 53) (.tmp 55) rfl w4.heap.size G (.slice B1 a.length p1) a [m] (some ⟨u0.heap.size, 0, none⟩) 1 rfl rfl R3.out (reads_one O3 ⟨_, _, _, _, rfl, hok4.out.keep (K3.at G (by simp))⟩) hG4.out (by simp; omega) K3.size ?_
              simp only [List.length_singleton]
              intro B2 p2 u4 rN kN
              have K4 : Keep [] w4 u4 := K3.new kN (fun i hi => .inr (R3.out.lt i (by simpa using hi)).1)
              have R4 := Lib.hid rN
              clear rN kN
              refine hK _ _ ?_
              clear hK K
              refine wpAny_ready (rs := [7]) (by kernel_rfl) (by simp) ?_
              refine AllReady.cons rfl (fun K hK => ?_) ?_
              · go_simp
                refine hK _ _ ?_
                clear hK K
                refine wpAny_ready (rs := [8]) (by kernel_rfl) (by simp) ?_
                refine AllReady.cons rfl (fun K hK => ?_) ?_
                · have DD := C1.keep K4 (by simp)
                  have dc : u4.cell? ⟨w.heap.size, 0, none⟩ = some (.slice A a.length ca) := DD.cell 0
                  have df := DD.frozen 0
                  go_simp
                  refine hK _ _ ?_
                  clear hK K
                  refine wpAny_done (by kernel_rfl) ?_ _
                  have D1 : Blk (u4.setCell ⟨w.heap.size, 0, none⟩ (.slice B2 (a.length + 1) p2)) w.heap.size #[.slice B2 (a.length + 1) p2, .slice B b.length cb, .int .i64 d] 53 := by simpa using DD.set 0 (.slice B2 (a.length + 1) p2)
                  have sk : Keep [w.heap.size] u4 (u4.setCell ⟨w.heap.size, 0, none⟩ (.slice B2 (a.length + 1) p2)) := (Keep.refl _ _).setCell _ _ (.inl (by simp))
                  have l4 := kk4.size
                  have l41 := C1.lt
                  have l42 := C3.lt
                  have RF := Lib.hid ((R4.out.keep (fun k hk hl => sk.block k hl (by simp; rintro rfl; exact hk.elim (fun hk => by have := (R4.out.lt _ hk).1; omega) (fun hk => by have := hG.out _ hk; omega)))).slice (by simp; unfold M47; omega))
                  have RL := Lib.hid (fun k hk => (R4.out.lt k hk).1)
                  have D3 := (C3.keep K4 (by simp)).keep sk (by simp; omega)
                  have kk5 : Keep [] w _ := (kk4.trans K4).new sk (fun i hi => .inr (by simp at hi; omega))
                  generalize u4.setCell ⟨w.heap.size, 0, none⟩ (.slice B2 (a.length + 1) p2) = w5 at *
                  clear dc df DD x0 y0 y1 y2 f2
                  go_wp2_with (first
                    | ((with_reducible refine wl_load 53 (.tmp 2) ?_ ?_); (with_reducible rfl); refine sx_loadW rfl 53 (.tmp 2) rfl w.heap.size #[.slice B2 (a.length + 1) p2, .slice B b.length cb, .int .i64 d] _ _ 3 rfl D1 Try.underlying53 rfl zRq_size rfl ?_; (try simp only [Act.put, List.setIfInBounds_toArray, List.set_cons_zero, List.set_cons_succ]))
                    | ((with_reducible refine wl_store 53 (.tmp 4) (.tmp 58) ?_ ?_); (with_reducible rfl); refine sx_storeW rfl 53 (.tmp 4) (.tmp 58) rfl w2.heap.size #[.slice B2 (a.length + 1) p2, .slice B b.length cb, .int .i64 d] zRq _ 3 rfl rfl D3 zRq_size rfl rfl rfl ?_; intro w9 b9 k9 z9; clear z9; (try simp only [Act.put, List.setIfInBounds_toArray, List.set_cons_zero, List.set_cons_succ])))
                  refine ret_cell2 rfl rfl rfl b9 Try.underlying53 rfl zRq_size _ rfl ?_
                  refine ⟨B2, p2, rfl, (RF.out.keep (k9.at _ (by intro i hi; simp at hi; subst hi; intro h; exact h.elim (fun h => by have := hG.out _ h; omega) (fun h => by have := RL.out _ h; omega)))).mono ?_, kk5.new k9 (fun i hi => .inr (by simp at hi; omega))⟩
                  rintro i (h | h) _
                  · exact .inl h
                  · exact .inr (by have := RL.out _ h; omega)
                exact AllReady.nil
              exact AllReady.nil
            exact AllReady.nil
          exact AllReady.nil
        exact AllReady.nil
      exact AllReady.nil
    exact AllReady.nil
  refine AllReady.cons rfl (fun K hK => ?_) ?_
  · refine step_loadM rfl 38 (.tmp 3) rfl w1.heap.size 0 (msgV m (.slice A1 m.b.j.sg.length c1) (.slice A2 m.b.q.length c2) (.slice A3 m.c.sg.length c3) (.slice A4 m.s.ts.length c4)) _ 21 rfl (fun j v hj => by rw [Nat.zero_add, (C2.keep K0 (by simp)).cell]; exact hj) Try.underlying38 rfl zMs_size rfl ?_
    refine hK _ _ ?_
    clear hK K
    refine wpAny_ready (rs := [0, 2, 5]) (by kernel_rfl) (by simp) ?_
    refine AllReady.cons rfl (fun K hK => ?_) ?_
    · refine step_none rfl 51 38 rfl (.agg zMs) 21 272 Try.underlying51 infoMs ?_
      intro u1 bN kN zN
      clear zN
      have K1 := K0.trans kN
      have R1 : RowG Rep.ms 38 u1 w4.heap.size G (.slice (some ⟨u0.heap.size, 0, none⟩) 0 0) [] := RowG.empty _ _ _ _ _ _ bN K0.size
      replace R1 := Lib.hid R1
      clear bN kN
      refine hK _ _ ?_
      clear hK K
      refine wpAny_ready (rs := [2, 5]) (by kernel_rfl) (by simp) ?_
      refine AllReady.cons rfl (fun K hK => ?_) ?_
      · have cc := K1.cell (by simp) y0
        go_simp
        clear cc
        refine hK _ _ ?_
        clear hK K
        refine wpAny_ready (rs := [3, 5]) (by kernel_rfl) (by simp) ?_
        refine AllReady.cons rfl (fun K hK => ?_) ?_
        · refine step_appM rfl (.tmp 50) (.tmp 52) rfl w4.heap.size G (.slice (some ⟨u0.heap.size, 0, none⟩) 0 0) [] a A ca rfl rfl R1.out (SliceOf.reads (hl4.out.keep (K1.at G (by simp)))) hG4.out (by simp; omega) K1.size ?_
          simp only [List.length_nil, Nat.zero_add, List.nil_append]
          intro B1 p1 u2 rN kN
          have K2 : Keep [] w4 u2 := K1.new kN (fun i hi => .inr (R1.out.lt i (by simpa using hi)).1)
          have R2 := Lib.hid rN
          clear rN kN
          refine hK _ _ ?_
          clear hK K
          refine wpAny_ready (rs := [5]) (by kernel_rfl) (by simp) ?_
          refine AllReady.cons rfl (fun K hK => ?_) ?_
          · refine step_oneM rfl (.tmp 54) rfl (msgV m (.slice A1 m.b.j.sg.length c1) (.slice A2 m.b.q.length c2) (.slice A3 m.c.sg.length c3) (.slice A4 m.s.ts.length c4)) rfl rfl ?_
            intro u3 bN kN zN
            clear zN
            have K3 := K2.trans kN
            have O3 := bN
            have R3 := Lib.hid (R2.out.keep (fun k _ hl => kN.block k hl (by simp)))
            clear bN kN
            refine hK _ _ ?_
            clear hK K
            refine wpAny_ready (rs := [6]) (by kernel_rfl) (by simp) ?_
            refine AllReady.cons rfl (fun K hK => ?_) ?_
            · refine step_appM rfl (.tmp 53) (.tmp 55) rfl w4.heap.size G (.slice B1 a.length p1) a [m] (some ⟨u2.heap.size, 0, none⟩) 1 rfl rfl R3.out (reads_one O3 ⟨_, _, _, _, rfl, hok4.out.keep (K3.at G (by simp))⟩) hG4.out (by simp; omega) K3.size ?_
              simp only [List.length_singleton]
              intro B2 p2 u4 rN kN
              have K4 : Keep [] w4 u4 := K3.new kN (fun i hi => .inr (R3.out.lt i (by simpa using hi)).1)
              have R4 := Lib.hid rN
              clear rN kN
              refine hK _ _ ?_
              clear hK K
              refine wpAny_ready (rs := [7]) (by kernel_rfl) (by simp) ?_
              refine AllReady.cons rfl (fun K hK => ?_) ?_
              · go_simp
                refine hK _ _ ?_
                clear hK K
                refine wpAny_ready (rs := [8]) (by kernel_rfl) (by simp) ?_
                refine AllReady.cons rfl (fun K hK => ?_) ?_
                · have DD := C1.keep K4 (by simp)
                  have dc : u4.cell? ⟨w.heap.size, 0, none⟩ = some (.slice A a.length ca) := DD.cell 0
                  have df := DD.frozen 0
                  go_simp
                  refine hK _ _ ?_
                  clear hK K
                  refine wpAny_done (by kernel_rfl) ?_ _
                  have D1 : Blk (u4.setCell ⟨w.heap.size, 0, none⟩ (.slice B2 (a.length + 1) p2)) w.heap.size #[.slice B2 (a.length + 1) p2, .slice B b.length cb, .int .i64 d] 53 := by simpa using DD.set 0 (.slice B2 (a.length + 1) p2)
                  have sk : Keep [w.heap.size] u4 (u4.setCell ⟨w.heap.size, 0, none⟩ (.slice B2 (a.length + 1) p2)) := (Keep.refl _ _).setCell _ _ (.inl (by simp))
                  have l4 := kk4.size
                  have l41 := C1.lt
                  have l42 := C3.lt
                  have RF := Lib.hid ((R4.out.keep (fun k hk hl => sk.block k hl (by simp; rintro rfl; exact hk.elim (fun hk => by have := (R4.out.lt _ hk).1; omega) (fun hk => by have := hG.out _ hk; omega)))).slice (by simp; unfold M47; omega))
                  have RL := Lib.hid (fun k hk => (R4.out.lt k hk).1)
                  have D3 := (C3.keep K4 (by simp)).keep sk (by simp; omega)
                  have kk5 : Keep [] w _ := (kk4.trans K4).new sk (fun i hi => .inr (by simp at hi; omega))
                  generalize u4.setCell ⟨w.heap.size, 0, none⟩ (.slice B2 (a.length + 1) p2) = w5 at *
                  clear dc df DD x0 y0 y1 y2 f2
                  go_wp2_with (first
                    | ((with_reducible refine wl_load 53 (.tmp 2) ?_ ?_); (with_reducible rfl); refine sx_loadW rfl 53 (.tmp 2) rfl w.heap.size #[.slice B2 (a.length + 1) p2, .slice B b.length cb, .int .i64 d] _ _ 3 rfl D1 Try.underlying53 rfl zRq_size rfl ?_; (try simp only [Act.put, List.setIfInBounds_toArray, List.set_cons_zero, List.set_cons_succ]))
                    | ((with_reducible refine wl_store 53 (.tmp 4) (.tmp 58) ?_ ?_); (with_reducible rfl); refine sx_storeW rfl 53 (.tmp 4) (.tmp 58) rfl w2.heap.size #[.slice B2 (a.length + 1) p2, .slice B b.length cb, .int .i64 d] zRq _ 3 rfl rfl D3 zRq_size rfl rfl rfl ?_; intro w9 b9 k9 z9; clear z9; (try simp only [Act.put, List.setIfInBounds_toArray, List.set_cons_zero, List.set_cons_succ])))
                  refine ret_cell2 rfl rfl rfl b9 Try.underlying53 rfl zRq_size _ rfl ?_
                  refine ⟨B2, p2, rfl, (RF.out.keep (k9.at _ (by intro i hi; simp at hi; subst hi; intro h; exact h.elim (fun h => by have := hG.out _ h; omega) (fun h => by have := RL.out _ h; omega)))).mono ?_, kk5.new k9 (fun i hi => .inr (by simp at hi; omega))⟩
                  rintro i (h | h) _
                  · exact .inl h
                  · exact .inr (by have := RL.out _ h; omega)
                exact AllReady.nil
              exact AllReady.nil
            exact AllReady.nil
          exact AllReady.nil
        refine AllReady.cons rfl (fun K hK => ?_) ?_
        · refine step_oneM rfl (.tmp 54) rfl (msgV m (.slice A1 m.b.j.sg.length c1) (.slice A2 m.b.q.length c2) (.slice A3 m.c.sg.length c3) (.slice A4 m.s.ts.length c4)) rfl rfl ?_
          intro u2 bN kN zN
          clear zN
          have K2 := K1.trans kN
          have O2 := bN
          have hne : u0.heap.size < u1.heap.size := (R1.out.lt _ rfl).2
          have R2 := Lib.hid (R1.out.keep (fun k _ hl => kN.block k hl (by simp)))
          clear bN kN
          refine hK _ _ ?_
          clear hK K
          refine wpAny_ready (rs := [3]) (by kernel_rfl) (by simp) ?_
          refine AllReady.cons rfl (fun K hK => ?_) ?_
          · refine step_appM rfl (.tmp 50) (.tmp 52) rfl w4.heap.size G (.slice (some ⟨u0.heap.size, 0, none⟩) 0 0) [] a A ca rfl rfl R2.out (SliceOf.reads (hl4.out.keep (K2.at G (by simp)))) hG4.out (by simp; omega) K2.size ?_
            simp only [List.length_nil, Nat.zero_add, List.nil_append]
            intro B1 p1 u3 rN kN
            have K3 : Keep [] w4 u3 := K2.new kN (fun i hi => .inr (R2.out.lt i (by simpa using hi)).1)
            have O3 := O2.keep kN (by simp [Value.ownBlock]; omega)
            have R3 := Lib.hid rN
            clear rN kN
            refine hK _ _ ?_
            clear hK K
            refine wpAny_ready (rs := [6]) (by kernel_rfl) (by simp) ?_
            refine AllReady.cons rfl (fun K hK => ?_) ?_
            · refine step_appM rfl (.tmp 53) (.tmp 55) rfl w4.heap.size G (.slice B1 a.length p1) a [m] (some ⟨u1.heap.size, 0, none⟩) 1 rfl rfl R3.out (reads_one O3 ⟨_, _, _, _, rfl, hok4.out.keep (K3.at G (by simp))⟩) hG4.out (by simp; omega) K3.size ?_
              simp only [List.length_singleton]
              intro B2 p2 u4 rN kN
              have K4 : Keep [] w4 u4 := K3.new kN (fun i hi => .inr (R3.out.lt i (by simpa using hi)).1)
              have R4 := Lib.hid rN
              clear rN kN
              refine hK _ _ ?_
              clear hK K
              refine wpAny_ready (rs := [7]) (by kernel_rfl) (by simp) ?_
              refine AllReady.cons rfl (fun K hK => ?_) ?_
              · go_simp
                refine hK _ _ ?_
                clear hK K
                refine wpAny_ready (rs := [8]) (by kernel_rfl) (by simp) ?_
                refine AllReady.cons rfl (fun K hK => ?_) ?_
                · have DD := C1.keep K4 (by simp)
                  have dc : u4.cell? ⟨w.heap.size, 0, none⟩ = some (.slice A a.length ca) := DD.cell 0
                  have df := DD.frozen 0
                  go_simp
                  refine hK _ _ ?_
                  clear hK K
                  refine wpAny_done (by kernel_rfl) ?_ _
                  have D1 : Blk (u4.setCell ⟨w.heap.size, 0, none⟩ (.slice B2 (a.length + 1) p2)) w.heap.size #[.slice B2 (a.length + 1) p2, .slice B b.length cb, .int .i64 d] 53 := by simpa using DD.set 0 (.slice B2 (a.length + 1) p2)
                  have sk : Keep [w.heap.size] u4 (u4.setCell ⟨w.heap.size, 0, none⟩ (.slice B2 (a.length + 1) p2)) := (Keep.refl _ _).setCell _ _ (.inl (by simp))
                  have l4 := kk4.size
                  have l41 := C1.lt
                  have l42 := C3.lt
                  have RF := Lib.hid ((R4.out.keep (fun k hk hl => sk.block k hl (by simp; rintro rfl; exact hk.elim (fun hk => by have := (R4.out.lt _ hk).1; omega) (fun hk => by have := hG.out _ hk; omega)))).slice (by simp; unfold M47; omega))
                  have RL := Lib.hid (fun k hk => (R4.out.lt k hk).1)
                  have D3 := (C3.keep K4 (by simp)).keep sk (by simp; omega)
                  have kk5 : Keep [] w _ := (kk4.trans K4).new sk (fun i hi => .inr (by simp at hi; omega))
                  generalize u4.setCell ⟨w.heap.size, 0, none⟩ (.slice B2 (a.length + 1) p2) = w5 at *
                  clear dc df DD x0 y0 y1 y2 f2
                  go_wp2_with (first
                    | ((with_reducible refine wl_load 53 (.tmp 2) ?_ ?_); (with_reducible rfl); refine sx_loadW rfl 53 (.tmp 2) rfl w.heap.size #[.slice B2 (a.length + 1) p2, .slice B b.length cb, .int .i64 d] _ _ 3 rfl D1 Try.underlying53 rfl zRq_size rfl ?_; (try simp only [Act.put, List.setIfInBounds_toArray, List.set_cons_zero, List.set_cons_succ]))
                    | ((with_reducible refine wl_store 53 (.tmp 4) (.tmp 58) ?_ ?_); (with_reducible rfl); refine sx_storeW rfl 53 (.tmp 4) (.tmp 58) rfl w2.heap.size #[.slice B2 (a.length + 1) p2, .slice B b.length cb, .int .i64 d] zRq _ 3 rfl rfl D3 zRq_size rfl rfl rfl ?_; intro w9 b9 k9 z9; clear z9; (try simp only [Act.put, List.setIfInBounds_toArray, List.set_cons_zero, List.set_cons_succ])))
                  refine ret_cell2 rfl rfl rfl b9 Try.underlying53 rfl zRq_size _ rfl ?_
                  refine ⟨B2, p2, rfl, (RF.out.keep (k9.at _ (by intro i hi; simp at hi; subst hi; intro h; exact h.elim (fun h => by have := hG.out _ h; omega) (fun h => by have := RL.out _ h; omega)))).mono ?_, kk5.new k9 (fun i hi => .inr (by simp at hi; omega))⟩
                  rintro i (h | h) _
                  · exact .inl h
                  · exact .inr (by have := RL.out _ h; omega)
                exact AllReady.nil
              exact AllReady.nil
            exact AllReady.nil
          exact AllReady.nil
        exact AllReady.nil
      refine AllReady.cons rfl (fun K hK => ?_) ?_
      · refine step_oneM rfl (.tmp 54) rfl (msgV m (.slice A1 m.b.j.sg.length c1) (.slice A2 m.b.q.length c2) (.slice A3 m.c.sg.length c3) (.slice A4 m.s.ts.length c4)) rfl rfl ?_
        intro u2 bN kN zN
        clear zN
        have K2 := K1.trans kN
        have O2 := bN
        have hne : u0.heap.size < u1.heap.size := (R1.out.lt _ rfl).2
        have R2 := Lib.hid (R1.out.keep (fun k _ hl => kN.block k hl (by simp)))
        clear bN kN
        refine hK _ _ ?_
        clear hK K
        refine wpAny_ready (rs := [2]) (by kernel_rfl) (by simp) ?_
        refine AllReady.cons rfl (fun K hK => ?_) ?_
        · have cc := K2.cell (by simp) y0
          go_simp
          clear cc
          refine hK _ _ ?_
          clear hK K
          refine wpAny_ready (rs := [3]) (by kernel_rfl) (by simp) ?_
          refine AllReady.cons rfl (fun K hK => ?_) ?_
          · refine step_appM rfl (.tmp 50) (.tmp 52) rfl w4.heap.size G (.slice (some ⟨u0.heap.size, 0, none⟩) 0 0) [] a A ca rfl rfl R2.out (SliceOf.reads (hl4.out.keep (K2.at G (by simp)))) hG4.out (by simp; omega) K2.size ?_
            simp only [List.length_nil, Nat.zero_add, List.nil_append]
            intro B1 p1 u3 rN kN
            have K3 : Keep [] w4 u3 := K2.new kN (fun i hi => .inr (R2.out.lt i (by simpa using hi)).1)
            have O3 := O2.keep kN (by simp [Value.ownBlock]; omega)
            have R3 := Lib.hid rN
            clear rN kN
            refine hK _ _ ?_
            clear hK K
            refine wpAny_ready (rs := [6]) (by kernel_rfl) (by simp) ?_
            refine AllReady.cons rfl (fun K hK => ?_) ?_
            · refine step_appM rfl (.tmp 53) (.tmp 55) rfl w4.heap.size G (.slice B1 a.length p1) a [m] (some ⟨u1.heap.size, 0, none⟩) 1 rfl rfl R3.out (reads_one O3 ⟨_, _, _, _, rfl, hok4.out.keep (K3.at G (by simp))⟩) hG4.out (by simp; omega) K3.size ?_
              simp only [List.length_singleton]
              intro B2 p2 u4 rN kN
              have K4 : Keep [] w4 u4 := K3.new kN (fun i hi => .inr (R3.out.lt i (by simpa using hi)).1)
              have R4 := Lib.hid rN
              clear rN kN
              refine hK _ _ ?_
              clear hK K
              refine wpAny_ready (rs := [7]) (by kernel_rfl) (by simp) ?_
              refine AllReady.cons rfl (fun K hK => ?_) ?_
              · go_simp
                refine hK _ _ ?_
                clear hK K
                refine wpAny_ready (rs := [8]) (by kernel_rfl) (by simp) ?_
                refine AllReady.cons rfl (fun K hK => ?_) ?_
                · have DD := C1.keep K4 (by simp)
                  have dc : u4.cell? ⟨w.heap.size, 0, none⟩ = some (.slice A a.length ca) := DD.cell 0
                  have df := DD.frozen 0
                  go_simp
                  refine hK _ _ ?_
                  clear hK K
                  refine wpAny_done (by kernel_rfl) ?_ _
                  have D1 : Blk (u4.setCell ⟨w.heap.size, 0, none⟩ (.slice B2 (a.length + 1) p2)) w.heap.size #[.slice B2 (a.length + 1) p2, .slice B b.length cb, .int .i64 d] 53 := by simpa using DD.set 0 (.slice B2 (a.length + 1) p2)
                  have sk : Keep [w.heap.size] u4 (u4.setCell ⟨w.heap.size, 0, none⟩ (.slice B2 (a.length + 1) p2)) := (Keep.refl _ _).setCell _ _ (.inl (by simp))
                  have l4 := kk4.size
                  have l41 := C1.lt
                  have l42 := C3.lt
                  have RF := Lib.hid ((R4.out.keep (fun k hk hl => sk.block k hl (by simp; rintro rfl; exact hk.elim (fun hk => by have := (R4.out.lt _ hk).1; omega) (fun hk => by have := hG.out _ hk; omega)))).slice (by simp; unfold M47; omega))
                  have RL := Lib.hid (fun k hk => (R4.out.lt k hk).1)
                  have D3 := (C3.keep K4 (by simp)).keep sk (by simp; omega)
                  have kk5 : Keep [] w _ := (kk4.trans K4).new sk (fun i hi => .inr (by simp at hi; omega))
                  generalize u4.setCell ⟨w.heap.size, 0, none⟩ (.slice B2 (a.length + 1) p2) = w5 at *
                  clear dc df DD x0 y0 y1 y2 f2
                  go_wp2_with (first
                    | ((with_reducible refine wl_load 53 (.tmp 2) ?_ ?_); (with_reducible rfl); refine sx_loadW rfl 53 (.tmp 2) rfl w.heap.size #[.slice B2 (a.length + 1) p2, .slice B b.length cb, .int .i64 d] _ _ 3 rfl D1 Try.underlying53 rfl zRq_size rfl ?_; (try simp only [Act.put, List.setIfInBounds_toArray, List.set_cons_zero, List.set_cons_succ]))
                    | ((with_reducible refine wl_store 53 (.tmp 4) (.tmp 58) ?_ ?_); (with_reducible rfl); refine sx_storeW rfl 53 (.tmp 4) (.tmp 58) rfl w2.heap.size #[.slice B2 (a.length + 1) p2, .slice B b.length cb, .int .i64 d] zRq _ 3 rfl rfl D3 zRq_size rfl rfl rfl ?_; intro w9 b9 k9 z9; clear z9; (try simp only [Act.put, List.setIfInBounds_toArray, List.set_cons_zero, List.set_cons_succ])))
                  refine ret_cell2 rfl rfl rfl b9 Try.underlying53 rfl zRq_size _ rfl ?_
                  refine ⟨B2, p2, rfl, (RF.out.keep (k9.at _ (by intro i hi; simp at hi; subst hi; intro h; exact h.elim (fun h => by have := hG.out _ h; omega) (fun h => by have := RL.out _ h; omega)))).mono ?_, kk5.new k9 (fun i hi => .inr (by simp at hi; omega))⟩
                  rintro i (h | h) _
                  · exact .inl h
                  · exact .inr (by have := RL.out _ h; omega)
                exact AllReady.nil
              exact AllReady.nil
            exact AllReady.nil
          exact AllReady.nil
        exact AllReady.nil
      exact AllReady.nil
    refine AllReady.cons rfl (fun K hK => ?_) ?_
    · have cc := K0.cell (by simp) y0
      go_simp
      clear cc
      refine hK _ _ ?_
      clear hK K
      refine wpAny_ready (rs := [0, 5]) (by kernel_rfl) (by simp) ?_
      refine AllReady.cons rfl (fun K hK => ?_) ?_
      · refine step_none rfl 51 38 rfl (.agg zMs) 21 272 Try.underlying51 infoMs ?_
        intro u1 bN kN zN
        clear zN
        have K1 := K0.trans kN
        have R1 : RowG Rep.ms 38 u1 w4.heap.size G (.slice (some ⟨u0.heap.size, 0, none⟩) 0 0) [] := RowG.empty _ _ _ _ _ _ bN K0.size
        replace R1 := Lib.hid R1
        clear bN kN
        refine hK _ _ ?_
        clear hK K
        refine wpAny_ready (rs := [3, 5]) (by kernel_rfl) (by simp) ?_
        refine AllReady.cons rfl (fun K hK => ?_) ?_
        · refine step_appM rfl (.tmp 50) (.tmp 52) rfl w4.heap.size G (.slice (some ⟨u0.heap.size, 0, none⟩) 0 0) [] a A ca rfl rfl R1.out (SliceOf.reads (hl4.out.keep (K1.at G (by simp)))) hG4.out (by simp; omega) K1.size ?_
          simp only [List.length_nil, Nat.zero_add, List.nil_append]
          intro B1 p1 u2 rN kN
          have K2 : Keep [] w4 u2 := K1.new kN (fun i hi => .inr (R1.out.lt i (by simpa using hi)).1)
          have R2 := Lib.hid rN
          clear rN kN
          refine hK _ _ ?_
          clear hK K
          refine wpAny_ready (rs := [5]) (by kernel_rfl) (by simp) ?_
          refine AllReady.cons rfl (fun K hK => ?_) ?_
          · refine step_oneM rfl (.tmp 54) rfl (msgV m (.slice A1 m.b.j.sg.length c1) (.slice A2 m.b.q.length c2) (.slice A3 m.c.sg.length c3) (.slice A4 m.s.ts.length c4)) rfl rfl ?_
            intro u3 bN kN zN
            clear zN
            have K3 := K2.trans kN
            have O3 := bN
            have R3 := Lib.hid (R2.out.keep (fun k _ hl => kN.block k hl (by simp)))
            clear bN kN
            refine hK _ _ ?_
            clear hK K
            refine wpAny_ready (rs := [6]) (by kernel_rfl) (by simp) ?_
            refine AllReady.cons rfl (fun K hK => ?_) ?_
            · refine step_appM rfl (.tmp 53) (.tmp 55) rfl w4.heap.size G (.slice B1 a.length p1) a [m] (some ⟨u2.heap.size, 0, none⟩) 1 rfl rfl R3.out (reads_one O3 ⟨_, _, _, _, rfl, hok4.out.keep (K3.at G (by simp))⟩) hG4.out (by simp; omega) K3.size ?_
              simp only [List.length_singleton]
              intro B2 p2 u4 rN kN
              have K4 : Keep [] w4 u4 := K3.new kN (fun i hi => .inr (R3.out.lt i (by simpa using hi)).1)
              have R4 := Lib.hid rN
              clear rN kN
              refine hK _ _ ?_
              clear hK K
              refine wpAny_ready (rs := [7]) (by kernel_rfl) (by simp) ?_
              refine AllReady.cons rfl (fun K hK => ?_) ?_
              · go_simp
                refine hK _ _ ?_
                clear hK K
                refine wpAny_ready (rs := [8]) (by kernel_rfl) (by simp) ?_
                refine AllReady.cons rfl (fun K hK => ?_) ?_
                · have DD := C1.keep K4 (by simp)
                  have dc : u4.cell? ⟨w.heap.size, 0, none⟩ = some (.slice A a.length ca) := DD.cell 0
                  have df := DD.frozen 0
                  go_simp
                  refine hK _ _ ?_
                  clear hK K
                  refine wpAny_done (by kernel_rfl) ?_ _
                  have D1 : Blk (u4.setCell ⟨w.heap.size, 0, none⟩ (.slice B2 (a.length + 1) p2)) w.heap.size #[.slice B2 (a.length + 1) p2, .slice B b.length cb, .int .i64 d] 53 := by simpa using DD.set 0 (.slice B2 (a.length + 1) p2)
                  have sk : Keep [w.heap.size] u4 (u4.setCell ⟨w.heap.size, 0, none⟩ (.slice B2 (a.length + 1) p2)) := (Keep.refl _ _).setCell _ _ (.inl (by simp))
                  have l4 := kk4.size
                  have l41 := C1.lt
                  have l42 := C3.lt
                  have RF := Lib.hid ((R4.out.keep (fun k hk hl => sk.block k hl (by simp; rintro rfl; exact hk.elim (fun hk => by have := (R4.out.lt _ hk).1; omega) (fun hk => by have := hG.out _ hk; omega)))).slice (by simp; unfold M47; omega))
                  have RL := Lib.hid (fun k hk => (R4.out.lt k hk).1)
                  have D3 := (C3.keep K4 (by simp)).keep sk (by simp; omega)
                  have kk5 : Keep [] w _ := (kk4.trans K4).new sk (fun i hi => .inr (by simp at hi; omega))
                  generalize u4.setCell ⟨w.heap.size, 0, none⟩ (.slice B2 (a.length + 1) p2) = w5 at *
                  clear dc df DD x0 y0 y1 y2 f2
                  go_wp2_with (first
                    | ((with_reducible refine wl_load 53 (.tmp 2) ?_ ?_); (with_reducible rfl); refine sx_loadW rfl 53 (.tmp 2) rfl w.heap.size #[.slice B2 (a.length + 1) p2, .slice B b.length cb, .int .i64 d] _ _ 3 rfl D1 Try.underlying53 rfl zRq_size rfl ?_; (try simp only [Act.put, List.setIfInBounds_toArray, List.set_cons_zero, List.set_cons_succ]))
                    | ((with_reducible refine wl_store 53 (.tmp 4) (.tmp 58) ?_ ?_); (with_reducible rfl); refine sx_storeW rfl 53 (.tmp 4) (.tmp 58) rfl w2.heap.size #[.slice B2 (a.length + 1) p2, .slice B b.length cb, .int .i64 d] zRq _ 3 rfl rfl D3 zRq_size rfl rfl rfl ?_; intro w9 b9 k9 z9; clear z9; (try simp only [Act.put, List.setIfInBounds_toArray, List.set_cons_zero, List.set_cons_succ])))
                  refine ret_cell2 rfl rfl rfl b9 Try.underlying53 rfl zRq_size _ rfl ?_
                  refine ⟨B2, p2, rfl, (RF.out.keep (k9.at _ (by intro i hi; simp at hi; subst hi; intro h; exact h.elim (fun h => by have := hG.out _ h; omega) (fun h => by have := RL.out _ h; omega)))).mono ?_, kk5.new k9 (fun i hi => .inr (by simp at hi; omega))⟩
                  rintro i (h | h) _
                  · exact .inl h
                  · exact .inr (by have := RL.out _ h; omega)
                exact AllReady.nil
              exact AllReady.nil
            exact AllReady.nil
          exact AllReady.nil
        refine AllReady.cons rfl (fun K hK => ?_) ?_
        · refine step_oneM rfl (.tmp 54) rfl (msgV m (.slice A1 m.b.j.sg.length c1) (.slice A2 m.b.q.length c2) (.slice A3 m.c.sg.length c3) (.slice A4 m.s.ts.length c4)) rfl rfl ?_
          intro u2 bN kN zN
          clear zN
          have K2 := K1.trans kN
          have O2 := bN
          have hne : u0.heap.size < u1.heap.size := (R1.out.lt _ rfl).2
          have R2 := Lib.hid (R1.out.keep (fun k _ hl => kN.block k hl (by simp)))
          clear bN kN
          refine hK _ _ ?_
          clear hK K
          refine wpAny_ready (rs := [3]) (by kernel_rfl) (by simp) ?_
          refine AllReady.cons rfl (fun K hK => ?_) ?_
          · refine step_appM rfl (.tmp 50) (.tmp 52) rfl w4.heap.size G (.slice (some ⟨u0.heap.size, 0, none⟩) 0 0) [] a A ca rfl rfl R2.out (SliceOf.reads (hl4.out.keep (K2.at G (by simp)))) hG4.out (by simp; omega) K2.size ?_
            simp only [List.length_nil, Nat.zero_add, List.nil_append]
            intro B1 p1 u3 rN kN
            have K3 : Keep [] w4 u3 := K2.new kN (fun i hi => .inr (R2.out.lt i (by simpa using hi)).1)
            have O3 := O2.keep kN (by simp [Value.ownBlock]; omega)
            have R3 := Lib.hid rN
            clear rN kN
            refine hK _ _ ?_
            clear hK K
            refine wpAny_ready (rs := [6]) (by kernel_rfl) (by simp) ?_
            refine AllReady.cons rfl (fun K hK => ?_) ?_
            · refine step_appM rfl (.tmp 53) (.tmp 55) rfl w4.heap.size G (.slice B1 a.length p1) a [m] (some ⟨u1.heap.size, 0, none⟩) 1 rfl rfl R3.out (reads_one O3 ⟨_, _, _, _, rfl, hok4.out.keep (K3.at G (by simp))⟩) hG4.out (by simp; omega) K3.size ?_
              simp only [List.length_singleton]
              intro B2 p2 u4 rN kN
              have K4 : Keep [] w4 u4 := K3.new kN (fun i hi => .inr (R3.out.lt i (by simpa using hi)).1)
              have R4 := Lib.hid rN
              clear rN kN
              refine hK _ _ ?_
              clear hK K
              refine wpAny_ready (rs := [7]) (by kernel_rfl) (by simp) ?_
              refine AllReady.cons rfl (fun K hK => ?_) ?_
              · go_simp
                refine hK _ _ ?_
                clear hK K
                refine wpAny_ready (rs := [8]) (by kernel_rfl) (by simp) ?_
                refine AllReady.cons rfl (fun K hK => ?_) ?_
                · have DD := C1.keep K4 (by simp)
                  have dc : u4.cell? ⟨w.heap.size, 0, none⟩ = some (.slice A a.length ca) := DD.cell 0
                  have df := DD.frozen 0
                  go_simp
                  refine hK _ _ ?_
                  clear hK K
                  refine wpAny_done (by kernel_rfl) ?_ _
                  have D1 : Blk (u4.setCell ⟨w.heap.size, 0, none⟩ (.slice B2 (a.length + 1) p2)) w.heap.size #[.slice B2 (a.length + 1) p2, .slice B b.length cb, .int .i64 d] 53 := by simpa using DD.set 0 (.slice B2 (a.length + 1) p2)
                  have sk : Keep [w.heap.size] u4 (u4.setCell ⟨w.heap.size, 0, none⟩ (.slice B2 (a.length + 1) p2)) := (Keep.refl _ _).setCell _ _ (.inl (by simp))
                  have l4 := kk4.size
                  have l41 := C1.lt
                  have l42 := C3.lt
                  have RF := Lib.hid ((R4.out.keep (fun k hk hl => sk.block k hl (by simp; rintro rfl; exact hk.elim (fun hk => by have := (R4.out.lt _ hk).1; omega) (fun hk => by have := hG.out _ hk; omega)))).slice (by simp; unfold M47; omega))
                  have RL := Lib.hid (fun k hk => (R4.out.lt k hk).1)
                  have D3 := (C3.keep K4 (by simp)).keep sk (by simp; omega)
                  have kk5 : Keep [] w _ := (kk4.trans K4).new sk (fun i hi => .inr (by simp at hi; omega))
                  generalize u4.setCell ⟨w.heap.size, 0, none⟩ (.slice B2 (a.length + 1) p2) = w5 at *
                  clear dc df DD x0 y0 y1 y2 f2
                  go_wp2_with (first
                    | ((with_reducible refine wl_load 53 (.tmp 2) ?_ ?_); (with_reducible rfl); refine sx_loadW rfl 53 (.tmp 2) rfl w.heap.size #[.slice B2 (a.length + 1) p2, .slice B b.length cb, .int .i64 d] _ _ 3 rfl D1 Try.underlying53 rfl zRq_size rfl ?_; (try simp only [Act.put, List.setIfInBounds_toArray, List.set_cons_zero, List.set_cons_succ]))
                    | ((with_reducible refine wl_store 53 (.tmp 4) (.tmp 58) ?_ ?_); (with_reducible rfl); refine sx_storeW rfl 53 (.tmp 4) (.tmp 58) rfl w2.heap.size #[.slice B2 (a.length + 1) p2, .slice B b.length cb, .int .i64 d] zRq _ 3 rfl rfl D3 zRq_size rfl rfl rfl ?_; intro w9 b9 k9 z9; clear z9; (try simp only [Act.put, List.setIfInBounds_toArray, List.set_cons_zero, List.set_cons_succ])))
                  refine ret_cell2 rfl rfl rfl b9 Try.underlying53 rfl zRq_size _ rfl ?_
                  refine ⟨B2, p2, rfl, (RF.out.keep (k9.at _ (by intro i hi; simp at hi; subst hi; intro h; exact h.elim (fun h => by have := hG.out _ h; omega) (fun h => by have := RL.out _ h; omega)))).mono ?_, kk5.new k9 (fun i hi => .inr (by simp at hi; omega))⟩
                  rintro i (h | h) _
                  · exact .inl h
                  · exact .inr (by have := RL.out _ h; omega)
                exact AllReady.nil
              exact AllReady.nil
            exact AllReady.nil
          exact AllReady.nil
        exact AllReady.nil
      refine AllReady.cons rfl (fun K hK => ?_) ?_
      · refine step_oneM rfl (.tmp 54) rfl (msgV m (.slice A1 m.b.j.sg.length c1) (.slice A2 m.b.q.length c2) (.slice A3 m.c.sg.length c3) (.slice A4 m.s.ts.length c4)) rfl rfl ?_
        intro u1 bN kN zN
        clear zN
        have K1 := K0.trans kN
        have O1 := bN
        clear bN kN
        refine hK _ _ ?_
        clear hK K
        refine wpAny_ready (rs := [0]) (by kernel_rfl) (by simp) ?_
        refine AllReady.cons rfl (fun K hK => ?_) ?_
        · refine step_none rfl 51 38 rfl (.agg zMs) 21 272 Try.underlying51 infoMs ?_
          intro u2 bN kN zN
          clear zN
          have K2 := K1.trans kN
          have R2 : RowG Rep.ms 38 u2 w4.heap.size G (.slice (some ⟨u1.heap.size, 0, none⟩) 0 0) [] := RowG.empty _ _ _ _ _ _ bN K1.size
          have hne : u0.heap.size < u1.heap.size := O1.lt
          have O2 := O1.keep kN (by simp)
          replace R2 := Lib.hid R2
          clear bN kN
          refine hK _ _ ?_
          clear hK K
          refine wpAny_ready (rs := [3]) (by kernel_rfl) (by simp) ?_
          refine AllReady.cons rfl (fun K hK => ?_) ?_
          · refine step_appM rfl (.tmp 50) (.tmp 52) rfl w4.heap.size G (.slice (some ⟨u1.heap.size, 0, none⟩) 0 0) [] a A ca rfl rfl R2.out (SliceOf.reads (hl4.out.keep (K2.at G (by simp)))) hG4.out (by simp; omega) K2.size ?_
            simp only [List.length_nil, Nat.zero_add, List.nil_append]
            intro B1 p1 u3 rN kN
            have K3 : Keep [] w4 u3 := K2.new kN (fun i hi => .inr (R2.out.lt i (by simpa using hi)).1)
            have O3 := O2.keep kN (by simp [Value.ownBlock]; omega)
            have R3 := Lib.hid rN
            clear rN kN
            refine hK _ _ ?_
            clear hK K
            refine wpAny_ready (rs := [6]) (by kernel_rfl) (by simp) ?_
            refine AllReady.cons rfl (fun K hK => ?_) ?_
            · refine step_appM rfl (.tmp 53) (.tmp 55) rfl w4.heap.size G (.slice B1 a.length p1) a [m] (some ⟨u0.heap.size, 0, none⟩) 1 rfl rfl R3.out (reads_one O3 ⟨_, _, _, _, rfl, hok4.out.keep (K3.at G (by simp))⟩) hG4.out (by simp; omega) K3.size ?_
              simp only [List.length_singleton]
              intro B2 p2 u4 rN kN
              have K4 : Keep [] w4 u4 := K3.new kN (fun i hi => .inr (R3.out.lt i (by simpa using hi)).1)
              have R4 := Lib.hid rN
              clear rN kN
              refine hK _ _ ?_
              clear hK K
              refine wpAny_ready (rs := [7]) (by kernel_rfl) (by simp) ?_
              refine AllReady.cons rfl (fun K hK => ?_) ?_
              · go_simp
                refine hK _ _ ?_
                clear hK K
                refine wpAny_ready (rs := [8]) (by kernel_rfl) (by simp) ?_
                refine AllReady.cons rfl (fun K hK => ?_) ?_
                · have DD := C1.keep K4 (by simp)
                  have dc : u4.cell? ⟨w.heap.size, 0, none⟩ = some (.slice A a.length ca) := DD.cell 0
                  have df := DD.frozen 0
                  go_simp
                  refine hK _ _ ?_
                  clear hK K
                  refine wpAny_done (by kernel_rfl) ?_ _
                  have D1 : Blk (u4.setCell ⟨w.heap.size, 0, none⟩ (.slice B2 (a.length + 1) p2)) w.heap.size #[.slice B2 (a.length + 1) p2, .slice B b.length cb, .int .i64 d] 53 := by simpa using DD.set 0 (.slice B2 (a.length + 1) p2)
                  have sk : Keep [w.heap.size] u4 (u4.setCell ⟨w.heap.size, 0, none⟩ (.slice B2 (a.length + 1) p2)) := (Keep.refl _ _).setCell _ _ (.inl (by simp))
                  have l4 := kk4.size
                  have l41 := C1.lt
                  have l42 := C3.lt
                  have RF := Lib.hid ((R4.out.keep (fun k hk hl => sk.block k hl (by simp; rintro rfl; exact hk.elim (fun hk => by have := (R4.out.lt _ hk).1; omega) (fun hk => by have := hG.out _ hk; omega)))).slice (by simp; unfold M47; omega))
                  have RL := Lib.hid (fun k hk => (R4.out.lt k hk).1)
                  have D3 := (C3.keep K4 (by simp)).keep sk (by simp; omega)
                  have kk5 : Keep [] w _ := (kk4.trans K4).new sk (fun i hi => .inr (by simp at hi; omega))
                  generalize u4.setCell ⟨w.heap.size, 0, none⟩ (.slice B2 (a.length + 1) p2) = w5 at *
                  clear dc df DD x0 y0 y1 y2 f2
                  go_wp2_with (first
                    | ((with_reducible refine wl_load 53 (.tmp 2) ?_ ?_); (with_reducible rfl); refine sx_loadW rfl 53 (.tmp 2) rfl w.heap.size #[.slice B2 (a.length + 1) p2, .slice B b.length cb, .int .i64 d] _ _ 3 rfl D1 Try.underlying53 rfl zRq_size rfl ?_; (try simp only [Act.put, List.setIfInBounds_toArray, List.set_cons_zero, List.set_cons_succ]))
                    | ((with_reducible refine wl_store 53 (.tmp 4) (.tmp 58) ?_ ?_); (with_reducible rfl); refine sx_storeW rfl 53 (.tmp 4) (.tmp 58) rfl w2.heap.size #[.slice B2 (a.length + 1) p2, .slice B b.length cb, .int .i64 d] zRq _ 3 rfl rfl D3 zRq_size rfl rfl rfl ?_; intro w9 b9 k9 z9; clear z9; (try simp only [Act.put, List.setIfInBounds_toArray, List.set_cons_zero, List.set_cons_succ])))
                  refine ret_cell2 rfl rfl rfl b9 Try.underlying53 rfl zRq_size _ rfl ?_
                  refine ⟨B2, p2, rfl, (RF.out.keep (k9.at _ (by intro i hi; simp at hi; subst hi; intro h; exact h.elim (fun h => by have := hG.out _ h; omega) (fun h => by have := RL.out _ h; omega)))).mono ?_, kk5.new k9 (fun i hi => .inr (by simp at hi; omega))⟩
                  rintro i (h | h) _
                  · exact .inl h
                  · exact .inr (by have := RL.out _ h; omega)
                exact AllReady.nil
              exact AllReady.nil
            exact AllReady.nil
          exact AllReady.nil
        exact AllReady.nil
      exact AllReady.nil
    refine AllReady.cons rfl (fun K hK => ?_) ?_
    · refine step_oneM rfl (.tmp 54) rfl (msgV m (.slice A1 m.b.j.sg.length c1) (.slice A2 m.b.q.length c2) (.slice A3 m.c.sg.length c3) (.slice A4 m.s.ts.length c4)) rfl rfl ?_
      intro u1 bN kN zN
      clear zN
      have K1 := K0.trans kN
      have O1 := bN
      clear bN kN
      refine hK _ _ ?_
      clear hK K
      refine wpAny_ready (rs := [0, 2]) (by kernel_rfl) (by simp) ?_
      refine AllReady.cons rfl (fun K hK => ?_) ?_
      · refine step_none rfl 51 38 rfl (.agg zMs) 21 272 Try.underlying51 infoMs ?_
        intro u2 bN kN zN
        clear zN
        have K2 := K1.trans kN
        have R2 : RowG Rep.ms 38 u2 w4.heap.size G (.slice (some ⟨u1.heap.size, 0, none⟩) 0 0) [] := RowG.empty _ _ _ _ _ _ bN K1.size
        have hne : u0.heap.size < u1.heap.size := O1.lt
        have O2 := O1.keep kN (by simp)
        replace R2 := Lib.hid R2
        clear bN kN
        refine hK _ _ ?_
        clear hK K
        refine wpAny_ready (rs := [2]) (by kernel_rfl) (by simp) ?_
        refine AllReady.cons rfl (fun K hK => ?_) ?_
        · have cc := K2.cell (by simp) y0
          go_simp
          clear cc
          refine hK _ _ ?_
          clear hK K
          refine wpAny_ready (rs := [3]) (by kernel_rfl) (by simp) ?_
          refine AllReady.cons rfl (fun K hK => ?_) ?_
          · refine step_appM rfl (.tmp 50) (.tmp 52) rfl w4.heap.size G (.slice (some ⟨u1.heap.size, 0, none⟩) 0 0) [] a A ca rfl rfl R2.out (SliceOf.reads (hl4.out.keep (K2.at G (by simp)))) hG4.out (by simp; omega) K2.size ?_
            simp only [List.length_nil, Nat.zero_add, List.nil_append]
            intro B1 p1 u3 rN kN
            have K3 : Keep [] w4 u3 := K2.new kN (fun i hi => .inr (R2.out.lt i (by simpa using hi)).1)
            have O3 := O2.keep kN (by simp [Value.ownBlock]; omega)
            have R3 := Lib.hid rN
            clear rN kN
            refine hK _ _ ?_
            clear hK K
            refine wpAny_ready (rs := [6]) (by kernel_rfl) (by simp) ?_
            refine AllReady.cons rfl (fun K hK => ?_) ?_
            · refine step_appM rfl (.tmp 53) (.tmp 55) rfl w4.heap.size G (.slice B1 a.length p1) a [m] (some ⟨u0.heap.size, 0, none⟩) 1 rfl rfl R3.out (reads_one O3 ⟨_, _, _, _, rfl, hok4.out.keep (K3.at G (by simp))⟩) hG4.out (by simp; omega) K3.size ?_
              simp only [List.length_singleton]
              intro B2 p2 u4 rN kN
              have K4 : Keep [] w4 u4 := K3.new kN (fun i hi => .inr (R3.out.lt i (by simpa using hi)).1)
              have R4 := Lib.hid rN
              clear rN kN
              refine hK _ _ ?_
              clear hK K
              refine wpAny_ready (rs := [7]) (by kernel_rfl) (by simp) ?_
              refine AllReady.cons rfl (fun K hK => ?_) ?_
              · go_simp
                refine hK _ _ ?_
                clear hK K
                refine wpAny_ready (rs := [8]) (by kernel_rfl) (by simp) ?_
                refine AllReady.cons rfl (fun K hK => ?_) ?_
                · have DD := C1.keep K4 (by simp)
                  have dc : u4.cell? ⟨w.heap.size, 0, none⟩ = some (.slice A a.length ca) := DD.cell 0
                  have df := DD.frozen 0
                  go_simp
                  refine hK _ _ ?_
                  clear hK K
                  refine wpAny_done (by kernel_rfl) ?_ _
                  have D1 : Blk (u4.setCell ⟨w.heap.size, 0, none⟩ (.slice B2 (a.length + 1) p2)) w.heap.size #[.slice B2 (a.length + 1) p2, .slice B b.length cb, .int .i64 d] 53 := by simpa using DD.set 0 (.slice B2 (a.length + 1) p2)
                  have sk : Keep [w.heap.size] u4 (u4.setCell ⟨w.heap.size, 0, none⟩ (.slice B2 (a.length + 1) p2)) := (Keep.refl _ _).setCell _ _ (.inl (by simp))
                  have l4 := kk4.size
                  have l41 := C1.lt
                  have l42 := C3.lt
                  have RF := Lib.hid ((R4.out.keep (fun k hk hl => sk.block k hl (by simp; rintro rfl; exact hk.elim (fun hk => by have := (R4.out.lt _ hk).1; omega) (fun hk => by have := hG.out _ hk; omega)))).slice (by simp; unfold M47; omega))
                  have RL := Lib.hid (fun k hk => (R4.out.lt k hk).1)
                  have D3 := (C3.keep K4 (by simp)).keep sk (by simp; omega)
                  have kk5 : Keep [] w _ := (kk4.trans K4).new sk (fun i hi => .inr (by simp at hi; omega))
                  generalize u4.setCell ⟨w.heap.size, 0, none⟩ (.slice B2 (a.length + 1) p2) = w5 at *
                  clear dc df DD x0 y0 y1 y2 f2
                  go_wp2_with (first
                    | ((with_reducible refine wl_load 53 (.tmp 2) ?_ ?_); (with_reducible rfl); refine sx_loadW rfl 53 (.tmp 2) rfl w.heap.size #[.slice B2 (a.length + 1) p2, .slice B b.length cb, .int .i64 d] _ _ 3 rfl D1 Try.underlying53 rfl zRq_size rfl ?_; (try simp only [Act.put, List.setIfInBounds_toArray, List.set_cons_zero, List.set_cons_succ]))
                    | ((with_reducible refine wl_store 53 (.tmp 4) (.tmp 58) ?_ ?_); (with_reducible rfl); refine sx_storeW rfl 53 (.tmp 4) (.tmp 58) rfl w2.heap.size #[.slice B2 (a.length + 1) p2, .slice B b.length cb, .int .i64 d] zRq _ 3 rfl rfl D3 zRq_size rfl rfl rfl ?_; intro w9 b9 k9 z9; clear z9; (try simp only [Act.put, List.setIfInBounds_toArray, List.set_cons_zero, List.set_cons_succ])))
                  refine ret_cell2 rfl rfl rfl b9 Try.underlying53 rfl zRq_size _ rfl ?_
                  refine ⟨B2, p2, rfl, (RF.out.keep (k9.at _ (by intro i hi; simp at hi; subst hi; intro h; exact h.elim (fun h => by have := hG.out _ h; omega) (fun h => by have := RL.out _ h; omega)))).mono ?_, kk5.new k9 (fun i hi => .inr (by simp at hi; omega))⟩
                  rintro i (h | h) _
                  · exact .inl h
                  · exact .inr (by have := RL.out _ h; omega)
                exact AllReady.nil
              exact AllReady.nil
            exact AllReady.nil
          exact AllReady.nil
        exact AllReady.nil
      refine AllReady.cons rfl (fun K hK => ?_) ?_
      · have cc := K1.cell (by simp) y0
        go_simp
        clear cc
        refine hK _ _ ?_
        clear hK K
        refine wpAny_ready (rs := [0]) (by kernel_rfl) (by simp) ?_
        refine AllReady.cons rfl (fun K hK => ?_) ?_
        · refine step_none rfl 51 38 rfl (.agg zMs) 21 272 Try.underlying51 infoMs ?_
          intro u2 bN kN zN
          clear zN
          have K2 := K1.trans kN
          have R2 : RowG Rep.ms 38 u2 w4.heap.size G (.slice (some ⟨u1.heap.size, 0, none⟩) 0 0) [] := RowG.empty _ _ _ _ _ _ bN K1.size
          have hne : u0.heap.size < u1.heap.size := O1.lt
          have O2 := O1.keep kN (by simp)
          replace R2 := Lib.hid R2
          clear bN kN
          refine hK _ _ ?_
          clear hK K
          refine wpAny_ready (rs := [3]) (by kernel_rfl) (by simp) ?_
          refine AllReady.cons rfl (fun K hK => ?_) ?_
          · refine step_appM rfl (.tmp 50) (.tmp 52) rfl w4.heap.size G (.slice (some ⟨u1.heap.size, 0, none⟩) 0 0) [] a A ca rfl rfl R2.out (SliceOf.reads (hl4.out.keep (K2.at G (by simp)))) hG4.out (by simp; omega) K2.size ?_
            simp only [List.length_nil, Nat.zero_add, List.nil_append]
            intro B1 p1 u3 rN kN
            have K3 : Keep [] w4 u3 := K2.new kN (fun i hi => .inr (R2.out.lt i (by simpa using hi)).1)
            have O3 := O2.keep kN (by simp [Value.ownBlock]; omega)
            have R3 := Lib.hid rN
            clear rN kN
            refine hK _ _ ?_
            clear hK K
            refine wpAny_ready (rs := [6]) (by kernel_rfl) (by simp) ?_
            refine AllReady.cons rfl (fun K hK => ?_) ?_
            · refine step_appM rfl (.tmp 53) (.tmp 55) rfl w4.heap.size G (.slice B1 a.length p1) a [m] (some ⟨u0.heap.size, 0, none⟩) 1 rfl rfl R3.out (reads_one O3 ⟨_, _, _, _, rfl, hok4.out.keep (K3.at G (by simp))⟩) hG4.out (by simp; omega) K3.size ?_
              simp only [List.length_singleton]
              intro B2 p2 u4 rN kN
              have K4 : Keep [] w4 u4 := K3.new kN (fun i hi => .inr (R3.out.lt i (by simpa using hi)).1)
              have R4 := Lib.hid rN
              clear rN kN
              refine hK _ _ ?_
              clear hK K
              refine wpAny_ready (rs := [7]) (by kernel_rfl) (by simp) ?_
              refine AllReady.cons rfl (fun K hK => ?_) ?_
              · go_simp
                refine hK _ _ ?_
                clear hK K
                refine wpAny_ready (rs := [8]) (by kernel_rfl) (by simp) ?_
                refine AllReady.cons rfl (fun K hK => ?_) ?_
                · have DD := C1.keep K4 (by simp)
                  have dc : u4.cell? ⟨w.heap.size, 0, none⟩ = some (.slice A a.length ca) := DD.cell 0
                  have df := DD.frozen 0
                  go_simp
                  refine hK _ _ ?_
                  clear hK K
                  refine wpAny_done (by kernel_rfl) ?_ _
                  have D1 : Blk (u4.setCell ⟨w.heap.size, 0, none⟩ (.slice B2 (a.length + 1) p2)) w.heap.size #[.slice B2 (a.length + 1) p2, .slice B b.length cb, .int .i64 d] 53 := by simpa using DD.set 0 (.slice B2 (a.length + 1) p2)
                  have sk : Keep [w.heap.size] u4 (u4.setCell ⟨w.heap.size, 0, none⟩ (.slice B2 (a.length + 1) p2)) := (Keep.refl _ _).setCell _ _ (.inl (by simp))
                  have l4 := kk4.size
                  have l41 := C1.lt
                  have l42 := C3.lt
                  have RF := Lib.hid ((R4.out.keep (fun k hk hl => sk.block k hl (by simp; rintro rfl; exact hk.elim (fun hk => by have := (R4.out.lt _ hk).1; omega) (fun hk => by have := hG.out _ hk; omega)))).slice (by simp; unfold M47; omega))
                  have RL := Lib.hid (fun k hk => (R4.out.lt k hk).1)
                  have D3 := (C3.keep K4 (by simp)).keep sk (by simp; omega)
                  have kk5 : Keep [] w _ := (kk4.trans K4).new sk (fun i hi => .inr (by simp at hi; omega))
                  generalize u4.setCell ⟨w.heap.size, 0, none⟩ (.slice B2 (a.length + 1) p2) = w5 at *
                  clear dc df DD x0 y0 y1 y2 f2
                  go_wp2_with (first
                    | ((with_reducible refine wl_load 53 (.tmp 2) ?_ ?_); (with_reducible rfl); refine sx_loadW rfl 53 (.tmp 2) rfl w.heap.size #[.slice B2 (a.length + 1) p2, .slice B b.length cb, .int .i64 d] _ _ 3 rfl D1 Try.underlying53 rfl zRq_size rfl ?_; (try simp only [Act.put, List.setIfInBounds_toArray, List.set_cons_zero, List.set_cons_succ]))
                    | ((with_reducible refine wl_store 53 (.tmp 4) (.tmp 58) ?_ ?_); (with_reducible rfl); refine sx_storeW rfl 53 (.tmp 4) (.tmp 58) rfl w2.heap.size #[.slice B2 (a.length + 1) p2, .slice B b.length cb, .int .i64 d] zRq _ 3 rfl rfl D3 zRq_size rfl rfl rfl ?_; intro w9 b9 k9 z9; clear z9; (try simp only [Act.put, List.setIfInBounds_toArray, List.set_cons_zero, List.set_cons_succ])))
                  refine ret_cell2 rfl rfl rfl b9 Try.underlying53 rfl zRq_size _ rfl ?_
                  refine ⟨B2, p2, rfl, (RF.out.keep (k9.at _ (by intro i hi; simp at hi; subst hi; intro h; exact h.elim (fun h => by have := hG.out _ h; omega) (fun h => by have := RL.out _ h; omega)))).mono ?_, kk5.new k9 (fun i hi => .inr (by simp at hi; omega))⟩
                  rintro i (h | h) _
                  · exact .inl h
                  · exact .inr (by have := RL.out _ h; omega)
                exact AllReady.nil
              exact AllReady.nil
            exact AllReady.nil
          exact AllReady.nil
        exact AllReady.nil
      exact AllReady.nil
    exact AllReady.nil
  exact AllReady.nil
end Go.Proofs.Ytpndbidpennlcaa
