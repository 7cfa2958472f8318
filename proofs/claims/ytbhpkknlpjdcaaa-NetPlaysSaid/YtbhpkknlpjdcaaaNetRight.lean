import Derived.Test.YtbhpkknlpjdcaaaEqSigs
import Derived.Test.YtbhpkknlpjdcaaaLawMsg
namespace Go.Proofs.Ytbhpkknlpjdcaaa
open Go.RowKit
set_option linter.unusedVariables false
set_option linter.unusedSimpArgs false
/-! net: whether a message is read as it is -/
theorem strNe {a b : ByteArray} (h : ¬ a = b) : (a.toList == b.toList) = false ∧ ¬ a.toList = b.toList := by
  have h2 : ¬ a.toList = b.toList := by
    intro e
    rw [ByteArray.toList_eq, ByteArray.toList_eq] at e
    exact h (ByteArray.ext (Array.toList_inj.1 e))
  exact ⟨beq_eq_false_iff_ne.2 h2, h2⟩
theorem Ms.ext2 {x m : Ms} (h1 : x.k = m.k) (h2 : x.f = m.f) (h3 : x.t = m.t) (h4 : x.v = m.v) (h5 : x.h = m.h) (h6 : x.b.v = m.b.v) (h7 : x.b.p = m.b.p) (h8 : x.b.j.v = m.b.j.v) (h9 : x.b.j.h = m.b.j.h) (h10 : x.b.j.sg = m.b.j.sg) (h11 : x.b.q = m.b.q)
    (h12 : x.c.v = m.c.v) (h13 : x.c.h = m.c.h) (h14 : x.c.sg = m.c.sg) (h15 : x.s = m.s) (h16 : x.r = m.r) (h17 : x.i = m.i) (h18 : x.g = m.g) : x = m := by
  obtain ⟨_, _, _, _, _, ⟨_, _, ⟨_, _, _⟩, _⟩, ⟨_, _, _⟩, _, _, _, _⟩ := x
  obtain ⟨_, _, _, _, _, ⟨_, _, ⟨_, _, _⟩, _⟩, ⟨_, _, _⟩, _, _, _, _⟩ := m
  simp_all
theorem SliceOf.one {α : Type} (a : Rep α) {w : World} {g t : Nat} {cs : Array Value} {x : α} {F : Nat → Prop} (hb : Blk w g cs t) (hF : F g) (hr : a.R w F x cs.toList) : SliceOf a w F (.slice (some ⟨g, 0, none⟩) 1 1) [x] := by
  refine ⟨some ⟨g, 0, none⟩, 1, rfl, by unfold M47; simp, fun _ => ⟨g, 0, rfl, hF, hb.lt, fun i hi => ⟨cs.toList, ?_, fun j v hj => ?_⟩⟩⟩
  · obtain rfl : i = 0 := by simpa using hi
    exact hr
  · obtain rfl : i = 0 := by simpa using hi
    rw [hb.cell]
    simpa using hj
set_option maxRecDepth 100000 in
set_option maxHeartbeats 16000000 in
theorem right_call (m : Ms) (v1 v2 v3 v4 : Value) (F : Nat → Prop) (b : ByteArray) (w : World) (h : MsOk w F m v1 v2 v3 v4) :
    Calls Try.prog 37 #[.agg (msgV m v1 v2 v3 v4), .string b] w fun e w' => ∃ r, e = .returned (.bool r) ∧ (r = true ↔ readMsgF b = (m, 0)) ∧ Keep [] w w' := by
  obtain ⟨A1, c1, rfl, -⟩ := h.bs.form
  obtain ⟨A2, c2, rfl, -⟩ := h.bq.form
  obtain ⟨A3, c3, rfl, -⟩ := h.cs.form
  obtain ⟨A4, c4, rfl, -⟩ := h.st.form
  have HM := Lib.hid h
  clear h
  go_enter Try.func37, Try.ntmps37
  go_wp2_with (first | ((with_reducible refine wl_box 39 (.tmp 0) ?_ ?_); (with_reducible rfl); refine sx_box rfl 39 (.tmp 0) rfl (msgV m (.slice A1 m.b.j.sg.length c1) (.slice A2 m.b.q.length c2) (.slice A3 m.c.sg.length c3) (.slice A4 m.s.ts.length c4)) rfl ?_; intro w0 b0 k0 z0; clear z0; (try simp only [Act.put, List.setIfInBounds_toArray, List.set_cons_zero, List.set_cons_succ])))
  refine (readMsg_call _ _).mono ?_
  generalize hrd : readMsgF b = rd at *
  obtain ⟨x, er⟩ := rd
  rintro e w1 ⟨_, _, _, _, rfl, hok, k1⟩
  dsimp only at *
  have HRD := Lib.hid hrd
  clear hrd
  obtain ⟨X1, e1, rfl, -⟩ := hok.bs.form
  obtain ⟨X2, e2, rfl, -⟩ := hok.bq.form
  obtain ⟨X3, e3, rfl, -⟩ := hok.cs.form
  obtain ⟨X4, e4, rfl, -⟩ := hok.st.form
  have HX := Lib.hid (hok.mono (G := fun i => i < w1.heap.size) (fun i _ hl => hl))
  clear hok
  go_upto_region 2 with (first
    | ((with_reducible refine wl_alloc 39 ?_ ?_); (with_reducible rfl); refine sx_alloc rfl 39 rfl _ 21 zMs zMs_info rfl ?_; intro w2 b2 k2 z2; clear z2; (try simp only [Act.put, List.setIfInBounds_toArray, List.set_cons_zero, List.set_cons_succ]))
    | ((with_reducible refine wl_store 39 (.tmp 5) (.tmp 10) ?_ ?_); (with_reducible rfl); refine sx_storeW rfl 39 (.tmp 5) (.tmp 10) rfl w1.heap.size (msgV x (.slice X1 x.b.j.sg.length e1) (.slice X2 x.b.q.length e2) (.slice X3 x.c.sg.length e3) (.slice X4 x.s.ts.length e4)) zMs _ 21 rfl rfl b2 zMs_size rfl rfl rfl ?_; intro w3 b3 k3 z3; clear z3; (try simp only [Act.put, List.setIfInBounds_toArray, List.set_cons_zero, List.set_cons_succ])))
  have b03 := ((b0.keep k1 (by simp)).keep k2 (by simp)).keep k3 (by have := b0.lt; have := k1.size; simp; omega)
  have k13 : Keep [] w1 w3 := k2.new k3 (fun i hi => .inr (by simp at hi; omega))
  have k03 : Keep [] w w3 := (k0.trans k1).trans k13
  have HX3 := Lib.hid (HX.out.keep (k13.at _ (by simp)))
  have HM3 := Lib.hid (HM.out.keep (k03.at _ (by simp)))
  have hx := MsAt.of b3
  have hm := MsAt.of b03
  clear b2 k2 k3 k13 HX HM k0 k1 b0
  obtain ⟨x0, x1, x2, x3, x4, x5, x6, x7, x8, x9, x10, x11, x12, x13, x14, x15, x16, x17, x18, x19, x20⟩ := hx
  obtain ⟨m0, m1, m2, m3, m4, m5, m6, m7, m8, m9, m10, m11, m12, m13, m14, m15, m16, m17, m18, m19, m20⟩ := hm
  by_cases her : er = 0
  rotate_left
  · have her2 : (er == 0) = false := beq_eq_false_iff_ne.2 her
    have HER := Lib.hid her
    go_wp2
    go_ret
    exact ⟨false, rfl, by have := HER.out; simp [HRD.out, this], k03⟩
  subst her
  by_cases h1 : x.k = m.k
  rotate_left
  · have HN := Lib.hid h1
    have q1 : (x.k == m.k) = false := beq_eq_false_iff_ne.2 h1
    go_wp2
    go_ret
    exact ⟨false, rfl, by rw [HRD.out]; simp only [Prod.mk.injEq, and_true, Bool.false_eq_true, false_iff]; rintro rfl; exact HN.out rfl, k03⟩
  by_cases h2 : x.f = m.f
  rotate_left
  · have HN := Lib.hid h2
    have q1 : (x.f == m.f) = false := beq_eq_false_iff_ne.2 h2
    go_wp2
    go_ret
    exact ⟨false, rfl, by rw [HRD.out]; simp only [Prod.mk.injEq, and_true, Bool.false_eq_true, false_iff]; rintro rfl; exact HN.out rfl, k03⟩
  by_cases h3 : x.t = m.t
  rotate_left
  · have HN := Lib.hid h3
    have q1 : (x.t == m.t) = false := beq_eq_false_iff_ne.2 h3
    go_wp2
    go_ret
    exact ⟨false, rfl, by rw [HRD.out]; simp only [Prod.mk.injEq, and_true, Bool.false_eq_true, false_iff]; rintro rfl; exact HN.out rfl, k03⟩
  by_cases h4 : x.v = m.v
  rotate_left
  · have HN := Lib.hid h4
    have q1 : (x.v == m.v) = false := beq_eq_false_iff_ne.2 h4
    go_wp2
    go_ret
    exact ⟨false, rfl, by rw [HRD.out]; simp only [Prod.mk.injEq, and_true, Bool.false_eq_true, false_iff]; rintro rfl; exact HN.out rfl, k03⟩
  by_cases h5 : x.i = m.i
  rotate_left
  · have HN := Lib.hid h5
    have q1 : (x.i == m.i) = false := beq_eq_false_iff_ne.2 h5
    go_wp2
    go_ret
    exact ⟨false, rfl, by rw [HRD.out]; simp only [Prod.mk.injEq, and_true, Bool.false_eq_true, false_iff]; rintro rfl; exact HN.out rfl, k03⟩
  by_cases h6 : x.r = m.r
  rotate_left
  · have HN := Lib.hid h6
    have q1 := neqReq_t x.r m.r h6
    clear h6
    go_wp2
    go_ret
    exact ⟨false, rfl, by rw [HRD.out]; simp only [Prod.mk.injEq, and_true, Bool.false_eq_true, false_iff]; rintro rfl; exact HN.out rfl, k03⟩
  have q16 : x.r.c = m.r.c ∧ x.r.s = m.r.s ∧ x.r.b = m.r.b := by rw [h6]; exact ⟨rfl, rfl, rfl⟩
  have H6 := Lib.hid h6
  clear h6
  obtain ⟨q17, q18, q19⟩ := q16
  have q20 := neqReq_f m.r
  by_cases h7 : x.h = m.h
  rotate_left
  · have HN := Lib.hid h7
    obtain ⟨q1, q2⟩ := strNe h7
    clear h7
    go_wp2
    go_ret
    exact ⟨false, rfl, by rw [HRD.out]; simp only [Prod.mk.injEq, and_true, Bool.false_eq_true, false_iff]; rintro rfl; exact HN.out rfl, k03⟩
  by_cases h8 : x.g = m.g
  rotate_left
  · have HN := Lib.hid h8
    obtain ⟨q1, q2⟩ := strNe h8
    clear h8
    go_wp2
    go_ret
    exact ⟨false, rfl, by rw [HRD.out]; simp only [Prod.mk.injEq, and_true, Bool.false_eq_true, false_iff]; rintro rfl; exact HN.out rfl, k03⟩
  by_cases h9 : x.b.v = m.b.v
  rotate_left
  · have HN := Lib.hid h9
    have q1 : (x.b.v == m.b.v) = false := beq_eq_false_iff_ne.2 h9
    go_wp2
    go_ret
    exact ⟨false, rfl, by rw [HRD.out]; simp only [Prod.mk.injEq, and_true, Bool.false_eq_true, false_iff]; rintro rfl; exact HN.out rfl, k03⟩
  by_cases h10 : x.b.p = m.b.p
  rotate_left
  · have HN := Lib.hid h10
    have q1 : (x.b.p == m.b.p) = false := beq_eq_false_iff_ne.2 h10
    go_wp2
    go_ret
    exact ⟨false, rfl, by rw [HRD.out]; simp only [Prod.mk.injEq, and_true, Bool.false_eq_true, false_iff]; rintro rfl; exact HN.out rfl, k03⟩
  by_cases h11 : x.b.j.v = m.b.j.v
  rotate_left
  · have HN := Lib.hid h11
    have q1 : (x.b.j.v == m.b.j.v) = false := beq_eq_false_iff_ne.2 h11
    go_wp2
    go_ret
    exact ⟨false, rfl, by rw [HRD.out]; simp only [Prod.mk.injEq, and_true, Bool.false_eq_true, false_iff]; rintro rfl; exact HN.out rfl, k03⟩
  have HX4 := HX3
  have HM4 := HM3
  go_wp2_with fail
  refine (eqReqs_call X2 A2 x.b.q m.b.q e2 c2 _ _ _ HX3.out.bq HM3.out.bq).mono ?_
  rintro e w4 ⟨r, rfl, hr, k4⟩
  have k04 := k03.trans k4
  cases r
  · have HN : Hid (¬ x.b.q = m.b.q) := Lib.hid (by rw [← hr]; simp)
    clear hr
    go_wp2
    go_ret
    exact ⟨false, rfl, by rw [HRD.out]; simp only [Prod.mk.injEq, and_true, Bool.false_eq_true, false_iff]; rintro rfl; exact HN.out rfl, k04⟩
  have h12 : x.b.q = m.b.q := hr.1 rfl
  have H12 := Lib.hid h12
  clear hr h12
  replace x0 := k4.cell (by simp) x0
  replace m0 := k4.cell (by simp) m0
  replace x1 := k4.cell (by simp) x1
  replace m1 := k4.cell (by simp) m1
  replace x2 := k4.cell (by simp) x2
  replace m2 := k4.cell (by simp) m2
  replace x3 := k4.cell (by simp) x3
  replace m3 := k4.cell (by simp) m3
  replace x4 := k4.cell (by simp) x4
  replace m4 := k4.cell (by simp) m4
  replace x5 := k4.cell (by simp) x5
  replace m5 := k4.cell (by simp) m5
  replace x6 := k4.cell (by simp) x6
  replace m6 := k4.cell (by simp) m6
  replace x7 := k4.cell (by simp) x7
  replace m7 := k4.cell (by simp) m7
  replace x8 := k4.cell (by simp) x8
  replace m8 := k4.cell (by simp) m8
  replace x9 := k4.cell (by simp) x9
  replace m9 := k4.cell (by simp) m9
  replace x10 := k4.cell (by simp) x10
  replace m10 := k4.cell (by simp) m10
  replace x11 := k4.cell (by simp) x11
  replace m11 := k4.cell (by simp) m11
  replace x12 := k4.cell (by simp) x12
  replace m12 := k4.cell (by simp) m12
  replace x13 := k4.cell (by simp) x13
  replace m13 := k4.cell (by simp) m13
  replace x14 := k4.cell (by simp) x14
  replace m14 := k4.cell (by simp) m14
  replace x15 := k4.cell (by simp) x15
  replace m15 := k4.cell (by simp) m15
  replace x16 := k4.cell (by simp) x16
  replace m16 := k4.cell (by simp) m16
  replace x17 := k4.cell (by simp) x17
  replace m17 := k4.cell (by simp) m17
  replace x18 := k4.cell (by simp) x18
  replace m18 := k4.cell (by simp) m18
  replace x19 := k4.cell (by simp) x19
  replace m19 := k4.cell (by simp) m19
  replace x20 := k4.cell (by simp) x20
  replace m20 := k4.cell (by simp) m20
  by_cases h13 : x.b.j.h = m.b.j.h
  rotate_left
  · have HN := Lib.hid h13
    obtain ⟨q1, q2⟩ := strNe h13
    clear h13
    go_wp2
    go_ret
    exact ⟨false, rfl, by rw [HRD.out]; simp only [Prod.mk.injEq, and_true, Bool.false_eq_true, false_iff]; rintro rfl; exact HN.out rfl, k04⟩
  by_cases h14 : x.c.h = m.c.h
  rotate_left
  · have HN := Lib.hid h14
    obtain ⟨q1, q2⟩ := strNe h14
    clear h14
    go_wp2
    go_ret
    exact ⟨false, rfl, by rw [HRD.out]; simp only [Prod.mk.injEq, and_true, Bool.false_eq_true, false_iff]; rintro rfl; exact HN.out rfl, k04⟩
  have HX4 := Lib.hid (HX3.out.keep (k4.at _ (by simp)))
  have HM4 := Lib.hid (HM3.out.keep (k4.at _ (by simp)))
  clear HX3 HM3
  have lx := b3.lt
  have lm := b03.lt
  have l4 := k4.size
  have y14 : ∀ o, (w4.alloc o).cell? ⟨w.heap.size, 14, none⟩ = some (.int .i64 m.s.f) := fun o => ((Keep.refl [] w4).alloc o).cell (by simp) m14
  have y15 : ∀ o, (w4.alloc o).cell? ⟨w.heap.size, 15, none⟩ = some (.slice A4 m.s.ts.length c4) := fun o => ((Keep.refl [] w4).alloc o).cell (by simp) m15
  go_wp2_with fail
  have ob1 := Blk.new w4 #[.int .i64 x.s.f, .slice X4 x.s.ts.length e4] 35
  have ok1 := (Keep.refl [] w4).alloc (.cells #[.int .i64 x.s.f, .slice X4 x.s.ts.length e4] 35)
  have e41 : (w4.alloc (.cells #[.int .i64 x.s.f, .slice X4 x.s.ts.length e4] 35)).heap.size = w4.heap.size + 1 := by simp
  generalize w4.alloc (.cells #[.int .i64 x.s.f, .slice X4 x.s.ts.length e4] 35) = w41 at *
  have ob2 := Blk.new w41 #[.int .i64 m.s.f, .slice A4 m.s.ts.length c4] 35
  have ok2 := (Keep.refl [] w41).alloc (.cells #[.int .i64 m.s.f, .slice A4 m.s.ts.length c4] 35)
  rw [e41] at ob2
  generalize w41.alloc (.cells #[.int .i64 m.s.f, .slice A4 m.s.ts.length c4] 35) = w42 at *
  have ob1 := ob1.keep ok2 (by simp)
  have ok := ok1.trans ok2
  refine (sigs_call _ _ [x.s] [m.s] 1 1 (fun _ => True) (fun _ => True) _ (SliceOf.one Rep.sg ob1 trivial ⟨_, rfl, HX4.out.sf, (HX4.out.st.keep (ok.at _ (by simp))).mono (fun _ _ _ => trivial)⟩) (SliceOf.one Rep.sg ob2 trivial ⟨_, rfl, HM4.out.sf, (HM4.out.st.keep (ok.at _ (by simp))).mono (fun _ _ _ => trivial)⟩)).mono ?_
  rintro e w5 ⟨r, rfl, hr, k5⟩
  replace ok := ok.trans k5
  have k05 := k04.trans ok
  cases r
  · have HN : Hid (¬ x.s = m.s) := Lib.hid (by intro h; rw [h] at hr; simp at hr)
    clear hr
    go_wp2
    go_ret
    exact ⟨false, rfl, by rw [HRD.out]; simp only [Prod.mk.injEq, and_true, Bool.false_eq_true, false_iff]; rintro rfl; exact HN.out rfl, k05⟩
  have h15 : x.s = m.s := by have := hr.1 rfl; simpa using this
  have H15 := Lib.hid h15
  clear hr h15 y14 y15
  replace x0 := ok.cell (by simp) x0
  replace m0 := ok.cell (by simp) m0
  replace x1 := ok.cell (by simp) x1
  replace m1 := ok.cell (by simp) m1
  replace x2 := ok.cell (by simp) x2
  replace m2 := ok.cell (by simp) m2
  replace x3 := ok.cell (by simp) x3
  replace m3 := ok.cell (by simp) m3
  replace x4 := ok.cell (by simp) x4
  replace m4 := ok.cell (by simp) m4
  replace x5 := ok.cell (by simp) x5
  replace m5 := ok.cell (by simp) m5
  replace x6 := ok.cell (by simp) x6
  replace m6 := ok.cell (by simp) m6
  replace x7 := ok.cell (by simp) x7
  replace m7 := ok.cell (by simp) m7
  replace x8 := ok.cell (by simp) x8
  replace m8 := ok.cell (by simp) m8
  replace x9 := ok.cell (by simp) x9
  replace m9 := ok.cell (by simp) m9
  replace x10 := ok.cell (by simp) x10
  replace m10 := ok.cell (by simp) m10
  replace x11 := ok.cell (by simp) x11
  replace m11 := ok.cell (by simp) m11
  replace x12 := ok.cell (by simp) x12
  replace m12 := ok.cell (by simp) m12
  replace x13 := ok.cell (by simp) x13
  replace m13 := ok.cell (by simp) m13
  replace x14 := ok.cell (by simp) x14
  replace m14 := ok.cell (by simp) m14
  replace x15 := ok.cell (by simp) x15
  replace m15 := ok.cell (by simp) m15
  replace x16 := ok.cell (by simp) x16
  replace m16 := ok.cell (by simp) m16
  replace x17 := ok.cell (by simp) x17
  replace m17 := ok.cell (by simp) m17
  replace x18 := ok.cell (by simp) x18
  replace m18 := ok.cell (by simp) m18
  replace x19 := ok.cell (by simp) x19
  replace m19 := ok.cell (by simp) m19
  replace x20 := ok.cell (by simp) x20
  replace m20 := ok.cell (by simp) m20
  have HX5 := Lib.hid (HX4.out.keep (ok.at _ (by simp)))
  have HM5 := Lib.hid (HM4.out.keep (ok.at _ (by simp)))
  clear HX4 HM4 ok ok1 ok2 ob1 ob2
  by_cases h16 : x.c.v = m.c.v
  rotate_left
  · have HN := Lib.hid h16
    have q1 : (x.c.v == m.c.v) = false := beq_eq_false_iff_ne.2 h16
    go_wp2
    go_ret
    exact ⟨false, rfl, by rw [HRD.out]; simp only [Prod.mk.injEq, and_true, Bool.false_eq_true, false_iff]; rintro rfl; exact HN.out rfl, k05⟩
  go_wp2_with fail
  refine (sigs_call X1 A1 x.b.j.sg m.b.j.sg e1 c1 _ _ _ HX5.out.bs HM5.out.bs).mono ?_
  rintro e w6 ⟨r, rfl, hr, k6⟩
  have k06 := k05.trans k6
  cases r
  · have HN : Hid (¬ x.b.j.sg = m.b.j.sg) := Lib.hid (by rw [← hr]; simp)
    clear hr
    go_wp2
    go_ret
    exact ⟨false, rfl, by rw [HRD.out]; simp only [Prod.mk.injEq, and_true, Bool.false_eq_true, false_iff]; rintro rfl; exact HN.out rfl, k06⟩
  have h17 : x.b.j.sg = m.b.j.sg := hr.1 rfl
  have H17 := Lib.hid h17
  clear hr h17
  replace x13 := k6.cell (by simp) x13
  replace m13 := k6.cell (by simp) m13
  go_wp2_with fail
  refine (sigs_call X3 A3 x.c.sg m.c.sg e3 c3 _ _ _ (HX5.out.cs.keep (k6.at _ (by simp))) (HM5.out.cs.keep (k6.at _ (by simp)))).mono ?_
  rintro e w7 ⟨r, rfl, hr, k7⟩
  have k07 := k06.trans k7
  cases r
  · have HN : Hid (¬ x.c.sg = m.c.sg) := Lib.hid (by rw [← hr]; simp)
    clear hr
    go_wp2
    go_ret
    exact ⟨false, rfl, by rw [HRD.out]; simp only [Prod.mk.injEq, and_true, Bool.false_eq_true, false_iff]; rintro rfl; exact HN.out rfl, k07⟩
  have h18 : x.c.sg = m.c.sg := hr.1 rfl
  clear hr
  have E := Ms.ext2 h1 h2 h3 h4 h7 h9 h10 h11 h13 H17.out H12.out h16 h14 h18 H15.out H6.out h5 h8
  clear h18
  replace E := Lib.hid E
  go_wp2
  go_ret
  exact ⟨true, rfl, by rw [HRD.out, E.out]; simp, k07⟩
end Go.Proofs.Ytbhpkknlpjdcaaa
