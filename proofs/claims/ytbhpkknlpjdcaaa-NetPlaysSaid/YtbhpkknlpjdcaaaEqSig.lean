import Derived.Test.YtbhpkknlpjdcaaaEqs
import Derived.Test.YtbhpkknlpjdcaaaStrc2
import Derived.Test.YtbhpkknlpjdcaaaReadM3
namespace Go.Proofs.Ytbhpkknlpjdcaaa
open Go.RowKit
set_option linter.unusedVariables false
set_option linter.unusedSimpArgs false
/-! whether signatures are the same -/
set_option maxHeartbeats 2000000 in
theorem sigEq_call (x y : Sg) (u v : Value) (F G : Nat → Prop) (w : World) (hx : SliceOf Rep.str w F u x.ts) (hy : SliceOf Rep.str w G v y.ts) :
    Calls Try.prog 59 #[.agg #[.int .i64 x.f, u], .agg #[.int .i64 y.f, v]] w fun e w' => ∃ r, e = .returned (.bool r) ∧ (r = true ↔ x = y) ∧ Keep [] w w' := by
  obtain ⟨xf, xs⟩ := x
  obtain ⟨yf, ys⟩ := y
  dsimp only at *
  obtain ⟨A, c, rfl, l1⟩ := hx.form
  obtain ⟨B, d, rfl, l2⟩ := hy.form
  have HX := Lib.hid hx
  have HY := Lib.hid hy
  clear hx hy
  go_enter Try.func59, Try.ntmps59
  go_upto_region 1 with (first
    | ((with_reducible refine wl_box 35 (.tmp 0) ?_ ?_); (with_reducible rfl); refine sx_box rfl 35 (.tmp 0) rfl #[.int .i64 xf, .slice A xs.length c] rfl ?_; intro w1 b1 k1 z1; (try simp only [Act.put, List.setIfInBounds_toArray, List.set_cons_zero, List.set_cons_succ]))
    | ((with_reducible refine wl_box 35 (.tmp 1) ?_ ?_); (with_reducible rfl); refine sx_box rfl 35 (.tmp 1) rfl #[.int .i64 yf, .slice B ys.length d] rfl ?_; intro w2 b2 k2 z2; (try simp only [Act.put, List.setIfInBounds_toArray, List.set_cons_zero, List.set_cons_succ])))
  have c1 := b1.keep k2 (by simp)
  have kk := k1.trans k2
  have e0 : w2.cell? ⟨w.heap.size, 0, none⟩ = some (.int .i64 xf) := c1.cell 0
  have e1 : w2.cell? ⟨w.heap.size, 1, none⟩ = some (.slice A xs.length c) := c1.cell 1
  have e2 : w2.cell? ⟨w1.heap.size, 0, none⟩ = some (.int .i64 yf) := b2.cell 0
  have e3 : w2.cell? ⟨w1.heap.size, 1, none⟩ = some (.slice B ys.length d) := b2.cell 1
  clear b1 b2 c1 z1 z2
  by_cases hf : xf = yf
  · have hfb : (xf == yf) = true := by simp [hf]
    have HF := Lib.hid hf
    subst hf
    go_wp2_with fail
    refine (eqStrs_call A B xs ys c d F G _ (HX.out.keep (kk.at _ (by simp))) (HY.out.keep (kk.at _ (by simp)))).mono ?_
    rintro e w3 ⟨r, rfl, hr, k3⟩
    have hr := Lib.hid hr
    cases r
    · go_wp2
      go_ret
      have := hr.out
      exact ⟨false, rfl, by simp at this ⊢; exact this, kk.trans k3⟩
    · go_wp2
      go_ret
      have := hr.out
      exact ⟨true, rfl, by simp at this ⊢; exact this, kk.trans k3⟩
  · have hfb : (xf == yf) = false := by simp [hf]
    have HF := Lib.hid hf
    go_wp2
    go_ret
    exact ⟨false, rfl, by simp [HF.out], kk⟩
end Go.Proofs.Ytbhpkknlpjdcaaa
