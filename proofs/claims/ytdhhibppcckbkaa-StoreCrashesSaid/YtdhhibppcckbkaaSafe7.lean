import Derived.Test.YtdhhibppcckbkaaLawSafe1
import Derived.BigRegion
namespace Go.Proofs.Ytdhhibppcckbkaa
open Go.RowKit Go.Shelf
set_option linter.unusedVariables false
set_option linter.unusedSimpArgs false
/-! logs: Crash; a call -/
/-- How much of n - 1 waiting bytes is kept. -/
def keepK (keep : Int) (m : Nat) : Nat := ((keep.tmod ((m : Int) + 1) + ((m : Int) + 1)).tmod ((m : Int) + 1)).toNat
theorem keepK_spec (keep : Int) (m : Nat) : (keep.tmod ((m : Int) + 1) + ((m : Int) + 1)).tmod ((m : Int) + 1) = (keepK keep m : Nat) ∧ keepK keep m ≤ m ∧ -((m : Int) + 1) < keep.tmod ((m : Int) + 1) ∧ keep.tmod ((m : Int) + 1) < (m : Int) + 1 := by
  have hn : (0 : Int) < (m : Int) + 1 := by omega
  have h1 := Int.tmod_lt_of_pos keep hn
  have h2 : -((m : Int) + 1) < keep.tmod ((m : Int) + 1) := by
    have := Int.lt_tmod_of_pos keep hn
    exact this
  have h3 : 0 ≤ keep.tmod ((m : Int) + 1) + ((m : Int) + 1) := by omega
  have h4 := Int.tmod_nonneg ((m : Int) + 1) h3
  have h5 := Int.tmod_lt_of_pos (keep.tmod ((m : Int) + 1) + ((m : Int) + 1)) hn
  unfold keepK
  refine ⟨?_, ?_, h2, h1⟩ <;> omega
def crashF (x : Lg) (keep : Int) : Lg := ⟨x.b.extract 0 (x.s + keepK keep (x.b.size - x.s)), x.s + keepK keep (x.b.size - x.s), -1, false⟩
set_option maxHeartbeats 2000000 in
theorem crash_call (p : Nat) (x : Lg) (keep : Int) (w : World) (hp : LogAt w p x) (hb : x.b.size ≤ 100000000) (hs : x.s ≤ x.b.size) :
    Calls Try.prog 28 #[.pointer (some ⟨p, 0, none⟩), .int .i64 keep] w fun e w' => e = .returned (.tuple #[]) ∧ LogAt w' p (crashF x keep) ∧ Keep [p] w w' := by
  obtain ⟨b, s, f, g⟩ := x
  dsimp only at *
  obtain ⟨c0, c1, c2, c3⟩ := hp.cells
  have f0 := Blk.frozen hp 0
  have f1 := Blk.frozen hp 1
  have f2 := Blk.frozen hp 2
  have f3 := Blk.frozen hp 3
  obtain ⟨t1, t2, t3, t4⟩ := keepK_spec keep (b.size - s)
  have e : crashF ⟨b, s, f, g⟩ keep = ⟨b.extract 0 (s + keepK keep (b.size - s)), s + keepK keep (b.size - s), -1, false⟩ := rfl
  rw [e]
  have hm : ((b.size - s : Nat) : Int) = (b.size : Int) - (s : Int) := by omega
  rw [hm] at t1 t3 t4
  generalize keepK keep (b.size - s) = t at *
  have hsz : (b.extract 0 (s + t)).size = s + t := by simp; omega
  have hsb : (s : Int) + (t : Int) ≤ (b.size : Int) := by omega
  have hn0 : ((b.size : Int) - (s : Int) + 1 == 0) = false := beq_eq_false_iff_ne.2 (by omega)
  have hn1 : ¬ ((b.size : Int) - (s : Int) + 1 = 0) := by omega
  have HP := Lib.hid hp
  clear hp e hm
  dsimp only at c0 c1 c2 c3
  go_enter Try.func28, Try.ntmps28
  go_wp2_with fail
  refine wp_region_class (C := fun w' => Keep [] w w' ∧ w'.cell? ⟨p, 0, none⟩ = some (.string b) ∧ w'.cell? ⟨p, 1, none⟩ = some (.int .i64 s)) (by kernel_rfl) (by kernel_rfl) ⟨(Keep.refl _ _).drew, c0, c1⟩ ?_
  iterate 12 (first
    | go_big_quiet_skip
    | (go_big_quiet_want; first
      | (go_big_quiet_op; go_big_quiet_on)
      | (refine quiet_run (v := ?_) ?_ ?_; (rotate_left; (intro w' hC; (try dsimp only at hC); go_split_ands; go_simp; with_reducible rfl); simp only [Act.put, List.setIfInBounds_toArray, List.set_cons_zero, List.set_cons_succ]; go_big_quiet_on))
      | (refine quiet_call (v := ?_) (f := ?_) (args := ?_) ?_ ?_ ?_; (rotate_left; rotate_left; rotate_left; (intro w' hC; (try dsimp only at hC); go_split_ands; go_simp; (refine ⟨?_, ?_⟩ <;> with_reducible rfl)); (intro w' hC; fail); simp only [Act.put, List.setIfInBounds_toArray, List.set_cons_zero, List.set_cons_succ]; go_big_quiet_on))))
  refine wpQuiet_nil ?_
  rintro w1 ⟨k1, d0, d1⟩
  have w4 := wrap_small (x := (b.size : Int) - (s : Int)) (by omega) (by omega)
  have w5 := wrap_small (x := (b.size : Int) - (s : Int) + 1) (by omega) (by omega)
  simp only [w4, w5]
  have w6 : IntKind.i64.wrap (keep.tmod ((b.size : Int) - (s : Int) + 1)) = keep.tmod ((b.size : Int) - (s : Int) + 1) := by rw [IntKind.wrap_i64]; omega
  have w7 : IntKind.i64.wrap (keep.tmod ((b.size : Int) - (s : Int) + 1) + ((b.size : Int) - (s : Int) + 1)) = keep.tmod ((b.size : Int) - (s : Int) + 1) + ((b.size : Int) - (s : Int) + 1) := by rw [IntKind.wrap_i64]; omega
  have w8 := wrap_small (x := (t : Int)) (by omega) (by omega)
  have w9 := wrap_small (x := (s : Int) + (t : Int)) (by omega) (by omega)
  have g0 : w1.frozen? ⟨p, 0, none⟩ = false := Blk.frozen (Blk.keep HP.out k1 (by simp)) 0
  have H1 := Lib.hid (HP.out.keep k1 (by simp))
  clear c0 c1 c2 c3 f0 f1 f2 f3
  go_wp2_with fail
  go_region
  have hL2 : LogAt (w1.setCell ⟨p, 0, none⟩ (.string (b.extract 0 (s + t)))) p ⟨b.extract 0 (s + t), s, f, g⟩ := by have := Blk.set H1.out 0 (.string (b.extract 0 (s + t))); simpa [LogAt] using this
  have k2 : Keep [p] w (w1.setCell ⟨p, 0, none⟩ (.string (b.extract 0 (s + t)))) := (k1.mono (by simp)).setCell _ _ (.inl (by simp))
  generalize w1.setCell ⟨p, 0, none⟩ (.string (b.extract 0 (s + t))) = w2 at *
  obtain ⟨b2, hb2⟩ : ∃ b2, b.extract 0 (s + t) = b2 := ⟨_, rfl⟩
  rw [hb2] at hL2 hsz
  have HB2 := Lib.hid hb2
  clear hb2
  clear w4 w5 w6 w7 w8 w9 t1 t3 t4 d0 d1 g0
  obtain ⟨c0, c1, c2, c3⟩ := hL2.cells
  have f1 := Blk.frozen hL2 1
  have f2 := Blk.frozen hL2 2
  have f3 := Blk.frozen hL2 3
  dsimp only at c0 c1 c2 c3
  have h3 : LogAt (((w2.setCell ⟨p, 1, none⟩ (.int .i64 ((s + t : Nat) : Int))).setCell ⟨p, 2, none⟩ (.int .i64 (-1))).setCell ⟨p, 3, none⟩ (.bool false)) p ⟨b2, s + t, -1, false⟩ := by
    have := Blk.set (Blk.set (Blk.set hL2 1 (.int .i64 ((s + t : Nat) : Int))) 2 (.int .i64 (-1))) 3 (.bool false); simpa [LogAt] using this
  have H3 := Lib.hid h3
  clear h3 hL2
  go_wp2
  go_end0
  rw [HB2.out]
  exact ⟨rfl, H3.out, ((((k2.setCell ⟨p, 1, none⟩ (.int .i64 ((s : Int) + (t : Int))) (.inl (by simp))).setCell ⟨p, 2, none⟩ (.int .i64 (-1)) (.inl (by simp))).setCell ⟨p, 3, none⟩ (.bool false) (.inl (by simp))).drew)⟩
structure Op9 where
  k : Int
  b : ByteArray
  n : Int
def stepL (x : Lg) (o : Op9) : Int × Lg :=
  if o.k % 5 = 0 then appF x o.b else if o.k % 5 = 1 then syncF x else if o.k % 5 = 2 then (0, fuseF x o.n) else if o.k % 5 = 3 then (0, crashF x o.n)
  else if x.g = true then (8, x) else (0, ⟨x.b.extract 0 (endR x.b), min x.s (endR x.b), x.f, false⟩)
end Go.Proofs.Ytdhhibppcckbkaa
