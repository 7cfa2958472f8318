import Derived.Test.YthkbgokkghidbaaLawSafe1
import Derived.BigRegion
namespace Go.Proofs.Ythkbgokkghidbaa
open Go.RowKit Go.Shelf
set_option linter.unusedVariables false
set_option linter.unusedSimpArgs false
/-! logs: Crash; a call -/
/-- How much of n - 1 waiting bytes is kept. -/
def keepK (keep : Int) (m : Nat) : Nat := ((keep.tmod ((m : Int) + 1) + ((m : Int) + 1)).tmod ((m : Int) + 1)).toNat
theorem keepK_spec (keep : Int) (m : Nat) : (keep.tmod ((m : Int) + 1) + ((m : Int) + 1)).tmod ((m : Int) + 1) = (keepK keep m : Nat) ∧ keepK keep m ≤ m ∧ -((m : Int) + 1) < keep.tmod ((m : Int) + 1) ∧ keep.tmod ((m : Int) + 1) < (m : Int) + 1 := by
  have hn : (0 : Int) < (m : Int) + 1 := by omega
  have h1 := Int.tmod_lt_of_pos keep hn
  have h2 : -((m : Int) + 1) < keep.tmod ((m : Int) + 1) := by
    have := Int.lt_tmod_of_pos keep hn
    exact this
  have h3 : 0 ≤ keep.tmod ((m : Int) + 1) + ((m : Int) + 1) := by omega
  have h4 := Int.tmod_nonneg ((m : Int) + 1) h3
  have h5 := Int.tmod_lt_of_pos (keep.tmod ((m : Int) + 1) + ((m : Int) + 1)) hn
  unfold keepK
  refine ⟨?_, ?_, h2, h1⟩ <;> omega
def crashF (x : Lg) (keep : Int) : Lg := ⟨x.b.extract 0 (x.s + keepK keep (x.b.size - x.s)), x.s + keepK keep (x.b.size - x.s), -1, false⟩
set_option maxHeartbeats 2000000 in
theorem crash_call (p : Nat) (x : Lg) (keep : Int) (w : World) (hp : LogAt w p x) (hb : x.b.size ≤ 100000000) (hs : x.s ≤ x.b.size) :
    Calls Try.prog 18 #[.pointer (some ⟨p, 0, none⟩), .int .i64 keep] w fun e w' => e = .returned (.tuple #[]) ∧ LogAt w' p (crashF x keep) ∧ Keep [p] w w' := by
  obtain ⟨b, s, f, g⟩ := x
  dsimp only at *
  obtain ⟨c0, c1, c2, c3⟩ := hp.cells
  have f0 := Blk.frozen hp 0
  have f1 := Blk.frozen hp 1
  have f2 := Blk.frozen hp 2
  have f3 := Blk.frozen hp 3
  obtain ⟨t1, t2, t3, t4⟩ := keepK_spec keep (b.size - s)
  have e : crashF ⟨b, s, f, g⟩ keep = ⟨b.extract 0 (s + keepK keep (b.size - s)), s + keepK keep (b.size - s), -1, false⟩ := rfl
  rw [e]
  have hm : ((b.size - s : Nat) : Int) = (b.size : Int) - (s : Int) := by omega
  rw [hm] at t1 t3 t4
  generalize keepK keep (b.size - s) = t at *
  have hsz : (b.extract 0 (s + t)).size = s + t := by simp; omega
  have hsb : (s : Int) + (t : Int) ≤ (b.size : Int) := by omega
  have hn0 : ((b.size : Int) - (s : Int) + 1 == 0) = false := beq_eq_false_iff_ne.2 (by omega)
  have hn1 : ¬ ((b.size : Int) - (s : Int) + 1 = 0) := by omega
  have HP := Lib.hid hp
  clear hp e hm
  dsimp only at c0 c1 c2 c3
  go_enter Try.func18, Try.ntmps18
  go_wp2_with fail
  refine wp_region_class (C := fun w' => Keep [] w w' ∧ w'.cell? ⟨p, 0, none⟩ = some (.string b) ∧ w'.cell? ⟨p, 1, none⟩ = some (.int .i64 s)) (by kernel_rfl) (by kernel_rfl) ⟨(Keep.refl _ _).drew, c0, c1⟩ ?_
  iterate 12 (first
    | go_big_quiet_skip
    | (go_big_quiet_want; first
      | (go_big_quiet_op; go_big_quiet_on)
      | (refine quiet_run (v := ?_) ?_ ?_; (rotate_left; (intro w' hC; (try dsimp only at hC); go_split_ands; go_simp; with_reducible rfl); simp only [Act.put, List.setIfInBounds_toArray, List.set_cons_zero, List.set_cons_succ]; go_big_quiet_on))
      | (refine quiet_call (v := ?_) (f := ?_) (args := ?_) ?_ ?_ ?_; (rotate_left; rotate_left; rotate_left; (intro w' hC; (try dsimp only at hC); go_split_ands; go_simp; (refine ⟨?_, ?_⟩ <;> with_reducible rfl)); (intro w' hC; fail); simp only [Act.put, List.setIfInBounds_toArray, List.set_cons_zero, List.set_cons_succ]; go_big_quiet_on))))
  refine wpQuiet_nil ?_
  rintro w1 ⟨k1, d0, d1⟩
  have w4 := wrap_small (x := (b.size : Int) - (s : Int)) (by omega) (by omega)
  have w5 := wrap_small (x := (b.size : Int) - (s : Int) + 1) (by omega) (by omega)
  simp only [w4, w5]
  have w6 : IntKind.i64.wrap (keep.tmod ((b.size : Int) - (s : Int) + 1)) = keep.tmod ((b.size : Int) - (s : Int) + 1) := by rw [IntKind.wrap_i64]; omega
  have w7 : IntKind.i64.wrap (keep.tmod ((b.size : Int) - (s : Int) + 1) + ((b.size : Int) - (s : Int) + 1)) = keep.tmod ((b.size : Int) - (s : Int) + 1) + ((b.size : Int) - (s : Int) + 1) := by rw [IntKind.wrap_i64]; omega
  have w8 := wrap_small (x := (t : Int)) (by omega) (by omega)
  have w9 := wrap_small (x := (s : Int) + (t : Int)) (by omega) (by omega)
  have g0 : w1.frozen? ⟨p, 0, none⟩ = false := Blk.frozen (Blk.keep HP.out k1 (by simp)) 0
  have H1 := Lib.hid (HP.out.keep k1 (by simp))
  clear c0 c1 c2 c3 f0 f1 f2 f3
  go_wp2_with fail
  go_region
  have hL2 : LogAt (w1.setCell ⟨p, 0, none⟩ (.string (b.extract 0 (s + t)))) p ⟨b.extract 0 (s + t), s, f, g⟩ := by have := Blk.set H1.out 0 (.string (b.extract 0 (s + t))); simpa [LogAt] using this
  have k2 : Keep [p] w (w1.setCell ⟨p, 0, none⟩ (.string (b.extract 0 (s + t)))) := (k1.mono (by simp)).setCell _ _ (.inl (by simp))
  generalize w1.setCell ⟨p, 0, none⟩ (.string (b.extract 0 (s + t))) = w2 at *
  obtain ⟨b2, hb2⟩ : ∃ b2, b.extract 0 (s + t) = b2 := ⟨_, rfl⟩
  rw [hb2] at hL2 hsz
  have HB2 := Lib.hid hb2
  clear hb2
  clear w4 w5 w6 w7 w8 w9 t1 t3 t4 d0 d1 g0
  obtain ⟨c0, c1, c2, c3⟩ := hL2.cells
  have f1 := Blk.frozen hL2 1
  have f2 := Blk.frozen hL2 2
  have f3 := Blk.frozen hL2 3
  dsimp only at c0 c1 c2 c3
  have h3 : LogAt (((w2.setCell ⟨p, 1, none⟩ (.int .i64 ((s + t : Nat) : Int))).setCell ⟨p, 2, none⟩ (.int .i64 (-1))).setCell ⟨p, 3, none⟩ (.bool false)) p ⟨b2, s + t, -1, false⟩ := by
    have := Blk.set (Blk.set (Blk.set hL2 1 (.int .i64 ((s + t : Nat) : Int))) 2 (.int .i64 (-1))) 3 (.bool false); simpa [LogAt] using this
  have H3 := Lib.hid h3
  clear h3 hL2
  go_wp2
  go_end0
  rw [HB2.out]
  exact ⟨rfl, H3.out, ((((k2.setCell ⟨p, 1, none⟩ (.int .i64 ((s : Int) + (t : Int))) (.inl (by simp))).setCell ⟨p, 2, none⟩ (.int .i64 (-1)) (.inl (by simp))).setCell ⟨p, 3, none⟩ (.bool false) (.inl (by simp))).drew)⟩
structure Op9 where
  k : Int
  b : ByteArray
  n : Int
def stepL (x : Lg) (o : Op9) : Int × Lg :=
  if o.k % 5 = 0 then appF x o.b else if o.k % 5 = 1 then syncF x else if o.k % 5 = 2 then (0, fuseF x o.n) else if o.k % 5 = 3 then (0, crashF x o.n)
  else if x.g = true then (8, x) else (0, ⟨x.b.extract 0 (endR x.b), min x.s (endR x.b), x.f, false⟩)
set_option maxHeartbeats 2000000 in
theorem call_call (p : Nat) (x : Lg) (o : Op9) (w : World) (hp : LogAt w p x) (hk : 0 ≤ o.k ∧ o.k ≤ 255) (hf : -1 ≤ x.f ∧ x.f ≤ 9223372036854775807) (hs : o.b.size ≤ 140737488355328) (hb : x.b.size ≤ 1000000) (hx : x.s ≤ x.b.size) :
    Calls Try.prog 14 #[.pointer (some ⟨p, 0, none⟩), .agg #[.int .u8 o.k, .string o.b, .int .i64 o.n]] w fun e w' => e = .returned (.int .i64 (stepL x o).1) ∧ LogAt w' p (stepL x o).2 ∧ Keep [p] w w' := by
  obtain ⟨k, b, n⟩ := o
  dsimp only at *
  have k0 : Keep [] w (w.alloc (.cells #[.int .u8 k, .string b, .int .i64 n] 42)) := (Keep.refl _ _).alloc _
  have hp0 := hp.keep k0 (by simp)
  have plt := Blk.lt hp
  have hkb : (k.tmod 5 = k % 5) := by
    obtain ⟨m, rfl⟩ := Int.eq_ofNat_of_zero_le hk.1
    rfl
  have HE : Hid (stepL x ⟨k, b, n⟩ = if k % 5 = 0 then appF x b else if k % 5 = 1 then syncF x else if k % 5 = 2 then (0, fuseF x n) else if k % 5 = 3 then (0, crashF x n)
    else if x.g = true then (8, x) else (0, ⟨x.b.extract 0 (endR x.b), min x.s (endR x.b), x.f, false⟩)) := Lib.hid rfl
  generalize stepL x ⟨k, b, n⟩ = out at *
  have k0p : Keep [p] w (w.alloc (.cells #[.int .u8 k, .string b, .int .i64 n] 42)) := k0.mono (by simp)
  by_cases h0 : k % 5 = 0
  · obtain rfl : out = appF x b := by rw [HE.out, if_pos h0]
    have hA := append_call p x b _ hp0 hf hs (by omega)
    clear HE hp hp0
    generalize appF x b = out at *
    have hz : (k % 5 == 0) = true := by simp [h0]
    go_enter Try.func14, Try.ntmps14
    go_wp2_with (go_at_call 20; refine hA.mono ?_; rintro e w2 ⟨rfl, h1, h2⟩)
    go_ret
    exact ⟨rfl, h1, k0p.trans h2⟩
  · have HE1 := HE.out.trans (if_neg h0)
    clear HE
    have hz : (k % 5 == 0) = false := by simp [h0]
    by_cases h1 : k % 5 = 1
    · obtain rfl : out = syncF x := by rw [HE1, if_pos h1]
      have hA := sync_call p x _ hp0 hf
      clear HE1 hp hp0
      generalize syncF x = out at *
      go_enter Try.func14, Try.ntmps14
      go_wp2_with (go_at_call 22; refine hA.mono ?_; rintro e w2 ⟨rfl, h1, h2⟩)
      go_ret
      exact ⟨rfl, h1, k0p.trans h2⟩
    · have HE2 := HE1.trans (if_neg h1)
      clear HE1
      have hz1 : (k % 5 == 1) = false := by simp [h1]
      by_cases h2 : k % 5 = 2
      · obtain rfl : out = (0, fuseF x n) := by rw [HE2, if_pos h2]
        have hA := fuse_call p x n _ hp0
        clear HE2 hp hp0
        generalize fuseF x n = out at *
        go_enter Try.func14, Try.ntmps14
        go_wp2_with (go_at_call 23; refine hA.mono ?_; rintro e w2 ⟨rfl, h1, h2⟩)
        go_ret
        exact ⟨rfl, h1, k0p.trans h2⟩
      · have HE3 := HE2.trans (if_neg h2)
        clear HE2
        have hz2 : (k % 5 == 2) = false := by simp [h2]
        by_cases h3 : k % 5 = 3
        · obtain rfl : out = (0, crashF x n) := by rw [HE3, if_pos h3]
          have hA := crash_call p x n _ hp0 (by omega) hx
          clear HE3 hp hp0
          generalize crashF x n = out at *
          go_enter Try.func14, Try.ntmps14
          go_wp2_with (go_at_call 18; refine hA.mono ?_; rintro e w2 ⟨rfl, h1, h2⟩)
          go_ret
          exact ⟨rfl, h1, k0p.trans h2⟩
        · have HE4 := HE3.trans (if_neg h3)
          clear HE3
          have hz3 : (k % 5 == 3) = false := by simp [h3]
          have h4 : k % 5 = 4 := by omega
          cases hg : x.g with
          | true =>
            obtain rfl : out = (8, x) := by rw [HE4, if_pos hg]
            have hA := Cut_gone p x _ hp0 hg
            clear HE4 hp
            go_enter Try.func14, Try.ntmps14
            go_wp2_with (go_at_call 10; refine hA.mono ?_; rintro e w2 ⟨rfl, h2⟩)
            go_ret
            exact ⟨rfl, hp0.keep h2 (by simp), k0p.trans (h2.mono (by simp))⟩
          | false =>
            obtain rfl : out = (0, ⟨x.b.extract 0 (endR x.b), min x.s (endR x.b), x.f, false⟩) := by rw [HE4, if_neg (by simp [hg])]
            have hA := Cut_call p x _ hp0 hg hb (by omega)
            clear HE4 hp hp0
            go_enter Try.func14, Try.ntmps14
            go_wp2_with (go_at_call 10; refine hA.mono ?_; rintro e w2 ⟨rfl, h1, h2⟩)
            go_ret
            exact ⟨rfl, h1, k0p.trans h2⟩
end Go.Proofs.Ythkbgokkghidbaa
