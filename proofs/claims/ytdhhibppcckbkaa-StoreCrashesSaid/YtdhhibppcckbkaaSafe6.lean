import Derived.Test.YtdhhibppcckbkaaSafe5
import Derived.Deep.RegionLaw
namespace Go.Proofs.Ytdhhibppcckbkaa
open Go.RowKit Go.Shelf
set_option linter.unusedVariables false
set_option linter.unusedSimpArgs false
/-! logs: what is called -/
theorem of_call (b : ByteArray) (w : World) : Calls Try.prog 18 #[.string b] w fun e w' => ∃ p, e = .returned (.pointer (some ⟨p, 0, none⟩)) ∧ w.heap.size ≤ p ∧ LogAt w' p ⟨b, b.size, -1, false⟩ ∧ Keep [] w w' := by
  have hb := Blk.new w #[.string b, .int .i64 (b.size : Nat), .int .i64 (-1), .bool false] 77
  go_enter Try.func18, Try.ntmps18
  go_wp2
  go_ret
  exact ⟨_, rfl, Nat.le_refl _, hb, (Keep.refl _ _).alloc _⟩
theorem new_call (w : World) : Calls Try.prog 23 #[] w fun e w' => ∃ p, e = .returned (.pointer (some ⟨p, 0, none⟩)) ∧ w.heap.size ≤ p ∧ LogAt w' p ⟨⟨#[]⟩, 0, -1, false⟩ ∧ Keep [] w w' := by
  have hC := fun w => of_call ⟨#[]⟩ w
  go_enter Try.func23, Try.ntmps23
  go_wp2_with (go_at_call 18; refine (hC _).mono ?_; rintro e w1 ⟨p, rfl, h1, h2, k1⟩)
  go_ret
  exact ⟨p, rfl, h1, h2, k1⟩
theorem len_call (p : Nat) (x : Lg) (w : World) (hp : LogAt w p x) : Calls Try.prog 26 #[.pointer (some ⟨p, 0, none⟩)] w fun e w' => e = .returned (.int .i64 x.b.size) ∧ Keep [] w w' := by
  obtain ⟨c0, c1, c2, c3⟩ := hp.cells
  go_enter Try.func26, Try.ntmps26
  go_wp2
  go_ret
  exact ⟨rfl, Keep.refl _ _⟩
/-- A fuse that burns. -/
def burnF (x : Lg) : Lg := ⟨x.b, x.s, max (x.f - 1) (-1), x.g || x.f == 0⟩
set_option maxHeartbeats 1000000 in
theorem burn_call (p : Nat) (x : Lg) (w : World) (hp : LogAt w p x) (hf : -1 ≤ x.f ∧ x.f ≤ 9223372036854775807) : Calls Try.prog 64 #[.pointer (some ⟨p, 0, none⟩)] w fun e w' => e = .returned (.bool !(burnF x).g) ∧ LogAt w' p (burnF x) ∧ Keep [p] w w' := by
  obtain ⟨b, s, f, g⟩ := x
  obtain ⟨c0, c1, c2, c3⟩ := hp.cells
  have f2 := Blk.frozen hp 2
  have f3 := Blk.frozen hp 3
  dsimp only at *
  have HP := Lib.hid hp
  obtain ⟨f0, f9⟩ := hf
  by_cases h0 : f = 0
  · subst h0
    have e : burnF ⟨b, s, 0, g⟩ = ⟨b, s, -1, true⟩ := by simp [burnF]
    rw [e]
    have h1 : LogAt ((w.setCell ⟨p, 3, none⟩ (.bool true)).setCell ⟨p, 2, none⟩ (.int .i64 (-1))) p ⟨b, s, -1, true⟩ := by
      have := Blk.set (Blk.set hp 3 (.bool true)) 2 (.int .i64 (-1)); simpa [LogAt] using this
    have H1 := Lib.hid h1
    clear h1 e hp
    go_enter Try.func64, Try.ntmps64
    go_wp2
    go_ret
    exact ⟨rfl, H1.out, ((Keep.refl _ _).setCell _ _ (.inl (by simp))).setCell _ _ (.inl (by simp))⟩
  · have h0' : (f == 0) = false := by simp [h0]
    have e : burnF ⟨b, s, f, g⟩ = ⟨b, s, max (f - 1) (-1), g⟩ := by simp [burnF, h0]
    rw [e]
    have h1 : LogAt (w.setCell ⟨p, 2, none⟩ (.int .i64 (max (f - 1) (-1)))) p ⟨b, s, max (f - 1) (-1), g⟩ := by
      have := Blk.set hp 2 (.int .i64 (max (f - 1) (-1))); simpa [LogAt] using this
    by_cases hn : f = -1
    · subst hn
      have e2 : max ((-1 : Int) - 1) (-1) = -1 := rfl
      rw [e2] at h1 ⊢
      have H1 := Lib.hid h1
      clear h1 e hp e2
      go_enter Try.func64, Try.ntmps64
      go_wp2
      go_ret
      exact ⟨rfl, H1.out, (Keep.refl _ _).setCell _ _ (.inl (by simp))⟩
    · have e2 : max (f - 1) (-1) = f - 1 := by omega
      rw [e2] at h1 ⊢
      have H1 := Lib.hid h1
      clear h1 e hp e2
      have hm : -1 ≤ f - 1 := by omega
      go_enter Try.func64, Try.ntmps64
      go_wp2
      go_ret
      exact ⟨rfl, H1.out, (Keep.refl _ _).setCell _ _ (.inl (by simp))⟩
def appF (x : Lg) (b : ByteArray) : Int × Lg :=
  if x.g = true then (8, x) else if b.size < 1 ∨ 4000 < b.size then (1, x) else if (burnF x).g = true then (8, burnF x) else (0, ⟨x.b ++ textF b, x.s, (burnF x).f, false⟩)
set_option maxHeartbeats 1000000 in
theorem append_call (p : Nat) (x : Lg) (s : ByteArray) (w : World) (hp : LogAt w p x) (hf : -1 ≤ x.f ∧ x.f ≤ 9223372036854775807) (hs : s.size ≤ 140737488355328) (hb : x.b.size ≤ 100000000) :
    Calls Try.prog 45 #[.pointer (some ⟨p, 0, none⟩), .string s] w fun e w' => e = .returned (.int .i64 (appF x s).1) ∧ LogAt w' p (appF x s).2 ∧ Keep [p] w w' := by
  obtain ⟨c0, c1, c2, c3⟩ := hp.cells
  have HP := Lib.hid hp
  have HE : Hid (appF x s = if x.g = true then (8, x) else if s.size < 1 ∨ 4000 < s.size then (1, x) else if (burnF x).g = true then (8, burnF x) else (0, ⟨x.b ++ textF s, x.s, (burnF x).f, false⟩)) := Lib.hid rfl
  have hB := burn_call p x w hp hf
  generalize appF x s = out at *
  clear hp hf
  cases hg : x.g with
  | true =>
    obtain rfl : out = (8, x) := by rw [HE.out, if_pos hg]
    rw [hg] at c3
    have HP := HP.out
    clear HE hB
    go_enter Try.func45, Try.ntmps45
    go_wp2
    go_ret
    exact ⟨rfl, HP, Keep.refl _ _⟩
  | false =>
    rw [hg] at c3
    have HE1 := HE.out.trans (if_neg (by rw [hg]; simp))
    clear HE
    by_cases h1 : s.size < 1
    · have h1z : (s.size : Int) < 1 := by omega
      obtain rfl : out = (1, x) := by rw [HE1, if_pos (.inl h1)]
      have HP := HP.out
      clear HE1 hB
      go_enter Try.func45, Try.ntmps45
      go_wp2
      go_ret
      exact ⟨rfl, HP, Keep.refl _ _⟩
    · have h1z : ¬ (s.size : Int) < 1 := by omega
      by_cases h2 : 4000 < s.size
      · have h2z : (4000 : Int) < (s.size : Int) := by omega
        obtain rfl : out = (1, x) := by rw [HE1, if_pos (.inr h2)]
        have HP := HP.out
        clear HE1 hB
        go_enter Try.func45, Try.ntmps45
        go_wp2
        go_ret
        exact ⟨rfl, HP, Keep.refl _ _⟩
      · have h2z : ¬ (4000 : Int) < (s.size : Int) := by omega
        have HE2 := HE1.trans (if_neg (by omega))
        clear HE1
        have hbb : (burnF x).b = x.b := rfl
        have hbs : (burnF x).s = x.s := rfl
        generalize burnF x = y at *
        cases hy : y.g with
        | true =>
          obtain rfl : out = (8, y) := by rw [HE2, if_pos hy]
          rw [hy] at hB
          clear HE2
          go_enter Try.func45, Try.ntmps45
          go_wp2_with (go_at_call 64; refine hB.mono ?_; rintro e w1 ⟨rfl, h3, k1⟩)
          go_ret
          exact ⟨rfl, h3, k1⟩
        | false =>
          obtain rfl : out = (0, ⟨x.b ++ textF s, x.s, y.f, false⟩) := by rw [HE2, if_neg (by rw [hy]; simp)]
          rw [hy] at hB
          clear HE2
          have z0 : (textF s).size = 4 + s.size := by simp [textF, numF_size]
          have q0 : (9223372036854775807 < x.b.size + (textF s).size) = False := by simp; omega
          have hT := fun w => text_call s w (by omega)
          go_enter Try.func45, Try.ntmps45
          go_wp2_with (go_at_call 64; refine hB.mono ?_; rintro e w1 ⟨rfl, h3, k1⟩; obtain ⟨d0, d1, d2, d3⟩ := h3.cells; rw [hbb] at d0)
          have g0 := Blk.frozen h3 0
          have H3 := Lib.hid h3
          clear h3 z0
          obtain ⟨ts, hts⟩ : ∃ ts, textF s = ts := ⟨_, rfl⟩
          simp only [hts] at hT q0
          have HTS := Lib.hid hts
          clear hts
          have hmv : ∀ w2, Keep [] w1 w2 → w2.cell? ⟨p, 0, none⟩ = some (.string x.b) ∧ w2.frozen? ⟨p, 0, none⟩ = false := fun w2 k2 => ⟨k2.cell (by simp) d0, Blk.frozen (Blk.keep H3.out k2 (by simp)) 0⟩
          have hmv := Lib.hid hmv
          go_region_law (go_simp; go_at_call 65; refine (hT _).mono ?_; rintro e w2 ⟨rfl, k2⟩; have k2 : Keep [] w1 w2 := Keep.trans ((Keep.refl _ _).drew) k2; obtain ⟨q1, q2⟩ := hmv.out w2 k2)
          all_goals
            go_wp2
            go_ret
            have h4 : LogAt w2 p y := Blk.keep H3.out k2 (by simp)
            rw [HTS.out]
            refine ⟨rfl, ?_, (k1.trans (k2.mono (by simp))).setCell _ _ (.inl (by simp))⟩
            have := Blk.set h4 0 (.string (x.b ++ ts))
            rw [hbs, hy] at this
            simpa [LogAt] using this
def syncF (x : Lg) : Int × Lg := if x.g = true then (8, x) else if (burnF x).g = true then (8, burnF x) else (0, ⟨x.b, x.b.size, (burnF x).f, false⟩)
set_option maxHeartbeats 1000000 in
theorem sync_call (p : Nat) (x : Lg) (w : World) (hp : LogAt w p x) (hf : -1 ≤ x.f ∧ x.f ≤ 9223372036854775807) :
    Calls Try.prog 46 #[.pointer (some ⟨p, 0, none⟩)] w fun e w' => e = .returned (.int .i64 (syncF x).1) ∧ LogAt w' p (syncF x).2 ∧ Keep [p] w w' := by
  obtain ⟨c0, c1, c2, c3⟩ := hp.cells
  have HP := Lib.hid hp
  have HE : Hid (syncF x = if x.g = true then (8, x) else if (burnF x).g = true then (8, burnF x) else (0, ⟨x.b, x.b.size, (burnF x).f, false⟩)) := Lib.hid rfl
  have hB := burn_call p x w hp hf
  generalize syncF x = out at *
  clear hp hf
  cases hg : x.g with
  | true =>
    obtain rfl : out = (8, x) := by rw [HE.out, if_pos hg]
    rw [hg] at c3
    have HP := HP.out
    clear HE hB
    go_enter Try.func46, Try.ntmps46
    go_wp2
    go_ret
    exact ⟨rfl, HP, Keep.refl _ _⟩
  | false =>
    rw [hg] at c3
    have HE1 := HE.out.trans (if_neg (by rw [hg]; simp))
    clear HE
    have hbb : (burnF x).b = x.b := rfl
    generalize burnF x = y at *
    cases hy : y.g with
    | true =>
      obtain rfl : out = (8, y) := by rw [HE1, if_pos hy]
      rw [hy] at hB
      clear HE1
      go_enter Try.func46, Try.ntmps46
      go_wp2_with (go_at_call 64; refine hB.mono ?_; rintro e w1 ⟨rfl, h3, k1⟩)
      go_ret
      exact ⟨rfl, h3, k1⟩
    | false =>
      obtain rfl : out = (0, ⟨x.b, x.b.size, y.f, false⟩) := by rw [HE1, if_neg (by rw [hy]; simp)]
      rw [hy] at hB
      clear HE1
      go_enter Try.func46, Try.ntmps46
      go_wp2_with (go_at_call 64; refine hB.mono ?_; rintro e w1 ⟨rfl, h3, k1⟩; obtain ⟨d0, d1, d2, d3⟩ := h3.cells; rw [hbb] at d0; have g1 := Blk.frozen h3 1; have H3 := Lib.hid h3; clear h3)
      go_ret
      refine ⟨rfl, ?_, k1.setCell _ _ (.inl (by simp))⟩
      have := Blk.set H3.out 1 (.int .i64 (x.b.size : Nat))
      rw [hbb, hy] at this
      simpa [LogAt] using this
def fuseF (x : Lg) (n : Int) : Lg := if x.g = true then x else ⟨x.b, x.s, max n (-1), x.g⟩
set_option maxHeartbeats 1000000 in
theorem fuse_call (p : Nat) (x : Lg) (n : Int) (w : World) (hp : LogAt w p x) :
    Calls Try.prog 27 #[.pointer (some ⟨p, 0, none⟩), .int .i64 n] w fun e w' => e = .returned (.tuple #[]) ∧ LogAt w' p (fuseF x n) ∧ Keep [p] w w' := by
  obtain ⟨c0, c1, c2, c3⟩ := hp.cells
  have f2 := Blk.frozen hp 2
  have HP := Lib.hid hp
  have HE : Hid (fuseF x n = if x.g = true then x else ⟨x.b, x.s, max n (-1), x.g⟩) := Lib.hid rfl
  generalize fuseF x n = out at *
  clear hp
  cases hg : x.g with
  | true =>
    obtain rfl : out = x := by rw [HE.out, if_pos hg]
    rw [hg] at c3
    clear HE
    go_enter Try.func27, Try.ntmps27
    go_wp2
    go_end0
    exact ⟨rfl, HP.out, Keep.refl _ _⟩
  | false =>
    rw [hg] at c3
    have HE1 := HE.out.trans (if_neg (by rw [hg]; simp))
    clear HE
    have h1 : LogAt (w.setCell ⟨p, 2, none⟩ (.int .i64 (max n (-1)))) p out := by
      have := Blk.set HP.out 2 (.int .i64 (max n (-1))); rw [HE1]; simpa [LogAt] using this
    clear HE1
    by_cases hn : n < -1
    · rw [show max n (-1) = -1 by omega] at h1
      have H1 := Lib.hid h1
      clear h1
      go_enter Try.func27, Try.ntmps27
      go_wp2
      go_end0
      exact ⟨rfl, H1.out, (Keep.refl _ _).setCell _ _ (.inl (by simp))⟩
    · rw [show max n (-1) = n by omega] at h1
      have H1 := Lib.hid h1
      clear h1
      go_enter Try.func27, Try.ntmps27
      go_wp2
      go_end0
      exact ⟨rfl, H1.out, (Keep.refl _ _).setCell _ _ (.inl (by simp))⟩
end Go.Proofs.Ytdhhibppcckbkaa
