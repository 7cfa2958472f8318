import Derived.Test.YtdhhibppcckbkaaSafe7
namespace Go.Proofs.Ytdhhibppcckbkaa
open Go.RowKit Go.Shelf
set_option linter.unusedVariables false
set_option linter.unusedSimpArgs false
/-! logs, the plain part: the program's and the reference's, call for call -/
/-- The reference's log. -/
structure Rf where
  a : ByteArray
  w : ByteArray
  f : Int
  g : Bool
def doF (y : Rf) (o : Op9) : Int × Rf :=
  if o.k % 5 = 2 then (0, if y.g = true then y else ⟨y.a, y.w, max o.n (-1), y.g⟩)
  else if o.k % 5 = 3 then (0, ⟨y.a ++ y.w.extract 0 (keepK o.n y.w.size), ⟨#[]⟩, -1, false⟩)
  else if y.g = true then (8, y)
  else if o.k % 5 = 0 ∧ (o.b.size < 1 ∨ 4000 < o.b.size) then (1, y)
  else if o.k % 5 = 4 then (0, ⟨(y.a ++ y.w).extract 0 (min (endR (y.a ++ y.w)) y.a.size), (y.a ++ y.w).extract (min (endR (y.a ++ y.w)) y.a.size) (endR (y.a ++ y.w)), y.f, y.g⟩)
  else if y.f = 0 then (8, ⟨y.a, y.w, y.f, true⟩)
  else if o.k % 5 = 0 then (0, ⟨y.a, y.w ++ textF o.b, if 0 < y.f then y.f - 1 else y.f, y.g⟩)
  else (0, ⟨y.a ++ y.w, ⟨#[]⟩, if 0 < y.f then y.f - 1 else y.f, y.g⟩)
/-- They are one log. -/
def Like (x : Lg) (y : Rf) : Prop := x.b = y.a ++ y.w ∧ x.s = y.a.size ∧ x.g = y.g ∧ (x.g = false → x.f = y.f) ∧ -1 ≤ x.f ∧ x.f ≤ 9223372036854775807 ∧ -1 ≤ y.f ∧ y.f ≤ 9223372036854775807
theorem ba_nil (x : ByteArray) : x ++ ⟨#[]⟩ = x := by
  apply ByteArray.ext; simp
theorem ba_left (x y : ByteArray) (i : Nat) (h : i ≤ x.size) : (x ++ y).extract 0 i = x.extract 0 i := by
  apply ByteArray.ext
  simp [ByteArray.data_extract, ByteArray.data_append, Array.extract_append]
  have : x.data.size = x.size := rfl
  omega
theorem ba_right (x y : ByteArray) (i : Nat) : (x ++ y).extract 0 (x.size + i) = x ++ y.extract 0 i := by
  apply ByteArray.ext
  have : x.data.size = x.size := rfl
  simp [ByteArray.data_extract, ByteArray.data_append, Array.extract_append, this]
  congr 1
  exact Array.extract_eq_self_of_le (by omega)
theorem ba_split (x : ByteArray) (i j : Nat) (h : i ≤ j) : x.extract 0 j = x.extract 0 i ++ x.extract i j := by
  rw [ByteArray.extract_append_extract]
  congr 1 <;> omega
theorem textF_size (s : ByteArray) : (textF s).size = 4 + s.size := by simp [textF, numF_size]
theorem like_step {x : Lg} {y : Rf} (h : Like x y) (o : Op9) (ho : o.n ≤ 9223372036854775807) : (stepL x o).1 = (doF y o).1 ∧ Like (stepL x o).2 (doF y o).2 := by
  obtain ⟨h1, h2, h3, h4, h5, h6, h7, h8⟩ := h
  obtain ⟨b, s, f, g⟩ := x
  obtain ⟨a, w, yf, yg⟩ := y
  obtain ⟨k, ob, n⟩ := o
  dsimp only at *
  subst h1 h2 h3
  by_cases k2 : k % 5 = 2
  · have e1 : stepL ⟨a ++ w, a.size, f, g⟩ ⟨k, ob, n⟩ = (0, fuseF ⟨a ++ w, a.size, f, g⟩ n) := by simp [stepL, k2]
    have e2 : doF ⟨a, w, yf, g⟩ ⟨k, ob, n⟩ = (0, if g = true then ⟨a, w, yf, g⟩ else ⟨a, w, max n (-1), g⟩) := by simp [doF, k2]
    rw [e1, e2]
    refine ⟨rfl, ?_⟩
    cases g with
    | true => exact ⟨rfl, rfl, rfl, fun h => by simp [fuseF] at h, h5, h6, h7, h8⟩
    | false => exact ⟨rfl, rfl, rfl, fun _ => rfl, by show -1 ≤ max n (-1); omega, by show max n (-1) ≤ _; omega, by show -1 ≤ max n (-1); omega, by show max n (-1) ≤ _; omega⟩
  by_cases k3 : k % 5 = 3
  · have e1 : stepL ⟨a ++ w, a.size, f, g⟩ ⟨k, ob, n⟩ = (0, crashF ⟨a ++ w, a.size, f, g⟩ n) := by simp [stepL, k3]
    have e2 : doF ⟨a, w, yf, g⟩ ⟨k, ob, n⟩ = (0, ⟨a ++ w.extract 0 (keepK n w.size), ⟨#[]⟩, -1, false⟩) := by simp [doF, k3]
    rw [e1, e2]
    refine ⟨rfl, ?_⟩
    unfold crashF
    dsimp only
    have hk := (keepK_spec n w.size).2.1
    have e : (a ++ w).size - a.size = w.size := by simp
    rw [e]
    refine ⟨?_, ?_, rfl, fun _ => rfl, by show (-1 : Int) ≤ -1; omega, by show (-1 : Int) ≤ _; omega, by show (-1 : Int) ≤ -1; omega, by show (-1 : Int) ≤ _; omega⟩
    · show (a ++ w).extract 0 (a.size + keepK n w.size) = a ++ w.extract 0 (keepK n w.size) ++ ⟨#[]⟩
      rw [ba_nil, ba_right]
    · show a.size + keepK n w.size = (a ++ w.extract 0 (keepK n w.size)).size
      simp; omega
  cases g with
  | true =>
    have e2 : doF ⟨a, w, yf, true⟩ ⟨k, ob, n⟩ = (8, ⟨a, w, yf, true⟩) := by simp [doF, k2, k3]
    have e1 : stepL ⟨a ++ w, a.size, f, true⟩ ⟨k, ob, n⟩ = (8, ⟨a ++ w, a.size, f, true⟩) := by
      have : k % 5 = 0 ∨ k % 5 = 1 ∨ k % 5 = 4 := by omega
      rcases this with e | e | e <;> simp [stepL, e, appF, syncF]
    rw [e1, e2]
    exact ⟨rfl, rfl, rfl, rfl, h4, h5, h6, h7, h8⟩
  | false =>
    have hf := h4 rfl
    subst hf
    by_cases k0 : k % 5 = 0
    · by_cases hb : ob.size < 1 ∨ 4000 < ob.size
      · have e1 : stepL ⟨a ++ w, a.size, f, false⟩ ⟨k, ob, n⟩ = (1, ⟨a ++ w, a.size, f, false⟩) := by simp only [stepL, k0, appF, if_pos hb]; rfl
        have e2 : doF ⟨a, w, f, false⟩ ⟨k, ob, n⟩ = (1, ⟨a, w, f, false⟩) := by
          unfold doF
          dsimp only
          rw [if_neg k2, if_neg k3, if_neg (by simp), if_pos ⟨k0, hb⟩]
        rw [e1, e2]
        exact ⟨rfl, rfl, rfl, rfl, h4, h5, h6, h7, h8⟩
      · by_cases hf0 : f = 0
        · subst hf0
          have e1 : stepL ⟨a ++ w, a.size, 0, false⟩ ⟨k, ob, n⟩ = (8, ⟨a ++ w, a.size, -1, true⟩) := by simp only [stepL, k0, appF, burnF, if_neg hb]; rfl
          have e2 : doF ⟨a, w, 0, false⟩ ⟨k, ob, n⟩ = (8, ⟨a, w, 0, true⟩) := by
            unfold doF
            dsimp only
            rw [if_neg k2, if_neg k3, if_neg (by simp), if_neg (fun h => hb h.2), if_neg (by omega), if_pos rfl]
          rw [e1, e2]
          exact ⟨rfl, rfl, rfl, rfl, by simp, by show (-1 : Int) ≤ -1; omega, by show (-1 : Int) ≤ _; omega, by show (-1 : Int) ≤ 0; omega, by show (0 : Int) ≤ _; omega⟩
        · have hfb : (f == 0) = false := by simp [hf0]
          have e1 : stepL ⟨a ++ w, a.size, f, false⟩ ⟨k, ob, n⟩ = (0, ⟨a ++ w ++ textF ob, a.size, max (f - 1) (-1), false⟩) := by simp only [stepL, k0, appF, burnF, if_neg hb, hfb]; rfl
          have e2 : doF ⟨a, w, f, false⟩ ⟨k, ob, n⟩ = (0, ⟨a, w ++ textF ob, if 0 < f then f - 1 else f, false⟩) := by
            unfold doF
            dsimp only
            rw [if_neg k2, if_neg k3, if_neg (by simp), if_neg (fun h => hb h.2), if_neg (by omega), if_neg hf0, if_pos k0]
          rw [e1, e2]
          refine ⟨rfl, ?_, rfl, rfl, fun _ => ?_, ?_, ?_, ?_, ?_⟩
          · show a ++ w ++ textF ob = a ++ (w ++ textF ob); rw [ByteArray.append_assoc]
          · show max (f - 1) (-1) = if 0 < f then f - 1 else f
            split <;> omega
          · show -1 ≤ max (f - 1) (-1); omega
          · show max (f - 1) (-1) ≤ _; omega
          · show -1 ≤ if 0 < f then f - 1 else f; split <;> omega
          · show (if 0 < f then f - 1 else f) ≤ _; split <;> omega
    · by_cases k4 : k % 5 = 4
      · have e1 : stepL ⟨a ++ w, a.size, f, false⟩ ⟨k, ob, n⟩ = (0, ⟨(a ++ w).extract 0 (endR (a ++ w)), min a.size (endR (a ++ w)), f, false⟩) := by simp [stepL, k4]
        have e2 : doF ⟨a, w, f, false⟩ ⟨k, ob, n⟩ = (0, ⟨(a ++ w).extract 0 (min (endR (a ++ w)) a.size), (a ++ w).extract (min (endR (a ++ w)) a.size) (endR (a ++ w)), f, false⟩) := by
          unfold doF
          dsimp only
          rw [if_neg k2, if_neg k3, if_neg (by simp), if_neg (fun h => k0 h.1), if_pos k4]
        rw [e1, e2]
        refine ⟨rfl, ?_, ?_, rfl, fun _ => rfl, h5, h6, h7, h8⟩
        · show (a ++ w).extract 0 (endR (a ++ w)) = (a ++ w).extract 0 (min (endR (a ++ w)) a.size) ++ (a ++ w).extract (min (endR (a ++ w)) a.size) (endR (a ++ w))
          exact ba_split _ _ _ (Nat.min_le_left _ _)
        · show min a.size (endR (a ++ w)) = ((a ++ w).extract 0 (min (endR (a ++ w)) a.size)).size
          have := endR_le (a ++ w)
          simp at this ⊢
          omega
      · have k1 : k % 5 = 1 := by omega
        by_cases hf0 : f = 0
        · subst hf0
          have e1 : stepL ⟨a ++ w, a.size, 0, false⟩ ⟨k, ob, n⟩ = (8, ⟨a ++ w, a.size, -1, true⟩) := by simp only [stepL, k1, syncF, burnF]; rfl
          have e2 : doF ⟨a, w, 0, false⟩ ⟨k, ob, n⟩ = (8, ⟨a, w, 0, true⟩) := by
            unfold doF
            dsimp only
            rw [if_neg k2, if_neg k3, if_neg (by simp), if_neg (fun h => k0 h.1), if_neg k4, if_pos rfl]
          rw [e1, e2]
          exact ⟨rfl, rfl, rfl, rfl, by simp, by show (-1 : Int) ≤ -1; omega, by show (-1 : Int) ≤ _; omega, by show (-1 : Int) ≤ 0; omega, by show (0 : Int) ≤ _; omega⟩
        · have hfb : (f == 0) = false := by simp [hf0]
          have e1 : stepL ⟨a ++ w, a.size, f, false⟩ ⟨k, ob, n⟩ = (0, ⟨a ++ w, (a ++ w).size, max (f - 1) (-1), false⟩) := by simp only [stepL, k1, syncF, burnF, hfb]; rfl
          have e2 : doF ⟨a, w, f, false⟩ ⟨k, ob, n⟩ = (0, ⟨a ++ w, ⟨#[]⟩, if 0 < f then f - 1 else f, false⟩) := by
            unfold doF
            dsimp only
            rw [if_neg k2, if_neg k3, if_neg (by simp), if_neg (fun h => k0 h.1), if_neg k4, if_neg hf0, if_neg k0]
          rw [e1, e2]
          refine ⟨rfl, ?_, rfl, rfl, fun _ => ?_, ?_, ?_, ?_, ?_⟩
          · show a ++ w = a ++ w ++ ⟨#[]⟩; rw [ba_nil]
          · show max (f - 1) (-1) = if 0 < f then f - 1 else f
            split <;> omega
          · show -1 ≤ max (f - 1) (-1); omega
          · show max (f - 1) (-1) ≤ _; omega
          · show -1 ≤ if 0 < f then f - 1 else f; split <;> omega
          · show (if 0 < f then f - 1 else f) ≤ _; split <;> omega
theorem stepL_size (x : Lg) (o : Op9) (h : x.s ≤ x.b.size) : (stepL x o).2.b.size ≤ x.b.size + 4004 ∧ (stepL x o).2.s ≤ (stepL x o).2.b.size := by
  obtain ⟨b, s, f, g⟩ := x
  dsimp only at h
  have H : ∀ z : Int × Lg, stepL ⟨b, s, f, g⟩ o = z → z.2.b.size ≤ b.size + 4004 ∧ z.2.s ≤ z.2.b.size := by
    intro z hz
    unfold stepL at hz
    split at hz
    · unfold appF burnF at hz
      dsimp only at hz
      split at hz
      · subst hz; exact ⟨by simp, h⟩
      · split at hz
        · subst hz; exact ⟨by simp, h⟩
        · rename_i h1
          split at hz
          · subst hz; exact ⟨by simp, h⟩
          · subst hz
            refine ⟨?_, ?_⟩ <;> simp [textF_size] <;> omega
    · split at hz
      · unfold syncF burnF at hz
        dsimp only at hz
        split at hz
        · subst hz; exact ⟨by simp, h⟩
        · split at hz
          · subst hz; exact ⟨by simp, h⟩
          · subst hz; exact ⟨by simp, by simp⟩
      · split at hz
        · subst hz
          unfold fuseF
          dsimp only
          split <;> exact ⟨by simp, h⟩
        · split at hz
          · subst hz
            have := (keepK_spec o.n (b.size - s)).2.1
            unfold crashF
            refine ⟨?_, ?_⟩ <;> simp <;> omega
          · split at hz
            · subst hz; exact ⟨by simp, h⟩
            · subst hz
              have := endR_le b
              refine ⟨?_, ?_⟩ <;> simp <;> omega
  exact H _ rfl
end Go.Proofs.Ytdhhibppcckbkaa
