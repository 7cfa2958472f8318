import Derived.Test.YtdhhibppcckbkaaSafe8
namespace Go.Proofs.Ytdhhibppcckbkaa
open Go.RowKit Go.Shelf
set_option linter.unusedVariables false
set_option linter.unusedSimpArgs false
/-! a log that was torn: its records are a beginning of what was appended -/
theorem numF_bytesS (n : Int) (h : 0 ≤ n ∧ n ≤ 2147483647) : (numF n).data.toList = [UInt8.ofNat (n / 16777216).toNat, UInt8.ofNat (n / 65536 % 256).toNat, UInt8.ofNat (n / 256 % 256).toNat, UInt8.ofNat (n % 256).toNat] := by
  unfold numF; rw [if_pos h]; rfl
theorem be_numFS (n : Int) (h : 0 ≤ n ∧ n ≤ 2147483647) : be (numF n).data.toList = n := by
  rw [numF_bytesS n h]
  simp only [be, List.foldl_cons, List.foldl_nil, UInt8.toNat_ofNat']
  omega
def catT : List ByteArray → ByteArray
  | [] => ⟨#[]⟩
  | a :: l => textF a ++ catT l
theorem catT_snoc (l : List ByteArray) (a : ByteArray) : catT (l ++ [a]) = catT l ++ textF a := by
  induction l with
  | nil => show textF a ++ ⟨#[]⟩ = ⟨#[]⟩ ++ textF a; apply ByteArray.ext; simp
  | cons b l ih => show textF b ++ catT (l ++ [a]) = textF b ++ catT l ++ textF a; rw [ih, ByteArray.append_assoc]
theorem catT_take_le (l : List ByteArray) (i j : Nat) (h : i ≤ j) : (catT (l.take i)).size ≤ (catT (l.take j)).size := by
  induction l generalizing i j with
  | nil => simp
  | cons a l ih =>
    cases i with
    | zero => exact Nat.zero_le _
    | succ i => cases j with
      | zero => omega
      | succ j =>
        have := ih i j (by omega)
        simp only [List.take_succ_cons, catT, ByteArray.size_append]
        omega
def okR (a : ByteArray) : Prop := 1 ≤ a.size ∧ a.size ≤ 4000
theorem nextR_text (a r : ByteArray) (n : Nat) (ha : okR a) (hn : n ≤ (textF a ++ r).size) : nextR ((textF a ++ r).extract 0 n) 0 = if 4 + a.size ≤ n then some a.size else none := by
  obtain ⟨h1, h2⟩ := ha
  have z := textF_size a
  have hs : ((textF a ++ r).extract 0 n).size = n := by simp; simp at hn; omega
  unfold nextR
  rw [hs]
  by_cases h4 : 0 + 4 ≤ n
  · rw [if_pos h4]
    have e : ((textF a ++ r).extract 0 n).extract 0 (0 + 4) = numF a.size := by
      rw [ext_ext _ 0 n 0 4 (by omega) hn]
      have : textF a ++ r = numF a.size ++ (a ++ r) := by simp [textF, ByteArray.append_assoc]
      rw [this, ba_left _ _ _ (by rw [numF_size]; omega)]
      apply ByteArray.ext
      rw [ByteArray.data_extract]
      exact Array.extract_eq_self_of_le (by have := numF_size a.size; rw [← ByteArray.size_data] at this; omega)
    rw [e, be_numFS _ (by omega)]
    dsimp only
    by_cases hle : 4 + a.size ≤ n
    · rw [if_pos hle, if_pos ⟨by simpa using h1, by simpa using h2, by simp; omega⟩]; simp
    · rw [if_neg hle, if_neg]
      rintro ⟨_, _, h⟩
      simp at h
      omega
  · rw [if_neg h4, if_neg (by omega)]
theorem recs_cat : ∀ (l : List ByteArray), (∀ a ∈ l, okR a) → ∀ n, n ≤ (catT l).size → ∃ m, m ≤ l.length ∧ recs ((catT l).extract 0 n) = l.take m ∧ endR ((catT l).extract 0 n) = (catT (l.take m)).size ∧ (catT (l.take m)).size ≤ n ∧
    ((catT l).extract 0 n).extract 0 (catT (l.take m)).size = catT (l.take m) ∧ ∀ j, j ≤ l.length → (catT (l.take j)).size ≤ n → j ≤ m := by
  intro l
  induction l with
  | nil =>
    intro _ n hn
    have e : (catT []).extract 0 n = ⟨#[]⟩ := by apply ByteArray.ext; simp [catT]
    have h0 : nextR ((catT []).extract 0 n) 0 = none := by
      rw [e]
      unfold nextR
      rw [if_neg (by decide)]
    obtain ⟨e1, e2⟩ := recs_none h0
    exact ⟨0, Nat.le_refl _, e1, e2, Nat.zero_le _, by rw [e]; rfl, fun j hj _ => hj⟩
  | cons a l ih =>
    intro hl n hn
    have ha := hl a (by simp)
    have z := textF_size a
    have hn' : n ≤ (textF a ++ catT l).size := hn
    have hx := nextR_text a (catT l) n ha hn'
    have hs : ((textF a ++ catT l).extract 0 n).size = n := by simp; simp at hn'; omega
    by_cases hle : 4 + a.size ≤ n
    · rw [if_pos hle] at hx
      obtain ⟨e1, e2⟩ := recs_some hx
      rw [hs] at e1 e2
      obtain ⟨n', rfl⟩ : ∃ n', n = (textF a).size + n' := ⟨n - (textF a).size, by omega⟩
      have hn2 : n' ≤ (catT l).size := by simp at hn'; omega
      have q1 : ((textF a ++ catT l).extract 0 ((textF a).size + n')) = textF a ++ (catT l).extract 0 n' := ba_right _ _ _
      have hb : (textF a ++ (catT l).extract 0 n').extract (4 + a.size) ((textF a).size + n') = (catT l).extract 0 n' := by
        rw [← z]
        apply ByteArray.ext
        have : (textF a).data.size = (textF a).size := rfl
        simp [ByteArray.data_extract, ByteArray.data_append, Array.extract_append, this]
      have hp : (textF a ++ (catT l).extract 0 n').extract 4 (4 + a.size) = a := by
        have e : textF a ++ (catT l).extract 0 n' = numF a.size ++ (a ++ (catT l).extract 0 n') := by simp [textF, ByteArray.append_assoc]
        rw [e]
        apply ByteArray.ext
        have h4 : (numF a.size).data.size = 4 := numF_size _
        have h5 : a.data.size = a.size := rfl
        simp [ByteArray.data_extract, ByteArray.data_append, Array.extract_append, h4, h5]
        rw [Array.extract_eq_empty_of_le (by omega), Array.extract_eq_self_of_le (by omega)]; simp
      rw [q1, hb, hp] at e1
      rw [q1, hb] at e2
      obtain ⟨m, m1, m2, m3, m4, m5, m6⟩ := ih (fun x hx => hl x (by simp [hx])) n' hn2
      have q2 : (catT (a :: l)).extract 0 ((textF a).size + n') = textF a ++ (catT l).extract 0 n' := q1
      have q3 : (catT ((a :: l).take (m + 1))) = textF a ++ catT (l.take m) := rfl
      refine ⟨m + 1, by simp; omega, ?_, ?_, ?_, ?_, ?_⟩
      · rw [q2, e1, m2]; rfl
      · rw [q2, e2, m3, q3]; simp; omega
      · rw [q3]; simp; omega
      · rw [q2, q3, ByteArray.size_append, ba_right, m5]
      · intro j hj hs
        cases j with
        | zero => omega
        | succ j =>
          have : (catT ((a :: l).take (j + 1))) = textF a ++ catT (l.take j) := rfl
          rw [this, ByteArray.size_append] at hs
          have := m6 j (by simpa using hj) (by omega)
          omega
    · rw [if_neg hle] at hx
      obtain ⟨e1, e2⟩ := recs_none hx
      refine ⟨0, Nat.zero_le _, e1, e2, Nat.zero_le _, ?_, ?_⟩
      · show ByteArray.extract _ 0 0 = ⟨#[]⟩
        apply ByteArray.ext; simp
      · intro j hj hs
        cases j with
        | zero => omega
        | succ j =>
          have : (catT ((a :: l).take (j + 1))) = textF a ++ catT (l.take j) := rfl
          rw [this, ByteArray.size_append] at hs
          omega
/-! calls without crashes and cuts -/
structure Rn where
  x : Lg
  all : List ByteArray
  s : Nat
def runS (r : Rn) (o : Op9) : Rn :=
  if o.k % 5 > 2 then r else
  ⟨(stepL r.x o).2, if (stepL r.x o).1 = 0 ∧ o.k % 5 = 0 then r.all ++ [o.b] else r.all, if (stepL r.x o).1 = 0 ∧ o.k % 5 = 1 then r.all.length else r.s⟩
/-- what holds of a run that began with c records -/
structure Ran (c : Nat) (r : Rn) : Prop where
  b : r.x.b = catT r.all
  s : r.x.s = (catT (r.all.take (max r.s c))).size
  le : max r.s c ≤ r.all.length
  ok : ∀ a ∈ r.all, okR a
  f : -1 ≤ r.x.f ∧ r.x.f ≤ 9223372036854775807
theorem Ran.step {c : Nat} {r : Rn} (h : Ran c r) (o : Op9) (ho : o.n ≤ 9223372036854775807) (hk : 0 ≤ o.k) : Ran c (runS r o) := by
  obtain ⟨⟨b, s, f, g⟩, all, sy⟩ := r
  obtain ⟨h1, h2, h3, h4, h5⟩ := h
  obtain ⟨k, ob, n⟩ := o
  dsimp only at *
  have hE : k % 5 ≤ 2 → ∀ z, stepL ⟨b, s, f, g⟩ ⟨k, ob, n⟩ = z → Ran c ⟨z.2, if z.1 = 0 ∧ k % 5 = 0 then all ++ [ob] else all, if z.1 = 0 ∧ k % 5 = 1 then all.length else sy⟩ := by
    intro hk2 z hz
    have hk3 : k % 5 = 0 ∨ k % 5 = 1 ∨ k % 5 = 2 := by omega
    have hB : -1 ≤ (max (f - 1) (-1) : Int) ∧ (max (f - 1) (-1) : Int) ≤ 9223372036854775807 := by omega
    unfold stepL at hz
    dsimp only at hz
    rcases hk3 with e | e | e
    · rw [if_pos e] at hz
      unfold appF at hz
      dsimp only at hz
      split at hz
      · subst hz
        dsimp only
        rw [if_neg (by omega), if_neg (by omega)]
        exact ⟨h1, h2, h3, h4, h5⟩
      split at hz
      · subst hz
        dsimp only
        rw [if_neg (by omega), if_neg (by omega)]
        exact ⟨h1, h2, h3, h4, h5⟩
      rename_i hz2
      split at hz
      · subst hz
        dsimp only
        rw [if_neg (by omega), if_neg (by omega)]
        exact ⟨h1, h2, h3, h4, hB⟩
      · subst hz
        dsimp only
        rw [if_pos ⟨rfl, e⟩, if_neg (by omega)]
        refine ⟨?_, ?_, ?_, ?_, hB⟩
        · show b ++ textF ob = _; rw [catT_snoc, h1]
        · show s = _; rw [List.take_append_of_le_length h3, h2]
        · show _ ≤ (all ++ [ob]).length; simp; omega
        · intro a ha
          rcases List.mem_append.1 ha with ha | ha
          · exact h4 a ha
          · obtain rfl : a = ob := by simpa using ha
            exact ⟨by omega, by omega⟩
    · rw [if_neg (by omega), if_pos e] at hz
      unfold syncF at hz
      dsimp only at hz
      split at hz
      · subst hz
        dsimp only
        rw [if_neg (by omega), if_neg (by omega)]
        exact ⟨h1, h2, h3, h4, h5⟩
      split at hz
      · subst hz
        dsimp only
        rw [if_neg (by omega), if_neg (by omega)]
        exact ⟨h1, h2, h3, h4, hB⟩
      · subst hz
        dsimp only
        rw [if_neg (by omega), if_pos ⟨rfl, e⟩]
        have hm : max all.length c = all.length := by omega
        exact ⟨h1, by show b.size = _; dsimp only; rw [hm, List.take_length, h1], by dsimp only; omega, h4, hB⟩
    · rw [if_neg (by omega), if_neg (by omega), if_pos e] at hz
      have q1 : ¬ ((0 : Int) = 0 ∧ k % 5 = 0) := by omega
      have q2 : ¬ ((0 : Int) = 0 ∧ k % 5 = 1) := by omega
      unfold fuseF at hz
      subst hz
      dsimp only
      rw [if_neg q1, if_neg q2]
      split
      · exact ⟨h1, h2, h3, h4, h5⟩
      · exact ⟨h1, h2, h3, h4, by show -1 ≤ (max n (-1) : Int) ∧ (max n (-1) : Int) ≤ _; omega⟩
  unfold runS
  dsimp only
  split
  · exact ⟨h1, h2, h3, h4, h5⟩
  · exact hE (by omega) _ rfl
theorem runS_all (r : Rn) (o : Op9) : (runS r o).all.length ≤ r.all.length + 1 := by
  unfold runS
  split
  · omega
  · dsimp only
    split
    · simp
    · omega
theorem runS_size (r : Rn) (o : Op9) (h : r.x.s ≤ r.x.b.size) : (runS r o).x.b.size ≤ r.x.b.size + 4004 ∧ (runS r o).x.s ≤ (runS r o).x.b.size := by
  unfold runS
  split
  · omega
  · exact stepL_size r.x o h
/-- torn, and read -/
theorem torn {c : Nat} {r : Rn} (h : Ran c r) (keep : Int) : ∃ m, max r.s c ≤ m ∧ m ≤ r.all.length ∧ recs (crashF r.x keep).b = r.all.take m ∧ (crashF r.x keep).g = false ∧ (crashF r.x keep).b.size ≤ r.x.b.size ∧
    (crashF r.x keep).s = (crashF r.x keep).b.size ∧ (crashF r.x keep).f = -1 ∧ (crashF r.x keep).b.extract 0 (endR (crashF r.x keep).b) = catT (r.all.take m) ∧ endR (crashF r.x keep).b = (catT (r.all.take m)).size := by
  obtain ⟨h1, h2, h3, h4, h5⟩ := h
  have hs : r.x.s ≤ r.x.b.size := by
    rw [h2, h1]
    have := catT_take_le r.all (max r.s c) r.all.length h3
    rwa [List.take_length] at this
  have hk := (keepK_spec keep (r.x.b.size - r.x.s)).2.1
  have hn : r.x.s + keepK keep (r.x.b.size - r.x.s) ≤ (catT r.all).size := by rw [← h1]; omega
  obtain ⟨m, m1, m2, m3, m4, m5, m6⟩ := recs_cat r.all h4 _ hn
  have e : (crashF r.x keep).b = (catT r.all).extract 0 (r.x.s + keepK keep (r.x.b.size - r.x.s)) := by show r.x.b.extract _ _ = _; rw [h1]
  have hz : (crashF r.x keep).b.size = r.x.s + keepK keep (r.x.b.size - r.x.s) := by rw [e]; simp; omega
  refine ⟨m, m6 _ h3 (by rw [← h2]; omega), m1, by rw [e, m2], rfl, by omega, by rw [hz]; rfl, rfl, by rw [e, m3, m5], by rw [e, m3]⟩
end Go.Proofs.Ytdhhibppcckbkaa
