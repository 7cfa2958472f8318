import Derived.Test.YtdhhibppcckbkaaSafe4
namespace Go.Proofs.Ytdhhibppcckbkaa
open Go.RowKit Go.Shelf
set_option linter.unusedVariables false
set_option linter.unusedSimpArgs false
/-! records, the plain part; the reference's Split -/
theorem ext_ext (b : ByteArray) (k e i j : Nat) (hj : k + j ≤ e) (he : e ≤ b.size) : (b.extract k e).extract i j = b.extract (k + i) (k + j) := by
  apply ByteArray.ext
  simp only [ByteArray.data_extract, Array.extract_extract]
  congr 1
  omega
theorem nextR_shift (b : ByteArray) (k i : Nat) (hk : k ≤ b.size) : nextR (b.extract k b.size) i = nextR b (k + i) := by
  have hs : (b.extract k b.size).size = b.size - k := by simp
  unfold nextR
  rw [hs]
  by_cases h : i + 4 ≤ b.size - k
  · rw [if_pos h, if_pos (by omega : k + i + 4 ≤ b.size), ext_ext b k b.size i (i + 4) (by omega) (Nat.le_refl _)]
    dsimp only
    rw [show k + (i + 4) = k + i + 4 by omega]
    congr 1
    apply propext
    constructor <;> (rintro ⟨h1, h2, h3⟩; exact ⟨h1, h2, by omega⟩)
  · rw [if_neg h, if_neg (by omega)]
theorem recsN_shift (b : ByteArray) (k : Nat) (hk : k ≤ b.size) : ∀ (N i : Nat), recsN N (b.extract k b.size) i = (recsN N b (k + i)).map fun x => (x.1 - k, x.2)
  | 0, i => rfl
  | N + 1, i => by
    unfold recsN
    rw [nextR_shift b k i hk]
    cases h : nextR b (k + i) with
    | none => rfl
    | some n =>
      obtain ⟨h1, -, h3, h4, h5⟩ := nextR_some h
      dsimp only
      rw [recsN_shift b k hk N (i + 4 + n), List.map_cons, ext_ext b k b.size (i + 4) (i + 4 + n) (by omega) (Nat.le_refl _)]
      rw [show k + (i + 4 + n) = k + i + 4 + n by omega, show k + (i + 4) = k + i + 4 by omega, show i + 4 + n = k + i + 4 + n - k by omega]
theorem recsAt_shift (b : ByteArray) (k : Nat) (hk : k ≤ b.size) : recsAt (b.extract k b.size) 0 = (recsAt b k).map fun x => (x.1 - k, x.2) := by
  unfold recsAt
  rw [recsN_shift b k hk]
  simp only [Nat.add_zero]
  rw [recsN_fuel b ((b.extract k b.size).size + 1) (b.size + 1) k (by simp; omega) (by omega)]
theorem recsN_ge (b : ByteArray) : ∀ (k i : Nat) x, x ∈ recsN k b i → i + 5 ≤ x.1
  | 0, _, _, h => by simp [recsN] at h
  | k + 1, i, x, h => by
    unfold recsN at h
    cases hn : nextR b i with
    | none => rw [hn] at h; simp at h
    | some n =>
      rw [hn] at h
      obtain ⟨h1, -, h3, h4, h5⟩ := nextR_some hn
      rcases List.mem_cons.1 h with rfl | h
      · simp; omega
      · have := recsN_ge b k _ x h; omega
theorem recs_none {b : ByteArray} (h : nextR b 0 = none) : recs b = [] ∧ endR b = 0 := by
  simp [recs, endR, recsAt_none h, endOf]
theorem recs_some {b : ByteArray} {n : Nat} (h : nextR b 0 = some n) : recs b = b.extract 4 (4 + n) :: recs (b.extract (4 + n) b.size) ∧ endR b = 4 + n + endR (b.extract (4 + n) b.size) := by
  obtain ⟨h1, -, h3, h4, h5⟩ := nextR_some h
  have hr := recsAt_some h
  simp only [Nat.zero_add] at hr
  have hs := recsAt_shift b (4 + n) (by omega)
  refine ⟨by simp [recs, hr, hs, Function.comp_def], ?_⟩
  unfold endR endOf
  rw [hr, hs]
  rcases List.eq_nil_or_concat (recsAt b (4 + n)) with hl | ⟨l, x, hl⟩
  · rw [hl]; simp
  · rw [List.concat_eq_append] at hl
    rw [hl]
    have hx := recsN_ge b _ _ x (show x ∈ recsAt b (4 + n) by rw [hl]; simp)
    have e1 : ((4 + n, b.extract 4 (4 + n)) :: (l ++ [x])).getLast? = some x := by rw [← List.cons_append, List.getLast?_append]; rfl
    have e2 : ((l ++ [x]).map fun x => (x.1 - (4 + n), x.2)).getLast? = some (x.1 - (4 + n), x.2) := by simp
    rw [e1, e2]
    dsimp only
    omega
theorem nextR_cut {b : ByteArray} {e i n : Nat} (he : e ≤ b.size) (h : nextR b i = some n) (hn : i + 4 + n ≤ e) : nextR (b.extract 0 e) i = some n := by
  obtain ⟨h1, h2, h3, h4, h5⟩ := nextR_some h
  have hs : (b.extract 0 e).size = e := by simp; omega
  unfold nextR
  rw [hs, if_pos (by omega), ext_ext b 0 e i (i + 4) (by omega) he]
  dsimp only
  rw [Nat.zero_add, Nat.zero_add, h2]
  rw [if_pos ⟨by simpa using h3, by simpa using h4, by simpa using hn⟩]
  simp
theorem recsAt_cut (b : ByteArray) (e : Nat) (he : e ≤ b.size) : ∀ (l : List (Nat × ByteArray)) (i : Nat), recsAt b i = l → i ≤ e → e = (match l.getLast? with | none => i | some x => x.1) → recsAt (b.extract 0 e) i = l
  | [], i, h, hi, hl => by
    simp at hl
    have hs : (b.extract 0 e).size = e := by simp; omega
    have : nextR (b.extract 0 e) i = none := by unfold nextR; rw [if_neg (by rw [hs]; omega)]
    exact recsAt_none this
  | x :: l, i, h, hi, hl => by
    cases hn : nextR b i with
    | none => rw [recsAt_none hn] at h; cases h
    | some n =>
      have hr := recsAt_some hn
      rw [h] at hr
      simp only [List.cons.injEq] at hr
      obtain ⟨rfl, hr⟩ := hr
      obtain ⟨h1, h2, h3, h4, h5⟩ := nextR_some hn
      have hle : i + 4 + n ≤ e ∧ e = (match l.getLast? with | none => i + 4 + n | some x => x.1) := by
        rcases List.eq_nil_or_concat l with hll | ⟨l', y, hll⟩
        · rw [hll] at hl ⊢; simp at hl; simp; omega
        · rw [List.concat_eq_append] at hll
          rw [hll] at hl ⊢
          have hy := recsN_ge b _ _ y (show y ∈ recsAt b (i + 4 + n) by rw [← hr, hll]; simp)
          have e1 : ((i + 4 + n, b.extract (i + 4) (i + 4 + n)) :: (l' ++ [y])).getLast? = some y := by rw [← List.cons_append, List.getLast?_append]; rfl
          have e2 : (l' ++ [y]).getLast? = some y := by simp
          rw [e1] at hl
          rw [e2]
          dsimp only at hl ⊢
          omega
      have ih := recsAt_cut b e he l (i + 4 + n) hr.symm hle.1 hle.2
      rw [recsAt_some (nextR_cut he hn hle.1), ih, ext_ext b 0 e (i + 4) (i + 4 + n) (by omega) he]
      simp
/-- Cut off where the records end, there are just these. -/
theorem recs_cut (b : ByteArray) : recs (b.extract 0 (endR b)) = recs b ∧ (b.extract 0 (endR b)).size = endR b ∧ endR (b.extract 0 (endR b)) = endR b := by
  have he := endR_le b
  have h := recsAt_cut b (endR b) he (recsAt b 0) 0 rfl (Nat.zero_le _) (by unfold endR endOf; cases (recsAt b 0).getLast? <;> rfl)
  refine ⟨by simp [recs, h], by simp; omega, ?_⟩
  show endOf (recsAt (b.extract 0 (endR b)) 0) = _
  rw [h]
  rfl
theorem wrap_small {x : Int} (h0 : 0 ≤ x) (h1 : x < 9223372036854775808) : IntKind.i64.wrap x = x := by
  rw [IntKind.wrap_i64]; omega
theorem be4 (b : ByteArray) (h0 : 0 < b.size) (h1 : 1 < b.size) (h2 : 2 < b.size) (h3 : 3 < b.size) :
    be (b.extract 0 4).data.toList = (((b[0].toNat : Int) * (256 : Int) + (b[1].toNat : Int)) * (256 : Int) + (b[2].toNat : Int)) * (256 : Int) + (b[3].toNat : Int) := by
  have e : (b.extract 0 4).data.toList = [b[0], b[1], b[2], b[3]] := by
    apply List.ext_getElem
    · simp; omega
    · intro i hi hi'
      simp at hi'
      have : i = 0 ∨ i = 1 ∨ i = 2 ∨ i = 3 := by omega
      rcases this with rfl | rfl | rfl | rfl <;> simp <;> rfl
  rw [e]
  simp [be]
theorem NewS.from {w0 w1 w : World} {v : Value} {xs : List ByteArray} (h : NewS w1 w v xs) (k : Keep [] w0 w1) : NewS w0 w v xs := by
  obtain ⟨h1, h2⟩ := h
  obtain ⟨o1, o2⟩ := str_flat h1
  refine ⟨own_strs ⟨o1.1, o1.2.imp id ?_⟩ o2, k.trans h2⟩
  rintro ⟨g, cap, cur, e, hb, rest⟩
  exact ⟨g, cap, cur, e, Nat.le_trans k.size hb, rest⟩
end Go.Proofs.Ytdhhibppcckbkaa
