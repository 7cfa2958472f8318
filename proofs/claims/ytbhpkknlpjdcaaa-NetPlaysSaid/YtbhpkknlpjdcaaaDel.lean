import Derived.Test.YtbhpkknlpjdcaaaOwn
import Derived.Deep.RegionLaw
import Derived.Deep.MidRow
namespace Go.Proofs.Ytbhpkknlpjdcaaa
open Go.RowKit
set_option linter.unusedVariables false
set_option linter.unusedSimpArgs false
/-! slices.Delete over a row of strings, in place -/
theorem blk_setCells {g t : Nat} : ∀ (vs : List Value) (w : World) (cs : Array Value) (o : Nat), Blk w g cs t → ∃ cs', Blk (w.setCells g o vs) g cs' t ∧ cs'.size = cs.size ∧ ∀ j, cs'[j]? = if o ≤ j ∧ j < o + vs.length ∧ j < cs.size then vs[j - o]? else cs[j]?
  | [], w, cs, o, h => ⟨cs, h, rfl, fun j => by rw [if_neg (by simp; omega)]⟩
  | v :: r, w, cs, o, h => by
    obtain ⟨cs', h1, h2, h3⟩ := blk_setCells r (w.setCell ⟨g, o, none⟩ v) (cs.setIfInBounds o v) (o + 1) (h.set o v)
    refine ⟨cs', h1, by rw [h2]; simp, fun j => ?_⟩
    rw [h3 j]
    simp only [Array.size_setIfInBounds, List.length_cons]
    by_cases h0 : j = o
    · subst h0
      rw [if_neg (by omega)]
      by_cases hj : j < cs.size
      · rw [if_pos (by omega)]
        simp [hj]
      · rw [if_neg (by omega)]
        simp [hj]
    · by_cases h1 : o ≤ j ∧ j < o + (r.length + 1) ∧ j < cs.size
      · rw [if_pos h1, if_pos (by omega)]
        obtain ⟨k, rfl⟩ : ∃ k, j = o + 1 + k := ⟨j - (o + 1), by omega⟩
        rw [show o + 1 + k - (o + 1) = k by omega, show o + 1 + k - o = k + 1 by omega]
        rfl
      · rw [if_neg h1, if_neg (by omega)]
        simp [Array.getElem?_setIfInBounds, Ne.symm h0]
theorem keep_setCells {g : Nat} : ∀ (vs : List Value) (w : World) (o : Nat), Keep [g] w (w.setCells g o vs)
  | [], w, o => Keep.refl _ _
  | v :: r, w, o => ((Keep.refl [g] w).setCell ⟨g, o, none⟩ v (.inl (by simp))).trans (keep_setCells r _ (o + 1))
/-- A row of strings in a block of its own. -/
def StrRow (w : World) (g c : Nat) (xs : List ByteArray) : Prop :=
  ∃ cur, Blk w g cur 9 ∧ cur.size = c ∧ c ≤ maxLen ∧ xs.length ≤ c ∧ (∀ j (hj : j < xs.length), cur[j]? = some (.string xs[j])) ∧ ∀ x ∈ xs, x.size ≤ M47
theorem flat_strs (xs : List ByteArray) : (xs.map fun s => [Value.string s]).flatten = xs.map Value.string := by
  induction xs with
  | nil => rfl
  | cons x l ih => simp [ih]
theorem own_strs {w : World} {lo : Nat} {v : Value} {xs : List ByteArray} (h : Own Rep.str 9 w lo v xs) : w.ownsRow lo 9 1 v xs.length (xs.map Value.string) ∧ ∀ x ∈ xs, x.size ≤ M47 := by
  obtain ⟨css, h1, h2, h3⟩ := h
  have h4 : ∀ i (hi : i < xs.length) (hi' : i < css.length), css[i] = [Value.string xs[i]] ∧ xs[i].size ≤ M47 := fun i hi hi' =>
    h3 i xs[i] css[i] (List.getElem?_eq_getElem hi) (List.getElem?_eq_getElem hi')
  have e : css = xs.map fun s => [Value.string s] := by
    apply List.ext_getElem
    · simp [h2]
    · intro i hi hi'
      simp only [List.getElem_map]
      exact (h4 i (by omega) hi).1
  refine ⟨by rw [← flat_strs, ← e]; exact h1, fun x hx => ?_⟩
  obtain ⟨i, hi, rfl⟩ := List.getElem_of_mem hx
  exact (h4 i hi (by omega)).2
theorem own_of_strs {w : World} {lo : Nat} {v : Value} {xs : List ByteArray} (h : w.ownsRow lo 9 1 v xs.length (xs.map Value.string)) (ho : ∀ x ∈ xs, x.size ≤ M47) : Own Rep.str 9 w lo v xs := by
  refine ⟨xs.map fun s => [Value.string s], by rw [flat_strs]; exact h, by simp, fun i x cs hx hc => ?_⟩
  rw [List.getElem?_map, hx] at hc
  simp at hc
  subst hc
  exact ⟨rfl, ho x (List.mem_of_getElem? hx)⟩
theorem Own.strRow {w : World} {lo : Nat} {A : Option Addr} {n c : Nat} {xs : List ByteArray} (h : Own Rep.str 9 w lo (.slice A n c) xs) (hx : 0 < xs.length) : n = xs.length ∧ ∃ g, A = some ⟨g, 0, none⟩ ∧ lo ≤ g ∧ StrRow w g c xs := by
  obtain ⟨⟨hl, h1⟩, h2⟩ := own_strs h
  rcases h1 with ⟨e, h0⟩ | ⟨g, cap, cur, e, hlo, hb, h3, h4, h5, h6⟩
  · omega
  · cases e
    refine ⟨rfl, g, rfl, hlo, cur, hb, by simpa using h5, h4, h3, fun j hj => ?_, h2⟩
    have : (cur.toList.take (xs.length * 1))[j]? = (xs.map Value.string)[j]? := by rw [h6]
    rw [List.getElem?_take, if_pos (by omega)] at this
    simpa [hj] using this
theorem StrRow.own {w : World} {lo g c : Nat} {xs : List ByteArray} (h : StrRow w g c xs) (hlo : lo ≤ g) : Own Rep.str 9 w lo (.slice (some ⟨g, 0, none⟩) xs.length c) xs := by
  obtain ⟨cur, hb, h1, h2, h3, h4, h5⟩ := h
  refine own_of_strs ⟨by simp, .inr ⟨g, c, cur, rfl, hlo, hb, h3, h2, by omega, ?_⟩⟩ h5
  apply List.ext_getElem?
  intro j
  rw [List.getElem?_take]
  by_cases hj : j < xs.length
  · rw [if_pos (by omega)]
    simpa [hj] using h4 j hj
  · rw [if_neg (by omega), List.getElem?_eq_none (by simp; omega)]
theorem zeroStr (w : World) : (zeroValue 9).run Try.prog w = .ok (.string ⟨#[]⟩) w := by kernel_rfl
theorem run_clearS (w : World) (ty : TypeId) (b o c : Nat) (hc : (w.cell? ⟨b, o, none⟩).isSome = true) (hf : w.frozen? ⟨b, o, none⟩ = false) :
    (Builtin.clear_ #[26] ty #[.slice (some ⟨b, o, none⟩) 1 c]).run Try.prog w = .ok (.tuple #[]) (w.setCells b o [.string ⟨#[]⟩]) := by
  have hst := run_storeCells_cells (P := Try.prog) b o [.string ⟨#[]⟩] 0 w (fun j hj => by simp at hj; subst hj; simpa using hc) (fun j hj => by simp at hj; subst hj; simpa using hf) (by simp [Value.oneCell'])
  simp only [Nat.add_zero] at hst
  have hz : (Builtin.zeroCells #[.string ⟨#[]⟩] 1).toList = [.string ⟨#[]⟩] := by kernel_rfl
  simp [Builtin.clear_, run_underlying Try.underlying26, zeroStr, Value.cells, hz, hst]
end Go.Proofs.Ytbhpkknlpjdcaaa
