import Derived.Test.YtdhhibppcckbkaaBase
import Derived.ProofKit
import Derived.OpenShut
import Derived.ShutString
import Derived.ChangeOld
import Derived.SizedLaws
import Derived.Deep.Slices
namespace Go.Proofs.Ytdhhibppcckbkaa
open Go.RowKit Go.ChangeShapes Go.WideShapes Go.ChangeAt
set_option linter.unusedVariables false
set_option linter.unusedSimpArgs false
/-! what comes in, as data -/
def Inn (W : World) : Nat → Prop := fun k => k < W.heap.size
def Opens {H : Type} (enc : TypeId × Value → H) (P : Program) (W : World) {α : Type} (a : Rep α) (t : TypeId) : Prop :=
  ∀ (fuel : Nat) (cs : List Value) (x : DataW H × List MemPlace), DataW.trod enc P W 0 (fun _ => true) true fuel t cs = some x →
    (∀ n ∈ x.1.weights P t, n ≤ reachBytes) → ∃ y, a.R W (Inn W) y cs
section
variable {H : Type} {enc : TypeId × Value → H} {P : Program} {W : World} {α : Type}
theorem opens_int {t : TypeId} (ht : P.underlying t = some (.int .i64)) : Opens enc P W Rep.int t := by
  intro fuel cs x h _
  obtain ⟨n, rfl, rfl, hw⟩ := DataW.trod_int ht h
  have hb := bounds_i64 hw
  exact ⟨n, rfl, hb.1, hb.2⟩
theorem opens_str {t : TypeId} (ht : P.underlying t = some .string) : Opens enc P W Rep.str t := by
  intro fuel cs x h hw
  obtain ⟨s, rfl, rfl, _⟩ := DataW.trod_string ht h
  have := hw s.data.toList.length (by simp [DataW.weights])
  refine ⟨s, rfl, ?_⟩
  simp [reachBytes] at this
  rw [M47_eq]
  have e : s.size = s.data.size := rfl
  omega
theorem weightsAll_mem (e : TypeId) : ∀ (l : List (DataW H)) (d : DataW H), d ∈ l → ∀ n, n ∈ d.weights P e → n ∈ DataW.weightsAll P e l
  | [], _, h, _, _ => by cases h
  | a :: l, d, h, n, hn => by
    simp only [DataW.weightsAll, List.mem_append]
    rcases List.mem_cons.1 h with rfl | h
    · exact .inl hn
    · exact .inr (weightsAll_mem e l d h n hn)
theorem cells?_at {w : World} {a : Addr} {n : Nat} {cs : List Value} (h : w.cells? 0 a n = some cs) : ∀ j v, cs[j]? = some v → w.cell? (a.add j) = some v := by
  intro j v hj
  unfold World.cells? at h
  rw [if_pos (Nat.zero_le _)] at h
  have hl := mapM_some_length h
  have hjl : j < cs.length := (List.getElem?_eq_some_iff.1 hj).1
  rw [hl, List.length_range] at hjl
  have hr : (List.range n)[j]? = some j := by simp [hjl]
  have := mapM_some_get h j j hr
  rw [this, hj]
def Rep.slice (a : Rep α) : Rep (List α) where
  sz := 1
  R := fun w F xs cs => ∃ v, cs = [v] ∧ SliceOf a w F v xs
  len := by rintro _ _ _ _ ⟨_, rfl, _⟩; rfl
  keep := fun ⟨v, h, h1⟩ k => ⟨v, h, h1.keep k⟩
  mono := fun ⟨v, h, h1⟩ k => ⟨v, h, h1.mono k⟩
theorem opens_slice {a : Rep α} {t e : TypeId} (ht : P.underlying t = some (.slice e)) (hsz : P.cellsOf e = a.sz) (hs0 : 0 < a.sz) (hb : 1 ≤ P.bytesOf e) (ho : Opens enc P W a e) : Opens enc P W (Rep.slice a) t := by
  intro fuel cs x h hw
  rcases Deep.open_slice ht h with ⟨rfl, rfl⟩ | ⟨A, len, cap, m, n, D, Pl, rfl, _, hlc, _, hm, rfl, hel⟩
  · exact ⟨[], _, rfl, SliceOf.nil a W _ none 0⟩
  · simp only [if_true] at hm
    subst hm
    have hbound : len ≤ M47 := by
      have := hw ((((List.range len).map D).length + ((List.range (m - len)).map fun j => D (len + j)).length) * P.bytesOf e) (by simp [DataW.weights, ht])
      simp [reachBytes] at this
      have h2 : len * 1 ≤ (len + (m - len)) * P.bytesOf e := Nat.mul_le_mul (by omega) hb
      rw [M47_eq]; omega
    have hel' : ∀ i, i < len → ∃ y cs', a.R W (Inn W) y cs' ∧ ∀ j v, cs'[j]? = some v → W.cell? ((A.add (i * a.sz)).add j) = some v := by
      intro i hi
      obtain ⟨cs', hc, htr⟩ := hel i (by omega)
      obtain ⟨y, hy⟩ := ho n cs' _ htr (fun k hk => hw k (by
        simp only [DataW.weights, ht, List.mem_cons, List.mem_append]
        exact .inr (.inl (weightsAll_mem e _ (D i) (List.mem_map.2 ⟨i, by simpa using hi, rfl⟩) k hk))))
      rw [hsz] at hc
      exact ⟨y, cs', hy, cells?_at hc⟩
    by_cases hl0 : len = 0
    · subst hl0
      exact ⟨[], _, rfl, SliceOf.nil a W _ _ _⟩
    obtain ⟨Y, hY⟩ : ∃ Y : Nat → α, ∀ i, i < len → ∃ cs', a.R W (Inn W) (Y i) cs' ∧ ∀ j v, cs'[j]? = some v → W.cell? ((A.add (i * a.sz)).add j) = some v := by
      obtain ⟨y0, _⟩ := hel' 0 (by omega)
      refine ⟨fun i => if h : i < len then Classical.choose (hel' i h) else y0, fun i hi => ?_⟩
      simp only [dif_pos hi]
      exact Classical.choose_spec (hel' i hi)
    refine ⟨(List.range len).map Y, _, rfl, some A, m, by simp, by simpa using hbound, fun hp => ?_⟩
    simp at hp
    obtain ⟨b, o, spot⟩ := A
    obtain ⟨cs0, hr0, hc0⟩ := hY 0 hp
    have hlen0 := a.len hr0
    obtain ⟨v0, hv0⟩ : ∃ v, cs0[0]? = some v := ⟨cs0[0]'(by omega), List.getElem?_eq_getElem (by omega)⟩
    have h0 := hc0 0 v0 hv0
    simp only [Nat.zero_mul, Addr.add, if_true] at h0
    obtain rfl : spot = none := World.cell?_spot h0
    refine ⟨b, o, rfl, World.block_lt_of_cell? W _ h0, World.block_lt_of_cell? W _ h0, fun i hi => ?_⟩
    simp at hi
    obtain ⟨cs', hr, hc⟩ := hY i hi
    refine ⟨cs', by simpa using hr, fun j v hj => ?_⟩
    have := hc j v hj
    rw [Deep.add_add] at this
    unfold Addr.add at this
    split at this
    · rename_i he; rw [he]; exact this
    · exact this
end
end Go.Proofs.Ytdhhibppcckbkaa
