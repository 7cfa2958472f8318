/- Whatever is saved (at most 30 saves, of at most 5 blocks), each error, and what is remembered, are the chapter's, and opened again the memory is the same: the law StoreSaves returns true for every list of saves. -/
import Derived.Test.YtdhhibppcckbkaaBase
import Derived.ProofKit
import Derived.OpenShut
import Derived.ShutString
import Derived.ChangeOld
import Derived.SizedLaws
import Derived.Deep.Slices
import Derived.Test.YtdhhibppcckbkaaStore1
import Derived.Test.YtdhhibppcckbkaaStoreSA
import Derived.Deep.DeepCutAuto
import Derived.Test.YtdhhibppcckbkaaRows
import Derived.WalkKit
import Derived.Below
namespace Go.Proofs.Ytdhhibppcckbkaa
open Go.RowKit Go.ChangeShapes Go.WideShapes Go.ChangeAt
set_option linter.unusedVariables false
set_option linter.unusedSimpArgs false
/-! what comes in, as data -/
def Inn (W : World) : Nat → Prop := fun k => k < W.heap.size
def Opens {H : Type} (enc : TypeId × Value → H) (P : Program) (W : World) {α : Type} (a : Rep α) (t : TypeId) : Prop :=
  ∀ (fuel : Nat) (cs : List Value) (x : DataW H × List MemPlace), DataW.trod enc P W 0 (fun _ => true) true fuel t cs = some x →
    (∀ n ∈ x.1.weights P t, n ≤ reachBytes) → ∃ y, a.R W (Inn W) y cs
section
variable {H : Type} {enc : TypeId × Value → H} {P : Program} {W : World} {α : Type}
theorem opens_int {t : TypeId} (ht : P.underlying t = some (.int .i64)) : Opens enc P W Rep.int t := by
  intro fuel cs x h _
  obtain ⟨n, rfl, rfl, hw⟩ := DataW.trod_int ht h
  have hb := bounds_i64 hw
  exact ⟨n, rfl, hb.1, hb.2⟩
theorem opens_str {t : TypeId} (ht : P.underlying t = some .string) : Opens enc P W Rep.str t := by
  intro fuel cs x h hw
  obtain ⟨s, rfl, rfl, _⟩ := DataW.trod_string ht h
  have := hw s.data.toList.length (by simp [DataW.weights])
  refine ⟨s, rfl, ?_⟩
  simp [reachBytes] at this
  rw [M47_eq]
  have e : s.size = s.data.size := rfl
  omega
theorem weightsAll_mem (e : TypeId) : ∀ (l : List (DataW H)) (d : DataW H), d ∈ l → ∀ n, n ∈ d.weights P e → n ∈ DataW.weightsAll P e l
  | [], _, h, _, _ => by cases h
  | a :: l, d, h, n, hn => by
    simp only [DataW.weightsAll, List.mem_append]
    rcases List.mem_cons.1 h with rfl | h
    · exact .inl hn
    · exact .inr (weightsAll_mem e l d h n hn)
theorem cells?_at {w : World} {a : Addr} {n : Nat} {cs : List Value} (h : w.cells? 0 a n = some cs) : ∀ j v, cs[j]? = some v → w.cell? (a.add j) = some v := by
  intro j v hj
  unfold World.cells? at h
  rw [if_pos (Nat.zero_le _)] at h
  have hl := mapM_some_length h
  have hjl : j < cs.length := (List.getElem?_eq_some_iff.1 hj).1
  rw [hl, List.length_range] at hjl
  have hr : (List.range n)[j]? = some j := by simp [hjl]
  have := mapM_some_get h j j hr
  rw [this, hj]
def Rep.slice (a : Rep α) : Rep (List α) where
  sz := 1
  R := fun w F xs cs => ∃ v, cs = [v] ∧ SliceOf a w F v xs
  len := by rintro _ _ _ _ ⟨_, rfl, _⟩; rfl
  keep := fun ⟨v, h, h1⟩ k => ⟨v, h, h1.keep k⟩
  mono := fun ⟨v, h, h1⟩ k => ⟨v, h, h1.mono k⟩
theorem opens_slice {a : Rep α} {t e : TypeId} (ht : P.underlying t = some (.slice e)) (hsz : P.cellsOf e = a.sz) (hs0 : 0 < a.sz) (hb : 1 ≤ P.bytesOf e) (ho : Opens enc P W a e) : Opens enc P W (Rep.slice a) t := by
  intro fuel cs x h hw
  rcases Deep.open_slice ht h with ⟨rfl, rfl⟩ | ⟨A, len, cap, m, n, D, Pl, rfl, _, hlc, _, hm, rfl, hel⟩
  · exact ⟨[], _, rfl, SliceOf.nil a W _ none 0⟩
  · simp only [if_true] at hm
    subst hm
    have hbound : len ≤ M47 := by
      have := hw ((((List.range len).map D).length + ((List.range (m - len)).map fun j => D (len + j)).length) * P.bytesOf e) (by simp [DataW.weights, ht])
      simp [reachBytes] at this
      have h2 : len * 1 ≤ (len + (m - len)) * P.bytesOf e := Nat.mul_le_mul (by omega) hb
      rw [M47_eq]; omega
    have hel' : ∀ i, i < len → ∃ y cs', a.R W (Inn W) y cs' ∧ ∀ j v, cs'[j]? = some v → W.cell? ((A.add (i * a.sz)).add j) = some v := by
      intro i hi
      obtain ⟨cs', hc, htr⟩ := hel i (by omega)
      obtain ⟨y, hy⟩ := ho n cs' _ htr (fun k hk => hw k (by
        simp only [DataW.weights, ht, List.mem_cons, List.mem_append]
        exact .inr (.inl (weightsAll_mem e _ (D i) (List.mem_map.2 ⟨i, by simpa using hi, rfl⟩) k hk))))
      rw [hsz] at hc
      exact ⟨y, cs', hy, cells?_at hc⟩
    by_cases hl0 : len = 0
    · subst hl0
      exact ⟨[], _, rfl, SliceOf.nil a W _ _ _⟩
    obtain ⟨Y, hY⟩ : ∃ Y : Nat → α, ∀ i, i < len → ∃ cs', a.R W (Inn W) (Y i) cs' ∧ ∀ j v, cs'[j]? = some v → W.cell? ((A.add (i * a.sz)).add j) = some v := by
      obtain ⟨y0, _⟩ := hel' 0 (by omega)
      refine ⟨fun i => if h : i < len then Classical.choose (hel' i h) else y0, fun i hi => ?_⟩
      simp only [dif_pos hi]
      exact Classical.choose_spec (hel' i hi)
    refine ⟨(List.range len).map Y, _, rfl, some A, m, by simp, by simpa using hbound, fun hp => ?_⟩
    simp at hp
    obtain ⟨b, o, spot⟩ := A
    obtain ⟨cs0, hr0, hc0⟩ := hY 0 hp
    have hlen0 := a.len hr0
    obtain ⟨v0, hv0⟩ : ∃ v, cs0[0]? = some v := ⟨cs0[0]'(by omega), List.getElem?_eq_getElem (by omega)⟩
    have h0 := hc0 0 v0 hv0
    simp only [Nat.zero_mul, Addr.add, if_true] at h0
    obtain rfl : spot = none := World.cell?_spot h0
    refine ⟨b, o, rfl, World.block_lt_of_cell? W _ h0, World.block_lt_of_cell? W _ h0, fun i hi => ?_⟩
    simp at hi
    obtain ⟨cs', hr, hc⟩ := hY i hi
    refine ⟨cs', by simpa using hr, fun j v hj => ?_⟩
    have := hc j v hj
    rw [Deep.add_add] at this
    unfold Addr.add at this
    split at this
    · rename_i he; rw [he]; exact this
    · exact this
end
end Go.Proofs.Ytdhhibppcckbkaa
namespace Go.Proofs.Ytdhhibppcckbkaa
open Go.RowKit Go.ChangeShapes Go.WideShapes Go.ChangeAt
set_option linter.unusedVariables false
set_option linter.unusedSimpArgs false
section
variable {H : Type} {enc : TypeId × Value → H} {W : World}
theorem li2 {α : Type} (l : List α) (h : l.length = 2) : ∃ a b, l = [a, b] := by
  match l, h with
  | [a, b], _ => exact ⟨a, b, rfl⟩
theorem li3 {α : Type} (l : List α) (h : l.length = 3) : ∃ a b c, l = [a, b, c] := by
  match l, h with
  | [a, b, c], _ => exact ⟨a, b, c, rfl⟩
theorem li4 {α : Type} (l : List α) (h : l.length = 4) : ∃ a b c d, l = [a, b, c, d] := by
  match l, h with
  | [a, b, c, d], _ => exact ⟨a, b, c, d, rfl⟩
theorem li6 {α : Type} (l : List α) (h : l.length = 6) : ∃ a b c d e f, l = [a, b, c, d, e, f] := by
  match l, h with
  | [a, b, c, d, e, f], _ => exact ⟨a, b, c, d, e, f, rfl⟩
theorem open_req : Opens enc Try.prog W Rep.req 61 := by
  intro fuel cs x h hw
  obtain ⟨xs, n, rfl, rfl, hl, hxl, hf⟩ := DataW.trod_struct Try.underlying61 h
  rw [show Try.prog.cellsOf 61 = 3 by kernel_rfl] at hl
  obtain ⟨c0, c1, c2, rfl⟩ := li3 cs hl
  obtain ⟨x0, x1, x2, rfl⟩ := li3 xs hxl
  have f0 : DataW.trod enc Try.prog W 0 (fun _ => true) true n 3 (([c0, c1, c2].drop 0).take (Try.prog.cellsOf 3)) = some x0 := hf 0 _ rfl
  rw [show Try.prog.cellsOf 3 = 1 by kernel_rfl] at f0
  replace f0 : DataW.trod enc Try.prog W 0 (fun _ => true) true n 3 [c0] = some x0 := f0
  have f1 : DataW.trod enc Try.prog W 0 (fun _ => true) true n 3 (([c0, c1, c2].drop 1).take (Try.prog.cellsOf 3)) = some x1 := hf 1 _ rfl
  rw [show Try.prog.cellsOf 3 = 1 by kernel_rfl] at f1
  replace f1 : DataW.trod enc Try.prog W 0 (fun _ => true) true n 3 [c1] = some x1 := f1
  have f2 : DataW.trod enc Try.prog W 0 (fun _ => true) true n 9 (([c0, c1, c2].drop 2).take (Try.prog.cellsOf 9)) = some x2 := hf 2 _ rfl
  rw [show Try.prog.cellsOf 9 = 1 by kernel_rfl] at f2
  replace f2 : DataW.trod enc Try.prog W 0 (fun _ => true) true n 9 [c2] = some x2 := f2
  have hw' : ∀ k, k ∈ x0.1.weights Try.prog 3 ++ (x1.1.weights Try.prog 3 ++ (x2.1.weights Try.prog 9 ++ ([]))) → k ≤ reachBytes := by
    intro k hk
    refine hw k ?_
    simp only [DataW.weights, Try.underlying61, List.map_cons, List.map_nil, DataW.weightsEach]
    exact hk
  simp only [List.mem_append] at hw'
  obtain ⟨y0, h0⟩ := opens_int Try.underlying3 n _ _ f0 (fun k hk => hw' k (.inl hk))
  obtain ⟨y1, h1⟩ := opens_int Try.underlying3 n _ _ f1 (fun k hk => hw' k (.inr (.inl hk)))
  obtain ⟨y2, h2⟩ := opens_str Try.underlying9 n _ _ f2 (fun k hk => hw' k (.inr (.inr (.inl hk))))
  obtain ⟨e0, b0⟩ := h0
  obtain ⟨e1, b1⟩ := h1
  obtain ⟨e2, b2⟩ := h2
  simp only [List.cons.injEq, and_true] at e0 e1 e2
  subst e0 e1 e2
  exact ⟨⟨y0, y1, y2⟩, rfl, b0, b1, b2⟩
theorem open_strs : Opens enc Try.prog W (Rep.slice Rep.str) 35 :=
  opens_slice Try.underlying35 (by kernel_rfl) (by decide) (by rw [show Try.prog.bytesOf 9 = 16 by kernel_rfl]; decide) (opens_str Try.underlying9)
theorem open_sg : Opens enc Try.prog W Rep.sg 84 := by
  intro fuel cs x h hw
  obtain ⟨xs, n, rfl, rfl, hl, hxl, hf⟩ := DataW.trod_struct Try.underlying84 h
  rw [show Try.prog.cellsOf 84 = 2 by kernel_rfl] at hl
  obtain ⟨c0, c1, rfl⟩ := li2 cs hl
  obtain ⟨x0, x1, rfl⟩ := li2 xs hxl
  have f0 : DataW.trod enc Try.prog W 0 (fun _ => true) true n 3 (([c0, c1].drop 0).take (Try.prog.cellsOf 3)) = some x0 := hf 0 _ rfl
  rw [show Try.prog.cellsOf 3 = 1 by kernel_rfl] at f0
  replace f0 : DataW.trod enc Try.prog W 0 (fun _ => true) true n 3 [c0] = some x0 := f0
  have f1 : DataW.trod enc Try.prog W 0 (fun _ => true) true n 35 (([c0, c1].drop 1).take (Try.prog.cellsOf 35)) = some x1 := hf 1 _ rfl
  rw [show Try.prog.cellsOf 35 = 1 by kernel_rfl] at f1
  replace f1 : DataW.trod enc Try.prog W 0 (fun _ => true) true n 35 [c1] = some x1 := f1
  have hw' : ∀ k, k ∈ x0.1.weights Try.prog 3 ++ (x1.1.weights Try.prog 35 ++ ([])) → k ≤ reachBytes := by
    intro k hk
    refine hw k ?_
    simp only [DataW.weights, Try.underlying84, List.map_cons, List.map_nil, DataW.weightsEach]
    exact hk
  simp only [List.mem_append] at hw'
  obtain ⟨y0, h0⟩ := opens_int Try.underlying3 n _ _ f0 (fun k hk => hw' k (.inl hk))
  obtain ⟨y1, h1⟩ := open_strs n _ _ f1 (fun k hk => hw' k (.inr (.inl hk)))
  obtain ⟨e0, b0⟩ := h0
  obtain ⟨v, e1, b1⟩ := h1
  simp only [List.cons.injEq, and_true] at e0 e1
  subst e0 e1
  exact ⟨⟨y0, y1⟩, _, rfl, b0, b1⟩
theorem open_sgs : Opens enc Try.prog W (Rep.slice Rep.sg) 24 :=
  opens_slice Try.underlying24 (by kernel_rfl) (by decide) (by rw [show Try.prog.bytesOf 84 = 32 by kernel_rfl]; decide) open_sg
theorem open_reqs : Opens enc Try.prog W (Rep.slice Rep.req) 27 :=
  opens_slice Try.underlying27 (by kernel_rfl) (by decide) (by rw [show Try.prog.bytesOf 61 = 32 by kernel_rfl]; decide) open_req
theorem open_ct : Opens enc Try.prog W Rep.ct 26 := by
  intro fuel cs x h hw
  obtain ⟨xs, n, rfl, rfl, hl, hxl, hf⟩ := DataW.trod_struct Try.underlying26 h
  rw [show Try.prog.cellsOf 26 = 3 by kernel_rfl] at hl
  obtain ⟨c0, c1, c2, rfl⟩ := li3 cs hl
  obtain ⟨x0, x1, x2, rfl⟩ := li3 xs hxl
  have f0 : DataW.trod enc Try.prog W 0 (fun _ => true) true n 3 (([c0, c1, c2].drop 0).take (Try.prog.cellsOf 3)) = some x0 := hf 0 _ rfl
  rw [show Try.prog.cellsOf 3 = 1 by kernel_rfl] at f0
  replace f0 : DataW.trod enc Try.prog W 0 (fun _ => true) true n 3 [c0] = some x0 := f0
  have f1 : DataW.trod enc Try.prog W 0 (fun _ => true) true n 9 (([c0, c1, c2].drop 1).take (Try.prog.cellsOf 9)) = some x1 := hf 1 _ rfl
  rw [show Try.prog.cellsOf 9 = 1 by kernel_rfl] at f1
  replace f1 : DataW.trod enc Try.prog W 0 (fun _ => true) true n 9 [c1] = some x1 := f1
  have f2 : DataW.trod enc Try.prog W 0 (fun _ => true) true n 24 (([c0, c1, c2].drop 2).take (Try.prog.cellsOf 24)) = some x2 := hf 2 _ rfl
  rw [show Try.prog.cellsOf 24 = 1 by kernel_rfl] at f2
  replace f2 : DataW.trod enc Try.prog W 0 (fun _ => true) true n 24 [c2] = some x2 := f2
  have hw' : ∀ k, k ∈ x0.1.weights Try.prog 3 ++ (x1.1.weights Try.prog 9 ++ (x2.1.weights Try.prog 24 ++ ([]))) → k ≤ reachBytes := by
    intro k hk
    refine hw k ?_
    simp only [DataW.weights, Try.underlying26, List.map_cons, List.map_nil, DataW.weightsEach]
    exact hk
  simp only [List.mem_append] at hw'
  obtain ⟨y0, h0⟩ := opens_int Try.underlying3 n _ _ f0 (fun k hk => hw' k (.inl hk))
  obtain ⟨y1, h1⟩ := opens_str Try.underlying9 n _ _ f1 (fun k hk => hw' k (.inr (.inl hk)))
  obtain ⟨y2, h2⟩ := open_sgs n _ _ f2 (fun k hk => hw' k (.inr (.inr (.inl hk))))
  obtain ⟨e0, b0⟩ := h0
  obtain ⟨e1, b1⟩ := h1
  obtain ⟨v, e2, b2⟩ := h2
  simp only [List.cons.injEq, and_true] at e0 e1 e2
  subst e0 e1 e2
  exact ⟨⟨y0, y1, y2⟩, _, rfl, b0, b1, b2⟩
theorem open_bk : Opens enc Try.prog W Rep.bk 29 := by
  intro fuel cs x h hw
  obtain ⟨xs, n, rfl, rfl, hl, hxl, hf⟩ := DataW.trod_struct Try.underlying29 h
  rw [show Try.prog.cellsOf 29 = 6 by kernel_rfl] at hl
  obtain ⟨c0, c1, c2, c3, c4, c5, rfl⟩ := li6 cs hl
  obtain ⟨x0, x1, x2, x3, rfl⟩ := li4 xs hxl
  have f0 : DataW.trod enc Try.prog W 0 (fun _ => true) true n 3 (([c0, c1, c2, c3, c4, c5].drop 0).take (Try.prog.cellsOf 3)) = some x0 := hf 0 _ rfl
  rw [show Try.prog.cellsOf 3 = 1 by kernel_rfl] at f0
  replace f0 : DataW.trod enc Try.prog W 0 (fun _ => true) true n 3 [c0] = some x0 := f0
  have f1 : DataW.trod enc Try.prog W 0 (fun _ => true) true n 3 (([c0, c1, c2, c3, c4, c5].drop 1).take (Try.prog.cellsOf 3)) = some x1 := hf 1 _ rfl
  rw [show Try.prog.cellsOf 3 = 1 by kernel_rfl] at f1
  replace f1 : DataW.trod enc Try.prog W 0 (fun _ => true) true n 3 [c1] = some x1 := f1
  have f2 : DataW.trod enc Try.prog W 0 (fun _ => true) true n 26 (([c0, c1, c2, c3, c4, c5].drop 2).take (Try.prog.cellsOf 26)) = some x2 := hf 2 _ rfl
  rw [show Try.prog.cellsOf 26 = 3 by kernel_rfl] at f2
  replace f2 : DataW.trod enc Try.prog W 0 (fun _ => true) true n 26 [c2, c3, c4] = some x2 := f2
  have f3 : DataW.trod enc Try.prog W 0 (fun _ => true) true n 27 (([c0, c1, c2, c3, c4, c5].drop 5).take (Try.prog.cellsOf 27)) = some x3 := hf 3 _ rfl
  rw [show Try.prog.cellsOf 27 = 1 by kernel_rfl] at f3
  replace f3 : DataW.trod enc Try.prog W 0 (fun _ => true) true n 27 [c5] = some x3 := f3
  have hw' : ∀ k, k ∈ x0.1.weights Try.prog 3 ++ (x1.1.weights Try.prog 3 ++ (x2.1.weights Try.prog 26 ++ (x3.1.weights Try.prog 27 ++ ([])))) → k ≤ reachBytes := by
    intro k hk
    refine hw k ?_
    simp only [DataW.weights, Try.underlying29, List.map_cons, List.map_nil, DataW.weightsEach]
    exact hk
  simp only [List.mem_append] at hw'
  obtain ⟨y0, h0⟩ := opens_int Try.underlying3 n _ _ f0 (fun k hk => hw' k (.inl hk))
  obtain ⟨y1, h1⟩ := opens_int Try.underlying3 n _ _ f1 (fun k hk => hw' k (.inr (.inl hk)))
  obtain ⟨y2, h2⟩ := open_ct n _ _ f2 (fun k hk => hw' k (.inr (.inr (.inl hk))))
  obtain ⟨y3, h3⟩ := open_reqs n _ _ f3 (fun k hk => hw' k (.inr (.inr (.inr (.inl hk)))))
  obtain ⟨e0, b0⟩ := h0
  obtain ⟨e1, b1⟩ := h1
  obtain ⟨v, e2, b2, b3, b4⟩ := h2
  obtain ⟨u, e3, b5⟩ := h3
  simp only [List.cons.injEq, and_true] at e0 e1 e2 e3
  obtain ⟨e2, e4, e5⟩ := e2
  subst e0 e1 e2 e3 e4 e5
  exact ⟨⟨y0, y1, y2, y3⟩, _, _, rfl, b0, b1, b2, b3, b4, b5⟩
end
end Go.Proofs.Ytdhhibppcckbkaa
namespace Go.Proofs.Ytdhhibppcckbkaa
open Go.RowKit Go.ChangeShapes Go.WideShapes Go.ChangeAt
set_option linter.unusedVariables false
set_option linter.unusedSimpArgs false
def Rep.st : Rep Stt where
  sz := 2
  R := fun _ _ x cs => cs = [.int .i64 x.v, .int .i64 x.l] ∧ I64 x.v ∧ I64 x.l
  len := by rintro _ _ _ _ ⟨rfl, _⟩; rfl
  keep := fun h _ => h
  mono := fun h _ => h
section
variable {H : Type} {enc : TypeId × Value → H} {W : World}
theorem open_st : Opens enc Try.prog W Rep.st 23 := by
  intro fuel cs x h hw
  obtain ⟨xs, n, rfl, rfl, hl, hxl, hf⟩ := DataW.trod_struct Try.underlying23 h
  rw [show Try.prog.cellsOf 23 = 2 by kernel_rfl] at hl
  obtain ⟨c0, c1, rfl⟩ := li2 cs hl
  obtain ⟨x0, x1, rfl⟩ := li2 xs hxl
  have f0 : DataW.trod enc Try.prog W 0 (fun _ => true) true n 3 (([c0, c1].drop 0).take (Try.prog.cellsOf 3)) = some x0 := hf 0 _ rfl
  rw [show Try.prog.cellsOf 3 = 1 by kernel_rfl] at f0
  replace f0 : DataW.trod enc Try.prog W 0 (fun _ => true) true n 3 [c0] = some x0 := f0
  have f1 : DataW.trod enc Try.prog W 0 (fun _ => true) true n 3 (([c0, c1].drop 1).take (Try.prog.cellsOf 3)) = some x1 := hf 1 _ rfl
  rw [show Try.prog.cellsOf 3 = 1 by kernel_rfl] at f1
  replace f1 : DataW.trod enc Try.prog W 0 (fun _ => true) true n 3 [c1] = some x1 := f1
  have hw' : ∀ k, k ∈ x0.1.weights Try.prog 3 ++ (x1.1.weights Try.prog 3 ++ ([])) → k ≤ reachBytes := by
    intro k hk
    refine hw k ?_
    simp only [DataW.weights, Try.underlying23, List.map_cons, List.map_nil, DataW.weightsEach]
    exact hk
  simp only [List.mem_append] at hw'
  obtain ⟨y0, h0⟩ := opens_int Try.underlying3 n _ _ f0 (fun k hk => hw' k (.inl hk))
  obtain ⟨y1, h1⟩ := opens_int Try.underlying3 n _ _ f1 (fun k hk => hw' k (.inr (.inl hk)))
  obtain ⟨e0, b0⟩ := h0
  obtain ⟨e1, b1⟩ := h1
  simp only [List.cons.injEq, and_true] at e0 e1
  subst e0 e1
  exact ⟨⟨y0, y1⟩, rfl, b0, b1⟩
end
end Go.Proofs.Ytdhhibppcckbkaa
namespace Go.Proofs.Ytdhhibppcckbkaa
open Go.RowKit Go.ChangeShapes Go.WideShapes Go.ChangeAt
set_option linter.unusedVariables false
set_option linter.unusedSimpArgs false
theorem li7 {α : Type} (l : List α) (h : l.length = 7) : ∃ a b c d e f g, l = [a, b, c, d, e, f, g] := by
  match l, h with
  | [a, b, c, d, e, f, g], _ => exact ⟨a, b, c, d, e, f, g, rfl⟩
section
variable {H : Type} {enc : TypeId × Value → H} {W : World}
def Rep.bool : Rep Bool where
  sz := 1
  R := fun _ _ n cs => cs = [.bool n]
  len := by rintro _ _ _ _ rfl; rfl
  keep := fun h _ => h
  mono := fun h _ => h
theorem opens_bool {t : TypeId} (ht : Try.prog.underlying t = some .bool) : Opens enc Try.prog W Rep.bool t := by
  intro fuel cs x h _
  obtain ⟨b, rfl, rfl⟩ := DataW.trod_bool ht h
  exact ⟨b, rfl⟩
theorem open_bks : Opens enc Try.prog W (Rep.slice Rep.bk) 37 :=
  opens_slice Try.underlying37 (by kernel_rfl) (by decide) (by rw [show Try.prog.bytesOf 29 = 88 by kernel_rfl]; decide) open_bk
theorem open_op10 : Opens enc Try.prog W Rep.op10 55 := by
  intro fuel cs x h hw
  obtain ⟨xs, n, rfl, rfl, hl, hxl, hf⟩ := DataW.trod_struct Try.underlying55 h
  rw [show Try.prog.cellsOf 55 = 7 by kernel_rfl] at hl
  obtain ⟨c0, c1, c2, c3, c4, c5, c6, rfl⟩ := li7 cs hl
  obtain ⟨x0, x1, x2, x3, x4, x5, rfl⟩ := li6 xs hxl
  have f0 : DataW.trod enc Try.prog W 0 (fun _ => true) true n 23 (([c0, c1, c2, c3, c4, c5, c6].drop 0).take (Try.prog.cellsOf 23)) = some x0 := hf 0 _ rfl
  rw [show Try.prog.cellsOf 23 = 2 by kernel_rfl] at f0
  replace f0 : DataW.trod enc Try.prog W 0 (fun _ => true) true n 23 [c0, c1] = some x0 := f0
  have f1 : DataW.trod enc Try.prog W 0 (fun _ => true) true n 37 (([c0, c1, c2, c3, c4, c5, c6].drop 2).take (Try.prog.cellsOf 37)) = some x1 := hf 1 _ rfl
  rw [show Try.prog.cellsOf 37 = 1 by kernel_rfl] at f1
  replace f1 : DataW.trod enc Try.prog W 0 (fun _ => true) true n 37 [c2] = some x1 := f1
  have f2 : DataW.trod enc Try.prog W 0 (fun _ => true) true n 4 (([c0, c1, c2, c3, c4, c5, c6].drop 3).take (Try.prog.cellsOf 4)) = some x2 := hf 2 _ rfl
  rw [show Try.prog.cellsOf 4 = 1 by kernel_rfl] at f2
  replace f2 : DataW.trod enc Try.prog W 0 (fun _ => true) true n 4 [c3] = some x2 := f2
  have f3 : DataW.trod enc Try.prog W 0 (fun _ => true) true n 3 (([c0, c1, c2, c3, c4, c5, c6].drop 4).take (Try.prog.cellsOf 3)) = some x3 := hf 3 _ rfl
  rw [show Try.prog.cellsOf 3 = 1 by kernel_rfl] at f3
  replace f3 : DataW.trod enc Try.prog W 0 (fun _ => true) true n 3 [c4] = some x3 := f3
  have f4 : DataW.trod enc Try.prog W 0 (fun _ => true) true n 4 (([c0, c1, c2, c3, c4, c5, c6].drop 5).take (Try.prog.cellsOf 4)) = some x4 := hf 4 _ rfl
  rw [show Try.prog.cellsOf 4 = 1 by kernel_rfl] at f4
  replace f4 : DataW.trod enc Try.prog W 0 (fun _ => true) true n 4 [c5] = some x4 := f4
  have f5 : DataW.trod enc Try.prog W 0 (fun _ => true) true n 3 (([c0, c1, c2, c3, c4, c5, c6].drop 6).take (Try.prog.cellsOf 3)) = some x5 := hf 5 _ rfl
  rw [show Try.prog.cellsOf 3 = 1 by kernel_rfl] at f5
  replace f5 : DataW.trod enc Try.prog W 0 (fun _ => true) true n 3 [c6] = some x5 := f5
  have hw' : ∀ k, k ∈ x0.1.weights Try.prog 23 ++ (x1.1.weights Try.prog 37 ++ (x2.1.weights Try.prog 4 ++ (x3.1.weights Try.prog 3 ++ (x4.1.weights Try.prog 4 ++ (x5.1.weights Try.prog 3 ++ ([])))))) → k ≤ reachBytes := by
    intro k hk
    refine hw k ?_
    simp only [DataW.weights, Try.underlying55, List.map_cons, List.map_nil, DataW.weightsEach]
    exact hk
  simp only [List.mem_append] at hw'
  obtain ⟨y0, h0⟩ := open_st n _ _ f0 (fun k hk => hw' k (.inl hk))
  obtain ⟨y1, h1⟩ := open_bks n _ _ f1 (fun k hk => hw' k (.inr (.inl hk)))
  obtain ⟨y2, h2⟩ := opens_bool Try.underlying4 n _ _ f2 (fun k hk => hw' k (.inr (.inr (.inl hk))))
  obtain ⟨y3, h3⟩ := opens_int Try.underlying3 n _ _ f3 (fun k hk => hw' k (.inr (.inr (.inr (.inl hk)))))
  obtain ⟨y4, h4⟩ := opens_bool Try.underlying4 n _ _ f4 (fun k hk => hw' k (.inr (.inr (.inr (.inr (.inl hk))))))
  obtain ⟨y5, h5⟩ := opens_int Try.underlying3 n _ _ f5 (fun k hk => hw' k (.inr (.inr (.inr (.inr (.inr (.inl hk)))))))
  obtain ⟨e0, b0, b0'⟩ := h0
  obtain ⟨v1, e1, b1⟩ := h1
  have e2 := h2
  obtain ⟨e3, b3⟩ := h3
  have e4 := h4
  obtain ⟨e5, b5⟩ := h5
  simp only [Rep.bool] at e2 e4
  simp only [List.cons.injEq, and_true] at e0 e1 e2 e3 e4 e5
  obtain ⟨e0, e0'⟩ := e0
  subst e0 e0' e1 e2 e3 e4 e5
  exact ⟨⟨y0, y1, y2, y3, y4, y5⟩, _, rfl, b0, b0', b3, b5, b1⟩
theorem open_op10s : Opens enc Try.prog W (Rep.slice Rep.op10) 50 :=
  opens_slice Try.underlying50 (by kernel_rfl) (by decide) (by rw [show Try.prog.bytesOf 55 = 72 by kernel_rfl]; decide) open_op10
end
end Go.Proofs.Ytdhhibppcckbkaa
namespace Go.Proofs.Ytdhhibppcckbkaa
open Go.RowKit
set_option linter.unusedVariables false
set_option linter.unusedSimpArgs false
/-! the law StoreSaves -/
set_option maxRecDepth 100000 in
set_option maxHeartbeats 40000000 in
theorem storeSaves_call (A : Option Addr) (l : List Op10) (c : Nat) (F : Nat → Prop) (w : World) (hs : SliceOf Rep.op10 w F (.slice A l.length c) l) (hF : ∀ i, F i → i < w.heap.size) :
    Calls Try.prog 5 #[.slice A l.length c] w fun e w' => e = .returned (.bool true) ∧ Keep [] w w' := by
  have HS := Lib.hid hs
  have HF := Lib.hid hF
  clear hs hF
  go_enter Try.func5, Try.ntmps5
  go_wp2_with fail
  refine (awake10_call _).mono ?_
  rintro e w1 ⟨rfl, k1⟩
  go_wp2_with fail
  refine (few10_call A l c F 30 _ (HS.out.keep (k1.at F (by simp))) (by omega)).mono ?_
  rintro e w2 ⟨rfl, k2⟩
  cases hfew : few10 l 30 with
  | false =>
    clear hfew
    go_wp2_with fail
    refine (awake10_call _).mono ?_
    rintro e w3 ⟨rfl, k3⟩
    go_wp2
    go_ret
    exact ⟨rfl, (k1.trans k2).trans k3⟩
  | true =>
    have hfl := few10_le hfew (by omega)
    have hl30 := hfl.1
    replace hfl := Lib.hid hfl.2
    clear hfew
    go_wp2_with fail
    refine (new_call _).mono ?_
    rintro e w3 ⟨p, rfl, hp, h3, k3⟩
    go_wp2_with fail
    refine (open_call p _ _ h3 rfl (by show (0 : Nat) ≤ _; omega) (by show (0 : Nat) ≤ _; omega)).mono ?_
    dsimp only
    rw [recs_empty]
    rintro e w4 ⟨m, rfl, hm, h4, k4, v4, G4, hst, -, -, hv⟩
    obtain rfl := hv rfl
    have hpl := Blk.lt h3
    have hmp : m ≠ p := by omega
    have e0 : endR ⟨#[]⟩ = 0 := (recs_none (b := ⟨#[]⟩) (by decide +kernel)).2
    rw [e0] at h4
    have s1 := (k1.trans k2).size
    have s3 := k3.size
    have s4 := k4.size
    have kk4 : Keep [] w w4 := ((k1.trans k2).trans k3).new2 k4 (fun i hi => by simp at hi; omega)
    have M4 : Mem w w4 F m p ⟨⟨#[]⟩, 0, -1, false⟩ ⟨0, 0⟩ [] (.slice none 0 0) :=
      ⟨kk4, h4, hst, RowX.nil F, hmp, by omega, by omega, fun k hk => by simp [Value.ownBlock] at hk, fun k hk => by have := HF.out k hk; omega⟩
    replace M4 := Lib.hid M4
    clear hv e0 h4 hst k1 k2 k3 k4 h3
    go_upto_region 8 with (first | ((with_reducible refine wl_alloc 23 ?_ ?_); (with_reducible rfl); refine sx_alloc rfl 23 rfl _ 2 zSt zSt_info rfl ?_; intro w5 bw5 kw5 zw5; clear zw5; (try simp only [Act.put, List.setIfInBounds_toArray, List.set_cons_zero, List.set_cons_succ])))
    have M5 := Lib.hid (M4.out.keep0 kw5)
    have E5 : Ext w w5 F m p w4.heap.size (.slice none 0 0) ⟨0, 0⟩ [] (.slice none 0 0) :=
      ⟨bw5, RowX.nil F, ⟨by omega, by have := Blk.lt M4.out.sto; omega, by have := Blk.lt M4.out.log; omega, fun hf => by have := HF.out _ hf; omega⟩, by simp [Value.ownBlock], fun k hk => by simp [Value.ownBlock] at hk⟩
    replace E5 := Lib.hid E5
    have q0 : w.heap.size ≤ w4.heap.size := by omega
    generalize w4.heap.size = q at *
    clear bw5 kw5 kk4 M4 s4 s3
    go_wp2_with fail
    go_loopw [7, 8] (fun vb i wr => ∃ k : Nat, k ≤ l.length ∧ i = .int .i64 k ∧ ∃ x st bs v C d, vb = .slice C bs.length d ∧ Hid (Mem w wr F m p x st bs v) ∧ Hid (Ext w wr F m p q v st bs (.slice C bs.length d)) ∧ Hid (Good k x st bs)) (fun _ i _ => l.length - (intOf i).toNat)
    case atStart => exact ⟨0, Nat.zero_le _, rfl, _, _, [], _, none, 0, rfl, M5, E5, Lib.hid Good.zero⟩
    case round =>
      obtain ⟨k, hk, rfl, x, st, bs, v, C, d, rfl, hM, hE, hG⟩ := hrel
      clear M5 E5
      have hsz := hG.out.size
      by_cases hlt : k < l.length
      · have hltz : (k : Int) < (l.length : Int) := by omega
        obtain ⟨g, og, va, rfl, hr, hI, hbl, hFg⟩ := (HS.out.keep (hM.out.keep.at F (by simp))).op10_at hlt
        have hf5 := hfl.out _ (List.getElem_mem hlt)
        generalize l[k] = y at *
        obtain ⟨A2, c2, rfl, -⟩ := hbl.form
        have hb5 := hf5.1
        have hbs5 := Lib.hid (fun b hb => (fewBlock_size b (hf5.2 b hb)).1)
        have hstep := hG.out.step y.s y.l hb5
        replace hr := Lib.hid hr
        replace hbl := Lib.hid hbl
        clear hf5
        generalize hout : saveF x st bs y.s y.l = out at *
        replace hout := Lib.hid hout
        replace hstep := Lib.hid hstep
        replace hsz := Lib.hid hsz
        have hlen5 : bs.length ≤ 200 := by have := hsz.out.2.2.2.2.1; omega
        have hwl : w.heap.size ≤ wr.heap.size := hM.out.keep.size
        go_upto_region 12 with fail
        go_cut [9] (fun u wx => u = .int .i64 out.1 ∧ Hid (Saved wr wx m p v F out.2.1 out.2.2.1 out.2.2.2))
        case first =>
          obtain ⟨u0, hu0, ku0⟩ : ∃ u0, u0 = wr.drew ∧ Keep [] wr u0 := ⟨_, rfl, (Keep.refl _ _).drew⟩
          have a0 : u0.cell? ⟨g, og + k * 7, none⟩ = some (.int .i64 y.s.v) := ku0.cell (by simp) (hr.out 0 _ rfl)
          have a1 : u0.cell? ⟨g, og + k * 7 + 1, none⟩ = some (.int .i64 y.s.l) := ku0.cell (by simp) (hr.out 1 _ rfl)
          have a2 : u0.cell? ⟨g, og + k * 7 + 2, none⟩ = some (.slice A2 y.l.length c2) := ku0.cell (by simp) (hr.out 2 _ rfl)
          refine wp_region_tail 11 (by kernel_rfl) (by kernel_rfl) u0 hu0 ?_
          clear hu0
          simp only [List.take_succ_cons, List.take_zero, List.drop_succ_cons, List.drop_zero]
          repeat still_step
          refine wpStill_nil ?_
          have hM0 := Lib.hid (hM.out.keep0 ku0)
          have hbl0 := Lib.hid (hbl.out.keep (ku0.at F (by simp)))
          clear a0 a1 a2
          go_wp2_with fail
          refine (save_call m p x st v bs y.s A2 y.l c2 F u0 out hout.out hM0.out.sto hM0.out.row hM0.out.log hbl0.out hM0.out.fr hM0.out.mp (fun k hk => (hM0.out.vm k hk).2) hbs5.out (by omega) (by omega) (by have := hsz.out.1; omega) hsz.out.2.2.1).mono ?_
          rintro e wx ⟨rfl, hsv⟩
          have hsv2 : Hid (Saved wr wx m p v F out.2.1 out.2.2.1 out.2.2.2) := Lib.hid ⟨hsv.log, hsv.row.imp (fun _ h => ⟨h.1, h.2.1, h.2.2.imp id (fun ⟨g, e, hg⟩ => ⟨g, e, Nat.le_trans ku0.size hg⟩)⟩), (ku0.mono (by simp)).trans hsv.keep⟩
          clear hsv
          go_wp2
          go_meet
          exact ⟨rfl, hsv2⟩
        case rest =>
          rename World => w6
          obtain ⟨rfl, hsv⟩ := hcut
          obtain ⟨v', hM6, hv6⟩ := hM.out.saved hsv.out
          have hE6 := Lib.hid (hE.out.saved (fun k hk => (hM.out.fr k hk).2) hM.out.row.2 hsv.out.keep hv6)
          have k6 := Lib.hid hsv.out.keep
          have hFm : Hid (∀ i ∈ m :: p :: v.ownBlock.toList, ¬ F i) := Lib.hid (fun i hi hf => by have h1 := hM.out.ids i hi; have h2 := HF.out i hf; omega)
          have hbl6 := Lib.hid (hbl.out.keep (k6.out.at F hFm.out))
          have hr6 : Hid (∀ j z, (opV10 y (.slice A2 y.l.length c2))[j]? = some z → w6.cell? ⟨g, og + k * 7 + j, none⟩ = some z) := Lib.hid (fun j z hj => k6.out.cell (fun hm => hFm.out g hm hFg) (hr.out j z hj))
          replace hM6 := Lib.hid hM6
          clear hM hE hsv hv6 k6 hbl hr hFm
          go_wp2_with (first | ((with_reducible refine wl_load 55 (.tmp 47) ?_ ?_); (with_reducible rfl); refine sx_loadR rfl 55 (.tmp 47) rfl g (og + k * 7) (opV10 y (.slice A2 y.l.length c2)) _ 7 rfl hr6.out Try.underlying55 rfl zOp10_size rfl ?_; (try simp only [Act.put, List.setIfInBounds_toArray, List.set_cons_zero, List.set_cons_succ])))
          refine (right10_call y _ F _ hbl6.out).mono ?_
          rintro e w7 ⟨rfl, k7⟩
          have hM7 := Lib.hid (hM6.out.keep0 k7)
          have hE7 := Lib.hid (hE6.out.keep0 k7)
          have hbl7 := Lib.hid (hbl6.out.keep (k7.at F (by simp)))
          have hr7 : Hid (∀ j z, (opV10 y (.slice A2 y.l.length c2))[j]? = some z → w7.cell? ⟨g, og + k * 7 + j, none⟩ = some z) := Lib.hid (fun j z hj => k7.cell (by simp) (hr6.out j z hj))
          clear hM6 hE6 hbl6 hr6
          obtain ⟨o1, o2, o3, o4⟩ := out
          dsimp only at *
          cases hok : okOp y.s y.l with
          | false =>
            obtain ⟨g1, g2, -, g4⟩ := hstep.out
            rw [hok] at g2
            simp only [Bool.false_eq_true, if_false] at g2
            obtain rfl := g2
            have g5 := g4 hok
            simp only [Prod.mk.injEq] at g5
            obtain ⟨rfl, rfl, rfl⟩ := g5
            replace g1 := Lib.hid g1
            clear hstep hout hok hsz g4
            go_wp2
            go_roundw
            case rel => exact ⟨k + 1, by omega, by go_num, _, _, _, _, C, d, rfl, hM7, hE7, g1⟩
            case measure => simp [intOf]; omega
          | true =>
            obtain ⟨g1, g2, g3, -⟩ := hstep.out
            rw [hok] at g2
            simp only [if_true] at g2
            obtain rfl := g2
            have g5 := g3 hok
            simp only [Prod.mk.injEq] at g5
            obtain ⟨rfl, rfl⟩ := g5
            replace g1 := Lib.hid g1
            clear hstep hout hok hsz g3
            go_upto_region 16 with fail
            go_cut [] (fun wx => Hid (Blk wx q (stV (gtF st y.s)) 23) ∧ Keep [q] w7 wx)
            case first =>
              obtain ⟨u0, hu0, ku0⟩ : ∃ u0, u0 = w7.drew ∧ Keep [] w7 u0 := ⟨_, rfl, (Keep.refl _ _).drew⟩
              have a0 : u0.cell? ⟨g, og + k * 7, none⟩ = some (.int .i64 y.s.v) := ku0.cell (by simp) (hr7.out 0 _ rfl)
              have a1 : u0.cell? ⟨g, og + k * 7 + 1, none⟩ = some (.int .i64 y.s.l) := ku0.cell (by simp) (hr7.out 1 _ rfl)
              have bq := Lib.hid (hE7.out.qq.keep ku0 (by simp))
              have b0 : u0.cell? ⟨q, 0, none⟩ = some (.int .i64 st.v) := bq.out.cell 0
              have b1 : u0.cell? ⟨q, 1, none⟩ = some (.int .i64 st.l) := bq.out.cell 1
              have hgt : ∀ a b : Int, (a = if st.v < y.s.v then y.s.v else st.v) → (b = if st.l < y.s.l then y.s.l else st.l) → gtF st y.s = ⟨a, b⟩ := fun a b ha hb => by rw [ha, hb]; unfold gtF; rw [maxIf, maxIf]
              replace hgt := Lib.hid hgt
              clear hM7 hE7 g1 hbl7 hr7
              generalize gtF st y.s = gs at *
              obtain ⟨s1, s2⟩ := st
              generalize y.s = ys at *
              obtain ⟨t1, t2⟩ := ys
              dsimp only at *
              refine wp_region_tail 19 (by kernel_rfl) (by kernel_rfl) u0 hu0 ?_
              clear hu0
              simp only [List.take_succ_cons, List.take_zero, List.drop_succ_cons, List.drop_zero]
              by_cases h1 : s1 < t1 <;> by_cases h2 : s2 < t2
              · obtain rfl := hgt.out t1 t2 (by simp [h1]) (by simp [h2])
                repeat still_step
                refine wpStill_nil ?_
                go_wp2_with (first | ((with_reducible refine wl_store 23 (.tmp 6) (.tmp 71) ?_ ?_); (with_reducible rfl); refine sx_storeW rfl 23 (.tmp 6) (.tmp 71) rfl q (stV ⟨t1, t2⟩) (stV ⟨s1, s2⟩) _ 2 rfl rfl bq.out zSt_size rfl rfl rfl ?_; intro w8 bw8 kw8 zw8; clear zw8; (try simp only [Act.put, List.setIfInBounds_toArray, List.set_cons_zero, List.set_cons_succ])))
                go_meet
                exact ⟨Lib.hid bw8, (ku0.mono (by simp)).trans kw8⟩
              · obtain rfl := hgt.out t1 s2 (by simp [h1]) (by simp [h2])
                repeat still_step
                refine wpStill_nil ?_
                go_wp2_with (first | ((with_reducible refine wl_store 23 (.tmp 6) (.tmp 71) ?_ ?_); (with_reducible rfl); refine sx_storeW rfl 23 (.tmp 6) (.tmp 71) rfl q (stV ⟨t1, s2⟩) (stV ⟨s1, s2⟩) _ 2 rfl rfl bq.out zSt_size rfl rfl rfl ?_; intro w8 bw8 kw8 zw8; clear zw8; (try simp only [Act.put, List.setIfInBounds_toArray, List.set_cons_zero, List.set_cons_succ])))
                go_meet
                exact ⟨Lib.hid bw8, (ku0.mono (by simp)).trans kw8⟩
              · obtain rfl := hgt.out s1 t2 (by simp [h1]) (by simp [h2])
                repeat still_step
                refine wpStill_nil ?_
                go_wp2_with (first | ((with_reducible refine wl_store 23 (.tmp 6) (.tmp 71) ?_ ?_); (with_reducible rfl); refine sx_storeW rfl 23 (.tmp 6) (.tmp 71) rfl q (stV ⟨s1, t2⟩) (stV ⟨s1, s2⟩) _ 2 rfl rfl bq.out zSt_size rfl rfl rfl ?_; intro w8 bw8 kw8 zw8; clear zw8; (try simp only [Act.put, List.setIfInBounds_toArray, List.set_cons_zero, List.set_cons_succ])))
                go_meet
                exact ⟨Lib.hid bw8, (ku0.mono (by simp)).trans kw8⟩
              · obtain rfl := hgt.out s1 s2 (by simp [h1]) (by simp [h2])
                repeat still_step
                refine wpStill_nil ?_
                go_wp2_with (first | ((with_reducible refine wl_store 23 (.tmp 6) (.tmp 71) ?_ ?_); (with_reducible rfl); refine sx_storeW rfl 23 (.tmp 6) (.tmp 71) rfl q (stV ⟨s1, s2⟩) (stV ⟨s1, s2⟩) _ 2 rfl rfl bq.out zSt_size rfl rfl rfl ?_; intro w8 bw8 kw8 zw8; clear zw8; (try simp only [Act.put, List.setIfInBounds_toArray, List.set_cons_zero, List.set_cons_succ])))
                go_meet
                exact ⟨Lib.hid bw8, (ku0.mono (by simp)).trans kw8⟩
            case rest =>
              rename World => w8
              obtain ⟨bq8, k8⟩ := hcut
              have hM8 := Lib.hid (hM7.out.keepS k8 (fun i hi => by
                  obtain rfl : i = q := by simpa using hi
                  exact ⟨hE7.out.lq.1, hE7.out.lq.2.1, hE7.out.lq.2.2.1, hE7.out.vq, hE7.out.lq.2.2.2⟩))
              have hE8 := Lib.hid (hE7.out.setq k8 bq8.out)
              have hq8 : Hid (¬ F q) := Lib.hid hE7.out.lq.2.2.2
              have hbl8 := Lib.hid (hbl7.out.keep (k8.at F (by simpa using hq8.out)))
              have a2 : w8.cell? ⟨g, og + k * 7 + 2, none⟩ = some (.slice A2 y.l.length c2) := k8.cell (fun hm => hq8.out (by rw [← List.mem_singleton.1 hm]; exact hFg)) (hr7.out 2 _ rfl)
              have hG8 : Hid (∀ i, F i → i < w8.heap.size) := Lib.hid (fun i hi => (hM8.out.fr i hi).1)
              clear hM7 hE7 hbl7 hr7 bq8 hq8 k8
              go_upto_region 17 with fail
              go_cut [7] (fun u wx => ∃ B c, u = .slice B (bs.length + y.l.length) c ∧ Hid (RowG Rep.bk 29 wx w8.heap.size F (.slice B (bs.length + y.l.length) c) (bs ++ y.l)) ∧ Keep [] w8 wx)
              case first =>
                refine wp_region_any (by kernel_rfl) ?_
                (try (change wpAny _ _ _ _ _ _ _ (World.drew _)))
                have K0 : Keep [] w8 w8.drew := (Keep.refl [] w8).drew
                generalize World.drew w8 = u0 at *
                refine wpAny_take (i := 1) (v := ?_) rfl (by kernel_rfl) (by kernel_rfl) (by kernel_rfl) (fun _ _ _ h => h) (Or.inl ⟨by rfl, ?_⟩) ?_
                rotate_left
                · intro w9
                  go_simp
                  with_reducible rfl
                refine wpAny_take (i := 3) (v := ?_) rfl (by kernel_rfl) (by kernel_rfl) (by kernel_rfl) (fun _ _ _ h => h) (Or.inl ⟨by rfl, ?_⟩) ?_
                rotate_left
                · intro w9
                  go_simp
                  with_reducible rfl
                refine wpAny_take (i := 4) (v := ?_) rfl (by kernel_rfl) (by kernel_rfl) (by kernel_rfl) (fun _ _ _ h => h) (Or.inl ⟨by rfl, ?_⟩) ?_
                rotate_left
                · intro w9
                  go_simp
                  with_reducible rfl
                refine wpAny_take (i := 5) (v := ?_) rfl (by kernel_rfl) (by kernel_rfl) (by kernel_rfl) (fun _ _ _ h => h) (Or.inl ⟨by rfl, ?_⟩) ?_
                rotate_left
                · intro w9
                  go_simp
                  with_reducible rfl
                refine wpAny_take (i := 6) (v := ?_) rfl (by kernel_rfl) (by kernel_rfl) (by kernel_rfl) (fun _ _ _ h => h) (Or.inl ⟨by rfl, ?_⟩) ?_
                rotate_left
                · intro w9
                  go_simp
                  with_reducible rfl
                refine wpAny_ready (rs := [0, 7]) (by kernel_rfl) (by simp) ?_
                refine AllReady.consS rfl (fun K hK => ?_) ?_
                · refine stp_noneB rfl rfl ?_
                  intro u1 bN kN zN
                  clear zN
                  have K1 := K0.trans kN
                  have R1 : RowG Rep.bk 29 u1 w8.heap.size F (.slice (some ⟨u0.heap.size, 0, none⟩) 0 0) [] := RowG.empty _ _ _ _ _ _ bN K0.size
                  replace R1 := Lib.hid R1
                  clear bN kN
                  refine hK _ _ ?_
                  clear hK K
                  refine wpAny_ready (rs := [2, 7]) (by kernel_rfl) (by simp) ?_
                  refine AllReady.consS rfl (fun K hK => ?_) ?_
                  · refine stp_appB rfl (.tmp 72) (.tmp 73) rfl w8.heap.size F (.slice (some ⟨u0.heap.size, 0, none⟩) 0 0) [] bs C d rfl rfl R1.out (RowG.reads (hE8.out.rowb.keepS K1 (fun i hi => by simp at hi)).1) hG8.out (by simp; omega) K1.size ?_
                    simp only [List.length_nil, Nat.zero_add, List.nil_append]
                    intro B2 p2 u2 rN kN
                    have K2 : Keep [] w8 u2 := K1.new kN (fun i hi => .inr (R1.out.lt i (by simpa using hi)).1)
                    have R2 := Lib.hid rN
                    clear rN kN
                    refine hK _ _ ?_
                    clear hK K
                    refine wpAny_ready (rs := [7]) (by kernel_rfl) (by simp) ?_
                    refine AllReady.consS rfl (fun K hK => ?_) ?_
                    · refine Stp.mk ?_
                      have aK : u2.cell? ⟨g, og + k * 7 + 2, none⟩ = some (.slice A2 y.l.length c2) := K2.cell (by simp) a2
                      go_simp
                      clear aK
                      refine hK _ _ ?_
                      clear hK K
                      refine wpAny_ready (rs := [8]) (by kernel_rfl) (by simp) ?_
                      refine AllReady.consS rfl (fun K hK => ?_) ?_
                      · refine stp_appB rfl (.tmp 74) (.tmp 79) rfl w8.heap.size F (.slice B2 bs.length p2) bs y.l A2 c2 rfl rfl R2.out (SliceOf.reads (hbl8.out.keep (K2.at F (by simp)))) hG8.out (by omega) K2.size ?_
                        intro B3 p3 u3 rN kN
                        have K3 : Keep [] w8 u3 := K2.new kN (fun i hi => .inr (R2.out.lt i (by simpa using hi)).1)
                        have R3 := Lib.hid rN
                        clear rN kN
                        refine hK _ _ ?_
                        clear hK K
                        refine wpAny_take (i := 9) (v := ?_) rfl (by kernel_rfl) (by kernel_rfl) (by kernel_rfl) (fun _ _ _ h => h) (Or.inl ⟨by rfl, ?_⟩) ?_
                        rotate_left
                        · intro w9
                          go_simp
                          with_reducible rfl
                        refine wpAny_done (by kernel_rfl) ?_ _
                        go_wp2
                        go_meet
                        exact ⟨_, _, rfl, R3, K3⟩
                      exact AllReady.nil
                    exact AllReady.nil
                  refine AllReady.consS rfl (fun K hK => ?_) ?_
                  · refine Stp.mk ?_
                    have aK : u1.cell? ⟨g, og + k * 7 + 2, none⟩ = some (.slice A2 y.l.length c2) := K1.cell (by simp) a2
                    go_simp
                    clear aK
                    refine hK _ _ ?_
                    clear hK K
                    refine wpAny_ready (rs := [2]) (by kernel_rfl) (by simp) ?_
                    refine AllReady.consS rfl (fun K hK => ?_) ?_
                    · refine stp_appB rfl (.tmp 72) (.tmp 73) rfl w8.heap.size F (.slice (some ⟨u0.heap.size, 0, none⟩) 0 0) [] bs C d rfl rfl R1.out (RowG.reads (hE8.out.rowb.keepS K1 (fun i hi => by simp at hi)).1) hG8.out (by simp; omega) K1.size ?_
                      simp only [List.length_nil, Nat.zero_add, List.nil_append]
                      intro B2 p2 u2 rN kN
                      have K2 : Keep [] w8 u2 := K1.new kN (fun i hi => .inr (R1.out.lt i (by simpa using hi)).1)
                      have R2 := Lib.hid rN
                      clear rN kN
                      refine hK _ _ ?_
                      clear hK K
                      refine wpAny_ready (rs := [8]) (by kernel_rfl) (by simp) ?_
                      refine AllReady.consS rfl (fun K hK => ?_) ?_
                      · refine stp_appB rfl (.tmp 74) (.tmp 79) rfl w8.heap.size F (.slice B2 bs.length p2) bs y.l A2 c2 rfl rfl R2.out (SliceOf.reads (hbl8.out.keep (K2.at F (by simp)))) hG8.out (by omega) K2.size ?_
                        intro B3 p3 u3 rN kN
                        have K3 : Keep [] w8 u3 := K2.new kN (fun i hi => .inr (R2.out.lt i (by simpa using hi)).1)
                        have R3 := Lib.hid rN
                        clear rN kN
                        refine hK _ _ ?_
                        clear hK K
                        refine wpAny_take (i := 9) (v := ?_) rfl (by kernel_rfl) (by kernel_rfl) (by kernel_rfl) (fun _ _ _ h => h) (Or.inl ⟨by rfl, ?_⟩) ?_
                        rotate_left
                        · intro w9
                          go_simp
                          with_reducible rfl
                        refine wpAny_done (by kernel_rfl) ?_ _
                        go_wp2
                        go_meet
                        exact ⟨_, _, rfl, R3, K3⟩
                      exact AllReady.nil
                    exact AllReady.nil
                  exact AllReady.nil
                refine AllReady.consS rfl (fun K hK => ?_) ?_
                · refine Stp.mk ?_
                  have aK : u0.cell? ⟨g, og + k * 7 + 2, none⟩ = some (.slice A2 y.l.length c2) := K0.cell (by simp) a2
                  go_simp
                  clear aK
                  refine hK _ _ ?_
                  clear hK K
                  refine wpAny_ready (rs := [0]) (by kernel_rfl) (by simp) ?_
                  refine AllReady.consS rfl (fun K hK => ?_) ?_
                  · refine stp_noneB rfl rfl ?_
                    intro u1 bN kN zN
                    clear zN
                    have K1 := K0.trans kN
                    have R1 : RowG Rep.bk 29 u1 w8.heap.size F (.slice (some ⟨u0.heap.size, 0, none⟩) 0 0) [] := RowG.empty _ _ _ _ _ _ bN K0.size
                    replace R1 := Lib.hid R1
                    clear bN kN
                    refine hK _ _ ?_
                    clear hK K
                    refine wpAny_ready (rs := [2]) (by kernel_rfl) (by simp) ?_
                    refine AllReady.consS rfl (fun K hK => ?_) ?_
                    · refine stp_appB rfl (.tmp 72) (.tmp 73) rfl w8.heap.size F (.slice (some ⟨u0.heap.size, 0, none⟩) 0 0) [] bs C d rfl rfl R1.out (RowG.reads (hE8.out.rowb.keepS K1 (fun i hi => by simp at hi)).1) hG8.out (by simp; omega) K1.size ?_
                      simp only [List.length_nil, Nat.zero_add, List.nil_append]
                      intro B2 p2 u2 rN kN
                      have K2 : Keep [] w8 u2 := K1.new kN (fun i hi => .inr (R1.out.lt i (by simpa using hi)).1)
                      have R2 := Lib.hid rN
                      clear rN kN
                      refine hK _ _ ?_
                      clear hK K
                      refine wpAny_ready (rs := [8]) (by kernel_rfl) (by simp) ?_
                      refine AllReady.consS rfl (fun K hK => ?_) ?_
                      · refine stp_appB rfl (.tmp 74) (.tmp 79) rfl w8.heap.size F (.slice B2 bs.length p2) bs y.l A2 c2 rfl rfl R2.out (SliceOf.reads (hbl8.out.keep (K2.at F (by simp)))) hG8.out (by omega) K2.size ?_
                        intro B3 p3 u3 rN kN
                        have K3 : Keep [] w8 u3 := K2.new kN (fun i hi => .inr (R2.out.lt i (by simpa using hi)).1)
                        have R3 := Lib.hid rN
                        clear rN kN
                        refine hK _ _ ?_
                        clear hK K
                        refine wpAny_take (i := 9) (v := ?_) rfl (by kernel_rfl) (by kernel_rfl) (by kernel_rfl) (fun _ _ _ h => h) (Or.inl ⟨by rfl, ?_⟩) ?_
                        rotate_left
                        · intro w9
                          go_simp
                          with_reducible rfl
                        refine wpAny_done (by kernel_rfl) ?_ _
                        go_wp2
                        go_meet
                        exact ⟨_, _, rfl, R3, K3⟩
                      exact AllReady.nil
                    exact AllReady.nil
                  exact AllReady.nil
                exact AllReady.nil
              case rest =>
                rename World => w9
                obtain ⟨B9, c9, rfl, R9, k9⟩ := hcut
                have hM9 := Lib.hid (hM8.out.keep0 k9)
                have hE9 := Lib.hid (hE8.out.setb k9 (R9.out.rowX hG8.out) (fun i hi => (R9.out.lt i hi).1) hM8.out.keep.size (Blk.lt hM8.out.sto) (Blk.lt hM8.out.log) hM8.out.row.ownlt)
                have bq9 := Lib.hid hE9.out.qq
                have hSt := Lib.hid (fun w' (kq : Keep [] w9 w') => state_call m p (gtF st y.s) v' w' (Blk.keep hM9.out.sto kq (by simp)))
                have hnq : ∀ w, (binOp .neq 23 (.agg (stV (gtF st y.s))) (.agg (stV (gtF st y.s)))).run Try.prog w = .ok (.bool false) w := fun w => by rw [neqSt, (sameS_iff _ _).2 rfl]; rfl
                have g1' := g1
                generalize gtF st y.s = gs at *
                clear hM8 hE8 hbl8 a2 hG8 R9 g1'
                go_upto_region 18 with fail
                refine wp_region_class (C := fun w' => Keep [] w9 w') (by kernel_rfl) (by kernel_rfl) ((Keep.refl _ _).drew) ?_
                iterate 8 (first
                  | go_big_quiet_skip
                  | (go_big_quiet_want; first
                    | (refine quiet_loadW 23 (.tmp 6) rfl q (stV gs) _ _ 2 rfl (fun w' hw => bq9.out.keep hw (by simp)) Try.underlying23 rfl zSt_size rfl ?_; simp only [Act.put, List.setIfInBounds_toArray, List.set_cons_zero, List.set_cons_succ]; go_big_quiet_on)
                    | (go_big_quiet_op; go_big_quiet_on)
                    | (refine quiet_run (v := ?_) ?_ ?_; (rotate_left; (intro w' hC; (try dsimp only at hC); go_split_ands; go_simp; with_reducible rfl); simp only [Act.put, List.setIfInBounds_toArray, List.set_cons_zero, List.set_cons_succ]; go_big_quiet_on))
                    | (refine quiet_call (v := ?_) (f := ?_) (args := ?_) ?_ ?_ ?_; (rotate_left; rotate_left; rotate_left; (intro w' hC; (try dsimp only at hC); go_split_ands; go_simp; (refine ⟨?_, ?_⟩ <;> with_reducible rfl)); (intro w' hC; first | (go_at_call 20; (with_reducible refine (hSt.out _ hC).mono ?_); rintro e w28 ⟨rfl, kq⟩; refine ⟨?_, Keep.trans hC kq⟩; with_reducible rfl)); simp only [Act.put, List.setIfInBounds_toArray, List.set_cons_zero, List.set_cons_succ]; go_big_quiet_on))))
                refine wpQuiet_nil ?_
                intro w10 k10
                have hM10 := Lib.hid (hM9.out.keep0 k10)
                have hE10 := Lib.hid (hE9.out.keep0 k10)
                clear hM9 hE9 hSt bq9
                rw [← List.length_append] at hE10
                go_wp2
                go_roundw
                case rel => exact ⟨k + 1, by omega, by go_num, _, _, bs ++ y.l, _, B9, c9, by rw [List.length_append], hM10, hE10, g1⟩
                case measure => simp [intOf]; omega
      · have hltz : ¬ (k : Int) < (l.length : Int) := by omega
        obtain rfl : k = l.length := by omega
        have hop := hG.out.opens
        have hbz : x.b.size ≤ 1000000 := by have := hsz.1; omega
        have hxs : x.s ≤ 1000000 := by have := hsz.2.1; omega
        have hxl : bs.length ≤ 1000000 := by have := hsz.2.2.2.2.1; omega
        have hb6 : ∀ b ∈ bs, (blockF b).size ≤ 1000000 := fun b hb => by have := hsz.2.2.2.2.2 b hb; omega
        have hxg := hsz.2.2.2.1
        replace hb6 := Lib.hid hb6
        replace hop := Lib.hid hop
        clear hG hsz
        go_wp2_with fail
        refine (open_call p x _ hM.out.log hxg hbz hxs).mono ?_
        rw [hop.out.1, hop.out.2]
        dsimp only
        rintro e w6 ⟨n, rfl, hn, h6, k6, v6, G6, st6, x6, lt6, -⟩
        have hE6 := Lib.hid (hE.out.saved (v' := v) (fun k hk => (hM.out.fr k hk).2) hM.out.row.2 (k6.mono (fun i _ hi => by simp at hi; simp [hi])) (.inl rfl))
        have sto6 := Lib.hid (Blk.keep hM.out.sto k6 (by simpa using hM.out.mp))
        have row6 := Lib.hid (hM.out.row.keepS k6 (fun i hi => by
            obtain rfl : i = p := by simpa using hi
            exact ⟨fun e => (hM.out.vm i e).2.2 rfl, fun hf => (hM.out.fr i hf).2.2 rfl⟩))
        have kk6 : Keep [] w w6 := hM.out.keep.new2 k6 (fun i hi => by have := hM.out.lp; simp at hi; omega)
        have bq := hE6.out.qq
        have d0 : w6.cell? ⟨q, 0, none⟩ = some (.int .i64 st.v) := bq.cell 0
        have d1 : w6.cell? ⟨q, 1, none⟩ = some (.int .i64 st.l) := bq.cell 1
        have sX := row6.out.1.slice (by unfold M47; omega)
        have sB := hE6.out.rowb.1.slice (by unfold M47; omega)
        have sN := x6.1.slice (by unfold M47; omega)
        have oX : ∀ i, (F i ∨ v.ownBlock = some i) → i < w6.heap.size := fun i hi => hi.elim (fun h => Nat.lt_of_lt_of_le (hM.out.fr i h).1 k6.size) (fun h => row6.out.ownlt i h)
        have hS := Lib.hid (fun w' (kq : Keep [] w6 w') D cap H (h : SliceOf Rep.bk w' H (.slice D bs.length cap) bs) => sameB_call D C bs cap d _ _ w' h (sB.keep (kq.at _ (by simp))) hb6.out hxl)
        have hSt : Hid (∀ w', Keep [] w6 w' → Calls Try.prog 20 #[.pointer (some ⟨n, 0, none⟩)] w' fun e w'' => e = .returned (.agg #[.int .i64 st.v, .int .i64 st.l]) ∧ Keep [] w' w'') := Lib.hid (fun w' (kq : Keep [] w6 w') => state_call n p st v6 w' (Blk.keep st6 kq (by simp)))
        have hB1 := Lib.hid (fun w' (kq : Keep [] w6 w') => blocks_call m p st v bs _ w' (Blk.keep sto6.out kq (by simp)) (sX.keep (kq.at _ (by simp))) (fun i hi => Nat.lt_of_lt_of_le (oX i hi) kq.size) hxl)
        have hB2 := Lib.hid (fun w' (kq : Keep [] w6 w') => blocks_call n p st v6 bs _ w' (Blk.keep st6 kq (by simp)) (sN.keep (kq.at _ (by simp))) (fun k hk => by have h1 := kq.size; have h2 := (lt6 k hk.symm).2.1; omega) hxl)
        clear sX sB sN st6 x6 lt6 bq hE6 sto6 row6 hM hE oX hop hb6 h6
        go_upto_region 21 with fail
        go_region_law (go_simp; first
          | (go_at_call 21; (with_reducible refine (hB1.out _ ((Keep.refl _ _).drew)).mono ?_); rintro e w11 ⟨B11, cap11, rfl, s11, k11⟩; have k11 : Keep [] w6 w11 := Keep.trans ((Keep.refl _ _).drew) k11; replace s11 := Lib.hid s11)
          | (go_at_call 19; (with_reducible refine (hS.out w11 k11 B11 cap11 _ s11.out).mono ?_); rintro e w12 ⟨rfl, k12⟩; have k12 := k11.trans k12; have e0 := k12.cell (by simp) d0; have e1 := k12.cell (by simp) d1)
          | (go_at_call 20; (with_reducible refine (hSt.out w12 k12).mono ?_); rintro e w13 ⟨rfl, k13⟩; have k13 := k12.trans k13; have f0 := k13.cell (by simp) d0; have f1 := k13.cell (by simp) d1)
          | (go_at_call 21; (with_reducible refine (hB2.out w13 k13).mono ?_); rintro e w14 ⟨B14, cap14, rfl, s14, k14⟩; have k14 := k13.trans k14; replace s14 := Lib.hid s14)
          | (go_at_call 19; (with_reducible refine (hS.out w14 k14 B14 cap14 _ s14.out).mono ?_); rintro e w15 ⟨rfl, k15⟩; have k15 := k14.trans k15))
        all_goals
          go_wp2
          go_ret
          exact ⟨rfl, kk6.trans k15⟩
end Go.Proofs.Ytdhhibppcckbkaa
namespace Go.Proofs.Ytdhhibppcckbkaa.storeSaves
open Go.ChangeShapes Go.WideShapes Go.ChangeAt Go.RowKit
open Go.ChangeMaps (open_string shut_string)
set_option linter.unusedVariables false
set_option linter.unusedSimpArgs false
theorem own : ownKnob Try.prog.godebug = none := by kernel_rfl
theorem laidOut : laidOutB Try.prog = true := by kernel_rfl
set_option maxRecDepth 100000 in
theorem lifted (os : Os) (started : os.Started) (H : Type) (enc : TypeId × Value → H) :
    ReturnsInHanded {} Try.checked os 5 .any (Rows.storeSavesSpec.pre6 enc Try.prog Try.f5 Rows.storeSavesRow.domain false) (Rows.storeSavesSpec.post enc Try.prog Try.f5 false true false false) := by
  refine returnsInHanded_of_change_sized (C := Try.checked) own started (by kernel_rfl) Try.func5
    (ChangeSpec.witness6 (enc := enc) (C := Try.checked) false ⟨#[], #[.slice none 0 0], []⟩ 8 (by kernel_rfl) (by kernel_rfl) (by kernel_rfl) (by kernel_rfl)) ?_
  intro W base args ds gs before hval0 hW hcnd hsz0 _
  have hsz : (DataW.weightsEach Try.prog (Try.f5.params.toList ++ Rows.storeSavesSpec.plain.varTypes Try.prog) (ds ++ gs)).all (· ≤ reachBytes) = true := hsz0
  have hval : ∀ (j : Nat) t v, Try.f5.params[j]? = some t → args[j]? = some v → Value.okWide Try.prog W .any base t v := hval0
  have hW' := hW
  obtain ⟨p, q, hA0, hV, rfl, hfz, hnd⟩ := hW
  have hA : DataW.TrodAll enc Try.prog W 0 (fun _ => true) true Try.f5.params.toList args.toList ds p := hA0
  rw [Try.params5] at hA hval hsz
  obtain ⟨v0, vs0, d0, ds0, p0, q0, hargs, rfl, rfl, h0, r0⟩ := trodAll_cons hA
  obtain ⟨rfl, rfl, rfl⟩ := trodAll_nil r0
  obtain rfl : args = #[v0] := by cases args; simp_all
  obtain ⟨rfl, rfl⟩ := trodVars_none hV
  have k0 := h0
  have lt0 : ∀ x ∈ p0, x.block < W.heap.size := by obtain ⟨m, hm⟩ := k0; exact DataW.trod_lt m _ _ _ hm
  obtain ⟨a0, len0, cap0, rfl⟩ := okWide_slice Try.underlying50 (hval 0 50 v0 rfl rfl)
  obtain ⟨fuel0, hf0⟩ := id h0
  obtain ⟨y0, hr0⟩ := open_op10s fuel0 _ _ hf0 (fun n hn => of_decide_eq_true (List.all_eq_true.1 hsz n (DataW.weights_mem_each (j := 0) (t := 50) rfl rfl n hn)))
  clear hA0 hval0 hsz0
  obtain ⟨s0, z0, t0⟩ := hr0
  obtain rfl : Value.slice a0 len0 cap0 = s0 := by simpa [Value.cells] using z0
  obtain ⟨A0, m0, x0, l0⟩ := t0.form
  cases x0
  refine (storeSaves_call a0 y0 cap0 (Inn W) W t0 (fun _ h => h)).mono fun e W' ⟨he, kept⟩ => ?_
  subst he
  have bel := kept.below
  exact ⟨_, rfl, _, _, _, [], _, [], hW', trodAll_mk1 (shut_bool Try.underlying4 _), (trodAll_cons_mk (Below.trod laidOut (by kernel_rfl) (of_decide_eq_true (by kernel_rfl)) k0 bel lt0) trodAll_mk0), rfl, bel.frame _, fun h => by cases h⟩
theorem over : Rows.storeSavesRow.holds Try.pinned (OpenSpec.ofChange Rows.storeSavesSpec) :=
  OpenClaim.holds_of_wide 5 Try.f5 rfl rfl rfl rfl rfl rfl rfl ⟨rfl, rfl, rfl, rfl, rfl⟩ rfl rfl rfl rfl rfl (by kernel_rfl) Try.func5 (by kernel_rfl)
    (of_decide_eq_true (by kernel_rfl)) (by unfold Func.isWrapper; first | (rw [if_pos (by decide +kernel)]; kernel_rfl) | (rw [if_neg (by decide +kernel)]; exact ⟨rfl, rfl⟩))
    (fun os started H enc _ => lifted os started H enc)
end Go.Proofs.Ytdhhibppcckbkaa.storeSaves
namespace Go.Proofs.Ytdhhibppcckbkaa
theorem storeSaves_holds : Rows.StoreSavesSaid := storeSaves.over
#print axioms storeSaves_holds
end Go.Proofs.Ytdhhibppcckbkaa
