/- Whatever is saved, wherever the power goes, and however much is kept (at most 30 saves, of at most 5 blocks): opened again both views are as great as all that were saved, and none is above what was asked for, and the blocks are a beginning of those that were, with all that were saved: the law StoreCrashes returns true for every list of saves. -/
import Derived.Test.YtdhhibppcckbkaaBase
import Derived.ProofKit
import Derived.OpenShut
import Derived.ShutString
import Derived.ChangeOld
import Derived.SizedLaws
import Derived.Deep.Slices
import Derived.Test.YtdhhibppcckbkaaStore1
import Derived.Test.YtdhhibppcckbkaaStoreSC
import Derived.Test.YtdhhibppcckbkaaRows
import Derived.Test.YtdhhibppcckbkaaStore18C
import Derived.WalkKit
import Derived.Below
namespace Go.Proofs.Ytdhhibppcckbkaa
open Go.RowKit Go.ChangeShapes Go.WideShapes Go.ChangeAt
set_option linter.unusedVariables false
set_option linter.unusedSimpArgs false
/-! what comes in, as data -/
def Inn (W : World) : Nat → Prop := fun k => k < W.heap.size
def Opens {H : Type} (enc : TypeId × Value → H) (P : Program) (W : World) {α : Type} (a : Rep α) (t : TypeId) : Prop :=
  ∀ (fuel : Nat) (cs : List Value) (x : DataW H × List MemPlace), DataW.trod enc P W 0 (fun _ => true) true fuel t cs = some x →
    (∀ n ∈ x.1.weights P t, n ≤ reachBytes) → ∃ y, a.R W (Inn W) y cs
section
variable {H : Type} {enc : TypeId × Value → H} {P : Program} {W : World} {α : Type}
theorem opens_int {t : TypeId} (ht : P.underlying t = some (.int .i64)) : Opens enc P W Rep.int t := by
  intro fuel cs x h _
  obtain ⟨n, rfl, rfl, hw⟩ := DataW.trod_int ht h
  have hb := bounds_i64 hw
  exact ⟨n, rfl, hb.1, hb.2⟩
theorem opens_str {t : TypeId} (ht : P.underlying t = some .string) : Opens enc P W Rep.str t := by
  intro fuel cs x h hw
  obtain ⟨s, rfl, rfl, _⟩ := DataW.trod_string ht h
  have := hw s.data.toList.length (by simp [DataW.weights])
  refine ⟨s, rfl, ?_⟩
  simp [reachBytes] at this
  rw [M47_eq]
  have e : s.size = s.data.size := rfl
  omega
theorem weightsAll_mem (e : TypeId) : ∀ (l : List (DataW H)) (d : DataW H), d ∈ l → ∀ n, n ∈ d.weights P e → n ∈ DataW.weightsAll P e l
  | [], _, h, _, _ => by cases h
  | a :: l, d, h, n, hn => by
    simp only [DataW.weightsAll, List.mem_append]
    rcases List.mem_cons.1 h with rfl | h
    · exact .inl hn
    · exact .inr (weightsAll_mem e l d h n hn)
theorem cells?_at {w : World} {a : Addr} {n : Nat} {cs : List Value} (h : w.cells? 0 a n = some cs) : ∀ j v, cs[j]? = some v → w.cell? (a.add j) = some v := by
  intro j v hj
  unfold World.cells? at h
  rw [if_pos (Nat.zero_le _)] at h
  have hl := mapM_some_length h
  have hjl : j < cs.length := (List.getElem?_eq_some_iff.1 hj).1
  rw [hl, List.length_range] at hjl
  have hr : (List.range n)[j]? = some j := by simp [hjl]
  have := mapM_some_get h j j hr
  rw [this, hj]
def Rep.slice (a : Rep α) : Rep (List α) where
  sz := 1
  R := fun w F xs cs => ∃ v, cs = [v] ∧ SliceOf a w F v xs
  len := by rintro _ _ _ _ ⟨_, rfl, _⟩; rfl
  keep := fun ⟨v, h, h1⟩ k => ⟨v, h, h1.keep k⟩
  mono := fun ⟨v, h, h1⟩ k => ⟨v, h, h1.mono k⟩
theorem opens_slice {a : Rep α} {t e : TypeId} (ht : P.underlying t = some (.slice e)) (hsz : P.cellsOf e = a.sz) (hs0 : 0 < a.sz) (hb : 1 ≤ P.bytesOf e) (ho : Opens enc P W a e) : Opens enc P W (Rep.slice a) t := by
  intro fuel cs x h hw
  rcases Deep.open_slice ht h with ⟨rfl, rfl⟩ | ⟨A, len, cap, m, n, D, Pl, rfl, _, hlc, _, hm, rfl, hel⟩
  · exact ⟨[], _, rfl, SliceOf.nil a W _ none 0⟩
  · simp only [if_true] at hm
    subst hm
    have hbound : len ≤ M47 := by
      have := hw ((((List.range len).map D).length + ((List.range (m - len)).map fun j => D (len + j)).length) * P.bytesOf e) (by simp [DataW.weights, ht])
      simp [reachBytes] at this
      have h2 : len * 1 ≤ (len + (m - len)) * P.bytesOf e := Nat.mul_le_mul (by omega) hb
      rw [M47_eq]; omega
    have hel' : ∀ i, i < len → ∃ y cs', a.R W (Inn W) y cs' ∧ ∀ j v, cs'[j]? = some v → W.cell? ((A.add (i * a.sz)).add j) = some v := by
      intro i hi
      obtain ⟨cs', hc, htr⟩ := hel i (by omega)
      obtain ⟨y, hy⟩ := ho n cs' _ htr (fun k hk => hw k (by
        simp only [DataW.weights, ht, List.mem_cons, List.mem_append]
        exact .inr (.inl (weightsAll_mem e _ (D i) (List.mem_map.2 ⟨i, by simpa using hi, rfl⟩) k hk))))
      rw [hsz] at hc
      exact ⟨y, cs', hy, cells?_at hc⟩
    by_cases hl0 : len = 0
    · subst hl0
      exact ⟨[], _, rfl, SliceOf.nil a W _ _ _⟩
    obtain ⟨Y, hY⟩ : ∃ Y : Nat → α, ∀ i, i < len → ∃ cs', a.R W (Inn W) (Y i) cs' ∧ ∀ j v, cs'[j]? = some v → W.cell? ((A.add (i * a.sz)).add j) = some v := by
      obtain ⟨y0, _⟩ := hel' 0 (by omega)
      refine ⟨fun i => if h : i < len then Classical.choose (hel' i h) else y0, fun i hi => ?_⟩
      simp only [dif_pos hi]
      exact Classical.choose_spec (hel' i hi)
    refine ⟨(List.range len).map Y, _, rfl, some A, m, by simp, by simpa using hbound, fun hp => ?_⟩
    simp at hp
    obtain ⟨b, o, spot⟩ := A
    obtain ⟨cs0, hr0, hc0⟩ := hY 0 hp
    have hlen0 := a.len hr0
    obtain ⟨v0, hv0⟩ : ∃ v, cs0[0]? = some v := ⟨cs0[0]'(by omega), List.getElem?_eq_getElem (by omega)⟩
    have h0 := hc0 0 v0 hv0
    simp only [Nat.zero_mul, Addr.add, if_true] at h0
    obtain rfl : spot = none := World.cell?_spot h0
    refine ⟨b, o, rfl, World.block_lt_of_cell? W _ h0, World.block_lt_of_cell? W _ h0, fun i hi => ?_⟩
    simp at hi
    obtain ⟨cs', hr, hc⟩ := hY i hi
    refine ⟨cs', by simpa using hr, fun j v hj => ?_⟩
    have := hc j v hj
    rw [Deep.add_add] at this
    unfold Addr.add at this
    split at this
    · rename_i he; rw [he]; exact this
    · exact this
end
end Go.Proofs.Ytdhhibppcckbkaa
namespace Go.Proofs.Ytdhhibppcckbkaa
open Go.RowKit Go.ChangeShapes Go.WideShapes Go.ChangeAt
set_option linter.unusedVariables false
set_option linter.unusedSimpArgs false
section
variable {H : Type} {enc : TypeId × Value → H} {W : World}
theorem li2 {α : Type} (l : List α) (h : l.length = 2) : ∃ a b, l = [a, b] := by
  match l, h with
  | [a, b], _ => exact ⟨a, b, rfl⟩
theorem li3 {α : Type} (l : List α) (h : l.length = 3) : ∃ a b c, l = [a, b, c] := by
  match l, h with
  | [a, b, c], _ => exact ⟨a, b, c, rfl⟩
theorem li4 {α : Type} (l : List α) (h : l.length = 4) : ∃ a b c d, l = [a, b, c, d] := by
  match l, h with
  | [a, b, c, d], _ => exact ⟨a, b, c, d, rfl⟩
theorem li6 {α : Type} (l : List α) (h : l.length = 6) : ∃ a b c d e f, l = [a, b, c, d, e, f] := by
  match l, h with
  | [a, b, c, d, e, f], _ => exact ⟨a, b, c, d, e, f, rfl⟩
theorem open_req : Opens enc Try.prog W Rep.req 61 := by
  intro fuel cs x h hw
  obtain ⟨xs, n, rfl, rfl, hl, hxl, hf⟩ := DataW.trod_struct Try.underlying61 h
  rw [show Try.prog.cellsOf 61 = 3 by kernel_rfl] at hl
  obtain ⟨c0, c1, c2, rfl⟩ := li3 cs hl
  obtain ⟨x0, x1, x2, rfl⟩ := li3 xs hxl
  have f0 : DataW.trod enc Try.prog W 0 (fun _ => true) true n 3 (([c0, c1, c2].drop 0).take (Try.prog.cellsOf 3)) = some x0 := hf 0 _ rfl
  rw [show Try.prog.cellsOf 3 = 1 by kernel_rfl] at f0
  replace f0 : DataW.trod enc Try.prog W 0 (fun _ => true) true n 3 [c0] = some x0 := f0
  have f1 : DataW.trod enc Try.prog W 0 (fun _ => true) true n 3 (([c0, c1, c2].drop 1).take (Try.prog.cellsOf 3)) = some x1 := hf 1 _ rfl
  rw [show Try.prog.cellsOf 3 = 1 by kernel_rfl] at f1
  replace f1 : DataW.trod enc Try.prog W 0 (fun _ => true) true n 3 [c1] = some x1 := f1
  have f2 : DataW.trod enc Try.prog W 0 (fun _ => true) true n 9 (([c0, c1, c2].drop 2).take (Try.prog.cellsOf 9)) = some x2 := hf 2 _ rfl
  rw [show Try.prog.cellsOf 9 = 1 by kernel_rfl] at f2
  replace f2 : DataW.trod enc Try.prog W 0 (fun _ => true) true n 9 [c2] = some x2 := f2
  have hw' : ∀ k, k ∈ x0.1.weights Try.prog 3 ++ (x1.1.weights Try.prog 3 ++ (x2.1.weights Try.prog 9 ++ ([]))) → k ≤ reachBytes := by
    intro k hk
    refine hw k ?_
    simp only [DataW.weights, Try.underlying61, List.map_cons, List.map_nil, DataW.weightsEach]
    exact hk
  simp only [List.mem_append] at hw'
  obtain ⟨y0, h0⟩ := opens_int Try.underlying3 n _ _ f0 (fun k hk => hw' k (.inl hk))
  obtain ⟨y1, h1⟩ := opens_int Try.underlying3 n _ _ f1 (fun k hk => hw' k (.inr (.inl hk)))
  obtain ⟨y2, h2⟩ := opens_str Try.underlying9 n _ _ f2 (fun k hk => hw' k (.inr (.inr (.inl hk))))
  obtain ⟨e0, b0⟩ := h0
  obtain ⟨e1, b1⟩ := h1
  obtain ⟨e2, b2⟩ := h2
  simp only [List.cons.injEq, and_true] at e0 e1 e2
  subst e0 e1 e2
  exact ⟨⟨y0, y1, y2⟩, rfl, b0, b1, b2⟩
theorem open_strs : Opens enc Try.prog W (Rep.slice Rep.str) 35 :=
  opens_slice Try.underlying35 (by kernel_rfl) (by decide) (by rw [show Try.prog.bytesOf 9 = 16 by kernel_rfl]; decide) (opens_str Try.underlying9)
theorem open_sg : Opens enc Try.prog W Rep.sg 84 := by
  intro fuel cs x h hw
  obtain ⟨xs, n, rfl, rfl, hl, hxl, hf⟩ := DataW.trod_struct Try.underlying84 h
  rw [show Try.prog.cellsOf 84 = 2 by kernel_rfl] at hl
  obtain ⟨c0, c1, rfl⟩ := li2 cs hl
  obtain ⟨x0, x1, rfl⟩ := li2 xs hxl
  have f0 : DataW.trod enc Try.prog W 0 (fun _ => true) true n 3 (([c0, c1].drop 0).take (Try.prog.cellsOf 3)) = some x0 := hf 0 _ rfl
  rw [show Try.prog.cellsOf 3 = 1 by kernel_rfl] at f0
  replace f0 : DataW.trod enc Try.prog W 0 (fun _ => true) true n 3 [c0] = some x0 := f0
  have f1 : DataW.trod enc Try.prog W 0 (fun _ => true) true n 35 (([c0, c1].drop 1).take (Try.prog.cellsOf 35)) = some x1 := hf 1 _ rfl
  rw [show Try.prog.cellsOf 35 = 1 by kernel_rfl] at f1
  replace f1 : DataW.trod enc Try.prog W 0 (fun _ => true) true n 35 [c1] = some x1 := f1
  have hw' : ∀ k, k ∈ x0.1.weights Try.prog 3 ++ (x1.1.weights Try.prog 35 ++ ([])) → k ≤ reachBytes := by
    intro k hk
    refine hw k ?_
    simp only [DataW.weights, Try.underlying84, List.map_cons, List.map_nil, DataW.weightsEach]
    exact hk
  simp only [List.mem_append] at hw'
  obtain ⟨y0, h0⟩ := opens_int Try.underlying3 n _ _ f0 (fun k hk => hw' k (.inl hk))
  obtain ⟨y1, h1⟩ := open_strs n _ _ f1 (fun k hk => hw' k (.inr (.inl hk)))
  obtain ⟨e0, b0⟩ := h0
  obtain ⟨v, e1, b1⟩ := h1
  simp only [List.cons.injEq, and_true] at e0 e1
  subst e0 e1
  exact ⟨⟨y0, y1⟩, _, rfl, b0, b1⟩
theorem open_sgs : Opens enc Try.prog W (Rep.slice Rep.sg) 24 :=
  opens_slice Try.underlying24 (by kernel_rfl) (by decide) (by rw [show Try.prog.bytesOf 84 = 32 by kernel_rfl]; decide) open_sg
theorem open_reqs : Opens enc Try.prog W (Rep.slice Rep.req) 27 :=
  opens_slice Try.underlying27 (by kernel_rfl) (by decide) (by rw [show Try.prog.bytesOf 61 = 32 by kernel_rfl]; decide) open_req
theorem open_ct : Opens enc Try.prog W Rep.ct 26 := by
  intro fuel cs x h hw
  obtain ⟨xs, n, rfl, rfl, hl, hxl, hf⟩ := DataW.trod_struct Try.underlying26 h
  rw [show Try.prog.cellsOf 26 = 3 by kernel_rfl] at hl
  obtain ⟨c0, c1, c2, rfl⟩ := li3 cs hl
  obtain ⟨x0, x1, x2, rfl⟩ := li3 xs hxl
  have f0 : DataW.trod enc Try.prog W 0 (fun _ => true) true n 3 (([c0, c1, c2].drop 0).take (Try.prog.cellsOf 3)) = some x0 := hf 0 _ rfl
  rw [show Try.prog.cellsOf 3 = 1 by kernel_rfl] at f0
  replace f0 : DataW.trod enc Try.prog W 0 (fun _ => true) true n 3 [c0] = some x0 := f0
  have f1 : DataW.trod enc Try.prog W 0 (fun _ => true) true n 9 (([c0, c1, c2].drop 1).take (Try.prog.cellsOf 9)) = some x1 := hf 1 _ rfl
  rw [show Try.prog.cellsOf 9 = 1 by kernel_rfl] at f1
  replace f1 : DataW.trod enc Try.prog W 0 (fun _ => true) true n 9 [c1] = some x1 := f1
  have f2 : DataW.trod enc Try.prog W 0 (fun _ => true) true n 24 (([c0, c1, c2].drop 2).take (Try.prog.cellsOf 24)) = some x2 := hf 2 _ rfl
  rw [show Try.prog.cellsOf 24 = 1 by kernel_rfl] at f2
  replace f2 : DataW.trod enc Try.prog W 0 (fun _ => true) true n 24 [c2] = some x2 := f2
  have hw' : ∀ k, k ∈ x0.1.weights Try.prog 3 ++ (x1.1.weights Try.prog 9 ++ (x2.1.weights Try.prog 24 ++ ([]))) → k ≤ reachBytes := by
    intro k hk
    refine hw k ?_
    simp only [DataW.weights, Try.underlying26, List.map_cons, List.map_nil, DataW.weightsEach]
    exact hk
  simp only [List.mem_append] at hw'
  obtain ⟨y0, h0⟩ := opens_int Try.underlying3 n _ _ f0 (fun k hk => hw' k (.inl hk))
  obtain ⟨y1, h1⟩ := opens_str Try.underlying9 n _ _ f1 (fun k hk => hw' k (.inr (.inl hk)))
  obtain ⟨y2, h2⟩ := open_sgs n _ _ f2 (fun k hk => hw' k (.inr (.inr (.inl hk))))
  obtain ⟨e0, b0⟩ := h0
  obtain ⟨e1, b1⟩ := h1
  obtain ⟨v, e2, b2⟩ := h2
  simp only [List.cons.injEq, and_true] at e0 e1 e2
  subst e0 e1 e2
  exact ⟨⟨y0, y1, y2⟩, _, rfl, b0, b1, b2⟩
theorem open_bk : Opens enc Try.prog W Rep.bk 29 := by
  intro fuel cs x h hw
  obtain ⟨xs, n, rfl, rfl, hl, hxl, hf⟩ := DataW.trod_struct Try.underlying29 h
  rw [show Try.prog.cellsOf 29 = 6 by kernel_rfl] at hl
  obtain ⟨c0, c1, c2, c3, c4, c5, rfl⟩ := li6 cs hl
  obtain ⟨x0, x1, x2, x3, rfl⟩ := li4 xs hxl
  have f0 : DataW.trod enc Try.prog W 0 (fun _ => true) true n 3 (([c0, c1, c2, c3, c4, c5].drop 0).take (Try.prog.cellsOf 3)) = some x0 := hf 0 _ rfl
  rw [show Try.prog.cellsOf 3 = 1 by kernel_rfl] at f0
  replace f0 : DataW.trod enc Try.prog W 0 (fun _ => true) true n 3 [c0] = some x0 := f0
  have f1 : DataW.trod enc Try.prog W 0 (fun _ => true) true n 3 (([c0, c1, c2, c3, c4, c5].drop 1).take (Try.prog.cellsOf 3)) = some x1 := hf 1 _ rfl
  rw [show Try.prog.cellsOf 3 = 1 by kernel_rfl] at f1
  replace f1 : DataW.trod enc Try.prog W 0 (fun _ => true) true n 3 [c1] = some x1 := f1
  have f2 : DataW.trod enc Try.prog W 0 (fun _ => true) true n 26 (([c0, c1, c2, c3, c4, c5].drop 2).take (Try.prog.cellsOf 26)) = some x2 := hf 2 _ rfl
  rw [show Try.prog.cellsOf 26 = 3 by kernel_rfl] at f2
  replace f2 : DataW.trod enc Try.prog W 0 (fun _ => true) true n 26 [c2, c3, c4] = some x2 := f2
  have f3 : DataW.trod enc Try.prog W 0 (fun _ => true) true n 27 (([c0, c1, c2, c3, c4, c5].drop 5).take (Try.prog.cellsOf 27)) = some x3 := hf 3 _ rfl
  rw [show Try.prog.cellsOf 27 = 1 by kernel_rfl] at f3
  replace f3 : DataW.trod enc Try.prog W 0 (fun _ => true) true n 27 [c5] = some x3 := f3
  have hw' : ∀ k, k ∈ x0.1.weights Try.prog 3 ++ (x1.1.weights Try.prog 3 ++ (x2.1.weights Try.prog 26 ++ (x3.1.weights Try.prog 27 ++ ([])))) → k ≤ reachBytes := by
    intro k hk
    refine hw k ?_
    simp only [DataW.weights, Try.underlying29, List.map_cons, List.map_nil, DataW.weightsEach]
    exact hk
  simp only [List.mem_append] at hw'
  obtain ⟨y0, h0⟩ := opens_int Try.underlying3 n _ _ f0 (fun k hk => hw' k (.inl hk))
  obtain ⟨y1, h1⟩ := opens_int Try.underlying3 n _ _ f1 (fun k hk => hw' k (.inr (.inl hk)))
  obtain ⟨y2, h2⟩ := open_ct n _ _ f2 (fun k hk => hw' k (.inr (.inr (.inl hk))))
  obtain ⟨y3, h3⟩ := open_reqs n _ _ f3 (fun k hk => hw' k (.inr (.inr (.inr (.inl hk)))))
  obtain ⟨e0, b0⟩ := h0
  obtain ⟨e1, b1⟩ := h1
  obtain ⟨v, e2, b2, b3, b4⟩ := h2
  obtain ⟨u, e3, b5⟩ := h3
  simp only [List.cons.injEq, and_true] at e0 e1 e2 e3
  obtain ⟨e2, e4, e5⟩ := e2
  subst e0 e1 e2 e3 e4 e5
  exact ⟨⟨y0, y1, y2, y3⟩, _, _, rfl, b0, b1, b2, b3, b4, b5⟩
end
end Go.Proofs.Ytdhhibppcckbkaa
namespace Go.Proofs.Ytdhhibppcckbkaa
open Go.RowKit Go.ChangeShapes Go.WideShapes Go.ChangeAt
set_option linter.unusedVariables false
set_option linter.unusedSimpArgs false
def Rep.st : Rep Stt where
  sz := 2
  R := fun _ _ x cs => cs = [.int .i64 x.v, .int .i64 x.l] ∧ I64 x.v ∧ I64 x.l
  len := by rintro _ _ _ _ ⟨rfl, _⟩; rfl
  keep := fun h _ => h
  mono := fun h _ => h
section
variable {H : Type} {enc : TypeId × Value → H} {W : World}
theorem open_st : Opens enc Try.prog W Rep.st 23 := by
  intro fuel cs x h hw
  obtain ⟨xs, n, rfl, rfl, hl, hxl, hf⟩ := DataW.trod_struct Try.underlying23 h
  rw [show Try.prog.cellsOf 23 = 2 by kernel_rfl] at hl
  obtain ⟨c0, c1, rfl⟩ := li2 cs hl
  obtain ⟨x0, x1, rfl⟩ := li2 xs hxl
  have f0 : DataW.trod enc Try.prog W 0 (fun _ => true) true n 3 (([c0, c1].drop 0).take (Try.prog.cellsOf 3)) = some x0 := hf 0 _ rfl
  rw [show Try.prog.cellsOf 3 = 1 by kernel_rfl] at f0
  replace f0 : DataW.trod enc Try.prog W 0 (fun _ => true) true n 3 [c0] = some x0 := f0
  have f1 : DataW.trod enc Try.prog W 0 (fun _ => true) true n 3 (([c0, c1].drop 1).take (Try.prog.cellsOf 3)) = some x1 := hf 1 _ rfl
  rw [show Try.prog.cellsOf 3 = 1 by kernel_rfl] at f1
  replace f1 : DataW.trod enc Try.prog W 0 (fun _ => true) true n 3 [c1] = some x1 := f1
  have hw' : ∀ k, k ∈ x0.1.weights Try.prog 3 ++ (x1.1.weights Try.prog 3 ++ ([])) → k ≤ reachBytes := by
    intro k hk
    refine hw k ?_
    simp only [DataW.weights, Try.underlying23, List.map_cons, List.map_nil, DataW.weightsEach]
    exact hk
  simp only [List.mem_append] at hw'
  obtain ⟨y0, h0⟩ := opens_int Try.underlying3 n _ _ f0 (fun k hk => hw' k (.inl hk))
  obtain ⟨y1, h1⟩ := opens_int Try.underlying3 n _ _ f1 (fun k hk => hw' k (.inr (.inl hk)))
  obtain ⟨e0, b0⟩ := h0
  obtain ⟨e1, b1⟩ := h1
  simp only [List.cons.injEq, and_true] at e0 e1
  subst e0 e1
  exact ⟨⟨y0, y1⟩, rfl, b0, b1⟩
end
end Go.Proofs.Ytdhhibppcckbkaa
namespace Go.Proofs.Ytdhhibppcckbkaa
open Go.RowKit Go.ChangeShapes Go.WideShapes Go.ChangeAt
set_option linter.unusedVariables false
set_option linter.unusedSimpArgs false
theorem li7 {α : Type} (l : List α) (h : l.length = 7) : ∃ a b c d e f g, l = [a, b, c, d, e, f, g] := by
  match l, h with
  | [a, b, c, d, e, f, g], _ => exact ⟨a, b, c, d, e, f, g, rfl⟩
section
variable {H : Type} {enc : TypeId × Value → H} {W : World}
def Rep.bool : Rep Bool where
  sz := 1
  R := fun _ _ n cs => cs = [.bool n]
  len := by rintro _ _ _ _ rfl; rfl
  keep := fun h _ => h
  mono := fun h _ => h
theorem opens_bool {t : TypeId} (ht : Try.prog.underlying t = some .bool) : Opens enc Try.prog W Rep.bool t := by
  intro fuel cs x h _
  obtain ⟨b, rfl, rfl⟩ := DataW.trod_bool ht h
  exact ⟨b, rfl⟩
theorem open_bks : Opens enc Try.prog W (Rep.slice Rep.bk) 37 :=
  opens_slice Try.underlying37 (by kernel_rfl) (by decide) (by rw [show Try.prog.bytesOf 29 = 88 by kernel_rfl]; decide) open_bk
theorem open_op10 : Opens enc Try.prog W Rep.op10 55 := by
  intro fuel cs x h hw
  obtain ⟨xs, n, rfl, rfl, hl, hxl, hf⟩ := DataW.trod_struct Try.underlying55 h
  rw [show Try.prog.cellsOf 55 = 7 by kernel_rfl] at hl
  obtain ⟨c0, c1, c2, c3, c4, c5, c6, rfl⟩ := li7 cs hl
  obtain ⟨x0, x1, x2, x3, x4, x5, rfl⟩ := li6 xs hxl
  have f0 : DataW.trod enc Try.prog W 0 (fun _ => true) true n 23 (([c0, c1, c2, c3, c4, c5, c6].drop 0).take (Try.prog.cellsOf 23)) = some x0 := hf 0 _ rfl
  rw [show Try.prog.cellsOf 23 = 2 by kernel_rfl] at f0
  replace f0 : DataW.trod enc Try.prog W 0 (fun _ => true) true n 23 [c0, c1] = some x0 := f0
  have f1 : DataW.trod enc Try.prog W 0 (fun _ => true) true n 37 (([c0, c1, c2, c3, c4, c5, c6].drop 2).take (Try.prog.cellsOf 37)) = some x1 := hf 1 _ rfl
  rw [show Try.prog.cellsOf 37 = 1 by kernel_rfl] at f1
  replace f1 : DataW.trod enc Try.prog W 0 (fun _ => true) true n 37 [c2] = some x1 := f1
  have f2 : DataW.trod enc Try.prog W 0 (fun _ => true) true n 4 (([c0, c1, c2, c3, c4, c5, c6].drop 3).take (Try.prog.cellsOf 4)) = some x2 := hf 2 _ rfl
  rw [show Try.prog.cellsOf 4 = 1 by kernel_rfl] at f2
  replace f2 : DataW.trod enc Try.prog W 0 (fun _ => true) true n 4 [c3] = some x2 := f2
  have f3 : DataW.trod enc Try.prog W 0 (fun _ => true) true n 3 (([c0, c1, c2, c3, c4, c5, c6].drop 4).take (Try.prog.cellsOf 3)) = some x3 := hf 3 _ rfl
  rw [show Try.prog.cellsOf 3 = 1 by kernel_rfl] at f3
  replace f3 : DataW.trod enc Try.prog W 0 (fun _ => true) true n 3 [c4] = some x3 := f3
  have f4 : DataW.trod enc Try.prog W 0 (fun _ => true) true n 4 (([c0, c1, c2, c3, c4, c5, c6].drop 5).take (Try.prog.cellsOf 4)) = some x4 := hf 4 _ rfl
  rw [show Try.prog.cellsOf 4 = 1 by kernel_rfl] at f4
  replace f4 : DataW.trod enc Try.prog W 0 (fun _ => true) true n 4 [c5] = some x4 := f4
  have f5 : DataW.trod enc Try.prog W 0 (fun _ => true) true n 3 (([c0, c1, c2, c3, c4, c5, c6].drop 6).take (Try.prog.cellsOf 3)) = some x5 := hf 5 _ rfl
  rw [show Try.prog.cellsOf 3 = 1 by kernel_rfl] at f5
  replace f5 : DataW.trod enc Try.prog W 0 (fun _ => true) true n 3 [c6] = some x5 := f5
  have hw' : ∀ k, k ∈ x0.1.weights Try.prog 23 ++ (x1.1.weights Try.prog 37 ++ (x2.1.weights Try.prog 4 ++ (x3.1.weights Try.prog 3 ++ (x4.1.weights Try.prog 4 ++ (x5.1.weights Try.prog 3 ++ ([])))))) → k ≤ reachBytes := by
    intro k hk
    refine hw k ?_
    simp only [DataW.weights, Try.underlying55, List.map_cons, List.map_nil, DataW.weightsEach]
    exact hk
  simp only [List.mem_append] at hw'
  obtain ⟨y0, h0⟩ := open_st n _ _ f0 (fun k hk => hw' k (.inl hk))
  obtain ⟨y1, h1⟩ := open_bks n _ _ f1 (fun k hk => hw' k (.inr (.inl hk)))
  obtain ⟨y2, h2⟩ := opens_bool Try.underlying4 n _ _ f2 (fun k hk => hw' k (.inr (.inr (.inl hk))))
  obtain ⟨y3, h3⟩ := opens_int Try.underlying3 n _ _ f3 (fun k hk => hw' k (.inr (.inr (.inr (.inl hk)))))
  obtain ⟨y4, h4⟩ := opens_bool Try.underlying4 n _ _ f4 (fun k hk => hw' k (.inr (.inr (.inr (.inr (.inl hk))))))
  obtain ⟨y5, h5⟩ := opens_int Try.underlying3 n _ _ f5 (fun k hk => hw' k (.inr (.inr (.inr (.inr (.inr (.inl hk)))))))
  obtain ⟨e0, b0, b0'⟩ := h0
  obtain ⟨v1, e1, b1⟩ := h1
  have e2 := h2
  obtain ⟨e3, b3⟩ := h3
  have e4 := h4
  obtain ⟨e5, b5⟩ := h5
  simp only [Rep.bool] at e2 e4
  simp only [List.cons.injEq, and_true] at e0 e1 e2 e3 e4 e5
  obtain ⟨e0, e0'⟩ := e0
  subst e0 e0' e1 e2 e3 e4 e5
  exact ⟨⟨y0, y1, y2, y3, y4, y5⟩, _, rfl, b0, b0', b3, b5, b1⟩
theorem open_op10s : Opens enc Try.prog W (Rep.slice Rep.op10) 50 :=
  opens_slice Try.underlying50 (by kernel_rfl) (by decide) (by rw [show Try.prog.bytesOf 55 = 72 by kernel_rfl]; decide) open_op10
end
end Go.Proofs.Ytdhhibppcckbkaa
namespace Go.Proofs.Ytdhhibppcckbkaa.storeCrashes
open Go.ChangeShapes Go.WideShapes Go.ChangeAt Go.RowKit
open Go.ChangeMaps (open_string shut_string)
set_option linter.unusedVariables false
set_option linter.unusedSimpArgs false
theorem own : ownKnob Try.prog.godebug = none := by kernel_rfl
theorem laidOut : laidOutB Try.prog = true := by kernel_rfl
set_option maxRecDepth 100000 in
theorem lifted (os : Os) (started : os.Started) (H : Type) (enc : TypeId × Value → H) :
    ReturnsInHanded {} Try.checked os 7 .any (Rows.storeCrashesSpec.pre6 enc Try.prog Try.f7 Rows.storeCrashesRow.domain false) (Rows.storeCrashesSpec.post enc Try.prog Try.f7 false true false false) := by
  refine returnsInHanded_of_change_sized (C := Try.checked) own started (by kernel_rfl) Try.func7
    (ChangeSpec.witness6 (enc := enc) (C := Try.checked) false ⟨#[], #[.slice none 0 0], []⟩ 8 (by kernel_rfl) (by kernel_rfl) (by kernel_rfl) (by kernel_rfl)) ?_
  intro W base args ds gs before hval0 hW hcnd hsz0 _
  have hsz : (DataW.weightsEach Try.prog (Try.f7.params.toList ++ Rows.storeCrashesSpec.plain.varTypes Try.prog) (ds ++ gs)).all (· ≤ reachBytes) = true := hsz0
  have hval : ∀ (j : Nat) t v, Try.f7.params[j]? = some t → args[j]? = some v → Value.okWide Try.prog W .any base t v := hval0
  have hW' := hW
  obtain ⟨p, q, hA0, hV, rfl, hfz, hnd⟩ := hW
  have hA : DataW.TrodAll enc Try.prog W 0 (fun _ => true) true Try.f7.params.toList args.toList ds p := hA0
  rw [Try.params7] at hA hval hsz
  obtain ⟨v0, vs0, d0, ds0, p0, q0, hargs, rfl, rfl, h0, r0⟩ := trodAll_cons hA
  obtain ⟨rfl, rfl, rfl⟩ := trodAll_nil r0
  obtain rfl : args = #[v0] := by cases args; simp_all
  obtain ⟨rfl, rfl⟩ := trodVars_none hV
  have k0 := h0
  have lt0 : ∀ x ∈ p0, x.block < W.heap.size := by obtain ⟨m, hm⟩ := k0; exact DataW.trod_lt m _ _ _ hm
  obtain ⟨a0, len0, cap0, rfl⟩ := okWide_slice Try.underlying50 (hval 0 50 v0 rfl rfl)
  obtain ⟨fuel0, hf0⟩ := id h0
  obtain ⟨y0, hr0⟩ := open_op10s fuel0 _ _ hf0 (fun n hn => of_decide_eq_true (List.all_eq_true.1 hsz n (DataW.weights_mem_each (j := 0) (t := 50) rfl rfl n hn)))
  clear hA0 hval0 hsz0
  obtain ⟨s0, z0, t0⟩ := hr0
  obtain rfl : Value.slice a0 len0 cap0 = s0 := by simpa [Value.cells] using z0
  obtain ⟨A0, m0, x0, l0⟩ := t0.form
  cases x0
  refine (storeCrashes_call a0 y0 cap0 (Inn W) W t0 (fun _ h => h)).mono fun e W' ⟨he, kept⟩ => ?_
  subst he
  have bel := kept.below
  exact ⟨_, rfl, _, _, _, [], _, [], hW', trodAll_mk1 (shut_bool Try.underlying4 _), (trodAll_cons_mk (Below.trod laidOut (by kernel_rfl) (of_decide_eq_true (by kernel_rfl)) k0 bel lt0) trodAll_mk0), rfl, bel.frame _, fun h => by cases h⟩
theorem over : Rows.storeCrashesRow.holds Try.pinned (OpenSpec.ofChange Rows.storeCrashesSpec) :=
  OpenClaim.holds_of_wide 7 Try.f7 rfl rfl rfl rfl rfl rfl rfl ⟨rfl, rfl, rfl, rfl, rfl⟩ rfl rfl rfl rfl rfl (by kernel_rfl) Try.func7 (by kernel_rfl)
    (of_decide_eq_true (by kernel_rfl)) (by unfold Func.isWrapper; first | (rw [if_pos (by decide +kernel)]; kernel_rfl) | (rw [if_neg (by decide +kernel)]; exact ⟨rfl, rfl⟩))
    (fun os started H enc _ => lifted os started H enc)
end Go.Proofs.Ytdhhibppcckbkaa.storeCrashes
namespace Go.Proofs.Ytdhhibppcckbkaa
theorem storeCrashes_holds : Rows.StoreCrashesSaid := storeCrashes.over
#print axioms storeCrashes_holds
end Go.Proofs.Ytdhhibppcckbkaa
