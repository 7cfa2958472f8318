import Derived.Test.YthkbgokkghidbaaOpen
import Derived.Test.YthkbgokkghidbaaLawSafe2
namespace Go.Proofs.Ythkbgokkghidbaa
open Go.RowKit Go.ChangeShapes Go.WideShapes Go.ChangeAt
set_option linter.unusedVariables false
set_option linter.unusedSimpArgs false
section
variable {H : Type} {enc : TypeId × Value → H} {W : World}
theorem li3 {α : Type} (l : List α) (h : l.length = 3) : ∃ a b c, l = [a, b, c] := by
  match l, h with
  | [a, b, c], _ => exact ⟨a, b, c, rfl⟩
def Rep.u8 : Rep Int where
  sz := 1
  R := fun _ _ n cs => cs = [.int .u8 n] ∧ 0 ≤ n ∧ n ≤ 255
  len := by rintro _ _ _ _ ⟨rfl, _⟩; rfl
  keep := fun h _ => h
  mono := fun h _ => h
theorem opens_u8 {t : TypeId} (ht : Try.prog.underlying t = some (.int .u8)) : Opens enc Try.prog W Rep.u8 t := by
  intro fuel cs x h _
  obtain ⟨n, rfl, rfl, hw⟩ := DataW.trod_int ht h
  simp [Lit.wf, IntKind.min, IntKind.max, IntKind.signed, IntKind.bits] at hw
  exact ⟨n, rfl, hw.1, by omega⟩
theorem open_op : Opens enc Try.prog W Rep.op9 42 := by
  intro fuel cs x h hw
  obtain ⟨xs, n, rfl, rfl, hl, hxl, hf⟩ := DataW.trod_struct Try.underlying42 h
  rw [show Try.prog.cellsOf 42 = 3 by kernel_rfl] at hl
  obtain ⟨c0, c1, c2, rfl⟩ := li3 cs hl
  obtain ⟨x0, x1, x2, rfl⟩ := li3 xs hxl
  have f0 : DataW.trod enc Try.prog W 0 (fun _ => true) true n 5 (([c0, c1, c2].drop 0).take (Try.prog.cellsOf 5)) = some x0 := hf 0 _ rfl
  rw [show Try.prog.cellsOf 5 = 1 by kernel_rfl] at f0
  replace f0 : DataW.trod enc Try.prog W 0 (fun _ => true) true n 5 [c0] = some x0 := f0
  have f1 : DataW.trod enc Try.prog W 0 (fun _ => true) true n 9 (([c0, c1, c2].drop 1).take (Try.prog.cellsOf 9)) = some x1 := hf 1 _ rfl
  rw [show Try.prog.cellsOf 9 = 1 by kernel_rfl] at f1
  replace f1 : DataW.trod enc Try.prog W 0 (fun _ => true) true n 9 [c1] = some x1 := f1
  have f2 : DataW.trod enc Try.prog W 0 (fun _ => true) true n 3 (([c0, c1, c2].drop 2).take (Try.prog.cellsOf 3)) = some x2 := hf 2 _ rfl
  rw [show Try.prog.cellsOf 3 = 1 by kernel_rfl] at f2
  replace f2 : DataW.trod enc Try.prog W 0 (fun _ => true) true n 3 [c2] = some x2 := f2
  have hw' : ∀ k, k ∈ x0.1.weights Try.prog 5 ++ (x1.1.weights Try.prog 9 ++ (x2.1.weights Try.prog 3 ++ ([]))) → k ≤ reachBytes := by
    intro k hk
    refine hw k ?_
    simp only [DataW.weights, Try.underlying42, List.map_cons, List.map_nil, DataW.weightsEach]
    exact hk
  simp only [List.mem_append] at hw'
  obtain ⟨y0, h0⟩ := opens_u8 Try.underlying5 n _ _ f0 (fun k hk => hw' k (.inl hk))
  obtain ⟨y1, h1⟩ := opens_str Try.underlying9 n _ _ f1 (fun k hk => hw' k (.inr (.inl hk)))
  obtain ⟨y2, h2⟩ := opens_int Try.underlying3 n _ _ f2 (fun k hk => hw' k (.inr (.inr (.inl hk))))
  obtain ⟨e0, b0⟩ := h0
  obtain ⟨e1, b1⟩ := h1
  obtain ⟨e2, b2⟩ := h2
  simp only [List.cons.injEq, and_true] at e0 e1 e2
  subst e0 e1 e2
  exact ⟨⟨y0, y1, y2⟩, rfl, b0, b1, b2⟩
theorem open_ops : Opens enc Try.prog W (Rep.slice Rep.op9) 35 :=
  opens_slice Try.underlying35 (by kernel_rfl) (by decide) (by rw [show Try.prog.bytesOf 42 = 32 by kernel_rfl]; decide) open_op
end
end Go.Proofs.Ythkbgokkghidbaa
