import Derived.Test.YtbhpkknlpjdcaaaOpenM
import Derived.Test.YtbhpkknlpjdcaaaRep20
namespace Go.Proofs.Ytbhpkknlpjdcaaa
open Go.RowKit Go.ChangeShapes Go.WideShapes Go.ChangeAt
set_option linter.unusedVariables false
set_option linter.unusedSimpArgs false
theorem li24 {α : Type} (l : List α) (h : l.length = 24) : ∃ a0 a1 a2 a3 a4 a5 a6 a7 a8 a9 a10 a11 a12 a13 a14 a15 a16 a17 a18 a19 a20 a21 a22 a23, l = [a0, a1, a2, a3, a4, a5, a6, a7, a8, a9, a10, a11, a12, a13, a14, a15, a16, a17, a18, a19, a20, a21, a22, a23] := by
  match l, h with
  | [a0, a1, a2, a3, a4, a5, a6, a7, a8, a9, a10, a11, a12, a13, a14, a15, a16, a17, a18, a19, a20, a21, a22, a23], _ => exact ⟨a0, a1, a2, a3, a4, a5, a6, a7, a8, a9, a10, a11, a12, a13, a14, a15, a16, a17, a18, a19, a20, a21, a22, a23, rfl⟩
theorem liX4 {α : Type} (l : List α) (h : l.length = 4) : ∃ a0 a1 a2 a3, l = [a0, a1, a2, a3] := by
  match l, h with
  | [a0, a1, a2, a3], _ => exact ⟨a0, a1, a2, a3, rfl⟩
section
variable {H : Type} {enc : TypeId × Value → H} {W : World}
def Rep.u8 : Rep Int where
  sz := 1
  R := fun _ _ n cs => cs = [.int .u8 n] ∧ 0 ≤ n ∧ n ≤ 255
  len := by rintro _ _ _ _ ⟨rfl, _⟩; rfl
  keep := fun h _ => h
  mono := fun h _ => h
theorem opens_u8 {t : TypeId} (ht : Try.prog.underlying t = some (.int .u8)) : Opens enc Try.prog W Rep.u8 t := by
  intro fuel cs x h _
  obtain ⟨n, rfl, rfl, hw⟩ := DataW.trod_int ht h
  simp [Lit.wf, IntKind.min, IntKind.max, IntKind.signed, IntKind.bits] at hw
  exact ⟨n, rfl, hw.1, by omega⟩
theorem open_op20 : Opens enc Try.prog W Rep.op20 49 := by
  intro fuel cs x h hw
  obtain ⟨xs, n, rfl, rfl, hl, hxl, hf⟩ := DataW.trod_struct Try.underlying49 h
  rw [show Try.prog.cellsOf 49 = 24 by kernel_rfl] at hl
  obtain ⟨c0, c1, c2, c3, c4, c5, c6, c7, c8, c9, c10, c11, c12, c13, c14, c15, c16, c17, c18, c19, c20, c21, c22, c23, rfl⟩ := li24 cs hl
  obtain ⟨x0, x1, x2, x3, rfl⟩ := liX4 xs hxl
  have f0 : DataW.trod enc Try.prog W 0 (fun _ => true) true n 5 (([c0, c1, c2, c3, c4, c5, c6, c7, c8, c9, c10, c11, c12, c13, c14, c15, c16, c17, c18, c19, c20, c21, c22, c23].drop 0).take (Try.prog.cellsOf 5)) = some x0 := hf 0 _ rfl
  rw [show Try.prog.cellsOf 5 = 1 by kernel_rfl] at f0
  replace f0 : DataW.trod enc Try.prog W 0 (fun _ => true) true n 5 [c0] = some x0 := f0
  have f1 : DataW.trod enc Try.prog W 0 (fun _ => true) true n 39 (([c0, c1, c2, c3, c4, c5, c6, c7, c8, c9, c10, c11, c12, c13, c14, c15, c16, c17, c18, c19, c20, c21, c22, c23].drop 1).take (Try.prog.cellsOf 39)) = some x1 := hf 1 _ rfl
  rw [show Try.prog.cellsOf 39 = 21 by kernel_rfl] at f1
  replace f1 : DataW.trod enc Try.prog W 0 (fun _ => true) true n 39 [c1, c2, c3, c4, c5, c6, c7, c8, c9, c10, c11, c12, c13, c14, c15, c16, c17, c18, c19, c20, c21] = some x1 := f1
  have f2 : DataW.trod enc Try.prog W 0 (fun _ => true) true n 3 (([c0, c1, c2, c3, c4, c5, c6, c7, c8, c9, c10, c11, c12, c13, c14, c15, c16, c17, c18, c19, c20, c21, c22, c23].drop 22).take (Try.prog.cellsOf 3)) = some x2 := hf 2 _ rfl
  rw [show Try.prog.cellsOf 3 = 1 by kernel_rfl] at f2
  replace f2 : DataW.trod enc Try.prog W 0 (fun _ => true) true n 3 [c22] = some x2 := f2
  have f3 : DataW.trod enc Try.prog W 0 (fun _ => true) true n 9 (([c0, c1, c2, c3, c4, c5, c6, c7, c8, c9, c10, c11, c12, c13, c14, c15, c16, c17, c18, c19, c20, c21, c22, c23].drop 23).take (Try.prog.cellsOf 9)) = some x3 := hf 3 _ rfl
  rw [show Try.prog.cellsOf 9 = 1 by kernel_rfl] at f3
  replace f3 : DataW.trod enc Try.prog W 0 (fun _ => true) true n 9 [c23] = some x3 := f3
  have hw' : ∀ k, k ∈ x0.1.weights Try.prog 5 ++ (x1.1.weights Try.prog 39 ++ (x2.1.weights Try.prog 3 ++ (x3.1.weights Try.prog 9 ++ ([])))) → k ≤ reachBytes := by
    intro k hk
    refine hw k ?_
    simp only [DataW.weights, Try.underlying49, List.map_cons, List.map_nil, DataW.weightsEach]
    exact hk
  simp only [List.mem_append] at hw'
  obtain ⟨y0, h0⟩ := opens_u8 Try.underlying5 n _ _ f0 (fun k hk => hw' k (.inl hk))
  obtain ⟨y1, h1⟩ := open_ms n _ _ f1 (fun k hk => hw' k (.inr (.inl hk)))
  obtain ⟨y2, h2⟩ := opens_int Try.underlying3 n _ _ f2 (fun k hk => hw' k (.inr (.inr (.inl hk))))
  obtain ⟨y3, h3⟩ := opens_str Try.underlying9 n _ _ f3 (fun k hk => hw' k (.inr (.inr (.inr (.inl hk)))))
  obtain ⟨e0, b0, c0'⟩ := h0
  obtain ⟨v1, v2, v3, v4, e1, b1⟩ := h1
  obtain ⟨e2, b2⟩ := h2
  obtain ⟨e3, b3⟩ := h3
  simp only [msgV, List.cons.injEq, and_true] at e0 e1 e2 e3
  obtain ⟨d0, d1, d2, d3, d4, d5, d6, d7, d8, d9, d10, d11, d12, d13, d14, d15, d16, d17, d18, d19, d20⟩ := e1
  subst e0 d0 d1 d2 d3 d4 d5 d6 d7 d8 d9 d10 d11 d12 d13 d14 d15 d16 d17 d18 d19 d20 e2 e3
  exact ⟨⟨y0, y1, y2, y3⟩, _, _, _, _, rfl, ⟨b0, c0'⟩, b1, b2, b3⟩
theorem open_op20s : Opens enc Try.prog W (Rep.slice Rep.op20) 46 :=
  opens_slice Try.underlying46 (by kernel_rfl) (by decide) (by rw [show Try.prog.bytesOf 49 = 304 by kernel_rfl]; decide) open_op20
theorem open_msgs : Opens enc Try.prog W (Rep.slice Rep.ms) 22 :=
  opens_slice Try.underlying22 (by kernel_rfl) (by decide) (by rw [show Try.prog.bytesOf 39 = 272 by kernel_rfl]; decide) open_ms
end
end Go.Proofs.Ytbhpkknlpjdcaaa
