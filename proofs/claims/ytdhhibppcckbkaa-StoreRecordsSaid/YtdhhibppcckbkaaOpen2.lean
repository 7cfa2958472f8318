import Derived.Test.YtdhhibppcckbkaaOpen
namespace Go.Proofs.Ytdhhibppcckbkaa
open Go.RowKit Go.ChangeShapes Go.WideShapes Go.ChangeAt
set_option linter.unusedVariables false
set_option linter.unusedSimpArgs false
section
variable {H : Type} {enc : TypeId × Value → H} {W : World}
theorem li2 {α : Type} (l : List α) (h : l.length = 2) : ∃ a b, l = [a, b] := by
  match l, h with
  | [a, b], _ => exact ⟨a, b, rfl⟩
theorem li3 {α : Type} (l : List α) (h : l.length = 3) : ∃ a b c, l = [a, b, c] := by
  match l, h with
  | [a, b, c], _ => exact ⟨a, b, c, rfl⟩
theorem li4 {α : Type} (l : List α) (h : l.length = 4) : ∃ a b c d, l = [a, b, c, d] := by
  match l, h with
  | [a, b, c, d], _ => exact ⟨a, b, c, d, rfl⟩
theorem li6 {α : Type} (l : List α) (h : l.length = 6) : ∃ a b c d e f, l = [a, b, c, d, e, f] := by
  match l, h with
  | [a, b, c, d, e, f], _ => exact ⟨a, b, c, d, e, f, rfl⟩
theorem open_req : Opens enc Try.prog W Rep.req 61 := by
  intro fuel cs x h hw
  obtain ⟨xs, n, rfl, rfl, hl, hxl, hf⟩ := DataW.trod_struct Try.underlying61 h
  rw [show Try.prog.cellsOf 61 = 3 by kernel_rfl] at hl
  obtain ⟨c0, c1, c2, rfl⟩ := li3 cs hl
  obtain ⟨x0, x1, x2, rfl⟩ := li3 xs hxl
  have f0 : DataW.trod enc Try.prog W 0 (fun _ => true) true n 3 (([c0, c1, c2].drop 0).take (Try.prog.cellsOf 3)) = some x0 := hf 0 _ rfl
  rw [show Try.prog.cellsOf 3 = 1 by kernel_rfl] at f0
  replace f0 : DataW.trod enc Try.prog W 0 (fun _ => true) true n 3 [c0] = some x0 := f0
  have f1 : DataW.trod enc Try.prog W 0 (fun _ => true) true n 3 (([c0, c1, c2].drop 1).take (Try.prog.cellsOf 3)) = some x1 := hf 1 _ rfl
  rw [show Try.prog.cellsOf 3 = 1 by kernel_rfl] at f1
  replace f1 : DataW.trod enc Try.prog W 0 (fun _ => true) true n 3 [c1] = some x1 := f1
  have f2 : DataW.trod enc Try.prog W 0 (fun _ => true) true n 9 (([c0, c1, c2].drop 2).take (Try.prog.cellsOf 9)) = some x2 := hf 2 _ rfl
  rw [show Try.prog.cellsOf 9 = 1 by kernel_rfl] at f2
  replace f2 : DataW.trod enc Try.prog W 0 (fun _ => true) true n 9 [c2] = some x2 := f2
  have hw' : ∀ k, k ∈ x0.1.weights Try.prog 3 ++ (x1.1.weights Try.prog 3 ++ (x2.1.weights Try.prog 9 ++ ([]))) → k ≤ reachBytes := by
    intro k hk
    refine hw k ?_
    simp only [DataW.weights, Try.underlying61, List.map_cons, List.map_nil, DataW.weightsEach]
    exact hk
  simp only [List.mem_append] at hw'
  obtain ⟨y0, h0⟩ := opens_int Try.underlying3 n _ _ f0 (fun k hk => hw' k (.inl hk))
  obtain ⟨y1, h1⟩ := opens_int Try.underlying3 n _ _ f1 (fun k hk => hw' k (.inr (.inl hk)))
  obtain ⟨y2, h2⟩ := opens_str Try.underlying9 n _ _ f2 (fun k hk => hw' k (.inr (.inr (.inl hk))))
  obtain ⟨e0, b0⟩ := h0
  obtain ⟨e1, b1⟩ := h1
  obtain ⟨e2, b2⟩ := h2
  simp only [List.cons.injEq, and_true] at e0 e1 e2
  subst e0 e1 e2
  exact ⟨⟨y0, y1, y2⟩, rfl, b0, b1, b2⟩
theorem open_strs : Opens enc Try.prog W (Rep.slice Rep.str) 35 :=
  opens_slice Try.underlying35 (by kernel_rfl) (by decide) (by rw [show Try.prog.bytesOf 9 = 16 by kernel_rfl]; decide) (opens_str Try.underlying9)
theorem open_sg : Opens enc Try.prog W Rep.sg 84 := by
  intro fuel cs x h hw
  obtain ⟨xs, n, rfl, rfl, hl, hxl, hf⟩ := DataW.trod_struct Try.underlying84 h
  rw [show Try.prog.cellsOf 84 = 2 by kernel_rfl] at hl
  obtain ⟨c0, c1, rfl⟩ := li2 cs hl
  obtain ⟨x0, x1, rfl⟩ := li2 xs hxl
  have f0 : DataW.trod enc Try.prog W 0 (fun _ => true) true n 3 (([c0, c1].drop 0).take (Try.prog.cellsOf 3)) = some x0 := hf 0 _ rfl
  rw [show Try.prog.cellsOf 3 = 1 by kernel_rfl] at f0
  replace f0 : DataW.trod enc Try.prog W 0 (fun _ => true) true n 3 [c0] = some x0 := f0
  have f1 : DataW.trod enc Try.prog W 0 (fun _ => true) true n 35 (([c0, c1].drop 1).take (Try.prog.cellsOf 35)) = some x1 := hf 1 _ rfl
  rw [show Try.prog.cellsOf 35 = 1 by kernel_rfl] at f1
  replace f1 : DataW.trod enc Try.prog W 0 (fun _ => true) true n 35 [c1] = some x1 := f1
  have hw' : ∀ k, k ∈ x0.1.weights Try.prog 3 ++ (x1.1.weights Try.prog 35 ++ ([])) → k ≤ reachBytes := by
    intro k hk
    refine hw k ?_
    simp only [DataW.weights, Try.underlying84, List.map_cons, List.map_nil, DataW.weightsEach]
    exact hk
  simp only [List.mem_append] at hw'
  obtain ⟨y0, h0⟩ := opens_int Try.underlying3 n _ _ f0 (fun k hk => hw' k (.inl hk))
  obtain ⟨y1, h1⟩ := open_strs n _ _ f1 (fun k hk => hw' k (.inr (.inl hk)))
  obtain ⟨e0, b0⟩ := h0
  obtain ⟨v, e1, b1⟩ := h1
  simp only [List.cons.injEq, and_true] at e0 e1
  subst e0 e1
  exact ⟨⟨y0, y1⟩, _, rfl, b0, b1⟩
theorem open_sgs : Opens enc Try.prog W (Rep.slice Rep.sg) 24 :=
  opens_slice Try.underlying24 (by kernel_rfl) (by decide) (by rw [show Try.prog.bytesOf 84 = 32 by kernel_rfl]; decide) open_sg
theorem open_reqs : Opens enc Try.prog W (Rep.slice Rep.req) 27 :=
  opens_slice Try.underlying27 (by kernel_rfl) (by decide) (by rw [show Try.prog.bytesOf 61 = 32 by kernel_rfl]; decide) open_req
theorem open_ct : Opens enc Try.prog W Rep.ct 26 := by
  intro fuel cs x h hw
  obtain ⟨xs, n, rfl, rfl, hl, hxl, hf⟩ := DataW.trod_struct Try.underlying26 h
  rw [show Try.prog.cellsOf 26 = 3 by kernel_rfl] at hl
  obtain ⟨c0, c1, c2, rfl⟩ := li3 cs hl
  obtain ⟨x0, x1, x2, rfl⟩ := li3 xs hxl
  have f0 : DataW.trod enc Try.prog W 0 (fun _ => true) true n 3 (([c0, c1, c2].drop 0).take (Try.prog.cellsOf 3)) = some x0 := hf 0 _ rfl
  rw [show Try.prog.cellsOf 3 = 1 by kernel_rfl] at f0
  replace f0 : DataW.trod enc Try.prog W 0 (fun _ => true) true n 3 [c0] = some x0 := f0
  have f1 : DataW.trod enc Try.prog W 0 (fun _ => true) true n 9 (([c0, c1, c2].drop 1).take (Try.prog.cellsOf 9)) = some x1 := hf 1 _ rfl
  rw [show Try.prog.cellsOf 9 = 1 by kernel_rfl] at f1
  replace f1 : DataW.trod enc Try.prog W 0 (fun _ => true) true n 9 [c1] = some x1 := f1
  have f2 : DataW.trod enc Try.prog W 0 (fun _ => true) true n 24 (([c0, c1, c2].drop 2).take (Try.prog.cellsOf 24)) = some x2 := hf 2 _ rfl
  rw [show Try.prog.cellsOf 24 = 1 by kernel_rfl] at f2
  replace f2 : DataW.trod enc Try.prog W 0 (fun _ => true) true n 24 [c2] = some x2 := f2
  have hw' : ∀ k, k ∈ x0.1.weights Try.prog 3 ++ (x1.1.weights Try.prog 9 ++ (x2.1.weights Try.prog 24 ++ ([]))) → k ≤ reachBytes := by
    intro k hk
    refine hw k ?_
    simp only [DataW.weights, Try.underlying26, List.map_cons, List.map_nil, DataW.weightsEach]
    exact hk
  simp only [List.mem_append] at hw'
  obtain ⟨y0, h0⟩ := opens_int Try.underlying3 n _ _ f0 (fun k hk => hw' k (.inl hk))
  obtain ⟨y1, h1⟩ := opens_str Try.underlying9 n _ _ f1 (fun k hk => hw' k (.inr (.inl hk)))
  obtain ⟨y2, h2⟩ := open_sgs n _ _ f2 (fun k hk => hw' k (.inr (.inr (.inl hk))))
  obtain ⟨e0, b0⟩ := h0
  obtain ⟨e1, b1⟩ := h1
  obtain ⟨v, e2, b2⟩ := h2
  simp only [List.cons.injEq, and_true] at e0 e1 e2
  subst e0 e1 e2
  exact ⟨⟨y0, y1, y2⟩, _, rfl, b0, b1, b2⟩
theorem open_bk : Opens enc Try.prog W Rep.bk 29 := by
  intro fuel cs x h hw
  obtain ⟨xs, n, rfl, rfl, hl, hxl, hf⟩ := DataW.trod_struct Try.underlying29 h
  rw [show Try.prog.cellsOf 29 = 6 by kernel_rfl] at hl
  obtain ⟨c0, c1, c2, c3, c4, c5, rfl⟩ := li6 cs hl
  obtain ⟨x0, x1, x2, x3, rfl⟩ := li4 xs hxl
  have f0 : DataW.trod enc Try.prog W 0 (fun _ => true) true n 3 (([c0, c1, c2, c3, c4, c5].drop 0).take (Try.prog.cellsOf 3)) = some x0 := hf 0 _ rfl
  rw [show Try.prog.cellsOf 3 = 1 by kernel_rfl] at f0
  replace f0 : DataW.trod enc Try.prog W 0 (fun _ => true) true n 3 [c0] = some x0 := f0
  have f1 : DataW.trod enc Try.prog W 0 (fun _ => true) true n 3 (([c0, c1, c2, c3, c4, c5].drop 1).take (Try.prog.cellsOf 3)) = some x1 := hf 1 _ rfl
  rw [show Try.prog.cellsOf 3 = 1 by kernel_rfl] at f1
  replace f1 : DataW.trod enc Try.prog W 0 (fun _ => true) true n 3 [c1] = some x1 := f1
  have f2 : DataW.trod enc Try.prog W 0 (fun _ => true) true n 26 (([c0, c1, c2, c3, c4, c5].drop 2).take (Try.prog.cellsOf 26)) = some x2 := hf 2 _ rfl
  rw [show Try.prog.cellsOf 26 = 3 by kernel_rfl] at f2
  replace f2 : DataW.trod enc Try.prog W 0 (fun _ => true) true n 26 [c2, c3, c4] = some x2 := f2
  have f3 : DataW.trod enc Try.prog W 0 (fun _ => true) true n 27 (([c0, c1, c2, c3, c4, c5].drop 5).take (Try.prog.cellsOf 27)) = some x3 := hf 3 _ rfl
  rw [show Try.prog.cellsOf 27 = 1 by kernel_rfl] at f3
  replace f3 : DataW.trod enc Try.prog W 0 (fun _ => true) true n 27 [c5] = some x3 := f3
  have hw' : ∀ k, k ∈ x0.1.weights Try.prog 3 ++ (x1.1.weights Try.prog 3 ++ (x2.1.weights Try.prog 26 ++ (x3.1.weights Try.prog 27 ++ ([])))) → k ≤ reachBytes := by
    intro k hk
    refine hw k ?_
    simp only [DataW.weights, Try.underlying29, List.map_cons, List.map_nil, DataW.weightsEach]
    exact hk
  simp only [List.mem_append] at hw'
  obtain ⟨y0, h0⟩ := opens_int Try.underlying3 n _ _ f0 (fun k hk => hw' k (.inl hk))
  obtain ⟨y1, h1⟩ := opens_int Try.underlying3 n _ _ f1 (fun k hk => hw' k (.inr (.inl hk)))
  obtain ⟨y2, h2⟩ := open_ct n _ _ f2 (fun k hk => hw' k (.inr (.inr (.inl hk))))
  obtain ⟨y3, h3⟩ := open_reqs n _ _ f3 (fun k hk => hw' k (.inr (.inr (.inr (.inl hk)))))
  obtain ⟨e0, b0⟩ := h0
  obtain ⟨e1, b1⟩ := h1
  obtain ⟨v, e2, b2, b3, b4⟩ := h2
  obtain ⟨u, e3, b5⟩ := h3
  simp only [List.cons.injEq, and_true] at e0 e1 e2 e3
  obtain ⟨e2, e4, e5⟩ := e2
  subst e0 e1 e2 e3 e4 e5
  exact ⟨⟨y0, y1, y2, y3⟩, _, _, rfl, b0, b1, b2, b3, b4, b5⟩
end
end Go.Proofs.Ytdhhibppcckbkaa
