import Derived.Test.YtpndbidpennlcaaOpen2
import Derived.Test.YtpndbidpennlcaaWireM
namespace Go.Proofs.Ytpndbidpennlcaa
open Go.RowKit Go.ChangeShapes Go.WideShapes Go.ChangeAt
set_option linter.unusedVariables false
set_option linter.unusedSimpArgs false
theorem li21 {α : Type} (l : List α) (h : l.length = 21) : ∃ a0 a1 a2 a3 a4 a5 a6 a7 a8 a9 a10 a11 a12 a13 a14 a15 a16 a17 a18 a19 a20, l = [a0, a1, a2, a3, a4, a5, a6, a7, a8, a9, a10, a11, a12, a13, a14, a15, a16, a17, a18, a19, a20] := by
  match l, h with
  | [a0, a1, a2, a3, a4, a5, a6, a7, a8, a9, a10, a11, a12, a13, a14, a15, a16, a17, a18, a19, a20], _ => exact ⟨a0, a1, a2, a3, a4, a5, a6, a7, a8, a9, a10, a11, a12, a13, a14, a15, a16, a17, a18, a19, a20, rfl⟩
theorem li11 {α : Type} (l : List α) (h : l.length = 11) : ∃ a0 a1 a2 a3 a4 a5 a6 a7 a8 a9 a10, l = [a0, a1, a2, a3, a4, a5, a6, a7, a8, a9, a10] := by
  match l, h with
  | [a0, a1, a2, a3, a4, a5, a6, a7, a8, a9, a10], _ => exact ⟨a0, a1, a2, a3, a4, a5, a6, a7, a8, a9, a10, rfl⟩
section
variable {H : Type} {enc : TypeId × Value → H} {W : World}
theorem open_ms : Opens enc Try.prog W Rep.ms 38 := by
  intro fuel cs x h hw
  obtain ⟨xs, n, rfl, rfl, hl, hxl, hf⟩ := DataW.trod_struct Try.underlying38 h
  rw [show Try.prog.cellsOf 38 = 21 by kernel_rfl] at hl
  obtain ⟨c0, c1, c2, c3, c4, c5, c6, c7, c8, c9, c10, c11, c12, c13, c14, c15, c16, c17, c18, c19, c20, rfl⟩ := li21 cs hl
  obtain ⟨x0, x1, x2, x3, x4, x5, x6, x7, x8, x9, x10, rfl⟩ := li11 xs hxl
  have f0 : DataW.trod enc Try.prog W 0 (fun _ => true) true n 3 (([c0, c1, c2, c3, c4, c5, c6, c7, c8, c9, c10, c11, c12, c13, c14, c15, c16, c17, c18, c19, c20].drop 0).take (Try.prog.cellsOf 3)) = some x0 := hf 0 _ rfl
  rw [show Try.prog.cellsOf 3 = 1 by kernel_rfl] at f0
  replace f0 : DataW.trod enc Try.prog W 0 (fun _ => true) true n 3 [c0] = some x0 := f0
  have f1 : DataW.trod enc Try.prog W 0 (fun _ => true) true n 3 (([c0, c1, c2, c3, c4, c5, c6, c7, c8, c9, c10, c11, c12, c13, c14, c15, c16, c17, c18, c19, c20].drop 1).take (Try.prog.cellsOf 3)) = some x1 := hf 1 _ rfl
  rw [show Try.prog.cellsOf 3 = 1 by kernel_rfl] at f1
  replace f1 : DataW.trod enc Try.prog W 0 (fun _ => true) true n 3 [c1] = some x1 := f1
  have f2 : DataW.trod enc Try.prog W 0 (fun _ => true) true n 3 (([c0, c1, c2, c3, c4, c5, c6, c7, c8, c9, c10, c11, c12, c13, c14, c15, c16, c17, c18, c19, c20].drop 2).take (Try.prog.cellsOf 3)) = some x2 := hf 2 _ rfl
  rw [show Try.prog.cellsOf 3 = 1 by kernel_rfl] at f2
  replace f2 : DataW.trod enc Try.prog W 0 (fun _ => true) true n 3 [c2] = some x2 := f2
  have f3 : DataW.trod enc Try.prog W 0 (fun _ => true) true n 3 (([c0, c1, c2, c3, c4, c5, c6, c7, c8, c9, c10, c11, c12, c13, c14, c15, c16, c17, c18, c19, c20].drop 3).take (Try.prog.cellsOf 3)) = some x3 := hf 3 _ rfl
  rw [show Try.prog.cellsOf 3 = 1 by kernel_rfl] at f3
  replace f3 : DataW.trod enc Try.prog W 0 (fun _ => true) true n 3 [c3] = some x3 := f3
  have f4 : DataW.trod enc Try.prog W 0 (fun _ => true) true n 9 (([c0, c1, c2, c3, c4, c5, c6, c7, c8, c9, c10, c11, c12, c13, c14, c15, c16, c17, c18, c19, c20].drop 4).take (Try.prog.cellsOf 9)) = some x4 := hf 4 _ rfl
  rw [show Try.prog.cellsOf 9 = 1 by kernel_rfl] at f4
  replace f4 : DataW.trod enc Try.prog W 0 (fun _ => true) true n 9 [c4] = some x4 := f4
  have f5 : DataW.trod enc Try.prog W 0 (fun _ => true) true n 33 (([c0, c1, c2, c3, c4, c5, c6, c7, c8, c9, c10, c11, c12, c13, c14, c15, c16, c17, c18, c19, c20].drop 5).take (Try.prog.cellsOf 33)) = some x5 := hf 5 _ rfl
  rw [show Try.prog.cellsOf 33 = 6 by kernel_rfl] at f5
  replace f5 : DataW.trod enc Try.prog W 0 (fun _ => true) true n 33 [c5, c6, c7, c8, c9, c10] = some x5 := f5
  have f6 : DataW.trod enc Try.prog W 0 (fun _ => true) true n 30 (([c0, c1, c2, c3, c4, c5, c6, c7, c8, c9, c10, c11, c12, c13, c14, c15, c16, c17, c18, c19, c20].drop 11).take (Try.prog.cellsOf 30)) = some x6 := hf 6 _ rfl
  rw [show Try.prog.cellsOf 30 = 3 by kernel_rfl] at f6
  replace f6 : DataW.trod enc Try.prog W 0 (fun _ => true) true n 30 [c11, c12, c13] = some x6 := f6
  have f7 : DataW.trod enc Try.prog W 0 (fun _ => true) true n 36 (([c0, c1, c2, c3, c4, c5, c6, c7, c8, c9, c10, c11, c12, c13, c14, c15, c16, c17, c18, c19, c20].drop 14).take (Try.prog.cellsOf 36)) = some x7 := hf 7 _ rfl
  rw [show Try.prog.cellsOf 36 = 2 by kernel_rfl] at f7
  replace f7 : DataW.trod enc Try.prog W 0 (fun _ => true) true n 36 [c14, c15] = some x7 := f7
  have f8 : DataW.trod enc Try.prog W 0 (fun _ => true) true n 27 (([c0, c1, c2, c3, c4, c5, c6, c7, c8, c9, c10, c11, c12, c13, c14, c15, c16, c17, c18, c19, c20].drop 16).take (Try.prog.cellsOf 27)) = some x8 := hf 8 _ rfl
  rw [show Try.prog.cellsOf 27 = 3 by kernel_rfl] at f8
  replace f8 : DataW.trod enc Try.prog W 0 (fun _ => true) true n 27 [c16, c17, c18] = some x8 := f8
  have f9 : DataW.trod enc Try.prog W 0 (fun _ => true) true n 3 (([c0, c1, c2, c3, c4, c5, c6, c7, c8, c9, c10, c11, c12, c13, c14, c15, c16, c17, c18, c19, c20].drop 19).take (Try.prog.cellsOf 3)) = some x9 := hf 9 _ rfl
  rw [show Try.prog.cellsOf 3 = 1 by kernel_rfl] at f9
  replace f9 : DataW.trod enc Try.prog W 0 (fun _ => true) true n 3 [c19] = some x9 := f9
  have f10 : DataW.trod enc Try.prog W 0 (fun _ => true) true n 9 (([c0, c1, c2, c3, c4, c5, c6, c7, c8, c9, c10, c11, c12, c13, c14, c15, c16, c17, c18, c19, c20].drop 20).take (Try.prog.cellsOf 9)) = some x10 := hf 10 _ rfl
  rw [show Try.prog.cellsOf 9 = 1 by kernel_rfl] at f10
  replace f10 : DataW.trod enc Try.prog W 0 (fun _ => true) true n 9 [c20] = some x10 := f10
  have hw' : ∀ k, k ∈ x0.1.weights Try.prog 3 ++ (x1.1.weights Try.prog 3 ++ (x2.1.weights Try.prog 3 ++ (x3.1.weights Try.prog 3 ++ (x4.1.weights Try.prog 9 ++ (x5.1.weights Try.prog 33 ++ (x6.1.weights Try.prog 30 ++ (x7.1.weights Try.prog 36 ++ (x8.1.weights Try.prog 27 ++ (x9.1.weights Try.prog 3 ++ (x10.1.weights Try.prog 9 ++ ([]))))))))))) → k ≤ reachBytes := by
    intro k hk
    refine hw k ?_
    simp only [DataW.weights, Try.underlying38, List.map_cons, List.map_nil, DataW.weightsEach]
    exact hk
  simp only [List.mem_append] at hw'
  obtain ⟨y0, h0⟩ := opens_int Try.underlying3 n _ _ f0 (fun k hk => hw' k (.inl hk))
  obtain ⟨y1, h1⟩ := opens_int Try.underlying3 n _ _ f1 (fun k hk => hw' k (.inr (.inl hk)))
  obtain ⟨y2, h2⟩ := opens_int Try.underlying3 n _ _ f2 (fun k hk => hw' k (.inr (.inr (.inl hk))))
  obtain ⟨y3, h3⟩ := opens_int Try.underlying3 n _ _ f3 (fun k hk => hw' k (.inr (.inr (.inr (.inl hk)))))
  obtain ⟨y4, h4⟩ := opens_str Try.underlying9 n _ _ f4 (fun k hk => hw' k (.inr (.inr (.inr (.inr (.inl hk))))))
  obtain ⟨y5, h5⟩ := open_bk n _ _ f5 (fun k hk => hw' k (.inr (.inr (.inr (.inr (.inr (.inl hk)))))))
  obtain ⟨y6, h6⟩ := open_ct n _ _ f6 (fun k hk => hw' k (.inr (.inr (.inr (.inr (.inr (.inr (.inl hk))))))))
  obtain ⟨y7, h7⟩ := open_sg n _ _ f7 (fun k hk => hw' k (.inr (.inr (.inr (.inr (.inr (.inr (.inr (.inl hk)))))))))
  obtain ⟨y8, h8⟩ := open_req n _ _ f8 (fun k hk => hw' k (.inr (.inr (.inr (.inr (.inr (.inr (.inr (.inr (.inl hk))))))))))
  obtain ⟨y9, h9⟩ := opens_int Try.underlying3 n _ _ f9 (fun k hk => hw' k (.inr (.inr (.inr (.inr (.inr (.inr (.inr (.inr (.inr (.inl hk)))))))))))
  obtain ⟨y10, h10⟩ := opens_str Try.underlying9 n _ _ f10 (fun k hk => hw' k (.inr (.inr (.inr (.inr (.inr (.inr (.inr (.inr (.inr (.inr (.inl hk))))))))))))
  obtain ⟨e0, b0⟩ := h0
  obtain ⟨e1, b1⟩ := h1
  obtain ⟨e2, b2⟩ := h2
  obtain ⟨e3, b3⟩ := h3
  obtain ⟨e4, b4⟩ := h4
  obtain ⟨e9, b9⟩ := h9
  obtain ⟨e10, b10⟩ := h10
  obtain ⟨v1, v2, e5, q1, q2, q3, q4, q5, q6⟩ := h5
  obtain ⟨v3, e6, q7, q8, q9⟩ := h6
  obtain ⟨v4, e7, q10, q11⟩ := h7
  obtain ⟨e8, q12, q13, q14⟩ := h8
  simp only [List.cons.injEq, and_true] at e0 e1 e2 e3 e4 e5 e6 e7 e8 e9 e10
  obtain ⟨e50, e51, e52, e53, e54, e55⟩ := e5
  obtain ⟨e60, e61, e62⟩ := e6
  obtain ⟨e70, e71⟩ := e7
  obtain ⟨e80, e81, e82⟩ := e8
  subst e0 e1 e2 e3 e4 e50 e51 e52 e53 e54 e55 e60 e61 e62 e70 e71 e80 e81 e82 e9 e10
  exact ⟨⟨y0, y1, y2, y3, y4, y5, y6, y7, y8, y9, y10⟩, _, _, _, _, rfl, ⟨b0, b1, b2, b3, b4, q1, q2, q3, q4, q5, q6, q7, q8, q9, q10, q11, q12, q13, q14, b9, b10⟩⟩
end
end Go.Proofs.Ytpndbidpennlcaa
