import Derived.Test.YthkbgokkghidbaaOpenSafe
import Derived.Test.YthkbgokkghidbaaLawSafe3
namespace Go.Proofs.Ythkbgokkghidbaa
open Go.RowKit Go.ChangeShapes Go.WideShapes Go.ChangeAt
set_option linter.unusedVariables false
set_option linter.unusedSimpArgs false
theorem okWide_array {P : Program} {w : World} {r : Reach} {base : Nat} {t e : TypeId} {n : Nat} {v : Value} (ht : P.underlying t = some (.array n e)) (h : Value.okWide P w r base t v) : ∃ cs, v = .agg cs ∧ cs.size = P.cellsOf t := by
  simp only [Value.okWide, ht] at h
  obtain ⟨cs, h1, h2, _⟩ := h
  exact ⟨cs, h1, h2⟩
def Rep.two : Rep (Int × Int) where
  sz := 2
  R := fun _ _ x cs => cs = [.int .i64 x.1, .int .i64 x.2]
  len := by rintro _ _ _ _ rfl; rfl
  keep := fun h _ => h
  mono := fun h _ => h
section
variable {H : Type} {enc : TypeId × Value → H} {W : World}
theorem li2 {α : Type} (l : List α) (h : l.length = 2) : ∃ a b, l = [a, b] := by
  match l, h with
  | [a, b], _ => exact ⟨a, b, rfl⟩
theorem open_two : Opens enc Try.prog W Rep.two 45 := by
  intro fuel cs x h hw
  obtain ⟨xs, n, rfl, rfl, hl, hxl, hf⟩ := DataW.trod_array Try.underlying45 h
  rw [show Try.prog.cellsOf 45 = 2 by kernel_rfl] at hl
  obtain ⟨c0, c1, rfl⟩ := li2 cs hl
  obtain ⟨x0, x1, rfl⟩ := li2 xs hxl
  have f0 := hf 0 (by omega)
  rw [show Try.prog.cellsOf 3 = 1 by kernel_rfl] at f0
  replace f0 : DataW.trod enc Try.prog W 0 (fun _ => true) true n 3 [c0] = some x0 := f0
  have f1 := hf 1 (by omega)
  rw [show Try.prog.cellsOf 3 = 1 by kernel_rfl] at f1
  replace f1 : DataW.trod enc Try.prog W 0 (fun _ => true) true n 3 [c1] = some x1 := f1
  obtain ⟨a, e0, -, -⟩ := DataW.trod_int Try.underlying3 f0
  obtain ⟨b, e1, -, -⟩ := DataW.trod_int Try.underlying3 f1
  simp only [List.cons.injEq, and_true] at e0 e1
  subst e0 e1
  exact ⟨(a, b), rfl⟩
end
end Go.Proofs.Ythkbgokkghidbaa
