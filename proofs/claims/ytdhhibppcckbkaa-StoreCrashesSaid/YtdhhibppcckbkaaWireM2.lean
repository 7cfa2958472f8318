import Derived.Test.YtdhhibppcckbkaaWireM
namespace Go.Proofs.Ytdhhibppcckbkaa
open Go.RowKit
set_option linter.unusedVariables false
set_option linter.unusedSimpArgs false
def MsAt (w : World) (g : Nat) (x : Ms) (v1 v2 v3 v4 : Value) : Prop :=
  w.cell? ⟨g, 0, none⟩ = some (.int .i64 x.k) ∧ w.cell? ⟨g, 1, none⟩ = some (.int .i64 x.f) ∧ w.cell? ⟨g, 2, none⟩ = some (.int .i64 x.t) ∧ w.cell? ⟨g, 3, none⟩ = some (.int .i64 x.v) ∧ w.cell? ⟨g, 4, none⟩ = some (.string x.h) ∧ w.cell? ⟨g, 5, none⟩ = some (.int .i64 x.b.v) ∧ w.cell? ⟨g, 6, none⟩ = some (.int .i64 x.b.p) ∧ w.cell? ⟨g, 7, none⟩ = some (.int .i64 x.b.j.v) ∧ w.cell? ⟨g, 8, none⟩ = some (.string x.b.j.h) ∧ w.cell? ⟨g, 9, none⟩ = some (v1) ∧ w.cell? ⟨g, 10, none⟩ = some (v2) ∧ w.cell? ⟨g, 11, none⟩ = some (.int .i64 x.c.v) ∧ w.cell? ⟨g, 12, none⟩ = some (.string x.c.h) ∧ w.cell? ⟨g, 13, none⟩ = some (v3) ∧ w.cell? ⟨g, 14, none⟩ = some (.int .i64 x.s.f) ∧ w.cell? ⟨g, 15, none⟩ = some (v4) ∧ w.cell? ⟨g, 16, none⟩ = some (.int .i64 x.r.c) ∧ w.cell? ⟨g, 17, none⟩ = some (.int .i64 x.r.s) ∧ w.cell? ⟨g, 18, none⟩ = some (.string x.r.b) ∧ w.cell? ⟨g, 19, none⟩ = some (.int .i64 x.i) ∧ w.cell? ⟨g, 20, none⟩ = some (.string x.g)
theorem MsAt.of {w : World} {g t : Nat} {x : Ms} {v1 v2 v3 v4 : Value} (h : Blk w g (msgV x v1 v2 v3 v4) t) : MsAt w g x v1 v2 v3 v4 := by
  refine ⟨h.cell 0, h.cell 1, h.cell 2, h.cell 3, h.cell 4, h.cell 5, h.cell 6, h.cell 7, h.cell 8, h.cell 9, h.cell 10, h.cell 11, h.cell 12, h.cell 13, h.cell 14, h.cell 15, h.cell 16, h.cell 17, h.cell 18, h.cell 19, h.cell 20⟩
theorem MsAt.keep {w w' : World} {g : Nat} {x : Ms} {v1 v2 v3 v4 : Value} {S : List Nat} (h : MsAt w g x v1 v2 v3 v4) (k : Keep S w w') (hg : g ∉ S) : MsAt w' g x v1 v2 v3 v4 := by
  obtain ⟨h0, h1, h2, h3, h4, h5, h6, h7, h8, h9, h10, h11, h12, h13, h14, h15, h16, h17, h18, h19, h20⟩ := h
  exact ⟨k.cell hg h0, k.cell hg h1, k.cell hg h2, k.cell hg h3, k.cell hg h4, k.cell hg h5, k.cell hg h6, k.cell hg h7, k.cell hg h8, k.cell hg h9, k.cell hg h10, k.cell hg h11, k.cell hg h12, k.cell hg h13, k.cell hg h14, k.cell hg h15, k.cell hg h16, k.cell hg h17, k.cell hg h18, k.cell hg h19, k.cell hg h20⟩
/-- The sizes of a message's parts. -/
structure MsSz (x : Ms) : Prop where
  b : (blockF x.b).size ≤ 288230376151711744
  c : (certF x.c).size ≤ 288230376151711744
  s : (sigF x.s).size ≤ 288230376151711744
end Go.Proofs.Ytdhhibppcckbkaa
