import Derived.Test.YtdhhibppcckbkaaStrc2
import Derived.Test.YtdhhibppcckbkaaLawMsg
namespace Go.Proofs.Ytdhhibppcckbkaa
open Go.RowKit
set_option linter.unusedVariables false
set_option linter.unusedSimpArgs false
/-! messages that lie in a row -/
section
variable {P : Program} {ops : Array Oper} {rest : List Oper} {op : Oper} {a : Act} {w : World} {Q : Exit → Act → World → Prop}
theorem sx_loadR (hgd : op.guard = none) (ty : TypeId) (x : Operand) (ho : op.op = .load ty x) (g o : Nat) (C : Array Value) (d : TypeDesc) (n : Nat) (hx : a.eval x = .pointer (some ⟨g, o, none⟩))
    (hr : ∀ j v, C[j]? = some v → w.cell? ⟨g, o + j, none⟩ = some v) (hu : P.underlying ty = some d) (hd : d.isRow = true) (hi : (P.info? ty).map (·.size) = some n) (hn : C.size = n)
    (h : wpList P ops Q rest (a.put op.dst (.agg C)) w) : wpList P ops Q (op :: rest) a w :=
  wpList_load_mid hgd ty x ho g o hx C.toList d (fun j v hj => hr j v (by simpa using hj)) hu hd (by simpa [hn] using hi) (by simpa using h)
theorem sy_loadR (hw : Region.wanted op (yielded ops a.tmps) = true) (ty : TypeId) (x : Operand) (ho : op.op = .load ty x) (g o : Nat) (C : Array Value) (d : TypeDesc) (n : Nat) (hx : a.eval x = .pointer (some ⟨g, o, none⟩))
    (hr : ∀ j v, C[j]? = some v → w.cell? ⟨g, o + j, none⟩ = some v) (hu : P.underlying ty = some d) (hd : d.isRow = true) (hi : (P.info? ty).map (·.size) = some n) (hn : C.size = n)
    (h : wpList P ops Q rest (a.put op.dst (.agg C)) w) : wpList P ops Q (op :: rest) a w :=
  wpList_step fun K hK => by
    rw [if_pos hw]
    exact wp_load_mid ty x ho g o hx C.toList d (fun j v hj => hr j v (by simpa using hj)) hu hd (by simpa [hn] using hi) (hK _ _ (by simpa using h))
end
theorem SliceOf.ms_at {w : World} {F : Nat → Prop} {A : Option Addr} {n c : Nat} {xs : List Ms} (h : SliceOf Rep.ms w F (.slice A n c) xs) {i : Nat} (hi : i < xs.length) :
    ∃ g o v1 v2 v3 v4, A = some ⟨g, o, none⟩ ∧ (∀ j v, (msgV xs[i] v1 v2 v3 v4)[j]? = some v → w.cell? ⟨g, o + i * 21 + j, none⟩ = some v) ∧ MsOk w F xs[i] v1 v2 v3 v4 := by
  obtain ⟨g, o, cs, rfl, _, _, ⟨v1, v2, v3, v4, rfl, hm⟩, hc⟩ := h.at hi
  exact ⟨g, o, v1, v2, v3, v4, rfl, fun j v hj => by rw [Nat.add_assoc]; exact hc j v (by simpa [msgV] using hj), hm⟩
end Go.Proofs.Ytdhhibppcckbkaa
