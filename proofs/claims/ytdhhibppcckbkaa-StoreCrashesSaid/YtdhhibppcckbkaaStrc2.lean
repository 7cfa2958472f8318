import Derived.Test.YtdhhibppcckbkaaStrc
namespace Go.Proofs.Ytdhhibppcckbkaa
open Go.RowKit
set_option linter.unusedVariables false
set_option linter.unusedSimpArgs false
section
variable {P : Program} {ops : Array Oper} {rest : List Oper} {op : Oper} {a : Act} {w : World} {Q : Exit → Act → World → Prop}
theorem wl_id {o : Oper} (h : wpList P ops Q (o :: rest) a w) : wpList P ops Q (o :: rest) a w := h
/-! guards of arms: to be tried by 'with_reducible', ahead of a law -/
theorem wl_load {o : Oper} (ty : TypeId) (x : Operand) (ho : o.op = .load ty x) (h : wpList P ops Q (o :: rest) a w) : wpList P ops Q (o :: rest) a w := h
theorem wl_store {o : Oper} (ty : TypeId) (x y : Operand) (ho : o.op = .store ty x y) (h : wpList P ops Q (o :: rest) a w) : wpList P ops Q (o :: rest) a w := h
theorem wl_alloc {o : Oper} (ty : TypeId) (ho : o.op = .alloc ty) (h : wpList P ops Q (o :: rest) a w) : wpList P ops Q (o :: rest) a w := h
theorem wl_box {o : Oper} (ty : TypeId) (x : Operand) (ho : o.op = .box ty x) (h : wpList P ops Q (o :: rest) a w) : wpList P ops Q (o :: rest) a w := h
theorem wl_build {o : Oper} (ty : TypeId) (parts : Array (Nat × Operand)) (ho : o.op = .build ty parts) (h : wpList P ops Q (o :: rest) a w) : wpList P ops Q (o :: rest) a w := h
/-! whole rows whose cells are whatever -/
theorem sx_box (hgd : op.guard = none) (t : TypeId) (x : Operand) (ho : op.op = .box t x) (C : Array Value) (hx : a.eval x = .agg C)
    (h : ∀ w', Blk w' w.heap.size C t → Keep [] w w' → w'.heap.size = w.heap.size + 1 → wpList P ops Q rest (a.put op.dst (.pointer (some ⟨w.heap.size, 0, none⟩))) w') : wpList P ops Q (op :: rest) a w :=
  wpList_plain hgd fun _ hK => by
    have e : (Instr.box t (.agg C)).run P w = .ok (.pointer (some ⟨w.heap.size, 0, none⟩)) (w.alloc (.cells C t)) := by simp [Instr.box, newVar, newRow, go_sem, Value.cells]
    unfold Oper.wp execOp
    simp only [ho, hx, Sem.run_bind, e, Result.andThen_ok]
    exact hK _ _ (h _ (Blk.new w _ t) ((Keep.refl _ _).alloc _) (by simp))
theorem run_loadW (w : World) (g : Nat) (ty : TypeId) (C : Array Value) (t : Nat) (d : TypeDesc) (n : Nat) (hb : Blk w g C t) (hu : P.underlying ty = some d) (hd : d.isRow = true) (hi : (P.info? ty).map (·.size) = some n) (hn : C.size = n) :
    (Instr.loadAt ty (.pointer (some ⟨g, 0, none⟩))).run P w = .ok (.agg C) w := by
  have h := run_loadAt_mid (P := P) w g 0 ty C.toList d (range_part hb 0 C (by rw [List.drop_zero, List.take_length])) hu hd (by simpa [hn] using hi)
  simpa using h
theorem sy_loadW (hw : Region.wanted op (yielded ops a.tmps) = true) (ty : TypeId) (x : Operand) (ho : op.op = .load ty x) (g : Nat) (C : Array Value) (t : Nat) (d : TypeDesc) (n : Nat) (hx : a.eval x = .pointer (some ⟨g, 0, none⟩)) (hb : Blk w g C t)
    (hu : P.underlying ty = some d) (hd : d.isRow = true) (hi : (P.info? ty).map (·.size) = some n) (hn : C.size = n)
    (h : wpList P ops Q rest (a.put op.dst (.agg C)) w) : wpList P ops Q (op :: rest) a w :=
  wpList_step fun K hK => by
    rw [if_pos hw]
    unfold Oper.wp execOp
    simp only [ho, hx, Sem.run_bind, run_loadW w g ty C t d n hb hu hd hi hn, Result.andThen_ok]
    exact hK _ _ h
theorem sv_loadW (ty : TypeId) (x : Operand) (ho : op.op = .load ty x) (hw : Region.wanted op (yielded ops a.tmps) = true) (g : Nat) (C : Array Value) (t : Nat) (d : TypeDesc) (n : Nat) (hx : a.eval x = .pointer (some ⟨g, 0, none⟩)) (hb : Blk w g C t)
    (hu : P.underlying ty = some d) (hd : d.isRow = true) (hi : (P.info? ty).map (·.size) = some n) (hn : C.size = n)
    (h : wpList P ops Q rest (a.put op.dst (.agg C)) w) : wpList P ops Q (op :: rest) a w := sy_loadW hw ty x ho g C t d n hx hb hu hd hi hn h
theorem sx_loadW (hgd : op.guard = none) (ty : TypeId) (x : Operand) (ho : op.op = .load ty x) (g : Nat) (C : Array Value) (t : Nat) (d : TypeDesc) (n : Nat) (hx : a.eval x = .pointer (some ⟨g, 0, none⟩)) (hb : Blk w g C t)
    (hu : P.underlying ty = some d) (hd : d.isRow = true) (hi : (P.info? ty).map (·.size) = some n) (hn : C.size = n)
    (h : wpList P ops Q rest (a.put op.dst (.agg C)) w) : wpList P ops Q (op :: rest) a w :=
  sy_loadW (by simp [Region.wanted, hgd]) ty x ho g C t d n hx hb hu hd hi hn h
theorem sx_storeW (hgd : op.guard = none) (ty : TypeId) (x y : Operand) (ho : op.op = .store ty x y) (g : Nat) (C cur : Array Value) (t : Nat) (n : Nat) (hx : a.eval x = .pointer (some ⟨g, 0, none⟩)) (hy : a.eval y = .agg C)
    (hb : Blk w g cur t) (hi : (P.info? ty).map (·.size) = some n) (hn : C.size = n) (hc : cur.size = n) (h1 : C.toList.all (fun x => x.oneCell') = true)
    (h : ∀ w', Blk w' g C t → Keep [g] w w' → w'.heap.size = w.heap.size → wpList P ops Q rest (a.put op.dst undef) w') : wpList P ops Q (op :: rest) a w :=
  sx_store hgd ty x y ho g 0 (.agg C) C cur C t hx hy rfl hb (by rw [hi, hn]) (by simp [hn, hc]) h1 (by have e : cur.toList.drop C.size = [] := List.drop_eq_nil_of_le (by simp [hn, hc]); simp [spl, e]) h
end
end Go.Proofs.Ytdhhibppcckbkaa
