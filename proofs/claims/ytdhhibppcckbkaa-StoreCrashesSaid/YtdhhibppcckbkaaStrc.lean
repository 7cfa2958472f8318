import Derived.Test.YtdhhibppcckbkaaBase
import Derived.Deep.MidRow
import Derived.Deep.WholeRow
namespace Go.Proofs.Ytdhhibppcckbkaa
open Go.RowKit
set_option linter.unusedVariables false
set_option linter.unusedSimpArgs false
/-! whole structs: built, made, stored, loaded, without going through their cells -/
theorem Blk.row {w : World} {g : Nat} {cs : Array Value} {t : Nat} (h : Blk w g cs t) (c' : Array Value) : Blk (w.setRow g c') g c' t := setRow_heap w g cs c' t (0, 0) h
theorem setRow_size (w : World) (g : Nat) (c : Array Value) : (w.setRow g c).heap.size = w.heap.size := by simp [World.setRow]
theorem Keep.row (w : World) (g : Nat) (c' : Array Value) : Keep [g] w (w.setRow g c') := by
  refine ⟨rfl, rfl, rfl, by rw [setRow_size]; exact Nat.le_refl _, fun i hi hn => ?_⟩
  have : ¬ g = i := fun e => hn (by simp [e])
  simp [World.setRow, Array.getElem?_modify, this]
/-- part of a row written anew -/
def spl (cs : Array Value) (o : Nat) (d : Array Value) : Array Value := (cs.toList.take o ++ d.toList ++ cs.toList.drop (o + d.size)).toArray
section
variable {P : Program} {ops : Array Oper} {rest : List Oper} {op : Oper} {a : Act} {w : World} {Q : Exit → Act → World → Prop}
theorem sx_build (hgd : op.guard = none) (t : TypeId) (parts : Array (Nat × Operand)) (ho : op.op = .build t parts) (C : Array Value)
    (hf : P.built t (parts.map fun (i, x) => (i, a.eval x)).toList = some C) (h : wpList P ops Q rest (a.put op.dst (.agg C)) w) : wpList P ops Q (op :: rest) a w :=
  wpList_build hgd t parts ho (by rw [hf]; rfl) (by rw [hf]; exact h)
theorem run_allocZ (w : World) (t : TypeId) (z : Value) (n : Nat) (hz : (P.info? t).map (fun i => (i.zero, i.size)) = some (some z, n)) :
    (Instr.alloc t true (.tuple #[])).run P w = .ok (.pointer (some ⟨w.heap.size, 0, none⟩)) (w.alloc (.cells z.cells t)) := by
  obtain ⟨h, _⟩ := zero_of_info hz
  simp [Instr.alloc, h w, newVar, newRow, go_sem]
theorem sx_alloc (hgd : op.guard = none) (t : TypeId) (ho : op.op = .alloc t) (z : Value) (n : Nat) (C : Array Value) (hz : (P.info? t).map (fun i => (i.zero, i.size)) = some (some z, n)) (hC : z.cells = C)
    (h : ∀ w', Blk w' w.heap.size C t → Keep [] w w' → w'.heap.size = w.heap.size + 1 → wpList P ops Q rest (a.put op.dst (.pointer (some ⟨w.heap.size, 0, none⟩))) w') : wpList P ops Q (op :: rest) a w :=
  wpList_plain hgd fun _ hK => by
    unfold Oper.wp execOp
    simp only [ho, Sem.run_bind, run_allocZ w t z n hz, Result.andThen_ok]
    subst hC
    exact hK _ _ (h _ (Blk.new w _ t) ((Keep.refl _ _).alloc _) (by simp))
theorem run_storePart (w : World) (g o : Nat) (ty : TypeId) (cur cells : Array Value) (val : Value) (hv : val.cells = cells) (t : Nat) (hg : Blk w g cur t) (hfit : o + cells.size ≤ cur.size) (hi : (P.info? ty).map (·.size) = some cells.size) (h1 : cells.toList.all (fun x => x.oneCell') = true) :
    (Instr.storeAt ty (.pointer (some ⟨g, o, none⟩)) val).run P w = .ok () (w.setRow g (spl cur o cells)) := by
  have := run_storeCells_at P g o t cells.toList 0 cur w hg (by simpa using hfit) (fun v hv => (List.all_eq_true.1 h1) v hv)
  cases hq : P.info? ty with
  | none => simp [hq] at hi
  | some i =>
    have hs : cells.size = i.size := by simp [hq] at hi; omega
    simp only [Nat.add_zero] at this
    simp [Instr.storeAt, Instr.sureAddr, storeVar, sizeOf, typeInfo, hq, hv, hs, this, spl]
theorem sx_store (hgd : op.guard = none) (ty : TypeId) (x y : Operand) (ho : op.op = .store ty x y) (g o : Nat) (val : Value) (cells cur C : Array Value) (t : Nat) (hx : a.eval x = .pointer (some ⟨g, o, none⟩)) (hy : a.eval y = val) (hv : val.cells = cells)
    (hb : Blk w g cur t) (hi : (P.info? ty).map (·.size) = some cells.size) (hfit : decide (o + cells.size ≤ cur.size) = true) (h1 : cells.toList.all (fun x => x.oneCell') = true) (hC : spl cur o cells = C)
    (h : ∀ w', Blk w' g C t → Keep [g] w w' → w'.heap.size = w.heap.size → wpList P ops Q rest (a.put op.dst undef) w') : wpList P ops Q (op :: rest) a w :=
  wpList_plain hgd fun _ hK => by
    unfold Oper.wp execOp
    simp only [ho, hx, hy, Sem.run_bind, Sem.run_pure, run_storePart w g o ty cur cells val hv t hb (of_decide_eq_true hfit) hi h1, Result.andThen_ok]
    subst hC
    exact hK _ _ (h _ (hb.row _) (Keep.row _ _ _) (setRow_size _ _ _))
theorem range_part {g : Nat} {cur : Array Value} {t : Nat} (hb : Blk w g cur t) (o : Nat) (C : Array Value) (hC : (cur.toList.drop o).take C.toList.length = C.toList) : w.rangeAt g o C.toList := by
  have h := World.rangeAt_of_block (w := w) (b := g) hb o C.toList.length
  have e : (cur.extract o (o + C.toList.length)).toList = C.toList := by rw [Array.toList_extract, List.extract_eq_take_drop, Nat.add_sub_cancel_left, hC]
  rwa [e] at h
theorem sx_load (hgd : op.guard = none) (ty : TypeId) (x : Operand) (ho : op.op = .load ty x) (g o : Nat) (cur C : Array Value) (t : Nat) (d : TypeDesc) (hx : a.eval x = .pointer (some ⟨g, o, none⟩)) (hb : Blk w g cur t)
    (hu : P.underlying ty = some d) (hd : d.isRow = true) (hi : (P.info? ty).map (·.size) = some C.size) (hC : (cur.toList.drop o).take C.toList.length = C.toList)
    (h : wpList P ops Q rest (a.put op.dst (.agg C)) w) : wpList P ops Q (op :: rest) a w :=
  wpList_load_mid hgd ty x ho g o hx C.toList d (range_part hb o C hC) hu hd (by simpa using hi) (by simpa using h)
/-! the same where the operation is guarded -/
theorem sy_load (hw : Region.wanted op (yielded ops a.tmps) = true) (ty : TypeId) (x : Operand) (ho : op.op = .load ty x) (g o : Nat) (cur C : Array Value) (t : Nat) (d : TypeDesc) (hx : a.eval x = .pointer (some ⟨g, o, none⟩)) (hb : Blk w g cur t)
    (hu : P.underlying ty = some d) (hd : d.isRow = true) (hi : (P.info? ty).map (·.size) = some C.size) (hC : (cur.toList.drop o).take C.toList.length = C.toList)
    (h : wpList P ops Q rest (a.put op.dst (.agg C)) w) : wpList P ops Q (op :: rest) a w :=
  wpList_step fun K hK => by
    rw [if_pos hw]
    exact wp_load_mid ty x ho g o hx C.toList d (range_part hb o C hC) hu hd (by simpa using hi) (hK _ _ (by simpa using h))
theorem sy_build (hw : Region.wanted op (yielded ops a.tmps) = true) (t : TypeId) (parts : Array (Nat × Operand)) (ho : op.op = .build t parts) (C : Array Value)
    (hf : P.built t (parts.map fun (i, x) => (i, a.eval x)).toList = some C) (h : wpList P ops Q rest (a.put op.dst (.agg C)) w) : wpList P ops Q (op :: rest) a w :=
  wpList_step fun K hK => by
    rw [if_pos hw]
    exact wp_build t parts ho (by rw [hf]; rfl) (by rw [hf]; exact hK _ _ h)
theorem run_loadPart (w : World) (g o : Nat) (ty : TypeId) (cur C : Array Value) (t : Nat) (d : TypeDesc) (hb : Blk w g cur t) (hu : P.underlying ty = some d) (hd : d.isRow = true) (hi : (P.info? ty).map (·.size) = some C.size) (hC : (cur.toList.drop o).take C.toList.length = C.toList) :
    (loadVar ty ⟨g, o, none⟩).run P w = .ok (.agg C) w := by
  have h := run_loadVar_mid (P := P) w g o ty C.toList d (range_part hb o C hC) hu hd (by simpa using hi)
  simpa using h
theorem ret_cell {fn : Func} {R : Ending → World → Prop} {a : Act} {w : World} {p : Tmp} {ty : TypeId} {g : Nat} {C : Array Value} {t : Nat} {d : TypeDesc} (hr : fn.results = #[.cell p ty]) (hd : a.defers = []) (hp : a.tmps.getD p undef = .pointer (some ⟨g, 0, none⟩)) (hb : Blk w g C t)
    (hu : P.underlying ty = some d) (hrow : d.isRow = true) (hi : (P.info? ty).map (·.size) = some C.size) (hR : R (.returned (.agg C)) w) : bodyPost P fn R .ret a w :=
  bodyPost_ret (v := .agg C) (by
    have h := run_loadPart (P := P) w g 0 ty C C t d hb hu hrow hi (by rw [List.drop_zero, List.take_length])
    have hp' : a.tmps[p]?.getD undef = .pointer (some ⟨g, 0, none⟩) := by simpa using hp
    simp only [results, hr]
    simp [Sem.run_bind, Result.andThen, hp', asAddr, h]) hd hR
theorem ret_cell2 {fn : Func} {R : Ending → World → Prop} {a : Act} {w : World} {p u : Tmp} {ty : TypeId} {g : Nat} {C : Array Value} {t : Nat} {d : TypeDesc} (hr : fn.results = #[.cell p ty, .tmp u]) (hd : a.defers = []) (hp : a.tmps.getD p undef = .pointer (some ⟨g, 0, none⟩)) (hb : Blk w g C t)
    (hu : P.underlying ty = some d) (hrow : d.isRow = true) (hi : (P.info? ty).map (·.size) = some C.size) (v : Value) (hv : a.tmps.getD u undef = v) (hR : R (.returned (.tuple #[.agg C, v])) w) : bodyPost P fn R .ret a w :=
  bodyPost_ret (v := .tuple #[.agg C, v]) (by
    have h := run_loadPart (P := P) w g 0 ty C C t d hb hu hrow hi (by rw [List.drop_zero, List.take_length])
    have hp' : a.tmps[p]?.getD undef = .pointer (some ⟨g, 0, none⟩) := by simpa using hp
    have hv' : a.tmps[u]?.getD undef = v := by simpa using hv
    simp only [results, hr]
    simp [Sem.run_bind, Result.andThen, hp', asAddr, h, hv']) hd hR
end
end Go.Proofs.Ytdhhibppcckbkaa
