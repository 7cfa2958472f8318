import Derived.Test.YtdhhibppcckbkaaStrc2
import Derived.Deep.RegionLaw
namespace Go.Proofs.Ytdhhibppcckbkaa
open Go.RowKit
set_option linter.unusedVariables false
set_option linter.unusedSimpArgs false
/-! steps of a region that draws, behind a name that no elaboration looks into (the open form costs 10 to 20 seconds a step) -/
structure Stp (P : Program) (o : Oper) (ops : Array Oper) (a : Act) (w : World) (K : Act → World → Prop) (Q : Exit → Act → World → Prop) (E : Prop) : Prop where
  out : if Region.wanted o (yielded ops a.tmps) = true then Oper.wp P o a w K Q else E
theorem AllReady.consS {P : Program} {md : Region.Mode} {ops : Array Oper} {Q : Exit → Act → World → Prop} {fuel : Nat} {listed : Array Bool} {a : Act} {w : World} {i : Nat} {o : Oper} {rs : List Nat} (ho : ops[i]? = some o)
    (h : ∀ K' : Act → World → Prop, (∀ a w, wpAny P md ops Q fuel (listed.setIfInBounds i true) a w → K' a w) → Stp P o ops a w K' Q (K' (a.put o.dst undef) w))
    (hs : AllReady P md ops Q fuel listed a w rs) : AllReady P md ops Q fuel listed a w (i :: rs) := AllReady.cons ho (fun K' hK => (h K' hK).out) hs
section
variable {P : Program} {o : Oper} {act : Act} {K : Act → World → Prop} {Q : Exit → Act → World → Prop} {ops : Array Oper} {E : Prop} {W : World}
theorem stp_load (hgd : o.guard = none) (ty : TypeId) (x : Operand) (ho : o.op = .load ty x) (g off : Nat) (cur C : Array Value) (t : Nat) (d : TypeDesc) (n : Nat) (hx : act.eval x = .pointer (some ⟨g, off, none⟩))
    (hb : Blk W g cur t) (hC : (cur.toList.drop off).take C.toList.length = C.toList) (hu : P.underlying ty = some d) (hd : d.isRow = true) (hi : (P.info? ty).map (·.size) = some n) (hn : C.size = n) (h : K (act.put o.dst (.agg C)) W) :
    Stp P o ops act W K Q E := by
  refine ⟨?_⟩
  have hw : Region.wanted o (yielded ops act.tmps) = true := by simp [Region.wanted, hgd]
  rw [if_pos hw]
  have e : (Instr.loadAt ty (.pointer (some ⟨g, off, none⟩))).run P W = .ok (.agg C) W := by
    have h := run_loadAt_mid (P := P) W g off ty C.toList d (range_part hb off C hC) hu hd (by simpa [hn] using hi)
    simpa using h
  unfold Oper.wp execOp
  simp only [ho, hx, Sem.run_bind, e, Result.andThen_ok]
  exact h
theorem stp_store (hgd : o.guard = none) (ty : TypeId) (x y : Operand) (ho : o.op = .store ty x y) (g off : Nat) (C cur D : Array Value) (t : Nat) (hx : act.eval x = .pointer (some ⟨g, off, none⟩)) (hy : act.eval y = .agg C)
    (hb : Blk W g cur t) (hi : (P.info? ty).map (·.size) = some C.size) (hf : off + C.size ≤ cur.size) (h1 : C.toList.all (fun x => x.oneCell') = true) (hD : spl cur off C = D)
    (h : ∀ w', Blk w' g D t → Keep [g] W w' → w'.heap.size = W.heap.size → K (act.put o.dst undef) w') : Stp P o ops act W K Q E := by
  refine ⟨?_⟩
  have hw : Region.wanted o (yielded ops act.tmps) = true := by simp [Region.wanted, hgd]
  rw [if_pos hw]
  unfold Oper.wp execOp
  simp only [ho, hx, hy, Sem.run_bind, Sem.run_pure, run_storePart W g off ty cur C (.agg C) rfl t hb hf hi h1, Result.andThen_ok]
  subst hD
  exact h _ (hb.row _) (Keep.row _ _ _) (setRow_size _ _ _)
end
end Go.Proofs.Ytdhhibppcckbkaa
