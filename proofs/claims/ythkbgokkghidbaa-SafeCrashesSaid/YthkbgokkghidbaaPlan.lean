import Derived.Test.YthkbgokkghidbaaBase
import Derived.Deep.RegionHeld3
namespace Go.Proofs.Ythkbgokkghidbaa
open Go.RowKit
set_option linter.unusedVariables false
/-! a region that draws its order, whose condition on the world grows narrower behind a call -/
section
variable {P : Program} {ops : Array Oper} {Q : Exit → Act → World → Prop} {md : Region.Mode} {S T : World → Prop}
theorem wpAnyH_narrow (hn : ∀ w, T w → S w) : ∀ (fuel : Nat) (listed : Array Bool) (a : Act) (w : World), wpAnyH P md ops Q T fuel listed a w → wpAnyH P md ops Q S fuel listed a w
  | 0, _, _, _, h => h
  | fuel + 1, _, _, _, h => ⟨h.1, fun i hi => wpOp_mono (fun a' w' h' => ⟨hn _ h'.1, wpAnyH_narrow hn fuel _ a' w' h'.2⟩) (h.2 i hi)⟩
/-- the one operation that may come up is a call -/
theorem wpAnyH_call {i : Nat} {o : Oper} {f : FuncId} {args : Array Value} {E : Ending → World → Prop} {fuel : Nat} {listed : Array Bool} {a : Act} {w : World} (hi : ops[i]? = some o)
    (hr : Region.ready md ops listed = [i]) (hw : Region.wanted o (yielded ops a.tmps) = true) (hx : (execOp a.eval o).run P w = .ok (.enter f args) w) (hc : Calls P f args w E)
    (h : ∀ e w', E e w' → ∃ v, e = .returned v ∧ S w' ∧ wpAnyH P md ops Q S fuel (listed.setIfInBounds i true) (a.put o.dst v) w') : wpAnyH P md ops Q S (fuel + 1) listed a w := by
  refine wpAnyH_all hr (by simp) (fun j hj => ?_)
  obtain rfl : j = i := by simpa using hj
  unfold wpOp
  simp only [hi, hw, if_true]
  refine .inl ?_
  unfold Oper.wp
  rw [hx]
  show Calls P f args w _
  refine hc.mono fun e w' he => ?_
  obtain ⟨v, rfl, h1, h2⟩ := h e w' he
  exact ⟨h1, h2⟩
/-- taken first -/
theorem wpAnyH_takeL {l : List Oper} {i : Nat} {oi : Oper} {v : Value} {fuel : Nat} {listed : Array Bool} {a : Act} {w : World} (hi : l[i]? = some oi)
    (hs : Region.noSelect l.toArray = true) (hf : Region.free md l.toArray listed i = true) (hr : (Region.ready md l.toArray listed).contains i = true)
    (hQ : ∀ c a w, Q (.panic c) (a.put oi.dst v) w → Q (.panic c) a w) (hw : Region.wanted oi (yielded l.toArray a.tmps) = true) (hy : ∀ w, S w → (execOp a.eval oi).run P w = .ok (.value v) w) (hS : S w)
    (h : wpAnyH P md l.toArray Q S fuel (listed.setIfInBounds i true) (a.put oi.dst v) w) : wpAnyH P md l.toArray Q S (fuel + 1) listed a w :=
  wpAnyH_take (by simpa using hi) hs hf hr hQ (.inl ⟨hw, hy⟩) hS h
theorem wpAnyH_callL {l : List Oper} {i : Nat} {o : Oper} {f : FuncId} {args : Array Value} {E : Ending → World → Prop} {fuel : Nat} {listed : Array Bool} {a : Act} {w : World} (hi : l[i]? = some o)
    (hr : Region.ready md l.toArray listed = [i]) (hw : Region.wanted o (yielded l.toArray a.tmps) = true) (hx : (execOp a.eval o).run P w = .ok (.enter f args) w) (hc : Calls P f args w E)
    (h : ∀ e w', E e w' → ∃ v, e = .returned v ∧ S w' ∧ wpAnyH P md l.toArray Q S fuel (listed.setIfInBounds i true) (a.put o.dst v) w') : wpAnyH P md l.toArray Q S (fuel + 1) listed a w :=
  wpAnyH_call (by simpa using hi) hr hw hx hc h
/-- several may come up -/
theorem allReadyL {l : List Oper} {fuel : Nat} {listed : Array Bool} {a : Act} {w : World} {i : Nat} {o : Oper} {rs : List Nat} (ho : l[i]? = some o)
    (h : ∀ K' : Act → World → Prop, Shut (∀ a w, S w → (S w → wpAnyH P md l.toArray Q S fuel (listed.setIfInBounds i true) a w) → K' a w) → if Region.wanted o (yielded l.toArray a.tmps) = true then Oper.wp P o a w K' Q else K' (a.put o.dst undef) w)
    (hs : AllReadyH P md l.toArray Q S fuel listed a w rs) : AllReadyH P md l.toArray Q S fuel listed a w (i :: rs) := AllReadyH.cons (by simpa using ho) h hs
/-- the one operation that may come up yields -/
theorem wpAnyH_done' {listed : Array Bool} {fuel : Nat} {a : Act} {w : World} (hr : Region.ready md ops listed = []) (h : Q .normal a w) : wpAnyH P md ops Q S fuel listed a w := wpAnyH_done hr h fuel
end
end Go.Proofs.Ythkbgokkghidbaa
