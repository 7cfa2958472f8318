import Derived.Test.YtdhhibppcckbkaaWire
import Derived.Test.YtdhhibppcckbkaaEqReq
import Derived.Test.YtdhhibppcckbkaaRefE
namespace Go.Proofs.Ytdhhibppcckbkaa
open Go.RowKit
set_option linter.unusedVariables false
set_option linter.unusedSimpArgs false
/-! Messages: memory, and wire's text -/
def zeroSig (x : Sg) : Bool := decide (x.f = 0) && ((x.ts.length : Int) == 0)
def zeroReq (x : Req) : Bool := eqReq x ⟨0, 0, ⟨#[]⟩⟩
def maybeF (z : Bool) (b : ByteArray) : ByteArray := if z then ⟨#[0]⟩ else ⟨#[1]⟩ ++ b
theorem maybeF_le (z : Bool) (b : ByteArray) : (maybeF z b).size ≤ 1 + b.size := by
  unfold maybeF; split
  · show 1 ≤ _; omega
  · rw [ByteArray.size_append]; exact Nat.le_refl _
def msgF (x : Ms) : ByteArray := numF x.k ++ numF x.f ++ numF x.t ++ numF x.v ++ textF x.h ++ maybeF (zeroBlock x.b) (blockF x.b) ++ maybeF (zeroCert x.c) (certF x.c) ++ maybeF (zeroSig x.s) (sigF x.s) ++ maybeF (zeroReq x.r) (reqF x.r) ++ numF x.i ++ textF x.g
/-- The cells of a message. -/
def msgV (x : Ms) (v1 v2 v3 v4 : Value) : Array Value := #[.int .i64 x.k, .int .i64 x.f, .int .i64 x.t, .int .i64 x.v, .string x.h, .int .i64 x.b.v, .int .i64 x.b.p, .int .i64 x.b.j.v, .string x.b.j.h, v1, v2, .int .i64 x.c.v, .string x.c.h, v3, .int .i64 x.s.f, v4, .int .i64 x.r.c, .int .i64 x.r.s, .string x.r.b, .int .i64 x.i, .string x.g]
structure MsOk (w : World) (F : Nat → Prop) (x : Ms) (v1 v2 v3 v4 : Value) : Prop where
  k : I64 x.k
  f : I64 x.f
  t : I64 x.t
  v : I64 x.v
  h : x.h.size ≤ M47
  bv : I64 x.b.v
  bp : I64 x.b.p
  bj : I64 x.b.j.v
  bh : x.b.j.h.size ≤ M47
  bs : SliceOf Rep.sg w F v1 x.b.j.sg
  bq : SliceOf Rep.req w F v2 x.b.q
  cv : I64 x.c.v
  ch : x.c.h.size ≤ M47
  cs : SliceOf Rep.sg w F v3 x.c.sg
  sf : I64 x.s.f
  st : SliceOf Rep.str w F v4 x.s.ts
  rc : I64 x.r.c
  rs : I64 x.r.s
  rb : x.r.b.size ≤ M47
  i : I64 x.i
  g : x.g.size ≤ M47
theorem MsOk.keep {w w' : World} {F : Nat → Prop} {x : Ms} {v1 v2 v3 v4 : Value} (h : MsOk w F x v1 v2 v3 v4) (hk : ∀ k, F k → k < w.heap.size → w'.heap[k]? = w.heap[k]?) : MsOk w' F x v1 v2 v3 v4 :=
  { h with bs := h.bs.keep hk, bq := h.bq.keep hk, cs := h.cs.keep hk, st := h.st.keep hk }
theorem MsOk.mono {w : World} {F G : Nat → Prop} {x : Ms} {v1 v2 v3 v4 : Value} (h : MsOk w F x v1 v2 v3 v4) (hk : ∀ k, F k → k < w.heap.size → G k) : MsOk w G x v1 v2 v3 v4 :=
  { h with bs := h.bs.mono hk, bq := h.bq.mono hk, cs := h.cs.mono hk, st := h.st.mono hk }
def Rep.ms : Rep Ms where
  sz := 21
  R := fun w F x cs => ∃ v1 v2 v3 v4, cs = (msgV x v1 v2 v3 v4).toList ∧ MsOk w F x v1 v2 v3 v4
  len := by rintro _ _ _ _ ⟨_, _, _, _, rfl, _⟩; rfl
  keep := fun ⟨v1, v2, v3, v4, h, h1⟩ k => ⟨v1, v2, v3, v4, h, h1.keep k⟩
  mono := fun ⟨v1, v2, v3, v4, h, h1⟩ k => ⟨v1, v2, v3, v4, h, h1.mono k⟩
end Go.Proofs.Ytdhhibppcckbkaa
