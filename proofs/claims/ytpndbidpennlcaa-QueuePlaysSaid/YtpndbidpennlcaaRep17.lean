import Derived.Test.YtpndbidpennlcaaStrcR
namespace Go.Proofs.Ytpndbidpennlcaa
open Go.RowKit
set_option linter.unusedVariables false
set_option linter.unusedSimpArgs false
/-! a call of layer 17 -/
structure Op17 where
  k : Int
  m : Ms
  i : Int
def opV17 (x : Op17) (v1 v2 v3 v4 : Value) : Array Value := #[(.int .u8 x.k), (.int .i64 x.m.k), (.int .i64 x.m.f), (.int .i64 x.m.t), (.int .i64 x.m.v), (.string x.m.h), (.int .i64 x.m.b.v), (.int .i64 x.m.b.p), (.int .i64 x.m.b.j.v), (.string x.m.b.j.h), (v1), (v2), (.int .i64 x.m.c.v), (.string x.m.c.h), (v3), (.int .i64 x.m.s.f), (v4), (.int .i64 x.m.r.c), (.int .i64 x.m.r.s), (.string x.m.r.b), (.int .i64 x.m.i), (.string x.m.g), (.int .i64 x.i)]
def Rep.op17 : Rep Op17 where
  sz := 23
  R := fun w F x cs => ∃ v1 v2 v3 v4, cs = (opV17 x v1 v2 v3 v4).toList ∧ (0 ≤ x.k ∧ x.k ≤ 255) ∧ MsOk w F x.m v1 v2 v3 v4 ∧ I64 x.i
  len := by rintro _ _ _ _ ⟨_, _, _, _, rfl, _⟩; rfl
  keep := fun ⟨v1, v2, v3, v4, h, h0, h1, h2⟩ k => ⟨v1, v2, v3, v4, h, h0, h1.keep k, h2⟩
  mono := fun ⟨v1, v2, v3, v4, h, h0, h1, h2⟩ k => ⟨v1, v2, v3, v4, h, h0, h1.mono k, h2⟩
theorem SliceOf.op17_at {w : World} {F : Nat → Prop} {A : Option Addr} {n c : Nat} {xs : List Op17} (h : SliceOf Rep.op17 w F (.slice A n c) xs) {i : Nat} (hi : i < xs.length) :
    ∃ g o v1 v2 v3 v4, A = some ⟨g, o, none⟩ ∧ (∀ j v, (opV17 xs[i] v1 v2 v3 v4)[j]? = some v → w.cell? ⟨g, o + i * 23 + j, none⟩ = some v) ∧ (0 ≤ xs[i].k ∧ xs[i].k ≤ 255) ∧ MsOk w F xs[i].m v1 v2 v3 v4 ∧ I64 xs[i].i := by
  obtain ⟨g, o, cs, rfl, _, _, ⟨v1, v2, v3, v4, rfl, h0, hm, h2⟩, hc⟩ := h.at hi
  exact ⟨g, o, v1, v2, v3, v4, rfl, fun j v hj => by rw [Nat.add_assoc]; exact hc j v (by simpa [opV17] using hj), h0, hm, h2⟩
end Go.Proofs.Ytpndbidpennlcaa
