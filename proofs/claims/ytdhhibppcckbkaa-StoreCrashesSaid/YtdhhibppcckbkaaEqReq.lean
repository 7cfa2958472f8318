import Derived.Test.YtdhhibppcckbkaaBase
namespace Go.Proofs.Ytdhhibppcckbkaa
open Go.RowKit
set_option linter.unusedVariables false
set_option linter.unusedSimpArgs false
def eqReq (x y : Req) : Bool := x.c == y.c && (x.s == y.s && x.b.toList == y.b.toList)
theorem eq_req (x y : Req) (w : World) : (binOp .eql 61 (.agg #[.int .i64 x.c, .int .i64 x.s, .string x.b]) (.agg #[.int .i64 y.c, .int .i64 y.s, .string y.b])).run Try.prog w = .ok (.bool (eqReq x y)) w := by
  unfold eqReq
  go_simp
  by_cases h1 : x.c = y.c <;> by_cases h2 : x.s = y.s <;> by_cases h3 : x.b.toList = y.b.toList <;> simp [h1, h2, h3]
theorem eqReq_iff (x y : Req) : eqReq x y = true ↔ x = y := by
  obtain ⟨a, b, c⟩ := x
  obtain ⟨d, e, f⟩ := y
  unfold eqReq
  simp only [Bool.and_eq_true, beq_iff_eq, Req.mk.injEq]
  constructor
  · rintro ⟨h1, h2, h3⟩
    refine ⟨h1, h2, ?_⟩
    rw [ByteArray.toList_eq, ByteArray.toList_eq] at h3
    exact ByteArray.ext (Array.toList_inj.1 h3)
  · rintro ⟨rfl, rfl, rfl⟩; exact ⟨rfl, rfl, rfl⟩
end Go.Proofs.Ytdhhibppcckbkaa
