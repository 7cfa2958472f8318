import Derived.Test.YtdhhibppcckbkaaRead4
namespace Go.Proofs.Ytdhhibppcckbkaa
open Go.RowKit
set_option linter.unusedVariables false
set_option linter.unusedSimpArgs false
def readCertF (b : ByteArray) : Ct × Int := if (certR ⟨b, false⟩).2.ok = true then ((certR ⟨b, false⟩).1, 0) else (⟨0, ⟨#[]⟩, []⟩, 2)
/-- requests, what is left -/
def reqsR : Nat → St → List Req × St
  | 0, s => ([], s)
  | k + 1, s => ((reqsR k s).1 ++ [(reqR (reqsR k s).2).1], (reqR (reqsR k s).2).2)
theorem reqsR_len (k : Nat) (s : St) : (reqsR k s).1.length = k := by
  induction k with
  | zero => rfl
  | succ k ih => simp [reqsR, ih]
def blockR (s : St) : Bk × St :=
  let a := numR 1 1000000 s
  let b := numR 0 6 a.2
  let c := certR b.2
  let d := c.2.check (decide (c.1.v < a.1))
  let n := numR 0 3 d
  let q := reqsR n.1.toNat n.2
  (⟨a.1, b.1, c.1, q.1⟩, q.2)
theorem infoReq : (Try.prog.info? 61).map (fun i => (i.zero, i.size, i.bytes)) = some (some (.agg #[.int .i64 0, .int .i64 0, .string ⟨#[]⟩]), Rep.req.sz, 32) := by kernel_rfl
theorem reqR_rep (s : St) (w : World) (F : Nat → Prop) : Rep.req.R w F (reqR s).1 [.int .i64 (reqR s).1.c, .int .i64 (reqR s).1.s, .string (reqR s).1.b] := by
  refine ⟨rfl, ?_, ?_, ?_⟩
  · have := numR_bound 0 3 s
    show I64 (numR 0 3 s).1
    unfold I64; omega
  · have := numR_bound 1 2147483647 (numR 0 3 s).2
    show I64 (numR 1 2147483647 (numR 0 3 s).2).1
    unfold I64; omega
  · have h1 := numR_bound 0 40 (numR 1 2147483647 (numR 0 3 s).2).2
    show (cutF (numR 0 40 (numR 1 2147483647 (numR 0 3 s).2).2).1 (numR 0 40 (numR 1 2147483647 (numR 0 3 s).2).2).2).1.size ≤ M47
    have h2 : 0 ≤ (numR 0 40 (numR 1 2147483647 (numR 0 3 s).2).2).1 := by omega
    obtain ⟨m, hm⟩ := Int.eq_ofNat_of_zero_le h2
    rw [hm]
    have := cutF_len m (numR 0 40 (numR 1 2147483647 (numR 0 3 s).2).2).2
    rw [M47_eq]; omega
end Go.Proofs.Ytdhhibppcckbkaa
