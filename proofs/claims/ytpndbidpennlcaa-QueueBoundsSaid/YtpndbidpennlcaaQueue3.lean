import Derived.Test.YtpndbidpennlcaaQueue2
namespace Go.Proofs.Ytpndbidpennlcaa
open Go.RowKit
set_option linter.unusedVariables false
set_option linter.unusedSimpArgs false
/-! the queue: Pop -/
set_option maxHeartbeats 2000000 in
theorem qpop_none (q : Nat) (A B : Option Addr) (c1 c2 : Nat) (d i : Int) (w : World) (h : QAt w q (.slice A 0 c1) (.slice B 0 c2) d) :
    Calls Try.prog 12 #[.pointer (some ⟨q, 0, none⟩), .int .i64 i] w fun e w' => e = .returned (.tuple #[.agg zMs, .bool false]) ∧ Keep [] w w' := by
  go_enter Try.func12, Try.ntmps12
  go_wp2_with (first
    | ((with_reducible refine wl_alloc 38 ?_ ?_); (with_reducible rfl); refine sx_alloc rfl 38 rfl _ 21 zMs zMs_info rfl ?_; intro w2 b2 k2 z2; clear z2; (try simp only [Act.put, List.setIfInBounds_toArray, List.set_cons_zero, List.set_cons_succ])))
  refine (qlen_call q A B 0 0 c1 c2 d _ (Blk.keep h k2 (by simp)) (by omega) (by omega)).mono ?_
  rintro e w3 ⟨rfl, k3⟩
  have b3 := b2.keep k3 (by simp)
  go_wp2_with (first
    | ((with_reducible refine wl_build 38 _ ?_ ?_); (with_reducible rfl); refine sx_build rfl 38 _ rfl zMs (by kernel_rfl) ?_; (try simp only [Act.put, List.setIfInBounds_toArray, List.set_cons_zero, List.set_cons_succ]))
    | ((with_reducible refine wl_store 38 (.tmp 4) (.tmp 14) ?_ ?_); (with_reducible rfl); refine sx_storeW rfl 38 (.tmp 4) (.tmp 14) rfl w.heap.size _ zMs _ 21 rfl rfl b3 zMs_size rfl rfl rfl ?_; intro w4 b4 k4 z4; clear z4; (try simp only [Act.put, List.setIfInBounds_toArray, List.set_cons_zero, List.set_cons_succ])))
  refine ret_cell2 rfl rfl rfl b4 Try.underlying38 rfl zMs_size _ rfl ?_
  exact ⟨rfl, (k2.trans k3).new k4 (fun i hi => .inr (by simp at hi; omega))⟩
end Go.Proofs.Ytpndbidpennlcaa
