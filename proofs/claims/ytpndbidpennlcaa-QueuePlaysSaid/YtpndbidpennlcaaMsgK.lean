import Derived.Test.YtpndbidpennlcaaLawMsg
namespace Go.Proofs.Ytpndbidpennlcaa
open Go.RowKit
set_option linter.unusedVariables false
set_option linter.unusedSimpArgs false
/-! messages that are written out in the statements -/
def mK (k v s : Int) : Ms := ⟨k, 0, 0, v, ⟨#[]⟩, zBk, ⟨0, ⟨#[]⟩, []⟩, ⟨0, []⟩, ⟨0, s, ⟨#[]⟩⟩, 0, ⟨#[]⟩⟩
abbrev nilV : Value := .slice none 0 0
theorem mK_ok (k v s : Int) (w : World) (F : Nat → Prop) (hk : I64 k) (hv : I64 v) (hs : I64 s) : MsOk w F (mK k v s) nilV nilV nilV nilV := by
  have h0 : I64 0 := by unfold I64; decide
  have h1 : (⟨#[]⟩ : ByteArray).size ≤ M47 := by unfold M47; decide
  exact ⟨hk, h0, h0, hv, h1, h0, h0, h0, h1, SliceOf.nil _ _ _ _ _, SliceOf.nil _ _ _ _ _, h0, h1, SliceOf.nil _ _ _ _ _, h0, SliceOf.nil _ _ _ _ _, h0, hs, h1, h0, h1⟩
theorem i64s (n : Int) (h : -1000 ≤ n ∧ n ≤ 1000) : I64 n := by unfold I64; omega
theorem k6_right : rightMsg (mK 6 0 0) = true := by decide +kernel
theorem k4_right : rightMsg (mK 4 0 1) = true := by decide +kernel
theorem k2_right : rightMsg (mK 2 3 0) = true := by decide +kernel
theorem k6_size : (msgF (mK 6 0 0)).size ≤ 1000 := by decide +kernel
theorem k4_size : (msgF (mK 4 0 1)).size ≤ 1000 := by decide +kernel
theorem k2_size : (msgF (mK 2 3 0)).size ≤ 1000 := by decide +kernel
theorem read_empty : (readMsgF ⟨#[]⟩).2 = 2 := by decide +kernel
end Go.Proofs.Ytpndbidpennlcaa
