import Derived.Test.YtdhhibppcckbkaaReadM3
namespace Go.Proofs.Ytdhhibppcckbkaa
open Go.RowKit
set_option linter.unusedVariables false
set_option linter.unusedSimpArgs false
def zM : Ms := ⟨0, 0, 0, 0, ⟨#[]⟩, zBk, ⟨0, ⟨#[]⟩, []⟩, ⟨0, []⟩, ⟨0, 0, ⟨#[]⟩⟩, 0, ⟨#[]⟩⟩
def readMsgF (b : ByteArray) : Ms × Int := if (msgR ⟨b, false⟩).2.ok = true then ((msgR ⟨b, false⟩).1, 0) else (zM, 2)
theorem zMs_eq : zMs = msgV zM (.slice none 0 0) (.slice none 0 0) (.slice none 0 0) (.slice none 0 0) := rfl
theorem zM_ok (w : World) (F : Nat → Prop) (A1 A2 A3 A4 : Option Addr) (c1 c2 c3 c4 : Nat) : MsOk w F zM (.slice A1 0 c1) (.slice A2 0 c2) (.slice A3 0 c3) (.slice A4 0 c4) := by
  have h0 : I64 0 := by unfold I64; decide
  have h1 : (⟨#[]⟩ : ByteArray).size ≤ M47 := by unfold M47; decide
  exact ⟨h0, h0, h0, h0, h1, h0, h0, h0, h1, SliceOf.nil _ _ _ _ _, SliceOf.nil _ _ _ _ _, h0, h1, SliceOf.nil _ _ _ _ _, h0, SliceOf.nil _ _ _ _ _, h0, h0, h1, h0, h1⟩
end Go.Proofs.Ytdhhibppcckbkaa
