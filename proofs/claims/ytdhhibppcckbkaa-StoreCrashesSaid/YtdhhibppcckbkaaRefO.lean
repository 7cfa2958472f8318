import Derived.Test.YtdhhibppcckbkaaRefN
namespace Go.Proofs.Ytdhhibppcckbkaa
open Go.RowKit
set_option linter.unusedVariables false
set_option linter.unusedSimpArgs false
theorem ret_bool {a b : Bool} (h : a = b) : Ending.returned (.bool a) = .returned (.bool b) := by rw [h]
theorem toList_nil_iff (b : ByteArray) : b.toList = [] ↔ b.size = 0 := by
  rw [ByteArray.toList_eq]
  constructor
  · intro h
    have : b.data.toList.length = 0 := by rw [h]; rfl
    simpa using this
  · intro h
    have : b.data.toList.length = 0 := by simpa using h
    exact List.eq_nil_of_length_eq_zero this
end Go.Proofs.Ytdhhibppcckbkaa
