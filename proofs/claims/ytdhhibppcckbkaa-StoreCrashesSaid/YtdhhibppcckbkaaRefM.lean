import Derived.Test.YtdhhibppcckbkaaWireM2
import Derived.Test.YtdhhibppcckbkaaThyM
namespace Go.Proofs.Ytdhhibppcckbkaa
open Go.RowKit
set_option linter.unusedVariables false
set_option linter.unusedSimpArgs false
theorem ret_str {a b : ByteArray} (h : a = b) : Ending.returned (.string a) = .returned (.string b) := by rw [h]
end Go.Proofs.Ytdhhibppcckbkaa
