import Derived.Test.YtdhhibppcckbkaaRead2
import Derived.Test.YtdhhibppcckbkaaRef
namespace Go.Proofs.Ytdhhibppcckbkaa
open Go.RowKit
set_option linter.unusedVariables false
set_option linter.unusedSimpArgs false
theorem awake_eq : reqF ⟨1, 2, ⟨#[97]⟩⟩ = ⟨#[0, 0, 0, 1, 0, 0, 0, 2, 0, 0, 0, 1, 97]⟩ := by decide +kernel
/-- what is right is read as it was -/
def P1 : Prop := ∀ r : Req, rightReq r = true → readReqF (reqF r) = (r, 0)
def P2 : Prop := ∀ b, (readReqF b = (⟨0, 0, ⟨#[]⟩⟩, 2)) ∨ ∃ x, readReqF b = (x, 0) ∧ rightReq x = true ∧ reqF x = b
end Go.Proofs.Ytdhhibppcckbkaa
