import Derived.Test.YtdhhibppcckbkaaRead7
import Derived.Test.YtdhhibppcckbkaaWireM
namespace Go.Proofs.Ytdhhibppcckbkaa
open Go.RowKit
set_option linter.unusedVariables false
set_option linter.unusedSimpArgs false
/-! the reader of messages: small functions -/
def thereR (s : St) : Bool × St :=
  let a := cutF 1 s
  let s2 := a.2.check (a.1.toList == [0] || a.1.toList == [1])
  (!s2.bad && a.1.toList == [1], s2)
def shortR (n : Int) (s : St) : ByteArray × St :=
  let a := textR n s
  (a.1, a.2.check ((a.1.size : Int) == 0 || (a.1.size : Int) == n))
end Go.Proofs.Ytdhhibppcckbkaa
