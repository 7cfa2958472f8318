import Derived.Test.YtdhhibppcckbkaaRefM
namespace Go.Proofs.Ytdhhibppcckbkaa
open Go.RowKit
set_option linter.unusedVariables false
set_option linter.unusedSimpArgs false
def fewMsg (x : Ms) : Bool := fewBlock x.b && (fewCert x.c && (fewSig x.s && (decide ((x.h.size : Int) ≤ 50) && (decide ((x.g.size : Int) ≤ 50) && decide ((x.r.b.size : Int) ≤ 60)))))
end Go.Proofs.Ytdhhibppcckbkaa
