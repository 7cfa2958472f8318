import Derived.Test.YtpndbidpennlcaaRead6
namespace Go.Proofs.Ytpndbidpennlcaa
open Go.RowKit
set_option linter.unusedVariables false
set_option linter.unusedSimpArgs false
def readBlockF (b : ByteArray) : Bk × Int := if (blockR ⟨b, false⟩).2.ok = true then ((blockR ⟨b, false⟩).1, 0) else (⟨0, 0, ⟨0, ⟨#[]⟩, []⟩, []⟩, 2)
end Go.Proofs.Ytpndbidpennlcaa
