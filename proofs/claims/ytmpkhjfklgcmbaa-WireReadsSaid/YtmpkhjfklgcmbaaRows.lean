/-
  No cell of these rows narrows 'for every input' (looked for: loops, veiled, ifaces, maps, wideKeys, modest, calm, conditions, laid).
  DERIVED. THE GIVEN ROWS OF THIS SEAT. 7 by the template 'for every input the law returns true; each argument reads behind the call as it read before'; 0 by the template 'total and deterministic' (their statements: YtmpkhjfklgcmbaaTotals.lean).
  GIVEN WITH THE SEED: the statements are not yours to turn. If you find one false, say at which input.
  Laid BY PROGRAM, IN A SANDBOX (cutbox-rows.mjs): the forced cells as the released guide's own fill.sh prints them over the translation 89ecfacca488962e… (all of the seat's roots in one cut). By AI agents, Wed Nov 11 2026. No macro, syntax, notation, axiom, sorry.
-/
import Derived.Test.YtmpkhjfklgcmbaaChecked
import GoSem.Claim
import GoSem.ClaimJoined
import GoSem.ClaimMapViews
import Derived.JoinedTies
import Derived.KernelRfl
namespace Go.Proofs.Ytmpkhjfklgcmbaa
/- THE CELL 'sum', in the pinned program and in every row, IS THE sha256 OF THE DUMP (.gsa) THAT YtmpkhjfklgcmbaaProg.lean LOADS. Nothing in Lean hashes anything: it is a label: what it is worth is what the hold of that sum in a sandbox is worth. -/
noncomputable def Try.pinned : Pinned := { name := "ytmpkhjfklgcmbaa", sum := "89ecfacca488962e734b0d39b210210a542a43396f0a1af9a7a268d2877a98bf", checked := Try.checked }
namespace Rows
def none {H : Type} : Left H := { results := [], args := [] }

/-- 'comitialaw02.WireNumbers': WHATEVER THE INPUT: true; the input reads as it did. -/
def wireNumbersSpec : ChangeSpec := { name := "wireNumbers", fn := fun _ => fun
  | [d1, d2, d3] => { results := [.lit (.bool true)], args := [d1, d2, d3] }
  | _ => none }
def wireNumbersRow : OpenClaim := { program := "ytmpkhjfklgcmbaa", sum := "89ecfacca488962e734b0d39b210210a542a43396f0a1af9a7a268d2877a98bf", func := "comitia/comitialaw02.WireNumbers", spec := "wireNumbers", apart := false }
def WireNumbersSaid : Prop := wireNumbersRow.holds Try.pinned (OpenSpec.ofChange wireNumbersSpec)

/-- ITS FALSE NEIGHBOUR: 'it returns false'. Refute it at one input. -/
def wireNumbersWrong : ChangeSpec := { name := "wireNumbers", fn := fun _ => fun
  | [d1, d2, d3] => { results := [.lit (.bool false)], args := [d1, d2, d3] }
  | _ => none }
def WireNumbersWrongFalsely : Prop := wireNumbersRow.holds Try.pinned (OpenSpec.ofChange wireNumbersWrong)

/-- 'comitialaw02.WireApart': WHATEVER THE INPUT: true; the input reads as it did. -/
def wireApartSpec : ChangeSpec := { name := "wireApart", fn := fun _ => fun
  | [d1, d2] => { results := [.lit (.bool true)], args := [d1, d2] }
  | _ => none }
def wireApartRow : OpenClaim := { program := "ytmpkhjfklgcmbaa", sum := "89ecfacca488962e734b0d39b210210a542a43396f0a1af9a7a268d2877a98bf", func := "comitia/comitialaw02.WireApart", spec := "wireApart", apart := false }
def WireApartSaid : Prop := wireApartRow.holds Try.pinned (OpenSpec.ofChange wireApartSpec)

/-- ITS FALSE NEIGHBOUR: 'it returns false'. Refute it at one input. -/
def wireApartWrong : ChangeSpec := { name := "wireApart", fn := fun _ => fun
  | [d1, d2] => { results := [.lit (.bool false)], args := [d1, d2] }
  | _ => none }
def WireApartWrongFalsely : Prop := wireApartRow.holds Try.pinned (OpenSpec.ofChange wireApartWrong)

/-- 'comitialaw02.WireRequests': WHATEVER THE INPUT: true; the input reads as it did. -/
def wireRequestsSpec : ChangeSpec := { name := "wireRequests", fn := fun _ => fun
  | [d] => { results := [.lit (.bool true)], args := [d] }
  | _ => none }
def wireRequestsRow : OpenClaim := { program := "ytmpkhjfklgcmbaa", sum := "89ecfacca488962e734b0d39b210210a542a43396f0a1af9a7a268d2877a98bf", func := "comitia/comitialaw02.WireRequests", spec := "wireRequests", apart := false }
def WireRequestsSaid : Prop := wireRequestsRow.holds Try.pinned (OpenSpec.ofChange wireRequestsSpec)

/-- ITS FALSE NEIGHBOUR: 'it returns false'. Refute it at one input. -/
def wireRequestsWrong : ChangeSpec := { name := "wireRequests", fn := fun _ => fun
  | [d] => { results := [.lit (.bool false)], args := [d] }
  | _ => none }
def WireRequestsWrongFalsely : Prop := wireRequestsRow.holds Try.pinned (OpenSpec.ofChange wireRequestsWrong)

/-- 'comitialaw02.WireCerts': WHATEVER THE INPUT: true; the input reads as it did. -/
def wireCertsSpec : ChangeSpec := { name := "wireCerts", fn := fun _ => fun
  | [d] => { results := [.lit (.bool true)], args := [d] }
  | _ => none }
def wireCertsRow : OpenClaim := { program := "ytmpkhjfklgcmbaa", sum := "89ecfacca488962e734b0d39b210210a542a43396f0a1af9a7a268d2877a98bf", func := "comitia/comitialaw02.WireCerts", spec := "wireCerts", apart := false }
def WireCertsSaid : Prop := wireCertsRow.holds Try.pinned (OpenSpec.ofChange wireCertsSpec)

/-- ITS FALSE NEIGHBOUR: 'it returns false'. Refute it at one input. -/
def wireCertsWrong : ChangeSpec := { name := "wireCerts", fn := fun _ => fun
  | [d] => { results := [.lit (.bool false)], args := [d] }
  | _ => none }
def WireCertsWrongFalsely : Prop := wireCertsRow.holds Try.pinned (OpenSpec.ofChange wireCertsWrong)

/-- 'comitialaw02.WireBlocks': WHATEVER THE INPUT: true; the input reads as it did. -/
def wireBlocksSpec : ChangeSpec := { name := "wireBlocks", fn := fun _ => fun
  | [d] => { results := [.lit (.bool true)], args := [d] }
  | _ => none }
def wireBlocksRow : OpenClaim := { program := "ytmpkhjfklgcmbaa", sum := "89ecfacca488962e734b0d39b210210a542a43396f0a1af9a7a268d2877a98bf", func := "comitia/comitialaw02.WireBlocks", spec := "wireBlocks", apart := false }
def WireBlocksSaid : Prop := wireBlocksRow.holds Try.pinned (OpenSpec.ofChange wireBlocksSpec)

/-- ITS FALSE NEIGHBOUR: 'it returns false'. Refute it at one input. -/
def wireBlocksWrong : ChangeSpec := { name := "wireBlocks", fn := fun _ => fun
  | [d] => { results := [.lit (.bool false)], args := [d] }
  | _ => none }
def WireBlocksWrongFalsely : Prop := wireBlocksRow.holds Try.pinned (OpenSpec.ofChange wireBlocksWrong)

/-- 'comitialaw02.WireReads': WHATEVER THE INPUT: true; the input reads as it did. -/
def wireReadsSpec : ChangeSpec := { name := "wireReads", fn := fun _ => fun
  | [d] => { results := [.lit (.bool true)], args := [d] }
  | _ => none }
def wireReadsRow : OpenClaim := { program := "ytmpkhjfklgcmbaa", sum := "89ecfacca488962e734b0d39b210210a542a43396f0a1af9a7a268d2877a98bf", func := "comitia/comitialaw02.WireReads", spec := "wireReads", apart := false }
def WireReadsSaid : Prop := wireReadsRow.holds Try.pinned (OpenSpec.ofChange wireReadsSpec)

/-- ITS FALSE NEIGHBOUR: 'it returns false'. Refute it at one input. -/
def wireReadsWrong : ChangeSpec := { name := "wireReads", fn := fun _ => fun
  | [d] => { results := [.lit (.bool false)], args := [d] }
  | _ => none }
def WireReadsWrongFalsely : Prop := wireReadsRow.holds Try.pinned (OpenSpec.ofChange wireReadsWrong)

/-- 'comitialaw02.WireMsgs': WHATEVER THE INPUT: true; the input reads as it did. -/
def wireMsgsSpec : ChangeSpec := { name := "wireMsgs", fn := fun _ => fun
  | [d] => { results := [.lit (.bool true)], args := [d] }
  | _ => none }
def wireMsgsRow : OpenClaim := { program := "ytmpkhjfklgcmbaa", sum := "89ecfacca488962e734b0d39b210210a542a43396f0a1af9a7a268d2877a98bf", func := "comitia/comitialaw02.WireMsgs", spec := "wireMsgs", apart := false }
def WireMsgsSaid : Prop := wireMsgsRow.holds Try.pinned (OpenSpec.ofChange wireMsgsSpec)

/-- ITS FALSE NEIGHBOUR: 'it returns false'. Refute it at one input. -/
def wireMsgsWrong : ChangeSpec := { name := "wireMsgs", fn := fun _ => fun
  | [d] => { results := [.lit (.bool false)], args := [d] }
  | _ => none }
def WireMsgsWrongFalsely : Prop := wireMsgsRow.holds Try.pinned (OpenSpec.ofChange wireMsgsWrong)

/- THE SECOND FORM. 'bulk': how many values and letters a reading holds, each counted each time it is reached (what is shared counts as often as it is met; a slice's spare places count too). A statement '..UptoSaid' is the law's where the arguments, and the package variables that the reading takes, are together of bulk at most 1048576: NARROWER than '..Said'. Prove '..Said' where nothing that the law and all that it calls make is longer than what came in: it says more and counts as full. Else prove '..UptoSaid'. A law counts once. -/
mutual
def uptoBulk {H : Type} : DataW H → Nat
  | .lit (.string bytes) => bytes.length + 1
  | .lit _ => 1
  | .nil => 1
  | .ptr d => uptoBulk d + 1
  | .slice elems spare => uptoBulkAll elems + uptoBulkAll spare + 1
  | .agg parts => uptoBulkAll parts + 1
  | .iface _ d => uptoBulk d + 1
  | .map entries => uptoBulkEntries entries + 1
  | .held _ => 1
def uptoBulkAll {H : Type} : List (DataW H) → Nat
  | [] => 0
  | d :: r => uptoBulk d + uptoBulkAll r
def uptoBulkEntries {H : Type} : List (Lit × DataW H) → Nat
  | [] => 0
  | x :: r => uptoBulkEntry x + uptoBulkEntries r
def uptoBulkEntry {H : Type} : Lit × DataW H → Nat
  | (.string bytes, d) => bytes.length + uptoBulk d + 1
  | (_, d) => uptoBulk d + 1
 end
def uptoSmall : (H : Type) → List (DataW H) → Bool := fun _ ds => decide (uptoBulkAll ds ≤ 1048576)
def OpenSpec.upto (s : _root_.Go.ChangeSpec) : _root_.Go.OpenSpec := { _root_.Go.OpenSpec.ofChange s with cond := some uptoSmall }

/-- 'comitialaw02.WireNumbers', WHERE WHAT IT READS IS OF BULK AT MOST 1048576: true; the input reads as it did. -/
def wireNumbersUptoRow : OpenClaim := { program := "ytmpkhjfklgcmbaa", sum := "89ecfacca488962e734b0d39b210210a542a43396f0a1af9a7a268d2877a98bf", func := "comitia/comitialaw02.WireNumbers", spec := "wireNumbers", apart := false, narrowed := true }
def WireNumbersUptoSaid : Prop := wireNumbersUptoRow.holds Try.pinned (OpenSpec.upto wireNumbersSpec)

/-- 'comitialaw02.WireApart', WHERE WHAT IT READS IS OF BULK AT MOST 1048576: true; the input reads as it did. -/
def wireApartUptoRow : OpenClaim := { program := "ytmpkhjfklgcmbaa", sum := "89ecfacca488962e734b0d39b210210a542a43396f0a1af9a7a268d2877a98bf", func := "comitia/comitialaw02.WireApart", spec := "wireApart", apart := false, narrowed := true }
def WireApartUptoSaid : Prop := wireApartUptoRow.holds Try.pinned (OpenSpec.upto wireApartSpec)

/-- 'comitialaw02.WireRequests', WHERE WHAT IT READS IS OF BULK AT MOST 1048576: true; the input reads as it did. -/
def wireRequestsUptoRow : OpenClaim := { program := "ytmpkhjfklgcmbaa", sum := "89ecfacca488962e734b0d39b210210a542a43396f0a1af9a7a268d2877a98bf", func := "comitia/comitialaw02.WireRequests", spec := "wireRequests", apart := false, narrowed := true }
def WireRequestsUptoSaid : Prop := wireRequestsUptoRow.holds Try.pinned (OpenSpec.upto wireRequestsSpec)

/-- 'comitialaw02.WireCerts', WHERE WHAT IT READS IS OF BULK AT MOST 1048576: true; the input reads as it did. -/
def wireCertsUptoRow : OpenClaim := { program := "ytmpkhjfklgcmbaa", sum := "89ecfacca488962e734b0d39b210210a542a43396f0a1af9a7a268d2877a98bf", func := "comitia/comitialaw02.WireCerts", spec := "wireCerts", apart := false, narrowed := true }
def WireCertsUptoSaid : Prop := wireCertsUptoRow.holds Try.pinned (OpenSpec.upto wireCertsSpec)

/-- 'comitialaw02.WireBlocks', WHERE WHAT IT READS IS OF BULK AT MOST 1048576: true; the input reads as it did. -/
def wireBlocksUptoRow : OpenClaim := { program := "ytmpkhjfklgcmbaa", sum := "89ecfacca488962e734b0d39b210210a542a43396f0a1af9a7a268d2877a98bf", func := "comitia/comitialaw02.WireBlocks", spec := "wireBlocks", apart := false, narrowed := true }
def WireBlocksUptoSaid : Prop := wireBlocksUptoRow.holds Try.pinned (OpenSpec.upto wireBlocksSpec)

/-- 'comitialaw02.WireReads', WHERE WHAT IT READS IS OF BULK AT MOST 1048576: true; the input reads as it did. -/
def wireReadsUptoRow : OpenClaim := { program := "ytmpkhjfklgcmbaa", sum := "89ecfacca488962e734b0d39b210210a542a43396f0a1af9a7a268d2877a98bf", func := "comitia/comitialaw02.WireReads", spec := "wireReads", apart := false, narrowed := true }
def WireReadsUptoSaid : Prop := wireReadsUptoRow.holds Try.pinned (OpenSpec.upto wireReadsSpec)

/-- 'comitialaw02.WireMsgs', WHERE WHAT IT READS IS OF BULK AT MOST 1048576: true; the input reads as it did. -/
def wireMsgsUptoRow : OpenClaim := { program := "ytmpkhjfklgcmbaa", sum := "89ecfacca488962e734b0d39b210210a542a43396f0a1af9a7a268d2877a98bf", func := "comitia/comitialaw02.WireMsgs", spec := "wireMsgs", apart := false, narrowed := true }
def WireMsgsUptoSaid : Prop := wireMsgsUptoRow.holds Try.pinned (OpenSpec.upto wireMsgsSpec)

end Rows
end Go.Proofs.Ytmpkhjfklgcmbaa
