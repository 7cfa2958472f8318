/-
  No cell of these rows narrows 'for every input' (looked for: loops, veiled, ifaces, maps, wideKeys, modest, calm, conditions, laid).
  DERIVED. THE GIVEN ROWS OF THIS SEAT. 5 by the template 'for every input the law returns true; each argument reads behind the call as it read before'; 0 by the template 'total and deterministic' (their statements: YtdhhibppcckbkaaTotals.lean).
  GIVEN WITH THE SEED: the statements are not yours to turn. If you find one false, say at which input.
  Laid BY PROGRAM, IN A SANDBOX (cutbox-rows.mjs): the forced cells as the released guide's own fill.sh prints them over the translation 1cc211d517d8009f… (all of the seat's roots in one cut). By AI agents, Wed Nov 11 2026. No macro, syntax, notation, axiom, sorry.
-/
import Derived.Test.YtdhhibppcckbkaaChecked
import GoSem.Claim
import GoSem.ClaimJoined
import GoSem.ClaimMapViews
import Derived.JoinedTies
import Derived.KernelRfl
namespace Go.Proofs.Ytdhhibppcckbkaa
/- THE CELL 'sum', in the pinned program and in every row, IS THE sha256 OF THE DUMP (.gsa) THAT YtdhhibppcckbkaaProg.lean LOADS. Nothing in Lean hashes anything: it is a label: what it is worth is what the hold of that sum in a sandbox is worth. -/
noncomputable def Try.pinned : Pinned := { name := "ytdhhibppcckbkaa", sum := "1cc211d517d8009fa48a5a7eb53e4f23dd5e957039bc8e937d052e224ef9600b", checked := Try.checked }
namespace Rows
def none {H : Type} : Left H := { results := [], args := [] }

/-- 'comitialaw10.StoreRecords': WHATEVER THE INPUT: true; the input reads as it did. -/
def storeRecordsSpec : ChangeSpec := { name := "storeRecords", fn := fun _ => fun
  | [d1, d2] => { results := [.lit (.bool true)], args := [d1, d2] }
  | _ => none }
def storeRecordsRow : OpenClaim := { program := "ytdhhibppcckbkaa", sum := "1cc211d517d8009fa48a5a7eb53e4f23dd5e957039bc8e937d052e224ef9600b", func := "comitia/comitialaw10.StoreRecords", spec := "storeRecords", unfollowed := true, recurses := true, apart := false }
def StoreRecordsSaid : Prop := storeRecordsRow.holds Try.pinned (OpenSpec.ofChange storeRecordsSpec)

/-- ITS FALSE NEIGHBOUR: 'it returns false'. Refute it at one input. -/
def storeRecordsWrong : ChangeSpec := { name := "storeRecords", fn := fun _ => fun
  | [d1, d2] => { results := [.lit (.bool false)], args := [d1, d2] }
  | _ => none }
def StoreRecordsWrongFalsely : Prop := storeRecordsRow.holds Try.pinned (OpenSpec.ofChange storeRecordsWrong)

/-- 'comitialaw10.StoreRecalls': WHATEVER THE INPUT: true; the input reads as it did. -/
def storeRecallsSpec : ChangeSpec := { name := "storeRecalls", fn := fun _ => fun
  | [d] => { results := [.lit (.bool true)], args := [d] }
  | _ => none }
def storeRecallsRow : OpenClaim := { program := "ytdhhibppcckbkaa", sum := "1cc211d517d8009fa48a5a7eb53e4f23dd5e957039bc8e937d052e224ef9600b", func := "comitia/comitialaw10.StoreRecalls", spec := "storeRecalls", unfollowed := true, recurses := true, apart := false }
def StoreRecallsSaid : Prop := storeRecallsRow.holds Try.pinned (OpenSpec.ofChange storeRecallsSpec)

/-- ITS FALSE NEIGHBOUR: 'it returns false'. Refute it at one input. -/
def storeRecallsWrong : ChangeSpec := { name := "storeRecalls", fn := fun _ => fun
  | [d] => { results := [.lit (.bool false)], args := [d] }
  | _ => none }
def StoreRecallsWrongFalsely : Prop := storeRecallsRow.holds Try.pinned (OpenSpec.ofChange storeRecallsWrong)

/-- 'comitialaw10.StoreSaves': WHATEVER THE INPUT: true; the input reads as it did. -/
def storeSavesSpec : ChangeSpec := { name := "storeSaves", fn := fun _ => fun
  | [d] => { results := [.lit (.bool true)], args := [d] }
  | _ => none }
def storeSavesRow : OpenClaim := { program := "ytdhhibppcckbkaa", sum := "1cc211d517d8009fa48a5a7eb53e4f23dd5e957039bc8e937d052e224ef9600b", func := "comitia/comitialaw10.StoreSaves", spec := "storeSaves", unfollowed := true, recurses := true, apart := false }
def StoreSavesSaid : Prop := storeSavesRow.holds Try.pinned (OpenSpec.ofChange storeSavesSpec)

/-- ITS FALSE NEIGHBOUR: 'it returns false'. Refute it at one input. -/
def storeSavesWrong : ChangeSpec := { name := "storeSaves", fn := fun _ => fun
  | [d] => { results := [.lit (.bool false)], args := [d] }
  | _ => none }
def StoreSavesWrongFalsely : Prop := storeSavesRow.holds Try.pinned (OpenSpec.ofChange storeSavesWrong)

/-- 'comitialaw10.StoreTwice': WHATEVER THE INPUT: true; the input reads as it did. -/
def storeTwiceSpec : ChangeSpec := { name := "storeTwice", fn := fun _ => fun
  | [d] => { results := [.lit (.bool true)], args := [d] }
  | _ => none }
def storeTwiceRow : OpenClaim := { program := "ytdhhibppcckbkaa", sum := "1cc211d517d8009fa48a5a7eb53e4f23dd5e957039bc8e937d052e224ef9600b", func := "comitia/comitialaw10.StoreTwice", spec := "storeTwice", unfollowed := true, recurses := true, apart := false }
def StoreTwiceSaid : Prop := storeTwiceRow.holds Try.pinned (OpenSpec.ofChange storeTwiceSpec)

/-- ITS FALSE NEIGHBOUR: 'it returns false'. Refute it at one input. -/
def storeTwiceWrong : ChangeSpec := { name := "storeTwice", fn := fun _ => fun
  | [d] => { results := [.lit (.bool false)], args := [d] }
  | _ => none }
def StoreTwiceWrongFalsely : Prop := storeTwiceRow.holds Try.pinned (OpenSpec.ofChange storeTwiceWrong)

/-- 'comitialaw10.StoreCrashes': WHATEVER THE INPUT: true; the input reads as it did. -/
def storeCrashesSpec : ChangeSpec := { name := "storeCrashes", fn := fun _ => fun
  | [d] => { results := [.lit (.bool true)], args := [d] }
  | _ => none }
def storeCrashesRow : OpenClaim := { program := "ytdhhibppcckbkaa", sum := "1cc211d517d8009fa48a5a7eb53e4f23dd5e957039bc8e937d052e224ef9600b", func := "comitia/comitialaw10.StoreCrashes", spec := "storeCrashes", unfollowed := true, recurses := true, apart := false }
def StoreCrashesSaid : Prop := storeCrashesRow.holds Try.pinned (OpenSpec.ofChange storeCrashesSpec)

/-- ITS FALSE NEIGHBOUR: 'it returns false'. Refute it at one input. -/
def storeCrashesWrong : ChangeSpec := { name := "storeCrashes", fn := fun _ => fun
  | [d] => { results := [.lit (.bool false)], args := [d] }
  | _ => none }
def StoreCrashesWrongFalsely : Prop := storeCrashesRow.holds Try.pinned (OpenSpec.ofChange storeCrashesWrong)

/- THE SECOND FORM. 'bulk': how many values and letters a reading holds, each counted each time it is reached (what is shared counts as often as it is met; a slice's spare places count too). A statement '..UptoSaid' is the law's where the arguments, and the package variables that the reading takes, are together of bulk at most 1048576: NARROWER than '..Said'. Prove '..Said' where nothing that the law and all that it calls make is longer than what came in: it says more and counts as full. Else prove '..UptoSaid'. A law counts once. -/
mutual
def uptoBulk {H : Type} : DataW H → Nat
  | .lit (.string bytes) => bytes.length + 1
  | .lit _ => 1
  | .nil => 1
  | .ptr d => uptoBulk d + 1
  | .slice elems spare => uptoBulkAll elems + uptoBulkAll spare + 1
  | .agg parts => uptoBulkAll parts + 1
  | .iface _ d => uptoBulk d + 1
  | .map entries => uptoBulkEntries entries + 1
  | .held _ => 1
def uptoBulkAll {H : Type} : List (DataW H) → Nat
  | [] => 0
  | d :: r => uptoBulk d + uptoBulkAll r
def uptoBulkEntries {H : Type} : List (Lit × DataW H) → Nat
  | [] => 0
  | x :: r => uptoBulkEntry x + uptoBulkEntries r
def uptoBulkEntry {H : Type} : Lit × DataW H → Nat
  | (.string bytes, d) => bytes.length + uptoBulk d + 1
  | (_, d) => uptoBulk d + 1
 end
def uptoSmall : (H : Type) → List (DataW H) → Bool := fun _ ds => decide (uptoBulkAll ds ≤ 1048576)
def OpenSpec.upto (s : _root_.Go.ChangeSpec) : _root_.Go.OpenSpec := { _root_.Go.OpenSpec.ofChange s with cond := some uptoSmall }

/-- 'comitialaw10.StoreRecords', WHERE WHAT IT READS IS OF BULK AT MOST 1048576: true; the input reads as it did. -/
def storeRecordsUptoRow : OpenClaim := { program := "ytdhhibppcckbkaa", sum := "1cc211d517d8009fa48a5a7eb53e4f23dd5e957039bc8e937d052e224ef9600b", func := "comitia/comitialaw10.StoreRecords", spec := "storeRecords", unfollowed := true, recurses := true, apart := false, narrowed := true }
def StoreRecordsUptoSaid : Prop := storeRecordsUptoRow.holds Try.pinned (OpenSpec.upto storeRecordsSpec)

/-- 'comitialaw10.StoreRecalls', WHERE WHAT IT READS IS OF BULK AT MOST 1048576: true; the input reads as it did. -/
def storeRecallsUptoRow : OpenClaim := { program := "ytdhhibppcckbkaa", sum := "1cc211d517d8009fa48a5a7eb53e4f23dd5e957039bc8e937d052e224ef9600b", func := "comitia/comitialaw10.StoreRecalls", spec := "storeRecalls", unfollowed := true, recurses := true, apart := false, narrowed := true }
def StoreRecallsUptoSaid : Prop := storeRecallsUptoRow.holds Try.pinned (OpenSpec.upto storeRecallsSpec)

/-- 'comitialaw10.StoreSaves', WHERE WHAT IT READS IS OF BULK AT MOST 1048576: true; the input reads as it did. -/
def storeSavesUptoRow : OpenClaim := { program := "ytdhhibppcckbkaa", sum := "1cc211d517d8009fa48a5a7eb53e4f23dd5e957039bc8e937d052e224ef9600b", func := "comitia/comitialaw10.StoreSaves", spec := "storeSaves", unfollowed := true, recurses := true, apart := false, narrowed := true }
def StoreSavesUptoSaid : Prop := storeSavesUptoRow.holds Try.pinned (OpenSpec.upto storeSavesSpec)

/-- 'comitialaw10.StoreTwice', WHERE WHAT IT READS IS OF BULK AT MOST 1048576: true; the input reads as it did. -/
def storeTwiceUptoRow : OpenClaim := { program := "ytdhhibppcckbkaa", sum := "1cc211d517d8009fa48a5a7eb53e4f23dd5e957039bc8e937d052e224ef9600b", func := "comitia/comitialaw10.StoreTwice", spec := "storeTwice", unfollowed := true, recurses := true, apart := false, narrowed := true }
def StoreTwiceUptoSaid : Prop := storeTwiceUptoRow.holds Try.pinned (OpenSpec.upto storeTwiceSpec)

/-- 'comitialaw10.StoreCrashes', WHERE WHAT IT READS IS OF BULK AT MOST 1048576: true; the input reads as it did. -/
def storeCrashesUptoRow : OpenClaim := { program := "ytdhhibppcckbkaa", sum := "1cc211d517d8009fa48a5a7eb53e4f23dd5e957039bc8e937d052e224ef9600b", func := "comitia/comitialaw10.StoreCrashes", spec := "storeCrashes", unfollowed := true, recurses := true, apart := false, narrowed := true }
def StoreCrashesUptoSaid : Prop := storeCrashesUptoRow.holds Try.pinned (OpenSpec.upto storeCrashesSpec)

end Rows
end Go.Proofs.Ytdhhibppcckbkaa
