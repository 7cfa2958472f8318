/-
  No cell of these rows narrows 'for every input' (looked for: loops, veiled, ifaces, maps, wideKeys, modest, calm, conditions, laid).
  DERIVED. THE GIVEN ROWS OF THIS SEAT. 3 by the template 'for every input the law returns true; each argument reads behind the call as it read before'; 0 by the template 'total and deterministic' (their statements: YthkbgokkghidbaaTotals.lean).
  GIVEN WITH THE SEED: the statements are not yours to turn. If you find one false, say at which input.
  Laid BY PROGRAM, IN A SANDBOX (cutbox-rows.mjs): the forced cells as the released guide's own fill.sh prints them over the translation acd69e2ac33c8e4f… (all of the seat's roots in one cut). By AI agents, Wed Nov 11 2026. No macro, syntax, notation, axiom, sorry.
-/
import Derived.Test.YthkbgokkghidbaaChecked
import GoSem.Claim
import GoSem.ClaimJoined
import GoSem.ClaimMapViews
import Derived.JoinedTies
import Derived.KernelRfl
namespace Go.Proofs.Ythkbgokkghidbaa
/- THE CELL 'sum', in the pinned program and in every row, IS THE sha256 OF THE DUMP (.gsa) THAT YthkbgokkghidbaaProg.lean LOADS. Nothing in Lean hashes anything: it is a label: what it is worth is what the hold of that sum in a sandbox is worth. -/
noncomputable def Try.pinned : Pinned := { name := "ythkbgokkghidbaa", sum := "acd69e2ac33c8e4fd63674c0ac5e72c58e86e9e36e18dbaac9e639d0dfe1dee0", checked := Try.checked }
namespace Rows
def none {H : Type} : Left H := { results := [], args := [] }

/-- 'comitialaw09.SafeReads': WHATEVER THE INPUT: true; the input reads as it did. -/
def safeReadsSpec : ChangeSpec := { name := "safeReads", fn := fun _ => fun
  | [d] => { results := [.lit (.bool true)], args := [d] }
  | _ => none }
def safeReadsRow : OpenClaim := { program := "ythkbgokkghidbaa", sum := "acd69e2ac33c8e4fd63674c0ac5e72c58e86e9e36e18dbaac9e639d0dfe1dee0", func := "comitia/comitialaw09.SafeReads", spec := "safeReads", unfollowed := true, recurses := true, apart := false }
def SafeReadsSaid : Prop := safeReadsRow.holds Try.pinned (OpenSpec.ofChange safeReadsSpec)

/-- ITS FALSE NEIGHBOUR: 'it returns false'. Refute it at one input. -/
def safeReadsWrong : ChangeSpec := { name := "safeReads", fn := fun _ => fun
  | [d] => { results := [.lit (.bool false)], args := [d] }
  | _ => none }
def SafeReadsWrongFalsely : Prop := safeReadsRow.holds Try.pinned (OpenSpec.ofChange safeReadsWrong)

/-- 'comitialaw09.SafePlays': WHATEVER THE INPUT: true; the input reads as it did. -/
def safePlaysSpec : ChangeSpec := { name := "safePlays", fn := fun _ => fun
  | [d1, d2] => { results := [.lit (.bool true)], args := [d1, d2] }
  | _ => none }
def safePlaysRow : OpenClaim := { program := "ythkbgokkghidbaa", sum := "acd69e2ac33c8e4fd63674c0ac5e72c58e86e9e36e18dbaac9e639d0dfe1dee0", func := "comitia/comitialaw09.SafePlays", spec := "safePlays", unfollowed := true, recurses := true, apart := false }
def SafePlaysSaid : Prop := safePlaysRow.holds Try.pinned (OpenSpec.ofChange safePlaysSpec)

/-- ITS FALSE NEIGHBOUR: 'it returns false'. Refute it at one input. -/
def safePlaysWrong : ChangeSpec := { name := "safePlays", fn := fun _ => fun
  | [d1, d2] => { results := [.lit (.bool false)], args := [d1, d2] }
  | _ => none }
def SafePlaysWrongFalsely : Prop := safePlaysRow.holds Try.pinned (OpenSpec.ofChange safePlaysWrong)

/-- 'comitialaw09.SafeCrashes': WHATEVER THE INPUT: true; the input reads as it did. -/
def safeCrashesSpec : ChangeSpec := { name := "safeCrashes", fn := fun _ => fun
  | [d1, d2, d3] => { results := [.lit (.bool true)], args := [d1, d2, d3] }
  | _ => none }
def safeCrashesRow : OpenClaim := { program := "ythkbgokkghidbaa", sum := "acd69e2ac33c8e4fd63674c0ac5e72c58e86e9e36e18dbaac9e639d0dfe1dee0", func := "comitia/comitialaw09.SafeCrashes", spec := "safeCrashes", unfollowed := true, recurses := true, apart := false }
def SafeCrashesSaid : Prop := safeCrashesRow.holds Try.pinned (OpenSpec.ofChange safeCrashesSpec)

/-- ITS FALSE NEIGHBOUR: 'it returns false'. Refute it at one input. -/
def safeCrashesWrong : ChangeSpec := { name := "safeCrashes", fn := fun _ => fun
  | [d1, d2, d3] => { results := [.lit (.bool false)], args := [d1, d2, d3] }
  | _ => none }
def SafeCrashesWrongFalsely : Prop := safeCrashesRow.holds Try.pinned (OpenSpec.ofChange safeCrashesWrong)

/- THE SECOND FORM. 'bulk': how many values and letters a reading holds, each counted each time it is reached (what is shared counts as often as it is met; a slice's spare places count too). A statement '..UptoSaid' is the law's where the arguments, and the package variables that the reading takes, are together of bulk at most 1048576: NARROWER than '..Said'. Prove '..Said' where nothing that the law and all that it calls make is longer than what came in: it says more and counts as full. Else prove '..UptoSaid'. A law counts once. -/
mutual
def uptoBulk {H : Type} : DataW H → Nat
  | .lit (.string bytes) => bytes.length + 1
  | .lit _ => 1
  | .nil => 1
  | .ptr d => uptoBulk d + 1
  | .slice elems spare => uptoBulkAll elems + uptoBulkAll spare + 1
  | .agg parts => uptoBulkAll parts + 1
  | .iface _ d => uptoBulk d + 1
  | .map entries => uptoBulkEntries entries + 1
  | .held _ => 1
def uptoBulkAll {H : Type} : List (DataW H) → Nat
  | [] => 0
  | d :: r => uptoBulk d + uptoBulkAll r
def uptoBulkEntries {H : Type} : List (Lit × DataW H) → Nat
  | [] => 0
  | x :: r => uptoBulkEntry x + uptoBulkEntries r
def uptoBulkEntry {H : Type} : Lit × DataW H → Nat
  | (.string bytes, d) => bytes.length + uptoBulk d + 1
  | (_, d) => uptoBulk d + 1
 end
def uptoSmall : (H : Type) → List (DataW H) → Bool := fun _ ds => decide (uptoBulkAll ds ≤ 1048576)
def OpenSpec.upto (s : _root_.Go.ChangeSpec) : _root_.Go.OpenSpec := { _root_.Go.OpenSpec.ofChange s with cond := some uptoSmall }

/-- 'comitialaw09.SafeReads', WHERE WHAT IT READS IS OF BULK AT MOST 1048576: true; the input reads as it did. -/
def safeReadsUptoRow : OpenClaim := { program := "ythkbgokkghidbaa", sum := "acd69e2ac33c8e4fd63674c0ac5e72c58e86e9e36e18dbaac9e639d0dfe1dee0", func := "comitia/comitialaw09.SafeReads", spec := "safeReads", unfollowed := true, recurses := true, apart := false, narrowed := true }
def SafeReadsUptoSaid : Prop := safeReadsUptoRow.holds Try.pinned (OpenSpec.upto safeReadsSpec)

/-- 'comitialaw09.SafePlays', WHERE WHAT IT READS IS OF BULK AT MOST 1048576: true; the input reads as it did. -/
def safePlaysUptoRow : OpenClaim := { program := "ythkbgokkghidbaa", sum := "acd69e2ac33c8e4fd63674c0ac5e72c58e86e9e36e18dbaac9e639d0dfe1dee0", func := "comitia/comitialaw09.SafePlays", spec := "safePlays", unfollowed := true, recurses := true, apart := false, narrowed := true }
def SafePlaysUptoSaid : Prop := safePlaysUptoRow.holds Try.pinned (OpenSpec.upto safePlaysSpec)

/-- 'comitialaw09.SafeCrashes', WHERE WHAT IT READS IS OF BULK AT MOST 1048576: true; the input reads as it did. -/
def safeCrashesUptoRow : OpenClaim := { program := "ythkbgokkghidbaa", sum := "acd69e2ac33c8e4fd63674c0ac5e72c58e86e9e36e18dbaac9e639d0dfe1dee0", func := "comitia/comitialaw09.SafeCrashes", spec := "safeCrashes", unfollowed := true, recurses := true, apart := false, narrowed := true }
def SafeCrashesUptoSaid : Prop := safeCrashesUptoRow.holds Try.pinned (OpenSpec.upto safeCrashesSpec)

end Rows
end Go.Proofs.Ythkbgokkghidbaa
