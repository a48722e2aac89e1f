/-
  No cell of these rows narrows 'for every input' (looked for: loops, veiled, ifaces, maps, wideKeys, modest, calm, conditions, laid).
  DERIVED. THE GIVEN ROWS OF THIS SEAT. 5 by the template 'for every input the law returns true; each argument reads behind the call as it read before'; 0 by the template 'total and deterministic' (their statements: YtchncgdjefbmfaaTotals.lean).
  GIVEN WITH THE SEED: the statements are not yours to turn. If you find one false, say at which input.
  Laid BY PROGRAM, IN A SANDBOX (cutbox-rows.mjs): the forced cells as the released guide's own fill.sh prints them over the translation ae41713927159c67… (all of the seat's roots in one cut). By AI agents, Wed Nov 11 2026. No macro, syntax, notation, axiom, sorry.
-/
import Derived.Test.YtchncgdjefbmfaaChecked
import GoSem.Claim
import GoSem.ClaimJoined
import GoSem.ClaimMapViews
import Derived.JoinedTies
import Derived.KernelRfl
namespace Go.Proofs.Ytchncgdjefbmfaa
/- THE CELL 'sum', in the pinned program and in every row, IS THE sha256 OF THE DUMP (.gsa) THAT YtchncgdjefbmfaaProg.lean LOADS. Nothing in Lean hashes anything: it is a label: what it is worth is what the hold of that sum in a sandbox is worth. -/
noncomputable def Try.pinned : Pinned := { name := "ytchncgdjefbmfaa", sum := "ae41713927159c67245caae8aba582e62ef54b7700af54b303d0119a34cb18b6", checked := Try.checked }
namespace Rows
def none {H : Type} : Left H := { results := [], args := [] }

/-- 'plenumlaw26.RepliesChecks': WHATEVER THE INPUT: true; the input reads as it did. -/
def repliesChecksSpec : ChangeSpec := { name := "repliesChecks", fn := fun _ => fun
  | [d1, d2, d3] => { results := [.lit (.bool true)], args := [d1, d2, d3] }
  | _ => none }
def repliesChecksRow : OpenClaim := { program := "ytchncgdjefbmfaa", sum := "ae41713927159c67245caae8aba582e62ef54b7700af54b303d0119a34cb18b6", func := "plenum/plenumlaw26.RepliesChecks", spec := "repliesChecks", inPlace := ["slices.overlaps[plenum/api.Last]"], unfollowed := true, recurses := true, apart := false }
def RepliesChecksSaid : Prop := repliesChecksRow.holds Try.pinned (OpenSpec.ofChange repliesChecksSpec)

/-- ITS FALSE NEIGHBOUR: 'it returns false'. Refute it at one input. -/
def repliesChecksWrong : ChangeSpec := { name := "repliesChecks", fn := fun _ => fun
  | [d1, d2, d3] => { results := [.lit (.bool false)], args := [d1, d2, d3] }
  | _ => none }
def RepliesChecksWrongFalsely : Prop := repliesChecksRow.holds Try.pinned (OpenSpec.ofChange repliesChecksWrong)

/-- 'plenumlaw26.RepliesNotes': WHATEVER THE INPUT: true; the input reads as it did. -/
def repliesNotesSpec : ChangeSpec := { name := "repliesNotes", fn := fun _ => fun
  | [d1, d2] => { results := [.lit (.bool true)], args := [d1, d2] }
  | _ => none }
def repliesNotesRow : OpenClaim := { program := "ytchncgdjefbmfaa", sum := "ae41713927159c67245caae8aba582e62ef54b7700af54b303d0119a34cb18b6", func := "plenum/plenumlaw26.RepliesNotes", spec := "repliesNotes", inPlace := ["slices.overlaps[plenum/api.Last]"], unfollowed := true, recurses := true, apart := false }
def RepliesNotesSaid : Prop := repliesNotesRow.holds Try.pinned (OpenSpec.ofChange repliesNotesSpec)

/-- ITS FALSE NEIGHBOUR: 'it returns false'. Refute it at one input. -/
def repliesNotesWrong : ChangeSpec := { name := "repliesNotes", fn := fun _ => fun
  | [d1, d2] => { results := [.lit (.bool false)], args := [d1, d2] }
  | _ => none }
def RepliesNotesWrongFalsely : Prop := repliesNotesRow.holds Try.pinned (OpenSpec.ofChange repliesNotesWrong)

/-- 'plenumlaw26.RepliesBatches': WHATEVER THE INPUT: true; the input reads as it did. -/
def repliesBatchesSpec : ChangeSpec := { name := "repliesBatches", fn := fun _ => fun
  | [d1, d2, d3] => { results := [.lit (.bool true)], args := [d1, d2, d3] }
  | _ => none }
def repliesBatchesRow : OpenClaim := { program := "ytchncgdjefbmfaa", sum := "ae41713927159c67245caae8aba582e62ef54b7700af54b303d0119a34cb18b6", func := "plenum/plenumlaw26.RepliesBatches", spec := "repliesBatches", inPlace := ["slices.overlaps[plenum/api.Last]"], unfollowed := true, recurses := true, apart := false }
def RepliesBatchesSaid : Prop := repliesBatchesRow.holds Try.pinned (OpenSpec.ofChange repliesBatchesSpec)

/-- ITS FALSE NEIGHBOUR: 'it returns false'. Refute it at one input. -/
def repliesBatchesWrong : ChangeSpec := { name := "repliesBatches", fn := fun _ => fun
  | [d1, d2, d3] => { results := [.lit (.bool false)], args := [d1, d2, d3] }
  | _ => none }
def RepliesBatchesWrongFalsely : Prop := repliesBatchesRow.holds Try.pinned (OpenSpec.ofChange repliesBatchesWrong)

/-- 'plenumlaw26.RepliesOnce': WHATEVER THE INPUT: true; the input reads as it did. -/
def repliesOnceSpec : ChangeSpec := { name := "repliesOnce", fn := fun _ => fun
  | [d1, d2] => { results := [.lit (.bool true)], args := [d1, d2] }
  | _ => none }
def repliesOnceRow : OpenClaim := { program := "ytchncgdjefbmfaa", sum := "ae41713927159c67245caae8aba582e62ef54b7700af54b303d0119a34cb18b6", func := "plenum/plenumlaw26.RepliesOnce", spec := "repliesOnce", inPlace := ["slices.overlaps[plenum/api.Last]"], unfollowed := true, recurses := true, apart := false }
def RepliesOnceSaid : Prop := repliesOnceRow.holds Try.pinned (OpenSpec.ofChange repliesOnceSpec)

/-- ITS FALSE NEIGHBOUR: 'it returns false'. Refute it at one input. -/
def repliesOnceWrong : ChangeSpec := { name := "repliesOnce", fn := fun _ => fun
  | [d1, d2] => { results := [.lit (.bool false)], args := [d1, d2] }
  | _ => none }
def RepliesOnceWrongFalsely : Prop := repliesOnceRow.holds Try.pinned (OpenSpec.ofChange repliesOnceWrong)

/-- 'plenumlaw26.RepliesBytes': WHATEVER THE INPUT: true; the input reads as it did. -/
def repliesBytesSpec : ChangeSpec := { name := "repliesBytes", fn := fun _ => fun
  | [d1, d2] => { results := [.lit (.bool true)], args := [d1, d2] }
  | _ => none }
def repliesBytesRow : OpenClaim := { program := "ytchncgdjefbmfaa", sum := "ae41713927159c67245caae8aba582e62ef54b7700af54b303d0119a34cb18b6", func := "plenum/plenumlaw26.RepliesBytes", spec := "repliesBytes", inPlace := ["slices.overlaps[plenum/api.Last]"], unfollowed := true, recurses := true, apart := false }
def RepliesBytesSaid : Prop := repliesBytesRow.holds Try.pinned (OpenSpec.ofChange repliesBytesSpec)

/-- ITS FALSE NEIGHBOUR: 'it returns false'. Refute it at one input. -/
def repliesBytesWrong : ChangeSpec := { name := "repliesBytes", fn := fun _ => fun
  | [d1, d2] => { results := [.lit (.bool false)], args := [d1, d2] }
  | _ => none }
def RepliesBytesWrongFalsely : Prop := repliesBytesRow.holds Try.pinned (OpenSpec.ofChange repliesBytesWrong)

/- THE SECOND FORM. 'bulk': how many values and letters a reading holds, each counted each time it is reached (what is shared counts as often as it is met; a slice's spare places count too). A statement '..UptoSaid' is the law's where the arguments, and the package variables that the reading takes, are together of bulk at most 1048576: NARROWER than '..Said'. Prove '..Said' where nothing that the law and all that it calls make is longer than what came in: it says more and counts as full. Else prove '..UptoSaid'. A law counts once. -/
mutual
def uptoBulk {H : Type} : DataW H → Nat
  | .lit (.string bytes) => bytes.length + 1
  | .lit _ => 1
  | .nil => 1
  | .ptr d => uptoBulk d + 1
  | .slice elems spare => uptoBulkAll elems + uptoBulkAll spare + 1
  | .agg parts => uptoBulkAll parts + 1
  | .iface _ d => uptoBulk d + 1
  | .map entries => uptoBulkEntries entries + 1
  | .held _ => 1
def uptoBulkAll {H : Type} : List (DataW H) → Nat
  | [] => 0
  | d :: r => uptoBulk d + uptoBulkAll r
def uptoBulkEntries {H : Type} : List (Lit × DataW H) → Nat
  | [] => 0
  | x :: r => uptoBulkEntry x + uptoBulkEntries r
def uptoBulkEntry {H : Type} : Lit × DataW H → Nat
  | (.string bytes, d) => bytes.length + uptoBulk d + 1
  | (_, d) => uptoBulk d + 1
 end
def uptoSmall : (H : Type) → List (DataW H) → Bool := fun _ ds => decide (uptoBulkAll ds ≤ 1048576)
def OpenSpec.upto (s : _root_.Go.ChangeSpec) : _root_.Go.OpenSpec := { _root_.Go.OpenSpec.ofChange s with cond := some uptoSmall }

/-- 'plenumlaw26.RepliesChecks', WHERE WHAT IT READS IS OF BULK AT MOST 1048576: true; the input reads as it did. -/
def repliesChecksUptoRow : OpenClaim := { program := "ytchncgdjefbmfaa", sum := "ae41713927159c67245caae8aba582e62ef54b7700af54b303d0119a34cb18b6", func := "plenum/plenumlaw26.RepliesChecks", spec := "repliesChecks", inPlace := ["slices.overlaps[plenum/api.Last]"], unfollowed := true, recurses := true, apart := false, narrowed := true }
def RepliesChecksUptoSaid : Prop := repliesChecksUptoRow.holds Try.pinned (OpenSpec.upto repliesChecksSpec)

/-- 'plenumlaw26.RepliesNotes', WHERE WHAT IT READS IS OF BULK AT MOST 1048576: true; the input reads as it did. -/
def repliesNotesUptoRow : OpenClaim := { program := "ytchncgdjefbmfaa", sum := "ae41713927159c67245caae8aba582e62ef54b7700af54b303d0119a34cb18b6", func := "plenum/plenumlaw26.RepliesNotes", spec := "repliesNotes", inPlace := ["slices.overlaps[plenum/api.Last]"], unfollowed := true, recurses := true, apart := false, narrowed := true }
def RepliesNotesUptoSaid : Prop := repliesNotesUptoRow.holds Try.pinned (OpenSpec.upto repliesNotesSpec)

/-- 'plenumlaw26.RepliesBatches', WHERE WHAT IT READS IS OF BULK AT MOST 1048576: true; the input reads as it did. -/
def repliesBatchesUptoRow : OpenClaim := { program := "ytchncgdjefbmfaa", sum := "ae41713927159c67245caae8aba582e62ef54b7700af54b303d0119a34cb18b6", func := "plenum/plenumlaw26.RepliesBatches", spec := "repliesBatches", inPlace := ["slices.overlaps[plenum/api.Last]"], unfollowed := true, recurses := true, apart := false, narrowed := true }
def RepliesBatchesUptoSaid : Prop := repliesBatchesUptoRow.holds Try.pinned (OpenSpec.upto repliesBatchesSpec)

/-- 'plenumlaw26.RepliesOnce', WHERE WHAT IT READS IS OF BULK AT MOST 1048576: true; the input reads as it did. -/
def repliesOnceUptoRow : OpenClaim := { program := "ytchncgdjefbmfaa", sum := "ae41713927159c67245caae8aba582e62ef54b7700af54b303d0119a34cb18b6", func := "plenum/plenumlaw26.RepliesOnce", spec := "repliesOnce", inPlace := ["slices.overlaps[plenum/api.Last]"], unfollowed := true, recurses := true, apart := false, narrowed := true }
def RepliesOnceUptoSaid : Prop := repliesOnceUptoRow.holds Try.pinned (OpenSpec.upto repliesOnceSpec)

/-- 'plenumlaw26.RepliesBytes', WHERE WHAT IT READS IS OF BULK AT MOST 1048576: true; the input reads as it did. -/
def repliesBytesUptoRow : OpenClaim := { program := "ytchncgdjefbmfaa", sum := "ae41713927159c67245caae8aba582e62ef54b7700af54b303d0119a34cb18b6", func := "plenum/plenumlaw26.RepliesBytes", spec := "repliesBytes", inPlace := ["slices.overlaps[plenum/api.Last]"], unfollowed := true, recurses := true, apart := false, narrowed := true }
def RepliesBytesUptoSaid : Prop := repliesBytesUptoRow.holds Try.pinned (OpenSpec.upto repliesBytesSpec)

end Rows
end Go.Proofs.Ytchncgdjefbmfaa
