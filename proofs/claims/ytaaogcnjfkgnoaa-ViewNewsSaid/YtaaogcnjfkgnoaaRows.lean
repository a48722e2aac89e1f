/-
  No cell of these rows narrows 'for every input' (looked for: loops, veiled, ifaces, maps, wideKeys, modest, calm, conditions, laid).
  DERIVED. THE GIVEN ROWS OF THIS SEAT. 4 by the template 'for every input the law returns true; each argument reads behind the call as it read before'; 0 by the template 'total and deterministic' (their statements: YtaaogcnjfkgnoaaTotals.lean).
  GIVEN WITH THE SEED: the statements are not yours to turn. If you find one false, say at which input.
  Laid BY PROGRAM, IN A SANDBOX (cutbox-rows.mjs): the forced cells as the released guide's own fill.sh prints them over the translation f750f65b79d19fbd… (all of the seat's roots in one cut). By AI agents, Wed Nov 11 2026. No macro, syntax, notation, axiom, sorry.
-/
import Derived.Test.YtaaogcnjfkgnoaaChecked
import GoSem.Claim
import GoSem.ClaimJoined
import GoSem.ClaimMapViews
import Derived.JoinedTies
import Derived.KernelRfl
namespace Go.Proofs.Ytaaogcnjfkgnoaa
/- THE CELL 'sum', in the pinned program and in every row, IS THE sha256 OF THE DUMP (.gsa) THAT YtaaogcnjfkgnoaaProg.lean LOADS. Nothing in Lean hashes anything: it is a label: what it is worth is what the hold of that sum in a sandbox is worth. -/
noncomputable def Try.pinned : Pinned := { name := "ytaaogcnjfkgnoaa", sum := "f750f65b79d19fbd62a117c614f8207dccdcdc064c36832b61996a579f58e5f5", checked := Try.checked }
namespace Rows
def none {H : Type} : Left H := { results := [], args := [] }

/-- 'plenumlaw32.ViewTrue': WHATEVER THE INPUT: true; the input reads as it did. -/
def viewTrueSpec : ChangeSpec := { name := "viewTrue", fn := fun _ => fun
  | [d1, d2] => { results := [.lit (.bool true)], args := [d1, d2] }
  | _ => none }
def viewTrueRow : OpenClaim := { program := "ytaaogcnjfkgnoaa", sum := "f750f65b79d19fbd62a117c614f8207dccdcdc064c36832b61996a579f58e5f5", func := "plenum/plenumlaw32.ViewTrue", spec := "viewTrue", unfollowed := true, recurses := true, plainKeys := false, apart := false }
def ViewTrueSaid : Prop := viewTrueRow.holds Try.pinned (OpenSpec.ofChange viewTrueSpec)

/-- ITS FALSE NEIGHBOUR: 'it returns false'. Refute it at one input. -/
def viewTrueWrong : ChangeSpec := { name := "viewTrue", fn := fun _ => fun
  | [d1, d2] => { results := [.lit (.bool false)], args := [d1, d2] }
  | _ => none }
def ViewTrueWrongFalsely : Prop := viewTrueRow.holds Try.pinned (OpenSpec.ofChange viewTrueWrong)

/-- 'plenumlaw32.ViewCerts': WHATEVER THE INPUT: true; the input reads as it did. -/
def viewCertsSpec : ChangeSpec := { name := "viewCerts", fn := fun _ => fun
  | [d1, d2, d3] => { results := [.lit (.bool true)], args := [d1, d2, d3] }
  | _ => none }
def viewCertsRow : OpenClaim := { program := "ytaaogcnjfkgnoaa", sum := "f750f65b79d19fbd62a117c614f8207dccdcdc064c36832b61996a579f58e5f5", func := "plenum/plenumlaw32.ViewCerts", spec := "viewCerts", unfollowed := true, recurses := true, plainKeys := false, apart := false }
def ViewCertsSaid : Prop := viewCertsRow.holds Try.pinned (OpenSpec.ofChange viewCertsSpec)

/-- ITS FALSE NEIGHBOUR: 'it returns false'. Refute it at one input. -/
def viewCertsWrong : ChangeSpec := { name := "viewCerts", fn := fun _ => fun
  | [d1, d2, d3] => { results := [.lit (.bool false)], args := [d1, d2, d3] }
  | _ => none }
def ViewCertsWrongFalsely : Prop := viewCertsRow.holds Try.pinned (OpenSpec.ofChange viewCertsWrong)

/-- 'plenumlaw32.ViewChanges': WHATEVER THE INPUT: true; the input reads as it did. -/
def viewChangesSpec : ChangeSpec := { name := "viewChanges", fn := fun _ => fun
  | [d1, d2, d3] => { results := [.lit (.bool true)], args := [d1, d2, d3] }
  | _ => none }
def viewChangesRow : OpenClaim := { program := "ytaaogcnjfkgnoaa", sum := "f750f65b79d19fbd62a117c614f8207dccdcdc064c36832b61996a579f58e5f5", func := "plenum/plenumlaw32.ViewChanges", spec := "viewChanges", unfollowed := true, recurses := true, plainKeys := false, apart := false }
def ViewChangesSaid : Prop := viewChangesRow.holds Try.pinned (OpenSpec.ofChange viewChangesSpec)

/-- ITS FALSE NEIGHBOUR: 'it returns false'. Refute it at one input. -/
def viewChangesWrong : ChangeSpec := { name := "viewChanges", fn := fun _ => fun
  | [d1, d2, d3] => { results := [.lit (.bool false)], args := [d1, d2, d3] }
  | _ => none }
def ViewChangesWrongFalsely : Prop := viewChangesRow.holds Try.pinned (OpenSpec.ofChange viewChangesWrong)

/-- 'plenumlaw32.ViewNews': WHATEVER THE INPUT: true; the input reads as it did. -/
def viewNewsSpec : ChangeSpec := { name := "viewNews", fn := fun _ => fun
  | [d1, d2, d3] => { results := [.lit (.bool true)], args := [d1, d2, d3] }
  | _ => none }
def viewNewsRow : OpenClaim := { program := "ytaaogcnjfkgnoaa", sum := "f750f65b79d19fbd62a117c614f8207dccdcdc064c36832b61996a579f58e5f5", func := "plenum/plenumlaw32.ViewNews", spec := "viewNews", unfollowed := true, recurses := true, plainKeys := false, apart := false }
def ViewNewsSaid : Prop := viewNewsRow.holds Try.pinned (OpenSpec.ofChange viewNewsSpec)

/-- ITS FALSE NEIGHBOUR: 'it returns false'. Refute it at one input. -/
def viewNewsWrong : ChangeSpec := { name := "viewNews", fn := fun _ => fun
  | [d1, d2, d3] => { results := [.lit (.bool false)], args := [d1, d2, d3] }
  | _ => none }
def ViewNewsWrongFalsely : Prop := viewNewsRow.holds Try.pinned (OpenSpec.ofChange viewNewsWrong)

/- THE SECOND FORM. 'bulk': how many values and letters a reading holds, each counted each time it is reached (what is shared counts as often as it is met; a slice's spare places count too). A statement '..UptoSaid' is the law's where the arguments, and the package variables that the reading takes, are together of bulk at most 1048576: NARROWER than '..Said'. Prove '..Said' where nothing that the law and all that it calls make is longer than what came in: it says more and counts as full. Else prove '..UptoSaid'. A law counts once. -/
mutual
def uptoBulk {H : Type} : DataW H → Nat
  | .lit (.string bytes) => bytes.length + 1
  | .lit _ => 1
  | .nil => 1
  | .ptr d => uptoBulk d + 1
  | .slice elems spare => uptoBulkAll elems + uptoBulkAll spare + 1
  | .agg parts => uptoBulkAll parts + 1
  | .iface _ d => uptoBulk d + 1
  | .map entries => uptoBulkEntries entries + 1
  | .held _ => 1
def uptoBulkAll {H : Type} : List (DataW H) → Nat
  | [] => 0
  | d :: r => uptoBulk d + uptoBulkAll r
def uptoBulkEntries {H : Type} : List (Lit × DataW H) → Nat
  | [] => 0
  | x :: r => uptoBulkEntry x + uptoBulkEntries r
def uptoBulkEntry {H : Type} : Lit × DataW H → Nat
  | (.string bytes, d) => bytes.length + uptoBulk d + 1
  | (_, d) => uptoBulk d + 1
 end
def uptoSmall : (H : Type) → List (DataW H) → Bool := fun _ ds => decide (uptoBulkAll ds ≤ 1048576)
def OpenSpec.upto (s : _root_.Go.ChangeSpec) : _root_.Go.OpenSpec := { _root_.Go.OpenSpec.ofChange s with cond := some uptoSmall }

/-- 'plenumlaw32.ViewTrue', WHERE WHAT IT READS IS OF BULK AT MOST 1048576: true; the input reads as it did. -/
def viewTrueUptoRow : OpenClaim := { program := "ytaaogcnjfkgnoaa", sum := "f750f65b79d19fbd62a117c614f8207dccdcdc064c36832b61996a579f58e5f5", func := "plenum/plenumlaw32.ViewTrue", spec := "viewTrue", unfollowed := true, recurses := true, plainKeys := false, apart := false, narrowed := true }
def ViewTrueUptoSaid : Prop := viewTrueUptoRow.holds Try.pinned (OpenSpec.upto viewTrueSpec)

/-- 'plenumlaw32.ViewCerts', WHERE WHAT IT READS IS OF BULK AT MOST 1048576: true; the input reads as it did. -/
def viewCertsUptoRow : OpenClaim := { program := "ytaaogcnjfkgnoaa", sum := "f750f65b79d19fbd62a117c614f8207dccdcdc064c36832b61996a579f58e5f5", func := "plenum/plenumlaw32.ViewCerts", spec := "viewCerts", unfollowed := true, recurses := true, plainKeys := false, apart := false, narrowed := true }
def ViewCertsUptoSaid : Prop := viewCertsUptoRow.holds Try.pinned (OpenSpec.upto viewCertsSpec)

/-- 'plenumlaw32.ViewChanges', WHERE WHAT IT READS IS OF BULK AT MOST 1048576: true; the input reads as it did. -/
def viewChangesUptoRow : OpenClaim := { program := "ytaaogcnjfkgnoaa", sum := "f750f65b79d19fbd62a117c614f8207dccdcdc064c36832b61996a579f58e5f5", func := "plenum/plenumlaw32.ViewChanges", spec := "viewChanges", unfollowed := true, recurses := true, plainKeys := false, apart := false, narrowed := true }
def ViewChangesUptoSaid : Prop := viewChangesUptoRow.holds Try.pinned (OpenSpec.upto viewChangesSpec)

/-- 'plenumlaw32.ViewNews', WHERE WHAT IT READS IS OF BULK AT MOST 1048576: true; the input reads as it did. -/
def viewNewsUptoRow : OpenClaim := { program := "ytaaogcnjfkgnoaa", sum := "f750f65b79d19fbd62a117c614f8207dccdcdc064c36832b61996a579f58e5f5", func := "plenum/plenumlaw32.ViewNews", spec := "viewNews", unfollowed := true, recurses := true, plainKeys := false, apart := false, narrowed := true }
def ViewNewsUptoSaid : Prop := viewNewsUptoRow.holds Try.pinned (OpenSpec.upto viewNewsSpec)

end Rows
end Go.Proofs.Ytaaogcnjfkgnoaa
