/-
  NARROWER THAN 'FOR EVERY INPUT', by the rows' own cells (each row's printed sentence says how): TrunkDoes: laid · TrunkKeeps: laid · TrunkReplaces: laid · TrunkTells: laid.
  DERIVED. THE GIVEN ROWS OF THIS SEAT. 4 by the template 'for every input the law returns true; each argument reads behind the call as it read before'; 0 by the template 'total and deterministic' (their statements: YthmnhfabkllgpaaDoorTotals.lean).
  GIVEN WITH THE SEED: the statements are not yours to turn. If you find one false, say at which input.
  Laid BY PROGRAM, IN A SANDBOX (cutbox-rows.mjs): the forced cells as the released guide's own fill.sh prints them over the translation 008bf24bd5f92afc… (all of the seat's roots in one cut). By AI agents, Wed Nov 11 2026. No macro, syntax, notation, axiom, sorry.
-/
import Derived.Test.YthmnhfabkllgpaaDoorChecked
import GoSem.Claim
import GoSem.ClaimJoined
import GoSem.ClaimMapViews
import Derived.JoinedTies
import Derived.KernelRfl
namespace Go.Proofs.YthmnhfabkllgpaaDoor
/- THE CELL 'sum', in the pinned program and in every row, IS THE sha256 OF THE DUMP (.gsa) THAT YthmnhfabkllgpaaDoorProg.lean LOADS. Nothing in Lean hashes anything: it is a label: what it is worth is what the hold of that sum in a sandbox is worth. -/
noncomputable def Tryd.pinned : Pinned := { name := "ythmnhfabkllgpaadoor", sum := "008bf24bd5f92afc2b21444e4a7dc0164a63906f60764bbaf6f63994761970fb", checked := Tryd.checked }
namespace Rows
def none {H : Type} : Left H := { results := [], args := [] }

/- WHAT THE LISTED PACKAGE-LEVEL VARIABLES READ AS WHEN THE CALL BEGINS. Each datum BY PROGRAM (the guide's laid-datum.mjs) off the statement by which the dump's own 'gosem.cut.vars' lays the variable. In a bare row this is a premise. The card (YthmnhfabkllgpaaDoorCards.lean) ties it to the program's text. -/
def laid_plenum_key_signs {H : Type} : DataW H := .agg [.lit (.int .u64 288195191779622912), .lit (.int .u64 576460745860972544)]

/-- 'plenumlaw10.TrunkDoes': WHATEVER THE INPUT: true; the input reads as it did. -/
def trunkDoesSpec : ChangeSpec := { name := "trunkDoes", fn := fun _ => fun
  | [d1, d2, d3] => { results := [.lit (.bool true)], args := [d1, d2, d3] }
  | _ => none }
def trunkDoesRow : OpenClaim := { program := "ythmnhfabkllgpaadoor", sum := "008bf24bd5f92afc2b21444e4a7dc0164a63906f60764bbaf6f63994761970fb", func := "plenum/plenumlaw10.TrunkDoes", spec := "trunkDoes", unfollowed := true, recurses := true, named := ["plenum/key.signs"], apart := false, laid := [("plenum/key.signs", laid_plenum_key_signs)] }
def TrunkDoesSaid : Prop := trunkDoesRow.holds Tryd.pinned (OpenSpec.ofChange trunkDoesSpec)

/-- ITS FALSE NEIGHBOUR: 'it returns false'. Refute it at one input. -/
def trunkDoesWrong : ChangeSpec := { name := "trunkDoes", fn := fun _ => fun
  | [d1, d2, d3] => { results := [.lit (.bool false)], args := [d1, d2, d3] }
  | _ => none }
def TrunkDoesWrongFalsely : Prop := trunkDoesRow.holds Tryd.pinned (OpenSpec.ofChange trunkDoesWrong)

/-- 'plenumlaw10.TrunkKeeps': WHATEVER THE INPUT: true; the input reads as it did. -/
def trunkKeepsSpec : ChangeSpec := { name := "trunkKeeps", fn := fun _ => fun
  | [d1, d2, d3] => { results := [.lit (.bool true)], args := [d1, d2, d3] }
  | _ => none }
def trunkKeepsRow : OpenClaim := { program := "ythmnhfabkllgpaadoor", sum := "008bf24bd5f92afc2b21444e4a7dc0164a63906f60764bbaf6f63994761970fb", func := "plenum/plenumlaw10.TrunkKeeps", spec := "trunkKeeps", unfollowed := true, recurses := true, named := ["plenum/key.signs"], apart := false, laid := [("plenum/key.signs", laid_plenum_key_signs)] }
def TrunkKeepsSaid : Prop := trunkKeepsRow.holds Tryd.pinned (OpenSpec.ofChange trunkKeepsSpec)

/-- ITS FALSE NEIGHBOUR: 'it returns false'. Refute it at one input. -/
def trunkKeepsWrong : ChangeSpec := { name := "trunkKeeps", fn := fun _ => fun
  | [d1, d2, d3] => { results := [.lit (.bool false)], args := [d1, d2, d3] }
  | _ => none }
def TrunkKeepsWrongFalsely : Prop := trunkKeepsRow.holds Tryd.pinned (OpenSpec.ofChange trunkKeepsWrong)

/-- 'plenumlaw10.TrunkReplaces': WHATEVER THE INPUT: true; the input reads as it did. -/
def trunkReplacesSpec : ChangeSpec := { name := "trunkReplaces", fn := fun _ => fun
  | [d] => { results := [.lit (.bool true)], args := [d] }
  | _ => none }
def trunkReplacesRow : OpenClaim := { program := "ythmnhfabkllgpaadoor", sum := "008bf24bd5f92afc2b21444e4a7dc0164a63906f60764bbaf6f63994761970fb", func := "plenum/plenumlaw10.TrunkReplaces", spec := "trunkReplaces", unfollowed := true, recurses := true, named := ["plenum/key.signs"], apart := false, laid := [("plenum/key.signs", laid_plenum_key_signs)] }
def TrunkReplacesSaid : Prop := trunkReplacesRow.holds Tryd.pinned (OpenSpec.ofChange trunkReplacesSpec)

/-- ITS FALSE NEIGHBOUR: 'it returns false'. Refute it at one input. -/
def trunkReplacesWrong : ChangeSpec := { name := "trunkReplaces", fn := fun _ => fun
  | [d] => { results := [.lit (.bool false)], args := [d] }
  | _ => none }
def TrunkReplacesWrongFalsely : Prop := trunkReplacesRow.holds Tryd.pinned (OpenSpec.ofChange trunkReplacesWrong)

/-- 'plenumlaw10.TrunkTells': WHATEVER THE INPUT: true; the input reads as it did. -/
def trunkTellsSpec : ChangeSpec := { name := "trunkTells", fn := fun _ => fun
  | [d1, d2] => { results := [.lit (.bool true)], args := [d1, d2] }
  | _ => none }
def trunkTellsRow : OpenClaim := { program := "ythmnhfabkllgpaadoor", sum := "008bf24bd5f92afc2b21444e4a7dc0164a63906f60764bbaf6f63994761970fb", func := "plenum/plenumlaw10.TrunkTells", spec := "trunkTells", unfollowed := true, recurses := true, named := ["plenum/key.signs"], apart := false, laid := [("plenum/key.signs", laid_plenum_key_signs)] }
def TrunkTellsSaid : Prop := trunkTellsRow.holds Tryd.pinned (OpenSpec.ofChange trunkTellsSpec)

/-- ITS FALSE NEIGHBOUR: 'it returns false'. Refute it at one input. -/
def trunkTellsWrong : ChangeSpec := { name := "trunkTells", fn := fun _ => fun
  | [d1, d2] => { results := [.lit (.bool false)], args := [d1, d2] }
  | _ => none }
def TrunkTellsWrongFalsely : Prop := trunkTellsRow.holds Tryd.pinned (OpenSpec.ofChange trunkTellsWrong)

/- THE SECOND FORM. 'bulk': how many values and letters a reading holds, each counted each time it is reached (what is shared counts as often as it is met; a slice's spare places count too). A statement '..UptoSaid' is the law's where the arguments, and the package variables that the reading takes, are together of bulk at most 1048576: NARROWER than '..Said'. Prove '..Said' where nothing that the law and all that it calls make is longer than what came in: it says more and counts as full. Else prove '..UptoSaid'. A law counts once. -/
mutual
def uptoBulk {H : Type} : DataW H → Nat
  | .lit (.string bytes) => bytes.length + 1
  | .lit _ => 1
  | .nil => 1
  | .ptr d => uptoBulk d + 1
  | .slice elems spare => uptoBulkAll elems + uptoBulkAll spare + 1
  | .agg parts => uptoBulkAll parts + 1
  | .iface _ d => uptoBulk d + 1
  | .map entries => uptoBulkEntries entries + 1
  | .held _ => 1
def uptoBulkAll {H : Type} : List (DataW H) → Nat
  | [] => 0
  | d :: r => uptoBulk d + uptoBulkAll r
def uptoBulkEntries {H : Type} : List (Lit × DataW H) → Nat
  | [] => 0
  | x :: r => uptoBulkEntry x + uptoBulkEntries r
def uptoBulkEntry {H : Type} : Lit × DataW H → Nat
  | (.string bytes, d) => bytes.length + uptoBulk d + 1
  | (_, d) => uptoBulk d + 1
 end
def uptoSmall : (H : Type) → List (DataW H) → Bool := fun _ ds => decide (uptoBulkAll ds ≤ 1048576)
def OpenSpec.upto (s : _root_.Go.ChangeSpec) : _root_.Go.OpenSpec := { _root_.Go.OpenSpec.ofChange s with cond := some uptoSmall }

/-- 'plenumlaw10.TrunkDoes', WHERE WHAT IT READS IS OF BULK AT MOST 1048576: true; the input reads as it did. -/
def trunkDoesUptoRow : OpenClaim := { program := "ythmnhfabkllgpaadoor", sum := "008bf24bd5f92afc2b21444e4a7dc0164a63906f60764bbaf6f63994761970fb", func := "plenum/plenumlaw10.TrunkDoes", spec := "trunkDoes", unfollowed := true, recurses := true, named := ["plenum/key.signs"], apart := false, laid := [("plenum/key.signs", laid_plenum_key_signs)], narrowed := true }
def TrunkDoesUptoSaid : Prop := trunkDoesUptoRow.holds Tryd.pinned (OpenSpec.upto trunkDoesSpec)

/-- 'plenumlaw10.TrunkKeeps', WHERE WHAT IT READS IS OF BULK AT MOST 1048576: true; the input reads as it did. -/
def trunkKeepsUptoRow : OpenClaim := { program := "ythmnhfabkllgpaadoor", sum := "008bf24bd5f92afc2b21444e4a7dc0164a63906f60764bbaf6f63994761970fb", func := "plenum/plenumlaw10.TrunkKeeps", spec := "trunkKeeps", unfollowed := true, recurses := true, named := ["plenum/key.signs"], apart := false, laid := [("plenum/key.signs", laid_plenum_key_signs)], narrowed := true }
def TrunkKeepsUptoSaid : Prop := trunkKeepsUptoRow.holds Tryd.pinned (OpenSpec.upto trunkKeepsSpec)

/-- 'plenumlaw10.TrunkReplaces', WHERE WHAT IT READS IS OF BULK AT MOST 1048576: true; the input reads as it did. -/
def trunkReplacesUptoRow : OpenClaim := { program := "ythmnhfabkllgpaadoor", sum := "008bf24bd5f92afc2b21444e4a7dc0164a63906f60764bbaf6f63994761970fb", func := "plenum/plenumlaw10.TrunkReplaces", spec := "trunkReplaces", unfollowed := true, recurses := true, named := ["plenum/key.signs"], apart := false, laid := [("plenum/key.signs", laid_plenum_key_signs)], narrowed := true }
def TrunkReplacesUptoSaid : Prop := trunkReplacesUptoRow.holds Tryd.pinned (OpenSpec.upto trunkReplacesSpec)

/-- 'plenumlaw10.TrunkTells', WHERE WHAT IT READS IS OF BULK AT MOST 1048576: true; the input reads as it did. -/
def trunkTellsUptoRow : OpenClaim := { program := "ythmnhfabkllgpaadoor", sum := "008bf24bd5f92afc2b21444e4a7dc0164a63906f60764bbaf6f63994761970fb", func := "plenum/plenumlaw10.TrunkTells", spec := "trunkTells", unfollowed := true, recurses := true, named := ["plenum/key.signs"], apart := false, laid := [("plenum/key.signs", laid_plenum_key_signs)], narrowed := true }
def TrunkTellsUptoSaid : Prop := trunkTellsUptoRow.holds Tryd.pinned (OpenSpec.upto trunkTellsSpec)

end Rows
end Go.Proofs.YthmnhfabkllgpaaDoor
