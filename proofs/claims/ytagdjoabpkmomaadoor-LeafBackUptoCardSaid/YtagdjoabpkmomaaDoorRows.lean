/-
  NARROWER THAN 'FOR EVERY INPUT', by the rows' own cells (each row's printed sentence says how): LeafChecks: laid · LeafDoes: laid · LeafKeeps: laid · LeafScans: laid · LeafChunks: laid · LeafBack: laid.
  DERIVED. THE GIVEN ROWS OF THIS SEAT. 6 by the template 'for every input the law returns true; each argument reads behind the call as it read before'; 0 by the template 'total and deterministic' (their statements: YtagdjoabpkmomaaDoorTotals.lean).
  GIVEN WITH THE SEED: the statements are not yours to turn. If you find one false, say at which input.
  Laid BY PROGRAM, IN A SANDBOX (cutbox-rows.mjs): the forced cells as the released guide's own fill.sh prints them over the translation e22bc132154a82c8… (all of the seat's roots in one cut). By AI agents, Wed Nov 11 2026. No macro, syntax, notation, axiom, sorry.
-/
import Derived.Test.YtagdjoabpkmomaaDoorChecked
import GoSem.Claim
import GoSem.ClaimJoined
import GoSem.ClaimMapViews
import Derived.JoinedTies
import Derived.KernelRfl
namespace Go.Proofs.YtagdjoabpkmomaaDoor
/- THE CELL 'sum', in the pinned program and in every row, IS THE sha256 OF THE DUMP (.gsa) THAT YtagdjoabpkmomaaDoorProg.lean LOADS. Nothing in Lean hashes anything: it is a label: what it is worth is what the hold of that sum in a sandbox is worth. -/
noncomputable def Tryd.pinned : Pinned := { name := "ytagdjoabpkmomaadoor", sum := "e22bc132154a82c891d500a128165d2dcd221dd5c54dce688b3d050d4530c62f", checked := Tryd.checked }
namespace Rows
def none {H : Type} : Left H := { results := [], args := [] }

/- WHAT THE LISTED PACKAGE-LEVEL VARIABLES READ AS WHEN THE CALL BEGINS. Each datum BY PROGRAM (the guide's laid-datum.mjs) off the statement by which the dump's own 'gosem.cut.vars' lays the variable. In a bare row this is a premise. The card (YtagdjoabpkmomaaDoorCards.lean) ties it to the program's text. -/
def laid_plenum_key_signs {H : Type} : DataW H := .agg [.lit (.int .u64 288195191779622912), .lit (.int .u64 576460745860972544)]

/-- 'plenumlaw09.LeafChecks': WHATEVER THE INPUT: true; the input reads as it did. -/
def leafChecksSpec : ChangeSpec := { name := "leafChecks", fn := fun _ => fun
  | [d] => { results := [.lit (.bool true)], args := [d] }
  | _ => none }
def leafChecksRow : OpenClaim := { program := "ytagdjoabpkmomaadoor", sum := "e22bc132154a82c891d500a128165d2dcd221dd5c54dce688b3d050d4530c62f", func := "plenum/plenumlaw09.LeafChecks", spec := "leafChecks", named := ["plenum/key.signs"], apart := false, laid := [("plenum/key.signs", laid_plenum_key_signs)] }
def LeafChecksSaid : Prop := leafChecksRow.holds Tryd.pinned (OpenSpec.ofChange leafChecksSpec)

/-- ITS FALSE NEIGHBOUR: 'it returns false'. Refute it at one input. -/
def leafChecksWrong : ChangeSpec := { name := "leafChecks", fn := fun _ => fun
  | [d] => { results := [.lit (.bool false)], args := [d] }
  | _ => none }
def LeafChecksWrongFalsely : Prop := leafChecksRow.holds Tryd.pinned (OpenSpec.ofChange leafChecksWrong)

/-- 'plenumlaw09.LeafDoes': WHATEVER THE INPUT: true; the input reads as it did. -/
def leafDoesSpec : ChangeSpec := { name := "leafDoes", fn := fun _ => fun
  | [d1, d2, d3] => { results := [.lit (.bool true)], args := [d1, d2, d3] }
  | _ => none }
def leafDoesRow : OpenClaim := { program := "ytagdjoabpkmomaadoor", sum := "e22bc132154a82c891d500a128165d2dcd221dd5c54dce688b3d050d4530c62f", func := "plenum/plenumlaw09.LeafDoes", spec := "leafDoes", named := ["plenum/key.signs"], apart := false, laid := [("plenum/key.signs", laid_plenum_key_signs)] }
def LeafDoesSaid : Prop := leafDoesRow.holds Tryd.pinned (OpenSpec.ofChange leafDoesSpec)

/-- ITS FALSE NEIGHBOUR: 'it returns false'. Refute it at one input. -/
def leafDoesWrong : ChangeSpec := { name := "leafDoes", fn := fun _ => fun
  | [d1, d2, d3] => { results := [.lit (.bool false)], args := [d1, d2, d3] }
  | _ => none }
def LeafDoesWrongFalsely : Prop := leafDoesRow.holds Tryd.pinned (OpenSpec.ofChange leafDoesWrong)

/-- 'plenumlaw09.LeafKeeps': WHATEVER THE INPUT: true; the input reads as it did. -/
def leafKeepsSpec : ChangeSpec := { name := "leafKeeps", fn := fun _ => fun
  | [d1, d2, d3] => { results := [.lit (.bool true)], args := [d1, d2, d3] }
  | _ => none }
def leafKeepsRow : OpenClaim := { program := "ytagdjoabpkmomaadoor", sum := "e22bc132154a82c891d500a128165d2dcd221dd5c54dce688b3d050d4530c62f", func := "plenum/plenumlaw09.LeafKeeps", spec := "leafKeeps", named := ["plenum/key.signs"], apart := false, laid := [("plenum/key.signs", laid_plenum_key_signs)] }
def LeafKeepsSaid : Prop := leafKeepsRow.holds Tryd.pinned (OpenSpec.ofChange leafKeepsSpec)

/-- ITS FALSE NEIGHBOUR: 'it returns false'. Refute it at one input. -/
def leafKeepsWrong : ChangeSpec := { name := "leafKeeps", fn := fun _ => fun
  | [d1, d2, d3] => { results := [.lit (.bool false)], args := [d1, d2, d3] }
  | _ => none }
def LeafKeepsWrongFalsely : Prop := leafKeepsRow.holds Tryd.pinned (OpenSpec.ofChange leafKeepsWrong)

/-- 'plenumlaw09.LeafScans': WHATEVER THE INPUT: true; the input reads as it did. -/
def leafScansSpec : ChangeSpec := { name := "leafScans", fn := fun _ => fun
  | [d] => { results := [.lit (.bool true)], args := [d] }
  | _ => none }
def leafScansRow : OpenClaim := { program := "ytagdjoabpkmomaadoor", sum := "e22bc132154a82c891d500a128165d2dcd221dd5c54dce688b3d050d4530c62f", func := "plenum/plenumlaw09.LeafScans", spec := "leafScans", named := ["plenum/key.signs"], apart := false, laid := [("plenum/key.signs", laid_plenum_key_signs)] }
def LeafScansSaid : Prop := leafScansRow.holds Tryd.pinned (OpenSpec.ofChange leafScansSpec)

/-- ITS FALSE NEIGHBOUR: 'it returns false'. Refute it at one input. -/
def leafScansWrong : ChangeSpec := { name := "leafScans", fn := fun _ => fun
  | [d] => { results := [.lit (.bool false)], args := [d] }
  | _ => none }
def LeafScansWrongFalsely : Prop := leafScansRow.holds Tryd.pinned (OpenSpec.ofChange leafScansWrong)

/-- 'plenumlaw09.LeafChunks': WHATEVER THE INPUT: true; the input reads as it did. -/
def leafChunksSpec : ChangeSpec := { name := "leafChunks", fn := fun _ => fun
  | [d1, d2] => { results := [.lit (.bool true)], args := [d1, d2] }
  | _ => none }
def leafChunksRow : OpenClaim := { program := "ytagdjoabpkmomaadoor", sum := "e22bc132154a82c891d500a128165d2dcd221dd5c54dce688b3d050d4530c62f", func := "plenum/plenumlaw09.LeafChunks", spec := "leafChunks", named := ["plenum/key.signs"], apart := false, laid := [("plenum/key.signs", laid_plenum_key_signs)] }
def LeafChunksSaid : Prop := leafChunksRow.holds Tryd.pinned (OpenSpec.ofChange leafChunksSpec)

/-- ITS FALSE NEIGHBOUR: 'it returns false'. Refute it at one input. -/
def leafChunksWrong : ChangeSpec := { name := "leafChunks", fn := fun _ => fun
  | [d1, d2] => { results := [.lit (.bool false)], args := [d1, d2] }
  | _ => none }
def LeafChunksWrongFalsely : Prop := leafChunksRow.holds Tryd.pinned (OpenSpec.ofChange leafChunksWrong)

/-- 'plenumlaw09.LeafBack': WHATEVER THE INPUT: true; the input reads as it did. -/
def leafBackSpec : ChangeSpec := { name := "leafBack", fn := fun _ => fun
  | [d1, d2] => { results := [.lit (.bool true)], args := [d1, d2] }
  | _ => none }
def leafBackRow : OpenClaim := { program := "ytagdjoabpkmomaadoor", sum := "e22bc132154a82c891d500a128165d2dcd221dd5c54dce688b3d050d4530c62f", func := "plenum/plenumlaw09.LeafBack", spec := "leafBack", named := ["plenum/key.signs"], apart := false, laid := [("plenum/key.signs", laid_plenum_key_signs)] }
def LeafBackSaid : Prop := leafBackRow.holds Tryd.pinned (OpenSpec.ofChange leafBackSpec)

/-- ITS FALSE NEIGHBOUR: 'it returns false'. Refute it at one input. -/
def leafBackWrong : ChangeSpec := { name := "leafBack", fn := fun _ => fun
  | [d1, d2] => { results := [.lit (.bool false)], args := [d1, d2] }
  | _ => none }
def LeafBackWrongFalsely : Prop := leafBackRow.holds Tryd.pinned (OpenSpec.ofChange leafBackWrong)

/- THE SECOND FORM. 'bulk': how many values and letters a reading holds, each counted each time it is reached (what is shared counts as often as it is met; a slice's spare places count too). A statement '..UptoSaid' is the law's where the arguments, and the package variables that the reading takes, are together of bulk at most 1048576: NARROWER than '..Said'. Prove '..Said' where nothing that the law and all that it calls make is longer than what came in: it says more and counts as full. Else prove '..UptoSaid'. A law counts once. -/
mutual
def uptoBulk {H : Type} : DataW H → Nat
  | .lit (.string bytes) => bytes.length + 1
  | .lit _ => 1
  | .nil => 1
  | .ptr d => uptoBulk d + 1
  | .slice elems spare => uptoBulkAll elems + uptoBulkAll spare + 1
  | .agg parts => uptoBulkAll parts + 1
  | .iface _ d => uptoBulk d + 1
  | .map entries => uptoBulkEntries entries + 1
  | .held _ => 1
def uptoBulkAll {H : Type} : List (DataW H) → Nat
  | [] => 0
  | d :: r => uptoBulk d + uptoBulkAll r
def uptoBulkEntries {H : Type} : List (Lit × DataW H) → Nat
  | [] => 0
  | x :: r => uptoBulkEntry x + uptoBulkEntries r
def uptoBulkEntry {H : Type} : Lit × DataW H → Nat
  | (.string bytes, d) => bytes.length + uptoBulk d + 1
  | (_, d) => uptoBulk d + 1
 end
def uptoSmall : (H : Type) → List (DataW H) → Bool := fun _ ds => decide (uptoBulkAll ds ≤ 1048576)
def OpenSpec.upto (s : _root_.Go.ChangeSpec) : _root_.Go.OpenSpec := { _root_.Go.OpenSpec.ofChange s with cond := some uptoSmall }

/-- 'plenumlaw09.LeafChecks', WHERE WHAT IT READS IS OF BULK AT MOST 1048576: true; the input reads as it did. -/
def leafChecksUptoRow : OpenClaim := { program := "ytagdjoabpkmomaadoor", sum := "e22bc132154a82c891d500a128165d2dcd221dd5c54dce688b3d050d4530c62f", func := "plenum/plenumlaw09.LeafChecks", spec := "leafChecks", named := ["plenum/key.signs"], apart := false, laid := [("plenum/key.signs", laid_plenum_key_signs)], narrowed := true }
def LeafChecksUptoSaid : Prop := leafChecksUptoRow.holds Tryd.pinned (OpenSpec.upto leafChecksSpec)

/-- 'plenumlaw09.LeafDoes', WHERE WHAT IT READS IS OF BULK AT MOST 1048576: true; the input reads as it did. -/
def leafDoesUptoRow : OpenClaim := { program := "ytagdjoabpkmomaadoor", sum := "e22bc132154a82c891d500a128165d2dcd221dd5c54dce688b3d050d4530c62f", func := "plenum/plenumlaw09.LeafDoes", spec := "leafDoes", named := ["plenum/key.signs"], apart := false, laid := [("plenum/key.signs", laid_plenum_key_signs)], narrowed := true }
def LeafDoesUptoSaid : Prop := leafDoesUptoRow.holds Tryd.pinned (OpenSpec.upto leafDoesSpec)

/-- 'plenumlaw09.LeafKeeps', WHERE WHAT IT READS IS OF BULK AT MOST 1048576: true; the input reads as it did. -/
def leafKeepsUptoRow : OpenClaim := { program := "ytagdjoabpkmomaadoor", sum := "e22bc132154a82c891d500a128165d2dcd221dd5c54dce688b3d050d4530c62f", func := "plenum/plenumlaw09.LeafKeeps", spec := "leafKeeps", named := ["plenum/key.signs"], apart := false, laid := [("plenum/key.signs", laid_plenum_key_signs)], narrowed := true }
def LeafKeepsUptoSaid : Prop := leafKeepsUptoRow.holds Tryd.pinned (OpenSpec.upto leafKeepsSpec)

/-- 'plenumlaw09.LeafScans', WHERE WHAT IT READS IS OF BULK AT MOST 1048576: true; the input reads as it did. -/
def leafScansUptoRow : OpenClaim := { program := "ytagdjoabpkmomaadoor", sum := "e22bc132154a82c891d500a128165d2dcd221dd5c54dce688b3d050d4530c62f", func := "plenum/plenumlaw09.LeafScans", spec := "leafScans", named := ["plenum/key.signs"], apart := false, laid := [("plenum/key.signs", laid_plenum_key_signs)], narrowed := true }
def LeafScansUptoSaid : Prop := leafScansUptoRow.holds Tryd.pinned (OpenSpec.upto leafScansSpec)

/-- 'plenumlaw09.LeafChunks', WHERE WHAT IT READS IS OF BULK AT MOST 1048576: true; the input reads as it did. -/
def leafChunksUptoRow : OpenClaim := { program := "ytagdjoabpkmomaadoor", sum := "e22bc132154a82c891d500a128165d2dcd221dd5c54dce688b3d050d4530c62f", func := "plenum/plenumlaw09.LeafChunks", spec := "leafChunks", named := ["plenum/key.signs"], apart := false, laid := [("plenum/key.signs", laid_plenum_key_signs)], narrowed := true }
def LeafChunksUptoSaid : Prop := leafChunksUptoRow.holds Tryd.pinned (OpenSpec.upto leafChunksSpec)

/-- 'plenumlaw09.LeafBack', WHERE WHAT IT READS IS OF BULK AT MOST 1048576: true; the input reads as it did. -/
def leafBackUptoRow : OpenClaim := { program := "ytagdjoabpkmomaadoor", sum := "e22bc132154a82c891d500a128165d2dcd221dd5c54dce688b3d050d4530c62f", func := "plenum/plenumlaw09.LeafBack", spec := "leafBack", named := ["plenum/key.signs"], apart := false, laid := [("plenum/key.signs", laid_plenum_key_signs)], narrowed := true }
def LeafBackUptoSaid : Prop := leafBackUptoRow.holds Tryd.pinned (OpenSpec.upto leafBackSpec)

end Rows
end Go.Proofs.YtagdjoabpkmomaaDoor
