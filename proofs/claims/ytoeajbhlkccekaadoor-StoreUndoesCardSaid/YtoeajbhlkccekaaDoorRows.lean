/-
  NARROWER THAN 'FOR EVERY INPUT', by the rows' own cells (each row's printed sentence says how): StoreTakes: laid · StoreAll: laid · StoreGets: laid · StoreNews: laid · StoreUndoes: laid.
  DERIVED. THE GIVEN ROWS OF THIS SEAT. 5 by the template 'for every input the law returns true; each argument reads behind the call as it read before'; 0 by the template 'total and deterministic' (their statements: YtoeajbhlkccekaaDoorTotals.lean).
  GIVEN WITH THE SEED: the statements are not yours to turn. If you find one false, say at which input.
  Laid BY PROGRAM, IN A SANDBOX (cutbox-rows.mjs): the forced cells as the released guide's own fill.sh prints them over the translation 4c0bc5f8b8db2433… (all of the seat's roots in one cut). By AI agents, Wed Nov 11 2026. No macro, syntax, notation, axiom, sorry.
-/
import Derived.Test.YtoeajbhlkccekaaDoorChecked
import GoSem.Claim
import GoSem.ClaimJoined
import GoSem.ClaimMapViews
import Derived.JoinedTies
import Derived.KernelRfl
namespace Go.Proofs.YtoeajbhlkccekaaDoor
/- THE CELL 'sum', in the pinned program and in every row, IS THE sha256 OF THE DUMP (.gsa) THAT YtoeajbhlkccekaaDoorProg.lean LOADS. Nothing in Lean hashes anything: it is a label: what it is worth is what the hold of that sum in a sandbox is worth. -/
noncomputable def Tryd.pinned : Pinned := { name := "ytoeajbhlkccekaadoor", sum := "4c0bc5f8b8db2433c5c2a5a5c38ec867e6047727f4a966328698bb5db0baa005", checked := Tryd.checked }
namespace Rows
def none {H : Type} : Left H := { results := [], args := [] }

/- WHAT THE LISTED PACKAGE-LEVEL VARIABLES READ AS WHEN THE CALL BEGINS. Each datum BY PROGRAM (the guide's laid-datum.mjs) off the statement by which the dump's own 'gosem.cut.vars' lays the variable. In a bare row this is a premise. The card (YtoeajbhlkccekaaDoorCards.lean) ties it to the program's text. -/
def laid_plenum_key_signs {H : Type} : DataW H := .agg [.lit (.int .u64 288195191779622912), .lit (.int .u64 576460745860972544)]

/-- 'plenumlaw13.StoreTakes': WHATEVER THE INPUT: true; the input reads as it did. -/
def storeTakesSpec : ChangeSpec := { name := "storeTakes", fn := fun _ => fun
  | [d1, d2] => { results := [.lit (.bool true)], args := [d1, d2] }
  | _ => none }
def storeTakesRow : OpenClaim := { program := "ytoeajbhlkccekaadoor", sum := "4c0bc5f8b8db2433c5c2a5a5c38ec867e6047727f4a966328698bb5db0baa005", func := "plenum/plenumlaw13.StoreTakes", spec := "storeTakes", unfollowed := true, recurses := true, named := ["plenum/key.signs"], apart := false, laid := [("plenum/key.signs", laid_plenum_key_signs)] }
def StoreTakesSaid : Prop := storeTakesRow.holds Tryd.pinned (OpenSpec.ofChange storeTakesSpec)

/-- ITS FALSE NEIGHBOUR: 'it returns false'. Refute it at one input. -/
def storeTakesWrong : ChangeSpec := { name := "storeTakes", fn := fun _ => fun
  | [d1, d2] => { results := [.lit (.bool false)], args := [d1, d2] }
  | _ => none }
def StoreTakesWrongFalsely : Prop := storeTakesRow.holds Tryd.pinned (OpenSpec.ofChange storeTakesWrong)

/-- 'plenumlaw13.StoreAll': WHATEVER THE INPUT: true; the input reads as it did. -/
def storeAllSpec : ChangeSpec := { name := "storeAll", fn := fun _ => fun
  | [d1, d2, d3] => { results := [.lit (.bool true)], args := [d1, d2, d3] }
  | _ => none }
def storeAllRow : OpenClaim := { program := "ytoeajbhlkccekaadoor", sum := "4c0bc5f8b8db2433c5c2a5a5c38ec867e6047727f4a966328698bb5db0baa005", func := "plenum/plenumlaw13.StoreAll", spec := "storeAll", unfollowed := true, recurses := true, named := ["plenum/key.signs"], apart := false, laid := [("plenum/key.signs", laid_plenum_key_signs)] }
def StoreAllSaid : Prop := storeAllRow.holds Tryd.pinned (OpenSpec.ofChange storeAllSpec)

/-- ITS FALSE NEIGHBOUR: 'it returns false'. Refute it at one input. -/
def storeAllWrong : ChangeSpec := { name := "storeAll", fn := fun _ => fun
  | [d1, d2, d3] => { results := [.lit (.bool false)], args := [d1, d2, d3] }
  | _ => none }
def StoreAllWrongFalsely : Prop := storeAllRow.holds Tryd.pinned (OpenSpec.ofChange storeAllWrong)

/-- 'plenumlaw13.StoreGets': WHATEVER THE INPUT: true; the input reads as it did. -/
def storeGetsSpec : ChangeSpec := { name := "storeGets", fn := fun _ => fun
  | [d1, d2, d3] => { results := [.lit (.bool true)], args := [d1, d2, d3] }
  | _ => none }
def storeGetsRow : OpenClaim := { program := "ytoeajbhlkccekaadoor", sum := "4c0bc5f8b8db2433c5c2a5a5c38ec867e6047727f4a966328698bb5db0baa005", func := "plenum/plenumlaw13.StoreGets", spec := "storeGets", unfollowed := true, recurses := true, named := ["plenum/key.signs"], apart := false, laid := [("plenum/key.signs", laid_plenum_key_signs)] }
def StoreGetsSaid : Prop := storeGetsRow.holds Tryd.pinned (OpenSpec.ofChange storeGetsSpec)

/-- ITS FALSE NEIGHBOUR: 'it returns false'. Refute it at one input. -/
def storeGetsWrong : ChangeSpec := { name := "storeGets", fn := fun _ => fun
  | [d1, d2, d3] => { results := [.lit (.bool false)], args := [d1, d2, d3] }
  | _ => none }
def StoreGetsWrongFalsely : Prop := storeGetsRow.holds Tryd.pinned (OpenSpec.ofChange storeGetsWrong)

/-- 'plenumlaw13.StoreNews': WHATEVER THE INPUT: true; the input reads as it did. -/
def storeNewsSpec : ChangeSpec := { name := "storeNews", fn := fun _ => fun
  | [d1, d2, d3] => { results := [.lit (.bool true)], args := [d1, d2, d3] }
  | _ => none }
def storeNewsRow : OpenClaim := { program := "ytoeajbhlkccekaadoor", sum := "4c0bc5f8b8db2433c5c2a5a5c38ec867e6047727f4a966328698bb5db0baa005", func := "plenum/plenumlaw13.StoreNews", spec := "storeNews", unfollowed := true, recurses := true, named := ["plenum/key.signs"], apart := false, laid := [("plenum/key.signs", laid_plenum_key_signs)] }
def StoreNewsSaid : Prop := storeNewsRow.holds Tryd.pinned (OpenSpec.ofChange storeNewsSpec)

/-- ITS FALSE NEIGHBOUR: 'it returns false'. Refute it at one input. -/
def storeNewsWrong : ChangeSpec := { name := "storeNews", fn := fun _ => fun
  | [d1, d2, d3] => { results := [.lit (.bool false)], args := [d1, d2, d3] }
  | _ => none }
def StoreNewsWrongFalsely : Prop := storeNewsRow.holds Tryd.pinned (OpenSpec.ofChange storeNewsWrong)

/-- 'plenumlaw13.StoreUndoes': WHATEVER THE INPUT: true; the input reads as it did. -/
def storeUndoesSpec : ChangeSpec := { name := "storeUndoes", fn := fun _ => fun
  | [d1, d2] => { results := [.lit (.bool true)], args := [d1, d2] }
  | _ => none }
def storeUndoesRow : OpenClaim := { program := "ytoeajbhlkccekaadoor", sum := "4c0bc5f8b8db2433c5c2a5a5c38ec867e6047727f4a966328698bb5db0baa005", func := "plenum/plenumlaw13.StoreUndoes", spec := "storeUndoes", unfollowed := true, recurses := true, named := ["plenum/key.signs"], apart := false, laid := [("plenum/key.signs", laid_plenum_key_signs)] }
def StoreUndoesSaid : Prop := storeUndoesRow.holds Tryd.pinned (OpenSpec.ofChange storeUndoesSpec)

/-- ITS FALSE NEIGHBOUR: 'it returns false'. Refute it at one input. -/
def storeUndoesWrong : ChangeSpec := { name := "storeUndoes", fn := fun _ => fun
  | [d1, d2] => { results := [.lit (.bool false)], args := [d1, d2] }
  | _ => none }
def StoreUndoesWrongFalsely : Prop := storeUndoesRow.holds Tryd.pinned (OpenSpec.ofChange storeUndoesWrong)

/- THE SECOND FORM. 'bulk': how many values and letters a reading holds, each counted each time it is reached (what is shared counts as often as it is met; a slice's spare places count too). A statement '..UptoSaid' is the law's where the arguments, and the package variables that the reading takes, are together of bulk at most 1048576: NARROWER than '..Said'. Prove '..Said' where nothing that the law and all that it calls make is longer than what came in: it says more and counts as full. Else prove '..UptoSaid'. A law counts once. -/
mutual
def uptoBulk {H : Type} : DataW H → Nat
  | .lit (.string bytes) => bytes.length + 1
  | .lit _ => 1
  | .nil => 1
  | .ptr d => uptoBulk d + 1
  | .slice elems spare => uptoBulkAll elems + uptoBulkAll spare + 1
  | .agg parts => uptoBulkAll parts + 1
  | .iface _ d => uptoBulk d + 1
  | .map entries => uptoBulkEntries entries + 1
  | .held _ => 1
def uptoBulkAll {H : Type} : List (DataW H) → Nat
  | [] => 0
  | d :: r => uptoBulk d + uptoBulkAll r
def uptoBulkEntries {H : Type} : List (Lit × DataW H) → Nat
  | [] => 0
  | x :: r => uptoBulkEntry x + uptoBulkEntries r
def uptoBulkEntry {H : Type} : Lit × DataW H → Nat
  | (.string bytes, d) => bytes.length + uptoBulk d + 1
  | (_, d) => uptoBulk d + 1
 end
def uptoSmall : (H : Type) → List (DataW H) → Bool := fun _ ds => decide (uptoBulkAll ds ≤ 1048576)
def OpenSpec.upto (s : _root_.Go.ChangeSpec) : _root_.Go.OpenSpec := { _root_.Go.OpenSpec.ofChange s with cond := some uptoSmall }

/-- 'plenumlaw13.StoreTakes', WHERE WHAT IT READS IS OF BULK AT MOST 1048576: true; the input reads as it did. -/
def storeTakesUptoRow : OpenClaim := { program := "ytoeajbhlkccekaadoor", sum := "4c0bc5f8b8db2433c5c2a5a5c38ec867e6047727f4a966328698bb5db0baa005", func := "plenum/plenumlaw13.StoreTakes", spec := "storeTakes", unfollowed := true, recurses := true, named := ["plenum/key.signs"], apart := false, laid := [("plenum/key.signs", laid_plenum_key_signs)], narrowed := true }
def StoreTakesUptoSaid : Prop := storeTakesUptoRow.holds Tryd.pinned (OpenSpec.upto storeTakesSpec)

/-- 'plenumlaw13.StoreAll', WHERE WHAT IT READS IS OF BULK AT MOST 1048576: true; the input reads as it did. -/
def storeAllUptoRow : OpenClaim := { program := "ytoeajbhlkccekaadoor", sum := "4c0bc5f8b8db2433c5c2a5a5c38ec867e6047727f4a966328698bb5db0baa005", func := "plenum/plenumlaw13.StoreAll", spec := "storeAll", unfollowed := true, recurses := true, named := ["plenum/key.signs"], apart := false, laid := [("plenum/key.signs", laid_plenum_key_signs)], narrowed := true }
def StoreAllUptoSaid : Prop := storeAllUptoRow.holds Tryd.pinned (OpenSpec.upto storeAllSpec)

/-- 'plenumlaw13.StoreGets', WHERE WHAT IT READS IS OF BULK AT MOST 1048576: true; the input reads as it did. -/
def storeGetsUptoRow : OpenClaim := { program := "ytoeajbhlkccekaadoor", sum := "4c0bc5f8b8db2433c5c2a5a5c38ec867e6047727f4a966328698bb5db0baa005", func := "plenum/plenumlaw13.StoreGets", spec := "storeGets", unfollowed := true, recurses := true, named := ["plenum/key.signs"], apart := false, laid := [("plenum/key.signs", laid_plenum_key_signs)], narrowed := true }
def StoreGetsUptoSaid : Prop := storeGetsUptoRow.holds Tryd.pinned (OpenSpec.upto storeGetsSpec)

/-- 'plenumlaw13.StoreNews', WHERE WHAT IT READS IS OF BULK AT MOST 1048576: true; the input reads as it did. -/
def storeNewsUptoRow : OpenClaim := { program := "ytoeajbhlkccekaadoor", sum := "4c0bc5f8b8db2433c5c2a5a5c38ec867e6047727f4a966328698bb5db0baa005", func := "plenum/plenumlaw13.StoreNews", spec := "storeNews", unfollowed := true, recurses := true, named := ["plenum/key.signs"], apart := false, laid := [("plenum/key.signs", laid_plenum_key_signs)], narrowed := true }
def StoreNewsUptoSaid : Prop := storeNewsUptoRow.holds Tryd.pinned (OpenSpec.upto storeNewsSpec)

/-- 'plenumlaw13.StoreUndoes', WHERE WHAT IT READS IS OF BULK AT MOST 1048576: true; the input reads as it did. -/
def storeUndoesUptoRow : OpenClaim := { program := "ytoeajbhlkccekaadoor", sum := "4c0bc5f8b8db2433c5c2a5a5c38ec867e6047727f4a966328698bb5db0baa005", func := "plenum/plenumlaw13.StoreUndoes", spec := "storeUndoes", unfollowed := true, recurses := true, named := ["plenum/key.signs"], apart := false, laid := [("plenum/key.signs", laid_plenum_key_signs)], narrowed := true }
def StoreUndoesUptoSaid : Prop := storeUndoesUptoRow.holds Tryd.pinned (OpenSpec.upto storeUndoesSpec)

end Rows
end Go.Proofs.YtoeajbhlkccekaaDoor
