/-
  NARROWER THAN 'FOR EVERY INPUT', by the rows' own cells (each row's printed sentence says how): SnapChecks: laid · SnapKeeps: laid · SnapFinds: laid · SnapStays: laid · SnapDrops: laid.
  DERIVED. THE GIVEN ROWS OF THIS SEAT. 5 by the template 'for every input the law returns true; each argument reads behind the call as it read before'; 0 by the template 'total and deterministic' (their statements: YtopifabnobplcaaDoorTotals.lean).
  GIVEN WITH THE SEED: the statements are not yours to turn. If you find one false, say at which input.
  Laid BY PROGRAM, IN A SANDBOX (cutbox-rows.mjs): the forced cells as the released guide's own fill.sh prints them over the translation ada3059606cb2e01… (all of the seat's roots in one cut). By AI agents, Wed Nov 11 2026. No macro, syntax, notation, axiom, sorry.
-/
import Derived.Test.YtopifabnobplcaaDoorChecked
import GoSem.Claim
import GoSem.ClaimJoined
import GoSem.ClaimMapViews
import Derived.JoinedTies
import Derived.KernelRfl
namespace Go.Proofs.YtopifabnobplcaaDoor
/- THE CELL 'sum', in the pinned program and in every row, IS THE sha256 OF THE DUMP (.gsa) THAT YtopifabnobplcaaDoorProg.lean LOADS. Nothing in Lean hashes anything: it is a label: what it is worth is what the hold of that sum in a sandbox is worth. -/
noncomputable def Tryd.pinned : Pinned := { name := "ytopifabnobplcaadoor", sum := "ada3059606cb2e0131bf4d16c062d887139246d7408b3683805a25e67283721f", checked := Tryd.checked }
namespace Rows
def none {H : Type} : Left H := { results := [], args := [] }

/- WHAT THE LISTED PACKAGE-LEVEL VARIABLES READ AS WHEN THE CALL BEGINS. Each datum BY PROGRAM (the guide's laid-datum.mjs) off the statement by which the dump's own 'gosem.cut.vars' lays the variable. In a bare row this is a premise. The card (YtopifabnobplcaaDoorCards.lean) ties it to the program's text. -/
def laid_plenum_key_signs {H : Type} : DataW H := .agg [.lit (.int .u64 288195191779622912), .lit (.int .u64 576460745860972544)]

/-- 'plenumlaw14.SnapChecks': WHATEVER THE INPUT: true; the input reads as it did. -/
def snapChecksSpec : ChangeSpec := { name := "snapChecks", fn := fun _ => fun
  | [d] => { results := [.lit (.bool true)], args := [d] }
  | _ => none }
def snapChecksRow : OpenClaim := { program := "ytopifabnobplcaadoor", sum := "ada3059606cb2e0131bf4d16c062d887139246d7408b3683805a25e67283721f", func := "plenum/plenumlaw14.SnapChecks", spec := "snapChecks", unfollowed := true, recurses := true, named := ["plenum/key.signs"], apart := false, laid := [("plenum/key.signs", laid_plenum_key_signs)] }
def SnapChecksSaid : Prop := snapChecksRow.holds Tryd.pinned (OpenSpec.ofChange snapChecksSpec)

/-- ITS FALSE NEIGHBOUR: 'it returns false'. Refute it at one input. -/
def snapChecksWrong : ChangeSpec := { name := "snapChecks", fn := fun _ => fun
  | [d] => { results := [.lit (.bool false)], args := [d] }
  | _ => none }
def SnapChecksWrongFalsely : Prop := snapChecksRow.holds Tryd.pinned (OpenSpec.ofChange snapChecksWrong)

/-- 'plenumlaw14.SnapKeeps': WHATEVER THE INPUT: true; the input reads as it did. -/
def snapKeepsSpec : ChangeSpec := { name := "snapKeeps", fn := fun _ => fun
  | [d1, d2, d3] => { results := [.lit (.bool true)], args := [d1, d2, d3] }
  | _ => none }
def snapKeepsRow : OpenClaim := { program := "ytopifabnobplcaadoor", sum := "ada3059606cb2e0131bf4d16c062d887139246d7408b3683805a25e67283721f", func := "plenum/plenumlaw14.SnapKeeps", spec := "snapKeeps", unfollowed := true, recurses := true, named := ["plenum/key.signs"], apart := false, laid := [("plenum/key.signs", laid_plenum_key_signs)] }
def SnapKeepsSaid : Prop := snapKeepsRow.holds Tryd.pinned (OpenSpec.ofChange snapKeepsSpec)

/-- ITS FALSE NEIGHBOUR: 'it returns false'. Refute it at one input. -/
def snapKeepsWrong : ChangeSpec := { name := "snapKeeps", fn := fun _ => fun
  | [d1, d2, d3] => { results := [.lit (.bool false)], args := [d1, d2, d3] }
  | _ => none }
def SnapKeepsWrongFalsely : Prop := snapKeepsRow.holds Tryd.pinned (OpenSpec.ofChange snapKeepsWrong)

/-- 'plenumlaw14.SnapFinds': WHATEVER THE INPUT: true; the input reads as it did. -/
def snapFindsSpec : ChangeSpec := { name := "snapFinds", fn := fun _ => fun
  | [d1, d2] => { results := [.lit (.bool true)], args := [d1, d2] }
  | _ => none }
def snapFindsRow : OpenClaim := { program := "ytopifabnobplcaadoor", sum := "ada3059606cb2e0131bf4d16c062d887139246d7408b3683805a25e67283721f", func := "plenum/plenumlaw14.SnapFinds", spec := "snapFinds", unfollowed := true, recurses := true, named := ["plenum/key.signs"], apart := false, laid := [("plenum/key.signs", laid_plenum_key_signs)] }
def SnapFindsSaid : Prop := snapFindsRow.holds Tryd.pinned (OpenSpec.ofChange snapFindsSpec)

/-- ITS FALSE NEIGHBOUR: 'it returns false'. Refute it at one input. -/
def snapFindsWrong : ChangeSpec := { name := "snapFinds", fn := fun _ => fun
  | [d1, d2] => { results := [.lit (.bool false)], args := [d1, d2] }
  | _ => none }
def SnapFindsWrongFalsely : Prop := snapFindsRow.holds Tryd.pinned (OpenSpec.ofChange snapFindsWrong)

/-- 'plenumlaw14.SnapStays': WHATEVER THE INPUT: true; the input reads as it did. -/
def snapStaysSpec : ChangeSpec := { name := "snapStays", fn := fun _ => fun
  | [d1, d2, d3] => { results := [.lit (.bool true)], args := [d1, d2, d3] }
  | _ => none }
def snapStaysRow : OpenClaim := { program := "ytopifabnobplcaadoor", sum := "ada3059606cb2e0131bf4d16c062d887139246d7408b3683805a25e67283721f", func := "plenum/plenumlaw14.SnapStays", spec := "snapStays", unfollowed := true, recurses := true, named := ["plenum/key.signs"], apart := false, laid := [("plenum/key.signs", laid_plenum_key_signs)] }
def SnapStaysSaid : Prop := snapStaysRow.holds Tryd.pinned (OpenSpec.ofChange snapStaysSpec)

/-- ITS FALSE NEIGHBOUR: 'it returns false'. Refute it at one input. -/
def snapStaysWrong : ChangeSpec := { name := "snapStays", fn := fun _ => fun
  | [d1, d2, d3] => { results := [.lit (.bool false)], args := [d1, d2, d3] }
  | _ => none }
def SnapStaysWrongFalsely : Prop := snapStaysRow.holds Tryd.pinned (OpenSpec.ofChange snapStaysWrong)

/-- 'plenumlaw14.SnapDrops': WHATEVER THE INPUT: true; the input reads as it did. -/
def snapDropsSpec : ChangeSpec := { name := "snapDrops", fn := fun _ => fun
  | [d1, d2, d3] => { results := [.lit (.bool true)], args := [d1, d2, d3] }
  | _ => none }
def snapDropsRow : OpenClaim := { program := "ytopifabnobplcaadoor", sum := "ada3059606cb2e0131bf4d16c062d887139246d7408b3683805a25e67283721f", func := "plenum/plenumlaw14.SnapDrops", spec := "snapDrops", unfollowed := true, recurses := true, named := ["plenum/key.signs"], apart := false, laid := [("plenum/key.signs", laid_plenum_key_signs)] }
def SnapDropsSaid : Prop := snapDropsRow.holds Tryd.pinned (OpenSpec.ofChange snapDropsSpec)

/-- ITS FALSE NEIGHBOUR: 'it returns false'. Refute it at one input. -/
def snapDropsWrong : ChangeSpec := { name := "snapDrops", fn := fun _ => fun
  | [d1, d2, d3] => { results := [.lit (.bool false)], args := [d1, d2, d3] }
  | _ => none }
def SnapDropsWrongFalsely : Prop := snapDropsRow.holds Tryd.pinned (OpenSpec.ofChange snapDropsWrong)

/- THE SECOND FORM. 'bulk': how many values and letters a reading holds, each counted each time it is reached (what is shared counts as often as it is met; a slice's spare places count too). A statement '..UptoSaid' is the law's where the arguments, and the package variables that the reading takes, are together of bulk at most 1048576: NARROWER than '..Said'. Prove '..Said' where nothing that the law and all that it calls make is longer than what came in: it says more and counts as full. Else prove '..UptoSaid'. A law counts once. -/
mutual
def uptoBulk {H : Type} : DataW H → Nat
  | .lit (.string bytes) => bytes.length + 1
  | .lit _ => 1
  | .nil => 1
  | .ptr d => uptoBulk d + 1
  | .slice elems spare => uptoBulkAll elems + uptoBulkAll spare + 1
  | .agg parts => uptoBulkAll parts + 1
  | .iface _ d => uptoBulk d + 1
  | .map entries => uptoBulkEntries entries + 1
  | .held _ => 1
def uptoBulkAll {H : Type} : List (DataW H) → Nat
  | [] => 0
  | d :: r => uptoBulk d + uptoBulkAll r
def uptoBulkEntries {H : Type} : List (Lit × DataW H) → Nat
  | [] => 0
  | x :: r => uptoBulkEntry x + uptoBulkEntries r
def uptoBulkEntry {H : Type} : Lit × DataW H → Nat
  | (.string bytes, d) => bytes.length + uptoBulk d + 1
  | (_, d) => uptoBulk d + 1
 end
def uptoSmall : (H : Type) → List (DataW H) → Bool := fun _ ds => decide (uptoBulkAll ds ≤ 1048576)
def OpenSpec.upto (s : _root_.Go.ChangeSpec) : _root_.Go.OpenSpec := { _root_.Go.OpenSpec.ofChange s with cond := some uptoSmall }

/-- 'plenumlaw14.SnapChecks', WHERE WHAT IT READS IS OF BULK AT MOST 1048576: true; the input reads as it did. -/
def snapChecksUptoRow : OpenClaim := { program := "ytopifabnobplcaadoor", sum := "ada3059606cb2e0131bf4d16c062d887139246d7408b3683805a25e67283721f", func := "plenum/plenumlaw14.SnapChecks", spec := "snapChecks", unfollowed := true, recurses := true, named := ["plenum/key.signs"], apart := false, laid := [("plenum/key.signs", laid_plenum_key_signs)], narrowed := true }
def SnapChecksUptoSaid : Prop := snapChecksUptoRow.holds Tryd.pinned (OpenSpec.upto snapChecksSpec)

/-- 'plenumlaw14.SnapKeeps', WHERE WHAT IT READS IS OF BULK AT MOST 1048576: true; the input reads as it did. -/
def snapKeepsUptoRow : OpenClaim := { program := "ytopifabnobplcaadoor", sum := "ada3059606cb2e0131bf4d16c062d887139246d7408b3683805a25e67283721f", func := "plenum/plenumlaw14.SnapKeeps", spec := "snapKeeps", unfollowed := true, recurses := true, named := ["plenum/key.signs"], apart := false, laid := [("plenum/key.signs", laid_plenum_key_signs)], narrowed := true }
def SnapKeepsUptoSaid : Prop := snapKeepsUptoRow.holds Tryd.pinned (OpenSpec.upto snapKeepsSpec)

/-- 'plenumlaw14.SnapFinds', WHERE WHAT IT READS IS OF BULK AT MOST 1048576: true; the input reads as it did. -/
def snapFindsUptoRow : OpenClaim := { program := "ytopifabnobplcaadoor", sum := "ada3059606cb2e0131bf4d16c062d887139246d7408b3683805a25e67283721f", func := "plenum/plenumlaw14.SnapFinds", spec := "snapFinds", unfollowed := true, recurses := true, named := ["plenum/key.signs"], apart := false, laid := [("plenum/key.signs", laid_plenum_key_signs)], narrowed := true }
def SnapFindsUptoSaid : Prop := snapFindsUptoRow.holds Tryd.pinned (OpenSpec.upto snapFindsSpec)

/-- 'plenumlaw14.SnapStays', WHERE WHAT IT READS IS OF BULK AT MOST 1048576: true; the input reads as it did. -/
def snapStaysUptoRow : OpenClaim := { program := "ytopifabnobplcaadoor", sum := "ada3059606cb2e0131bf4d16c062d887139246d7408b3683805a25e67283721f", func := "plenum/plenumlaw14.SnapStays", spec := "snapStays", unfollowed := true, recurses := true, named := ["plenum/key.signs"], apart := false, laid := [("plenum/key.signs", laid_plenum_key_signs)], narrowed := true }
def SnapStaysUptoSaid : Prop := snapStaysUptoRow.holds Tryd.pinned (OpenSpec.upto snapStaysSpec)

/-- 'plenumlaw14.SnapDrops', WHERE WHAT IT READS IS OF BULK AT MOST 1048576: true; the input reads as it did. -/
def snapDropsUptoRow : OpenClaim := { program := "ytopifabnobplcaadoor", sum := "ada3059606cb2e0131bf4d16c062d887139246d7408b3683805a25e67283721f", func := "plenum/plenumlaw14.SnapDrops", spec := "snapDrops", unfollowed := true, recurses := true, named := ["plenum/key.signs"], apart := false, laid := [("plenum/key.signs", laid_plenum_key_signs)], narrowed := true }
def SnapDropsUptoSaid : Prop := snapDropsUptoRow.holds Tryd.pinned (OpenSpec.upto snapDropsSpec)

end Rows
end Go.Proofs.YtopifabnobplcaaDoor
