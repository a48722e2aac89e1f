/-
  No cell of these rows narrows 'for every input' (looked for: loops, veiled, ifaces, maps, wideKeys, modest, calm, conditions, laid).
  DERIVED. THE GIVEN ROWS OF THIS SEAT. 3 by the template 'for every input the law returns true; each argument reads behind the call as it read before'; 0 by the template 'total and deterministic' (their statements: YtllfdnfiicnmiaaTotals.lean).
  GIVEN WITH THE SEED: the statements are not yours to turn. If you find one false, say at which input.
  Laid BY PROGRAM, IN A SANDBOX (cutbox-rows.mjs): the forced cells as the released guide's own fill.sh prints them over the translation 981bec76d3653c53… (all of the seat's roots in one cut). By AI agents, Wed Nov 11 2026. No macro, syntax, notation, axiom, sorry.
-/
import Derived.Test.YtllfdnfiicnmiaaChecked
import GoSem.Claim
import GoSem.ClaimJoined
import GoSem.ClaimMapViews
import Derived.JoinedTies
import Derived.KernelRfl
namespace Go.Proofs.Ytllfdnfiicnmiaa
/- THE CELL 'sum', in the pinned program and in every row, IS THE sha256 OF THE DUMP (.gsa) THAT YtllfdnfiicnmiaaProg.lean LOADS. Nothing in Lean hashes anything: it is a label: what it is worth is what the hold of that sum in a sandbox is worth. -/
noncomputable def Try.pinned : Pinned := { name := "ytllfdnfiicnmiaa", sum := "981bec76d3653c535339999ebd8de1bcddb78956794654db4dd2644680931fcf", checked := Try.checked }
namespace Rows
def none {H : Type} : Left H := { results := [], args := [] }

/-- 'plenumlaw04.RingVoices': WHATEVER THE INPUT: true; the input reads as it did. -/
def ringVoicesSpec : ChangeSpec := { name := "ringVoices", fn := fun _ => fun
  | [d1, d2, d3] => { results := [.lit (.bool true)], args := [d1, d2, d3] }
  | _ => none }
def ringVoicesRow : OpenClaim := { program := "ytllfdnfiicnmiaa", sum := "981bec76d3653c535339999ebd8de1bcddb78956794654db4dd2644680931fcf", func := "plenum/plenumlaw04.RingVoices", spec := "ringVoices", plainKeys := false, apart := false }
def RingVoicesSaid : Prop := ringVoicesRow.holds Try.pinned (OpenSpec.ofChange ringVoicesSpec)

/-- ITS FALSE NEIGHBOUR: 'it returns false'. Refute it at one input. -/
def ringVoicesWrong : ChangeSpec := { name := "ringVoices", fn := fun _ => fun
  | [d1, d2, d3] => { results := [.lit (.bool false)], args := [d1, d2, d3] }
  | _ => none }
def RingVoicesWrongFalsely : Prop := ringVoicesRow.holds Try.pinned (OpenSpec.ofChange ringVoicesWrong)

/-- 'plenumlaw04.RingTrue': WHATEVER THE INPUT: true; the input reads as it did. -/
def ringTrueSpec : ChangeSpec := { name := "ringTrue", fn := fun _ => fun
  | [d1, d2, d3] => { results := [.lit (.bool true)], args := [d1, d2, d3] }
  | _ => none }
def ringTrueRow : OpenClaim := { program := "ytllfdnfiicnmiaa", sum := "981bec76d3653c535339999ebd8de1bcddb78956794654db4dd2644680931fcf", func := "plenum/plenumlaw04.RingTrue", spec := "ringTrue", plainKeys := false, apart := false }
def RingTrueSaid : Prop := ringTrueRow.holds Try.pinned (OpenSpec.ofChange ringTrueSpec)

/-- ITS FALSE NEIGHBOUR: 'it returns false'. Refute it at one input. -/
def ringTrueWrong : ChangeSpec := { name := "ringTrue", fn := fun _ => fun
  | [d1, d2, d3] => { results := [.lit (.bool false)], args := [d1, d2, d3] }
  | _ => none }
def RingTrueWrongFalsely : Prop := ringTrueRow.holds Try.pinned (OpenSpec.ofChange ringTrueWrong)

/-- 'plenumlaw04.RingPlays': WHATEVER THE INPUT: true; the input reads as it did. -/
def ringPlaysSpec : ChangeSpec := { name := "ringPlays", fn := fun _ => fun
  | [d1, d2, d3] => { results := [.lit (.bool true)], args := [d1, d2, d3] }
  | _ => none }
def ringPlaysRow : OpenClaim := { program := "ytllfdnfiicnmiaa", sum := "981bec76d3653c535339999ebd8de1bcddb78956794654db4dd2644680931fcf", func := "plenum/plenumlaw04.RingPlays", spec := "ringPlays", plainKeys := false, apart := false }
def RingPlaysSaid : Prop := ringPlaysRow.holds Try.pinned (OpenSpec.ofChange ringPlaysSpec)

/-- ITS FALSE NEIGHBOUR: 'it returns false'. Refute it at one input. -/
def ringPlaysWrong : ChangeSpec := { name := "ringPlays", fn := fun _ => fun
  | [d1, d2, d3] => { results := [.lit (.bool false)], args := [d1, d2, d3] }
  | _ => none }
def RingPlaysWrongFalsely : Prop := ringPlaysRow.holds Try.pinned (OpenSpec.ofChange ringPlaysWrong)

/- THE SECOND FORM. 'bulk': how many values and letters a reading holds, each counted each time it is reached (what is shared counts as often as it is met; a slice's spare places count too). A statement '..UptoSaid' is the law's where the arguments, and the package variables that the reading takes, are together of bulk at most 1048576: NARROWER than '..Said'. Prove '..Said' where nothing that the law and all that it calls make is longer than what came in: it says more and counts as full. Else prove '..UptoSaid'. A law counts once. -/
mutual
def uptoBulk {H : Type} : DataW H → Nat
  | .lit (.string bytes) => bytes.length + 1
  | .lit _ => 1
  | .nil => 1
  | .ptr d => uptoBulk d + 1
  | .slice elems spare => uptoBulkAll elems + uptoBulkAll spare + 1
  | .agg parts => uptoBulkAll parts + 1
  | .iface _ d => uptoBulk d + 1
  | .map entries => uptoBulkEntries entries + 1
  | .held _ => 1
def uptoBulkAll {H : Type} : List (DataW H) → Nat
  | [] => 0
  | d :: r => uptoBulk d + uptoBulkAll r
def uptoBulkEntries {H : Type} : List (Lit × DataW H) → Nat
  | [] => 0
  | x :: r => uptoBulkEntry x + uptoBulkEntries r
def uptoBulkEntry {H : Type} : Lit × DataW H → Nat
  | (.string bytes, d) => bytes.length + uptoBulk d + 1
  | (_, d) => uptoBulk d + 1
 end
def uptoSmall : (H : Type) → List (DataW H) → Bool := fun _ ds => decide (uptoBulkAll ds ≤ 1048576)
def OpenSpec.upto (s : _root_.Go.ChangeSpec) : _root_.Go.OpenSpec := { _root_.Go.OpenSpec.ofChange s with cond := some uptoSmall }

/-- 'plenumlaw04.RingVoices', WHERE WHAT IT READS IS OF BULK AT MOST 1048576: true; the input reads as it did. -/
def ringVoicesUptoRow : OpenClaim := { program := "ytllfdnfiicnmiaa", sum := "981bec76d3653c535339999ebd8de1bcddb78956794654db4dd2644680931fcf", func := "plenum/plenumlaw04.RingVoices", spec := "ringVoices", plainKeys := false, apart := false, narrowed := true }
def RingVoicesUptoSaid : Prop := ringVoicesUptoRow.holds Try.pinned (OpenSpec.upto ringVoicesSpec)

/-- 'plenumlaw04.RingTrue', WHERE WHAT IT READS IS OF BULK AT MOST 1048576: true; the input reads as it did. -/
def ringTrueUptoRow : OpenClaim := { program := "ytllfdnfiicnmiaa", sum := "981bec76d3653c535339999ebd8de1bcddb78956794654db4dd2644680931fcf", func := "plenum/plenumlaw04.RingTrue", spec := "ringTrue", plainKeys := false, apart := false, narrowed := true }
def RingTrueUptoSaid : Prop := ringTrueUptoRow.holds Try.pinned (OpenSpec.upto ringTrueSpec)

/-- 'plenumlaw04.RingPlays', WHERE WHAT IT READS IS OF BULK AT MOST 1048576: true; the input reads as it did. -/
def ringPlaysUptoRow : OpenClaim := { program := "ytllfdnfiicnmiaa", sum := "981bec76d3653c535339999ebd8de1bcddb78956794654db4dd2644680931fcf", func := "plenum/plenumlaw04.RingPlays", spec := "ringPlays", plainKeys := false, apart := false, narrowed := true }
def RingPlaysUptoSaid : Prop := ringPlaysUptoRow.holds Try.pinned (OpenSpec.upto ringPlaysSpec)

end Rows
end Go.Proofs.Ytllfdnfiicnmiaa
