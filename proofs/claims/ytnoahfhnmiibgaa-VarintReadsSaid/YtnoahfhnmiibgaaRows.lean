/-
  No cell of these rows narrows 'for every input' (looked for: loops, veiled, ifaces, maps, wideKeys, modest, calm, conditions, laid).
  DERIVED. THE GIVEN ROWS OF THIS SEAT. 8 by the template 'for every input the law returns true; each argument reads behind the call as it read before'; 0 by the template 'total and deterministic' (their statements: YtnoahfhnmiibgaaTotals.lean).
  GIVEN WITH THE SEED: the statements are not yours to turn. If you find one false, say at which input.
  Laid BY PROGRAM, IN A SANDBOX (cutbox-rows.mjs): the forced cells as the released guide's own fill.sh prints them over the translation 063ecac0b8a775d2… (all of the seat's roots in one cut). By AI agents, Wed Nov 11 2026. No macro, syntax, notation, axiom, sorry.
-/
import Derived.Test.YtnoahfhnmiibgaaChecked
import GoSem.Claim
import GoSem.ClaimJoined
import GoSem.ClaimMapViews
import Derived.JoinedTies
import Derived.KernelRfl
namespace Go.Proofs.Ytnoahfhnmiibgaa
/- THE CELL 'sum', in the pinned program and in every row, IS THE sha256 OF THE DUMP (.gsa) THAT YtnoahfhnmiibgaaProg.lean LOADS. Nothing in Lean hashes anything: it is a label: what it is worth is what the hold of that sum in a sandbox is worth. -/
noncomputable def Try.pinned : Pinned := { name := "ytnoahfhnmiibgaa", sum := "063ecac0b8a775d27a739806c2f272220ca895bec9f4d5601a8c048b67529e3a", checked := Try.checked }
namespace Rows
def none {H : Type} : Left H := { results := [], args := [] }

/-- 'plenumlaw01.VarintNumbers': WHATEVER THE INPUT: true; the input reads as it did. -/
def varintNumbersSpec : ChangeSpec := { name := "varintNumbers", fn := fun _ => fun
  | [] => { results := [.lit (.bool true)], args := [] }
  | _ => none }
def varintNumbersRow : OpenClaim := { program := "ytnoahfhnmiibgaa", sum := "063ecac0b8a775d27a739806c2f272220ca895bec9f4d5601a8c048b67529e3a", func := "plenum/plenumlaw01.VarintNumbers", spec := "varintNumbers", apart := false }
def VarintNumbersSaid : Prop := varintNumbersRow.holds Try.pinned (OpenSpec.ofChange varintNumbersSpec)

/-- ITS FALSE NEIGHBOUR: 'it returns false'. Refute it at one input. -/
def varintNumbersWrong : ChangeSpec := { name := "varintNumbers", fn := fun _ => fun
  | [] => { results := [.lit (.bool false)], args := [] }
  | _ => none }
def VarintNumbersWrongFalsely : Prop := varintNumbersRow.holds Try.pinned (OpenSpec.ofChange varintNumbersWrong)

/-- 'plenumlaw01.VarintApart': WHATEVER THE INPUT: true; the input reads as it did. -/
def varintApartSpec : ChangeSpec := { name := "varintApart", fn := fun _ => fun
  | [d1, d2] => { results := [.lit (.bool true)], args := [d1, d2] }
  | _ => none }
def varintApartRow : OpenClaim := { program := "ytnoahfhnmiibgaa", sum := "063ecac0b8a775d27a739806c2f272220ca895bec9f4d5601a8c048b67529e3a", func := "plenum/plenumlaw01.VarintApart", spec := "varintApart", apart := false }
def VarintApartSaid : Prop := varintApartRow.holds Try.pinned (OpenSpec.ofChange varintApartSpec)

/-- ITS FALSE NEIGHBOUR: 'it returns false'. Refute it at one input. -/
def varintApartWrong : ChangeSpec := { name := "varintApart", fn := fun _ => fun
  | [d1, d2] => { results := [.lit (.bool false)], args := [d1, d2] }
  | _ => none }
def VarintApartWrongFalsely : Prop := varintApartRow.holds Try.pinned (OpenSpec.ofChange varintApartWrong)

/-- 'plenumlaw01.VarintCuts': WHATEVER THE INPUT: true; the input reads as it did. -/
def varintCutsSpec : ChangeSpec := { name := "varintCuts", fn := fun _ => fun
  | [d] => { results := [.lit (.bool true)], args := [d] }
  | _ => none }
def varintCutsRow : OpenClaim := { program := "ytnoahfhnmiibgaa", sum := "063ecac0b8a775d27a739806c2f272220ca895bec9f4d5601a8c048b67529e3a", func := "plenum/plenumlaw01.VarintCuts", spec := "varintCuts", apart := false }
def VarintCutsSaid : Prop := varintCutsRow.holds Try.pinned (OpenSpec.ofChange varintCutsSpec)

/-- ITS FALSE NEIGHBOUR: 'it returns false'. Refute it at one input. -/
def varintCutsWrong : ChangeSpec := { name := "varintCuts", fn := fun _ => fun
  | [d] => { results := [.lit (.bool false)], args := [d] }
  | _ => none }
def VarintCutsWrongFalsely : Prop := varintCutsRow.holds Try.pinned (OpenSpec.ofChange varintCutsWrong)

/-- 'plenumlaw01.VarintBack': WHATEVER THE INPUT: true; the input reads as it did. -/
def varintBackSpec : ChangeSpec := { name := "varintBack", fn := fun _ => fun
  | [d1, d2, d3] => { results := [.lit (.bool true)], args := [d1, d2, d3] }
  | _ => none }
def varintBackRow : OpenClaim := { program := "ytnoahfhnmiibgaa", sum := "063ecac0b8a775d27a739806c2f272220ca895bec9f4d5601a8c048b67529e3a", func := "plenum/plenumlaw01.VarintBack", spec := "varintBack", apart := false }
def VarintBackSaid : Prop := varintBackRow.holds Try.pinned (OpenSpec.ofChange varintBackSpec)

/-- ITS FALSE NEIGHBOUR: 'it returns false'. Refute it at one input. -/
def varintBackWrong : ChangeSpec := { name := "varintBack", fn := fun _ => fun
  | [d1, d2, d3] => { results := [.lit (.bool false)], args := [d1, d2, d3] }
  | _ => none }
def VarintBackWrongFalsely : Prop := varintBackRow.holds Try.pinned (OpenSpec.ofChange varintBackWrong)

/-- 'plenumlaw01.VarintPuts': WHATEVER THE INPUT: true; the input reads as it did. -/
def varintPutsSpec : ChangeSpec := { name := "varintPuts", fn := fun _ => fun
  | [d1, d2] => { results := [.lit (.bool true)], args := [d1, d2] }
  | _ => none }
def varintPutsRow : OpenClaim := { program := "ytnoahfhnmiibgaa", sum := "063ecac0b8a775d27a739806c2f272220ca895bec9f4d5601a8c048b67529e3a", func := "plenum/plenumlaw01.VarintPuts", spec := "varintPuts", apart := false }
def VarintPutsSaid : Prop := varintPutsRow.holds Try.pinned (OpenSpec.ofChange varintPutsSpec)

/-- ITS FALSE NEIGHBOUR: 'it returns false'. Refute it at one input. -/
def varintPutsWrong : ChangeSpec := { name := "varintPuts", fn := fun _ => fun
  | [d1, d2] => { results := [.lit (.bool false)], args := [d1, d2] }
  | _ => none }
def VarintPutsWrongFalsely : Prop := varintPutsRow.holds Try.pinned (OpenSpec.ofChange varintPutsWrong)

/-- 'plenumlaw01.VarintTexts': WHATEVER THE INPUT: true; the input reads as it did. -/
def varintTextsSpec : ChangeSpec := { name := "varintTexts", fn := fun _ => fun
  | [d1, d2] => { results := [.lit (.bool true)], args := [d1, d2] }
  | _ => none }
def varintTextsRow : OpenClaim := { program := "ytnoahfhnmiibgaa", sum := "063ecac0b8a775d27a739806c2f272220ca895bec9f4d5601a8c048b67529e3a", func := "plenum/plenumlaw01.VarintTexts", spec := "varintTexts", apart := false }
def VarintTextsSaid : Prop := varintTextsRow.holds Try.pinned (OpenSpec.ofChange varintTextsSpec)

/-- ITS FALSE NEIGHBOUR: 'it returns false'. Refute it at one input. -/
def varintTextsWrong : ChangeSpec := { name := "varintTexts", fn := fun _ => fun
  | [d1, d2] => { results := [.lit (.bool false)], args := [d1, d2] }
  | _ => none }
def VarintTextsWrongFalsely : Prop := varintTextsRow.holds Try.pinned (OpenSpec.ofChange varintTextsWrong)

/-- 'plenumlaw01.VarintLists': WHATEVER THE INPUT: true; the input reads as it did. -/
def varintListsSpec : ChangeSpec := { name := "varintLists", fn := fun _ => fun
  | [d1, d2, d3] => { results := [.lit (.bool true)], args := [d1, d2, d3] }
  | _ => none }
def varintListsRow : OpenClaim := { program := "ytnoahfhnmiibgaa", sum := "063ecac0b8a775d27a739806c2f272220ca895bec9f4d5601a8c048b67529e3a", func := "plenum/plenumlaw01.VarintLists", spec := "varintLists", apart := false }
def VarintListsSaid : Prop := varintListsRow.holds Try.pinned (OpenSpec.ofChange varintListsSpec)

/-- ITS FALSE NEIGHBOUR: 'it returns false'. Refute it at one input. -/
def varintListsWrong : ChangeSpec := { name := "varintLists", fn := fun _ => fun
  | [d1, d2, d3] => { results := [.lit (.bool false)], args := [d1, d2, d3] }
  | _ => none }
def VarintListsWrongFalsely : Prop := varintListsRow.holds Try.pinned (OpenSpec.ofChange varintListsWrong)

/-- 'plenumlaw01.VarintReads': WHATEVER THE INPUT: true; the input reads as it did. -/
def varintReadsSpec : ChangeSpec := { name := "varintReads", fn := fun _ => fun
  | [d1, d2] => { results := [.lit (.bool true)], args := [d1, d2] }
  | _ => none }
def varintReadsRow : OpenClaim := { program := "ytnoahfhnmiibgaa", sum := "063ecac0b8a775d27a739806c2f272220ca895bec9f4d5601a8c048b67529e3a", func := "plenum/plenumlaw01.VarintReads", spec := "varintReads", unfollowed := true, recurses := true, apart := false }
def VarintReadsSaid : Prop := varintReadsRow.holds Try.pinned (OpenSpec.ofChange varintReadsSpec)

/-- ITS FALSE NEIGHBOUR: 'it returns false'. Refute it at one input. -/
def varintReadsWrong : ChangeSpec := { name := "varintReads", fn := fun _ => fun
  | [d1, d2] => { results := [.lit (.bool false)], args := [d1, d2] }
  | _ => none }
def VarintReadsWrongFalsely : Prop := varintReadsRow.holds Try.pinned (OpenSpec.ofChange varintReadsWrong)

/- THE SECOND FORM. 'bulk': how many values and letters a reading holds, each counted each time it is reached (what is shared counts as often as it is met; a slice's spare places count too). A statement '..UptoSaid' is the law's where the arguments, and the package variables that the reading takes, are together of bulk at most 1048576: NARROWER than '..Said'. Prove '..Said' where nothing that the law and all that it calls make is longer than what came in: it says more and counts as full. Else prove '..UptoSaid'. A law counts once. -/
mutual
def uptoBulk {H : Type} : DataW H → Nat
  | .lit (.string bytes) => bytes.length + 1
  | .lit _ => 1
  | .nil => 1
  | .ptr d => uptoBulk d + 1
  | .slice elems spare => uptoBulkAll elems + uptoBulkAll spare + 1
  | .agg parts => uptoBulkAll parts + 1
  | .iface _ d => uptoBulk d + 1
  | .map entries => uptoBulkEntries entries + 1
  | .held _ => 1
def uptoBulkAll {H : Type} : List (DataW H) → Nat
  | [] => 0
  | d :: r => uptoBulk d + uptoBulkAll r
def uptoBulkEntries {H : Type} : List (Lit × DataW H) → Nat
  | [] => 0
  | x :: r => uptoBulkEntry x + uptoBulkEntries r
def uptoBulkEntry {H : Type} : Lit × DataW H → Nat
  | (.string bytes, d) => bytes.length + uptoBulk d + 1
  | (_, d) => uptoBulk d + 1
 end
def uptoSmall : (H : Type) → List (DataW H) → Bool := fun _ ds => decide (uptoBulkAll ds ≤ 1048576)
def OpenSpec.upto (s : _root_.Go.ChangeSpec) : _root_.Go.OpenSpec := { _root_.Go.OpenSpec.ofChange s with cond := some uptoSmall }

/-- 'plenumlaw01.VarintNumbers', WHERE WHAT IT READS IS OF BULK AT MOST 1048576: true; the input reads as it did. -/
def varintNumbersUptoRow : OpenClaim := { program := "ytnoahfhnmiibgaa", sum := "063ecac0b8a775d27a739806c2f272220ca895bec9f4d5601a8c048b67529e3a", func := "plenum/plenumlaw01.VarintNumbers", spec := "varintNumbers", apart := false, narrowed := true }
def VarintNumbersUptoSaid : Prop := varintNumbersUptoRow.holds Try.pinned (OpenSpec.upto varintNumbersSpec)

/-- 'plenumlaw01.VarintApart', WHERE WHAT IT READS IS OF BULK AT MOST 1048576: true; the input reads as it did. -/
def varintApartUptoRow : OpenClaim := { program := "ytnoahfhnmiibgaa", sum := "063ecac0b8a775d27a739806c2f272220ca895bec9f4d5601a8c048b67529e3a", func := "plenum/plenumlaw01.VarintApart", spec := "varintApart", apart := false, narrowed := true }
def VarintApartUptoSaid : Prop := varintApartUptoRow.holds Try.pinned (OpenSpec.upto varintApartSpec)

/-- 'plenumlaw01.VarintCuts', WHERE WHAT IT READS IS OF BULK AT MOST 1048576: true; the input reads as it did. -/
def varintCutsUptoRow : OpenClaim := { program := "ytnoahfhnmiibgaa", sum := "063ecac0b8a775d27a739806c2f272220ca895bec9f4d5601a8c048b67529e3a", func := "plenum/plenumlaw01.VarintCuts", spec := "varintCuts", apart := false, narrowed := true }
def VarintCutsUptoSaid : Prop := varintCutsUptoRow.holds Try.pinned (OpenSpec.upto varintCutsSpec)

/-- 'plenumlaw01.VarintBack', WHERE WHAT IT READS IS OF BULK AT MOST 1048576: true; the input reads as it did. -/
def varintBackUptoRow : OpenClaim := { program := "ytnoahfhnmiibgaa", sum := "063ecac0b8a775d27a739806c2f272220ca895bec9f4d5601a8c048b67529e3a", func := "plenum/plenumlaw01.VarintBack", spec := "varintBack", apart := false, narrowed := true }
def VarintBackUptoSaid : Prop := varintBackUptoRow.holds Try.pinned (OpenSpec.upto varintBackSpec)

/-- 'plenumlaw01.VarintPuts', WHERE WHAT IT READS IS OF BULK AT MOST 1048576: true; the input reads as it did. -/
def varintPutsUptoRow : OpenClaim := { program := "ytnoahfhnmiibgaa", sum := "063ecac0b8a775d27a739806c2f272220ca895bec9f4d5601a8c048b67529e3a", func := "plenum/plenumlaw01.VarintPuts", spec := "varintPuts", apart := false, narrowed := true }
def VarintPutsUptoSaid : Prop := varintPutsUptoRow.holds Try.pinned (OpenSpec.upto varintPutsSpec)

/-- 'plenumlaw01.VarintTexts', WHERE WHAT IT READS IS OF BULK AT MOST 1048576: true; the input reads as it did. -/
def varintTextsUptoRow : OpenClaim := { program := "ytnoahfhnmiibgaa", sum := "063ecac0b8a775d27a739806c2f272220ca895bec9f4d5601a8c048b67529e3a", func := "plenum/plenumlaw01.VarintTexts", spec := "varintTexts", apart := false, narrowed := true }
def VarintTextsUptoSaid : Prop := varintTextsUptoRow.holds Try.pinned (OpenSpec.upto varintTextsSpec)

/-- 'plenumlaw01.VarintLists', WHERE WHAT IT READS IS OF BULK AT MOST 1048576: true; the input reads as it did. -/
def varintListsUptoRow : OpenClaim := { program := "ytnoahfhnmiibgaa", sum := "063ecac0b8a775d27a739806c2f272220ca895bec9f4d5601a8c048b67529e3a", func := "plenum/plenumlaw01.VarintLists", spec := "varintLists", apart := false, narrowed := true }
def VarintListsUptoSaid : Prop := varintListsUptoRow.holds Try.pinned (OpenSpec.upto varintListsSpec)

/-- 'plenumlaw01.VarintReads', WHERE WHAT IT READS IS OF BULK AT MOST 1048576: true; the input reads as it did. -/
def varintReadsUptoRow : OpenClaim := { program := "ytnoahfhnmiibgaa", sum := "063ecac0b8a775d27a739806c2f272220ca895bec9f4d5601a8c048b67529e3a", func := "plenum/plenumlaw01.VarintReads", spec := "varintReads", unfollowed := true, recurses := true, apart := false, narrowed := true }
def VarintReadsUptoSaid : Prop := varintReadsUptoRow.holds Try.pinned (OpenSpec.upto varintReadsSpec)

end Rows
end Go.Proofs.Ytnoahfhnmiibgaa
