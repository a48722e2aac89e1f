/-
  DERIVED. GIVEN WITH THE SEED: THE CARDS: each row of YtlhnkljpidgjgaaDoorRows.lean that lists a variable, with what it lists TIED to the program's text (the seventh form; the later family's looks); each row that meets fmt, with fmt's text TOLD by the authors' own Lean function (tested against real Go, not proved from fmt's source: count such statements apart). THE CARD IS WHAT COUNTS. Prove the row's statement (the work); the ties are given (YtlhnkljpidgjgaaDoorTie.lean); close each card by the builder's one call (the guide's Derived/Test/ToyasCard.lean, 'card_holds'). Laid BY PROGRAM, IN A SANDBOX (cutbox-door.mjs). By AI agents, Wed Nov 11 2026. No macro, syntax, notation, axiom, sorry.
-/
import Derived.Test.YtlhnkljpidgjgaaDoorRows
import GoSem.ClaimSeven
namespace Go.Proofs.YtlhnkljpidgjgaaDoor
namespace Rows

/-- THE TIED CARD OF 'plenumlaw05.QuorumSizes'. -/
def quorumSizesCard : Claim7 := { stood := { row := quorumSizesRow, standIns := [], harness := (true, "f20be71b46a4e87d5dc5be707563021f794d2f2864245aa41560c429b0544a0c"), looks := false }, kinds := [], alts := [], laidByText := true, laidKinds := [.data], laidTests := true, laidLooks := .later }
def QuorumSizesCardSaid : Prop := Claim7.holds Tryd.pinned (.plain (OpenSpec.ofChange quorumSizesSpec)) quorumSizesCard

/-- THE TIED CARD OF 'plenumlaw05.QuorumMeets'. -/
def quorumMeetsCard : Claim7 := { stood := { row := quorumMeetsRow, standIns := [], harness := (true, "f20be71b46a4e87d5dc5be707563021f794d2f2864245aa41560c429b0544a0c"), looks := false }, kinds := [], alts := [], laidByText := true, laidKinds := [.data], laidTests := true, laidLooks := .later }
def QuorumMeetsCardSaid : Prop := Claim7.holds Tryd.pinned (.plain (OpenSpec.ofChange quorumMeetsSpec)) quorumMeetsCard

/-- THE TIED CARD OF 'plenumlaw05.QuorumOf'. -/
def quorumOfCard : Claim7 := { stood := { row := quorumOfRow, standIns := [], harness := (true, "f20be71b46a4e87d5dc5be707563021f794d2f2864245aa41560c429b0544a0c"), looks := false }, kinds := [], alts := [], laidByText := true, laidKinds := [.data], laidTests := true, laidLooks := .later }
def QuorumOfCardSaid : Prop := Claim7.holds Tryd.pinned (.plain (OpenSpec.ofChange quorumOfSpec)) quorumOfCard

/-- THE TIED CARD OF 'plenumlaw05.QuorumSets'. -/
def quorumSetsCard : Claim7 := { stood := { row := quorumSetsRow, standIns := [], harness := (true, "f20be71b46a4e87d5dc5be707563021f794d2f2864245aa41560c429b0544a0c"), looks := false }, kinds := [], alts := [], laidByText := true, laidKinds := [.data], laidTests := true, laidLooks := .later }
def QuorumSetsCardSaid : Prop := Claim7.holds Tryd.pinned (.plain (OpenSpec.ofChange quorumSetsSpec)) quorumSetsCard

/-- THE SECOND FORM's CARD OF 'plenumlaw05.QuorumSizes'. -/
def quorumSizesUptoCard : Claim7 := { stood := { row := quorumSizesUptoRow, standIns := [], harness := (true, "f20be71b46a4e87d5dc5be707563021f794d2f2864245aa41560c429b0544a0c"), looks := false }, kinds := [], alts := [], laidByText := true, laidKinds := [.data], laidTests := true, laidLooks := .later }
def QuorumSizesUptoCardSaid : Prop := Claim7.holds Tryd.pinned (.plain (OpenSpec.upto quorumSizesSpec)) quorumSizesUptoCard

/-- THE SECOND FORM's CARD OF 'plenumlaw05.QuorumMeets'. -/
def quorumMeetsUptoCard : Claim7 := { stood := { row := quorumMeetsUptoRow, standIns := [], harness := (true, "f20be71b46a4e87d5dc5be707563021f794d2f2864245aa41560c429b0544a0c"), looks := false }, kinds := [], alts := [], laidByText := true, laidKinds := [.data], laidTests := true, laidLooks := .later }
def QuorumMeetsUptoCardSaid : Prop := Claim7.holds Tryd.pinned (.plain (OpenSpec.upto quorumMeetsSpec)) quorumMeetsUptoCard

/-- THE SECOND FORM's CARD OF 'plenumlaw05.QuorumOf'. -/
def quorumOfUptoCard : Claim7 := { stood := { row := quorumOfUptoRow, standIns := [], harness := (true, "f20be71b46a4e87d5dc5be707563021f794d2f2864245aa41560c429b0544a0c"), looks := false }, kinds := [], alts := [], laidByText := true, laidKinds := [.data], laidTests := true, laidLooks := .later }
def QuorumOfUptoCardSaid : Prop := Claim7.holds Tryd.pinned (.plain (OpenSpec.upto quorumOfSpec)) quorumOfUptoCard

/-- THE SECOND FORM's CARD OF 'plenumlaw05.QuorumSets'. -/
def quorumSetsUptoCard : Claim7 := { stood := { row := quorumSetsUptoRow, standIns := [], harness := (true, "f20be71b46a4e87d5dc5be707563021f794d2f2864245aa41560c429b0544a0c"), looks := false }, kinds := [], alts := [], laidByText := true, laidKinds := [.data], laidTests := true, laidLooks := .later }
def QuorumSetsUptoCardSaid : Prop := Claim7.holds Tryd.pinned (.plain (OpenSpec.upto quorumSetsSpec)) quorumSetsUptoCard
end Rows
end Go.Proofs.YtlhnkljpidgjgaaDoor
