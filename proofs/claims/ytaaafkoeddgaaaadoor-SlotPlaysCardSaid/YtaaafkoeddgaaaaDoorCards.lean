/-
  DERIVED. GIVEN WITH THE SEED: THE CARDS: each row of YtaaafkoeddgaaaaDoorRows.lean that lists a variable, with what it lists TIED to the program's text (the seventh form; the later family's looks); each row that meets fmt, with fmt's text TOLD by the authors' own Lean function (tested against real Go, not proved from fmt's source: count such statements apart). THE CARD IS WHAT COUNTS. Prove the row's statement (the work); the ties are given (YtaaafkoeddgaaaaDoorTie.lean); close each card by the builder's one call (the guide's Derived/Test/ToyasCard.lean, 'card_holds'). Laid BY PROGRAM, IN A SANDBOX (cutbox-door.mjs). By AI agents, Wed Nov 11 2026. No macro, syntax, notation, axiom, sorry.
-/
import Derived.Test.YtaaafkoeddgaaaaDoorRows
import GoSem.ClaimSeven
namespace Go.Proofs.YtaaafkoeddgaaaaDoor
namespace Rows

/-- THE TIED CARD OF 'plenumlaw29.SlotDoes'. -/
def slotDoesCard : Claim7 := { stood := { row := slotDoesRow, standIns := [], harness := (true, "2ee69688702dd93c43387d58d947b501f72bf85904c51b6fdb415d5e226fe0b7"), looks := false }, kinds := [], alts := [], laidByText := true, laidKinds := [.data], laidTests := true, laidLooks := .later }
def SlotDoesCardSaid : Prop := Claim7.holds Tryd.pinned (.plain (OpenSpec.ofChange slotDoesSpec)) slotDoesCard

/-- THE TIED CARD OF 'plenumlaw29.SlotPlays'. -/
def slotPlaysCard : Claim7 := { stood := { row := slotPlaysRow, standIns := [], harness := (true, "2ee69688702dd93c43387d58d947b501f72bf85904c51b6fdb415d5e226fe0b7"), looks := false }, kinds := [], alts := [], laidByText := true, laidKinds := [.data], laidTests := true, laidLooks := .later }
def SlotPlaysCardSaid : Prop := Claim7.holds Tryd.pinned (.plain (OpenSpec.ofChange slotPlaysSpec)) slotPlaysCard

/-- THE TIED CARD OF 'plenumlaw29.SlotAgree'. -/
def slotAgreeCard : Claim7 := { stood := { row := slotAgreeRow, standIns := [], harness := (true, "2ee69688702dd93c43387d58d947b501f72bf85904c51b6fdb415d5e226fe0b7"), looks := false }, kinds := [], alts := [], laidByText := true, laidKinds := [.data], laidTests := true, laidLooks := .later }
def SlotAgreeCardSaid : Prop := Claim7.holds Tryd.pinned (.plain (OpenSpec.ofChange slotAgreeSpec)) slotAgreeCard

/-- THE SECOND FORM's CARD OF 'plenumlaw29.SlotDoes'. -/
def slotDoesUptoCard : Claim7 := { stood := { row := slotDoesUptoRow, standIns := [], harness := (true, "2ee69688702dd93c43387d58d947b501f72bf85904c51b6fdb415d5e226fe0b7"), looks := false }, kinds := [], alts := [], laidByText := true, laidKinds := [.data], laidTests := true, laidLooks := .later }
def SlotDoesUptoCardSaid : Prop := Claim7.holds Tryd.pinned (.plain (OpenSpec.upto slotDoesSpec)) slotDoesUptoCard

/-- THE SECOND FORM's CARD OF 'plenumlaw29.SlotPlays'. -/
def slotPlaysUptoCard : Claim7 := { stood := { row := slotPlaysUptoRow, standIns := [], harness := (true, "2ee69688702dd93c43387d58d947b501f72bf85904c51b6fdb415d5e226fe0b7"), looks := false }, kinds := [], alts := [], laidByText := true, laidKinds := [.data], laidTests := true, laidLooks := .later }
def SlotPlaysUptoCardSaid : Prop := Claim7.holds Tryd.pinned (.plain (OpenSpec.upto slotPlaysSpec)) slotPlaysUptoCard

/-- THE SECOND FORM's CARD OF 'plenumlaw29.SlotAgree'. -/
def slotAgreeUptoCard : Claim7 := { stood := { row := slotAgreeUptoRow, standIns := [], harness := (true, "2ee69688702dd93c43387d58d947b501f72bf85904c51b6fdb415d5e226fe0b7"), looks := false }, kinds := [], alts := [], laidByText := true, laidKinds := [.data], laidTests := true, laidLooks := .later }
def SlotAgreeUptoCardSaid : Prop := Claim7.holds Tryd.pinned (.plain (OpenSpec.upto slotAgreeSpec)) slotAgreeUptoCard
end Rows
end Go.Proofs.YtaaafkoeddgaaaaDoor
