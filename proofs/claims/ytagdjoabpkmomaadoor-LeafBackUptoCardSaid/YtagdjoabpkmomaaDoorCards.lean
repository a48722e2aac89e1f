/-
  DERIVED. GIVEN WITH THE SEED: THE CARDS: each row of YtagdjoabpkmomaaDoorRows.lean that lists a variable, with what it lists TIED to the program's text (the seventh form; the later family's looks); each row that meets fmt, with fmt's text TOLD by the authors' own Lean function (tested against real Go, not proved from fmt's source: count such statements apart). THE CARD IS WHAT COUNTS. Prove the row's statement (the work); the ties are given (YtagdjoabpkmomaaDoorTie.lean); close each card by the builder's one call (the guide's Derived/Test/ToyasCard.lean, 'card_holds'). Laid BY PROGRAM, IN A SANDBOX (cutbox-door.mjs). By AI agents, Wed Nov 11 2026. No macro, syntax, notation, axiom, sorry.
-/
import Derived.Test.YtagdjoabpkmomaaDoorRows
import GoSem.ClaimSeven
namespace Go.Proofs.YtagdjoabpkmomaaDoor
namespace Rows

/-- THE TIED CARD OF 'plenumlaw09.LeafChecks'. -/
def leafChecksCard : Claim7 := { stood := { row := leafChecksRow, standIns := [], harness := (true, "f6135f21488c5db8da1edc12ab58f1d34861e3315f2614a7c166ee6fceded424"), looks := false }, kinds := [], alts := [], laidByText := true, laidKinds := [.data], laidTests := true, laidLooks := .later }
def LeafChecksCardSaid : Prop := Claim7.holds Tryd.pinned (.plain (OpenSpec.ofChange leafChecksSpec)) leafChecksCard

/-- THE TIED CARD OF 'plenumlaw09.LeafDoes'. -/
def leafDoesCard : Claim7 := { stood := { row := leafDoesRow, standIns := [], harness := (true, "f6135f21488c5db8da1edc12ab58f1d34861e3315f2614a7c166ee6fceded424"), looks := false }, kinds := [], alts := [], laidByText := true, laidKinds := [.data], laidTests := true, laidLooks := .later }
def LeafDoesCardSaid : Prop := Claim7.holds Tryd.pinned (.plain (OpenSpec.ofChange leafDoesSpec)) leafDoesCard

/-- THE TIED CARD OF 'plenumlaw09.LeafKeeps'. -/
def leafKeepsCard : Claim7 := { stood := { row := leafKeepsRow, standIns := [], harness := (true, "f6135f21488c5db8da1edc12ab58f1d34861e3315f2614a7c166ee6fceded424"), looks := false }, kinds := [], alts := [], laidByText := true, laidKinds := [.data], laidTests := true, laidLooks := .later }
def LeafKeepsCardSaid : Prop := Claim7.holds Tryd.pinned (.plain (OpenSpec.ofChange leafKeepsSpec)) leafKeepsCard

/-- THE TIED CARD OF 'plenumlaw09.LeafScans'. -/
def leafScansCard : Claim7 := { stood := { row := leafScansRow, standIns := [], harness := (true, "f6135f21488c5db8da1edc12ab58f1d34861e3315f2614a7c166ee6fceded424"), looks := false }, kinds := [], alts := [], laidByText := true, laidKinds := [.data], laidTests := true, laidLooks := .later }
def LeafScansCardSaid : Prop := Claim7.holds Tryd.pinned (.plain (OpenSpec.ofChange leafScansSpec)) leafScansCard

/-- THE TIED CARD OF 'plenumlaw09.LeafChunks'. -/
def leafChunksCard : Claim7 := { stood := { row := leafChunksRow, standIns := [], harness := (true, "f6135f21488c5db8da1edc12ab58f1d34861e3315f2614a7c166ee6fceded424"), looks := false }, kinds := [], alts := [], laidByText := true, laidKinds := [.data], laidTests := true, laidLooks := .later }
def LeafChunksCardSaid : Prop := Claim7.holds Tryd.pinned (.plain (OpenSpec.ofChange leafChunksSpec)) leafChunksCard

/-- THE TIED CARD OF 'plenumlaw09.LeafBack'. -/
def leafBackCard : Claim7 := { stood := { row := leafBackRow, standIns := [], harness := (true, "f6135f21488c5db8da1edc12ab58f1d34861e3315f2614a7c166ee6fceded424"), looks := false }, kinds := [], alts := [], laidByText := true, laidKinds := [.data], laidTests := true, laidLooks := .later }
def LeafBackCardSaid : Prop := Claim7.holds Tryd.pinned (.plain (OpenSpec.ofChange leafBackSpec)) leafBackCard

/-- THE SECOND FORM's CARD OF 'plenumlaw09.LeafChecks'. -/
def leafChecksUptoCard : Claim7 := { stood := { row := leafChecksUptoRow, standIns := [], harness := (true, "f6135f21488c5db8da1edc12ab58f1d34861e3315f2614a7c166ee6fceded424"), looks := false }, kinds := [], alts := [], laidByText := true, laidKinds := [.data], laidTests := true, laidLooks := .later }
def LeafChecksUptoCardSaid : Prop := Claim7.holds Tryd.pinned (.plain (OpenSpec.upto leafChecksSpec)) leafChecksUptoCard

/-- THE SECOND FORM's CARD OF 'plenumlaw09.LeafDoes'. -/
def leafDoesUptoCard : Claim7 := { stood := { row := leafDoesUptoRow, standIns := [], harness := (true, "f6135f21488c5db8da1edc12ab58f1d34861e3315f2614a7c166ee6fceded424"), looks := false }, kinds := [], alts := [], laidByText := true, laidKinds := [.data], laidTests := true, laidLooks := .later }
def LeafDoesUptoCardSaid : Prop := Claim7.holds Tryd.pinned (.plain (OpenSpec.upto leafDoesSpec)) leafDoesUptoCard

/-- THE SECOND FORM's CARD OF 'plenumlaw09.LeafKeeps'. -/
def leafKeepsUptoCard : Claim7 := { stood := { row := leafKeepsUptoRow, standIns := [], harness := (true, "f6135f21488c5db8da1edc12ab58f1d34861e3315f2614a7c166ee6fceded424"), looks := false }, kinds := [], alts := [], laidByText := true, laidKinds := [.data], laidTests := true, laidLooks := .later }
def LeafKeepsUptoCardSaid : Prop := Claim7.holds Tryd.pinned (.plain (OpenSpec.upto leafKeepsSpec)) leafKeepsUptoCard

/-- THE SECOND FORM's CARD OF 'plenumlaw09.LeafScans'. -/
def leafScansUptoCard : Claim7 := { stood := { row := leafScansUptoRow, standIns := [], harness := (true, "f6135f21488c5db8da1edc12ab58f1d34861e3315f2614a7c166ee6fceded424"), looks := false }, kinds := [], alts := [], laidByText := true, laidKinds := [.data], laidTests := true, laidLooks := .later }
def LeafScansUptoCardSaid : Prop := Claim7.holds Tryd.pinned (.plain (OpenSpec.upto leafScansSpec)) leafScansUptoCard

/-- THE SECOND FORM's CARD OF 'plenumlaw09.LeafChunks'. -/
def leafChunksUptoCard : Claim7 := { stood := { row := leafChunksUptoRow, standIns := [], harness := (true, "f6135f21488c5db8da1edc12ab58f1d34861e3315f2614a7c166ee6fceded424"), looks := false }, kinds := [], alts := [], laidByText := true, laidKinds := [.data], laidTests := true, laidLooks := .later }
def LeafChunksUptoCardSaid : Prop := Claim7.holds Tryd.pinned (.plain (OpenSpec.upto leafChunksSpec)) leafChunksUptoCard

/-- THE SECOND FORM's CARD OF 'plenumlaw09.LeafBack'. -/
def leafBackUptoCard : Claim7 := { stood := { row := leafBackUptoRow, standIns := [], harness := (true, "f6135f21488c5db8da1edc12ab58f1d34861e3315f2614a7c166ee6fceded424"), looks := false }, kinds := [], alts := [], laidByText := true, laidKinds := [.data], laidTests := true, laidLooks := .later }
def LeafBackUptoCardSaid : Prop := Claim7.holds Tryd.pinned (.plain (OpenSpec.upto leafBackSpec)) leafBackUptoCard
end Rows
end Go.Proofs.YtagdjoabpkmomaaDoor
