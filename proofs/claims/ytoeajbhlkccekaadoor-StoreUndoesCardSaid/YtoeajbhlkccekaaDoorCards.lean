/-
  DERIVED. GIVEN WITH THE SEED: THE CARDS: each row of YtoeajbhlkccekaaDoorRows.lean that lists a variable, with what it lists TIED to the program's text (the seventh form; the later family's looks); each row that meets fmt, with fmt's text TOLD by the authors' own Lean function (tested against real Go, not proved from fmt's source: count such statements apart). THE CARD IS WHAT COUNTS. Prove the row's statement (the work); the ties are given (YtoeajbhlkccekaaDoorTie.lean); close each card by the builder's one call (the guide's Derived/Test/ToyasCard.lean, 'card_holds'). Laid BY PROGRAM, IN A SANDBOX (cutbox-door.mjs). By AI agents, Wed Nov 11 2026. No macro, syntax, notation, axiom, sorry.
-/
import Derived.Test.YtoeajbhlkccekaaDoorRows
import GoSem.ClaimSeven
namespace Go.Proofs.YtoeajbhlkccekaaDoor
namespace Rows

/-- THE TIED CARD OF 'plenumlaw13.StoreTakes'. -/
def storeTakesCard : Claim7 := { stood := { row := storeTakesRow, standIns := [], harness := (true, "064615322c5bf7d94d98440ede61d72b0d9c5fff1f4582ce641e9aa155961c71"), looks := true }, kinds := [], alts := [], laidByText := true, laidKinds := [.data], laidTests := true, laidLooks := .later }
def StoreTakesCardSaid : Prop := Claim7.holds Tryd.pinned (.plain (OpenSpec.ofChange storeTakesSpec)) storeTakesCard

/-- THE TIED CARD OF 'plenumlaw13.StoreAll'. -/
def storeAllCard : Claim7 := { stood := { row := storeAllRow, standIns := [], harness := (true, "064615322c5bf7d94d98440ede61d72b0d9c5fff1f4582ce641e9aa155961c71"), looks := true }, kinds := [], alts := [], laidByText := true, laidKinds := [.data], laidTests := true, laidLooks := .later }
def StoreAllCardSaid : Prop := Claim7.holds Tryd.pinned (.plain (OpenSpec.ofChange storeAllSpec)) storeAllCard

/-- THE TIED CARD OF 'plenumlaw13.StoreGets'. -/
def storeGetsCard : Claim7 := { stood := { row := storeGetsRow, standIns := [], harness := (true, "064615322c5bf7d94d98440ede61d72b0d9c5fff1f4582ce641e9aa155961c71"), looks := true }, kinds := [], alts := [], laidByText := true, laidKinds := [.data], laidTests := true, laidLooks := .later }
def StoreGetsCardSaid : Prop := Claim7.holds Tryd.pinned (.plain (OpenSpec.ofChange storeGetsSpec)) storeGetsCard

/-- THE TIED CARD OF 'plenumlaw13.StoreNews'. -/
def storeNewsCard : Claim7 := { stood := { row := storeNewsRow, standIns := [], harness := (true, "064615322c5bf7d94d98440ede61d72b0d9c5fff1f4582ce641e9aa155961c71"), looks := true }, kinds := [], alts := [], laidByText := true, laidKinds := [.data], laidTests := true, laidLooks := .later }
def StoreNewsCardSaid : Prop := Claim7.holds Tryd.pinned (.plain (OpenSpec.ofChange storeNewsSpec)) storeNewsCard

/-- THE TIED CARD OF 'plenumlaw13.StoreUndoes'. -/
def storeUndoesCard : Claim7 := { stood := { row := storeUndoesRow, standIns := [], harness := (true, "064615322c5bf7d94d98440ede61d72b0d9c5fff1f4582ce641e9aa155961c71"), looks := true }, kinds := [], alts := [], laidByText := true, laidKinds := [.data], laidTests := true, laidLooks := .later }
def StoreUndoesCardSaid : Prop := Claim7.holds Tryd.pinned (.plain (OpenSpec.ofChange storeUndoesSpec)) storeUndoesCard

/-- THE SECOND FORM's CARD OF 'plenumlaw13.StoreTakes'. -/
def storeTakesUptoCard : Claim7 := { stood := { row := storeTakesUptoRow, standIns := [], harness := (true, "064615322c5bf7d94d98440ede61d72b0d9c5fff1f4582ce641e9aa155961c71"), looks := true }, kinds := [], alts := [], laidByText := true, laidKinds := [.data], laidTests := true, laidLooks := .later }
def StoreTakesUptoCardSaid : Prop := Claim7.holds Tryd.pinned (.plain (OpenSpec.upto storeTakesSpec)) storeTakesUptoCard

/-- THE SECOND FORM's CARD OF 'plenumlaw13.StoreAll'. -/
def storeAllUptoCard : Claim7 := { stood := { row := storeAllUptoRow, standIns := [], harness := (true, "064615322c5bf7d94d98440ede61d72b0d9c5fff1f4582ce641e9aa155961c71"), looks := true }, kinds := [], alts := [], laidByText := true, laidKinds := [.data], laidTests := true, laidLooks := .later }
def StoreAllUptoCardSaid : Prop := Claim7.holds Tryd.pinned (.plain (OpenSpec.upto storeAllSpec)) storeAllUptoCard

/-- THE SECOND FORM's CARD OF 'plenumlaw13.StoreGets'. -/
def storeGetsUptoCard : Claim7 := { stood := { row := storeGetsUptoRow, standIns := [], harness := (true, "064615322c5bf7d94d98440ede61d72b0d9c5fff1f4582ce641e9aa155961c71"), looks := true }, kinds := [], alts := [], laidByText := true, laidKinds := [.data], laidTests := true, laidLooks := .later }
def StoreGetsUptoCardSaid : Prop := Claim7.holds Tryd.pinned (.plain (OpenSpec.upto storeGetsSpec)) storeGetsUptoCard

/-- THE SECOND FORM's CARD OF 'plenumlaw13.StoreNews'. -/
def storeNewsUptoCard : Claim7 := { stood := { row := storeNewsUptoRow, standIns := [], harness := (true, "064615322c5bf7d94d98440ede61d72b0d9c5fff1f4582ce641e9aa155961c71"), looks := true }, kinds := [], alts := [], laidByText := true, laidKinds := [.data], laidTests := true, laidLooks := .later }
def StoreNewsUptoCardSaid : Prop := Claim7.holds Tryd.pinned (.plain (OpenSpec.upto storeNewsSpec)) storeNewsUptoCard

/-- THE SECOND FORM's CARD OF 'plenumlaw13.StoreUndoes'. -/
def storeUndoesUptoCard : Claim7 := { stood := { row := storeUndoesUptoRow, standIns := [], harness := (true, "064615322c5bf7d94d98440ede61d72b0d9c5fff1f4582ce641e9aa155961c71"), looks := true }, kinds := [], alts := [], laidByText := true, laidKinds := [.data], laidTests := true, laidLooks := .later }
def StoreUndoesUptoCardSaid : Prop := Claim7.holds Tryd.pinned (.plain (OpenSpec.upto storeUndoesSpec)) storeUndoesUptoCard
end Rows
end Go.Proofs.YtoeajbhlkccekaaDoor
