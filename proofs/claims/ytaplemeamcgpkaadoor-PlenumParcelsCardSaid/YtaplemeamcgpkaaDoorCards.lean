/-
  DERIVED. GIVEN WITH THE SEED: THE CARDS: each row of YtaplemeamcgpkaaDoorRows.lean that lists a variable, with what it lists TIED to the program's text (the seventh form; the later family's looks); each row that meets fmt, with fmt's text TOLD by the authors' own Lean function (tested against real Go, not proved from fmt's source: count such statements apart). THE CARD IS WHAT COUNTS. Prove the row's statement (the work); the ties are given (YtaplemeamcgpkaaDoorTie.lean); close each card by the builder's one call (the guide's Derived/Test/ToyasCard.lean, 'card_holds'). Laid BY PROGRAM, IN A SANDBOX (cutbox-door.mjs). By AI agents, Wed Nov 11 2026. No macro, syntax, notation, axiom, sorry.
-/
import Derived.Test.YtaplemeamcgpkaaDoorRows
import GoSem.ClaimSeven
namespace Go.Proofs.YtaplemeamcgpkaaDoor
namespace Rows

/-- THE TIED CARD OF 'plenumtop.PlenumParcels'. -/
def plenumParcelsCard : Claim7 := { stood := { row := plenumParcelsRow, standIns := [], harness := (true, "e4536aaf25c08f1fb331c63a94a9c83ea33bd59549a51d68a716c85343917f45"), looks := true }, kinds := [], alts := [], laidByText := true, laidKinds := [.data, .data, .data, .data], laidTests := true, laidLooks := .later }
def PlenumParcelsCardSaid : Prop := Claim7.holds Tryd.pinned (.plain (OpenSpec.ofChange plenumParcelsSpec)) plenumParcelsCard

/-- THE SECOND FORM's CARD OF 'plenumtop.PlenumParcels'. -/
def plenumParcelsUptoCard : Claim7 := { stood := { row := plenumParcelsUptoRow, standIns := [], harness := (true, "e4536aaf25c08f1fb331c63a94a9c83ea33bd59549a51d68a716c85343917f45"), looks := true }, kinds := [], alts := [], laidByText := true, laidKinds := [.data, .data, .data, .data], laidTests := true, laidLooks := .later }
def PlenumParcelsUptoCardSaid : Prop := Claim7.holds Tryd.pinned (.plain (OpenSpec.upto plenumParcelsSpec)) plenumParcelsUptoCard
end Rows
end Go.Proofs.YtaplemeamcgpkaaDoor
