/-
  DERIVED. GIVEN WITH THE SEED: THE CARDS: each row of YthmnhfabkllgpaaDoorRows.lean that lists a variable, with what it lists TIED to the program's text (the seventh form; the later family's looks); each row that meets fmt, with fmt's text TOLD by the authors' own Lean function (tested against real Go, not proved from fmt's source: count such statements apart). THE CARD IS WHAT COUNTS. Prove the row's statement (the work); the ties are given (YthmnhfabkllgpaaDoorTie.lean); close each card by the builder's one call (the guide's Derived/Test/ToyasCard.lean, 'card_holds'). Laid BY PROGRAM, IN A SANDBOX (cutbox-door.mjs). By AI agents, Wed Nov 11 2026. No macro, syntax, notation, axiom, sorry.
-/
import Derived.Test.YthmnhfabkllgpaaDoorRows
import GoSem.ClaimSeven
namespace Go.Proofs.YthmnhfabkllgpaaDoor
namespace Rows

/-- THE TIED CARD OF 'plenumlaw10.TrunkDoes'. -/
def trunkDoesCard : Claim7 := { stood := { row := trunkDoesRow, standIns := [], harness := (true, "748b728ebe5421b4f815147123a79d78b9def331ebcf4d385cf6bba516485d60"), looks := false }, kinds := [], alts := [], laidByText := true, laidKinds := [.data], laidTests := true, laidLooks := .later }
def TrunkDoesCardSaid : Prop := Claim7.holds Tryd.pinned (.plain (OpenSpec.ofChange trunkDoesSpec)) trunkDoesCard

/-- THE TIED CARD OF 'plenumlaw10.TrunkKeeps'. -/
def trunkKeepsCard : Claim7 := { stood := { row := trunkKeepsRow, standIns := [], harness := (true, "748b728ebe5421b4f815147123a79d78b9def331ebcf4d385cf6bba516485d60"), looks := false }, kinds := [], alts := [], laidByText := true, laidKinds := [.data], laidTests := true, laidLooks := .later }
def TrunkKeepsCardSaid : Prop := Claim7.holds Tryd.pinned (.plain (OpenSpec.ofChange trunkKeepsSpec)) trunkKeepsCard

/-- THE TIED CARD OF 'plenumlaw10.TrunkReplaces'. -/
def trunkReplacesCard : Claim7 := { stood := { row := trunkReplacesRow, standIns := [], harness := (true, "748b728ebe5421b4f815147123a79d78b9def331ebcf4d385cf6bba516485d60"), looks := false }, kinds := [], alts := [], laidByText := true, laidKinds := [.data], laidTests := true, laidLooks := .later }
def TrunkReplacesCardSaid : Prop := Claim7.holds Tryd.pinned (.plain (OpenSpec.ofChange trunkReplacesSpec)) trunkReplacesCard

/-- THE TIED CARD OF 'plenumlaw10.TrunkTells'. -/
def trunkTellsCard : Claim7 := { stood := { row := trunkTellsRow, standIns := [], harness := (true, "748b728ebe5421b4f815147123a79d78b9def331ebcf4d385cf6bba516485d60"), looks := false }, kinds := [], alts := [], laidByText := true, laidKinds := [.data], laidTests := true, laidLooks := .later }
def TrunkTellsCardSaid : Prop := Claim7.holds Tryd.pinned (.plain (OpenSpec.ofChange trunkTellsSpec)) trunkTellsCard

/-- THE SECOND FORM's CARD OF 'plenumlaw10.TrunkDoes'. -/
def trunkDoesUptoCard : Claim7 := { stood := { row := trunkDoesUptoRow, standIns := [], harness := (true, "748b728ebe5421b4f815147123a79d78b9def331ebcf4d385cf6bba516485d60"), looks := false }, kinds := [], alts := [], laidByText := true, laidKinds := [.data], laidTests := true, laidLooks := .later }
def TrunkDoesUptoCardSaid : Prop := Claim7.holds Tryd.pinned (.plain (OpenSpec.upto trunkDoesSpec)) trunkDoesUptoCard

/-- THE SECOND FORM's CARD OF 'plenumlaw10.TrunkKeeps'. -/
def trunkKeepsUptoCard : Claim7 := { stood := { row := trunkKeepsUptoRow, standIns := [], harness := (true, "748b728ebe5421b4f815147123a79d78b9def331ebcf4d385cf6bba516485d60"), looks := false }, kinds := [], alts := [], laidByText := true, laidKinds := [.data], laidTests := true, laidLooks := .later }
def TrunkKeepsUptoCardSaid : Prop := Claim7.holds Tryd.pinned (.plain (OpenSpec.upto trunkKeepsSpec)) trunkKeepsUptoCard

/-- THE SECOND FORM's CARD OF 'plenumlaw10.TrunkReplaces'. -/
def trunkReplacesUptoCard : Claim7 := { stood := { row := trunkReplacesUptoRow, standIns := [], harness := (true, "748b728ebe5421b4f815147123a79d78b9def331ebcf4d385cf6bba516485d60"), looks := false }, kinds := [], alts := [], laidByText := true, laidKinds := [.data], laidTests := true, laidLooks := .later }
def TrunkReplacesUptoCardSaid : Prop := Claim7.holds Tryd.pinned (.plain (OpenSpec.upto trunkReplacesSpec)) trunkReplacesUptoCard

/-- THE SECOND FORM's CARD OF 'plenumlaw10.TrunkTells'. -/
def trunkTellsUptoCard : Claim7 := { stood := { row := trunkTellsUptoRow, standIns := [], harness := (true, "748b728ebe5421b4f815147123a79d78b9def331ebcf4d385cf6bba516485d60"), looks := false }, kinds := [], alts := [], laidByText := true, laidKinds := [.data], laidTests := true, laidLooks := .later }
def TrunkTellsUptoCardSaid : Prop := Claim7.holds Tryd.pinned (.plain (OpenSpec.upto trunkTellsSpec)) trunkTellsUptoCard
end Rows
end Go.Proofs.YthmnhfabkllgpaaDoor
