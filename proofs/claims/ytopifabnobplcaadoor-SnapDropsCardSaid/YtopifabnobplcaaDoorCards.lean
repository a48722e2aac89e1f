/-
  DERIVED. GIVEN WITH THE SEED: THE CARDS: each row of YtopifabnobplcaaDoorRows.lean that lists a variable, with what it lists TIED to the program's text (the seventh form; the later family's looks); each row that meets fmt, with fmt's text TOLD by the authors' own Lean function (tested against real Go, not proved from fmt's source: count such statements apart). THE CARD IS WHAT COUNTS. Prove the row's statement (the work); the ties are given (YtopifabnobplcaaDoorTie.lean); close each card by the builder's one call (the guide's Derived/Test/ToyasCard.lean, 'card_holds'). Laid BY PROGRAM, IN A SANDBOX (cutbox-door.mjs). By AI agents, Wed Nov 11 2026. No macro, syntax, notation, axiom, sorry.
-/
import Derived.Test.YtopifabnobplcaaDoorRows
import GoSem.ClaimSeven
namespace Go.Proofs.YtopifabnobplcaaDoor
namespace Rows

/-- THE TIED CARD OF 'plenumlaw14.SnapChecks'. -/
def snapChecksCard : Claim7 := { stood := { row := snapChecksRow, standIns := [], harness := (true, "717e2e493304ecd92080918d5958daba92347e38dcb8ca42e5fef7b026742740"), looks := false }, kinds := [], alts := [], laidByText := true, laidKinds := [.data], laidTests := true, laidLooks := .later }
def SnapChecksCardSaid : Prop := Claim7.holds Tryd.pinned (.plain (OpenSpec.ofChange snapChecksSpec)) snapChecksCard

/-- THE TIED CARD OF 'plenumlaw14.SnapKeeps'. -/
def snapKeepsCard : Claim7 := { stood := { row := snapKeepsRow, standIns := [], harness := (true, "717e2e493304ecd92080918d5958daba92347e38dcb8ca42e5fef7b026742740"), looks := false }, kinds := [], alts := [], laidByText := true, laidKinds := [.data], laidTests := true, laidLooks := .later }
def SnapKeepsCardSaid : Prop := Claim7.holds Tryd.pinned (.plain (OpenSpec.ofChange snapKeepsSpec)) snapKeepsCard

/-- THE TIED CARD OF 'plenumlaw14.SnapFinds'. -/
def snapFindsCard : Claim7 := { stood := { row := snapFindsRow, standIns := [], harness := (true, "717e2e493304ecd92080918d5958daba92347e38dcb8ca42e5fef7b026742740"), looks := false }, kinds := [], alts := [], laidByText := true, laidKinds := [.data], laidTests := true, laidLooks := .later }
def SnapFindsCardSaid : Prop := Claim7.holds Tryd.pinned (.plain (OpenSpec.ofChange snapFindsSpec)) snapFindsCard

/-- THE TIED CARD OF 'plenumlaw14.SnapStays'. -/
def snapStaysCard : Claim7 := { stood := { row := snapStaysRow, standIns := [], harness := (true, "717e2e493304ecd92080918d5958daba92347e38dcb8ca42e5fef7b026742740"), looks := false }, kinds := [], alts := [], laidByText := true, laidKinds := [.data], laidTests := true, laidLooks := .later }
def SnapStaysCardSaid : Prop := Claim7.holds Tryd.pinned (.plain (OpenSpec.ofChange snapStaysSpec)) snapStaysCard

/-- THE TIED CARD OF 'plenumlaw14.SnapDrops'. -/
def snapDropsCard : Claim7 := { stood := { row := snapDropsRow, standIns := [], harness := (true, "717e2e493304ecd92080918d5958daba92347e38dcb8ca42e5fef7b026742740"), looks := false }, kinds := [], alts := [], laidByText := true, laidKinds := [.data], laidTests := true, laidLooks := .later }
def SnapDropsCardSaid : Prop := Claim7.holds Tryd.pinned (.plain (OpenSpec.ofChange snapDropsSpec)) snapDropsCard

/-- THE SECOND FORM's CARD OF 'plenumlaw14.SnapChecks'. -/
def snapChecksUptoCard : Claim7 := { stood := { row := snapChecksUptoRow, standIns := [], harness := (true, "717e2e493304ecd92080918d5958daba92347e38dcb8ca42e5fef7b026742740"), looks := false }, kinds := [], alts := [], laidByText := true, laidKinds := [.data], laidTests := true, laidLooks := .later }
def SnapChecksUptoCardSaid : Prop := Claim7.holds Tryd.pinned (.plain (OpenSpec.upto snapChecksSpec)) snapChecksUptoCard

/-- THE SECOND FORM's CARD OF 'plenumlaw14.SnapKeeps'. -/
def snapKeepsUptoCard : Claim7 := { stood := { row := snapKeepsUptoRow, standIns := [], harness := (true, "717e2e493304ecd92080918d5958daba92347e38dcb8ca42e5fef7b026742740"), looks := false }, kinds := [], alts := [], laidByText := true, laidKinds := [.data], laidTests := true, laidLooks := .later }
def SnapKeepsUptoCardSaid : Prop := Claim7.holds Tryd.pinned (.plain (OpenSpec.upto snapKeepsSpec)) snapKeepsUptoCard

/-- THE SECOND FORM's CARD OF 'plenumlaw14.SnapFinds'. -/
def snapFindsUptoCard : Claim7 := { stood := { row := snapFindsUptoRow, standIns := [], harness := (true, "717e2e493304ecd92080918d5958daba92347e38dcb8ca42e5fef7b026742740"), looks := false }, kinds := [], alts := [], laidByText := true, laidKinds := [.data], laidTests := true, laidLooks := .later }
def SnapFindsUptoCardSaid : Prop := Claim7.holds Tryd.pinned (.plain (OpenSpec.upto snapFindsSpec)) snapFindsUptoCard

/-- THE SECOND FORM's CARD OF 'plenumlaw14.SnapStays'. -/
def snapStaysUptoCard : Claim7 := { stood := { row := snapStaysUptoRow, standIns := [], harness := (true, "717e2e493304ecd92080918d5958daba92347e38dcb8ca42e5fef7b026742740"), looks := false }, kinds := [], alts := [], laidByText := true, laidKinds := [.data], laidTests := true, laidLooks := .later }
def SnapStaysUptoCardSaid : Prop := Claim7.holds Tryd.pinned (.plain (OpenSpec.upto snapStaysSpec)) snapStaysUptoCard

/-- THE SECOND FORM's CARD OF 'plenumlaw14.SnapDrops'. -/
def snapDropsUptoCard : Claim7 := { stood := { row := snapDropsUptoRow, standIns := [], harness := (true, "717e2e493304ecd92080918d5958daba92347e38dcb8ca42e5fef7b026742740"), looks := false }, kinds := [], alts := [], laidByText := true, laidKinds := [.data], laidTests := true, laidLooks := .later }
def SnapDropsUptoCardSaid : Prop := Claim7.holds Tryd.pinned (.plain (OpenSpec.upto snapDropsSpec)) snapDropsUptoCard
end Rows
end Go.Proofs.YtopifabnobplcaaDoor
