/-
  DERIVED. GIVEN WITH THE SEED: THE CARDS: each row of YtlanehcihoiglaaGreatDoorRows.lean that lists a variable, with what it lists TIED to the program's text (the seventh form; the later family's looks); each row that meets fmt, with fmt's text TOLD by the authors' own Lean function (tested against real Go, not proved from fmt's source: count such statements apart). THE CARD IS WHAT COUNTS. Prove the row's statement (the work); the ties are given (YtlanehcihoiglaaGreatDoorTie.lean); close each card by the builder's one call (the guide's Derived/Test/ToyasCard.lean, 'card_holds'). Laid BY PROGRAM, IN A SANDBOX (cutbox-door.mjs). By AI agents, Wed Nov 11 2026. No macro, syntax, notation, axiom, sorry.
-/
import Derived.Test.YtlanehcihoiglaaGreatDoorRows
import GoSem.ClaimSeven
namespace Go.Proofs.YtlanehcihoiglaaGreatDoor
namespace Rows

/-- THE TIED CARD OF 'payrolllaw5.PeriodDivides'. -/
def periodDividesCard : Claim7 := { stood := { row := periodDividesRow, standIns := [], harness := (true, "e4b1127d26c570211a6cbb1ee7d8e3b38d46111809babd652ea4309faffbf49a"), looks := false }, kinds := [], alts := [], laidByText := true, laidKinds := [.data], laidTests := true, laidLooks := .later }
def PeriodDividesCardSaid : Prop := Claim7.holds Tryz.pinned (.plain (OpenSpec.ofChange periodDividesSpec)) periodDividesCard

/-- THE SECOND FORM's CARD OF 'payrolllaw5.PeriodDivides'. -/
def periodDividesUptoCard : Claim7 := { stood := { row := periodDividesUptoRow, standIns := [], harness := (true, "e4b1127d26c570211a6cbb1ee7d8e3b38d46111809babd652ea4309faffbf49a"), looks := false }, kinds := [], alts := [], laidByText := true, laidKinds := [.data], laidTests := true, laidLooks := .later }
def PeriodDividesUptoCardSaid : Prop := Claim7.holds Tryz.pinned (.plain (OpenSpec.upto periodDividesSpec)) periodDividesUptoCard
end Rows
end Go.Proofs.YtlanehcihoiglaaGreatDoor
