/-
  DERIVED. GIVEN WITH THE SEED: THE CARDS: each row of YtefemdpicjgkeaaGreatDoorRows.lean that lists a variable, with what it lists TIED to the program's text (the seventh form; the later family's looks); each row that meets fmt, with fmt's text TOLD by the authors' own Lean function (tested against real Go, not proved from fmt's source: count such statements apart). THE CARD IS WHAT COUNTS. Prove the row's statement (the work); the ties are given (YtefemdpicjgkeaaGreatDoorTie.lean); close each card by the builder's one call (the guide's Derived/Test/ToyasCard.lean, 'card_holds'). Laid BY PROGRAM, IN A SANDBOX (cutbox-door.mjs). By AI agents, Wed Nov 11 2026. No macro, syntax, notation, axiom, sorry.
-/
import Derived.Test.YtefemdpicjgkeaaGreatDoorRows
import GoSem.ClaimSeven
namespace Go.Proofs.YtefemdpicjgkeaaGreatDoor
namespace Rows

/-- THE TIED CARD OF 'payrolllaw13.PremiumMarks'. -/
def premiumMarksCard : Claim7 := { stood := { row := premiumMarksRow, standIns := [], harness := (true, "0a1e0868a6590ac254dd443ef0ca4dc646bfcdc85fdea59d883ad9efc66ed3b6"), looks := false }, kinds := [], alts := [], laidByText := true, laidKinds := [.data], laidTests := true, laidLooks := .later }
def PremiumMarksCardSaid : Prop := Claim7.holds Tryz.pinned (.plain (OpenSpec.ofChange premiumMarksSpec)) premiumMarksCard

/-- THE SECOND FORM's CARD OF 'payrolllaw13.PremiumMarks'. -/
def premiumMarksUptoCard : Claim7 := { stood := { row := premiumMarksUptoRow, standIns := [], harness := (true, "0a1e0868a6590ac254dd443ef0ca4dc646bfcdc85fdea59d883ad9efc66ed3b6"), looks := false }, kinds := [], alts := [], laidByText := true, laidKinds := [.data], laidTests := true, laidLooks := .later }
def PremiumMarksUptoCardSaid : Prop := Claim7.holds Tryz.pinned (.plain (OpenSpec.upto premiumMarksSpec)) premiumMarksUptoCard
end Rows
end Go.Proofs.YtefemdpicjgkeaaGreatDoor
