/-
  DERIVED. GIVEN WITH THE SEED: THE CARDS: each row of YtpincjkjoeopkaaGreatDoorRows.lean that lists a variable, with what it lists TIED to the program's text (the seventh form; the later family's looks); each row that meets fmt, with fmt's text TOLD by the authors' own Lean function (tested against real Go, not proved from fmt's source: count such statements apart). THE CARD IS WHAT COUNTS. Prove the row's statement (the work); the ties are given (YtpincjkjoeopkaaGreatDoorTie.lean); close each card by the builder's one call (the guide's Derived/Test/ToyasCard.lean, 'card_holds'). Laid BY PROGRAM, IN A SANDBOX (cutbox-door.mjs). By AI agents, Wed Nov 11 2026. No macro, syntax, notation, axiom, sorry.
-/
import Derived.Test.YtpincjkjoeopkaaGreatDoorRows
import GoSem.ClaimSeven
namespace Go.Proofs.YtpincjkjoeopkaaGreatDoor
namespace Rows

/-- THE TIED CARD OF 'payrolllaw16.TimesheetLimits'. -/
def timesheetLimitsCard : Claim7 := { stood := { row := timesheetLimitsRow, standIns := [], harness := (true, "f603385343447d29c6b751a650aa3563235bf28be586825b5426d30d427b7519"), looks := false }, kinds := [], alts := [], laidByText := true, laidKinds := [.data], laidTests := true, laidLooks := .later }
def TimesheetLimitsCardSaid : Prop := Claim7.holds Tryz.pinned (.plain (OpenSpec.ofChange timesheetLimitsSpec)) timesheetLimitsCard

/-- THE TIED CARD OF 'payrolllaw16.TimesheetWorks'. -/
def timesheetWorksCard : Claim7 := { stood := { row := timesheetWorksRow, standIns := [], harness := (true, "f603385343447d29c6b751a650aa3563235bf28be586825b5426d30d427b7519"), looks := false }, kinds := [], alts := [], laidByText := true, laidKinds := [.data], laidTests := true, laidLooks := .later }
def TimesheetWorksCardSaid : Prop := Claim7.holds Tryz.pinned (.plain (OpenSpec.ofChange timesheetWorksSpec)) timesheetWorksCard

/-- THE TIED CARD OF 'payrolllaw16.TimesheetDaily'. -/
def timesheetDailyCard : Claim7 := { stood := { row := timesheetDailyRow, standIns := [], harness := (true, "f603385343447d29c6b751a650aa3563235bf28be586825b5426d30d427b7519"), looks := false }, kinds := [], alts := [], laidByText := true, laidKinds := [.data], laidTests := true, laidLooks := .later }
def TimesheetDailyCardSaid : Prop := Claim7.holds Tryz.pinned (.plain (OpenSpec.ofChange timesheetDailySpec)) timesheetDailyCard

/-- THE TIED CARD OF 'payrolllaw16.TimesheetConserves'. -/
def timesheetConservesCard : Claim7 := { stood := { row := timesheetConservesRow, standIns := [], harness := (true, "f603385343447d29c6b751a650aa3563235bf28be586825b5426d30d427b7519"), looks := false }, kinds := [], alts := [], laidByText := true, laidKinds := [.data], laidTests := true, laidLooks := .later }
def TimesheetConservesCardSaid : Prop := Claim7.holds Tryz.pinned (.plain (OpenSpec.ofChange timesheetConservesSpec)) timesheetConservesCard

/-- THE TIED CARD OF 'payrolllaw16.TimesheetOrderless'. -/
def timesheetOrderlessCard : Claim7 := { stood := { row := timesheetOrderlessRow, standIns := [], harness := (true, "f603385343447d29c6b751a650aa3563235bf28be586825b5426d30d427b7519"), looks := false }, kinds := [], alts := [], laidByText := true, laidKinds := [.data], laidTests := true, laidLooks := .later }
def TimesheetOrderlessCardSaid : Prop := Claim7.holds Tryz.pinned (.plain (OpenSpec.ofChange timesheetOrderlessSpec)) timesheetOrderlessCard

/-- THE TIED CARD OF 'payrolltop.TopStream'. -/
def topStreamCard : Claim7 := { stood := { row := topStreamRow, standIns := [], harness := (true, "f603385343447d29c6b751a650aa3563235bf28be586825b5426d30d427b7519"), looks := false }, kinds := [], alts := [], laidByText := true, laidKinds := [.data], laidTests := true, laidLooks := .later }
def TopStreamCardSaid : Prop := Claim7.holds Tryz.pinned (.plain (OpenSpec.ofChange topStreamSpec)) topStreamCard

/-- THE TIED CARD OF 'payrolltop.TopLeave'. -/
def topLeaveCard : Claim7 := { stood := { row := topLeaveRow, standIns := [], harness := (true, "f603385343447d29c6b751a650aa3563235bf28be586825b5426d30d427b7519"), looks := false }, kinds := [], alts := [], laidByText := true, laidKinds := [.data], laidTests := true, laidLooks := .later }
def TopLeaveCardSaid : Prop := Claim7.holds Tryz.pinned (.plain (OpenSpec.ofChange topLeaveSpec)) topLeaveCard

/-- THE SECOND FORM's CARD OF 'payrolllaw16.TimesheetLimits'. -/
def timesheetLimitsUptoCard : Claim7 := { stood := { row := timesheetLimitsUptoRow, standIns := [], harness := (true, "f603385343447d29c6b751a650aa3563235bf28be586825b5426d30d427b7519"), looks := false }, kinds := [], alts := [], laidByText := true, laidKinds := [.data], laidTests := true, laidLooks := .later }
def TimesheetLimitsUptoCardSaid : Prop := Claim7.holds Tryz.pinned (.plain (OpenSpec.upto timesheetLimitsSpec)) timesheetLimitsUptoCard

/-- THE SECOND FORM's CARD OF 'payrolllaw16.TimesheetWorks'. -/
def timesheetWorksUptoCard : Claim7 := { stood := { row := timesheetWorksUptoRow, standIns := [], harness := (true, "f603385343447d29c6b751a650aa3563235bf28be586825b5426d30d427b7519"), looks := false }, kinds := [], alts := [], laidByText := true, laidKinds := [.data], laidTests := true, laidLooks := .later }
def TimesheetWorksUptoCardSaid : Prop := Claim7.holds Tryz.pinned (.plain (OpenSpec.upto timesheetWorksSpec)) timesheetWorksUptoCard

/-- THE SECOND FORM's CARD OF 'payrolllaw16.TimesheetDaily'. -/
def timesheetDailyUptoCard : Claim7 := { stood := { row := timesheetDailyUptoRow, standIns := [], harness := (true, "f603385343447d29c6b751a650aa3563235bf28be586825b5426d30d427b7519"), looks := false }, kinds := [], alts := [], laidByText := true, laidKinds := [.data], laidTests := true, laidLooks := .later }
def TimesheetDailyUptoCardSaid : Prop := Claim7.holds Tryz.pinned (.plain (OpenSpec.upto timesheetDailySpec)) timesheetDailyUptoCard

/-- THE SECOND FORM's CARD OF 'payrolllaw16.TimesheetConserves'. -/
def timesheetConservesUptoCard : Claim7 := { stood := { row := timesheetConservesUptoRow, standIns := [], harness := (true, "f603385343447d29c6b751a650aa3563235bf28be586825b5426d30d427b7519"), looks := false }, kinds := [], alts := [], laidByText := true, laidKinds := [.data], laidTests := true, laidLooks := .later }
def TimesheetConservesUptoCardSaid : Prop := Claim7.holds Tryz.pinned (.plain (OpenSpec.upto timesheetConservesSpec)) timesheetConservesUptoCard

/-- THE SECOND FORM's CARD OF 'payrolllaw16.TimesheetOrderless'. -/
def timesheetOrderlessUptoCard : Claim7 := { stood := { row := timesheetOrderlessUptoRow, standIns := [], harness := (true, "f603385343447d29c6b751a650aa3563235bf28be586825b5426d30d427b7519"), looks := false }, kinds := [], alts := [], laidByText := true, laidKinds := [.data], laidTests := true, laidLooks := .later }
def TimesheetOrderlessUptoCardSaid : Prop := Claim7.holds Tryz.pinned (.plain (OpenSpec.upto timesheetOrderlessSpec)) timesheetOrderlessUptoCard

/-- THE SECOND FORM's CARD OF 'payrolltop.TopStream'. -/
def topStreamUptoCard : Claim7 := { stood := { row := topStreamUptoRow, standIns := [], harness := (true, "f603385343447d29c6b751a650aa3563235bf28be586825b5426d30d427b7519"), looks := false }, kinds := [], alts := [], laidByText := true, laidKinds := [.data], laidTests := true, laidLooks := .later }
def TopStreamUptoCardSaid : Prop := Claim7.holds Tryz.pinned (.plain (OpenSpec.upto topStreamSpec)) topStreamUptoCard

/-- THE SECOND FORM's CARD OF 'payrolltop.TopLeave'. -/
def topLeaveUptoCard : Claim7 := { stood := { row := topLeaveUptoRow, standIns := [], harness := (true, "f603385343447d29c6b751a650aa3563235bf28be586825b5426d30d427b7519"), looks := false }, kinds := [], alts := [], laidByText := true, laidKinds := [.data], laidTests := true, laidLooks := .later }
def TopLeaveUptoCardSaid : Prop := Claim7.holds Tryz.pinned (.plain (OpenSpec.upto topLeaveSpec)) topLeaveUptoCard
end Rows
end Go.Proofs.YtpincjkjoeopkaaGreatDoor
