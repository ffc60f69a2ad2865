/-
  DERIVED. GIVEN WITH THE SEED: THE CARDS: each row of YtpmlihjdegekgaaDoorRows.lean that lists a variable, with what it lists TIED to the program's text (the seventh form; the later family's looks); each row that meets fmt, with fmt's text TOLD by the authors' own Lean function (tested against real Go, not proved from fmt's source: count such statements apart). THE CARD IS WHAT COUNTS. Prove the row's statement (the work); the ties are given (YtpmlihjdegekgaaDoorTie.lean); close each card by the builder's one call (the guide's Derived/Test/ToyasCard.lean, 'card_holds'). Laid BY PROGRAM, IN A SANDBOX (cutbox-door.mjs). By AI agents, Wed Nov 11 2026. No macro, syntax, notation, axiom, sorry.
-/
import Derived.Test.YtpmlihjdegekgaaDoorRows
import GoSem.ClaimSeven
namespace Go.Proofs.YtpmlihjdegekgaaDoor
namespace Rows

/-- THE TIED CARD OF 'payrolllaw3.CalendarLimits'. -/
def calendarLimitsCard : Claim7 := { stood := { row := calendarLimitsRow, standIns := [], harness := (true, "7ab4321fd735f915c22211aa0cb59cc2463710e45cc770cc4964ba1742758f95"), looks := false }, kinds := [], alts := [], laidByText := true, laidKinds := [.data, .data, .data, .data], laidTests := true, laidLooks := .later }
def CalendarLimitsCardSaid : Prop := Claim7.holds Tryd.pinned (.plain (OpenSpec.ofChange calendarLimitsSpec)) calendarLimitsCard

/-- THE TIED CARD OF 'payrolllaw3.CalendarDays'. -/
def calendarDaysCard : Claim7 := { stood := { row := calendarDaysRow, standIns := [], harness := (true, "7ab4321fd735f915c22211aa0cb59cc2463710e45cc770cc4964ba1742758f95"), looks := false }, kinds := [], alts := [], laidByText := true, laidKinds := [.data, .data, .data, .data], laidTests := true, laidLooks := .later }
def CalendarDaysCardSaid : Prop := Claim7.holds Tryd.pinned (.plain (OpenSpec.ofChange calendarDaysSpec)) calendarDaysCard

/-- THE TIED CARD OF 'payrolllaw3.CalendarMonths'. -/
def calendarMonthsCard : Claim7 := { stood := { row := calendarMonthsRow, standIns := [], harness := (true, "7ab4321fd735f915c22211aa0cb59cc2463710e45cc770cc4964ba1742758f95"), looks := false }, kinds := [], alts := [], laidByText := true, laidKinds := [.data, .data, .data, .data], laidTests := true, laidLooks := .later }
def CalendarMonthsCardSaid : Prop := Claim7.holds Tryd.pinned (.plain (OpenSpec.ofChange calendarMonthsSpec)) calendarMonthsCard

/-- THE TIED CARD OF 'payrolllaw3.CalendarInverse'. -/
def calendarInverseCard : Claim7 := { stood := { row := calendarInverseRow, standIns := [], harness := (true, "7ab4321fd735f915c22211aa0cb59cc2463710e45cc770cc4964ba1742758f95"), looks := false }, kinds := [], alts := [], laidByText := true, laidKinds := [.data, .data, .data, .data], laidTests := true, laidLooks := .later }
def CalendarInverseCardSaid : Prop := Claim7.holds Tryd.pinned (.plain (OpenSpec.ofChange calendarInverseSpec)) calendarInverseCard

/-- THE TIED CARD OF 'payrolllaw3.CalendarEaster'. -/
def calendarEasterCard : Claim7 := { stood := { row := calendarEasterRow, standIns := [], harness := (true, "7ab4321fd735f915c22211aa0cb59cc2463710e45cc770cc4964ba1742758f95"), looks := false }, kinds := [], alts := [], laidByText := true, laidKinds := [.data, .data, .data, .data], laidTests := true, laidLooks := .later }
def CalendarEasterCardSaid : Prop := Claim7.holds Tryd.pinned (.plain (OpenSpec.ofChange calendarEasterSpec)) calendarEasterCard

/-- THE TIED CARD OF 'payrolllaw3.CalendarAddMonths'. -/
def calendarAddMonthsCard : Claim7 := { stood := { row := calendarAddMonthsRow, standIns := [], harness := (true, "7ab4321fd735f915c22211aa0cb59cc2463710e45cc770cc4964ba1742758f95"), looks := false }, kinds := [], alts := [], laidByText := true, laidKinds := [.data, .data, .data, .data], laidTests := true, laidLooks := .later }
def CalendarAddMonthsCardSaid : Prop := Claim7.holds Tryd.pinned (.plain (OpenSpec.ofChange calendarAddMonthsSpec)) calendarAddMonthsCard

/-- THE TIED CARD OF 'payrolllaw3.CalendarTexts'. -/
def calendarTextsCard : Claim7 := { stood := { row := calendarTextsRow, standIns := [], harness := (true, "7ab4321fd735f915c22211aa0cb59cc2463710e45cc770cc4964ba1742758f95"), looks := false }, kinds := [], alts := [], laidByText := true, laidKinds := [.data, .data, .data, .data], laidTests := true, laidLooks := .later }
def CalendarTextsCardSaid : Prop := Claim7.holds Tryd.pinned (.plain (OpenSpec.ofChange calendarTextsSpec)) calendarTextsCard

/-- THE TIED CARD OF 'payrolllaw3.CalendarHolidays'. -/
def calendarHolidaysCard : Claim7 := { stood := { row := calendarHolidaysRow, standIns := [], harness := (true, "7ab4321fd735f915c22211aa0cb59cc2463710e45cc770cc4964ba1742758f95"), looks := false }, kinds := [], alts := [], laidByText := true, laidKinds := [.data, .data, .data, .data], laidTests := true, laidLooks := .later }
def CalendarHolidaysCardSaid : Prop := Claim7.holds Tryd.pinned (.plain (OpenSpec.ofChange calendarHolidaysSpec)) calendarHolidaysCard

/-- THE TIED CARD OF 'payrolllaw3.CalendarWorkdays'. -/
def calendarWorkdaysCard : Claim7 := { stood := { row := calendarWorkdaysRow, standIns := [], harness := (true, "7ab4321fd735f915c22211aa0cb59cc2463710e45cc770cc4964ba1742758f95"), looks := false }, kinds := [], alts := [], laidByText := true, laidKinds := [.data, .data, .data, .data], laidTests := true, laidLooks := .later }
def CalendarWorkdaysCardSaid : Prop := Claim7.holds Tryd.pinned (.plain (OpenSpec.ofChange calendarWorkdaysSpec)) calendarWorkdaysCard

/-- THE SECOND FORM's CARD OF 'payrolllaw3.CalendarLimits'. -/
def calendarLimitsUptoCard : Claim7 := { stood := { row := calendarLimitsUptoRow, standIns := [], harness := (true, "7ab4321fd735f915c22211aa0cb59cc2463710e45cc770cc4964ba1742758f95"), looks := false }, kinds := [], alts := [], laidByText := true, laidKinds := [.data, .data, .data, .data], laidTests := true, laidLooks := .later }
def CalendarLimitsUptoCardSaid : Prop := Claim7.holds Tryd.pinned (.plain (OpenSpec.upto calendarLimitsSpec)) calendarLimitsUptoCard

/-- THE SECOND FORM's CARD OF 'payrolllaw3.CalendarDays'. -/
def calendarDaysUptoCard : Claim7 := { stood := { row := calendarDaysUptoRow, standIns := [], harness := (true, "7ab4321fd735f915c22211aa0cb59cc2463710e45cc770cc4964ba1742758f95"), looks := false }, kinds := [], alts := [], laidByText := true, laidKinds := [.data, .data, .data, .data], laidTests := true, laidLooks := .later }
def CalendarDaysUptoCardSaid : Prop := Claim7.holds Tryd.pinned (.plain (OpenSpec.upto calendarDaysSpec)) calendarDaysUptoCard

/-- THE SECOND FORM's CARD OF 'payrolllaw3.CalendarMonths'. -/
def calendarMonthsUptoCard : Claim7 := { stood := { row := calendarMonthsUptoRow, standIns := [], harness := (true, "7ab4321fd735f915c22211aa0cb59cc2463710e45cc770cc4964ba1742758f95"), looks := false }, kinds := [], alts := [], laidByText := true, laidKinds := [.data, .data, .data, .data], laidTests := true, laidLooks := .later }
def CalendarMonthsUptoCardSaid : Prop := Claim7.holds Tryd.pinned (.plain (OpenSpec.upto calendarMonthsSpec)) calendarMonthsUptoCard

/-- THE SECOND FORM's CARD OF 'payrolllaw3.CalendarInverse'. -/
def calendarInverseUptoCard : Claim7 := { stood := { row := calendarInverseUptoRow, standIns := [], harness := (true, "7ab4321fd735f915c22211aa0cb59cc2463710e45cc770cc4964ba1742758f95"), looks := false }, kinds := [], alts := [], laidByText := true, laidKinds := [.data, .data, .data, .data], laidTests := true, laidLooks := .later }
def CalendarInverseUptoCardSaid : Prop := Claim7.holds Tryd.pinned (.plain (OpenSpec.upto calendarInverseSpec)) calendarInverseUptoCard

/-- THE SECOND FORM's CARD OF 'payrolllaw3.CalendarEaster'. -/
def calendarEasterUptoCard : Claim7 := { stood := { row := calendarEasterUptoRow, standIns := [], harness := (true, "7ab4321fd735f915c22211aa0cb59cc2463710e45cc770cc4964ba1742758f95"), looks := false }, kinds := [], alts := [], laidByText := true, laidKinds := [.data, .data, .data, .data], laidTests := true, laidLooks := .later }
def CalendarEasterUptoCardSaid : Prop := Claim7.holds Tryd.pinned (.plain (OpenSpec.upto calendarEasterSpec)) calendarEasterUptoCard

/-- THE SECOND FORM's CARD OF 'payrolllaw3.CalendarAddMonths'. -/
def calendarAddMonthsUptoCard : Claim7 := { stood := { row := calendarAddMonthsUptoRow, standIns := [], harness := (true, "7ab4321fd735f915c22211aa0cb59cc2463710e45cc770cc4964ba1742758f95"), looks := false }, kinds := [], alts := [], laidByText := true, laidKinds := [.data, .data, .data, .data], laidTests := true, laidLooks := .later }
def CalendarAddMonthsUptoCardSaid : Prop := Claim7.holds Tryd.pinned (.plain (OpenSpec.upto calendarAddMonthsSpec)) calendarAddMonthsUptoCard

/-- THE SECOND FORM's CARD OF 'payrolllaw3.CalendarTexts'. -/
def calendarTextsUptoCard : Claim7 := { stood := { row := calendarTextsUptoRow, standIns := [], harness := (true, "7ab4321fd735f915c22211aa0cb59cc2463710e45cc770cc4964ba1742758f95"), looks := false }, kinds := [], alts := [], laidByText := true, laidKinds := [.data, .data, .data, .data], laidTests := true, laidLooks := .later }
def CalendarTextsUptoCardSaid : Prop := Claim7.holds Tryd.pinned (.plain (OpenSpec.upto calendarTextsSpec)) calendarTextsUptoCard

/-- THE SECOND FORM's CARD OF 'payrolllaw3.CalendarHolidays'. -/
def calendarHolidaysUptoCard : Claim7 := { stood := { row := calendarHolidaysUptoRow, standIns := [], harness := (true, "7ab4321fd735f915c22211aa0cb59cc2463710e45cc770cc4964ba1742758f95"), looks := false }, kinds := [], alts := [], laidByText := true, laidKinds := [.data, .data, .data, .data], laidTests := true, laidLooks := .later }
def CalendarHolidaysUptoCardSaid : Prop := Claim7.holds Tryd.pinned (.plain (OpenSpec.upto calendarHolidaysSpec)) calendarHolidaysUptoCard

/-- THE SECOND FORM's CARD OF 'payrolllaw3.CalendarWorkdays'. -/
def calendarWorkdaysUptoCard : Claim7 := { stood := { row := calendarWorkdaysUptoRow, standIns := [], harness := (true, "7ab4321fd735f915c22211aa0cb59cc2463710e45cc770cc4964ba1742758f95"), looks := false }, kinds := [], alts := [], laidByText := true, laidKinds := [.data, .data, .data, .data], laidTests := true, laidLooks := .later }
def CalendarWorkdaysUptoCardSaid : Prop := Claim7.holds Tryd.pinned (.plain (OpenSpec.upto calendarWorkdaysSpec)) calendarWorkdaysUptoCard
end Rows
end Go.Proofs.YtpmlihjdegekgaaDoor
