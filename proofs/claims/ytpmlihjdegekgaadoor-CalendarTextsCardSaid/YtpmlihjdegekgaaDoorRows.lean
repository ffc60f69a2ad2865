/-
  NARROWER THAN 'FOR EVERY INPUT', by the rows' own cells (each row's printed sentence says how): CalendarLimits: laid · CalendarDays: laid · CalendarMonths: laid · CalendarInverse: laid · CalendarEaster: laid · CalendarAddMonths: laid · CalendarTexts: laid · CalendarHolidays: laid · CalendarWorkdays: laid.
  DERIVED. THE GIVEN ROWS OF THIS SEAT. 9 by the template 'for every input the law returns true; each argument reads behind the call as it read before'; 0 by the template 'total and deterministic' (their statements: YtpmlihjdegekgaaDoorTotals.lean).
  GIVEN WITH THE SEED: the statements are not yours to turn. If you find one false, say at which input.
  Laid BY PROGRAM, IN A SANDBOX (cutbox-rows.mjs): the forced cells as the released guide's own fill.sh prints them over the translation fedf0891bf3fcda1… (all of the seat's roots in one cut). By AI agents, Wed Nov 11 2026. No macro, syntax, notation, axiom, sorry.
-/
import Derived.Test.YtpmlihjdegekgaaDoorChecked
import GoSem.Claim
import GoSem.ClaimJoined
import GoSem.ClaimMapViews
import Derived.JoinedTies
import Derived.KernelRfl
namespace Go.Proofs.YtpmlihjdegekgaaDoor
/- THE CELL 'sum', in the pinned program and in every row, IS THE sha256 OF THE DUMP (.gsa) THAT YtpmlihjdegekgaaDoorProg.lean LOADS. Nothing in Lean hashes anything: it is a label: what it is worth is what the hold of that sum in a sandbox is worth. -/
noncomputable def Tryd.pinned : Pinned := { name := "ytpmlihjdegekgaadoor", sum := "fedf0891bf3fcda1f0723da1d8653b1165d247867b03d241bde15d276f799daa", checked := Tryd.checked }
namespace Rows
def none {H : Type} : Left H := { results := [], args := [] }

/- WHAT THE LISTED PACKAGE-LEVEL VARIABLES READ AS WHEN THE CALL BEGINS. Each datum BY PROGRAM (the guide's laid-datum.mjs) off the statement by which the dump's own 'gosem.cut.vars' lays the variable. In a bare row this is a premise. The card (YtpmlihjdegekgaaDoorCards.lean) ties it to the program's text. -/
def laid_math_bits_deBruijn32tab {H : Type} : DataW H := .agg [.lit (.int .u8 0), .lit (.int .u8 1), .lit (.int .u8 28), .lit (.int .u8 2), .lit (.int .u8 29), .lit (.int .u8 14), .lit (.int .u8 24), .lit (.int .u8 3), .lit (.int .u8 30), .lit (.int .u8 22), .lit (.int .u8 20), .lit (.int .u8 15), .lit (.int .u8 25), .lit (.int .u8 17), .lit (.int .u8 4), .lit (.int .u8 8), .lit (.int .u8 31), .lit (.int .u8 27), .lit (.int .u8 13), .lit (.int .u8 23), .lit (.int .u8 21), .lit (.int .u8 19), .lit (.int .u8 16), .lit (.int .u8 7), .lit (.int .u8 26), .lit (.int .u8 12), .lit (.int .u8 18), .lit (.int .u8 6), .lit (.int .u8 11), .lit (.int .u8 5), .lit (.int .u8 10), .lit (.int .u8 9)]
def laid_math_bits_deBruijn64tab {H : Type} : DataW H := .agg [.lit (.int .u8 0), .lit (.int .u8 1), .lit (.int .u8 56), .lit (.int .u8 2), .lit (.int .u8 57), .lit (.int .u8 49), .lit (.int .u8 28), .lit (.int .u8 3), .lit (.int .u8 61), .lit (.int .u8 58), .lit (.int .u8 42), .lit (.int .u8 50), .lit (.int .u8 38), .lit (.int .u8 29), .lit (.int .u8 17), .lit (.int .u8 4), .lit (.int .u8 62), .lit (.int .u8 47), .lit (.int .u8 59), .lit (.int .u8 36), .lit (.int .u8 45), .lit (.int .u8 43), .lit (.int .u8 51), .lit (.int .u8 22), .lit (.int .u8 53), .lit (.int .u8 39), .lit (.int .u8 33), .lit (.int .u8 30), .lit (.int .u8 24), .lit (.int .u8 18), .lit (.int .u8 12), .lit (.int .u8 5), .lit (.int .u8 63), .lit (.int .u8 55), .lit (.int .u8 48), .lit (.int .u8 27), .lit (.int .u8 60), .lit (.int .u8 41), .lit (.int .u8 37), .lit (.int .u8 16), .lit (.int .u8 46), .lit (.int .u8 35), .lit (.int .u8 44), .lit (.int .u8 21), .lit (.int .u8 52), .lit (.int .u8 32), .lit (.int .u8 23), .lit (.int .u8 11), .lit (.int .u8 54), .lit (.int .u8 26), .lit (.int .u8 40), .lit (.int .u8 15), .lit (.int .u8 34), .lit (.int .u8 20), .lit (.int .u8 31), .lit (.int .u8 10), .lit (.int .u8 25), .lit (.int .u8 14), .lit (.int .u8 19), .lit (.int .u8 9), .lit (.int .u8 13), .lit (.int .u8 8), .lit (.int .u8 7), .lit (.int .u8 6)]
def laid_internal_strconv_uint64pow10 {H : Type} : DataW H := .agg [.lit (.int .u64 1), .lit (.int .u64 10), .lit (.int .u64 100), .lit (.int .u64 1000), .lit (.int .u64 10000), .lit (.int .u64 100000), .lit (.int .u64 1000000), .lit (.int .u64 10000000), .lit (.int .u64 100000000), .lit (.int .u64 1000000000), .lit (.int .u64 10000000000), .lit (.int .u64 100000000000), .lit (.int .u64 1000000000000), .lit (.int .u64 10000000000000), .lit (.int .u64 100000000000000), .lit (.int .u64 1000000000000000), .lit (.int .u64 10000000000000000), .lit (.int .u64 100000000000000000), .lit (.int .u64 1000000000000000000), .lit (.int .u64 10000000000000000000)]
def laid_payroll_calendar_lengths {H : Type} : DataW H := .agg [.lit (.int .i64 31), .lit (.int .i64 28), .lit (.int .i64 31), .lit (.int .i64 30), .lit (.int .i64 31), .lit (.int .i64 30), .lit (.int .i64 31), .lit (.int .i64 31), .lit (.int .i64 30), .lit (.int .i64 31), .lit (.int .i64 30), .lit (.int .i64 31)]

/-- 'payrolllaw3.CalendarLimits': WHATEVER THE INPUT: true; the input reads as it did. -/
def calendarLimitsSpec : ChangeSpec := { name := "calendarLimits", fn := fun _ => fun
  | [d1, d2] => { results := [.lit (.bool true)], args := [d1, d2] }
  | _ => none }
def calendarLimitsRow : OpenClaim := { program := "ytpmlihjdegekgaadoor", sum := "fedf0891bf3fcda1f0723da1d8653b1165d247867b03d241bde15d276f799daa", func := "payroll/payrolllaw3.CalendarLimits", spec := "calendarLimits", recurses := true, named := ["payroll/calendar.lengths", "internal/strconv.uint64pow10", "math/bits.deBruijn32tab", "math/bits.deBruijn64tab"], apart := false, laid := [("math/bits.deBruijn32tab", laid_math_bits_deBruijn32tab), ("math/bits.deBruijn64tab", laid_math_bits_deBruijn64tab), ("internal/strconv.uint64pow10", laid_internal_strconv_uint64pow10), ("payroll/calendar.lengths", laid_payroll_calendar_lengths)] }
def CalendarLimitsSaid : Prop := calendarLimitsRow.holds Tryd.pinned (OpenSpec.ofChange calendarLimitsSpec)

/-- ITS FALSE NEIGHBOUR: 'it returns false'. Refute it at one input. -/
def calendarLimitsWrong : ChangeSpec := { name := "calendarLimits", fn := fun _ => fun
  | [d1, d2] => { results := [.lit (.bool false)], args := [d1, d2] }
  | _ => none }
def CalendarLimitsWrongFalsely : Prop := calendarLimitsRow.holds Tryd.pinned (OpenSpec.ofChange calendarLimitsWrong)

/-- 'payrolllaw3.CalendarDays': WHATEVER THE INPUT: true; the input reads as it did. -/
def calendarDaysSpec : ChangeSpec := { name := "calendarDays", fn := fun _ => fun
  | [d1, d2, d3, d4, d5] => { results := [.lit (.bool true)], args := [d1, d2, d3, d4, d5] }
  | _ => none }
def calendarDaysRow : OpenClaim := { program := "ytpmlihjdegekgaadoor", sum := "fedf0891bf3fcda1f0723da1d8653b1165d247867b03d241bde15d276f799daa", func := "payroll/payrolllaw3.CalendarDays", spec := "calendarDays", recurses := true, named := ["payroll/calendar.lengths", "internal/strconv.uint64pow10", "math/bits.deBruijn32tab", "math/bits.deBruijn64tab"], apart := false, laid := [("math/bits.deBruijn32tab", laid_math_bits_deBruijn32tab), ("math/bits.deBruijn64tab", laid_math_bits_deBruijn64tab), ("internal/strconv.uint64pow10", laid_internal_strconv_uint64pow10), ("payroll/calendar.lengths", laid_payroll_calendar_lengths)] }
def CalendarDaysSaid : Prop := calendarDaysRow.holds Tryd.pinned (OpenSpec.ofChange calendarDaysSpec)

/-- ITS FALSE NEIGHBOUR: 'it returns false'. Refute it at one input. -/
def calendarDaysWrong : ChangeSpec := { name := "calendarDays", fn := fun _ => fun
  | [d1, d2, d3, d4, d5] => { results := [.lit (.bool false)], args := [d1, d2, d3, d4, d5] }
  | _ => none }
def CalendarDaysWrongFalsely : Prop := calendarDaysRow.holds Tryd.pinned (OpenSpec.ofChange calendarDaysWrong)

/-- 'payrolllaw3.CalendarMonths': WHATEVER THE INPUT: true; the input reads as it did. -/
def calendarMonthsSpec : ChangeSpec := { name := "calendarMonths", fn := fun _ => fun
  | [d1, d2] => { results := [.lit (.bool true)], args := [d1, d2] }
  | _ => none }
def calendarMonthsRow : OpenClaim := { program := "ytpmlihjdegekgaadoor", sum := "fedf0891bf3fcda1f0723da1d8653b1165d247867b03d241bde15d276f799daa", func := "payroll/payrolllaw3.CalendarMonths", spec := "calendarMonths", recurses := true, named := ["payroll/calendar.lengths", "internal/strconv.uint64pow10", "math/bits.deBruijn32tab", "math/bits.deBruijn64tab"], apart := false, laid := [("math/bits.deBruijn32tab", laid_math_bits_deBruijn32tab), ("math/bits.deBruijn64tab", laid_math_bits_deBruijn64tab), ("internal/strconv.uint64pow10", laid_internal_strconv_uint64pow10), ("payroll/calendar.lengths", laid_payroll_calendar_lengths)] }
def CalendarMonthsSaid : Prop := calendarMonthsRow.holds Tryd.pinned (OpenSpec.ofChange calendarMonthsSpec)

/-- ITS FALSE NEIGHBOUR: 'it returns false'. Refute it at one input. -/
def calendarMonthsWrong : ChangeSpec := { name := "calendarMonths", fn := fun _ => fun
  | [d1, d2] => { results := [.lit (.bool false)], args := [d1, d2] }
  | _ => none }
def CalendarMonthsWrongFalsely : Prop := calendarMonthsRow.holds Tryd.pinned (OpenSpec.ofChange calendarMonthsWrong)

/-- 'payrolllaw3.CalendarInverse': WHATEVER THE INPUT: true; the input reads as it did. -/
def calendarInverseSpec : ChangeSpec := { name := "calendarInverse", fn := fun _ => fun
  | [d] => { results := [.lit (.bool true)], args := [d] }
  | _ => none }
def calendarInverseRow : OpenClaim := { program := "ytpmlihjdegekgaadoor", sum := "fedf0891bf3fcda1f0723da1d8653b1165d247867b03d241bde15d276f799daa", func := "payroll/payrolllaw3.CalendarInverse", spec := "calendarInverse", recurses := true, named := ["payroll/calendar.lengths", "internal/strconv.uint64pow10", "math/bits.deBruijn32tab", "math/bits.deBruijn64tab"], apart := false, laid := [("math/bits.deBruijn32tab", laid_math_bits_deBruijn32tab), ("math/bits.deBruijn64tab", laid_math_bits_deBruijn64tab), ("internal/strconv.uint64pow10", laid_internal_strconv_uint64pow10), ("payroll/calendar.lengths", laid_payroll_calendar_lengths)] }
def CalendarInverseSaid : Prop := calendarInverseRow.holds Tryd.pinned (OpenSpec.ofChange calendarInverseSpec)

/-- ITS FALSE NEIGHBOUR: 'it returns false'. Refute it at one input. -/
def calendarInverseWrong : ChangeSpec := { name := "calendarInverse", fn := fun _ => fun
  | [d] => { results := [.lit (.bool false)], args := [d] }
  | _ => none }
def CalendarInverseWrongFalsely : Prop := calendarInverseRow.holds Tryd.pinned (OpenSpec.ofChange calendarInverseWrong)

/-- 'payrolllaw3.CalendarEaster': WHATEVER THE INPUT: true; the input reads as it did. -/
def calendarEasterSpec : ChangeSpec := { name := "calendarEaster", fn := fun _ => fun
  | [d] => { results := [.lit (.bool true)], args := [d] }
  | _ => none }
def calendarEasterRow : OpenClaim := { program := "ytpmlihjdegekgaadoor", sum := "fedf0891bf3fcda1f0723da1d8653b1165d247867b03d241bde15d276f799daa", func := "payroll/payrolllaw3.CalendarEaster", spec := "calendarEaster", recurses := true, named := ["payroll/calendar.lengths", "internal/strconv.uint64pow10", "math/bits.deBruijn32tab", "math/bits.deBruijn64tab"], apart := false, laid := [("math/bits.deBruijn32tab", laid_math_bits_deBruijn32tab), ("math/bits.deBruijn64tab", laid_math_bits_deBruijn64tab), ("internal/strconv.uint64pow10", laid_internal_strconv_uint64pow10), ("payroll/calendar.lengths", laid_payroll_calendar_lengths)] }
def CalendarEasterSaid : Prop := calendarEasterRow.holds Tryd.pinned (OpenSpec.ofChange calendarEasterSpec)

/-- ITS FALSE NEIGHBOUR: 'it returns false'. Refute it at one input. -/
def calendarEasterWrong : ChangeSpec := { name := "calendarEaster", fn := fun _ => fun
  | [d] => { results := [.lit (.bool false)], args := [d] }
  | _ => none }
def CalendarEasterWrongFalsely : Prop := calendarEasterRow.holds Tryd.pinned (OpenSpec.ofChange calendarEasterWrong)

/-- 'payrolllaw3.CalendarAddMonths': WHATEVER THE INPUT: true; the input reads as it did. -/
def calendarAddMonthsSpec : ChangeSpec := { name := "calendarAddMonths", fn := fun _ => fun
  | [d1, d2] => { results := [.lit (.bool true)], args := [d1, d2] }
  | _ => none }
def calendarAddMonthsRow : OpenClaim := { program := "ytpmlihjdegekgaadoor", sum := "fedf0891bf3fcda1f0723da1d8653b1165d247867b03d241bde15d276f799daa", func := "payroll/payrolllaw3.CalendarAddMonths", spec := "calendarAddMonths", recurses := true, named := ["payroll/calendar.lengths", "internal/strconv.uint64pow10", "math/bits.deBruijn32tab", "math/bits.deBruijn64tab"], apart := false, laid := [("math/bits.deBruijn32tab", laid_math_bits_deBruijn32tab), ("math/bits.deBruijn64tab", laid_math_bits_deBruijn64tab), ("internal/strconv.uint64pow10", laid_internal_strconv_uint64pow10), ("payroll/calendar.lengths", laid_payroll_calendar_lengths)] }
def CalendarAddMonthsSaid : Prop := calendarAddMonthsRow.holds Tryd.pinned (OpenSpec.ofChange calendarAddMonthsSpec)

/-- ITS FALSE NEIGHBOUR: 'it returns false'. Refute it at one input. -/
def calendarAddMonthsWrong : ChangeSpec := { name := "calendarAddMonths", fn := fun _ => fun
  | [d1, d2] => { results := [.lit (.bool false)], args := [d1, d2] }
  | _ => none }
def CalendarAddMonthsWrongFalsely : Prop := calendarAddMonthsRow.holds Tryd.pinned (OpenSpec.ofChange calendarAddMonthsWrong)

/-- 'payrolllaw3.CalendarTexts': WHATEVER THE INPUT: true; the input reads as it did. -/
def calendarTextsSpec : ChangeSpec := { name := "calendarTexts", fn := fun _ => fun
  | [d1, d2, d3] => { results := [.lit (.bool true)], args := [d1, d2, d3] }
  | _ => none }
def calendarTextsRow : OpenClaim := { program := "ytpmlihjdegekgaadoor", sum := "fedf0891bf3fcda1f0723da1d8653b1165d247867b03d241bde15d276f799daa", func := "payroll/payrolllaw3.CalendarTexts", spec := "calendarTexts", recurses := true, named := ["payroll/calendar.lengths", "internal/strconv.uint64pow10", "math/bits.deBruijn32tab", "math/bits.deBruijn64tab"], apart := false, laid := [("math/bits.deBruijn32tab", laid_math_bits_deBruijn32tab), ("math/bits.deBruijn64tab", laid_math_bits_deBruijn64tab), ("internal/strconv.uint64pow10", laid_internal_strconv_uint64pow10), ("payroll/calendar.lengths", laid_payroll_calendar_lengths)] }
def CalendarTextsSaid : Prop := calendarTextsRow.holds Tryd.pinned (OpenSpec.ofChange calendarTextsSpec)

/-- ITS FALSE NEIGHBOUR: 'it returns false'. Refute it at one input. -/
def calendarTextsWrong : ChangeSpec := { name := "calendarTexts", fn := fun _ => fun
  | [d1, d2, d3] => { results := [.lit (.bool false)], args := [d1, d2, d3] }
  | _ => none }
def CalendarTextsWrongFalsely : Prop := calendarTextsRow.holds Tryd.pinned (OpenSpec.ofChange calendarTextsWrong)

/-- 'payrolllaw3.CalendarHolidays': WHATEVER THE INPUT: true; the input reads as it did. -/
def calendarHolidaysSpec : ChangeSpec := { name := "calendarHolidays", fn := fun _ => fun
  | [d1, d2, d3, d4] => { results := [.lit (.bool true)], args := [d1, d2, d3, d4] }
  | _ => none }
def calendarHolidaysRow : OpenClaim := { program := "ytpmlihjdegekgaadoor", sum := "fedf0891bf3fcda1f0723da1d8653b1165d247867b03d241bde15d276f799daa", func := "payroll/payrolllaw3.CalendarHolidays", spec := "calendarHolidays", recurses := true, named := ["payroll/calendar.lengths", "internal/strconv.uint64pow10", "math/bits.deBruijn32tab", "math/bits.deBruijn64tab"], apart := false, laid := [("math/bits.deBruijn32tab", laid_math_bits_deBruijn32tab), ("math/bits.deBruijn64tab", laid_math_bits_deBruijn64tab), ("internal/strconv.uint64pow10", laid_internal_strconv_uint64pow10), ("payroll/calendar.lengths", laid_payroll_calendar_lengths)] }
def CalendarHolidaysSaid : Prop := calendarHolidaysRow.holds Tryd.pinned (OpenSpec.ofChange calendarHolidaysSpec)

/-- ITS FALSE NEIGHBOUR: 'it returns false'. Refute it at one input. -/
def calendarHolidaysWrong : ChangeSpec := { name := "calendarHolidays", fn := fun _ => fun
  | [d1, d2, d3, d4] => { results := [.lit (.bool false)], args := [d1, d2, d3, d4] }
  | _ => none }
def CalendarHolidaysWrongFalsely : Prop := calendarHolidaysRow.holds Tryd.pinned (OpenSpec.ofChange calendarHolidaysWrong)

/-- 'payrolllaw3.CalendarWorkdays': WHATEVER THE INPUT: true; the input reads as it did. -/
def calendarWorkdaysSpec : ChangeSpec := { name := "calendarWorkdays", fn := fun _ => fun
  | [d1, d2] => { results := [.lit (.bool true)], args := [d1, d2] }
  | _ => none }
def calendarWorkdaysRow : OpenClaim := { program := "ytpmlihjdegekgaadoor", sum := "fedf0891bf3fcda1f0723da1d8653b1165d247867b03d241bde15d276f799daa", func := "payroll/payrolllaw3.CalendarWorkdays", spec := "calendarWorkdays", recurses := true, named := ["payroll/calendar.lengths", "internal/strconv.uint64pow10", "math/bits.deBruijn32tab", "math/bits.deBruijn64tab"], apart := false, laid := [("math/bits.deBruijn32tab", laid_math_bits_deBruijn32tab), ("math/bits.deBruijn64tab", laid_math_bits_deBruijn64tab), ("internal/strconv.uint64pow10", laid_internal_strconv_uint64pow10), ("payroll/calendar.lengths", laid_payroll_calendar_lengths)] }
def CalendarWorkdaysSaid : Prop := calendarWorkdaysRow.holds Tryd.pinned (OpenSpec.ofChange calendarWorkdaysSpec)

/-- ITS FALSE NEIGHBOUR: 'it returns false'. Refute it at one input. -/
def calendarWorkdaysWrong : ChangeSpec := { name := "calendarWorkdays", fn := fun _ => fun
  | [d1, d2] => { results := [.lit (.bool false)], args := [d1, d2] }
  | _ => none }
def CalendarWorkdaysWrongFalsely : Prop := calendarWorkdaysRow.holds Tryd.pinned (OpenSpec.ofChange calendarWorkdaysWrong)

/- THE SECOND FORM. 'bulk': how many values and letters a reading holds, each counted each time it is reached (what is shared counts as often as it is met; a slice's spare places count too). A statement '..UptoSaid' is the law's where the arguments, and the package variables that the reading takes, are together of bulk at most 1048576: NARROWER than '..Said'. Prove '..Said' where nothing that the law and all that it calls make is longer than what came in: it says more and counts as full. Else prove '..UptoSaid'. A law counts once. -/
mutual
def uptoBulk {H : Type} : DataW H → Nat
  | .lit (.string bytes) => bytes.length + 1
  | .lit _ => 1
  | .nil => 1
  | .ptr d => uptoBulk d + 1
  | .slice elems spare => uptoBulkAll elems + uptoBulkAll spare + 1
  | .agg parts => uptoBulkAll parts + 1
  | .iface _ d => uptoBulk d + 1
  | .map entries => uptoBulkEntries entries + 1
  | .held _ => 1
def uptoBulkAll {H : Type} : List (DataW H) → Nat
  | [] => 0
  | d :: r => uptoBulk d + uptoBulkAll r
def uptoBulkEntries {H : Type} : List (Lit × DataW H) → Nat
  | [] => 0
  | x :: r => uptoBulkEntry x + uptoBulkEntries r
def uptoBulkEntry {H : Type} : Lit × DataW H → Nat
  | (.string bytes, d) => bytes.length + uptoBulk d + 1
  | (_, d) => uptoBulk d + 1
 end
def uptoSmall : (H : Type) → List (DataW H) → Bool := fun _ ds => decide (uptoBulkAll ds ≤ 1048576)
def OpenSpec.upto (s : _root_.Go.ChangeSpec) : _root_.Go.OpenSpec := { _root_.Go.OpenSpec.ofChange s with cond := some uptoSmall }

/-- 'payrolllaw3.CalendarLimits', WHERE WHAT IT READS IS OF BULK AT MOST 1048576: true; the input reads as it did. -/
def calendarLimitsUptoRow : OpenClaim := { program := "ytpmlihjdegekgaadoor", sum := "fedf0891bf3fcda1f0723da1d8653b1165d247867b03d241bde15d276f799daa", func := "payroll/payrolllaw3.CalendarLimits", spec := "calendarLimits", recurses := true, named := ["payroll/calendar.lengths", "internal/strconv.uint64pow10", "math/bits.deBruijn32tab", "math/bits.deBruijn64tab"], apart := false, laid := [("math/bits.deBruijn32tab", laid_math_bits_deBruijn32tab), ("math/bits.deBruijn64tab", laid_math_bits_deBruijn64tab), ("internal/strconv.uint64pow10", laid_internal_strconv_uint64pow10), ("payroll/calendar.lengths", laid_payroll_calendar_lengths)], narrowed := true }
def CalendarLimitsUptoSaid : Prop := calendarLimitsUptoRow.holds Tryd.pinned (OpenSpec.upto calendarLimitsSpec)

/-- 'payrolllaw3.CalendarDays', WHERE WHAT IT READS IS OF BULK AT MOST 1048576: true; the input reads as it did. -/
def calendarDaysUptoRow : OpenClaim := { program := "ytpmlihjdegekgaadoor", sum := "fedf0891bf3fcda1f0723da1d8653b1165d247867b03d241bde15d276f799daa", func := "payroll/payrolllaw3.CalendarDays", spec := "calendarDays", recurses := true, named := ["payroll/calendar.lengths", "internal/strconv.uint64pow10", "math/bits.deBruijn32tab", "math/bits.deBruijn64tab"], apart := false, laid := [("math/bits.deBruijn32tab", laid_math_bits_deBruijn32tab), ("math/bits.deBruijn64tab", laid_math_bits_deBruijn64tab), ("internal/strconv.uint64pow10", laid_internal_strconv_uint64pow10), ("payroll/calendar.lengths", laid_payroll_calendar_lengths)], narrowed := true }
def CalendarDaysUptoSaid : Prop := calendarDaysUptoRow.holds Tryd.pinned (OpenSpec.upto calendarDaysSpec)

/-- 'payrolllaw3.CalendarMonths', WHERE WHAT IT READS IS OF BULK AT MOST 1048576: true; the input reads as it did. -/
def calendarMonthsUptoRow : OpenClaim := { program := "ytpmlihjdegekgaadoor", sum := "fedf0891bf3fcda1f0723da1d8653b1165d247867b03d241bde15d276f799daa", func := "payroll/payrolllaw3.CalendarMonths", spec := "calendarMonths", recurses := true, named := ["payroll/calendar.lengths", "internal/strconv.uint64pow10", "math/bits.deBruijn32tab", "math/bits.deBruijn64tab"], apart := false, laid := [("math/bits.deBruijn32tab", laid_math_bits_deBruijn32tab), ("math/bits.deBruijn64tab", laid_math_bits_deBruijn64tab), ("internal/strconv.uint64pow10", laid_internal_strconv_uint64pow10), ("payroll/calendar.lengths", laid_payroll_calendar_lengths)], narrowed := true }
def CalendarMonthsUptoSaid : Prop := calendarMonthsUptoRow.holds Tryd.pinned (OpenSpec.upto calendarMonthsSpec)

/-- 'payrolllaw3.CalendarInverse', WHERE WHAT IT READS IS OF BULK AT MOST 1048576: true; the input reads as it did. -/
def calendarInverseUptoRow : OpenClaim := { program := "ytpmlihjdegekgaadoor", sum := "fedf0891bf3fcda1f0723da1d8653b1165d247867b03d241bde15d276f799daa", func := "payroll/payrolllaw3.CalendarInverse", spec := "calendarInverse", recurses := true, named := ["payroll/calendar.lengths", "internal/strconv.uint64pow10", "math/bits.deBruijn32tab", "math/bits.deBruijn64tab"], apart := false, laid := [("math/bits.deBruijn32tab", laid_math_bits_deBruijn32tab), ("math/bits.deBruijn64tab", laid_math_bits_deBruijn64tab), ("internal/strconv.uint64pow10", laid_internal_strconv_uint64pow10), ("payroll/calendar.lengths", laid_payroll_calendar_lengths)], narrowed := true }
def CalendarInverseUptoSaid : Prop := calendarInverseUptoRow.holds Tryd.pinned (OpenSpec.upto calendarInverseSpec)

/-- 'payrolllaw3.CalendarEaster', WHERE WHAT IT READS IS OF BULK AT MOST 1048576: true; the input reads as it did. -/
def calendarEasterUptoRow : OpenClaim := { program := "ytpmlihjdegekgaadoor", sum := "fedf0891bf3fcda1f0723da1d8653b1165d247867b03d241bde15d276f799daa", func := "payroll/payrolllaw3.CalendarEaster", spec := "calendarEaster", recurses := true, named := ["payroll/calendar.lengths", "internal/strconv.uint64pow10", "math/bits.deBruijn32tab", "math/bits.deBruijn64tab"], apart := false, laid := [("math/bits.deBruijn32tab", laid_math_bits_deBruijn32tab), ("math/bits.deBruijn64tab", laid_math_bits_deBruijn64tab), ("internal/strconv.uint64pow10", laid_internal_strconv_uint64pow10), ("payroll/calendar.lengths", laid_payroll_calendar_lengths)], narrowed := true }
def CalendarEasterUptoSaid : Prop := calendarEasterUptoRow.holds Tryd.pinned (OpenSpec.upto calendarEasterSpec)

/-- 'payrolllaw3.CalendarAddMonths', WHERE WHAT IT READS IS OF BULK AT MOST 1048576: true; the input reads as it did. -/
def calendarAddMonthsUptoRow : OpenClaim := { program := "ytpmlihjdegekgaadoor", sum := "fedf0891bf3fcda1f0723da1d8653b1165d247867b03d241bde15d276f799daa", func := "payroll/payrolllaw3.CalendarAddMonths", spec := "calendarAddMonths", recurses := true, named := ["payroll/calendar.lengths", "internal/strconv.uint64pow10", "math/bits.deBruijn32tab", "math/bits.deBruijn64tab"], apart := false, laid := [("math/bits.deBruijn32tab", laid_math_bits_deBruijn32tab), ("math/bits.deBruijn64tab", laid_math_bits_deBruijn64tab), ("internal/strconv.uint64pow10", laid_internal_strconv_uint64pow10), ("payroll/calendar.lengths", laid_payroll_calendar_lengths)], narrowed := true }
def CalendarAddMonthsUptoSaid : Prop := calendarAddMonthsUptoRow.holds Tryd.pinned (OpenSpec.upto calendarAddMonthsSpec)

/-- 'payrolllaw3.CalendarTexts', WHERE WHAT IT READS IS OF BULK AT MOST 1048576: true; the input reads as it did. -/
def calendarTextsUptoRow : OpenClaim := { program := "ytpmlihjdegekgaadoor", sum := "fedf0891bf3fcda1f0723da1d8653b1165d247867b03d241bde15d276f799daa", func := "payroll/payrolllaw3.CalendarTexts", spec := "calendarTexts", recurses := true, named := ["payroll/calendar.lengths", "internal/strconv.uint64pow10", "math/bits.deBruijn32tab", "math/bits.deBruijn64tab"], apart := false, laid := [("math/bits.deBruijn32tab", laid_math_bits_deBruijn32tab), ("math/bits.deBruijn64tab", laid_math_bits_deBruijn64tab), ("internal/strconv.uint64pow10", laid_internal_strconv_uint64pow10), ("payroll/calendar.lengths", laid_payroll_calendar_lengths)], narrowed := true }
def CalendarTextsUptoSaid : Prop := calendarTextsUptoRow.holds Tryd.pinned (OpenSpec.upto calendarTextsSpec)

/-- 'payrolllaw3.CalendarHolidays', WHERE WHAT IT READS IS OF BULK AT MOST 1048576: true; the input reads as it did. -/
def calendarHolidaysUptoRow : OpenClaim := { program := "ytpmlihjdegekgaadoor", sum := "fedf0891bf3fcda1f0723da1d8653b1165d247867b03d241bde15d276f799daa", func := "payroll/payrolllaw3.CalendarHolidays", spec := "calendarHolidays", recurses := true, named := ["payroll/calendar.lengths", "internal/strconv.uint64pow10", "math/bits.deBruijn32tab", "math/bits.deBruijn64tab"], apart := false, laid := [("math/bits.deBruijn32tab", laid_math_bits_deBruijn32tab), ("math/bits.deBruijn64tab", laid_math_bits_deBruijn64tab), ("internal/strconv.uint64pow10", laid_internal_strconv_uint64pow10), ("payroll/calendar.lengths", laid_payroll_calendar_lengths)], narrowed := true }
def CalendarHolidaysUptoSaid : Prop := calendarHolidaysUptoRow.holds Tryd.pinned (OpenSpec.upto calendarHolidaysSpec)

/-- 'payrolllaw3.CalendarWorkdays', WHERE WHAT IT READS IS OF BULK AT MOST 1048576: true; the input reads as it did. -/
def calendarWorkdaysUptoRow : OpenClaim := { program := "ytpmlihjdegekgaadoor", sum := "fedf0891bf3fcda1f0723da1d8653b1165d247867b03d241bde15d276f799daa", func := "payroll/payrolllaw3.CalendarWorkdays", spec := "calendarWorkdays", recurses := true, named := ["payroll/calendar.lengths", "internal/strconv.uint64pow10", "math/bits.deBruijn32tab", "math/bits.deBruijn64tab"], apart := false, laid := [("math/bits.deBruijn32tab", laid_math_bits_deBruijn32tab), ("math/bits.deBruijn64tab", laid_math_bits_deBruijn64tab), ("internal/strconv.uint64pow10", laid_internal_strconv_uint64pow10), ("payroll/calendar.lengths", laid_payroll_calendar_lengths)], narrowed := true }
def CalendarWorkdaysUptoSaid : Prop := calendarWorkdaysUptoRow.holds Tryd.pinned (OpenSpec.upto calendarWorkdaysSpec)

end Rows
end Go.Proofs.YtpmlihjdegekgaaDoor
