/-
  NARROWER THAN 'FOR EVERY INPUT', by the rows' own cells (each row's printed sentence says how): TimesheetLimits: laid · TimesheetWorks: laid · TimesheetDaily: laid · TimesheetConserves: laid · TimesheetOrderless: laid · TopStream: laid · TopLeave: laid.
  DERIVED. THE GIVEN ROWS OF THIS SEAT. 7 by the template 'for every input the law returns true; each argument reads behind the call as it read before'; 0 by the template 'total and deterministic' (their statements: YtpincjkjoeopkaaGreatDoorTotals.lean).
  GIVEN WITH THE SEED: the statements are not yours to turn. If you find one false, say at which input.
  Laid BY PROGRAM, IN A SANDBOX (cutbox-rows.mjs): the forced cells as the released guide's own fill.sh prints them over the translation 20821435f8fff452… (all of the seat's roots in one cut). By AI agents, Wed Nov 11 2026. No macro, syntax, notation, axiom, sorry.
-/
import Derived.Test.YtpincjkjoeopkaaGreatDoorChecked
import GoSem.Claim
import GoSem.ClaimJoined
import GoSem.ClaimMapViews
import Derived.JoinedTies
import Derived.KernelRfl
namespace Go.Proofs.YtpincjkjoeopkaaGreatDoor
/- THE CELL 'sum', in the pinned program and in every row, IS THE sha256 OF THE DUMP (.gsa) THAT YtpincjkjoeopkaaGreatDoorProg.lean LOADS. Nothing in Lean hashes anything: it is a label: what it is worth is what the hold of that sum in a sandbox is worth. -/
noncomputable def Tryz.pinned : Pinned := { name := "ytpincjkjoeopkaagreatdoor", sum := "20821435f8fff4524ec954efbafaaa5ed6d0c46cc5b0696927ec0f02ed010ca9", checked := Tryz.checked }
namespace Rows
def none {H : Type} : Left H := { results := [], args := [] }

/- WHAT THE LISTED PACKAGE-LEVEL VARIABLES READ AS WHEN THE CALL BEGINS. Each datum BY PROGRAM (the guide's laid-datum.mjs) off the statement by which the dump's own 'gosem.cut.vars' lays the variable. In a bare row this is a premise. The card (YtpincjkjoeopkaaGreatDoorCards.lean) ties it to the program's text. -/
def laid_payroll_calendar_lengths {H : Type} : DataW H := .agg [.lit (.int .i64 31), .lit (.int .i64 28), .lit (.int .i64 31), .lit (.int .i64 30), .lit (.int .i64 31), .lit (.int .i64 30), .lit (.int .i64 31), .lit (.int .i64 31), .lit (.int .i64 30), .lit (.int .i64 31), .lit (.int .i64 30), .lit (.int .i64 31)]

/-- 'payrolllaw16.TimesheetLimits': WHATEVER THE INPUT: true; the input reads as it did. -/
def timesheetLimitsSpec : ChangeSpec := { name := "timesheetLimits", fn := fun _ => fun
  | [d1, d2] => { results := [.lit (.bool true)], args := [d1, d2] }
  | _ => none }
def timesheetLimitsRow : OpenClaim := { program := "ytpincjkjoeopkaagreatdoor", sum := "20821435f8fff4524ec954efbafaaa5ed6d0c46cc5b0696927ec0f02ed010ca9", func := "payroll/payrolllaw16.TimesheetLimits", spec := "timesheetLimits", unfollowed := true, recurses := true, named := ["payroll/calendar.lengths"], plainKeys := false, apart := false, laid := [("payroll/calendar.lengths", laid_payroll_calendar_lengths)] }
def TimesheetLimitsSaid : Prop := timesheetLimitsRow.holds Tryz.pinned (OpenSpec.ofChange timesheetLimitsSpec)

/-- ITS FALSE NEIGHBOUR: 'it returns false'. Refute it at one input. -/
def timesheetLimitsWrong : ChangeSpec := { name := "timesheetLimits", fn := fun _ => fun
  | [d1, d2] => { results := [.lit (.bool false)], args := [d1, d2] }
  | _ => none }
def TimesheetLimitsWrongFalsely : Prop := timesheetLimitsRow.holds Tryz.pinned (OpenSpec.ofChange timesheetLimitsWrong)

/-- 'payrolllaw16.TimesheetWorks': WHATEVER THE INPUT: true; the input reads as it did. -/
def timesheetWorksSpec : ChangeSpec := { name := "timesheetWorks", fn := fun _ => fun
  | [d1, d2] => { results := [.lit (.bool true)], args := [d1, d2] }
  | _ => none }
def timesheetWorksRow : OpenClaim := { program := "ytpincjkjoeopkaagreatdoor", sum := "20821435f8fff4524ec954efbafaaa5ed6d0c46cc5b0696927ec0f02ed010ca9", func := "payroll/payrolllaw16.TimesheetWorks", spec := "timesheetWorks", unfollowed := true, recurses := true, named := ["payroll/calendar.lengths"], plainKeys := false, apart := false, laid := [("payroll/calendar.lengths", laid_payroll_calendar_lengths)] }
def TimesheetWorksSaid : Prop := timesheetWorksRow.holds Tryz.pinned (OpenSpec.ofChange timesheetWorksSpec)

/-- ITS FALSE NEIGHBOUR: 'it returns false'. Refute it at one input. -/
def timesheetWorksWrong : ChangeSpec := { name := "timesheetWorks", fn := fun _ => fun
  | [d1, d2] => { results := [.lit (.bool false)], args := [d1, d2] }
  | _ => none }
def TimesheetWorksWrongFalsely : Prop := timesheetWorksRow.holds Tryz.pinned (OpenSpec.ofChange timesheetWorksWrong)

/-- 'payrolllaw16.TimesheetDaily': WHATEVER THE INPUT: true; the input reads as it did. -/
def timesheetDailySpec : ChangeSpec := { name := "timesheetDaily", fn := fun _ => fun
  | [d1, d2] => { results := [.lit (.bool true)], args := [d1, d2] }
  | _ => none }
def timesheetDailyRow : OpenClaim := { program := "ytpincjkjoeopkaagreatdoor", sum := "20821435f8fff4524ec954efbafaaa5ed6d0c46cc5b0696927ec0f02ed010ca9", func := "payroll/payrolllaw16.TimesheetDaily", spec := "timesheetDaily", unfollowed := true, recurses := true, named := ["payroll/calendar.lengths"], plainKeys := false, apart := false, laid := [("payroll/calendar.lengths", laid_payroll_calendar_lengths)] }
def TimesheetDailySaid : Prop := timesheetDailyRow.holds Tryz.pinned (OpenSpec.ofChange timesheetDailySpec)

/-- ITS FALSE NEIGHBOUR: 'it returns false'. Refute it at one input. -/
def timesheetDailyWrong : ChangeSpec := { name := "timesheetDaily", fn := fun _ => fun
  | [d1, d2] => { results := [.lit (.bool false)], args := [d1, d2] }
  | _ => none }
def TimesheetDailyWrongFalsely : Prop := timesheetDailyRow.holds Tryz.pinned (OpenSpec.ofChange timesheetDailyWrong)

/-- 'payrolllaw16.TimesheetConserves': WHATEVER THE INPUT: true; the input reads as it did. -/
def timesheetConservesSpec : ChangeSpec := { name := "timesheetConserves", fn := fun _ => fun
  | [d] => { results := [.lit (.bool true)], args := [d] }
  | _ => none }
def timesheetConservesRow : OpenClaim := { program := "ytpincjkjoeopkaagreatdoor", sum := "20821435f8fff4524ec954efbafaaa5ed6d0c46cc5b0696927ec0f02ed010ca9", func := "payroll/payrolllaw16.TimesheetConserves", spec := "timesheetConserves", unfollowed := true, recurses := true, named := ["payroll/calendar.lengths"], plainKeys := false, apart := false, laid := [("payroll/calendar.lengths", laid_payroll_calendar_lengths)] }
def TimesheetConservesSaid : Prop := timesheetConservesRow.holds Tryz.pinned (OpenSpec.ofChange timesheetConservesSpec)

/-- ITS FALSE NEIGHBOUR: 'it returns false'. Refute it at one input. -/
def timesheetConservesWrong : ChangeSpec := { name := "timesheetConserves", fn := fun _ => fun
  | [d] => { results := [.lit (.bool false)], args := [d] }
  | _ => none }
def TimesheetConservesWrongFalsely : Prop := timesheetConservesRow.holds Tryz.pinned (OpenSpec.ofChange timesheetConservesWrong)

/-- 'payrolllaw16.TimesheetOrderless': WHATEVER THE INPUT: true; the input reads as it did. -/
def timesheetOrderlessSpec : ChangeSpec := { name := "timesheetOrderless", fn := fun _ => fun
  | [d1, d2] => { results := [.lit (.bool true)], args := [d1, d2] }
  | _ => none }
def timesheetOrderlessRow : OpenClaim := { program := "ytpincjkjoeopkaagreatdoor", sum := "20821435f8fff4524ec954efbafaaa5ed6d0c46cc5b0696927ec0f02ed010ca9", func := "payroll/payrolllaw16.TimesheetOrderless", spec := "timesheetOrderless", unfollowed := true, recurses := true, named := ["payroll/calendar.lengths"], plainKeys := false, apart := false, laid := [("payroll/calendar.lengths", laid_payroll_calendar_lengths)] }
def TimesheetOrderlessSaid : Prop := timesheetOrderlessRow.holds Tryz.pinned (OpenSpec.ofChange timesheetOrderlessSpec)

/-- ITS FALSE NEIGHBOUR: 'it returns false'. Refute it at one input. -/
def timesheetOrderlessWrong : ChangeSpec := { name := "timesheetOrderless", fn := fun _ => fun
  | [d1, d2] => { results := [.lit (.bool false)], args := [d1, d2] }
  | _ => none }
def TimesheetOrderlessWrongFalsely : Prop := timesheetOrderlessRow.holds Tryz.pinned (OpenSpec.ofChange timesheetOrderlessWrong)

/-- 'payrolltop.TopStream': WHATEVER THE INPUT: true; the input reads as it did. -/
def topStreamSpec : ChangeSpec := { name := "topStream", fn := fun _ => fun
  | [d1, d2] => { results := [.lit (.bool true)], args := [d1, d2] }
  | _ => none }
def topStreamRow : OpenClaim := { program := "ytpincjkjoeopkaagreatdoor", sum := "20821435f8fff4524ec954efbafaaa5ed6d0c46cc5b0696927ec0f02ed010ca9", func := "payroll/payrolltop.TopStream", spec := "topStream", unfollowed := true, recurses := true, named := ["payroll/calendar.lengths"], plainKeys := false, apart := false, laid := [("payroll/calendar.lengths", laid_payroll_calendar_lengths)] }
def TopStreamSaid : Prop := topStreamRow.holds Tryz.pinned (OpenSpec.ofChange topStreamSpec)

/-- ITS FALSE NEIGHBOUR: 'it returns false'. Refute it at one input. -/
def topStreamWrong : ChangeSpec := { name := "topStream", fn := fun _ => fun
  | [d1, d2] => { results := [.lit (.bool false)], args := [d1, d2] }
  | _ => none }
def TopStreamWrongFalsely : Prop := topStreamRow.holds Tryz.pinned (OpenSpec.ofChange topStreamWrong)

/-- 'payrolltop.TopLeave': WHATEVER THE INPUT: true; the input reads as it did. -/
def topLeaveSpec : ChangeSpec := { name := "topLeave", fn := fun _ => fun
  | [d] => { results := [.lit (.bool true)], args := [d] }
  | _ => none }
def topLeaveRow : OpenClaim := { program := "ytpincjkjoeopkaagreatdoor", sum := "20821435f8fff4524ec954efbafaaa5ed6d0c46cc5b0696927ec0f02ed010ca9", func := "payroll/payrolltop.TopLeave", spec := "topLeave", unfollowed := true, recurses := true, named := ["payroll/calendar.lengths"], plainKeys := false, apart := false, laid := [("payroll/calendar.lengths", laid_payroll_calendar_lengths)] }
def TopLeaveSaid : Prop := topLeaveRow.holds Tryz.pinned (OpenSpec.ofChange topLeaveSpec)

/-- ITS FALSE NEIGHBOUR: 'it returns false'. Refute it at one input. -/
def topLeaveWrong : ChangeSpec := { name := "topLeave", fn := fun _ => fun
  | [d] => { results := [.lit (.bool false)], args := [d] }
  | _ => none }
def TopLeaveWrongFalsely : Prop := topLeaveRow.holds Tryz.pinned (OpenSpec.ofChange topLeaveWrong)

/- THE SECOND FORM. 'bulk': how many values and letters a reading holds, each counted each time it is reached (what is shared counts as often as it is met; a slice's spare places count too). A statement '..UptoSaid' is the law's where the arguments, and the package variables that the reading takes, are together of bulk at most 1048576: NARROWER than '..Said'. Prove '..Said' where nothing that the law and all that it calls make is longer than what came in: it says more and counts as full. Else prove '..UptoSaid'. A law counts once. -/
mutual
def uptoBulk {H : Type} : DataW H → Nat
  | .lit (.string bytes) => bytes.length + 1
  | .lit _ => 1
  | .nil => 1
  | .ptr d => uptoBulk d + 1
  | .slice elems spare => uptoBulkAll elems + uptoBulkAll spare + 1
  | .agg parts => uptoBulkAll parts + 1
  | .iface _ d => uptoBulk d + 1
  | .map entries => uptoBulkEntries entries + 1
  | .held _ => 1
def uptoBulkAll {H : Type} : List (DataW H) → Nat
  | [] => 0
  | d :: r => uptoBulk d + uptoBulkAll r
def uptoBulkEntries {H : Type} : List (Lit × DataW H) → Nat
  | [] => 0
  | x :: r => uptoBulkEntry x + uptoBulkEntries r
def uptoBulkEntry {H : Type} : Lit × DataW H → Nat
  | (.string bytes, d) => bytes.length + uptoBulk d + 1
  | (_, d) => uptoBulk d + 1
 end
def uptoSmall : (H : Type) → List (DataW H) → Bool := fun _ ds => decide (uptoBulkAll ds ≤ 1048576)
def OpenSpec.upto (s : _root_.Go.ChangeSpec) : _root_.Go.OpenSpec := { _root_.Go.OpenSpec.ofChange s with cond := some uptoSmall }

/-- 'payrolllaw16.TimesheetLimits', WHERE WHAT IT READS IS OF BULK AT MOST 1048576: true; the input reads as it did. -/
def timesheetLimitsUptoRow : OpenClaim := { program := "ytpincjkjoeopkaagreatdoor", sum := "20821435f8fff4524ec954efbafaaa5ed6d0c46cc5b0696927ec0f02ed010ca9", func := "payroll/payrolllaw16.TimesheetLimits", spec := "timesheetLimits", unfollowed := true, recurses := true, named := ["payroll/calendar.lengths"], plainKeys := false, apart := false, laid := [("payroll/calendar.lengths", laid_payroll_calendar_lengths)], narrowed := true }
def TimesheetLimitsUptoSaid : Prop := timesheetLimitsUptoRow.holds Tryz.pinned (OpenSpec.upto timesheetLimitsSpec)

/-- 'payrolllaw16.TimesheetWorks', WHERE WHAT IT READS IS OF BULK AT MOST 1048576: true; the input reads as it did. -/
def timesheetWorksUptoRow : OpenClaim := { program := "ytpincjkjoeopkaagreatdoor", sum := "20821435f8fff4524ec954efbafaaa5ed6d0c46cc5b0696927ec0f02ed010ca9", func := "payroll/payrolllaw16.TimesheetWorks", spec := "timesheetWorks", unfollowed := true, recurses := true, named := ["payroll/calendar.lengths"], plainKeys := false, apart := false, laid := [("payroll/calendar.lengths", laid_payroll_calendar_lengths)], narrowed := true }
def TimesheetWorksUptoSaid : Prop := timesheetWorksUptoRow.holds Tryz.pinned (OpenSpec.upto timesheetWorksSpec)

/-- 'payrolllaw16.TimesheetDaily', WHERE WHAT IT READS IS OF BULK AT MOST 1048576: true; the input reads as it did. -/
def timesheetDailyUptoRow : OpenClaim := { program := "ytpincjkjoeopkaagreatdoor", sum := "20821435f8fff4524ec954efbafaaa5ed6d0c46cc5b0696927ec0f02ed010ca9", func := "payroll/payrolllaw16.TimesheetDaily", spec := "timesheetDaily", unfollowed := true, recurses := true, named := ["payroll/calendar.lengths"], plainKeys := false, apart := false, laid := [("payroll/calendar.lengths", laid_payroll_calendar_lengths)], narrowed := true }
def TimesheetDailyUptoSaid : Prop := timesheetDailyUptoRow.holds Tryz.pinned (OpenSpec.upto timesheetDailySpec)

/-- 'payrolllaw16.TimesheetConserves', WHERE WHAT IT READS IS OF BULK AT MOST 1048576: true; the input reads as it did. -/
def timesheetConservesUptoRow : OpenClaim := { program := "ytpincjkjoeopkaagreatdoor", sum := "20821435f8fff4524ec954efbafaaa5ed6d0c46cc5b0696927ec0f02ed010ca9", func := "payroll/payrolllaw16.TimesheetConserves", spec := "timesheetConserves", unfollowed := true, recurses := true, named := ["payroll/calendar.lengths"], plainKeys := false, apart := false, laid := [("payroll/calendar.lengths", laid_payroll_calendar_lengths)], narrowed := true }
def TimesheetConservesUptoSaid : Prop := timesheetConservesUptoRow.holds Tryz.pinned (OpenSpec.upto timesheetConservesSpec)

/-- 'payrolllaw16.TimesheetOrderless', WHERE WHAT IT READS IS OF BULK AT MOST 1048576: true; the input reads as it did. -/
def timesheetOrderlessUptoRow : OpenClaim := { program := "ytpincjkjoeopkaagreatdoor", sum := "20821435f8fff4524ec954efbafaaa5ed6d0c46cc5b0696927ec0f02ed010ca9", func := "payroll/payrolllaw16.TimesheetOrderless", spec := "timesheetOrderless", unfollowed := true, recurses := true, named := ["payroll/calendar.lengths"], plainKeys := false, apart := false, laid := [("payroll/calendar.lengths", laid_payroll_calendar_lengths)], narrowed := true }
def TimesheetOrderlessUptoSaid : Prop := timesheetOrderlessUptoRow.holds Tryz.pinned (OpenSpec.upto timesheetOrderlessSpec)

/-- 'payrolltop.TopStream', WHERE WHAT IT READS IS OF BULK AT MOST 1048576: true; the input reads as it did. -/
def topStreamUptoRow : OpenClaim := { program := "ytpincjkjoeopkaagreatdoor", sum := "20821435f8fff4524ec954efbafaaa5ed6d0c46cc5b0696927ec0f02ed010ca9", func := "payroll/payrolltop.TopStream", spec := "topStream", unfollowed := true, recurses := true, named := ["payroll/calendar.lengths"], plainKeys := false, apart := false, laid := [("payroll/calendar.lengths", laid_payroll_calendar_lengths)], narrowed := true }
def TopStreamUptoSaid : Prop := topStreamUptoRow.holds Tryz.pinned (OpenSpec.upto topStreamSpec)

/-- 'payrolltop.TopLeave', WHERE WHAT IT READS IS OF BULK AT MOST 1048576: true; the input reads as it did. -/
def topLeaveUptoRow : OpenClaim := { program := "ytpincjkjoeopkaagreatdoor", sum := "20821435f8fff4524ec954efbafaaa5ed6d0c46cc5b0696927ec0f02ed010ca9", func := "payroll/payrolltop.TopLeave", spec := "topLeave", unfollowed := true, recurses := true, named := ["payroll/calendar.lengths"], plainKeys := false, apart := false, laid := [("payroll/calendar.lengths", laid_payroll_calendar_lengths)], narrowed := true }
def TopLeaveUptoSaid : Prop := topLeaveUptoRow.holds Tryz.pinned (OpenSpec.upto topLeaveSpec)

end Rows
end Go.Proofs.YtpincjkjoeopkaaGreatDoor
