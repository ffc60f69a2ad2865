/-
  NARROWER THAN 'FOR EVERY INPUT', by the rows' own cells (each row's printed sentence says how): PeriodSpans: laid · PeriodPartition: laid · PeriodAddsUp: laid.
  DERIVED. THE GIVEN ROWS OF THIS SEAT. 3 by the template 'for every input the law returns true; each argument reads behind the call as it read before'; 0 by the template 'total and deterministic' (their statements: YtlanehcihoiglaaDoorTotals.lean).
  GIVEN WITH THE SEED: the statements are not yours to turn. If you find one false, say at which input.
  Laid BY PROGRAM, IN A SANDBOX (cutbox-rows.mjs): the forced cells as the released guide's own fill.sh prints them over the translation 59ccd63623012688… (all of the seat's roots in one cut). By AI agents, Wed Nov 11 2026. No macro, syntax, notation, axiom, sorry.
-/
import Derived.Test.YtlanehcihoiglaaDoorChecked
import GoSem.Claim
import GoSem.ClaimJoined
import GoSem.ClaimMapViews
import Derived.JoinedTies
import Derived.KernelRfl
namespace Go.Proofs.YtlanehcihoiglaaDoor
/- THE CELL 'sum', in the pinned program and in every row, IS THE sha256 OF THE DUMP (.gsa) THAT YtlanehcihoiglaaDoorProg.lean LOADS. Nothing in Lean hashes anything: it is a label: what it is worth is what the hold of that sum in a sandbox is worth. -/
noncomputable def Tryd.pinned : Pinned := { name := "ytlanehcihoiglaadoor", sum := "59ccd63623012688df903ba9e86af1a5f3240a8767b970799a125444ebb23b6a", checked := Tryd.checked }
namespace Rows
def none {H : Type} : Left H := { results := [], args := [] }

/- WHAT THE LISTED PACKAGE-LEVEL VARIABLES READ AS WHEN THE CALL BEGINS. Each datum BY PROGRAM (the guide's laid-datum.mjs) off the statement by which the dump's own 'gosem.cut.vars' lays the variable. In a bare row this is a premise. The card (YtlanehcihoiglaaDoorCards.lean) ties it to the program's text. -/
def laid_payroll_calendar_lengths {H : Type} : DataW H := .agg [.lit (.int .i64 31), .lit (.int .i64 28), .lit (.int .i64 31), .lit (.int .i64 30), .lit (.int .i64 31), .lit (.int .i64 30), .lit (.int .i64 31), .lit (.int .i64 31), .lit (.int .i64 30), .lit (.int .i64 31), .lit (.int .i64 30), .lit (.int .i64 31)]

/-- 'payrolllaw5.PeriodSpans': WHATEVER THE INPUT: true; the input reads as it did. -/
def periodSpansSpec : ChangeSpec := { name := "periodSpans", fn := fun _ => fun
  | [d1, d2, d3, d4] => { results := [.lit (.bool true)], args := [d1, d2, d3, d4] }
  | _ => none }
def periodSpansRow : OpenClaim := { program := "ytlanehcihoiglaadoor", sum := "59ccd63623012688df903ba9e86af1a5f3240a8767b970799a125444ebb23b6a", func := "payroll/payrolllaw5.PeriodSpans", spec := "periodSpans", unfollowed := true, recurses := true, named := ["payroll/calendar.lengths"], apart := false, laid := [("payroll/calendar.lengths", laid_payroll_calendar_lengths)] }
def PeriodSpansSaid : Prop := periodSpansRow.holds Tryd.pinned (OpenSpec.ofChange periodSpansSpec)

/-- ITS FALSE NEIGHBOUR: 'it returns false'. Refute it at one input. -/
def periodSpansWrong : ChangeSpec := { name := "periodSpans", fn := fun _ => fun
  | [d1, d2, d3, d4] => { results := [.lit (.bool false)], args := [d1, d2, d3, d4] }
  | _ => none }
def PeriodSpansWrongFalsely : Prop := periodSpansRow.holds Tryd.pinned (OpenSpec.ofChange periodSpansWrong)

/-- 'payrolllaw5.PeriodPartition': WHATEVER THE INPUT: true; the input reads as it did. -/
def periodPartitionSpec : ChangeSpec := { name := "periodPartition", fn := fun _ => fun
  | [d1, d2] => { results := [.lit (.bool true)], args := [d1, d2] }
  | _ => none }
def periodPartitionRow : OpenClaim := { program := "ytlanehcihoiglaadoor", sum := "59ccd63623012688df903ba9e86af1a5f3240a8767b970799a125444ebb23b6a", func := "payroll/payrolllaw5.PeriodPartition", spec := "periodPartition", unfollowed := true, recurses := true, named := ["payroll/calendar.lengths"], apart := false, laid := [("payroll/calendar.lengths", laid_payroll_calendar_lengths)] }
def PeriodPartitionSaid : Prop := periodPartitionRow.holds Tryd.pinned (OpenSpec.ofChange periodPartitionSpec)

/-- ITS FALSE NEIGHBOUR: 'it returns false'. Refute it at one input. -/
def periodPartitionWrong : ChangeSpec := { name := "periodPartition", fn := fun _ => fun
  | [d1, d2] => { results := [.lit (.bool false)], args := [d1, d2] }
  | _ => none }
def PeriodPartitionWrongFalsely : Prop := periodPartitionRow.holds Tryd.pinned (OpenSpec.ofChange periodPartitionWrong)

/-- 'payrolllaw5.PeriodAddsUp': WHATEVER THE INPUT: true; the input reads as it did. -/
def periodAddsUpSpec : ChangeSpec := { name := "periodAddsUp", fn := fun _ => fun
  | [d1, d2] => { results := [.lit (.bool true)], args := [d1, d2] }
  | _ => none }
def periodAddsUpRow : OpenClaim := { program := "ytlanehcihoiglaadoor", sum := "59ccd63623012688df903ba9e86af1a5f3240a8767b970799a125444ebb23b6a", func := "payroll/payrolllaw5.PeriodAddsUp", spec := "periodAddsUp", unfollowed := true, recurses := true, named := ["payroll/calendar.lengths"], apart := false, laid := [("payroll/calendar.lengths", laid_payroll_calendar_lengths)] }
def PeriodAddsUpSaid : Prop := periodAddsUpRow.holds Tryd.pinned (OpenSpec.ofChange periodAddsUpSpec)

/-- ITS FALSE NEIGHBOUR: 'it returns false'. Refute it at one input. -/
def periodAddsUpWrong : ChangeSpec := { name := "periodAddsUp", fn := fun _ => fun
  | [d1, d2] => { results := [.lit (.bool false)], args := [d1, d2] }
  | _ => none }
def PeriodAddsUpWrongFalsely : Prop := periodAddsUpRow.holds Tryd.pinned (OpenSpec.ofChange periodAddsUpWrong)

/- THE SECOND FORM. 'bulk': how many values and letters a reading holds, each counted each time it is reached (what is shared counts as often as it is met; a slice's spare places count too). A statement '..UptoSaid' is the law's where the arguments, and the package variables that the reading takes, are together of bulk at most 1048576: NARROWER than '..Said'. Prove '..Said' where nothing that the law and all that it calls make is longer than what came in: it says more and counts as full. Else prove '..UptoSaid'. A law counts once. -/
mutual
def uptoBulk {H : Type} : DataW H → Nat
  | .lit (.string bytes) => bytes.length + 1
  | .lit _ => 1
  | .nil => 1
  | .ptr d => uptoBulk d + 1
  | .slice elems spare => uptoBulkAll elems + uptoBulkAll spare + 1
  | .agg parts => uptoBulkAll parts + 1
  | .iface _ d => uptoBulk d + 1
  | .map entries => uptoBulkEntries entries + 1
  | .held _ => 1
def uptoBulkAll {H : Type} : List (DataW H) → Nat
  | [] => 0
  | d :: r => uptoBulk d + uptoBulkAll r
def uptoBulkEntries {H : Type} : List (Lit × DataW H) → Nat
  | [] => 0
  | x :: r => uptoBulkEntry x + uptoBulkEntries r
def uptoBulkEntry {H : Type} : Lit × DataW H → Nat
  | (.string bytes, d) => bytes.length + uptoBulk d + 1
  | (_, d) => uptoBulk d + 1
 end
def uptoSmall : (H : Type) → List (DataW H) → Bool := fun _ ds => decide (uptoBulkAll ds ≤ 1048576)
def OpenSpec.upto (s : _root_.Go.ChangeSpec) : _root_.Go.OpenSpec := { _root_.Go.OpenSpec.ofChange s with cond := some uptoSmall }

/-- 'payrolllaw5.PeriodSpans', WHERE WHAT IT READS IS OF BULK AT MOST 1048576: true; the input reads as it did. -/
def periodSpansUptoRow : OpenClaim := { program := "ytlanehcihoiglaadoor", sum := "59ccd63623012688df903ba9e86af1a5f3240a8767b970799a125444ebb23b6a", func := "payroll/payrolllaw5.PeriodSpans", spec := "periodSpans", unfollowed := true, recurses := true, named := ["payroll/calendar.lengths"], apart := false, laid := [("payroll/calendar.lengths", laid_payroll_calendar_lengths)], narrowed := true }
def PeriodSpansUptoSaid : Prop := periodSpansUptoRow.holds Tryd.pinned (OpenSpec.upto periodSpansSpec)

/-- 'payrolllaw5.PeriodPartition', WHERE WHAT IT READS IS OF BULK AT MOST 1048576: true; the input reads as it did. -/
def periodPartitionUptoRow : OpenClaim := { program := "ytlanehcihoiglaadoor", sum := "59ccd63623012688df903ba9e86af1a5f3240a8767b970799a125444ebb23b6a", func := "payroll/payrolllaw5.PeriodPartition", spec := "periodPartition", unfollowed := true, recurses := true, named := ["payroll/calendar.lengths"], apart := false, laid := [("payroll/calendar.lengths", laid_payroll_calendar_lengths)], narrowed := true }
def PeriodPartitionUptoSaid : Prop := periodPartitionUptoRow.holds Tryd.pinned (OpenSpec.upto periodPartitionSpec)

/-- 'payrolllaw5.PeriodAddsUp', WHERE WHAT IT READS IS OF BULK AT MOST 1048576: true; the input reads as it did. -/
def periodAddsUpUptoRow : OpenClaim := { program := "ytlanehcihoiglaadoor", sum := "59ccd63623012688df903ba9e86af1a5f3240a8767b970799a125444ebb23b6a", func := "payroll/payrolllaw5.PeriodAddsUp", spec := "periodAddsUp", unfollowed := true, recurses := true, named := ["payroll/calendar.lengths"], apart := false, laid := [("payroll/calendar.lengths", laid_payroll_calendar_lengths)], narrowed := true }
def PeriodAddsUpUptoSaid : Prop := periodAddsUpUptoRow.holds Tryd.pinned (OpenSpec.upto periodAddsUpSpec)

end Rows
end Go.Proofs.YtlanehcihoiglaaDoor
