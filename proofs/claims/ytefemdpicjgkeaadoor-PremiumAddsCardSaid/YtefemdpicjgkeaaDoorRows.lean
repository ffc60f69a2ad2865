/-
  NARROWER THAN 'FOR EVERY INPUT', by the rows' own cells (each row's printed sentence says how): PremiumLimits: laid · PremiumCounts: laid · PremiumGroups: laid · PremiumAdds: laid.
  DERIVED. THE GIVEN ROWS OF THIS SEAT. 4 by the template 'for every input the law returns true; each argument reads behind the call as it read before'; 0 by the template 'total and deterministic' (their statements: YtefemdpicjgkeaaDoorTotals.lean).
  GIVEN WITH THE SEED: the statements are not yours to turn. If you find one false, say at which input.
  Laid BY PROGRAM, IN A SANDBOX (cutbox-rows.mjs): the forced cells as the released guide's own fill.sh prints them over the translation 122ca96fda09fc0d… (all of the seat's roots in one cut). By AI agents, Wed Nov 11 2026. No macro, syntax, notation, axiom, sorry.
-/
import Derived.Test.YtefemdpicjgkeaaDoorChecked
import GoSem.Claim
import GoSem.ClaimJoined
import GoSem.ClaimMapViews
import Derived.JoinedTies
import Derived.KernelRfl
namespace Go.Proofs.YtefemdpicjgkeaaDoor
/- THE CELL 'sum', in the pinned program and in every row, IS THE sha256 OF THE DUMP (.gsa) THAT YtefemdpicjgkeaaDoorProg.lean LOADS. Nothing in Lean hashes anything: it is a label: what it is worth is what the hold of that sum in a sandbox is worth. -/
noncomputable def Tryd.pinned : Pinned := { name := "ytefemdpicjgkeaadoor", sum := "122ca96fda09fc0d8e9ae7bf2dcd432d3b770d5d14a5c516da9ee396a39be6a3", checked := Tryd.checked }
namespace Rows
def none {H : Type} : Left H := { results := [], args := [] }

/- WHAT THE LISTED PACKAGE-LEVEL VARIABLES READ AS WHEN THE CALL BEGINS. Each datum BY PROGRAM (the guide's laid-datum.mjs) off the statement by which the dump's own 'gosem.cut.vars' lays the variable. In a bare row this is a premise. The card (YtefemdpicjgkeaaDoorCards.lean) ties it to the program's text. -/
def laid_payroll_calendar_lengths {H : Type} : DataW H := .agg [.lit (.int .i64 31), .lit (.int .i64 28), .lit (.int .i64 31), .lit (.int .i64 30), .lit (.int .i64 31), .lit (.int .i64 30), .lit (.int .i64 31), .lit (.int .i64 31), .lit (.int .i64 30), .lit (.int .i64 31), .lit (.int .i64 30), .lit (.int .i64 31)]

/-- 'payrolllaw13.PremiumLimits': WHATEVER THE INPUT: true; the input reads as it did. -/
def premiumLimitsSpec : ChangeSpec := { name := "premiumLimits", fn := fun _ => fun
  | [d1, d2] => { results := [.lit (.bool true)], args := [d1, d2] }
  | _ => none }
def premiumLimitsRow : OpenClaim := { program := "ytefemdpicjgkeaadoor", sum := "122ca96fda09fc0d8e9ae7bf2dcd432d3b770d5d14a5c516da9ee396a39be6a3", func := "payroll/payrolllaw13.PremiumLimits", spec := "premiumLimits", unfollowed := true, recurses := true, named := ["payroll/calendar.lengths"], apart := false, laid := [("payroll/calendar.lengths", laid_payroll_calendar_lengths)] }
def PremiumLimitsSaid : Prop := premiumLimitsRow.holds Tryd.pinned (OpenSpec.ofChange premiumLimitsSpec)

/-- ITS FALSE NEIGHBOUR: 'it returns false'. Refute it at one input. -/
def premiumLimitsWrong : ChangeSpec := { name := "premiumLimits", fn := fun _ => fun
  | [d1, d2] => { results := [.lit (.bool false)], args := [d1, d2] }
  | _ => none }
def PremiumLimitsWrongFalsely : Prop := premiumLimitsRow.holds Tryd.pinned (OpenSpec.ofChange premiumLimitsWrong)

/-- 'payrolllaw13.PremiumCounts': WHATEVER THE INPUT: true; the input reads as it did. -/
def premiumCountsSpec : ChangeSpec := { name := "premiumCounts", fn := fun _ => fun
  | [d] => { results := [.lit (.bool true)], args := [d] }
  | _ => none }
def premiumCountsRow : OpenClaim := { program := "ytefemdpicjgkeaadoor", sum := "122ca96fda09fc0d8e9ae7bf2dcd432d3b770d5d14a5c516da9ee396a39be6a3", func := "payroll/payrolllaw13.PremiumCounts", spec := "premiumCounts", unfollowed := true, recurses := true, named := ["payroll/calendar.lengths"], apart := false, laid := [("payroll/calendar.lengths", laid_payroll_calendar_lengths)] }
def PremiumCountsSaid : Prop := premiumCountsRow.holds Tryd.pinned (OpenSpec.ofChange premiumCountsSpec)

/-- ITS FALSE NEIGHBOUR: 'it returns false'. Refute it at one input. -/
def premiumCountsWrong : ChangeSpec := { name := "premiumCounts", fn := fun _ => fun
  | [d] => { results := [.lit (.bool false)], args := [d] }
  | _ => none }
def PremiumCountsWrongFalsely : Prop := premiumCountsRow.holds Tryd.pinned (OpenSpec.ofChange premiumCountsWrong)

/-- 'payrolllaw13.PremiumGroups': WHATEVER THE INPUT: true; the input reads as it did. -/
def premiumGroupsSpec : ChangeSpec := { name := "premiumGroups", fn := fun _ => fun
  | [d] => { results := [.lit (.bool true)], args := [d] }
  | _ => none }
def premiumGroupsRow : OpenClaim := { program := "ytefemdpicjgkeaadoor", sum := "122ca96fda09fc0d8e9ae7bf2dcd432d3b770d5d14a5c516da9ee396a39be6a3", func := "payroll/payrolllaw13.PremiumGroups", spec := "premiumGroups", unfollowed := true, recurses := true, named := ["payroll/calendar.lengths"], apart := false, laid := [("payroll/calendar.lengths", laid_payroll_calendar_lengths)] }
def PremiumGroupsSaid : Prop := premiumGroupsRow.holds Tryd.pinned (OpenSpec.ofChange premiumGroupsSpec)

/-- ITS FALSE NEIGHBOUR: 'it returns false'. Refute it at one input. -/
def premiumGroupsWrong : ChangeSpec := { name := "premiumGroups", fn := fun _ => fun
  | [d] => { results := [.lit (.bool false)], args := [d] }
  | _ => none }
def PremiumGroupsWrongFalsely : Prop := premiumGroupsRow.holds Tryd.pinned (OpenSpec.ofChange premiumGroupsWrong)

/-- 'payrolllaw13.PremiumAdds': WHATEVER THE INPUT: true; the input reads as it did. -/
def premiumAddsSpec : ChangeSpec := { name := "premiumAdds", fn := fun _ => fun
  | [d1, d2] => { results := [.lit (.bool true)], args := [d1, d2] }
  | _ => none }
def premiumAddsRow : OpenClaim := { program := "ytefemdpicjgkeaadoor", sum := "122ca96fda09fc0d8e9ae7bf2dcd432d3b770d5d14a5c516da9ee396a39be6a3", func := "payroll/payrolllaw13.PremiumAdds", spec := "premiumAdds", unfollowed := true, recurses := true, named := ["payroll/calendar.lengths"], apart := false, laid := [("payroll/calendar.lengths", laid_payroll_calendar_lengths)] }
def PremiumAddsSaid : Prop := premiumAddsRow.holds Tryd.pinned (OpenSpec.ofChange premiumAddsSpec)

/-- ITS FALSE NEIGHBOUR: 'it returns false'. Refute it at one input. -/
def premiumAddsWrong : ChangeSpec := { name := "premiumAdds", fn := fun _ => fun
  | [d1, d2] => { results := [.lit (.bool false)], args := [d1, d2] }
  | _ => none }
def PremiumAddsWrongFalsely : Prop := premiumAddsRow.holds Tryd.pinned (OpenSpec.ofChange premiumAddsWrong)

/- THE SECOND FORM. 'bulk': how many values and letters a reading holds, each counted each time it is reached (what is shared counts as often as it is met; a slice's spare places count too). A statement '..UptoSaid' is the law's where the arguments, and the package variables that the reading takes, are together of bulk at most 1048576: NARROWER than '..Said'. Prove '..Said' where nothing that the law and all that it calls make is longer than what came in: it says more and counts as full. Else prove '..UptoSaid'. A law counts once. -/
mutual
def uptoBulk {H : Type} : DataW H → Nat
  | .lit (.string bytes) => bytes.length + 1
  | .lit _ => 1
  | .nil => 1
  | .ptr d => uptoBulk d + 1
  | .slice elems spare => uptoBulkAll elems + uptoBulkAll spare + 1
  | .agg parts => uptoBulkAll parts + 1
  | .iface _ d => uptoBulk d + 1
  | .map entries => uptoBulkEntries entries + 1
  | .held _ => 1
def uptoBulkAll {H : Type} : List (DataW H) → Nat
  | [] => 0
  | d :: r => uptoBulk d + uptoBulkAll r
def uptoBulkEntries {H : Type} : List (Lit × DataW H) → Nat
  | [] => 0
  | x :: r => uptoBulkEntry x + uptoBulkEntries r
def uptoBulkEntry {H : Type} : Lit × DataW H → Nat
  | (.string bytes, d) => bytes.length + uptoBulk d + 1
  | (_, d) => uptoBulk d + 1
 end
def uptoSmall : (H : Type) → List (DataW H) → Bool := fun _ ds => decide (uptoBulkAll ds ≤ 1048576)
def OpenSpec.upto (s : _root_.Go.ChangeSpec) : _root_.Go.OpenSpec := { _root_.Go.OpenSpec.ofChange s with cond := some uptoSmall }

/-- 'payrolllaw13.PremiumLimits', WHERE WHAT IT READS IS OF BULK AT MOST 1048576: true; the input reads as it did. -/
def premiumLimitsUptoRow : OpenClaim := { program := "ytefemdpicjgkeaadoor", sum := "122ca96fda09fc0d8e9ae7bf2dcd432d3b770d5d14a5c516da9ee396a39be6a3", func := "payroll/payrolllaw13.PremiumLimits", spec := "premiumLimits", unfollowed := true, recurses := true, named := ["payroll/calendar.lengths"], apart := false, laid := [("payroll/calendar.lengths", laid_payroll_calendar_lengths)], narrowed := true }
def PremiumLimitsUptoSaid : Prop := premiumLimitsUptoRow.holds Tryd.pinned (OpenSpec.upto premiumLimitsSpec)

/-- 'payrolllaw13.PremiumCounts', WHERE WHAT IT READS IS OF BULK AT MOST 1048576: true; the input reads as it did. -/
def premiumCountsUptoRow : OpenClaim := { program := "ytefemdpicjgkeaadoor", sum := "122ca96fda09fc0d8e9ae7bf2dcd432d3b770d5d14a5c516da9ee396a39be6a3", func := "payroll/payrolllaw13.PremiumCounts", spec := "premiumCounts", unfollowed := true, recurses := true, named := ["payroll/calendar.lengths"], apart := false, laid := [("payroll/calendar.lengths", laid_payroll_calendar_lengths)], narrowed := true }
def PremiumCountsUptoSaid : Prop := premiumCountsUptoRow.holds Tryd.pinned (OpenSpec.upto premiumCountsSpec)

/-- 'payrolllaw13.PremiumGroups', WHERE WHAT IT READS IS OF BULK AT MOST 1048576: true; the input reads as it did. -/
def premiumGroupsUptoRow : OpenClaim := { program := "ytefemdpicjgkeaadoor", sum := "122ca96fda09fc0d8e9ae7bf2dcd432d3b770d5d14a5c516da9ee396a39be6a3", func := "payroll/payrolllaw13.PremiumGroups", spec := "premiumGroups", unfollowed := true, recurses := true, named := ["payroll/calendar.lengths"], apart := false, laid := [("payroll/calendar.lengths", laid_payroll_calendar_lengths)], narrowed := true }
def PremiumGroupsUptoSaid : Prop := premiumGroupsUptoRow.holds Tryd.pinned (OpenSpec.upto premiumGroupsSpec)

/-- 'payrolllaw13.PremiumAdds', WHERE WHAT IT READS IS OF BULK AT MOST 1048576: true; the input reads as it did. -/
def premiumAddsUptoRow : OpenClaim := { program := "ytefemdpicjgkeaadoor", sum := "122ca96fda09fc0d8e9ae7bf2dcd432d3b770d5d14a5c516da9ee396a39be6a3", func := "payroll/payrolllaw13.PremiumAdds", spec := "premiumAdds", unfollowed := true, recurses := true, named := ["payroll/calendar.lengths"], apart := false, laid := [("payroll/calendar.lengths", laid_payroll_calendar_lengths)], narrowed := true }
def PremiumAddsUptoSaid : Prop := premiumAddsUptoRow.holds Tryd.pinned (OpenSpec.upto premiumAddsSpec)

end Rows
end Go.Proofs.YtefemdpicjgkeaaDoor
