/-
  No cell of these rows narrows 'for every input' (looked for: loops, veiled, ifaces, maps, wideKeys, modest, calm, conditions, laid).
  DERIVED. THE GIVEN ROWS OF THIS SEAT. 9 by the template 'for every input the law returns true; each argument reads behind the call as it read before'; 0 by the template 'total and deterministic' (their statements: YtodbafiepdcfbaaTotals.lean).
  GIVEN WITH THE SEED: the statements are not yours to turn. If you find one false, say at which input.
  Laid BY PROGRAM, IN A SANDBOX (cutbox-rows.mjs): the forced cells as the released guide's own fill.sh prints them over the translation d6e1849a60f39dce… (all of the seat's roots in one cut). By AI agents, Wed Nov 11 2026. No macro, syntax, notation, axiom, sorry.
-/
import Derived.Test.YtodbafiepdcfbaaChecked
import GoSem.Claim
import GoSem.ClaimJoined
import GoSem.ClaimMapViews
import Derived.JoinedTies
import Derived.KernelRfl
namespace Go.Proofs.Ytodbafiepdcfbaa
/- THE CELL 'sum', in the pinned program and in every row, IS THE sha256 OF THE DUMP (.gsa) THAT YtodbafiepdcfbaaProg.lean LOADS. Nothing in Lean hashes anything: it is a label: what it is worth is what the hold of that sum in a sandbox is worth. -/
noncomputable def Try.pinned : Pinned := { name := "ytodbafiepdcfbaa", sum := "d6e1849a60f39dce61cdc7de528c31c6832a96ad97d04209261a79b7d68c444b", checked := Try.checked }
namespace Rows
def none {H : Type} : Left H := { results := [], args := [] }

/-- 'payrolllaw12.OvertimeTotals': WHATEVER THE INPUT: true; the input reads as it did. -/
def overtimeTotalsSpec : ChangeSpec := { name := "overtimeTotals", fn := fun _ => fun
  | [d1, d2, d3] => { results := [.lit (.bool true)], args := [d1, d2, d3] }
  | _ => none }
def overtimeTotalsRow : OpenClaim := { program := "ytodbafiepdcfbaa", sum := "d6e1849a60f39dce61cdc7de528c31c6832a96ad97d04209261a79b7d68c444b", func := "payroll/payrolllaw12.OvertimeTotals", spec := "overtimeTotals", unfollowed := true, recurses := true, plainKeys := false, apart := false }
def OvertimeTotalsSaid : Prop := overtimeTotalsRow.holds Try.pinned (OpenSpec.ofChange overtimeTotalsSpec)

/-- ITS FALSE NEIGHBOUR: 'it returns false'. Refute it at one input. -/
def overtimeTotalsWrong : ChangeSpec := { name := "overtimeTotals", fn := fun _ => fun
  | [d1, d2, d3] => { results := [.lit (.bool false)], args := [d1, d2, d3] }
  | _ => none }
def OvertimeTotalsWrongFalsely : Prop := overtimeTotalsRow.holds Try.pinned (OpenSpec.ofChange overtimeTotalsWrong)

/-- 'payrolllaw12.OvertimeConserves': WHATEVER THE INPUT: true; the input reads as it did. -/
def overtimeConservesSpec : ChangeSpec := { name := "overtimeConserves", fn := fun _ => fun
  | [d1, d2] => { results := [.lit (.bool true)], args := [d1, d2] }
  | _ => none }
def overtimeConservesRow : OpenClaim := { program := "ytodbafiepdcfbaa", sum := "d6e1849a60f39dce61cdc7de528c31c6832a96ad97d04209261a79b7d68c444b", func := "payroll/payrolllaw12.OvertimeConserves", spec := "overtimeConserves", unfollowed := true, recurses := true, plainKeys := false, apart := false }
def OvertimeConservesSaid : Prop := overtimeConservesRow.holds Try.pinned (OpenSpec.ofChange overtimeConservesSpec)

/-- ITS FALSE NEIGHBOUR: 'it returns false'. Refute it at one input. -/
def overtimeConservesWrong : ChangeSpec := { name := "overtimeConserves", fn := fun _ => fun
  | [d1, d2] => { results := [.lit (.bool false)], args := [d1, d2] }
  | _ => none }
def OvertimeConservesWrongFalsely : Prop := overtimeConservesRow.holds Try.pinned (OpenSpec.ofChange overtimeConservesWrong)

/-- 'payrolllaw12.OvertimeOrderless': WHATEVER THE INPUT: true; the input reads as it did. -/
def overtimeOrderlessSpec : ChangeSpec := { name := "overtimeOrderless", fn := fun _ => fun
  | [d1, d2] => { results := [.lit (.bool true)], args := [d1, d2] }
  | _ => none }
def overtimeOrderlessRow : OpenClaim := { program := "ytodbafiepdcfbaa", sum := "d6e1849a60f39dce61cdc7de528c31c6832a96ad97d04209261a79b7d68c444b", func := "payroll/payrolllaw12.OvertimeOrderless", spec := "overtimeOrderless", unfollowed := true, recurses := true, plainKeys := false, apart := false }
def OvertimeOrderlessSaid : Prop := overtimeOrderlessRow.holds Try.pinned (OpenSpec.ofChange overtimeOrderlessSpec)

/-- ITS FALSE NEIGHBOUR: 'it returns false'. Refute it at one input. -/
def overtimeOrderlessWrong : ChangeSpec := { name := "overtimeOrderless", fn := fun _ => fun
  | [d1, d2] => { results := [.lit (.bool false)], args := [d1, d2] }
  | _ => none }
def OvertimeOrderlessWrongFalsely : Prop := overtimeOrderlessRow.holds Try.pinned (OpenSpec.ofChange overtimeOrderlessWrong)

/-- 'payrolllaw12.OvertimeBands': WHATEVER THE INPUT: true; the input reads as it did. -/
def overtimeBandsSpec : ChangeSpec := { name := "overtimeBands", fn := fun _ => fun
  | [d1, d2] => { results := [.lit (.bool true)], args := [d1, d2] }
  | _ => none }
def overtimeBandsRow : OpenClaim := { program := "ytodbafiepdcfbaa", sum := "d6e1849a60f39dce61cdc7de528c31c6832a96ad97d04209261a79b7d68c444b", func := "payroll/payrolllaw12.OvertimeBands", spec := "overtimeBands", unfollowed := true, recurses := true, plainKeys := false, apart := false }
def OvertimeBandsSaid : Prop := overtimeBandsRow.holds Try.pinned (OpenSpec.ofChange overtimeBandsSpec)

/-- ITS FALSE NEIGHBOUR: 'it returns false'. Refute it at one input. -/
def overtimeBandsWrong : ChangeSpec := { name := "overtimeBands", fn := fun _ => fun
  | [d1, d2] => { results := [.lit (.bool false)], args := [d1, d2] }
  | _ => none }
def OvertimeBandsWrongFalsely : Prop := overtimeBandsRow.holds Try.pinned (OpenSpec.ofChange overtimeBandsWrong)

/-- 'payrolllaw8.InboxMerges': WHATEVER THE INPUT: true; the input reads as it did. -/
def inboxMergesSpec : ChangeSpec := { name := "inboxMerges", fn := fun _ => fun
  | [d1, d2, d3] => { results := [.lit (.bool true)], args := [d1, d2, d3] }
  | _ => none }
def inboxMergesRow : OpenClaim := { program := "ytodbafiepdcfbaa", sum := "d6e1849a60f39dce61cdc7de528c31c6832a96ad97d04209261a79b7d68c444b", func := "payroll/payrolllaw8.InboxMerges", spec := "inboxMerges", unfollowed := true, recurses := true, plainKeys := false, apart := false }
def InboxMergesSaid : Prop := inboxMergesRow.holds Try.pinned (OpenSpec.ofChange inboxMergesSpec)

/-- ITS FALSE NEIGHBOUR: 'it returns false'. Refute it at one input. -/
def inboxMergesWrong : ChangeSpec := { name := "inboxMerges", fn := fun _ => fun
  | [d1, d2, d3] => { results := [.lit (.bool false)], args := [d1, d2, d3] }
  | _ => none }
def InboxMergesWrongFalsely : Prop := inboxMergesRow.holds Try.pinned (OpenSpec.ofChange inboxMergesWrong)

/-- 'payrolllaw8.InboxReads': WHATEVER THE INPUT: true; the input reads as it did. -/
def inboxReadsSpec : ChangeSpec := { name := "inboxReads", fn := fun _ => fun
  | [d1, d2, d3] => { results := [.lit (.bool true)], args := [d1, d2, d3] }
  | _ => none }
def inboxReadsRow : OpenClaim := { program := "ytodbafiepdcfbaa", sum := "d6e1849a60f39dce61cdc7de528c31c6832a96ad97d04209261a79b7d68c444b", func := "payroll/payrolllaw8.InboxReads", spec := "inboxReads", unfollowed := true, recurses := true, plainKeys := false, apart := false }
def InboxReadsSaid : Prop := inboxReadsRow.holds Try.pinned (OpenSpec.ofChange inboxReadsSpec)

/-- ITS FALSE NEIGHBOUR: 'it returns false'. Refute it at one input. -/
def inboxReadsWrong : ChangeSpec := { name := "inboxReads", fn := fun _ => fun
  | [d1, d2, d3] => { results := [.lit (.bool false)], args := [d1, d2, d3] }
  | _ => none }
def InboxReadsWrongFalsely : Prop := inboxReadsRow.holds Try.pinned (OpenSpec.ofChange inboxReadsWrong)

/-- 'payrolllaw8.InboxOrderless': WHATEVER THE INPUT: true; the input reads as it did. -/
def inboxOrderlessSpec : ChangeSpec := { name := "inboxOrderless", fn := fun _ => fun
  | [d1, d2] => { results := [.lit (.bool true)], args := [d1, d2] }
  | _ => none }
def inboxOrderlessRow : OpenClaim := { program := "ytodbafiepdcfbaa", sum := "d6e1849a60f39dce61cdc7de528c31c6832a96ad97d04209261a79b7d68c444b", func := "payroll/payrolllaw8.InboxOrderless", spec := "inboxOrderless", unfollowed := true, recurses := true, plainKeys := false, apart := false }
def InboxOrderlessSaid : Prop := inboxOrderlessRow.holds Try.pinned (OpenSpec.ofChange inboxOrderlessSpec)

/-- ITS FALSE NEIGHBOUR: 'it returns false'. Refute it at one input. -/
def inboxOrderlessWrong : ChangeSpec := { name := "inboxOrderless", fn := fun _ => fun
  | [d1, d2] => { results := [.lit (.bool false)], args := [d1, d2] }
  | _ => none }
def InboxOrderlessWrongFalsely : Prop := inboxOrderlessRow.holds Try.pinned (OpenSpec.ofChange inboxOrderlessWrong)

/-- 'payrolllaw8.InboxCancels': WHATEVER THE INPUT: true; the input reads as it did. -/
def inboxCancelsSpec : ChangeSpec := { name := "inboxCancels", fn := fun _ => fun
  | [d1, d2] => { results := [.lit (.bool true)], args := [d1, d2] }
  | _ => none }
def inboxCancelsRow : OpenClaim := { program := "ytodbafiepdcfbaa", sum := "d6e1849a60f39dce61cdc7de528c31c6832a96ad97d04209261a79b7d68c444b", func := "payroll/payrolllaw8.InboxCancels", spec := "inboxCancels", unfollowed := true, recurses := true, plainKeys := false, apart := false }
def InboxCancelsSaid : Prop := inboxCancelsRow.holds Try.pinned (OpenSpec.ofChange inboxCancelsSpec)

/-- ITS FALSE NEIGHBOUR: 'it returns false'. Refute it at one input. -/
def inboxCancelsWrong : ChangeSpec := { name := "inboxCancels", fn := fun _ => fun
  | [d1, d2] => { results := [.lit (.bool false)], args := [d1, d2] }
  | _ => none }
def InboxCancelsWrongFalsely : Prop := inboxCancelsRow.holds Try.pinned (OpenSpec.ofChange inboxCancelsWrong)

/-- 'payrolllaw8.InboxStamps': WHATEVER THE INPUT: true; the input reads as it did. -/
def inboxStampsSpec : ChangeSpec := { name := "inboxStamps", fn := fun _ => fun
  | [d] => { results := [.lit (.bool true)], args := [d] }
  | _ => none }
def inboxStampsRow : OpenClaim := { program := "ytodbafiepdcfbaa", sum := "d6e1849a60f39dce61cdc7de528c31c6832a96ad97d04209261a79b7d68c444b", func := "payroll/payrolllaw8.InboxStamps", spec := "inboxStamps", unfollowed := true, recurses := true, plainKeys := false, apart := false }
def InboxStampsSaid : Prop := inboxStampsRow.holds Try.pinned (OpenSpec.ofChange inboxStampsSpec)

/-- ITS FALSE NEIGHBOUR: 'it returns false'. Refute it at one input. -/
def inboxStampsWrong : ChangeSpec := { name := "inboxStamps", fn := fun _ => fun
  | [d] => { results := [.lit (.bool false)], args := [d] }
  | _ => none }
def InboxStampsWrongFalsely : Prop := inboxStampsRow.holds Try.pinned (OpenSpec.ofChange inboxStampsWrong)

/- THE SECOND FORM. 'bulk': how many values and letters a reading holds, each counted each time it is reached (what is shared counts as often as it is met; a slice's spare places count too). A statement '..UptoSaid' is the law's where the arguments, and the package variables that the reading takes, are together of bulk at most 1048576: NARROWER than '..Said'. Prove '..Said' where nothing that the law and all that it calls make is longer than what came in: it says more and counts as full. Else prove '..UptoSaid'. A law counts once. -/
mutual
def uptoBulk {H : Type} : DataW H → Nat
  | .lit (.string bytes) => bytes.length + 1
  | .lit _ => 1
  | .nil => 1
  | .ptr d => uptoBulk d + 1
  | .slice elems spare => uptoBulkAll elems + uptoBulkAll spare + 1
  | .agg parts => uptoBulkAll parts + 1
  | .iface _ d => uptoBulk d + 1
  | .map entries => uptoBulkEntries entries + 1
  | .held _ => 1
def uptoBulkAll {H : Type} : List (DataW H) → Nat
  | [] => 0
  | d :: r => uptoBulk d + uptoBulkAll r
def uptoBulkEntries {H : Type} : List (Lit × DataW H) → Nat
  | [] => 0
  | x :: r => uptoBulkEntry x + uptoBulkEntries r
def uptoBulkEntry {H : Type} : Lit × DataW H → Nat
  | (.string bytes, d) => bytes.length + uptoBulk d + 1
  | (_, d) => uptoBulk d + 1
 end
def uptoSmall : (H : Type) → List (DataW H) → Bool := fun _ ds => decide (uptoBulkAll ds ≤ 1048576)
def OpenSpec.upto (s : _root_.Go.ChangeSpec) : _root_.Go.OpenSpec := { _root_.Go.OpenSpec.ofChange s with cond := some uptoSmall }

/-- 'payrolllaw12.OvertimeTotals', WHERE WHAT IT READS IS OF BULK AT MOST 1048576: true; the input reads as it did. -/
def overtimeTotalsUptoRow : OpenClaim := { program := "ytodbafiepdcfbaa", sum := "d6e1849a60f39dce61cdc7de528c31c6832a96ad97d04209261a79b7d68c444b", func := "payroll/payrolllaw12.OvertimeTotals", spec := "overtimeTotals", unfollowed := true, recurses := true, plainKeys := false, apart := false, narrowed := true }
def OvertimeTotalsUptoSaid : Prop := overtimeTotalsUptoRow.holds Try.pinned (OpenSpec.upto overtimeTotalsSpec)

/-- 'payrolllaw12.OvertimeConserves', WHERE WHAT IT READS IS OF BULK AT MOST 1048576: true; the input reads as it did. -/
def overtimeConservesUptoRow : OpenClaim := { program := "ytodbafiepdcfbaa", sum := "d6e1849a60f39dce61cdc7de528c31c6832a96ad97d04209261a79b7d68c444b", func := "payroll/payrolllaw12.OvertimeConserves", spec := "overtimeConserves", unfollowed := true, recurses := true, plainKeys := false, apart := false, narrowed := true }
def OvertimeConservesUptoSaid : Prop := overtimeConservesUptoRow.holds Try.pinned (OpenSpec.upto overtimeConservesSpec)

/-- 'payrolllaw12.OvertimeOrderless', WHERE WHAT IT READS IS OF BULK AT MOST 1048576: true; the input reads as it did. -/
def overtimeOrderlessUptoRow : OpenClaim := { program := "ytodbafiepdcfbaa", sum := "d6e1849a60f39dce61cdc7de528c31c6832a96ad97d04209261a79b7d68c444b", func := "payroll/payrolllaw12.OvertimeOrderless", spec := "overtimeOrderless", unfollowed := true, recurses := true, plainKeys := false, apart := false, narrowed := true }
def OvertimeOrderlessUptoSaid : Prop := overtimeOrderlessUptoRow.holds Try.pinned (OpenSpec.upto overtimeOrderlessSpec)

/-- 'payrolllaw12.OvertimeBands', WHERE WHAT IT READS IS OF BULK AT MOST 1048576: true; the input reads as it did. -/
def overtimeBandsUptoRow : OpenClaim := { program := "ytodbafiepdcfbaa", sum := "d6e1849a60f39dce61cdc7de528c31c6832a96ad97d04209261a79b7d68c444b", func := "payroll/payrolllaw12.OvertimeBands", spec := "overtimeBands", unfollowed := true, recurses := true, plainKeys := false, apart := false, narrowed := true }
def OvertimeBandsUptoSaid : Prop := overtimeBandsUptoRow.holds Try.pinned (OpenSpec.upto overtimeBandsSpec)

/-- 'payrolllaw8.InboxMerges', WHERE WHAT IT READS IS OF BULK AT MOST 1048576: true; the input reads as it did. -/
def inboxMergesUptoRow : OpenClaim := { program := "ytodbafiepdcfbaa", sum := "d6e1849a60f39dce61cdc7de528c31c6832a96ad97d04209261a79b7d68c444b", func := "payroll/payrolllaw8.InboxMerges", spec := "inboxMerges", unfollowed := true, recurses := true, plainKeys := false, apart := false, narrowed := true }
def InboxMergesUptoSaid : Prop := inboxMergesUptoRow.holds Try.pinned (OpenSpec.upto inboxMergesSpec)

/-- 'payrolllaw8.InboxReads', WHERE WHAT IT READS IS OF BULK AT MOST 1048576: true; the input reads as it did. -/
def inboxReadsUptoRow : OpenClaim := { program := "ytodbafiepdcfbaa", sum := "d6e1849a60f39dce61cdc7de528c31c6832a96ad97d04209261a79b7d68c444b", func := "payroll/payrolllaw8.InboxReads", spec := "inboxReads", unfollowed := true, recurses := true, plainKeys := false, apart := false, narrowed := true }
def InboxReadsUptoSaid : Prop := inboxReadsUptoRow.holds Try.pinned (OpenSpec.upto inboxReadsSpec)

/-- 'payrolllaw8.InboxOrderless', WHERE WHAT IT READS IS OF BULK AT MOST 1048576: true; the input reads as it did. -/
def inboxOrderlessUptoRow : OpenClaim := { program := "ytodbafiepdcfbaa", sum := "d6e1849a60f39dce61cdc7de528c31c6832a96ad97d04209261a79b7d68c444b", func := "payroll/payrolllaw8.InboxOrderless", spec := "inboxOrderless", unfollowed := true, recurses := true, plainKeys := false, apart := false, narrowed := true }
def InboxOrderlessUptoSaid : Prop := inboxOrderlessUptoRow.holds Try.pinned (OpenSpec.upto inboxOrderlessSpec)

/-- 'payrolllaw8.InboxCancels', WHERE WHAT IT READS IS OF BULK AT MOST 1048576: true; the input reads as it did. -/
def inboxCancelsUptoRow : OpenClaim := { program := "ytodbafiepdcfbaa", sum := "d6e1849a60f39dce61cdc7de528c31c6832a96ad97d04209261a79b7d68c444b", func := "payroll/payrolllaw8.InboxCancels", spec := "inboxCancels", unfollowed := true, recurses := true, plainKeys := false, apart := false, narrowed := true }
def InboxCancelsUptoSaid : Prop := inboxCancelsUptoRow.holds Try.pinned (OpenSpec.upto inboxCancelsSpec)

/-- 'payrolllaw8.InboxStamps', WHERE WHAT IT READS IS OF BULK AT MOST 1048576: true; the input reads as it did. -/
def inboxStampsUptoRow : OpenClaim := { program := "ytodbafiepdcfbaa", sum := "d6e1849a60f39dce61cdc7de528c31c6832a96ad97d04209261a79b7d68c444b", func := "payroll/payrolllaw8.InboxStamps", spec := "inboxStamps", unfollowed := true, recurses := true, plainKeys := false, apart := false, narrowed := true }
def InboxStampsUptoSaid : Prop := inboxStampsUptoRow.holds Try.pinned (OpenSpec.upto inboxStampsSpec)

end Rows
end Go.Proofs.Ytodbafiepdcfbaa
