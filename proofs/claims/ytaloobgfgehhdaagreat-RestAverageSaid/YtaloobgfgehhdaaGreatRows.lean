/-
  No cell of these rows narrows 'for every input' (looked for: loops, veiled, ifaces, maps, wideKeys, modest, calm, conditions, laid).
  DERIVED. THE GIVEN ROWS OF THIS SEAT. 2 by the template 'for every input the law returns true; each argument reads behind the call as it read before'; 0 by the template 'total and deterministic' (their statements: YtaloobgfgehhdaaGreatTotals.lean).
  GIVEN WITH THE SEED: the statements are not yours to turn. If you find one false, say at which input.
  Laid BY PROGRAM, IN A SANDBOX (cutbox-rows.mjs): the forced cells as the released guide's own fill.sh prints them over the translation 7ab895b3a84a542c… (all of the seat's roots in one cut). By AI agents, Wed Nov 11 2026. No macro, syntax, notation, axiom, sorry.
-/
import Derived.Test.YtaloobgfgehhdaaGreatChecked
import GoSem.Claim
import GoSem.ClaimJoined
import GoSem.ClaimMapViews
import Derived.JoinedTies
import Derived.KernelRfl
namespace Go.Proofs.YtaloobgfgehhdaaGreat
/- THE CELL 'sum', in the pinned program and in every row, IS THE sha256 OF THE DUMP (.gsa) THAT YtaloobgfgehhdaaGreatProg.lean LOADS. Nothing in Lean hashes anything: it is a label: what it is worth is what the hold of that sum in a sandbox is worth. -/
noncomputable def Tryz.pinned : Pinned := { name := "ytaloobgfgehhdaagreat", sum := "7ab895b3a84a542c951bfedff1c4c2c693c19e199b31116dccd6294f13da60bc", checked := Tryz.checked }
namespace Rows
def none {H : Type} : Left H := { results := [], args := [] }

/-- 'payrolllaw14.RestMonotone': WHATEVER THE INPUT: true; the input reads as it did. -/
def restMonotoneSpec : ChangeSpec := { name := "restMonotone", fn := fun _ => fun
  | [d1, d2] => { results := [.lit (.bool true)], args := [d1, d2] }
  | _ => none }
def restMonotoneRow : OpenClaim := { program := "ytaloobgfgehhdaagreat", sum := "7ab895b3a84a542c951bfedff1c4c2c693c19e199b31116dccd6294f13da60bc", func := "payroll/payrolllaw14.RestMonotone", spec := "restMonotone", unfollowed := true, recurses := true, apart := false }
def RestMonotoneSaid : Prop := restMonotoneRow.holds Tryz.pinned (OpenSpec.ofChange restMonotoneSpec)

/-- ITS FALSE NEIGHBOUR: 'it returns false'. Refute it at one input. -/
def restMonotoneWrong : ChangeSpec := { name := "restMonotone", fn := fun _ => fun
  | [d1, d2] => { results := [.lit (.bool false)], args := [d1, d2] }
  | _ => none }
def RestMonotoneWrongFalsely : Prop := restMonotoneRow.holds Tryz.pinned (OpenSpec.ofChange restMonotoneWrong)

/-- 'payrolllaw14.RestAverage': WHATEVER THE INPUT: true; the input reads as it did. -/
def restAverageSpec : ChangeSpec := { name := "restAverage", fn := fun _ => fun
  | [d1, d2] => { results := [.lit (.bool true)], args := [d1, d2] }
  | _ => none }
def restAverageRow : OpenClaim := { program := "ytaloobgfgehhdaagreat", sum := "7ab895b3a84a542c951bfedff1c4c2c693c19e199b31116dccd6294f13da60bc", func := "payroll/payrolllaw14.RestAverage", spec := "restAverage", unfollowed := true, recurses := true, apart := false }
def RestAverageSaid : Prop := restAverageRow.holds Tryz.pinned (OpenSpec.ofChange restAverageSpec)

/-- ITS FALSE NEIGHBOUR: 'it returns false'. Refute it at one input. -/
def restAverageWrong : ChangeSpec := { name := "restAverage", fn := fun _ => fun
  | [d1, d2] => { results := [.lit (.bool false)], args := [d1, d2] }
  | _ => none }
def RestAverageWrongFalsely : Prop := restAverageRow.holds Tryz.pinned (OpenSpec.ofChange restAverageWrong)

/- THE SECOND FORM. 'bulk': how many values and letters a reading holds, each counted each time it is reached (what is shared counts as often as it is met; a slice's spare places count too). A statement '..UptoSaid' is the law's where the arguments, and the package variables that the reading takes, are together of bulk at most 1048576: NARROWER than '..Said'. Prove '..Said' where nothing that the law and all that it calls make is longer than what came in: it says more and counts as full. Else prove '..UptoSaid'. A law counts once. -/
mutual
def uptoBulk {H : Type} : DataW H → Nat
  | .lit (.string bytes) => bytes.length + 1
  | .lit _ => 1
  | .nil => 1
  | .ptr d => uptoBulk d + 1
  | .slice elems spare => uptoBulkAll elems + uptoBulkAll spare + 1
  | .agg parts => uptoBulkAll parts + 1
  | .iface _ d => uptoBulk d + 1
  | .map entries => uptoBulkEntries entries + 1
  | .held _ => 1
def uptoBulkAll {H : Type} : List (DataW H) → Nat
  | [] => 0
  | d :: r => uptoBulk d + uptoBulkAll r
def uptoBulkEntries {H : Type} : List (Lit × DataW H) → Nat
  | [] => 0
  | x :: r => uptoBulkEntry x + uptoBulkEntries r
def uptoBulkEntry {H : Type} : Lit × DataW H → Nat
  | (.string bytes, d) => bytes.length + uptoBulk d + 1
  | (_, d) => uptoBulk d + 1
 end
def uptoSmall : (H : Type) → List (DataW H) → Bool := fun _ ds => decide (uptoBulkAll ds ≤ 1048576)
def OpenSpec.upto (s : _root_.Go.ChangeSpec) : _root_.Go.OpenSpec := { _root_.Go.OpenSpec.ofChange s with cond := some uptoSmall }

/-- 'payrolllaw14.RestMonotone', WHERE WHAT IT READS IS OF BULK AT MOST 1048576: true; the input reads as it did. -/
def restMonotoneUptoRow : OpenClaim := { program := "ytaloobgfgehhdaagreat", sum := "7ab895b3a84a542c951bfedff1c4c2c693c19e199b31116dccd6294f13da60bc", func := "payroll/payrolllaw14.RestMonotone", spec := "restMonotone", unfollowed := true, recurses := true, apart := false, narrowed := true }
def RestMonotoneUptoSaid : Prop := restMonotoneUptoRow.holds Tryz.pinned (OpenSpec.upto restMonotoneSpec)

/-- 'payrolllaw14.RestAverage', WHERE WHAT IT READS IS OF BULK AT MOST 1048576: true; the input reads as it did. -/
def restAverageUptoRow : OpenClaim := { program := "ytaloobgfgehhdaagreat", sum := "7ab895b3a84a542c951bfedff1c4c2c693c19e199b31116dccd6294f13da60bc", func := "payroll/payrolllaw14.RestAverage", spec := "restAverage", unfollowed := true, recurses := true, apart := false, narrowed := true }
def RestAverageUptoSaid : Prop := restAverageUptoRow.holds Tryz.pinned (OpenSpec.upto restAverageSpec)

end Rows
end Go.Proofs.YtaloobgfgehhdaaGreat
