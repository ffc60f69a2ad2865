/-
  DERIVED. GIVEN WITH THE SEED: THE CARDS: each row of YtlanehcihoiglaaDoorRows.lean that lists a variable, with what it lists TIED to the program's text (the seventh form; the later family's looks); each row that meets fmt, with fmt's text TOLD by the authors' own Lean function (tested against real Go, not proved from fmt's source: count such statements apart). THE CARD IS WHAT COUNTS. Prove the row's statement (the work); the ties are given (YtlanehcihoiglaaDoorTie.lean); close each card by the builder's one call (the guide's Derived/Test/ToyasCard.lean, 'card_holds'). Laid BY PROGRAM, IN A SANDBOX (cutbox-door.mjs). By AI agents, Wed Nov 11 2026. No macro, syntax, notation, axiom, sorry.
-/
import Derived.Test.YtlanehcihoiglaaDoorRows
import GoSem.ClaimSeven
namespace Go.Proofs.YtlanehcihoiglaaDoor
namespace Rows

/-- THE TIED CARD OF 'payrolllaw5.PeriodSpans'. -/
def periodSpansCard : Claim7 := { stood := { row := periodSpansRow, standIns := [], harness := (true, "5dee9743530f6054f733de8a8d143b7d50e2eb6dc81b04fa4737c2489f4302b0"), looks := false }, kinds := [], alts := [], laidByText := true, laidKinds := [.data], laidTests := true, laidLooks := .later }
def PeriodSpansCardSaid : Prop := Claim7.holds Tryd.pinned (.plain (OpenSpec.ofChange periodSpansSpec)) periodSpansCard

/-- THE TIED CARD OF 'payrolllaw5.PeriodPartition'. -/
def periodPartitionCard : Claim7 := { stood := { row := periodPartitionRow, standIns := [], harness := (true, "5dee9743530f6054f733de8a8d143b7d50e2eb6dc81b04fa4737c2489f4302b0"), looks := false }, kinds := [], alts := [], laidByText := true, laidKinds := [.data], laidTests := true, laidLooks := .later }
def PeriodPartitionCardSaid : Prop := Claim7.holds Tryd.pinned (.plain (OpenSpec.ofChange periodPartitionSpec)) periodPartitionCard

/-- THE TIED CARD OF 'payrolllaw5.PeriodAddsUp'. -/
def periodAddsUpCard : Claim7 := { stood := { row := periodAddsUpRow, standIns := [], harness := (true, "5dee9743530f6054f733de8a8d143b7d50e2eb6dc81b04fa4737c2489f4302b0"), looks := false }, kinds := [], alts := [], laidByText := true, laidKinds := [.data], laidTests := true, laidLooks := .later }
def PeriodAddsUpCardSaid : Prop := Claim7.holds Tryd.pinned (.plain (OpenSpec.ofChange periodAddsUpSpec)) periodAddsUpCard

/-- THE SECOND FORM's CARD OF 'payrolllaw5.PeriodSpans'. -/
def periodSpansUptoCard : Claim7 := { stood := { row := periodSpansUptoRow, standIns := [], harness := (true, "5dee9743530f6054f733de8a8d143b7d50e2eb6dc81b04fa4737c2489f4302b0"), looks := false }, kinds := [], alts := [], laidByText := true, laidKinds := [.data], laidTests := true, laidLooks := .later }
def PeriodSpansUptoCardSaid : Prop := Claim7.holds Tryd.pinned (.plain (OpenSpec.upto periodSpansSpec)) periodSpansUptoCard

/-- THE SECOND FORM's CARD OF 'payrolllaw5.PeriodPartition'. -/
def periodPartitionUptoCard : Claim7 := { stood := { row := periodPartitionUptoRow, standIns := [], harness := (true, "5dee9743530f6054f733de8a8d143b7d50e2eb6dc81b04fa4737c2489f4302b0"), looks := false }, kinds := [], alts := [], laidByText := true, laidKinds := [.data], laidTests := true, laidLooks := .later }
def PeriodPartitionUptoCardSaid : Prop := Claim7.holds Tryd.pinned (.plain (OpenSpec.upto periodPartitionSpec)) periodPartitionUptoCard

/-- THE SECOND FORM's CARD OF 'payrolllaw5.PeriodAddsUp'. -/
def periodAddsUpUptoCard : Claim7 := { stood := { row := periodAddsUpUptoRow, standIns := [], harness := (true, "5dee9743530f6054f733de8a8d143b7d50e2eb6dc81b04fa4737c2489f4302b0"), looks := false }, kinds := [], alts := [], laidByText := true, laidKinds := [.data], laidTests := true, laidLooks := .later }
def PeriodAddsUpUptoCardSaid : Prop := Claim7.holds Tryd.pinned (.plain (OpenSpec.upto periodAddsUpSpec)) periodAddsUpUptoCard
end Rows
end Go.Proofs.YtlanehcihoiglaaDoor
