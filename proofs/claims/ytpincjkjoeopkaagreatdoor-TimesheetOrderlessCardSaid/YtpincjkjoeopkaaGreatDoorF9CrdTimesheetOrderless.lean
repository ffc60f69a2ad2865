/- The closed facts of the card of TimesheetOrderless, each by itself. -/
import Derived.Test.YtpincjkjoeopkaaGreatDoorRows
import Derived.Test.YtpincjkjoeopkaaGreatDoorTie
import Derived.Test.YtpincjkjoeopkaaGreatDoorCards
import Derived.SevenTiedAt
import Derived.JoinedOf
import Derived.KernelRfl
set_option linter.unusedSimpArgs false
set_option linter.unusedVariables false
set_option linter.unusedSectionVars false
namespace Go.Proofs.YtpincjkjoeopkaaGreatDoor.timesheetOrderless
set_option linter.unusedVariables false
set_option maxRecDepth 100000
theorem own : ownKnob Tryz.prog.godebug = none := by kernel_rfl
theorem laidOut : laidOutB Tryz.prog = true := by kernel_rfl
theorem c0 : (Rows.timesheetOrderlessRow.wf (OpenSpec.ofChange Rows.timesheetOrderlessSpec)) = true := by kernel_rfl
theorem c1 : (laidOutB Tryz.prog) = true := by kernel_rfl
theorem c2 : (mapsRowed Tryz.prog) = true := by kernel_rfl
theorem c3 : (Tryz.f7.params.all (Tryz.prog.readableRec ·)) = true := by kernel_rfl
theorem c4 : (namedTie Tryz.prog Rows.timesheetOrderlessRow.named Rows.timesheetOrderlessSpec.vars) = true := by kernel_rfl
theorem c5 : ((Rows.timesheetOrderlessRow.stops == [])) = true := by kernel_rfl
theorem c6 : ((Tryz.prog.stops == [])) = true := by kernel_rfl
theorem c7 : ((Rows.timesheetOrderlessRow.knobs == [])) = true := by kernel_rfl
theorem c8 : ((Tryz.prog.stopKnobs == [])) = true := by kernel_rfl
theorem c9 : ((Rows.timesheetOrderlessRow.inPlace == Tryz.prog.inPlace 7)) = true := by kernel_rfl
theorem c10 : ((Rows.timesheetOrderlessRow.unfollowed == Tryz.prog.unfollowed 7)) = true := by kernel_rfl
theorem c11 : ((Rows.timesheetOrderlessRow.recurses == Tryz.prog.recurses 7)) = true := by kernel_rfl
theorem c12 : ((Rows.timesheetOrderlessRow.named == Tryz.prog.varsNamed 7)) = true := by kernel_rfl
theorem c13 : ((Rows.timesheetOrderlessRow.maps == (Tryz.f7.params.toList ++ Rows.timesheetOrderlessSpec.plain.varTypes Tryz.prog).any (Tryz.prog.mapsRec ·))) = true := by kernel_rfl
theorem c14 : ((Rows.timesheetOrderlessRow.ifaces == (Tryz.f7.params.toList ++ Rows.timesheetOrderlessSpec.plain.varTypes Tryz.prog).any (Tryz.prog.ifacesRec ·))) = true := by kernel_rfl
theorem c15 : ((Rows.timesheetOrderlessRow.mapsOut == Tryz.prog.mapsAmong Tryz.f7.resultTypes.toList)) = true := by kernel_rfl
theorem c16 : ((Rows.timesheetOrderlessRow.loops == (Tryz.f7.params.toList ++ Rows.timesheetOrderlessSpec.plain.varTypes Tryz.prog).any (Tryz.prog.loopsFrom ·))) = true := by kernel_rfl
theorem c17 : ((Rows.timesheetOrderlessRow.wideKeys == (Tryz.f7.params.toList ++ Rows.timesheetOrderlessSpec.plain.varTypes Tryz.prog ++ Tryz.f7.resultTypes.toList).any (Tryz.prog.wideKeysFrom ·))) = true := by kernel_rfl
theorem c18 : (Rows.timesheetOrderlessSpec.vars.all (Tryz.prog.varReadable ·)) = true := by kernel_rfl
theorem c19 : (Tryz.f7.resultTypes.all (fun t => Tryz.prog.readableRec t && decide (t < Tryz.prog.types.size))) = true := by kernel_rfl
theorem c20 : ((Rows.timesheetOrderlessRow.ifacesOut == Tryz.f7.resultTypes.toList.any (Tryz.prog.ifacesRec ·))) = true := by kernel_rfl
theorem c21 : ((Rows.timesheetOrderlessRow.loopsOut == Tryz.f7.resultTypes.toList.any (Tryz.prog.loopsFrom ·))) = true := by kernel_rfl
theorem c22 : ((Rows.timesheetOrderlessRow.plainKeys == Tryz.prog.plainKeys)) = true := by kernel_rfl
theorem c23 : (Rows.timesheetOrderlessRow.shortTexts.isNone) = true := by kernel_rfl
theorem c24 : (Tryz.prog.stopsHeard) = true := by kernel_rfl
theorem c25 : (Tryz.prog.mayEnter) = true := by kernel_rfl
theorem c26 : ((Rows.timesheetOrderlessRow.lifted == Tryz.prog.liftsFinal)) = true := by kernel_rfl
theorem c27 : ((Tryz.prog.make == some Rows.timesheetOrderlessRow.make)) = true := by kernel_rfl
theorem c28 : ((Rows.timesheetOrderlessRow.kinds == (if Rows.timesheetOrderlessRow.domain.isEmpty then [] else Tryz.f7.params.toList.map fun t => match Tryz.prog.underlying t with | some (.int k) => some k | _ => none))) = true := by kernel_rfl
theorem c29 : ((Rows.timesheetOrderlessRow.pinned == Rows.timesheetOrderlessRow.pinnedBy)) = true := by kernel_rfl
theorem c30 : ((Rows.timesheetOrderlessRow.veiled == (Tryz.f7.params.toList ++ Rows.timesheetOrderlessSpec.plain.varTypes Tryz.prog ++ Tryz.f7.resultTypes.toList).any (Tryz.prog.veiledRec ·))) = true := by kernel_rfl
theorem c31 : (Rows.timesheetOrderlessRow.veiledFits Tryz.prog Tryz.f7.params.toList (Tryz.f7.params.toList ++ Rows.timesheetOrderlessSpec.plain.varTypes Tryz.prog ++ Tryz.f7.resultTypes.toList)) = true := by kernel_rfl
theorem and_t {a b : Bool} (h : a = true) (k : b = true) : (a && b) = true := by rw [h, k]; rfl
theorem closed : joinedFacts Tryz.prog 7 Tryz.f7 Rows.timesheetOrderlessSpec Rows.timesheetOrderlessRow = true := by
  unfold joinedFacts
  exact (and_t (and_t (and_t (and_t (and_t (and_t (and_t (and_t (and_t (and_t (and_t (and_t (and_t (and_t (and_t (and_t (and_t (and_t (and_t (and_t (and_t (and_t (and_t (and_t (and_t (and_t (and_t (and_t (and_t (and_t (and_t c0 c1) c2) c3) c4) c5) c6) c7) c8) c9) c10) c11) c12) c13) c14) c15) c16) c17) c18) c19) c20) c21) c22) c23) c24) c25) c26) c27) c28) c29) c30) c31)
theorem wft : Rows.timesheetOrderlessRow.wfByText (OpenSpec.ofChange Rows.timesheetOrderlessSpec) = true := by kernel_rfl
theorem goes : false = Rows.timesheetOrderlessRow.goesBy Tryz.prog := by kernel_rfl
theorem looks : false = Tryz.prog.looks [] := by kernel_rfl
end Go.Proofs.YtpincjkjoeopkaaGreatDoor.timesheetOrderless
