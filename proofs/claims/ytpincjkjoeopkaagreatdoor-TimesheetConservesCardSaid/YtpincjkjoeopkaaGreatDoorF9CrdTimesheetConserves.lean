/- The closed facts of the card of TimesheetConserves, each by itself. -/
import Derived.Test.YtpincjkjoeopkaaGreatDoorRows
import Derived.Test.YtpincjkjoeopkaaGreatDoorTie
import Derived.Test.YtpincjkjoeopkaaGreatDoorCards
import Derived.SevenTiedAt
import Derived.JoinedOf
import Derived.KernelRfl
set_option linter.all false
namespace Go.Proofs.YtpincjkjoeopkaaGreatDoor.timesheetConserves
set_option linter.unusedVariables false
set_option maxRecDepth 100000
theorem own : ownKnob Tryz.prog.godebug = none := by kernel_rfl
theorem laidOut : laidOutB Tryz.prog = true := by kernel_rfl
theorem c0 : (Rows.timesheetConservesRow.wf (OpenSpec.ofChange Rows.timesheetConservesSpec)) = true := by kernel_rfl
theorem c1 : (laidOutB Tryz.prog) = true := by kernel_rfl
theorem c2 : (mapsRowed Tryz.prog) = true := by kernel_rfl
theorem c3 : (Tryz.f6.params.all (Tryz.prog.readableRec ·)) = true := by kernel_rfl
theorem c4 : (namedTie Tryz.prog Rows.timesheetConservesRow.named Rows.timesheetConservesSpec.vars) = true := by kernel_rfl
theorem c5 : ((Rows.timesheetConservesRow.stops == [])) = true := by kernel_rfl
theorem c6 : ((Tryz.prog.stops == [])) = true := by kernel_rfl
theorem c7 : ((Rows.timesheetConservesRow.knobs == [])) = true := by kernel_rfl
theorem c8 : ((Tryz.prog.stopKnobs == [])) = true := by kernel_rfl
theorem c9 : ((Rows.timesheetConservesRow.inPlace == Tryz.prog.inPlace 6)) = true := by kernel_rfl
theorem c10 : ((Rows.timesheetConservesRow.unfollowed == Tryz.prog.unfollowed 6)) = true := by kernel_rfl
theorem c11 : ((Rows.timesheetConservesRow.recurses == Tryz.prog.recurses 6)) = true := by kernel_rfl
theorem c12 : ((Rows.timesheetConservesRow.named == Tryz.prog.varsNamed 6)) = true := by kernel_rfl
theorem c13 : ((Rows.timesheetConservesRow.maps == (Tryz.f6.params.toList ++ Rows.timesheetConservesSpec.plain.varTypes Tryz.prog).any (Tryz.prog.mapsRec ·))) = true := by kernel_rfl
theorem c14 : ((Rows.timesheetConservesRow.ifaces == (Tryz.f6.params.toList ++ Rows.timesheetConservesSpec.plain.varTypes Tryz.prog).any (Tryz.prog.ifacesRec ·))) = true := by kernel_rfl
theorem c15 : ((Rows.timesheetConservesRow.mapsOut == Tryz.prog.mapsAmong Tryz.f6.resultTypes.toList)) = true := by kernel_rfl
theorem c16 : ((Rows.timesheetConservesRow.loops == (Tryz.f6.params.toList ++ Rows.timesheetConservesSpec.plain.varTypes Tryz.prog).any (Tryz.prog.loopsFrom ·))) = true := by kernel_rfl
theorem c17 : ((Rows.timesheetConservesRow.wideKeys == (Tryz.f6.params.toList ++ Rows.timesheetConservesSpec.plain.varTypes Tryz.prog ++ Tryz.f6.resultTypes.toList).any (Tryz.prog.wideKeysFrom ·))) = true := by kernel_rfl
theorem c18 : (Rows.timesheetConservesSpec.vars.all (Tryz.prog.varReadable ·)) = true := by kernel_rfl
theorem c19 : (Tryz.f6.resultTypes.all (fun t => Tryz.prog.readableRec t && decide (t < Tryz.prog.types.size))) = true := by kernel_rfl
theorem c20 : ((Rows.timesheetConservesRow.ifacesOut == Tryz.f6.resultTypes.toList.any (Tryz.prog.ifacesRec ·))) = true := by kernel_rfl
theorem c21 : ((Rows.timesheetConservesRow.loopsOut == Tryz.f6.resultTypes.toList.any (Tryz.prog.loopsFrom ·))) = true := by kernel_rfl
theorem c22 : ((Rows.timesheetConservesRow.plainKeys == Tryz.prog.plainKeys)) = true := by kernel_rfl
theorem c23 : (Rows.timesheetConservesRow.shortTexts.isNone) = true := by kernel_rfl
theorem c24 : (Tryz.prog.stopsHeard) = true := by kernel_rfl
theorem c25 : (Tryz.prog.mayEnter) = true := by kernel_rfl
theorem c26 : ((Rows.timesheetConservesRow.lifted == Tryz.prog.liftsFinal)) = true := by kernel_rfl
theorem c27 : ((Tryz.prog.make == some Rows.timesheetConservesRow.make)) = true := by kernel_rfl
theorem c28 : ((Rows.timesheetConservesRow.kinds == (if Rows.timesheetConservesRow.domain.isEmpty then [] else Tryz.f6.params.toList.map fun t => match Tryz.prog.underlying t with | some (.int k) => some k | _ => none))) = true := by kernel_rfl
theorem c29 : ((Rows.timesheetConservesRow.pinned == Rows.timesheetConservesRow.pinnedBy)) = true := by kernel_rfl
theorem c30 : ((Rows.timesheetConservesRow.veiled == (Tryz.f6.params.toList ++ Rows.timesheetConservesSpec.plain.varTypes Tryz.prog ++ Tryz.f6.resultTypes.toList).any (Tryz.prog.veiledRec ·))) = true := by kernel_rfl
theorem c31 : (Rows.timesheetConservesRow.veiledFits Tryz.prog Tryz.f6.params.toList (Tryz.f6.params.toList ++ Rows.timesheetConservesSpec.plain.varTypes Tryz.prog ++ Tryz.f6.resultTypes.toList)) = true := by kernel_rfl
theorem and_t {a b : Bool} (h : a = true) (k : b = true) : (a && b) = true := by rw [h, k]; rfl
theorem closed : joinedFacts Tryz.prog 6 Tryz.f6 Rows.timesheetConservesSpec Rows.timesheetConservesRow = true := by
  unfold joinedFacts
  exact (and_t (and_t (and_t (and_t (and_t (and_t (and_t (and_t (and_t (and_t (and_t (and_t (and_t (and_t (and_t (and_t (and_t (and_t (and_t (and_t (and_t (and_t (and_t (and_t (and_t (and_t (and_t (and_t (and_t (and_t (and_t c0 c1) c2) c3) c4) c5) c6) c7) c8) c9) c10) c11) c12) c13) c14) c15) c16) c17) c18) c19) c20) c21) c22) c23) c24) c25) c26) c27) c28) c29) c30) c31)
theorem wft : Rows.timesheetConservesRow.wfByText (OpenSpec.ofChange Rows.timesheetConservesSpec) = true := by kernel_rfl
theorem goes : false = Rows.timesheetConservesRow.goesBy Tryz.prog := by kernel_rfl
theorem looks : false = Tryz.prog.looks [] := by kernel_rfl
end Go.Proofs.YtpincjkjoeopkaaGreatDoor.timesheetConserves
