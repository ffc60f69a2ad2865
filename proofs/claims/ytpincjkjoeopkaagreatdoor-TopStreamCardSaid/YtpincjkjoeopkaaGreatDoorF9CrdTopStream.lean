/- The closed facts of the card of TopStream, each by itself. -/
import Derived.Test.YtpincjkjoeopkaaGreatDoorRows
import Derived.Test.YtpincjkjoeopkaaGreatDoorTie
import Derived.Test.YtpincjkjoeopkaaGreatDoorCards
import Derived.SevenTiedAt
import Derived.JoinedOf
import Derived.KernelRfl
set_option linter.unusedSimpArgs false
set_option linter.unusedVariables false
set_option linter.unusedSectionVars false
namespace Go.Proofs.YtpincjkjoeopkaaGreatDoor.topStream
set_option linter.unusedVariables false
set_option maxRecDepth 100000
theorem own : ownKnob Tryz.prog.godebug = none := by kernel_rfl
theorem laidOut : laidOutB Tryz.prog = true := by kernel_rfl
theorem c0 : (Rows.topStreamRow.wf (OpenSpec.ofChange Rows.topStreamSpec)) = true := by kernel_rfl
theorem c1 : (laidOutB Tryz.prog) = true := by kernel_rfl
theorem c2 : (mapsRowed Tryz.prog) = true := by kernel_rfl
theorem c3 : (Tryz.f8.params.all (Tryz.prog.readableRec ·)) = true := by kernel_rfl
theorem c4 : (namedTie Tryz.prog Rows.topStreamRow.named Rows.topStreamSpec.vars) = true := by kernel_rfl
theorem c5 : ((Rows.topStreamRow.stops == [])) = true := by kernel_rfl
theorem c6 : ((Tryz.prog.stops == [])) = true := by kernel_rfl
theorem c7 : ((Rows.topStreamRow.knobs == [])) = true := by kernel_rfl
theorem c8 : ((Tryz.prog.stopKnobs == [])) = true := by kernel_rfl
theorem c9 : ((Rows.topStreamRow.inPlace == Tryz.prog.inPlace 8)) = true := by kernel_rfl
theorem c10 : ((Rows.topStreamRow.unfollowed == Tryz.prog.unfollowed 8)) = true := by kernel_rfl
theorem c11 : ((Rows.topStreamRow.recurses == Tryz.prog.recurses 8)) = true := by kernel_rfl
theorem c12 : ((Rows.topStreamRow.named == Tryz.prog.varsNamed 8)) = true := by kernel_rfl
theorem c13 : ((Rows.topStreamRow.maps == (Tryz.f8.params.toList ++ Rows.topStreamSpec.plain.varTypes Tryz.prog).any (Tryz.prog.mapsRec ·))) = true := by kernel_rfl
theorem c14 : ((Rows.topStreamRow.ifaces == (Tryz.f8.params.toList ++ Rows.topStreamSpec.plain.varTypes Tryz.prog).any (Tryz.prog.ifacesRec ·))) = true := by kernel_rfl
theorem c15 : ((Rows.topStreamRow.mapsOut == Tryz.prog.mapsAmong Tryz.f8.resultTypes.toList)) = true := by kernel_rfl
theorem c16 : ((Rows.topStreamRow.loops == (Tryz.f8.params.toList ++ Rows.topStreamSpec.plain.varTypes Tryz.prog).any (Tryz.prog.loopsFrom ·))) = true := by kernel_rfl
theorem c17 : ((Rows.topStreamRow.wideKeys == (Tryz.f8.params.toList ++ Rows.topStreamSpec.plain.varTypes Tryz.prog ++ Tryz.f8.resultTypes.toList).any (Tryz.prog.wideKeysFrom ·))) = true := by kernel_rfl
theorem c18 : (Rows.topStreamSpec.vars.all (Tryz.prog.varReadable ·)) = true := by kernel_rfl
theorem c19 : (Tryz.f8.resultTypes.all (fun t => Tryz.prog.readableRec t && decide (t < Tryz.prog.types.size))) = true := by kernel_rfl
theorem c20 : ((Rows.topStreamRow.ifacesOut == Tryz.f8.resultTypes.toList.any (Tryz.prog.ifacesRec ·))) = true := by kernel_rfl
theorem c21 : ((Rows.topStreamRow.loopsOut == Tryz.f8.resultTypes.toList.any (Tryz.prog.loopsFrom ·))) = true := by kernel_rfl
theorem c22 : ((Rows.topStreamRow.plainKeys == Tryz.prog.plainKeys)) = true := by kernel_rfl
theorem c23 : (Rows.topStreamRow.shortTexts.isNone) = true := by kernel_rfl
theorem c24 : (Tryz.prog.stopsHeard) = true := by kernel_rfl
theorem c25 : (Tryz.prog.mayEnter) = true := by kernel_rfl
theorem c26 : ((Rows.topStreamRow.lifted == Tryz.prog.liftsFinal)) = true := by kernel_rfl
theorem c27 : ((Tryz.prog.make == some Rows.topStreamRow.make)) = true := by kernel_rfl
theorem c28 : ((Rows.topStreamRow.kinds == (if Rows.topStreamRow.domain.isEmpty then [] else Tryz.f8.params.toList.map fun t => match Tryz.prog.underlying t with | some (.int k) => some k | _ => none))) = true := by kernel_rfl
theorem c29 : ((Rows.topStreamRow.pinned == Rows.topStreamRow.pinnedBy)) = true := by kernel_rfl
theorem c30 : ((Rows.topStreamRow.veiled == (Tryz.f8.params.toList ++ Rows.topStreamSpec.plain.varTypes Tryz.prog ++ Tryz.f8.resultTypes.toList).any (Tryz.prog.veiledRec ·))) = true := by kernel_rfl
theorem c31 : (Rows.topStreamRow.veiledFits Tryz.prog Tryz.f8.params.toList (Tryz.f8.params.toList ++ Rows.topStreamSpec.plain.varTypes Tryz.prog ++ Tryz.f8.resultTypes.toList)) = true := by kernel_rfl
theorem and_t {a b : Bool} (h : a = true) (k : b = true) : (a && b) = true := by rw [h, k]; rfl
theorem closed : joinedFacts Tryz.prog 8 Tryz.f8 Rows.topStreamSpec Rows.topStreamRow = true := by
  unfold joinedFacts
  exact (and_t (and_t (and_t (and_t (and_t (and_t (and_t (and_t (and_t (and_t (and_t (and_t (and_t (and_t (and_t (and_t (and_t (and_t (and_t (and_t (and_t (and_t (and_t (and_t (and_t (and_t (and_t (and_t (and_t (and_t (and_t c0 c1) c2) c3) c4) c5) c6) c7) c8) c9) c10) c11) c12) c13) c14) c15) c16) c17) c18) c19) c20) c21) c22) c23) c24) c25) c26) c27) c28) c29) c30) c31)
theorem wft : Rows.topStreamRow.wfByText (OpenSpec.ofChange Rows.topStreamSpec) = true := by kernel_rfl
theorem goes : false = Rows.topStreamRow.goesBy Tryz.prog := by kernel_rfl
theorem looks : false = Tryz.prog.looks [] := by kernel_rfl
end Go.Proofs.YtpincjkjoeopkaaGreatDoor.topStream
