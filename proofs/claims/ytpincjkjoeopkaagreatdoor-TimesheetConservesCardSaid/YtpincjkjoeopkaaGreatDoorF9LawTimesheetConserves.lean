/- Proved: the tied card of the statement TimesheetConserves: whatever its arguments, it returns true, and leaves its arguments as they were; what its package-level variables hold is tied to the program's text. (The frame is the kit's way; the walk is ours.) -/
import Derived.Test.YtpincjkjoeopkaaGreatDoorRows
import Derived.Test.YtpincjkjoeopkaaGreatDoorTie
import Derived.Test.YtpincjkjoeopkaaGreatDoorCards
import Derived.WalkKit
import Derived.ProofKit
import Derived.OpenShut
import Derived.ShutString
import Derived.ChangeOld
import Derived.Below
import Derived.Lay
import Derived.LaidOnce
import Derived.SevenTiedAt
import Derived.Test.YtpincjkjoeopkaaGreatDoorC4
import Derived.Test.YtpincjkjoeopkaaGreatDoorC15
import Derived.Test.YtpincjkjoeopkaaGreatDoorF9CrdTimesheetConserves
import Derived.Test.YtpincjkjoeopkaaGreatDoorC32
set_option linter.all false
namespace Go.Proofs.YtpincjkjoeopkaaGreatDoor.timesheetConserves
open Go.ChangeShapes Go.WideShapes Go.ChangeAt Go.RowKit
open Go.Abs
set_option linter.unusedVariables false

theorem walk (v0 : Value) (w : World) (hG : GOk (ctx0 w)) (g0 : ∃ a, Rep (ctx0 w) a v0 ∧ GotV Tryz.prog 6 47 a) :
    Calls Tryz.prog 6 #[v0] w fun e w' => e = .returned (.bool true) ∧ Below w.heap.size w w' := by
  obtain ⟨b0, r0, q0⟩ := g0
  obtain ⟨l, rfl, hl⟩ := gotV_tape Tryz.underlying47 Tryz.underlying3 (by kernel_rfl) q0
  exact calls_of_afn ((YtpincjkjoeopkaaGreatDoor.timesheetConserves l hl).mono fun _ _ h => h.1) (repL_cons r0 repL_nil) hG
set_option maxRecDepth 100000 in
theorem lifted (os : Os) (started : os.Started) (H : Type) (enc : TypeId × Value → H) :
    ReturnsInHanded {} Tryz.checked os 6 .any (fun w args => (Rows.timesheetConservesSpec.pre enc Tryz.prog Tryz.f6 [] false w args ∧ laidMetH Tryz.prog Rows.timesheetConservesRow.laid w) ∧ sizedMet enc Tryz.prog Tryz.f6 (OpenSpec.ofChange Rows.timesheetConservesSpec) false w args)
      (Rows.timesheetConservesSpec.post enc Tryz.prog Tryz.f6 false true false false) := by
  refine returnsInHanded_of_change_and (C := Tryz.checked) (X := fun w _ => laidMetH Tryz.prog Rows.timesheetConservesRow.laid w) (fun _ _ _ hh h => h.of_heap hh) own started (by kernel_rfl) Tryz.func6
    (ChangeSpec.witness_shaped (enc := enc) (C := Tryz.checked) (os := os) (X := fun w _ => laidMetH Tryz.prog Rows.timesheetConservesRow.laid w) false (World.laidAll Tryz.prog os Rows.timesheetConservesRow.laid) #[.slice none 0 0] 8 (World.laidAll_os _ _ _)
      (World.shaped_of_ZipB (by kernel_rfl) (by kernel_rfl)) (by kernel_rfl) (by kernel_rfl) (by kernel_rfl)
      (by rw [MakeChecks.laidMetH_plain _ _ _ (by kernel_rfl)]; exact laidMet_laidAll _ (by kernel_rfl) (by kernel_rfl))) ?_
  intro W base args ds gs before hval0 hW _ _ hL _
  have hval : ∀ (j : Nat) t v, Tryz.f6.params[j]? = some t → args[j]? = some v → Value.okWide Tryz.prog W .any base t v := hval0
  have hW' := hW
  obtain ⟨p, q, hA0, hV, rfl, _, _⟩ := hW
  have hA : DataW.TrodAll enc Tryz.prog W 0 (fun _ => true) true Tryz.f6.params.toList args.toList ds p := hA0
  rw [Tryz.params6] at hA hval
  obtain ⟨v0, vs0, d0, ds0, p0, q0, hargs, rfl, rfl, h0, r0⟩ := trodAll_cons hA
  obtain ⟨rfl, rfl, rfl⟩ := trodAll_nil r0
  obtain rfl : args = #[v0] := by cases args; simp_all
  obtain ⟨rfl, rfl⟩ := trodVars_none hV
  have lt0 : ∀ x ∈ p0, x.block < W.heap.size := by obtain ⟨m, hm⟩ := h0; exact DataW.trod_lt m _ _ _ hm
  have g0 := gotV_of 6 (by kernel_rfl) (hval 0 47 v0 rfl rfl) h0
  rw [MakeChecks.laidMetH_plain _ _ _ (by kernel_rfl)] at hL
  refine (walk v0 W (gok_of_laid hL) g0).mono fun e W' ⟨he, bel⟩ => ?_
  subst he
  exact ⟨_, rfl, _, _, _, [], _, [], hW', trodAll_mk1 (shut_bool Tryz.underlying4 _), (trodAll_cons_mk (Below.trod laidOut (by kernel_rfl) (of_decide_eq_true (by kernel_rfl)) h0 bel lt0) trodAll_mk0), rfl, bel.frame _, fun h => by cases h⟩

theorem holds : Rows.timesheetConservesRow.holds Tryz.pinned (OpenSpec.ofChange Rows.timesheetConservesSpec) :=
  OpenClaim.holds_of_wide 6 Tryz.f6 rfl rfl rfl rfl rfl rfl rfl ⟨rfl, rfl, rfl, rfl, rfl⟩ rfl rfl rfl rfl rfl (by kernel_rfl) Tryz.func6 closed
    (of_decide_eq_true (by kernel_rfl)) (by unfold Func.isWrapper; first | (rw [if_pos (by decide +kernel)]; kernel_rfl) | (rw [if_neg (by decide +kernel)]; exact ⟨rfl, rfl⟩))
    (fun os started H enc _ => lifted os started H enc)
theorem proved : Rows.TimesheetConservesCardSaid :=
  Claim7.holds_tied_plain_at .later [] [.data] true (true, "f603385343447d29c6b751a650aa3563235bf28be586825b5426d30d427b7519") false holds (fun _ h => by cases h) wft (fun _ h => by cases h) timesheetConserves_row_tie rfl ⟨rfl, rfl⟩ (by kernel_rfl) rfl
    (fun f fn hf hfn => by
      obtain rfl : f = 6 := Option.some.inj ((show Tryz.prog.funcNamed _ = some 6 by kernel_rfl).symm.trans hf) |>.symm
      obtain rfl : fn = Tryz.f6 := (Option.some.inj (Tryz.func6.symm.trans hfn)).symm
      exact ⟨looks, fun j t ht => by
        rw [Tryz.params6] at ht
        have hm : t ∈ [47] := by simpa using Array.mem_of_getElem? ht
        have hall : ([47].all fun u => !Tryz.prog.wantsStandIn u) = true := by kernel_rfl
        exact (show Tryz.prog.wantsStandIn t = false by simpa using List.all_eq_true.1 hall t hm)⟩)
    goes
#print axioms proved
end Go.Proofs.YtpincjkjoeopkaaGreatDoor.timesheetConserves
