/- The tape of choices: Mod, New, Next, Pick. -/
import Derived.Test.YtpincjkjoeopkaaGreatDoorF3Gen
import Derived.Test.YtpincjkjoeopkaaGreatDoorAbsMg
set_option linter.unusedSimpArgs false
set_option linter.unusedVariables false
set_option linter.unusedSectionVars false
namespace Go.Proofs.YtpincjkjoeopkaaGreatDoor
open Go Go.Abs
set_option linter.unusedSimpArgs false

theorem mod_ok (v n : Int) (hn : 0 < n) (hn' : n ≤ 9223372036854775807) : AFn Tryz.prog 10 [.int .i64 v, .int .i64 n] [] (fun r rows => r = .int .i64 (mod v n) ∧ rows = []) := by
  refine afn Tryz.func10 a10_ok (by simp [a10, s10]) ?_
  simp only [go_sem,a10,s10]
  refine ⟨by omega, ?_⟩
  have h1 := Int.tmod_lt_of_pos v hn
  refine condC_intro ?_ ?_ <;> intro hg <;> simp only [go_sem,a10,s10] <;> refine Cl.fin rfl ⟨?_,rfl⟩ <;> simp only [decide_eq_true_eq,decide_eq_false_iff_not] at hg
  · have h2 : -n < v.tmod n := by
      have := Int.lt_tmod_of_pos v hn
      omega
    rw [wrap_i64 (by omega) (by omega), mod, if_pos hg]
  · rw [mod, if_neg hg]

theorem mod_bd {v n : Int} (hn : 0 < n) : 0 ≤ mod v n ∧ mod v n < n := by
  have h1 := Int.tmod_lt_of_pos v hn
  have h2 : -n < v.tmod n := by have := Int.lt_tmod_of_pos v hn; omega
  unfold mod
  split <;> omega

end Go.Proofs.YtpincjkjoeopkaaGreatDoor
