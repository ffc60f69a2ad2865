/- CalendarEaster: the walk. -/
import Derived.Test.YtlanehcihoiglaaGreatDoorE3Day2
set_option linter.unusedSimpArgs false
set_option linter.unusedVariables false
set_option linter.unusedSectionVars false
namespace Go.Proofs.YtlanehcihoiglaaGreatDoor
open Go Go.Abs
set_option linter.unusedSimpArgs false

theorem mod_ok (v n : Int) (hn : 0 < n) (hn' : n ≤ 9223372036854775807) : AFn Tryz.prog 31 [.int .i64 v, .int .i64 n] [] (fun r rows => r = .int .i64 (mod v n) ∧ rows = []) := by
  refine afn Tryz.func31 a31_ok (by simp [a31]) ?_
  simp only [go_sem,a31,a31r0,a31r1,a31r2,a31r3,a31r4]
  refine ⟨by omega, ?_⟩
  have h1 := Int.tmod_lt_of_pos v hn
  refine condC_intro ?_ ?_ <;> intro hg <;> simp only [go_sem,a31,a31r0,a31r1,a31r2,a31r3,a31r4] <;> refine Cl.fin rfl ⟨?_,rfl⟩ <;> simp only [decide_eq_true_eq,decide_eq_false_iff_not] at hg
  · have h2 : -n < v.tmod n := by
      have := Int.lt_tmod_of_pos v hn
      omega
    rw [wrap_i64 (by omega) (by omega), mod, if_pos hg]
  · rw [mod, if_neg hg]

def easP (y : Int) : Int × Bool := dayP y (eaN y / 31) (eaN y % 31 + 1)
def easChk (y : Int) : Bool := (easP y).2 && wkdP (easP y).1 == 6 && decide ((dayP y 3 22).1 ≤ (easP y).1) && decide ((easP y).1 ≤ (dayP y 4 25).1)
theorem eas_all : (List.range 230).all (fun k => easChk (1970 + k)) = true := by kernel_rfl
theorem eas_ok {y : Int} (h0 : 1970 ≤ y) (h1 : y ≤ 2199) : (easP y).2 = true ∧ wkdP (easP y).1 = 6 ∧ (dayP y 3 22).1 ≤ (easP y).1 ∧ (easP y).1 ≤ (dayP y 4 25).1 := by
  have h := List.all_eq_true.1 eas_all (y - 1970).toNat (List.mem_range.2 (by omega))
  rw [show (1970 : Int) + ((y - 1970).toNat : Nat) = y from by omega] at h
  simpa [easChk, and_assoc] using h

end Go.Proofs.YtlanehcihoiglaaGreatDoor
