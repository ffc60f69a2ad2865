/- The reference: Evaluate without events. -/
import Derived.Test.YtpincjkjoeopkaaGreatDoorF9Ref2
set_option linter.unusedSimpArgs false
set_option linter.unusedVariables false
set_option linter.unusedSectionVars false
namespace Go.Proofs.YtpincjkjoeopkaaGreatDoor
open Go Go.Abs
set_option linter.unusedSimpArgs false
set_option linter.unusedVariables false

/-- an anomaly -/
structure An where
  t : Int
  k : Int
instance : Cel An := ⟨fun a => [.int .i64 a.t, .int .i64 a.k], 2, fun _ => rfl, fun _ => rfl, fun _ => rfl⟩
instance : Flt An := ⟨fun _ => rfl⟩
/-- a result of a day -/
structure DR where
  day : Int
  ts : List Ti
  an : List An
instance : Cel DR := ⟨fun a => [.int .i64 a.day, .pure 2 (els a.ts), .pure 2 (els a.an)], 3, fun _ => rfl, fun a => by simp only [cleanL, clean, els_clean, Bool.and_self, Bool.and_true, Bool.true_and], fun _ => rfl⟩
theorem cel_dr (e : DR) : Cel.c e = [.int .i64 e.day, .pure 2 (els e.ts), .pure 2 (els e.an)] := rfl
theorem cel_dr_sz : Cel.sz DR = 3 := rfl
theorem cel_dr_take (e : DR) : List.take 3 (Cel.c e) = Cel.c e := rfl
attribute [go_sem] cel_dr_sz cel_dr_take

/-- the days of the absences, in order -/
def mrkL (l : List Ab) : List Int := l.foldl (fun S a => insM a.day S) []
theorem mrkL_take {l : List Ab} {i : Nat} (hi : i < l.length) : mrkL (l.take (i + 1)) = insM l[i].day (mrkL (l.take i)) := by
  unfold mrkL
  rw [List.take_succ_eq_append_getElem hi, List.foldl_append]; rfl
theorem mrkL_ok {l : List Ab} : ∀ {i : Nat}, i ≤ l.length → (mrkL (l.take i)).length ≤ i ∧ (mrkL (l.take i)).Pairwise (· < ·)
  | 0, _ => by simp [mrkL]
  | i + 1, h => by
    obtain ⟨h1, h2⟩ := mrkL_ok (l := l) (i := i) (by omega)
    rw [mrkL_take (by omega)]
    exact ⟨Nat.le_trans (insM_length _ _) (by omega), insM_sorted _ h2⟩
theorem mrkL_mem {l : List Ab} {d : Int} : d ∈ mrkL l ↔ ∃ a ∈ l, a.day = d := by
  have : ∀ (l : List Ab) (S : List Int), d ∈ l.foldl (fun S a => insM a.day S) S ↔ d ∈ S ∨ ∃ a ∈ l, a.day = d := by
    intro l
    induction l with
    | nil => simp
    | cons a l ih =>
      intro S
      rw [List.foldl_cons, ih, insM_mem]
      constructor
      · rintro ((h | h) | ⟨b, hb, h⟩)
        · exact .inr ⟨a, List.mem_cons_self, h.symm⟩
        · exact .inl h
        · exact .inr ⟨b, List.mem_cons_of_mem _ hb, h⟩
      · rintro (h | ⟨b, hb, h⟩)
        · exact .inl (.inr h)
        · rcases List.mem_cons.1 hb with rfl | hb
          · exact .inl (.inl h.symm)
          · exact .inr ⟨b, hb, h⟩
  simpa [mrkL] using this l []
/-- the results of the absences on a day -/
def dayR (pl : List Sf) (emp fr to : Int) (l : List Ab) (d : Int) : Option DR :=
  if fr ≤ d ∧ d ≤ to ∧ 0 < (posT (misS pl emp d l)).length then some ⟨d, posT (misS pl emp d l), []⟩ else none
def dayRs (pl : List Sf) (emp fr to : Int) (l : List Ab) (ds : List Int) : List DR := ds.filterMap (dayR pl emp fr to l)
/-- the error of an evaluation without events -/
def evE (l : List Ab) (fr to : Int) : Int := if 1024 < l.length then 3 else if fr < 0 ∨ 84005 < fr ∨ to < 0 ∨ 84005 < to then 2 else if to < fr then 1 else 0

end Go.Proofs.YtpincjkjoeopkaaGreatDoor
