/- The absences of a sheet: sums of minutes. -/
import Derived.Test.YtpincjkjoeopkaaGreatDoorF9Sht
set_option linter.unusedSimpArgs false
set_option linter.unusedVariables false
set_option linter.unusedSectionVars false
namespace Go.Proofs.YtpincjkjoeopkaaGreatDoor
open Go Go.Abs
set_option linter.unusedSimpArgs false
set_option linter.unusedVariables false

/-- an absence -/
structure Ab where
  emp : Int
  day : Int
  name : ByteArray
  min : Int
instance : Cel Ab := ⟨fun a => [.int .i64 a.emp, .int .i64 a.day, .str a.name, .int .i64 a.min], 4, fun _ => rfl, fun _ => rfl, fun _ => rfl⟩
instance : Flt Ab := ⟨fun _ => rfl⟩
theorem cel_ab (e : Ab) : Cel.c e = [.int .i64 e.emp, .int .i64 e.day, .str e.name, .int .i64 e.min] := rfl
theorem cel_ab_sz : Cel.sz Ab = 4 := rfl
theorem cel_ab_take (e : Ab) : List.take 4 (Cel.c e) = Cel.c e := rfl
attribute [go_sem] cel_ab_sz cel_ab_take
/-- a planned shift -/
structure Sf where
  day : Int
  st : Int
  mn : Int
instance : Cel Sf := ⟨fun a => [.int .i64 a.day, .int .i64 a.st, .int .i64 a.mn], 3, fun _ => rfl, fun _ => rfl, fun _ => rfl⟩
instance : Flt Sf := ⟨fun _ => rfl⟩
theorem cel_sf (e : Sf) : Cel.c e = [.int .i64 e.day, .int .i64 e.st, .int .i64 e.mn] := rfl
theorem cel_sf_sz : Cel.sz Sf = 3 := rfl
theorem cel_sf_take (e : Sf) : List.take 3 (Cel.c e) = Cel.c e := rfl
attribute [go_sem] cel_sf_sz cel_sf_take
/-- the minutes of the shifts of a day -/
def plOne (s : Sf) (day : Int) : Int := if s.day = day ∧ 1 ≤ s.mn ∧ s.mn ≤ 1440 then s.mn else 0
def planned (pl : List Sf) (day : Int) : Int := ((pl.take 1024).map fun s => plOne s day).sum
theorem planned_bd (day : Int) : ∀ (l : List Sf), 0 ≤ (l.map fun s => plOne s day).sum ∧ (l.map fun s => plOne s day).sum ≤ 1440 * l.length
  | [] => by simp
  | s :: l => by
    have ih := planned_bd day l
    have : 0 ≤ plOne s day ∧ plOne s day ≤ 1440 := by unfold plOne; split <;> omega
    rw [List.map_cons, List.sum_cons, List.length_cons]
    omega
theorem planned_le (pl : List Sf) (day : Int) : 0 ≤ planned pl day ∧ planned pl day ≤ 1474560 := by
  have h := planned_bd day (pl.take 1024)
  have h2 : (pl.take 1024).length ≤ 1024 := by simp; omega
  unfold planned
  omega
theorem sum_take1 {α : Type} (f : α → Int) {l : List α} {i : Nat} (h : i < l.length) : ((l.take (i + 1)).map f).sum = ((l.take i).map f).sum + f l[i] := by
  rw [List.take_succ_eq_append_getElem h, List.map_append, List.sum_append]; simp

theorem planned_ok (pl : List Sf) (hl : pl.length ≤ 1000000) (day : Int) : AFn Tryz.prog 119 [.pure 3 (els pl), .int .i64 day] [] (fun v rs => v = .int .i64 (planned pl day) ∧ rs = []) := by
  refine afn Tryz.func119 a119_ok (by simp [a119, s119]) ?_
  simp only [go_sem,a119,s119,els_length]
  refine ⟨by omega, by omega, ?_⟩
  have hq : List.take ((min (pl.length : Int) 1024).toNat - 0) pl = pl.take 1024 := by
    by_cases h : pl.length ≤ 1024
    · rw [show (min (pl.length : Int) 1024).toNat - 0 = pl.length by omega, List.take_length, List.take_of_length_le h]
    · rw [show (min (pl.length : Int) 1024).toNat - 0 = 1024 by omega]
  unfold planned
  obtain ⟨q, hqe⟩ : ∃ q, pl.take 1024 = q := ⟨_, rfl⟩
  have hql : q.length ≤ 1024 := by rw [← hqe]; simp; omega
  simp only [els_take, List.drop_zero, hq, hqe, els_length]
  refine avc_loop (fun env rows => ∃ i : Nat, i ≤ q.length ∧ env = [(1, .int .i64 day), (5, .int .i64 ((q.take i).map fun s => plOne s day).sum), (12, .pure 3 (els q)), (13, .int .i64 q.length), (14, .int .i64 i)] ∧ rows = [])
    (fun env _ => match slot env 14 with | .int _ j => (q.length - j).toNat | _ => 0) ?_ ?_
  · exact Cl.here ⟨0, by omega, rfl, rfl⟩
  · rintro env rows ⟨i, hi, rfl, rfl⟩
    have hw : IntKind.i64.wrap ((i : Int) + 1) = ((i + 1 : Nat) : Int) := by rw [wrap_i64 (by omega) (by omega)]; omega
    have hb := planned_bd day (q.take i)
    have hb2 : (q.take i).length ≤ 1024 := by simp; omega
    by_cases hlt : i < q.length
    · have h1 : (i : Int) < q.length := by omega
      have h0 : (0 : Int) ≤ i := by omega
      have hg : (els q).getD i [] = [.int .i64 q[i].day, .int .i64 q[i].st, .int .i64 q[i].mn] := by rw [els_getD hlt, cel_sf]
      have hs := sum_take1 (fun s => plOne s day) hlt
      by_cases c : q[i].day = day ∧ 1 ≤ q[i].mn ∧ q[i].mn ≤ 1440
      · have hw2 : IntKind.i64.wrap ((List.map (fun s => plOne s day) (List.take i q)).sum + q[i].mn) = (List.map (fun s => plOne s day) (List.take (i + 1) q)).sum := by
          rw [wrap_i64 (by omega) (by omega), hs]
          unfold plOne
          rw [if_pos c]
        simp only [go_sem,a119,s119,h0,h1,hg,els_length,Int.toNat_natCast,c,beq_self_eq_true,hw2,hw]
        (refine Cl.tr [] [] rfl rfl (by simp only [go_sem] <;> rfl) ?_; simp only [go_sem])
        refine Cl.here ⟨⟨i + 1, by omega, rfl, rfl⟩, ?_⟩
        simp only [go_sem]
        omega
      · have hz : (List.map (fun s => plOne s day) (List.take (i + 1) q)).sum = (List.map (fun s => plOne s day) (List.take i q)).sum := by
          rw [hs]
          unfold plOne
          rw [if_neg c, Int.add_zero]
        by_cases c1 : q[i].day = day
        · by_cases c2 : 1 ≤ q[i].mn
          · have c3 : ¬ q[i].mn ≤ 1440 := fun h => c ⟨c1, c2, h⟩
            simp only [go_sem,a119,s119,h0,h1,hg,els_length,Int.toNat_natCast,c1,c2,c3,beq_self_eq_true,hw]
            (refine Cl.tr [] [] rfl rfl (by simp only [go_sem] <;> rfl) ?_; simp only [go_sem])
            (rw [← hz]; refine Cl.here ⟨⟨i + 1,by omega,rfl,rfl⟩,?_⟩; simp only [go_sem]; omega)
          · simp only [go_sem,a119,s119,h0,h1,hg,els_length,Int.toNat_natCast,c1,c2,beq_self_eq_true,hw]
            (refine Cl.tr [] [] rfl rfl (by simp only [go_sem] <;> rfl) ?_; simp only [go_sem])
            (rw [← hz]; refine Cl.here ⟨⟨i + 1,by omega,rfl,rfl⟩,?_⟩; simp only [go_sem]; omega)
        · have c1' : (q[i].day == day) = false := beq_eq_false_iff_ne.2 c1
          simp only [go_sem,a119,s119,h0,h1,hg,els_length,Int.toNat_natCast,c1',hw]
          (refine Cl.tr [] [] rfl rfl (by simp only [go_sem] <;> rfl) ?_; simp only [go_sem])
          (rw [← hz]; refine Cl.here ⟨⟨i + 1,by omega,rfl,rfl⟩,?_⟩; simp only [go_sem]; omega)
    · have h1 : ¬ (i : Int) < q.length := by omega
      obtain rfl : i = q.length := by omega
      simp only [go_sem,a119,s119,h1,List.take_length]
      exact Cl.fin rfl ⟨rfl, rfl⟩

end Go.Proofs.YtpincjkjoeopkaaGreatDoor
