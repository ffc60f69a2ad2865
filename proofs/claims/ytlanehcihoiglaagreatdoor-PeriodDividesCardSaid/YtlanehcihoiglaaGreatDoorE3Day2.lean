/- The calendar: AddMonths, Week, Easter. -/
import Derived.Test.YtlanehcihoiglaaGreatDoorE3Day
set_option linter.unusedSimpArgs false
set_option linter.unusedVariables false
set_option linter.unusedSectionVars false
namespace Go.Proofs.YtlanehcihoiglaaGreatDoor
open Go Go.Abs
set_option linter.unusedSimpArgs false

def addOk (d n : Int) : Prop := okD d ∧ -2759 ≤ n ∧ n ≤ 2759 ∧ okM (monthP d + n)
instance (d n : Int) : Decidable (addOk d n) := by unfold addOk; infer_instance
def okY (y : Int) : Prop := 1970 ≤ y ∧ y ≤ 2199
instance (d : Int) : Decidable (okY d) := by unfold okY; infer_instance
def eaEp (y : Int) : Int := (19 * (y % 19) + y / 100 - y / 100 / 4 - (y / 100 - (y / 100 + 8) / 25 + 1) / 3 + 15) % 30
def eaLe (y : Int) : Int := (32 + 2 * (y / 100 % 4) + 2 * (y % 100 / 4) - eaEp y - y % 100 % 4) % 7
def eaN (y : Int) : Int := eaEp y + eaLe y - 7 * ((y % 19 + 11 * eaEp y + 22 * eaLe y) / 451) + 114
theorem eb_g {y : Int} : 0 ≤ y % 19 ∧ y % 19 ≤ 18 := by omega
theorem eb_c {y : Int} (hy : 1970 ≤ y ∧ y ≤ 2199) : 19 ≤ y / 100 ∧ y / 100 ≤ 21 := by omega
theorem eb_r {y : Int} : 0 ≤ y % 100 ∧ y % 100 ≤ 99 := by omega
theorem eb_q {c : Int} (bc : 19 ≤ c ∧ c ≤ 21) : 1 ≤ (c + 8) / 25 ∧ (c + 8) / 25 ≤ 1 := by omega
theorem eb_co {c q : Int} (bc : 19 ≤ c ∧ c ≤ 21) (bq : 1 ≤ q ∧ q ≤ 1) : 6 ≤ (c - q + 1) / 3 ∧ (c - q + 1) / 3 ≤ 7 := by omega
theorem eb_c4 {c : Int} (bc : 19 ≤ c ∧ c ≤ 21) : 4 ≤ c / 4 ∧ c / 4 ≤ 5 := by omega
theorem eb_ep {x : Int} : 0 ≤ x % 30 ∧ x % 30 ≤ 29 := by omega
theorem eb_cm {x : Int} : 0 ≤ x % 4 ∧ x % 4 ≤ 3 := by omega
theorem eb_r4 {r : Int} (br : 0 ≤ r ∧ r ≤ 99) : 0 ≤ r / 4 ∧ r / 4 ≤ 24 := by omega
theorem eb_rm {x : Int} : 0 ≤ x % 4 ∧ x % 4 ≤ 3 := by omega
theorem eb_le {x : Int} : 0 ≤ x % 7 ∧ x % 7 ≤ 6 := by omega
theorem eb_la {g ep le : Int} (bg : 0 ≤ g ∧ g ≤ 18) (bep : 0 ≤ ep ∧ ep ≤ 29) (ble : 0 ≤ le ∧ le ≤ 6) : 0 ≤ (g + 11 * ep + 22 * le) / 451 ∧ (g + 11 * ep + 22 * le) / 451 ≤ 1 := by omega
theorem eb_a {ep le la : Int} (bep : 0 ≤ ep ∧ ep ≤ 29) (ble : 0 ≤ le ∧ le ≤ 6) (bla : 0 ≤ la ∧ la ≤ 1) : 3 ≤ (ep + le - 7 * la + 114) / 31 ∧ (ep + le - 7 * la + 114) / 31 ≤ 4 := by omega
theorem eb_b {x : Int} : 0 ≤ x % 31 ∧ x % 31 ≤ 30 := by omega
theorem eaW {y g c r q co c4 ep cm r4 rm le la a b : Int} (y0 : 1970 ≤ y ∧ y ≤ 2199) (bg : 0 ≤ g ∧ g ≤ 18) (bc : 19 ≤ c ∧ c ≤ 21) (br : 0 ≤ r ∧ r ≤ 99) (bq : 1 ≤ q ∧ q ≤ 1) (bco : 6 ≤ co ∧ co ≤ 7) (bc4 : 4 ≤ c4 ∧ c4 ≤ 5) (bep : 0 ≤ ep ∧ ep ≤ 29) (bcm : 0 ≤ cm ∧ cm ≤ 3) (br4 : 0 ≤ r4 ∧ r4 ≤ 24) (brm : 0 ≤ rm ∧ rm ≤ 3) (ble : 0 ≤ le ∧ le ≤ 6) (bla : 0 ≤ la ∧ la ≤ 1) (ba : 3 ≤ a ∧ a ≤ 4) (bb : 0 ≤ b ∧ b ≤ 30) :
    (IntKind.i64.wrap (c) = c ∧ IntKind.i64.wrap (c + 8) = c + 8 ∧ IntKind.i64.wrap (q) = q ∧ IntKind.i64.wrap (c - q) = c - q ∧ IntKind.i64.wrap (c - q + 1) = c - q + 1 ∧ IntKind.i64.wrap (co) = co ∧ IntKind.i64.wrap (19 * g) = 19 * g ∧ IntKind.i64.wrap (19 * g + c) = 19 * g + c ∧ IntKind.i64.wrap (c4) = c4 ∧ IntKind.i64.wrap (19 * g + c - c4) = 19 * g + c - c4 ∧ IntKind.i64.wrap (19 * g + c - c4 - co) = 19 * g + c - c4 - co ∧ IntKind.i64.wrap (19 * g + c - c4 - co + 15) = 19 * g + c - c4 - co + 15 ∧ IntKind.i64.wrap (2 * cm) = 2 * cm ∧ IntKind.i64.wrap (32 + 2 * cm) = 32 + 2 * cm ∧ IntKind.i64.wrap (r4) = r4 ∧ IntKind.i64.wrap (2 * r4) = 2 * r4 ∧ IntKind.i64.wrap (32 + 2 * cm + 2 * r4) = 32 + 2 * cm + 2 * r4 ∧ IntKind.i64.wrap (32 + 2 * cm + 2 * r4 - ep) = 32 + 2 * cm + 2 * r4 - ep ∧ IntKind.i64.wrap (32 + 2 * cm + 2 * r4 - ep - rm) = 32 + 2 * cm + 2 * r4 - ep - rm ∧ IntKind.i64.wrap (11 * ep) = 11 * ep ∧ IntKind.i64.wrap (g + 11 * ep) = g + 11 * ep ∧ IntKind.i64.wrap (22 * le) = 22 * le ∧ IntKind.i64.wrap (g + 11 * ep + 22 * le) = g + 11 * ep + 22 * le ∧ IntKind.i64.wrap (la) = la ∧ IntKind.i64.wrap (ep + le) = ep + le ∧ IntKind.i64.wrap (7 * la) = 7 * la ∧ IntKind.i64.wrap (ep + le - 7 * la) = ep + le - 7 * la ∧ IntKind.i64.wrap (ep + le - 7 * la + 114) = ep + le - 7 * la + 114 ∧ IntKind.i64.wrap (a) = a ∧ IntKind.i64.wrap (b + 1) = b + 1) ∧ (0 ≤ y ∧ 0 ≤ y ∧ 0 ≤ y ∧ 0 ≤ c + 8 ∧ 0 ≤ c - q + 1 ∧ 0 ≤ c ∧ 0 ≤ 19 * g + c - c4 - co + 15 ∧ 0 ≤ c ∧ 0 ≤ r ∧ 0 ≤ r ∧ 0 ≤ 32 + 2 * cm + 2 * r4 - ep - rm ∧ 0 ≤ g + 11 * ep + 22 * le ∧ 0 ≤ ep + le - 7 * la + 114 ∧ 0 ≤ ep + le - 7 * la + 114) := by
  refine ⟨⟨wrap_i64 (by omega) (by omega), wrap_i64 (by omega) (by omega), wrap_i64 (by omega) (by omega), wrap_i64 (by omega) (by omega), wrap_i64 (by omega) (by omega), wrap_i64 (by omega) (by omega), wrap_i64 (by omega) (by omega), wrap_i64 (by omega) (by omega), wrap_i64 (by omega) (by omega), wrap_i64 (by omega) (by omega), wrap_i64 (by omega) (by omega), wrap_i64 (by omega) (by omega), wrap_i64 (by omega) (by omega), wrap_i64 (by omega) (by omega), wrap_i64 (by omega) (by omega), wrap_i64 (by omega) (by omega), wrap_i64 (by omega) (by omega), wrap_i64 (by omega) (by omega), wrap_i64 (by omega) (by omega), wrap_i64 (by omega) (by omega), wrap_i64 (by omega) (by omega), wrap_i64 (by omega) (by omega), wrap_i64 (by omega) (by omega), wrap_i64 (by omega) (by omega), wrap_i64 (by omega) (by omega), wrap_i64 (by omega) (by omega), wrap_i64 (by omega) (by omega), wrap_i64 (by omega) (by omega), wrap_i64 (by omega) (by omega), wrap_i64 (by omega) (by omega)⟩, by omega, by omega, by omega, by omega, by omega, by omega, by omega, by omega, by omega, by omega, by omega, by omega, by omega, by omega⟩
theorem Easter_yes (y : Int) (hy : okY y) : AFn Tryz.prog 83 [.int .i64 y] [] (fun v rs => v = .tup [.int .i64 (dayP y (eaN y / 31) (eaN y % 31 + 1)).1, .bool (dayP y (eaN y / 31) (eaN y % 31 + 1)).2] ∧ rs = []) := by
  refine afnW Tryz.func83 a83_ok (by simp [a83]) ?_
  unfold okY at hy
  obtain ⟨g, hg⟩ : ∃ z : Int, z = y % 19 := ⟨_, rfl⟩
  have bg : 0 ≤ g ∧ g ≤ 18 := by rw [hg]; exact eb_g 
  obtain ⟨c, hc⟩ : ∃ z : Int, z = y / 100 := ⟨_, rfl⟩
  have bc : 19 ≤ c ∧ c ≤ 21 := by rw [hc]; exact eb_c hy
  obtain ⟨r, hr⟩ : ∃ z : Int, z = y % 100 := ⟨_, rfl⟩
  have br : 0 ≤ r ∧ r ≤ 99 := by rw [hr]; exact eb_r 
  obtain ⟨q, hq⟩ : ∃ z : Int, z = (c + 8) / 25 := ⟨_, rfl⟩
  have bq : 1 ≤ q ∧ q ≤ 1 := by rw [hq]; exact eb_q bc
  obtain ⟨co, hco⟩ : ∃ z : Int, z = (c - q + 1) / 3 := ⟨_, rfl⟩
  have bco : 6 ≤ co ∧ co ≤ 7 := by rw [hco]; exact eb_co bc bq
  obtain ⟨c4, hc4⟩ : ∃ z : Int, z = c / 4 := ⟨_, rfl⟩
  have bc4 : 4 ≤ c4 ∧ c4 ≤ 5 := by rw [hc4]; exact eb_c4 bc
  obtain ⟨ep, hep⟩ : ∃ z : Int, z = (19 * g + c - c4 - co + 15) % 30 := ⟨_, rfl⟩
  have bep : 0 ≤ ep ∧ ep ≤ 29 := by rw [hep]; exact eb_ep 
  obtain ⟨cm, hcm⟩ : ∃ z : Int, z = c % 4 := ⟨_, rfl⟩
  have bcm : 0 ≤ cm ∧ cm ≤ 3 := by rw [hcm]; exact eb_cm 
  obtain ⟨r4, hr4⟩ : ∃ z : Int, z = r / 4 := ⟨_, rfl⟩
  have br4 : 0 ≤ r4 ∧ r4 ≤ 24 := by rw [hr4]; exact eb_r4 br
  obtain ⟨rm, hrm⟩ : ∃ z : Int, z = r % 4 := ⟨_, rfl⟩
  have brm : 0 ≤ rm ∧ rm ≤ 3 := by rw [hrm]; exact eb_rm 
  obtain ⟨le, hle⟩ : ∃ z : Int, z = (32 + 2 * cm + 2 * r4 - ep - rm) % 7 := ⟨_, rfl⟩
  have ble : 0 ≤ le ∧ le ≤ 6 := by rw [hle]; exact eb_le 
  obtain ⟨la, hla⟩ : ∃ z : Int, z = (g + 11 * ep + 22 * le) / 451 := ⟨_, rfl⟩
  have bla : 0 ≤ la ∧ la ≤ 1 := by rw [hla]; exact eb_la bg bep ble
  obtain ⟨a, ha⟩ : ∃ z : Int, z = (ep + le - 7 * la + 114) / 31 := ⟨_, rfl⟩
  have ba : 3 ≤ a ∧ a ≤ 4 := by rw [ha]; exact eb_a bep ble bla
  obtain ⟨b, hb⟩ : ∃ z : Int, z = (ep + le - 7 * la + 114) % 31 := ⟨_, rfl⟩
  have bb : 0 ≤ b ∧ b ≤ 30 := by rw [hb]; exact eb_b 
  obtain ⟨⟨w0, w1, w2, w3, w4, w5, w6, w7, w8, w9, w10, w11, w12, w13, w14, w15, w16, w17, w18, w19, w20, w21, w22, w23, w24, w25, w26, w27, w28, w29⟩, n0, n1, n2, n3, n4, n5, n6, n7, n8, n9, n10, n11, n12, n13⟩ := eaW (y := y) hy bg bc br bq bco bc4 bep bcm br4 brm ble bla ba bb
  have f0 : (y).tmod 19 = g := by rw [Int.tmod_eq_emod_of_nonneg n0, hg]
  have f1 : (y).tdiv 100 = c := by rw [Int.tdiv_eq_ediv_of_nonneg n1, hc]
  have f2 : (y).tmod 100 = r := by rw [Int.tmod_eq_emod_of_nonneg n2, hr]
  have f3 : (c + 8).tdiv 25 = q := by rw [Int.tdiv_eq_ediv_of_nonneg n3, hq]
  have f4 : (c - q + 1).tdiv 3 = co := by rw [Int.tdiv_eq_ediv_of_nonneg n4, hco]
  have f5 : (c).tdiv 4 = c4 := by rw [Int.tdiv_eq_ediv_of_nonneg n5, hc4]
  have f6 : (19 * g + c - c4 - co + 15).tmod 30 = ep := by rw [Int.tmod_eq_emod_of_nonneg n6, hep]
  have f7 : (c).tmod 4 = cm := by rw [Int.tmod_eq_emod_of_nonneg n7, hcm]
  have f8 : (r).tdiv 4 = r4 := by rw [Int.tdiv_eq_ediv_of_nonneg n8, hr4]
  have f9 : (r).tmod 4 = rm := by rw [Int.tmod_eq_emod_of_nonneg n9, hrm]
  have f10 : (32 + 2 * cm + 2 * r4 - ep - rm).tmod 7 = le := by rw [Int.tmod_eq_emod_of_nonneg n10, hle]
  have f11 : (g + 11 * ep + 22 * le).tdiv 451 = la := by rw [Int.tdiv_eq_ediv_of_nonneg n11, hla]
  have f12 : (ep + le - 7 * la + 114).tdiv 31 = a := by rw [Int.tdiv_eq_ediv_of_nonneg n12, ha]
  have f13 : (ep + le - 7 * la + 114).tmod 31 = b := by rw [Int.tmod_eq_emod_of_nonneg n13, hb]
  have eep : eaEp y = ep := by rw [eaEp, ← hg, ← hc, ← hq, ← hco, ← hc4, ← hep]
  have ele : eaLe y = le := by rw [eaLe, eep, ← hc, ← hr, ← hcm, ← hr4, ← hrm, ← hle]
  have en : eaN y = ep + le - 7 * la + 114 := by rw [eaN, eep, ele, ← hg, ← hla]
  rw [en, ← ha, ← hb]
  have d1 : decide (y < 1970) = false := decide_eq_false (fun h => by have := hy.1; exact absurd h (Int.not_lt.2 this))
  have d2 : decide (2199 < y) = false := decide_eq_false (fun h => by have := hy.2; exact absurd h (Int.not_lt.2 this))
  simp only [go_sem,a83,a83r0,a83r1,a83r2,a83r3,a83r4,a83r5,a83r6,a83r7,a83r8,a83r9,d1,d2]
  repeat (refine Cl.here ?_; simp only [go_sem,d1,d2])
  refine ⟨by decide, by decide, by decide, ?_⟩
  rw [f0, f1, f2, w0]
  (refine Cl.here ?_; simp only [go_sem,w1,w2,w3,w4,w5,f3,f4])
  refine ⟨by decide, by decide, ?_⟩
  (refine Cl.here ?_; simp only [go_sem,w6,w7,w8,w9,w10,w11,f5,f6])
  refine ⟨by decide, by decide, ?_⟩
  (refine Cl.here ?_; simp only [go_sem,w12,w13,w14,w15,w16,w17,w18,f7,f8,f9,f10])
  refine ⟨by decide, by decide, by decide, by decide, ?_⟩
  (refine Cl.here ?_; simp only [go_sem,w19,w20,w21,w22,w23,f11])
  refine ⟨by decide, ?_⟩
  (refine Cl.here ?_; simp only [go_sem,w24,w25,w26,w27])
  (refine Cl.here ?_; simp only [go_sem,w28,w29,f12,f13])
  refine ⟨by decide, by decide, ?_⟩
  refine callC_det (day_ok y a (b + 1)) rfl rfl ?_
  simp only [go_sem]
  repeat (refine Cl.here ?_; simp only [go_sem])
  exact Cl.fin rfl ⟨rfl, rfl⟩

end Go.Proofs.YtlanehcihoiglaaGreatDoor
