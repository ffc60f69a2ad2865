/- What a moment shows; the errors; Covers. -/
import Derived.Test.YtefemdpicjgkeaaGreatDoorZ8Key
import Derived.Test.YtefemdpicjgkeaaGreatDoorZ8Alm
import Derived.Test.YtefemdpicjgkeaaGreatDoorZ8Val
set_option linter.unusedSimpArgs false
set_option linter.unusedVariables false
set_option linter.unusedSectionVars false
namespace Go.Proofs.YtefemdpicjgkeaaGreatDoor
open Go Go.Abs
set_option linter.unusedSimpArgs false
set_option linter.unusedVariables false

/-- the local minute -/
def loc (z : Zn) (t : Int) : Int := t + shZ z t
theorem loc_bd {z : Zn} (hz : vZ z = 0) {t : Int} (h0 : 0 ≤ t) (h1 : t ≤ 120968639) : -840 ≤ loc z t ∧ loc z t ≤ 120969479 := by
  have := shZ_bd (vZ_ok hz) t
  unfold offP at this
  unfold loc
  omega
def momV (z : Zn) (h : List Hol) (t : Int) : List AVal := [.int .i64 (loc z t % 1440), .int .i64 ((loc z t / 1440 + 3) % 7), .bool (holP h (loc z t / 1440))]
theorem show_ok (z : Zn) (hz : vZ z = 0) (h : List Hol) (hv : validP h = 0) (ys ds : List Int) (t : Int) (h0 : 0 ≤ t) (h1 : t ≤ 120968639) :
    AFn Tryz.prog 35 [z.v, .ref 2 1 0 0, .int .i64 t] (almR h ys ds) (fun v rs => v = .agg (momV z h t) ∧ ∃ ys' ds', rs = almR h ys' ds') := by
  have hb := loc_bd hz h0 h1
  have hL := Local_ok z hz t h0 h1
  rw [show t + shZ z t = loc z t from rfl] at hL
  unfold momV
  refine afn Tryz.func35 a35_ok (by simp [a35]) ?_
  simp only [go_sem,a35,a35r0,a35r1,a35r2,a35r3,a35r4,a35r5,Zn.v,almR]
  refine callC_det hL rfl rfl ?_
  generalize loc z t = m at hb ⊢
  obtain ⟨c1, c2, c3⟩ := tmod7 (m / 1440)
  have e1 : ((m / 1440).tmod 7 + 10).tmod 7 = (m / 1440 + 3) % 7 := by
    rw [Int.tmod_eq_emod_of_nonneg (by omega)]
    omega
  have e2 : IntKind.i64.wrap ((m / 1440).tmod 7 + 10) = (m / 1440).tmod 7 + 10 := wrap_i64 (by omega) (by omega)
  have e3 : IntKind.i64.wrap (m / 1440 * 1440) = m / 1440 * 1440 := wrap_i64 (by omega) (by omega)
  have e4 : IntKind.i64.wrap (m - m / 1440 * 1440) = m % 1440 := by rw [wrap_i64 (by omega) (by omega)]; omega
  simp only [go_sem]
  refine ⟨by decide, by decide, ?_⟩
  by_cases hm : m < 0
  · have hr : m.tmod 1440 = m := by
      rw [Int.tmod_eq_emod]
      rw [if_neg (by omega)]
      have : ((1440 : Int).natAbs : Int) = 1440 := rfl
      omega
    have hq : m.tdiv 1440 = 0 := by
      have := Int.mul_tdiv_add_tmod m 1440
      omega
    have hd : m / 1440 = -1 := by omega
    rw [hd] at e1 e2 e3 e4 ⊢
    rw [hr, hq]
    have e0 : IntKind.i64.wrap (IntKind.i64.wrap 0 - 1) = -1 := by decide
    simp only [go_sem,hm,e0,e1,e2,e3,e4]
    refine ⟨by decide, by decide, ?_⟩
    (refine callC_of [0,1,2] [] (by decide) (by simp only [go_sem] <;> rfl) (by simp only [go_sem] <;> rfl) (holiday_ok h hv ys ds (-1)) ?_; rintro _ _ ⟨rfl,ys',ds',rfl⟩; refine ⟨.inl rfl,?_⟩; simp only [go_sem])
    simp only [go_sem,almR]
    (refine Cl.tr [some 0,some 1,some 2] [] rfl rfl (by simp only [go_sem] <;> rfl) ?_; simp only [go_sem])
    exact Cl.here ⟨rfl, ys', ds', rfl⟩
  · have hq : m.tdiv 1440 = m / 1440 := Int.tdiv_eq_ediv_of_nonneg (by omega)
    have hr : m.tmod 1440 = m % 1440 := Int.tmod_eq_emod_of_nonneg (by omega)
    have hn : ¬ m % 1440 < 0 := by omega
    have e0 : IntKind.i64.wrap (m / 1440) = m / 1440 := wrap_i64 (by omega) (by omega)
    rw [hr, hq]
    simp only [go_sem,hn,e0,e1,e2,e3,e4]
    refine ⟨by decide, by decide, ?_⟩
    (refine callC_of [0,1,2] [] (by decide) (by simp only [go_sem] <;> rfl) (by simp only [go_sem] <;> rfl) (holiday_ok h hv ys ds (m / 1440)) ?_; rintro _ _ ⟨rfl,ys',ds',rfl⟩; refine ⟨.inl rfl,?_⟩; simp only [go_sem])
    simp only [go_sem,almR]
    (refine Cl.tr [some 0,some 1,some 2] [] rfl rfl (by simp only [go_sem] <;> rfl) ?_; simp only [go_sem])
    exact Cl.here ⟨rfl, ys', ds', rfl⟩

def winsP (ws : List Win) : Bool := ws.all winP
def vldE (z : Zn) (h : List Hol) (ws : List Win) : Int := if vZ z = 0 then (if validP h = 0 then (if 16 < ws.length then 3 else if winsP ws = true then 0 else 1) else validP h) else vZ z
theorem PValid_ok (z : Zn) (h : List Hol) (hl : h.length ≤ 9223372036854775806) (ws : List Win) (hw : ws.length ≤ 1000000) : AFn Tryz.prog 15 [z.v, .pure 6 (els h), .pure 7 (els ws)] [] (fun v rs => v = .int .i64 (vldE z h ws) ∧ rs = []) := by
  refine afn Tryz.func15 a15_ok (by simp [a15]) ?_
  unfold vldE
  simp only [go_sem,a15,a15r0,a15r1,a15r2,a15r3,a15r4,a15r5,a15r6,a15r7,a15r8,a15r9,a15r10,a15r11,a15r12,a15r13,a15r14,a15r15,Zn.v]
  refine callC_det (validZ_ok z) rfl rfl ?_
  simp only [go_sem]
  by_cases hz : vZ z = 0
  rotate_left
  · have hz' : (vZ z != 0) = true := by simp [hz]
    simp only [go_sem,hz']
    exact Cl.fin rfl ⟨by rw [if_neg hz], rfl⟩
  rw [hz, if_pos rfl]
  simp only [go_sem]
  refine callC_det (Valid_ok h hl) rfl rfl ?_
  simp only [go_sem]
  by_cases hv : validP h = 0
  rotate_left
  · have hv' : (validP h != 0) = true := by simp [hv]
    simp only [go_sem,hv']
    exact Cl.fin rfl ⟨by rw [if_neg hv], rfl⟩
  rw [hv, if_pos rfl]
  simp only [go_sem]
  by_cases h1 : (ws.length : Int) > 16
  · simp only [go_sem,h1]
    exact Cl.fin rfl ⟨by rw [if_pos (by omega)], rfl⟩
  simp only [go_sem,h1]
  rw [if_neg (by omega)]
  refine avc_loop (fun env rows => ∃ (i : Nat), i ≤ ws.length ∧ winsP ws = winsP (ws.drop i) ∧ env = [(24, .pure 7 (els ws)), (25, .int .i64 ws.length), (26, .int .i64 i)] ∧ rows = [])
    (fun env _ => match slot env 26 with | .int _ j => (ws.length - j).toNat | _ => 0) ?_ ?_
  · (refine Cl.tr [] [] rfl rfl (by simp only [go_sem] <;> rfl) ?_; simp only [go_sem])
    exact Cl.here ⟨0, by omega, by simp, rfl, rfl⟩
  · rintro env rows ⟨i, hi, hb, rfl, rfl⟩
    simp only [go_sem,a15,a15r0,a15r1,a15r2,a15r3,a15r4,a15r5,a15r6,a15r7,a15r8,a15r9,a15r10,a15r11,a15r12,a15r13,a15r14,a15r15]
    refine condC_intro ?_ ?_ <;> intro hg2 <;> simp only [decide_eq_true_eq,decide_eq_false_iff_not,beq_iff_eq,beq_eq_false_iff_ne,bne_iff_ne,bne_eq_false_iff_eq,Bool.not_eq_true',Bool.not_eq_false',Int.not_lt,Int.not_le,ne_eq,Bool.and_eq_true,Bool.or_eq_true,Bool.or_eq_false_iff,Bool.and_eq_false_iff] at hg2 <;> simp only [go_sem,a15,a15r0,a15r1,a15r2,a15r3,a15r4,a15r5,a15r6,a15r7,a15r8,a15r9,a15r10,a15r11,a15r12,a15r13,a15r14,a15r15]
    · have hlt : i < ws.length := by omega
      refine ⟨by omega, by omega, ?_⟩
      try simp only [Int.toNat_natCast]
      rw [els_getD hlt]
      rw [List.drop_eq_getElem_cons hlt, winsP, winsP, List.all_cons] at hb
      generalize ws[i] = p at hb ⊢
      have hw : IntKind.i64.wrap ((i : Int) + 1) = ((i + 1 : Nat) : Int) := by rw [wrap_i64 (by omega) (by omega)]; omega
      simp only [go_sem,a15,a15r0,a15r1,a15r2,a15r3,a15r4,a15r5,a15r6,a15r7,a15r8,a15r9,a15r10,a15r11,a15r12,a15r13,a15r14,a15r15,cel_win]
      refine callC_det (validWindow_ok p) rfl rfl ?_
      simp only [go_sem]
      cases hp : winP p
      · simp only [go_sem]
        exact Cl.fin rfl ⟨by rw [if_neg (by rw [winsP, hb, hp]; simp)], rfl⟩
      · simp only [go_sem,hw]
        (refine Cl.tr [] [] rfl rfl (by simp only [go_sem] <;> rfl) ?_; simp only [go_sem])
        refine Cl.here ⟨⟨i + 1, by omega, ?_, rfl, rfl⟩, ?_⟩
        · rw [winsP, hb, hp, Bool.true_and, winsP]
        · simp only [go_sem]
          omega
    · have hkk : i = ws.length := by omega
      rw [hkk, List.drop_length] at hb
      exact Cl.fin rfl ⟨by rw [hb]; rfl, rfl⟩

/-- does a window cover an instant? -/
def covT (z : Zn) (h : List Hol) (w : Win) (t : Int) : Bool := covP w (loc z t % 1440) ((loc z t / 1440 + 3) % 7) (holP h (loc z t / 1440))
def CovP (z : Zn) (h : List Hol) (w : Win) (t : Int) : Bool := decide (vldE z h [w] = 0) && decide (0 ≤ t ∧ t ≤ 120968639) && covT z h w t
theorem vldE_zero {z : Zn} {h : List Hol} {ws : List Win} (hv : vldE z h ws = 0) : vZ z = 0 ∧ validP h = 0 ∧ ws.length ≤ 16 ∧ winsP ws = true := by
  unfold vldE at hv
  split at hv
  · split at hv
    · split at hv
      · cases hv
      · split at hv
        · exact ⟨by assumption, by assumption, by omega, by assumption⟩
        · cases hv
    · exact absurd hv (by assumption)
  · exact absurd hv (by assumption)
theorem winP_wd {w : Win} (h : winP w = true) : 0 ≤ w.wd ∧ w.wd ≤ 127 := by
  unfold winP at h
  simp only [Bool.and_eq_true, decide_eq_true_eq] at h
  omega
theorem Covers_ok (z : Zn) (h : List Hol) (hl : h.length ≤ 9223372036854775806) (w : Win) (t : Int) : AFn Tryz.prog 33 [z.v, .pure 6 (els h), .agg (Cel.c w), .int .i64 t] [] (fun v rs => v = .bool (CovP z h w t) ∧ rs = []) := by
  refine afn Tryz.func33 a33_ok (by simp [a33]) ?_
  have hV := PValid_ok z h hl [w] (by simp)
  rw [show els [w] = [[.str w.name, .str w.group, .int .i64 w.rank, .int .i64 w.fr, .int .i64 w.to, .int .i64 w.wd, .int .i64 w.dy]] from rfl] at hV
  unfold CovP
  simp only [go_sem,a33,a33r0,a33r1,a33r2,a33r3,Zn.v,cel_win]
  (refine callC_of [] [2] (by decide) rfl (by simp only [go_sem] <;> rfl) (hV) ?_; rintro _ _ ⟨rfl,rfl⟩; refine ⟨.inr ⟨by first | rfl | simp only [go_sem],by first | rfl | simp only [go_sem]⟩,?_⟩; simp only [go_sem])
  by_cases hv : vldE z h [w] = 0
  rotate_left
  · have hv' : (vldE z h [w] != 0) = true := by simp [hv]
    simp only [go_sem,hv']
    exact Cl.fin rfl ⟨by simp [hv], rfl⟩
  obtain ⟨k1, k2, _, k3⟩ := vldE_zero hv
  have k4 := winP_wd (w := w) (by simpa [winsP] using k3)
  rw [hv]
  simp only [go_sem,a33,a33r0,a33r1,a33r2,a33r3]
  by_cases t0 : t < 0
  · simp only [go_sem,t0]
    exact Cl.fin rfl ⟨by rw [decide_eq_false (p := 0 ≤ t ∧ t ≤ 120968639) (by omega)]; simp, rfl⟩
  by_cases t1 : t > 120968639
  · simp only [go_sem,t0,t1]
    exact Cl.fin rfl ⟨by rw [decide_eq_false (p := 0 ≤ t ∧ t ≤ 120968639) (by omega)]; simp, rfl⟩
  rw [decide_eq_true (p := 0 ≤ t ∧ t ≤ 120968639) (by omega), Bool.true_and]
  simp only [go_sem,t0,t1,a33,a33r0,a33r1,a33r2,a33r3]
  refine callD_of [] [] (by simp only [go_sem]) (by decide) rfl rfl (newAlm_ok h) ?_
  rintro _ _ ⟨rfl, rfl⟩
  refine ⟨.inl rfl, ?_⟩
  simp only [go_sem,almR]
  (refine callD_of [3,4,5] [] (by simp only [go_sem]) (by decide) (by simp only [go_sem] <;> rfl) (by simp only [go_sem] <;> rfl) (show_ok z k1 h k2 [] [] t (by omega) (by omega)) ?_; rintro _ _ ⟨rfl,ys',ds',rfl⟩; refine ⟨.inl rfl,?_⟩; simp only [go_sem])
  simp only [go_sem,momV]
  refine callD_det (covers_ok w k4.1 k4.2 (loc z t % 1440) ((loc z t / 1440 + 3) % 7) (holP h (loc z t / 1440)) (by omega) (by omega)) rfl rfl ?_
  simp only [go_sem]
  exact Cl.fin rfl ⟨rfl, rfl⟩

end Go.Proofs.YtefemdpicjgkeaaGreatDoor
