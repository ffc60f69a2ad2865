/- The error of a list of rules, and the days that valid rules name. -/
import Derived.Test.YtlanehcihoiglaaGreatDoorE3Rule
set_option linter.unusedSimpArgs false
set_option linter.unusedVariables false
set_option linter.unusedSectionVars false
namespace Go.Proofs.YtlanehcihoiglaaGreatDoor
open Go Go.Abs
open Go.RowKit (Below)
set_option linter.unusedSimpArgs false

theorem Valid_ok (l : List Hol) (hl : l.length ≤ 9223372036854775806) : AFn Tryz.prog 37 [.pure 6 (els l)] [] (fun v rs => v = .int .i64 (validP l) ∧ rs = []) := by
  refine afn Tryz.func37 a37_ok (by simp [a37]) ?_
  simp only [go_sem,a37,a37r0,a37r1,a37r2,a37r3,a37r4,a37r5,a37r6,a37r7,a37r8,a37r9]
  refine condC_intro ?_ ?_ <;> intro hg1 <;> simp only [decide_eq_true_eq,decide_eq_false_iff_not,beq_iff_eq,beq_eq_false_iff_ne,bne_iff_ne,bne_eq_false_iff_eq,Bool.not_eq_true',Bool.not_eq_false',Int.not_lt,Int.not_le,ne_eq,Bool.and_eq_true,Bool.or_eq_true,Bool.or_eq_false_iff,Bool.and_eq_false_iff] at hg1 <;> simp only [go_sem,a37,a37r0,a37r1,a37r2,a37r3,a37r4,a37r5,a37r6,a37r7,a37r8,a37r9]
  · exact Cl.fin rfl ⟨by rw [validP, if_pos (by omega)], rfl⟩
  have hpc : validP l = if validL l = true then 0 else 1 := by rw [validP, if_neg (by omega)]
  refine avc_loop (fun env rows => ∃ (i : Nat), i ≤ l.length ∧ validL l = validL (l.drop i) ∧ env = [(8, .pure 6 (els l)), (9, .int .i64 l.length), (10, .int .i64 i)] ∧ rows = [])
    (fun env _ => match slot env 10 with | .int _ j => (l.length - j).toNat | _ => 0) ?_ ?_
  · exact Cl.here ⟨0, by omega, by simp, rfl, rfl⟩
  · rintro env rows ⟨i, hi, hb, rfl, rfl⟩
    simp only [go_sem,a37,a37r0,a37r1,a37r2,a37r3,a37r4,a37r5,a37r6,a37r7,a37r8,a37r9]
    refine condC_intro ?_ ?_ <;> intro hg2 <;> simp only [decide_eq_true_eq,decide_eq_false_iff_not,beq_iff_eq,beq_eq_false_iff_ne,bne_iff_ne,bne_eq_false_iff_eq,Bool.not_eq_true',Bool.not_eq_false',Int.not_lt,Int.not_le,ne_eq,Bool.and_eq_true,Bool.or_eq_true,Bool.or_eq_false_iff,Bool.and_eq_false_iff] at hg2 <;> simp only [go_sem,a37,a37r0,a37r1,a37r2,a37r3,a37r4,a37r5,a37r6,a37r7,a37r8,a37r9]
    · have hlt : i < l.length := by omega
      refine ⟨by omega, by omega, ?_⟩
      try simp only [Int.toNat_natCast]
      rw [els_getD hlt]
      rw [List.drop_eq_getElem_cons hlt, validL, validL, List.all_cons] at hb
      generalize l[i] = p at hb ⊢
      have hw : IntKind.i64.wrap ((i : Int) + 1) = ((i + 1 : Nat) : Int) := by rw [wrap_i64 (by omega) (by omega)]; omega
      simp only [go_sem,a37,a37r0,a37r1,a37r2,a37r3,a37r4,a37r5,a37r6,a37r7,a37r8,a37r9,cel_hol]
      refine callC_det (rule_ok p) rfl rfl ?_
      simp only [go_sem]
      refine condC_intro ?_ ?_ <;> intro hg4 <;> simp only [decide_eq_true_eq,decide_eq_false_iff_not,beq_iff_eq,beq_eq_false_iff_ne,bne_iff_ne,bne_eq_false_iff_eq,Bool.not_eq_true',Bool.not_eq_false',Int.not_lt,Int.not_le,ne_eq,Bool.and_eq_true,Bool.or_eq_true,Bool.or_eq_false_iff,Bool.and_eq_false_iff] at hg4 <;> simp only [go_sem,a37,a37r0,a37r1,a37r2,a37r3,a37r4,a37r5,a37r6,a37r7,a37r8,a37r9,hw]
      · exact Cl.fin rfl ⟨by rw [hpc, if_neg (by rw [validL, hb, hg4]; simp)], rfl⟩
      · (refine Cl.tr [] [] rfl rfl (by simp only [go_sem] <;> rfl) ?_; simp only [go_sem])
        refine Cl.here ⟨⟨i + 1, by omega, ?_, rfl, rfl⟩, ?_⟩
        · rw [validL, hb, hg4, Bool.true_and, validL]
        · simp only [go_sem]
          omega
    · have hkk : i = l.length := by omega
      rw [hkk, List.drop_length] at hb
      exact Cl.fin rfl ⟨by rw [hpc, hb]; rfl, rfl⟩

theorem numP_bd {y m d : Int} (hy : okY y) (h1 : 1 ≤ m) (h2 : m ≤ 12) (h3 : 0 ≤ d) (h4 : d ≤ 100) : -2000 ≤ numP y m d ∧ numP y m d ≤ 201000 := by
  have a := begin_range (y := y) (by have := hy.1; omega) (by have := hy.2; omega)
  have b := sumL_bd y (m - 1).toNat (by omega)
  unfold numP
  omega
theorem wdP_bd (d : Int) : 0 ≤ wdP d ∧ wdP d ≤ 6 := by unfold wdP; omega
def nthI (y m w : Int) : Int := (w - wdP (numP y m 1) + 7) % 7
def nthX (y m w n : Int) : Int := if n = -1 then nthI y m w + (lenP y m - 1 - nthI y m w) / 7 * 7 else nthI y m w + 7 * (n - 1)
theorem nth_ok (y m w n : Int) (hy : okY y) (h1 : 1 ≤ m) (h2 : m ≤ 12) (h3 : 0 ≤ w) (h4 : w ≤ 6) (h5 : n = -1 ∨ 1 ≤ n ∧ n ≤ 5) : AFn Tryz.prog 84 [.int .i64 y, .int .i64 m, .int .i64 w, .int .i64 n] []
    (fun v rs => v = (if nthX y m w n < lenP y m then .tup [.int .i64 (numP y m 1 + nthX y m w n), .bool true] else .tup [.int .i64 0, .bool false]) ∧ rs = []) := by
  refine afn Tryz.func84 a84_ok (by simp [a84]) ?_
  obtain ⟨hy0, hy1⟩ := hy
  have hF := numP_bd (y := y) ⟨hy0, hy1⟩ h1 h2 (d := 1) (by omega) (by omega)
  have hL := lenP_bd (y := y) h1 h2
  have hW := wdP_bd (numP y m 1)
  simp only [go_sem,a84,a84r0,a84r1,a84r2,a84r3,a84r4,a84r5,a84r6,a84r7,a84r8,a84r9]
  refine callC_det (number_ok y m 1 (by omega) (by omega) (by omega) (by omega) (by omega) (by omega)) rfl rfl ?_
  simp only [go_sem]
  refine callC_det (length_ok y m (by omega) (by omega) (by omega)) rfl rfl ?_
  simp only [go_sem]
  refine callC_det (weekday_ok (numP y m 1) (by omega) (by omega)) rfl rfl ?_
  unfold nthX nthI
  generalize wdP (numP y m 1) = W at hW ⊢
  generalize numP y m 1 = F at hF ⊢
  generalize lenP y m = L at hL ⊢
  simp only [go_sem]
  rw [wrap_i64 (x := w - W) (by omega) (by omega), wrap_i64 (x := w - W + 7) (by omega) (by omega), Int.tmod_eq_emod_of_nonneg (a := w - W + 7) (by omega)]
  have hi : 0 ≤ (w - W + 7) % 7 ∧ (w - W + 7) % 7 ≤ 6 := by omega
  generalize (w - W + 7) % 7 = I at hi ⊢
  refine ⟨by decide, ?_⟩
  refine condC_intro ?_ ?_ <;> intro hg1 <;> simp only [decide_eq_true_eq,decide_eq_false_iff_not,beq_iff_eq,beq_eq_false_iff_ne,bne_iff_ne,bne_eq_false_iff_eq,Bool.not_eq_true',Bool.not_eq_false',Int.not_lt,Int.not_le,ne_eq,Bool.and_eq_true,Bool.or_eq_true,Bool.or_eq_false_iff,Bool.and_eq_false_iff] at hg1 <;> simp only [go_sem,a84,a84r0,a84r1,a84r2,a84r3,a84r4,a84r5,a84r6,a84r7,a84r8,a84r9]
  · rw [if_pos hg1]
    rw [wrap_i64 (x := L - 1) (by omega) (by omega), wrap_i64 (x := L - 1 - I) (by omega) (by omega), Int.tdiv_eq_ediv_of_nonneg (by omega), wrap_i64 (x := (L - 1 - I) / 7) (by omega) (by omega), wrap_i64 (x := (L - 1 - I) / 7 * 7) (by omega) (by omega), wrap_i64 (x := I + (L - 1 - I) / 7 * 7) (by omega) (by omega)]
    refine ⟨by decide, ?_⟩
    refine condC_intro ?_ ?_ <;> intro hg2 <;> simp only [decide_eq_true_eq,decide_eq_false_iff_not,beq_iff_eq,beq_eq_false_iff_ne,bne_iff_ne,bne_eq_false_iff_eq,Bool.not_eq_true',Bool.not_eq_false',Int.not_lt,Int.not_le,ne_eq,Bool.and_eq_true,Bool.or_eq_true,Bool.or_eq_false_iff,Bool.and_eq_false_iff] at hg2 <;> simp only [go_sem,a84,a84r0,a84r1,a84r2,a84r3,a84r4,a84r5,a84r6,a84r7,a84r8,a84r9]
    · exact Cl.fin rfl ⟨by rw [if_neg (by omega)], rfl⟩
    · exact Cl.fin rfl ⟨by rw [if_pos (by omega), wrap_i64 (by omega) (by omega)], rfl⟩
  · rw [if_neg hg1]
    rw [wrap_i64 (x := n - 1) (by omega) (by omega), wrap_i64 (x := 7 * (n - 1)) (by omega) (by omega), wrap_i64 (x := I + 7 * (n - 1)) (by omega) (by omega)]
    refine condC_intro ?_ ?_ <;> intro hg2 <;> simp only [decide_eq_true_eq,decide_eq_false_iff_not,beq_iff_eq,beq_eq_false_iff_ne,bne_iff_ne,bne_eq_false_iff_eq,Bool.not_eq_true',Bool.not_eq_false',Int.not_lt,Int.not_le,ne_eq,Bool.and_eq_true,Bool.or_eq_true,Bool.or_eq_false_iff,Bool.and_eq_false_iff] at hg2 <;> simp only [go_sem,a84,a84r0,a84r1,a84r2,a84r3,a84r4,a84r5,a84r6,a84r7,a84r8,a84r9]
    · exact Cl.fin rfl ⟨by rw [if_neg (by omega)], rfl⟩
    · exact Cl.fin rfl ⟨by rw [if_pos (by omega), wrap_i64 (by omega) (by omega)], rfl⟩

def easD (y : Int) : Int := numP y (eaN y / 31) (eaN y % 31 + 1)
theorem eas_day {y : Int} (hy : okY y) : dayP y (eaN y / 31) (eaN y % 31 + 1) = (easD y, true) := by
  have h := (eas_ok (y := y) hy.1 hy.2).1
  unfold easP dayP at h
  unfold dayP easD
  split
  · rfl
  · rename_i hn
    rw [if_neg hn] at h
    cases h
def nmB (h : Hol) (y : Int) : Option Int :=
  if h.kind = 0 then (if h.day ≤ lenP y h.month then some (numP y h.month h.day) else none)
  else if h.kind = 1 then some (easD y + h.offset)
  else if nthX y h.month h.weekday h.day < lenP y h.month then some (numP y h.month 1 + nthX y h.month h.weekday h.day + h.offset) else none
def mvP (b : Bool) (d : Int) : Int := if b = true ∧ 5 ≤ wdP d then d + (7 - wdP d) else d
def nmD (h : Hol) (y : Int) : Option Int := (nmB h y).map (mvP h.moved)
def namO (h : Hol) (y : Int) : Option Int := (nmD h y).filter fun d => decide (okD d)
def nmV : Option Int → AVal
  | some d => .tup [.int .i64 d, .bool true]
  | none => .tup [.int .i64 0, .bool false]
theorem mvP_false (d : Int) : mvP false d = d := by simp [mvP]
theorem mvP_true {d : Int} (h : 5 ≤ wdP d) : mvP true d = d + (7 - wdP d) := by simp [mvP, h]
theorem mvP_not {d : Int} (h : wdP d < 5) : mvP true d = d := by rw [mvP, if_neg (by omega)]
theorem fin_yes {h : Hol} {y D X : Int} (hB : nmB h y = some D) (hX : mvP h.moved D = X) (ho : okD X) : nmV (namO h y) = .tup [.int .i64 X, .bool true] := by
  rw [namO, nmD, hB, Option.map_some, hX, Option.filter_some, if_pos (by simpa using ho), nmV]
theorem fin_no {h : Hol} {y D X : Int} (hB : nmB h y = some D) (hX : mvP h.moved D = X) (ho : ¬ okD X) : nmV (namO h y) = .tup [.int .i64 0, .bool false] := by
  rw [namO, nmD, hB, Option.map_some, hX, Option.filter_some, if_neg (by simpa using ho), nmV]
theorem fin_none {h : Hol} {y : Int} (hB : nmB h y = none) : nmV (namO h y) = .tup [.int .i64 0, .bool false] := by
  rw [namO, nmD, hB, Option.map_none, Option.filter_none, nmV]

theorem easD_bd {y : Int} (hy : okY y) : numP y 3 22 ≤ easD y ∧ easD y ≤ numP y 4 25 := by
  have h := eas_ok (y := y) hy.1 hy.2
  rw [easP, eas_day hy] at h
  obtain ⟨_, _, a, b⟩ := h
  have hl3 := lenP_bd (y := y) (m := 3) (by omega) (by omega)
  have hl4 := lenP_bd (y := y) (m := 4) (by omega) (by omega)
  rw [dayP, if_pos ⟨hy.1, hy.2, by omega, by omega, by omega, by omega⟩] at a
  rw [dayP, if_pos ⟨hy.1, hy.2, by omega, by omega, by omega, by omega⟩] at b
  exact ⟨a, b⟩
theorem named_ok (h : Hol) (y : Int) (hr : ruleP h = true) (hy : okY y) : AFn Tryz.prog 70 [.agg (Cel.c h), .int .i64 y] [] (fun v rs => v = nmV (namO h y) ∧ rs = []) := by
  obtain ⟨k, m, d, wd, o, b⟩ := h
  rw [ruleP_iff] at hr
  rw [cel_hol]
  refine afn Tryz.func70 a70_ok (by simp [a70]) ?_
  obtain ⟨hy0, hy1⟩ := hy
  rcases hr with ⟨rfl, h1, h2, rfl, rfl, h3, h4⟩ | ⟨rfl, h1, h2, rfl, rfl, rfl⟩ | ⟨rfl, h1, h2, h3, h4, h5, h6, h7⟩
  · simp only [go_sem,a70,a70r0,a70r1,a70r2,a70r3,a70r4,a70r5,a70r6,a70r7,a70r8,a70r9,a70r10,a70r11,a70r12,a70r13,a70r14,a70r15,a70r16,a70r17,a70r18]
    have hl := lenP_bd (y := y) h1 h2
    have hD := day_ok y m d
    by_cases hd : d ≤ lenP y m
    · rw [dayP, if_pos ⟨hy0, hy1, h1, h2, h3, hd⟩] at hD
      refine callC_det hD rfl rfl ?_
      have hB : nmB ⟨0, m, d, 0, 0, b⟩ y = some (numP y m d + 0) := by rw [nmB, if_pos rfl, if_pos hd, Int.add_zero]
      have hF := numP_bd (y := y) ⟨hy0, hy1⟩ h1 h2 (d := d) (by omega) (by omega)
      generalize numP y m d = D at hB hF ⊢
      simp only [go_sem,a70,a70r0,a70r1,a70r2,a70r3,a70r4,a70r5,a70r6,a70r7,a70r8,a70r9,a70r10,a70r11,a70r12,a70r13,a70r14,a70r15,a70r16,a70r17,a70r18]
      rw [wrap_i64 (x := D + 0) (by omega) (by omega)]
      refine callC_det (weekday_ok (D + 0) (by omega) (by omega)) rfl rfl ?_
      have hwd := wdP_bd (D + 0)
      cases b
      · simp only [go_sem]
        refine callC_det (valid_ok (D + 0)) rfl rfl ?_
        simp only [go_sem]
        refine condC_intro ?_ ?_ <;> intro hg <;> simp only [decide_eq_true_eq,decide_eq_false_iff_not,beq_iff_eq,beq_eq_false_iff_ne,bne_iff_ne,bne_eq_false_iff_eq,Bool.not_eq_true',Bool.not_eq_false',Int.not_lt,Int.not_le,ne_eq,Bool.and_eq_true,Bool.or_eq_true,Bool.or_eq_false_iff,Bool.and_eq_false_iff] at hg <;> simp only [go_sem,a70,a70r0,a70r1,a70r2,a70r3,a70r4,a70r5,a70r6,a70r7,a70r8,a70r9,a70r10,a70r11,a70r12,a70r13,a70r14,a70r15,a70r16,a70r17,a70r18]
        · exact Cl.fin rfl ⟨(fin_no hB (mvP_false _) hg).symm, rfl⟩
        · exact Cl.fin rfl ⟨(fin_yes hB (mvP_false _) hg).symm, rfl⟩
      · simp only [go_sem]
        refine condC_intro ?_ ?_ <;> intro hg5 <;> simp only [decide_eq_true_eq,decide_eq_false_iff_not,beq_iff_eq,beq_eq_false_iff_ne,bne_iff_ne,bne_eq_false_iff_eq,Bool.not_eq_true',Bool.not_eq_false',Int.not_lt,Int.not_le,ne_eq,Bool.and_eq_true,Bool.or_eq_true,Bool.or_eq_false_iff,Bool.and_eq_false_iff] at hg5 <;> simp only [go_sem,a70,a70r0,a70r1,a70r2,a70r3,a70r4,a70r5,a70r6,a70r7,a70r8,a70r9,a70r10,a70r11,a70r12,a70r13,a70r14,a70r15,a70r16,a70r17,a70r18]
        · rw [wrap_i64 (x := 7 - wdP (D + 0)) (by omega) (by omega), wrap_i64 (x := D + 0 + (7 - wdP (D + 0))) (by omega) (by omega)]
          refine callC_det (valid_ok (D + 0 + (7 - wdP (D + 0)))) rfl rfl ?_
          simp only [go_sem]
          refine condC_intro ?_ ?_ <;> intro hg <;> simp only [decide_eq_true_eq,decide_eq_false_iff_not,beq_iff_eq,beq_eq_false_iff_ne,bne_iff_ne,bne_eq_false_iff_eq,Bool.not_eq_true',Bool.not_eq_false',Int.not_lt,Int.not_le,ne_eq,Bool.and_eq_true,Bool.or_eq_true,Bool.or_eq_false_iff,Bool.and_eq_false_iff] at hg <;> simp only [go_sem,a70,a70r0,a70r1,a70r2,a70r3,a70r4,a70r5,a70r6,a70r7,a70r8,a70r9,a70r10,a70r11,a70r12,a70r13,a70r14,a70r15,a70r16,a70r17,a70r18]
          · exact Cl.fin rfl ⟨(fin_no hB (mvP_true hg5) hg).symm, rfl⟩
          · exact Cl.fin rfl ⟨(fin_yes hB (mvP_true hg5) hg).symm, rfl⟩
        · refine callC_det (valid_ok (D + 0)) rfl rfl ?_
          simp only [go_sem]
          refine condC_intro ?_ ?_ <;> intro hg <;> simp only [decide_eq_true_eq,decide_eq_false_iff_not,beq_iff_eq,beq_eq_false_iff_ne,bne_iff_ne,bne_eq_false_iff_eq,Bool.not_eq_true',Bool.not_eq_false',Int.not_lt,Int.not_le,ne_eq,Bool.and_eq_true,Bool.or_eq_true,Bool.or_eq_false_iff,Bool.and_eq_false_iff] at hg <;> simp only [go_sem,a70,a70r0,a70r1,a70r2,a70r3,a70r4,a70r5,a70r6,a70r7,a70r8,a70r9,a70r10,a70r11,a70r12,a70r13,a70r14,a70r15,a70r16,a70r17,a70r18]
          · exact Cl.fin rfl ⟨(fin_no hB (mvP_not hg5) hg).symm, rfl⟩
          · exact Cl.fin rfl ⟨(fin_yes hB (mvP_not hg5) hg).symm, rfl⟩
    · rw [dayP, if_neg (fun h => hd h.2.2.2.2.2)] at hD
      refine callC_det hD rfl rfl ?_
      simp only [go_sem,a70,a70r0,a70r1,a70r2,a70r3,a70r4,a70r5,a70r6,a70r7,a70r8,a70r9,a70r10,a70r11,a70r12,a70r13,a70r14,a70r15,a70r16,a70r17,a70r18]
      exact Cl.fin rfl ⟨(fin_none (by rw [nmB, if_pos rfl, if_neg hd])).symm, rfl⟩
  · simp only [go_sem,a70,a70r0,a70r1,a70r2,a70r3,a70r4,a70r5,a70r6,a70r7,a70r8,a70r9,a70r10,a70r11,a70r12,a70r13,a70r14,a70r15,a70r16,a70r17,a70r18]
    have hE := Easter_yes y ⟨hy0, hy1⟩
    rw [eas_day ⟨hy0, hy1⟩] at hE
    refine callC_det hE rfl rfl ?_
    have hB : nmB ⟨1, 0, 0, 0, o, b⟩ y = some (easD y + o) := by rw [nmB, if_neg (by simp), if_pos rfl]
    have hF : -2000 ≤ easD y ∧ easD y ≤ 201000 := by
      have a := easD_bd (y := y) ⟨hy0, hy1⟩
      have b := numP_bd (y := y) (m := 3) (d := 22) ⟨hy0, hy1⟩ (by omega) (by omega) (by omega) (by omega)
      have c := numP_bd (y := y) (m := 4) (d := 25) ⟨hy0, hy1⟩ (by omega) (by omega) (by omega) (by omega)
      omega
    generalize easD y = D at hB hF ⊢
    simp only [go_sem,a70,a70r0,a70r1,a70r2,a70r3,a70r4,a70r5,a70r6,a70r7,a70r8,a70r9,a70r10,a70r11,a70r12,a70r13,a70r14,a70r15,a70r16,a70r17,a70r18]
    rw [wrap_i64 (x := D + o) (by omega) (by omega)]
    refine callC_det (weekday_ok (D + o) (by omega) (by omega)) rfl rfl ?_
    have hwd := wdP_bd (D + o)
    cases b
    · simp only [go_sem]
      refine callC_det (valid_ok (D + o)) rfl rfl ?_
      simp only [go_sem]
      refine condC_intro ?_ ?_ <;> intro hg <;> simp only [decide_eq_true_eq,decide_eq_false_iff_not,beq_iff_eq,beq_eq_false_iff_ne,bne_iff_ne,bne_eq_false_iff_eq,Bool.not_eq_true',Bool.not_eq_false',Int.not_lt,Int.not_le,ne_eq,Bool.and_eq_true,Bool.or_eq_true,Bool.or_eq_false_iff,Bool.and_eq_false_iff] at hg <;> simp only [go_sem,a70,a70r0,a70r1,a70r2,a70r3,a70r4,a70r5,a70r6,a70r7,a70r8,a70r9,a70r10,a70r11,a70r12,a70r13,a70r14,a70r15,a70r16,a70r17,a70r18]
      · exact Cl.fin rfl ⟨(fin_no hB (mvP_false _) hg).symm, rfl⟩
      · exact Cl.fin rfl ⟨(fin_yes hB (mvP_false _) hg).symm, rfl⟩
    · simp only [go_sem]
      refine condC_intro ?_ ?_ <;> intro hg5 <;> simp only [decide_eq_true_eq,decide_eq_false_iff_not,beq_iff_eq,beq_eq_false_iff_ne,bne_iff_ne,bne_eq_false_iff_eq,Bool.not_eq_true',Bool.not_eq_false',Int.not_lt,Int.not_le,ne_eq,Bool.and_eq_true,Bool.or_eq_true,Bool.or_eq_false_iff,Bool.and_eq_false_iff] at hg5 <;> simp only [go_sem,a70,a70r0,a70r1,a70r2,a70r3,a70r4,a70r5,a70r6,a70r7,a70r8,a70r9,a70r10,a70r11,a70r12,a70r13,a70r14,a70r15,a70r16,a70r17,a70r18]
      · rw [wrap_i64 (x := 7 - wdP (D + o)) (by omega) (by omega), wrap_i64 (x := D + o + (7 - wdP (D + o))) (by omega) (by omega)]
        refine callC_det (valid_ok (D + o + (7 - wdP (D + o)))) rfl rfl ?_
        simp only [go_sem]
        refine condC_intro ?_ ?_ <;> intro hg <;> simp only [decide_eq_true_eq,decide_eq_false_iff_not,beq_iff_eq,beq_eq_false_iff_ne,bne_iff_ne,bne_eq_false_iff_eq,Bool.not_eq_true',Bool.not_eq_false',Int.not_lt,Int.not_le,ne_eq,Bool.and_eq_true,Bool.or_eq_true,Bool.or_eq_false_iff,Bool.and_eq_false_iff] at hg <;> simp only [go_sem,a70,a70r0,a70r1,a70r2,a70r3,a70r4,a70r5,a70r6,a70r7,a70r8,a70r9,a70r10,a70r11,a70r12,a70r13,a70r14,a70r15,a70r16,a70r17,a70r18]
        · exact Cl.fin rfl ⟨(fin_no hB (mvP_true hg5) hg).symm, rfl⟩
        · exact Cl.fin rfl ⟨(fin_yes hB (mvP_true hg5) hg).symm, rfl⟩
      · refine callC_det (valid_ok (D + o)) rfl rfl ?_
        simp only [go_sem]
        refine condC_intro ?_ ?_ <;> intro hg <;> simp only [decide_eq_true_eq,decide_eq_false_iff_not,beq_iff_eq,beq_eq_false_iff_ne,bne_iff_ne,bne_eq_false_iff_eq,Bool.not_eq_true',Bool.not_eq_false',Int.not_lt,Int.not_le,ne_eq,Bool.and_eq_true,Bool.or_eq_true,Bool.or_eq_false_iff,Bool.and_eq_false_iff] at hg <;> simp only [go_sem,a70,a70r0,a70r1,a70r2,a70r3,a70r4,a70r5,a70r6,a70r7,a70r8,a70r9,a70r10,a70r11,a70r12,a70r13,a70r14,a70r15,a70r16,a70r17,a70r18]
        · exact Cl.fin rfl ⟨(fin_no hB (mvP_not hg5) hg).symm, rfl⟩
        · exact Cl.fin rfl ⟨(fin_yes hB (mvP_not hg5) hg).symm, rfl⟩
  · simp only [go_sem,a70,a70r0,a70r1,a70r2,a70r3,a70r4,a70r5,a70r6,a70r7,a70r8,a70r9,a70r10,a70r11,a70r12,a70r13,a70r14,a70r15,a70r16,a70r17,a70r18]
    have hN := nth_ok y m wd d ⟨hy0, hy1⟩ h1 h2 h4 h5 h3
    have hl := lenP_bd (y := y) h1 h2
    by_cases hd : nthX y m wd d < lenP y m
    · rw [if_pos hd] at hN
      refine callC_det hN rfl rfl ?_
      have hB : nmB ⟨2, m, d, wd, o, b⟩ y = some (numP y m 1 + nthX y m wd d + o) := by rw [nmB, if_neg (by simp), if_neg (by simp), if_pos hd]
      have hF := numP_bd (y := y) ⟨hy0, hy1⟩ h1 h2 (d := 1) (by omega) (by omega)
      have hX : 0 ≤ nthX y m wd d := by
        have : 0 ≤ nthI y m wd ∧ nthI y m wd ≤ 6 := by unfold nthI; omega
        unfold nthX; split <;> omega
      obtain ⟨D, hD⟩ : ∃ D, D = numP y m 1 + nthX y m wd d := ⟨_, rfl⟩
      rw [← hD] at hB ⊢
      replace hF : -2000 ≤ D ∧ D ≤ 201031 := by omega
      clear hD
      simp only [go_sem,a70,a70r0,a70r1,a70r2,a70r3,a70r4,a70r5,a70r6,a70r7,a70r8,a70r9,a70r10,a70r11,a70r12,a70r13,a70r14,a70r15,a70r16,a70r17,a70r18]
      rw [wrap_i64 (x := D + o) (by omega) (by omega)]
      refine callC_det (weekday_ok (D + o) (by omega) (by omega)) rfl rfl ?_
      have hwd := wdP_bd (D + o)
      cases b
      · simp only [go_sem]
        refine callC_det (valid_ok (D + o)) rfl rfl ?_
        simp only [go_sem]
        refine condC_intro ?_ ?_ <;> intro hg <;> simp only [decide_eq_true_eq,decide_eq_false_iff_not,beq_iff_eq,beq_eq_false_iff_ne,bne_iff_ne,bne_eq_false_iff_eq,Bool.not_eq_true',Bool.not_eq_false',Int.not_lt,Int.not_le,ne_eq,Bool.and_eq_true,Bool.or_eq_true,Bool.or_eq_false_iff,Bool.and_eq_false_iff] at hg <;> simp only [go_sem,a70,a70r0,a70r1,a70r2,a70r3,a70r4,a70r5,a70r6,a70r7,a70r8,a70r9,a70r10,a70r11,a70r12,a70r13,a70r14,a70r15,a70r16,a70r17,a70r18]
        · exact Cl.fin rfl ⟨(fin_no hB (mvP_false _) hg).symm, rfl⟩
        · exact Cl.fin rfl ⟨(fin_yes hB (mvP_false _) hg).symm, rfl⟩
      · simp only [go_sem]
        refine condC_intro ?_ ?_ <;> intro hg5 <;> simp only [decide_eq_true_eq,decide_eq_false_iff_not,beq_iff_eq,beq_eq_false_iff_ne,bne_iff_ne,bne_eq_false_iff_eq,Bool.not_eq_true',Bool.not_eq_false',Int.not_lt,Int.not_le,ne_eq,Bool.and_eq_true,Bool.or_eq_true,Bool.or_eq_false_iff,Bool.and_eq_false_iff] at hg5 <;> simp only [go_sem,a70,a70r0,a70r1,a70r2,a70r3,a70r4,a70r5,a70r6,a70r7,a70r8,a70r9,a70r10,a70r11,a70r12,a70r13,a70r14,a70r15,a70r16,a70r17,a70r18]
        · rw [wrap_i64 (x := 7 - wdP (D + o)) (by omega) (by omega), wrap_i64 (x := D + o + (7 - wdP (D + o))) (by omega) (by omega)]
          refine callC_det (valid_ok (D + o + (7 - wdP (D + o)))) rfl rfl ?_
          simp only [go_sem]
          refine condC_intro ?_ ?_ <;> intro hg <;> simp only [decide_eq_true_eq,decide_eq_false_iff_not,beq_iff_eq,beq_eq_false_iff_ne,bne_iff_ne,bne_eq_false_iff_eq,Bool.not_eq_true',Bool.not_eq_false',Int.not_lt,Int.not_le,ne_eq,Bool.and_eq_true,Bool.or_eq_true,Bool.or_eq_false_iff,Bool.and_eq_false_iff] at hg <;> simp only [go_sem,a70,a70r0,a70r1,a70r2,a70r3,a70r4,a70r5,a70r6,a70r7,a70r8,a70r9,a70r10,a70r11,a70r12,a70r13,a70r14,a70r15,a70r16,a70r17,a70r18]
          · exact Cl.fin rfl ⟨(fin_no hB (mvP_true hg5) hg).symm, rfl⟩
          · exact Cl.fin rfl ⟨(fin_yes hB (mvP_true hg5) hg).symm, rfl⟩
        · refine callC_det (valid_ok (D + o)) rfl rfl ?_
          simp only [go_sem]
          refine condC_intro ?_ ?_ <;> intro hg <;> simp only [decide_eq_true_eq,decide_eq_false_iff_not,beq_iff_eq,beq_eq_false_iff_ne,bne_iff_ne,bne_eq_false_iff_eq,Bool.not_eq_true',Bool.not_eq_false',Int.not_lt,Int.not_le,ne_eq,Bool.and_eq_true,Bool.or_eq_true,Bool.or_eq_false_iff,Bool.and_eq_false_iff] at hg <;> simp only [go_sem,a70,a70r0,a70r1,a70r2,a70r3,a70r4,a70r5,a70r6,a70r7,a70r8,a70r9,a70r10,a70r11,a70r12,a70r13,a70r14,a70r15,a70r16,a70r17,a70r18]
          · exact Cl.fin rfl ⟨(fin_no hB (mvP_not hg5) hg).symm, rfl⟩
          · exact Cl.fin rfl ⟨(fin_yes hB (mvP_not hg5) hg).symm, rfl⟩
    · rw [if_neg hd] at hN
      refine callC_det hN rfl rfl ?_
      simp only [go_sem,a70,a70r0,a70r1,a70r2,a70r3,a70r4,a70r5,a70r6,a70r7,a70r8,a70r9,a70r10,a70r11,a70r12,a70r13,a70r14,a70r15,a70r16,a70r17,a70r18]
      exact Cl.fin rfl ⟨(fin_none (by rw [nmB, if_neg (by simp), if_neg (by simp), if_neg hd])).symm, rfl⟩

end Go.Proofs.YtlanehcihoiglaaGreatDoor
