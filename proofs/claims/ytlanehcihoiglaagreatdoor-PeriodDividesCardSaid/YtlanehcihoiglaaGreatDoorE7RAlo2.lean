/- The reference's Allocate. -/
import Derived.Test.YtlanehcihoiglaaGreatDoorE7RAlo
set_option linter.unusedSimpArgs false
set_option linter.unusedVariables false
set_option linter.unusedSectionVars false
namespace Go.Proofs.YtlanehcihoiglaaGreatDoor
open Go Go.Abs
set_option linter.unusedSimpArgs false
set_option linter.unusedVariables false

set_option maxHeartbeats 2000000 in
theorem rAlloc_ok (t : Int) (ws : List Int) (hn : 0 < ws.length) (hl : ws.length ≤ 39) (hw : ∀ w ∈ ws, 0 ≤ w ∧ w ≤ 1000000000) :
    AFn Tryz.prog 44 [.int .i64 t, .pure 1 (numsE .i64 ws)] []
      (fun v rs => (aloE t ws ≠ 0 ∧ v = .tup [.nils, .int .i64 (aloE t ws)] ∧ rs = []) ∨ (aloE t ws = 0 ∧ v = .tup [.own 0 ws.length 0 ws.length, .int .i64 0] ∧ rs = [.live 3 1 (numsE .i64 (raloL t ws))])) := by
  refine afn Tryz.func44 a44_ok (by simp [a44]) ?_
  have c1 : ¬ (ws.length : Int) > 1024 := by omega
  have hsb : ∀ i, i ≤ ws.length → 0 ≤ (ws.take i).sum ∧ (ws.take i).sum ≤ 1000000000 * i := by
    intro i
    induction i with
    | zero => intro _; simp
    | succ i ih =>
      intro h
      have h1 := ih (by omega)
      rw [sum_take (by omega)]
      have h3 := hw ws[i] (List.getElem_mem _)
      omega
  by_cases c2 : t < -1000000000
  · simp only [go_sem,a44,a44r0,a44r1,a44r2,a44r3,a44r4,a44r5,a44r6,a44r7,a44r8,a44r9,a44r10,a44r11,a44r12,a44r13,a44r14,a44r15,a44r16,a44r17,a44r18,a44r19,a44r20,a44r21,a44r22,a44r23,a44r24,a44r25,a44r26,a44r27,a44r28,a44r29,a44r30,a44r31,a44r32,a44r33,a44r34,a44r35,a44r36,a44r37,a44r38,c1,c2]
    exact Cl.fin rfl (.inl ⟨by unfold aloE; rw [if_pos (.inl c2)]; decide, by unfold aloE; rw [if_pos (.inl c2)], rfl⟩)
  by_cases c3 : 1000000000 < t
  · simp only [go_sem,a44,a44r0,a44r1,a44r2,a44r3,a44r4,a44r5,a44r6,a44r7,a44r8,a44r9,a44r10,a44r11,a44r12,a44r13,a44r14,a44r15,a44r16,a44r17,a44r18,a44r19,a44r20,a44r21,a44r22,a44r23,a44r24,a44r25,a44r26,a44r27,a44r28,a44r29,a44r30,a44r31,a44r32,a44r33,a44r34,a44r35,a44r36,a44r37,a44r38,c1,c2,c3]
    exact Cl.fin rfl (.inl ⟨by unfold aloE; rw [if_pos (.inr c3)]; decide, by unfold aloE; rw [if_pos (.inr c3)], rfl⟩)
  have hE : aloE t ws = if ws.sum = 0 then 5 else 0 := by unfold aloE; rw [if_neg (by omega)]
  rw [hE]
  simp only [go_sem,a44,a44r0,a44r1,a44r2,a44r3,a44r4,a44r5,a44r6,a44r7,a44r8,a44r9,a44r10,a44r11,a44r12,a44r13,a44r14,a44r15,a44r16,a44r17,a44r18,a44r19,a44r20,a44r21,a44r22,a44r23,a44r24,a44r25,a44r26,a44r27,a44r28,a44r29,a44r30,a44r31,a44r32,a44r33,a44r34,a44r35,a44r36,a44r37,a44r38,c1,c2,c3]
  refine avc_loop (fun env rows => ∃ i : Nat, i ≤ ws.length ∧ env = [(0, .int .i64 t), (1, .pure 1 (numsE .i64 ws)), (6, .int .i64 ((ws.take i).sum)), (7, .int .i64 i)] ∧ rows = [])
    (fun env _ => match slot env 7 with | .int _ j => (ws.length - j).toNat | _ => 0) ?_ ?_
  · exact Cl.here ⟨0, by omega, rfl, rfl⟩
  rintro env rows ⟨i, hi, rfl, rfl⟩
  have hw1 : IntKind.i64.wrap ((i : Int) + 1) = ((i + 1 : Nat) : Int) := by rw [wrap_i64 (by omega) (by omega)]; omega
  simp only [go_sem,a44,a44r0,a44r1,a44r2,a44r3,a44r4,a44r5,a44r6,a44r7,a44r8,a44r9,a44r10,a44r11,a44r12,a44r13,a44r14,a44r15,a44r16,a44r17,a44r18,a44r19,a44r20,a44r21,a44r22,a44r23,a44r24,a44r25,a44r26,a44r27,a44r28,a44r29,a44r30,a44r31,a44r32,a44r33,a44r34,a44r35,a44r36,a44r37,a44r38]
  refine condC_intro ?_ ?_ <;> intro hg2 <;> simp only [decide_eq_true_eq,decide_eq_false_iff_not,beq_iff_eq,beq_eq_false_iff_ne,bne_iff_ne,bne_eq_false_iff_eq,Bool.not_eq_true',Bool.not_eq_false',Int.not_lt,Int.not_le,ne_eq,Bool.and_eq_true,Bool.or_eq_true,Bool.or_eq_false_iff,Bool.and_eq_false_iff] at hg2 <;> simp only [go_sem,a44,a44r0,a44r1,a44r2,a44r3,a44r4,a44r5,a44r6,a44r7,a44r8,a44r9,a44r10,a44r11,a44r12,a44r13,a44r14,a44r15,a44r16,a44r17,a44r18,a44r19,a44r20,a44r21,a44r22,a44r23,a44r24,a44r25,a44r26,a44r27,a44r28,a44r29,a44r30,a44r31,a44r32,a44r33,a44r34,a44r35,a44r36,a44r37,a44r38]
  · have hlt : i < ws.length := by omega
    have hgw : (numsE .i64 ws).getD i [] = [.int .i64 ws[i]] := by rw [numsE_getD hlt, List.getD_eq_getElem?_getD, List.getElem?_eq_getElem hlt, Option.getD_some]
    have hi0 : (0 : Int) ≤ i := by omega
    have hb := hsb i (by omega)
    have hsn := sum_take hlt
    have hwi := hw ws[i] (List.getElem_mem _)
    generalize ws[i] = w at hgw hsn hwi
    have d1 : ¬ w < 0 := by omega
    have d2 : ¬ w > 1000000000 := by omega
    simp only [go_sem,hi0,hg2,hgw,Int.toNat_natCast,d1,d2]
    rw [wrap_i64 (x := (ws.take i).sum + w) (by omega) (by omega), ← hsn, hw1]
    refine Cl.here ⟨⟨i + 1, by omega, rfl, rfl⟩, ?_⟩
    simp only [go_sem]
    omega
  obtain rfl : i = ws.length := by omega
  rw [List.take_length]
  have hb := hsb ws.length (Nat.le_refl _)
  rw [List.take_length] at hb
  by_cases hz : ws.sum = 0
  · have hzb : (ws.sum == 0) = true := by simp [hz]
    simp only [go_sem,hzb]
    rw [if_pos hz]
    exact Cl.fin rfl (.inl ⟨by decide, rfl, rfl⟩)
  have hzb : (ws.sum == 0) = false := by simp [hz]
  rw [if_neg hz]
  have hs0 : 0 < ws.sum := by omega
  have hT0 : 0 ≤ tAbs t := by unfold tAbs; split <;> omega
  have hT1 : tAbs t ≤ 1000000000 := by unfold tAbs; split <;> omega
  have hmb := miss_bd (t := tAbs t) (s := ws.sum) (ws := ws) rfl hs0 hn
  have hdef : raloL t ws = if t < 0 then (incs (partL (tAbs t) ws.sum ws) (pks (restL (tAbs t) ws.sum ws) (missL (tAbs t) ws.sum ws).toNat)).map (- ·) else incs (partL (tAbs t) ws.sum ws) (pks (restL (tAbs t) ws.sum ws) (missL (tAbs t) ws.sum ws).toNat) := rfl
  generalize raloL t ws = RES at hdef ⊢
  have hwn : t < 0 → IntKind.i64.wrap (0 - t) = tAbs t := fun h => by rw [wrap_i64 (by omega) (by omega)]; unfold tAbs; rw [if_pos h]; omega
  have htp : ¬ t < 0 → t = tAbs t := fun h => by unfold tAbs; rw [if_neg h]
  simp only [go_sem,hzb]
  generalize hT : tAbs t = T at *
  refine condC_cut (fun env rows => slot env 0 = .int .i64 t ∧ slot env 1 = .pure 1 (numsE .i64 ws) ∧ slot env 6 = .int .i64 ws.sum ∧ slot env 8 = .int .i64 T ∧ rows = []) ?_ ?_ ?_
  · intro hg; simp only [decide_eq_true_eq, decide_eq_false_iff_not, beq_iff_eq, beq_eq_false_iff_ne, bne_iff_ne, bne_eq_false_iff_eq, Bool.not_eq_true', Bool.not_eq_false', Int.not_lt, Int.not_le, ne_eq, Bool.and_eq_true, Bool.or_eq_true, Bool.or_eq_false_iff, Bool.and_eq_false_iff] at hg
    simp only [go_sem,a44,a44r0,a44r1,a44r2,a44r3,a44r4,a44r5,a44r6,a44r7,a44r8,a44r9,a44r10,a44r11,a44r12,a44r13,a44r14,a44r15,a44r16,a44r17,a44r18,a44r19,a44r20,a44r21,a44r22,a44r23,a44r24,a44r25,a44r26,a44r27,a44r28,a44r29,a44r30,a44r31,a44r32,a44r33,a44r34,a44r35,a44r36,a44r37,a44r38,hwn hg]
  · intro hg; simp only [decide_eq_true_eq, decide_eq_false_iff_not, beq_iff_eq, beq_eq_false_iff_ne, bne_iff_ne, bne_eq_false_iff_eq, Bool.not_eq_true', Bool.not_eq_false', Int.not_lt, Int.not_le, ne_eq, Bool.and_eq_true, Bool.or_eq_true, Bool.or_eq_false_iff, Bool.and_eq_false_iff] at hg
    simp only [go_sem,a44,a44r0,a44r1,a44r2,a44r3,a44r4,a44r5,a44r6,a44r7,a44r8,a44r9,a44r10,a44r11,a44r12,a44r13,a44r14,a44r15,a44r16,a44r17,a44r18,a44r19,a44r20,a44r21,a44r22,a44r23,a44r24,a44r25,a44r26,a44r27,a44r28,a44r29,a44r30,a44r31,a44r32,a44r33,a44r34,a44r35,a44r36,a44r37,a44r38]
    rw [← htp (by omega)]
  rintro env rows ⟨s0, s1, s6, s8, rfl⟩
  simp only [go_sem,a44,a44r0,a44r1,a44r2,a44r3,a44r4,a44r5,a44r6,a44r7,a44r8,a44r9,a44r10,a44r11,a44r12,a44r13,a44r14,a44r15,a44r16,a44r17,a44r18,a44r19,a44r20,a44r21,a44r22,a44r23,a44r24,a44r25,a44r26,a44r27,a44r28,a44r29,a44r30,a44r31,a44r32,a44r33,a44r34,a44r35,a44r36,a44r37,a44r38,s0,s1,s6,s8]
  have hPl : (partL T ws.sum ws).length = ws.length := by simp [partL]
  have hRl : (restL T ws.sum ws).length = ws.length := by simp [restL]
  have hP0 := fill_zero (L := partL T ws.sum ws)
  have hR0 := fill_zero (L := restL T ws.sum ws)
  rw [hPl] at hP0
  rw [hRl] at hR0
  refine ⟨⟨by omega, by omega, by omega, by omega⟩, ⟨by omega, by omega, by omega, by omega⟩, ?_⟩
  have hsumb : ∀ i, i ≤ ws.length → 0 ≤ ((partL T ws.sum ws).take i).sum ∧ ((partL T ws.sum ws).take i).sum ≤ 1000000000 * i := by
    intro i
    induction i with
    | zero => intro _; simp
    | succ i ih =>
      intro h
      have h1 := ih (by omega)
      rw [sum_take (by rw [hPl]; omega)]
      have h2 : (partL T ws.sum ws)[i]'(by rw [hPl]; omega) = T * ws[i] / ws.sum := by simp [partL]
      have h3 := hw ws[i] (List.getElem_mem _)
      have h4 := part_bd hT0 h3.1 (mem_le_sum (fun w hw' => (hw w hw').1) _ (List.getElem_mem _)) hs0
      rw [h2]
      omega
  refine avc_loop (fun env rows => ∃ i : Nat, i ≤ ws.length ∧ env = [(0, .int .i64 t), (1, .pure 1 (numsE .i64 ws)), (6, .int .i64 ws.sum), (8, .int .i64 T), (9, .own 0 ws.length 0 ws.length), (10, .own 1 ws.length 0 ws.length), (11, .int .i64 (T - ((partL T ws.sum ws).take i).sum)), (12, .int .i64 i)] ∧
      rows = [.live 3 1 (numsE .i64 (fillL (partL T ws.sum ws) i)), .live 3 1 (numsE .i64 (fillL (restL T ws.sum ws) i))])
    (fun env _ => match slot env 12 with | .int _ j => (ws.length - j).toNat | _ => 0) ?_ ?_
  · refine Cl.here ⟨0, by omega, by simp, ?_⟩
    rw [← hP0, ← hR0]
    try rfl
  rintro env rows ⟨i, hi, rfl, rfl⟩
  have hw1 : IntKind.i64.wrap ((i : Int) + 1) = ((i + 1 : Nat) : Int) := by rw [wrap_i64 (by omega) (by omega)]; omega
  simp only [go_sem,a44,a44r0,a44r1,a44r2,a44r3,a44r4,a44r5,a44r6,a44r7,a44r8,a44r9,a44r10,a44r11,a44r12,a44r13,a44r14,a44r15,a44r16,a44r17,a44r18,a44r19,a44r20,a44r21,a44r22,a44r23,a44r24,a44r25,a44r26,a44r27,a44r28,a44r29,a44r30,a44r31,a44r32,a44r33,a44r34,a44r35,a44r36,a44r37,a44r38]
  refine condC_intro ?_ ?_ <;> intro hg2 <;> simp only [decide_eq_true_eq,decide_eq_false_iff_not,beq_iff_eq,beq_eq_false_iff_ne,bne_iff_ne,bne_eq_false_iff_eq,Bool.not_eq_true',Bool.not_eq_false',Int.not_lt,Int.not_le,ne_eq,Bool.and_eq_true,Bool.or_eq_true,Bool.or_eq_false_iff,Bool.and_eq_false_iff] at hg2 <;> simp only [go_sem,a44,a44r0,a44r1,a44r2,a44r3,a44r4,a44r5,a44r6,a44r7,a44r8,a44r9,a44r10,a44r11,a44r12,a44r13,a44r14,a44r15,a44r16,a44r17,a44r18,a44r19,a44r20,a44r21,a44r22,a44r23,a44r24,a44r25,a44r26,a44r27,a44r28,a44r29,a44r30,a44r31,a44r32,a44r33,a44r34,a44r35,a44r36,a44r37,a44r38]
  · have hlt : i < ws.length := by omega
    have hgw : (numsE .i64 ws).getD i [] = [.int .i64 ws[i]] := by rw [numsE_getD hlt, List.getD_eq_getElem?_getD, List.getElem?_eq_getElem hlt, Option.getD_some]
    have hi0 : (0 : Int) ≤ i := by omega
    have hsi := hsumb i (by omega)
    have hsi1 := hsumb (i + 1) (by omega)
    have hw2 := hw ws[i] (List.getElem_mem _)
    have hmul : T * ws[i] ≤ 1000000000 * 1000000000 := Int.mul_le_mul hT1 hw2.2 hw2.1 (by omega)
    have hmul0 : 0 ≤ T * ws[i] := Int.mul_nonneg hT0 hw2.1
    have hpb := part_bd hT0 hw2.1 (mem_le_sum (fun w hw' => (hw w hw').1) _ (List.getElem_mem hlt)) hs0
    have hrb1 := Int.emod_nonneg (T * ws[i]) (b := ws.sum) (by omega)
    have hrb2 := Int.emod_lt_of_pos (T * ws[i]) hs0
    have e1 : IntKind.i64.wrap (T * ws[i]) = T * ws[i] := wrap_i64 (by omega) (by omega)
    have e2 : IntKind.i64.wrap ((T * ws[i]).tdiv ws.sum) = T * ws[i] / ws.sum := by rw [Int.tdiv_eq_ediv_of_nonneg hmul0]; exact wrap_i64 (by omega) (by omega)
    have e3 : (T * ws[i]).tmod ws.sum = T * ws[i] % ws.sum := Int.tmod_eq_emod_of_nonneg hmul0
    have gP := fill_get (L := partL T ws.sum ws) (i := i) (by omega)
    have gR := fill_get (L := restL T ws.sum ws) (i := i) (by omega)
    have sP := fill_set (L := partL T ws.sum ws) (i := i) (by omega)
    have sR := fill_set (L := restL T ws.sum ws) (i := i) (by omega)
    have vP : (partL T ws.sum ws)[i]'(by omega) = T * ws[i] / ws.sum := by simp [partL]
    have vR : (restL T ws.sum ws)[i]'(by omega) = T * ws[i] % ws.sum := by simp [restL]
    have lP := fill_len (L := partL T ws.sum ws) (i := i) (by omega)
    have lR := fill_len (L := restL T ws.sum ws) (i := i) (by omega)
    have lP1 := fill_len (L := partL T ws.sum ws) (i := i + 1) (by omega)
    have sT := sum_take (L := partL T ws.sum ws) (i := i) (by omega)
    have gP1 : (numsE .i64 (fillL (partL T ws.sum ws) (i + 1))).getD i [] = [.int .i64 (T * ws[i] / ws.sum)] := by
      rw [← sP, vP, List.getD_eq_getElem?_getD, List.getElem?_set, if_pos rfl, if_pos (by rw [numsE_length, lP, hPl]; omega)]
      rfl
    rw [vP] at sP sT
    rw [vR] at sR
    rw [hPl] at lP lP1
    rw [hRl] at lR
    rw [sT] at hsi1
    have eT : IntKind.i64.wrap (T - ((partL T ws.sum ws).take i).sum - T * ws[i] / ws.sum) = T - ((partL T ws.sum ws).take (i + 1)).sum := by
      rw [wrap_i64 (by omega) (by omega), sT]; omega
    simp only [go_sem,hi0,hg2,hgw,Int.toNat_natCast,e1,e2,e3,hz]
    refine ⟨lP.symm, lP.symm, lR.symm, lR.symm, lP.symm, lP.symm, ?_⟩
    simp only [go_sem,gP,gR,List.drop_one,List.tail_cons,sP,sR,gP1,eT,hw1]
    refine Cl.here ⟨⟨i + 1, by omega, rfl, rfl⟩, ?_⟩
    simp only [go_sem]
    omega
  obtain rfl : i = ws.length := by omega
  have f1 : fillL (partL T ws.sum ws) ws.length = partL T ws.sum ws := by rw [← hPl]; exact fill_all
  have f2 : fillL (restL T ws.sum ws) ws.length = restL T ws.sum ws := by rw [← hRl]; exact fill_all
  rw [f1, f2, List.take_of_length_le (by omega)]
  have hm : T - (partL T ws.sum ws).sum = missL T ws.sum ws := rfl
  rw [hm]
  obtain ⟨m, hm2⟩ : ∃ m : Nat, missL T ws.sum ws = m := ⟨(missL T ws.sum ws).toNat, by omega⟩
  rw [hm2] at hmb hdef ⊢
  rw [Int.toNat_natCast] at hdef
  have hPb : ∀ j, 0 ≤ (partL T ws.sum ws).getD j 0 ∧ (partL T ws.sum ws).getD j 0 ≤ 1000000000 := by
    intro j
    rcases Nat.lt_or_ge j ws.length with h | h
    · rw [List.getD_eq_getElem?_getD, List.getElem?_eq_getElem (by rw [hPl]; exact h), Option.getD_some]
      have h2 : (partL T ws.sum ws)[j]'(by rw [hPl]; exact h) = T * ws[j] / ws.sum := by simp [partL]
      have h3 := hw ws[j] (List.getElem_mem _)
      have h4 := part_bd hT0 h3.1 (mem_le_sum (fun w hw' => (hw w hw').1) _ (List.getElem_mem _)) hs0
      rw [h2]
      omega
    · rw [List.getD_eq_getElem?_getD, List.getElem?_eq_none (by rw [hPl]; exact h)]
      simp
  have hIl : ∀ k, (incs (partL T ws.sum ws) (pks (restL T ws.sum ws) k)).length = ws.length := fun k => by rw [incs_len, hPl]
  have hIb := fun k => incs_bd hPb (pks (restL T ws.sum ws) k)
  have hKl : ∀ k, (pkR (restL T ws.sum ws) k).length = ws.length := fun k => by rw [pkR_len, hRl]
  refine avc_loop (fun env rows => ∃ k : Nat, k ≤ m ∧ slot env 0 = .int .i64 t ∧ slot env 9 = .own 0 ws.length 0 ws.length ∧ slot env 10 = .own 1 ws.length 0 ws.length ∧ slot env 11 = .int .i64 ((m : Int) - k) ∧
      rows = [.live 3 1 (numsE .i64 (incs (partL T ws.sum ws) (pks (restL T ws.sum ws) k))), .live 3 1 (numsE .i64 (pkR (restL T ws.sum ws) k))])
    (fun env _ => match slot env 11 with | .int _ j => j.toNat | _ => 0) ?_ ?_
  · exact Cl.here ⟨0, by omega, rfl, rfl, rfl, by simp only [decide_eq_true_eq, decide_eq_false_iff_not, beq_iff_eq, beq_eq_false_iff_ne, bne_iff_ne, bne_eq_false_iff_eq, Bool.not_eq_true', Bool.not_eq_false', Int.not_lt, Int.not_le, ne_eq, Bool.and_eq_true, Bool.or_eq_true, Bool.or_eq_false_iff, Bool.and_eq_false_iff, Int.sub_zero, Int.natCast_zero]; rfl, rfl⟩
  rintro env rows ⟨k, hk, s0, s9, s10, s11, rfl⟩
  have hw1 : IntKind.i64.wrap ((m : Int) - k - 1) = (m : Int) - ((k + 1 : Nat) : Int) := by rw [wrap_i64 (by omega) (by omega)]; omega
  simp only [go_sem,a44,a44r0,a44r1,a44r2,a44r3,a44r4,a44r5,a44r6,a44r7,a44r8,a44r9,a44r10,a44r11,a44r12,a44r13,a44r14,a44r15,a44r16,a44r17,a44r18,a44r19,a44r20,a44r21,a44r22,a44r23,a44r24,a44r25,a44r26,a44r27,a44r28,a44r29,a44r30,a44r31,a44r32,a44r33,a44r34,a44r35,a44r36,a44r37,a44r38,s0,s9,s10,s11]
  refine condC_intro ?_ ?_ <;> intro hg2 <;> simp only [decide_eq_true_eq,decide_eq_false_iff_not,beq_iff_eq,beq_eq_false_iff_ne,bne_iff_ne,bne_eq_false_iff_eq,Bool.not_eq_true',Bool.not_eq_false',Int.not_lt,Int.not_le,ne_eq,Bool.and_eq_true,Bool.or_eq_true,Bool.or_eq_false_iff,Bool.and_eq_false_iff] at hg2 <;> simp only [go_sem,a44,a44r0,a44r1,a44r2,a44r3,a44r4,a44r5,a44r6,a44r7,a44r8,a44r9,a44r10,a44r11,a44r12,a44r13,a44r14,a44r15,a44r16,a44r17,a44r18,a44r19,a44r20,a44r21,a44r22,a44r23,a44r24,a44r25,a44r26,a44r27,a44r28,a44r29,a44r30,a44r31,a44r32,a44r33,a44r34,a44r35,a44r36,a44r37,a44r38]
  · have hlk := hKl k
    have hPk : pks (restL T ws.sum ws) (k + 1) = pks (restL T ws.sum ws) k ++ [((bst (pkR (restL T ws.sum ws) k) ws.length : Nat) : Int)] := by rw [pks, hRl]
    have hRk : pkR (restL T ws.sum ws) (k + 1) = (pkR (restL T ws.sum ws) k).set (bst (pkR (restL T ws.sum ws) k) ws.length) (-1) := by rw [pkR, hRl]
    have hIk : incs (partL T ws.sum ws) (pks (restL T ws.sum ws) (k + 1)) = (incs (partL T ws.sum ws) (pks (restL T ws.sum ws) k)).set (bst (pkR (restL T ws.sum ws) k) ws.length) ((incs (partL T ws.sum ws) (pks (restL T ws.sum ws) k)).getD (bst (pkR (restL T ws.sum ws) k) ws.length) 0 + 1) := by
      rw [hPk, incs_snoc, Int.toNat_natCast]
    have hil := hIl k
    have hib := hIb k (bst (pkR (restL T ws.sum ws) k) ws.length)
    rw [pks_len] at hib
    generalize pkR (restL T ws.sum ws) k = R at *
    generalize incs (partL T ws.sum ws) (pks (restL T ws.sum ws) k) = I at *
    refine avc_loop (fun env rows => ∃ i : Nat, 1 ≤ i ∧ i ≤ ws.length ∧ env = [(0, .int .i64 t), (9, .own 0 ws.length 0 ws.length), (10, .own 1 ws.length 0 ws.length), (11, .int .i64 ((m : Int) - k)), (13, .int .i64 (bst R i : Nat)), (14, .int .i64 i)] ∧
        rows = [.live 3 1 (numsE .i64 I), .live 3 1 (numsE .i64 R)])
      (fun env _ => match slot env 14 with | .int _ j => (ws.length - j).toNat | _ => 0) ?_ ?_
    · exact Cl.here ⟨1, by omega, by omega, by simp [bst], rfl⟩
    rintro env rows ⟨i, hi1, hi, rfl, rfl⟩
    have hwi : IntKind.i64.wrap ((i : Int) + 1) = ((i + 1 : Nat) : Int) := by rw [wrap_i64 (by omega) (by omega)]; omega
    have hbl := bst_lt (R := R) (n := i) (by omega)
    simp only [go_sem,a44,a44r0,a44r1,a44r2,a44r3,a44r4,a44r5,a44r6,a44r7,a44r8,a44r9,a44r10,a44r11,a44r12,a44r13,a44r14,a44r15,a44r16,a44r17,a44r18,a44r19,a44r20,a44r21,a44r22,a44r23,a44r24,a44r25,a44r26,a44r27,a44r28,a44r29,a44r30,a44r31,a44r32,a44r33,a44r34,a44r35,a44r36,a44r37,a44r38]
    refine condC_intro ?_ ?_ <;> intro hg3 <;> simp only [decide_eq_true_eq,decide_eq_false_iff_not,beq_iff_eq,beq_eq_false_iff_ne,bne_iff_ne,bne_eq_false_iff_eq,Bool.not_eq_true',Bool.not_eq_false',Int.not_lt,Int.not_le,ne_eq,Bool.and_eq_true,Bool.or_eq_true,Bool.or_eq_false_iff,Bool.and_eq_false_iff] at hg3 <;> simp only [go_sem,a44,a44r0,a44r1,a44r2,a44r3,a44r4,a44r5,a44r6,a44r7,a44r8,a44r9,a44r10,a44r11,a44r12,a44r13,a44r14,a44r15,a44r16,a44r17,a44r18,a44r19,a44r20,a44r21,a44r22,a44r23,a44r24,a44r25,a44r26,a44r27,a44r28,a44r29,a44r30,a44r31,a44r32,a44r33,a44r34,a44r35,a44r36,a44r37,a44r38]
    · have g1 : (numsE .i64 R).getD i [] = [.int .i64 (R.getD i 0)] := numsE_getD (by omega)
      have g2 : (numsE .i64 R).getD (bst R i) [] = [.int .i64 (R.getD (bst R i) 0)] := numsE_getD (by omega)
      have hi0 : (0 : Int) ≤ i := by omega
      have hb0 : (0 : Int) ≤ (bst R i : Nat) := by omega
      have hb1 : ((bst R i : Nat) : Int) < ws.length := by omega
      have hbs : bst R (i + 1) = if R.getD (bst R i) 0 < R.getD i 0 then i else bst R i := rfl
      simp only [go_sem,hi0,hg3,hb0,hb1,Int.toNat_natCast,g1,g2]
      refine ⟨hlk.symm, hlk.symm, hlk.symm, hlk.symm, ?_⟩
      refine condC_intro ?_ ?_ <;> intro hg4 <;> simp only [decide_eq_true_eq,decide_eq_false_iff_not,beq_iff_eq,beq_eq_false_iff_ne,bne_iff_ne,bne_eq_false_iff_eq,Bool.not_eq_true',Bool.not_eq_false',Int.not_lt,Int.not_le,ne_eq,Bool.and_eq_true,Bool.or_eq_true,Bool.or_eq_false_iff,Bool.and_eq_false_iff] at hg4 <;> simp only [go_sem,a44,a44r0,a44r1,a44r2,a44r3,a44r4,a44r5,a44r6,a44r7,a44r8,a44r9,a44r10,a44r11,a44r12,a44r13,a44r14,a44r15,a44r16,a44r17,a44r18,a44r19,a44r20,a44r21,a44r22,a44r23,a44r24,a44r25,a44r26,a44r27,a44r28,a44r29,a44r30,a44r31,a44r32,a44r33,a44r34,a44r35,a44r36,a44r37,a44r38]
      · rw [if_pos hg4] at hbs
        simp only [go_sem,hwi]
        refine Cl.here ⟨⟨i + 1, by omega, by omega, by rw [hbs], rfl⟩, ?_⟩
        simp only [go_sem]
        omega
      · rw [if_neg (by omega)] at hbs
        simp only [go_sem,hwi]
        refine Cl.here ⟨⟨i + 1, by omega, by omega, by rw [hbs], rfl⟩, ?_⟩
        simp only [go_sem]
        omega
    · obtain rfl : i = ws.length := by omega
      have hb0 : (0 : Int) ≤ (bst R ws.length : Nat) := by omega
      have hb1 : ((bst R ws.length : Nat) : Int) < ws.length := by omega
      have g1 : (numsE .i64 I).getD (bst R ws.length) [] = [.int .i64 (I.getD (bst R ws.length) 0)] := numsE_getD (by omega)
      have g2 : (numsE .i64 R).getD (bst R ws.length) [] = [.int .i64 (R.getD (bst R ws.length) 0)] := numsE_getD (by omega)
      have hwb : IntKind.i64.wrap (I.getD (bst R ws.length) 0 + 1) = I.getD (bst R ws.length) 0 + 1 := wrap_i64 (by omega) (by omega)
      have hs1 : (numsE .i64 I).set (bst R ws.length) [.int .i64 (I.getD (bst R ws.length) 0 + 1)] = numsE .i64 (incs (partL T ws.sum ws) (pks (restL T ws.sum ws) (k + 1))) := by
        rw [hIk]; unfold numsE; rw [List.map_set]
      have hs2 : (numsE .i64 R).set (bst R ws.length) [.int .i64 (-1)] = numsE .i64 (pkR (restL T ws.sum ws) (k + 1)) := by
        rw [hRk]; unfold numsE; rw [List.map_set]
      simp only [go_sem,hb0,hb1,Int.toNat_natCast,g1,g2,hwb,List.drop_one,List.tail_cons,hs1,hs2,hw1]
      refine ⟨hil.symm, hil.symm, hil.symm, hil.symm, hlk.symm, hlk.symm, ?_⟩
      refine Cl.here ⟨⟨k + 1, by omega, rfl, rfl, rfl, rfl, rfl⟩, ?_⟩
      simp only [go_sem]
      omega
  · obtain rfl : k = m := by omega
    have hil := hIl k
    have hib := hIb k
    rw [pks_len] at hib
    generalize incs (partL T ws.sum ws) (pks (restL T ws.sum ws) k) = L at *
    refine avc_loop (fun env rows => ∃ i : Nat, i ≤ ws.length ∧ (¬ t < 0 → i = 0) ∧ slot env 0 = .int .i64 t ∧ slot env 9 = .own 0 ws.length 0 ws.length ∧ slot env 15 = .int .i64 i ∧ rows = [.live 3 1 (numsE .i64 (negI L i))])
      (fun env _ => match slot env 15 with | .int _ j => (ws.length - j).toNat | _ => 0) ?_ ?_
    · (refine Cl.tr [some 0] [] rfl rfl (by simp only [go_sem] <;> rfl) ?_; simp only [go_sem])
      exact Cl.here ⟨0, by omega, fun _ => rfl, rfl, rfl, rfl, by simp [negI]⟩
    rintro env rows ⟨i, hi, hti, s0, s9, s15, rfl⟩
    have hwi : IntKind.i64.wrap ((i : Int) + 1) = ((i + 1 : Nat) : Int) := by rw [wrap_i64 (by omega) (by omega)]; omega
    by_cases ht : t < 0
    · simp only [go_sem,a44,a44r0,a44r1,a44r2,a44r3,a44r4,a44r5,a44r6,a44r7,a44r8,a44r9,a44r10,a44r11,a44r12,a44r13,a44r14,a44r15,a44r16,a44r17,a44r18,a44r19,a44r20,a44r21,a44r22,a44r23,a44r24,a44r25,a44r26,a44r27,a44r28,a44r29,a44r30,a44r31,a44r32,a44r33,a44r34,a44r35,a44r36,a44r37,a44r38,s0,s9,s15,ht]
      refine condC_intro ?_ ?_ <;> intro hg3 <;> simp only [decide_eq_true_eq,decide_eq_false_iff_not,beq_iff_eq,beq_eq_false_iff_ne,bne_iff_ne,bne_eq_false_iff_eq,Bool.not_eq_true',Bool.not_eq_false',Int.not_lt,Int.not_le,ne_eq,Bool.and_eq_true,Bool.or_eq_true,Bool.or_eq_false_iff,Bool.and_eq_false_iff] at hg3 <;> simp only [go_sem,a44,a44r0,a44r1,a44r2,a44r3,a44r4,a44r5,a44r6,a44r7,a44r8,a44r9,a44r10,a44r11,a44r12,a44r13,a44r14,a44r15,a44r16,a44r17,a44r18,a44r19,a44r20,a44r21,a44r22,a44r23,a44r24,a44r25,a44r26,a44r27,a44r28,a44r29,a44r30,a44r31,a44r32,a44r33,a44r34,a44r35,a44r36,a44r37,a44r38]
      · have hlt : i < L.length := by omega
        have i0 : (0 : Int) ≤ i := by omega
        have i1 : (i : Int) < ws.length := by omega
        have hgn := negI_get hlt
        have hsn := negI_set hlt
        have hb := hib i
        rw [List.getD_eq_getElem?_getD, List.getElem?_eq_getElem hlt, Option.getD_some] at hb
        have hnl := negI_len (L := L) (i := i) (by omega)
        rw [hil] at hnl
        have hwx : IntKind.i64.wrap (0 - L[i]) = -L[i] := by rw [wrap_i64 (by omega) (by omega)]; omega
        simp only [go_sem,i0,i1,Int.toNat_natCast,hgn,hwx,hnl,hsn,hwi,List.drop_one,List.tail_cons]
        refine Cl.here ⟨⟨i + 1, by omega, fun h => by first | exact absurd ht h | (exfalso; exact h trivial) | (exfalso; simp at h), rfl, rfl, rfl, rfl⟩, ?_⟩
        simp only [go_sem]
        omega
      · obtain rfl : i = ws.length := by omega
        have hA : negI L ws.length = RES := by
          rw [hdef, if_pos ht]
          unfold negI
          rw [← hil, List.take_length, List.drop_length, List.append_nil]
        rw [hA]
        first
          | exact Cl.fin rfl (.inr ⟨rfl, rfl, rfl⟩)
          | exact Cl.here (.inr ⟨rfl, rfl⟩)
          | exact Cl.here ⟨rfl, rfl⟩
    · obtain rfl := hti ht
      simp only [go_sem,a44,a44r0,a44r1,a44r2,a44r3,a44r4,a44r5,a44r6,a44r7,a44r8,a44r9,a44r10,a44r11,a44r12,a44r13,a44r14,a44r15,a44r16,a44r17,a44r18,a44r19,a44r20,a44r21,a44r22,a44r23,a44r24,a44r25,a44r26,a44r27,a44r28,a44r29,a44r30,a44r31,a44r32,a44r33,a44r34,a44r35,a44r36,a44r37,a44r38,s0,s9,s15,ht]
      have hA : negI L 0 = RES := by
        rw [hdef, if_neg ht]
        simp [negI]
      rw [hA]
      first
        | exact Cl.fin rfl (.inr ⟨rfl, rfl, rfl⟩)
        | exact Cl.here (.inr ⟨rfl, rfl⟩)
        | exact Cl.here ⟨rfl, rfl⟩

end Go.Proofs.YtlanehcihoiglaaGreatDoor
