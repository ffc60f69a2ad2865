/- TopLeave. -/
import Derived.Test.YtpincjkjoeopkaaGreatDoorFgE
import Derived.Test.YtpincjkjoeopkaaGreatDoorF9Tim
set_option linter.unusedSimpArgs false
set_option linter.unusedVariables false
set_option linter.unusedSectionVars false
namespace Go.Proofs.YtpincjkjoeopkaaGreatDoor
open Go Go.Abs
set_option linter.unusedSimpArgs false
set_option linter.unusedVariables false

set_option maxHeartbeats 4000000 in
theorem leaLaw (hT : AFn Tryz.prog 35 [] [] (fun v rs => v = .bool true ∧ rs = [])) (l : List Int) (hl : TapeOk l) : AFn Tryz.prog 9 [.pure 1 (numsE .i64 l)] [] (fun v rs => v = .bool true ∧ rs = []) := by
  refine afnW Tryz.func9 a9_ok (by simp [a9, s9]) ?_
  simp only [go_sem,a9,s9]
  (repeat (first | (refine Cl.here ?_; simp only [go_sem]) | simp only [go_sem]))
  (refine callC_of [] [] (by simp) rfl (bindL_clean _ (by first | rfl | simp only [go_sem])) (new_ok l) ?_; rintro _ _ ⟨rfl,rfl⟩; refine ⟨.inl rfl,?_⟩; simp only [go_sem])
  (repeat (first | (refine Cl.here ?_; simp only [go_sem]) | simp only [go_sem]))
  (refine callC_of [0] [] (by decide) (by simp only [go_sem] <;> rfl) (by simp only [go_sem] <;> rfl) (absences_ok l hl 6 (by omega) (by omega) 0 (by omega) (by omega)) ?_; rintro _ _ ⟨at1,xs,rfl,rfl,h0,h1,hxl,hxg⟩; refine ⟨.inl rfl,?_⟩; simp only [go_sem])
  simp only [go_sem,tp]
  (refine callC_of [0] [] (by decide) (by simp only [go_sem] <;> rfl) (by simp only [go_sem] <;> rfl) (plan_ok l hl 5 (by omega) (by omega) at1 h0 h1) ?_; rintro _ _ ⟨at2,pl,rfl,rfl,h2,h3,hpl,hpe,hpd,hpg⟩; refine ⟨.inl rfl,?_⟩; simp only [go_sem])
  simp only [go_sem,tp]
  have hG : LvG pl xs := ⟨hpg, hpd, hxg, by omega⟩
  have hE : evE xs 20454 20474 = 0 := by
    unfold evE
    rw [if_neg (by omega), if_neg (by omega), if_neg (by omega)]
  have hEv := evT pl hpe xs (by omega) hxg 20454 20474 hE
  obtain ⟨hR1, hR2, hR3⟩ := dayRs_lv hG
  generalize dayRs pl 1 20454 20474 xs (mrkL xs) = R at *
  have hbx : ∀ r0 r1 r3 : Row, bindV [r0, r1, .live 25 4 (els xs), r3] [some 1] [2, 3] (.own 2 xs.length 0 xs.length) = .pure 4 (els xs) := fun _ _ _ => bindV_frz rfl rfl rfl (by rw [els_length]) els_clean
  have hbp : ∀ r0 r1 r2 : Row, bindV [r0, r1, r2, .live 140 3 (els pl)] [some 1] [2, 3] (.own 3 pl.length 0 pl.length) = .pure 3 (els pl) := fun _ _ _ => bindV_frz rfl rfl rfl (by rw [els_length]) els_clean
  refine Cl.frz [some 1] [2,3] rfl rfl (by simp only [go_sem] <;> rfl) ?_
  simp only [List.map_cons, List.map_nil, hbx, hbp]
  simp only [go_sem]
  (refine Cl.here ?_; simp only [go_sem])
  (refine callC_of [] [] (by simp) rfl (bindL_clean _ (by first | rfl | simp only [go_sem])) (sheet_ok) ?_; rintro _ _ ⟨rfl,rfl⟩; refine ⟨.inl rfl,?_⟩; simp only [go_sem])
  refine callC_of [1] [] (by decide) (by simp only [go_sem] <;> rfl) (by simp only [go_sem,els_clean] <;> rfl) hEv ?_
  rintro _ _ ⟨rfl, rfl⟩
  refine ⟨.inl rfl, ?_⟩
  simp only [go_sem,els_clean]
  (refine Cl.tr [some 0] [] rfl rfl (by simp only [go_sem] <;> rfl) ?_; simp only [go_sem])
  (refine Cl.here ?_; simp only [go_sem])
  (refine Cl.here ?_; simp only [go_sem])
  (refine Cl.here ?_; simp only [go_sem])
  refine avcW_loop (fun env rows => ∃ i : Nat, i ≤ R.length ∧ env = [(4, .ref 0 1 0 0), (7, .pure 3 (els R)), (8, .int .i64 0), (9, .own 1 (bkL (R.take i)).length 0 (bkL (R.take i)).length), (10, .int .i64 i)] ∧ rows = [.live 99 8 [[.int .i64 1000, .int .i64 100000, .int .i64 12, .int .i64 28, .int .i64 100000, .int .i64 20454, .int .i64 20494, .int .i64 0]], .live 102 2 (els (bkL (R.take i)))])
    (fun env _ => match slot env 10 with | .int _ j => (R.length - j).toNat | _ => 0) ?_ ?_
  · (refine Cl.ghost 9  102  2 rfl (Cl.norm [ 4,7,8,9,10] ?_); simp only [go_sem])
    exact Cl.here ⟨0, by omega, rfl, rfl⟩
  rintro env rows ⟨i, hi, rfl, rfl⟩
  have hw : IntKind.i64.wrap ((i : Int) + 1) = ((i + 1 : Nat) : Int) := by rw [wrap_i64 (by omega) (by omega)]; omega
  by_cases hlt : i < R.length
  · have q1 : decide ((i : Int) < R.length) = true := decide_eq_true (by omega)
    have z0' : (0 : Int) ≤ i := by omega
    have z1' : (i : Int) < R.length := by omega
    have gz : (els R).getD i [] = Cel.c R[i] := els_getD hlt
    have hnx := bkL_take hlt
    have hr2 := hR2 R[i] (List.getElem_mem hlt)
    generalize hr : R[i] = r at *
    obtain ⟨day, ts, an⟩ := r
    simp only at *
    have htl := hr2.n
    simp only at htl
    have hb5 := boG_len (bkL_good (R := R.take i) (hR1.sublist (List.take_sublist i R)) fun r hr => hR2 r (List.mem_of_mem_take hr))
    have hbl : ∀ j, (bkL (R.take i) ++ bkT day (ts.take j)).length ≤ 1000 := fun j => by
      have h1 : (bkT day (ts.take j)).length ≤ (ts.take j).length := by unfold bkT; rw [List.length_map]; exact List.length_filter_le _ _
      have h2 : (ts.take j).length ≤ ts.length := by simp; omega
      rw [List.length_append]; omega
    simp only [go_sem,a9,s9,els_length]
    (refine Cl.here ?_; simp only [go_sem])
    simp only [go_sem,q1]
    (refine Cl.here ?_; simp only [go_sem])
    (refine Cl.here ?_; simp only [go_sem])
    refine avcW_loop (fun env rows => ∃ j : Nat, j ≤ ts.length ∧ env = [(4, .ref 0 1 0 0), (7, .pure 3 (els R)), (8, .int .i64 0), (9, .own 1 (bkL (R.take i) ++ bkT day (ts.take j)).length 0 (bkL (R.take i) ++ bkT day (ts.take j)).length), (10, .int .i64 i), (11, .int .i64 j)] ∧ rows = [.live 99 8 [[.int .i64 1000, .int .i64 100000, .int .i64 12, .int .i64 28, .int .i64 100000, .int .i64 20454, .int .i64 20494, .int .i64 0]], .live 102 2 (els (bkL (R.take i) ++ bkT day (ts.take j)))])
      (fun env _ => match slot env 11 with | .int _ j => (ts.length - j).toNat | _ => 0) ?_ ?_
    · exact Cl.here ⟨0, by omega, by simp [bkT], by simp [bkT]⟩
    · rintro env rows ⟨j, hj, rfl, rfl⟩
      have hwj : IntKind.i64.wrap ((j : Int) + 1) = ((j + 1 : Nat) : Int) := by rw [wrap_i64 (by omega) (by omega)]; omega
      simp only [go_sem,a9,s9,z0',z1',gz,els_length,cel_dr]
      (refine Cl.here ?_; simp only [go_sem])
      by_cases hjl : j < ts.length
      · have q2 : decide ((j : Int) < ts.length) = true := decide_eq_true (by omega)
        have y0' : (0 : Int) ≤ j := by omega
        have y1' : (j : Int) < ts.length := by omega
        have gy : (els ts).getD j [] = Cel.c ts[j] := els_getD hjl
        have hsn := bkT_snoc (d := day) hjl
        have hbj := hbl j
        generalize ts[j] = t at *
        simp only [go_sem,q2]
        (refine Cl.here ?_; simp only [go_sem])
        simp only [go_sem,z0',z1',gz,els_length,cel_dr,y0',y1',gy,cel_ti]
        (refine Cl.here ?_; simp only [go_sem])
        refine condW_intro ?_ ?_ <;> intro hg <;> simp only [decide_eq_true_eq,decide_eq_false_iff_not,beq_iff_eq,beq_eq_false_iff_ne,bne_iff_ne,bne_eq_false_iff_eq,Bool.not_eq_true',Bool.not_eq_false',Int.not_lt,Int.not_le,ne_eq,Bool.and_eq_true,Bool.or_eq_true,Bool.or_eq_false_iff,Bool.and_eq_false_iff] at hg <;> simp only [go_sem,a9,s9,z0',z1',gz,els_length,cel_dr,y0',y1',gy,cel_ti]
        · have hN : t.n = nmL := ba_toList hg
          rw [if_pos hN] at hsn
          have hel : els (bkL (R.take i) ++ bkT day (ts.take j)) ++ [[.int .i64 day, .int .i64 t.m]] = els (bkL (R.take i) ++ bkT day (ts.take (j + 1))) := by
            rw [hsn, ← List.append_assoc]; exact els_snoc (x := Bo.mk day t.m)
          have hle : (bkL (R.take i) ++ bkT day (ts.take (j + 1))).length = (bkL (R.take i) ++ bkT day (ts.take j)).length + 1 := by
            rw [hsn, ← List.append_assoc, List.length_append]; rfl
          refine ⟨by omega, ?_⟩
          rw [hel, ← hle]
          (refine Cl.tr [some 0,some 1] [] rfl rfl (by simp only [go_sem] <;> rfl) ?_; simp only [go_sem])
          (refine Cl.here ?_; simp only [go_sem])
          rw [hwj]
          refine Cl.here ⟨⟨j + 1, by omega, rfl, rfl⟩, ?_⟩
          simp only [go_sem]
          omega
        · have hN : ¬ t.n = nmL := fun e => hg (by rw [e]; rfl)
          rw [if_neg hN] at hsn
          (refine Cl.here ?_; simp only [go_sem])
          rw [hwj]
          refine Cl.here ⟨⟨j + 1, by omega, by rw [hsn], by rw [hsn]⟩, ?_⟩
          simp only [go_sem]
          omega
      · have q2 : decide ((j : Int) < ts.length) = false := decide_eq_false (by omega)
        obtain rfl : j = ts.length := by omega
        simp only [go_sem,q2]
        (refine Cl.here ?_; simp only [go_sem])
        rw [hw, ← hnx]
        refine Cl.here ⟨⟨i + 1, by omega, rfl, rfl⟩, ?_⟩
        simp only [go_sem]
        omega
  · have q1 : decide ((i : Int) < R.length) = false := decide_eq_false (by omega)
    obtain rfl : i = R.length := by omega
    rw [List.take_length]
    simp only [go_sem,a9,s9,els_length]
    (refine Cl.here ?_; simp only [go_sem])
    simp only [go_sem,q1]
    have hbg := bkL_good hR1 hR2
    have hB := balance_ok (bkL R) hbg
    have hb5 := boG_len hbg
    have hS := sum_ok R 20454 20484 (fun r hr => by have := (hR2 r hr).d; omega) (by omega) (fun t ht => by have := flT_mem hR2 ht; exact ⟨by omega, this.2.2⟩) (by have := flT_len hR2; omega)
    have hTb : 0 ≤ tkS (bkL R) ∧ tkS (bkL R) ≤ 50000 := by
      have := sum_le_mul Bo.min 10000 (l := bkL R) fun b hb => by have := hbg.2 b hb; omega
      unfold tkS; omega
    have hlast : lastN (smR (flT R)) nmL = tkS (bkL R) := by rw [lastN_sm, tkS_bkL]
    have hql : (smR (flT R)).length ≤ 1000 := by
      have h1 := smK_len (flT R)
      have h2 := flT_len hR2
      have h3 := (srtB_perm (smK (flT R))).length_eq
      unfold smR
      rw [List.length_map]
      omega
    generalize smR (flT R) = q at *
    generalize bkL R = bs at *
    generalize tkS bs = tk at *
    have hbv : ∀ r0 : Row, bindV [r0, .live 102 2 (els bs)] [some 0] [1] (.own 1 bs.length 0 bs.length) = .pure 2 (els bs) := fun r0 => bindV_frz rfl rfl rfl (by rw [els_length]) els_clean
    refine Cl.frz [some 0] [1] rfl rfl (by simp only [go_sem] <;> rfl) ?_
    simp only [List.map_cons, List.map_nil, hbv, bindV_clean (.pure 3 (els R)) (by simp only [clean, els_clean])]
    simp only [go_sem]
    unfold lvR at hB
    have hA := accrued_ok
    unfold lvR at hA
    (refine Cl.here ?_; simp only [go_sem])
    refine callC_det hB (by simp only [cleanL, clean, els_clean, Bool.and_self]) rfl ?_
    simp only [go_sem]
    (refine Cl.here ?_; simp only [go_sem])
    refine callC_det hS (by simp only [cleanL, clean, els_clean, Bool.and_self]) rfl ?_
    simp only [go_sem]
    (refine Cl.here ?_; simp only [go_sem])
    (refine Cl.here ?_; simp only [go_sem])
    (refine Cl.here ?_; simp only [go_sem])
    refine avcW_loop (fun env rows => ∃ k : Nat, k ≤ q.length ∧ env = [(4, .ref 0 1 0 0), (8, .int .i64 0), (12, .ref 1 1 0 0), (13, .int .i64 0), (14, .pure 2 (els q)), (15, .int .i64 (lastN (q.take k) nmL)), (16, .int .i64 k)] ∧ rows = [.live 99 8 [[.int .i64 1000, .int .i64 100000, .int .i64 12, .int .i64 28, .int .i64 100000, .int .i64 20454, .int .i64 20494, .int .i64 0]], .live 104 4 [[.int .i64 0, .int .i64 (1000 - tk), .int .i64 0, .int .i64 tk]]])
      (fun env _ => match slot env 16 with | .int _ j => (q.length - j).toNat | _ => 0) ?_ ?_
    · exact Cl.here ⟨0, by omega, rfl, rfl⟩
    rintro env rows ⟨k, hk, rfl, rfl⟩
    have hw : IntKind.i64.wrap ((k : Int) + 1) = ((k + 1 : Nat) : Int) := by rw [wrap_i64 (by omega) (by omega)]; omega
    by_cases hlt : k < q.length
    · have q3 : decide ((k : Int) < q.length) = true := decide_eq_true (by omega)
      have z0' : (0 : Int) ≤ k := by omega
      have z1' : (k : Int) < q.length := by omega
      have gz : (els q).getD k [] = Cel.c q[k] := els_getD hlt
      have hsn := lastN_take (n := nmL) hlt
      generalize q[k] = t at *
      simp only [go_sem,a9,s9,els_length]
      (refine Cl.here ?_; simp only [go_sem])
      simp only [go_sem,q3]
      (refine Cl.here ?_; simp only [go_sem])
      simp only [go_sem,z0',z1',gz,els_length,cel_ti]
      (refine Cl.here ?_; simp only [go_sem])
      refine condW_intro ?_ ?_ <;> intro hg <;> simp only [decide_eq_true_eq,decide_eq_false_iff_not,beq_iff_eq,beq_eq_false_iff_ne,bne_iff_ne,bne_eq_false_iff_eq,Bool.not_eq_true',Bool.not_eq_false',Int.not_lt,Int.not_le,ne_eq,Bool.and_eq_true,Bool.or_eq_true,Bool.or_eq_false_iff,Bool.and_eq_false_iff] at hg <;> simp only [go_sem,a9,s9,z0',z1',gz,els_length,cel_ti]
      · have hN : t.n = nmL := ba_toList hg
        rw [if_pos hN] at hsn
        (refine Cl.here ?_; simp only [go_sem])
        rw [hw]
        refine Cl.here ⟨⟨k + 1, by omega, by rw [hsn], rfl⟩, ?_⟩
        simp only [go_sem]
        omega
      · have hN : ¬ t.n = nmL := fun e => hg (by rw [e]; rfl)
        rw [if_neg hN] at hsn
        (refine Cl.here ?_; simp only [go_sem])
        rw [hw]
        refine Cl.here ⟨⟨k + 1, by omega, by rw [hsn], rfl⟩, ?_⟩
        simp only [go_sem]
        omega
    · have q3 : decide ((k : Int) < q.length) = false := decide_eq_false (by omega)
      obtain rfl : k = q.length := by omega
      rw [List.take_length, hlast]
      simp only [go_sem,a9,s9,els_length]
      (refine Cl.here ?_; simp only [go_sem])
      simp only [go_sem,q3]
      (refine Cl.here ?_; simp only [go_sem])
      have w1 : IntKind.i64.wrap (IntKind.i64.wrap (IntKind.i64.wrap (0 + (1000 - tk)) + 0) + tk) = 1000 := by
        rw [wrap_i64 (x := 0 + (1000 - tk)) (by omega) (by omega), wrap_i64 (x := 0 + (1000 - tk) + 0) (by omega) (by omega), wrap_i64 (by omega) (by omega)]; omega
      refine callD_det hA rfl rfl ?_
      simp only [go_sem,w1]
      refine callD_det hT rfl rfl ?_
      simp only [go_sem]
      (refine Cl.here ?_; simp only [go_sem])
      exact Cl.fin rfl ⟨rfl, rfl⟩
theorem topLeave (l : List Int) (hl : TapeOk l) : AFn Tryz.prog 9 [.pure 1 (numsE .i64 l)] [] (fun v rs => v = .bool true ∧ rs = []) := leaLaw timed_ok l hl

end Go.Proofs.YtpincjkjoeopkaaGreatDoor
