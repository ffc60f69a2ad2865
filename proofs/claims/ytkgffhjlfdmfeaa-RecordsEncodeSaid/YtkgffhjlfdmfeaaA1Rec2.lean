/- Contracts of package records and of its reference: checksums and numbers. -/
import Derived.Test.YtkgffhjlfdmfeaaA1Rec
import Derived.Test.YtkgffhjlfdmfeaaA1Crc
set_option linter.unusedSimpArgs false
set_option linter.unusedVariables false
set_option linter.unusedSectionVars false
namespace Go.Proofs.Ytkgffhjlfdmfeaa
open Go Go.Abs Rec
set_option linter.unusedSimpArgs false

theorem take_succ {α : Type} {l : List α} {i : Nat} (h : i < l.length) : l.take (i + 1) = l.take i ++ [l[i]] := by
  rw [List.take_add_one, List.getElem?_eq_getElem h]; rfl
theorem crc_succ {l : List UInt8} {s i : Nat} (h : i < l.length) : crcFrom s (l.take (i + 1)) = crcStep (crcFrom s (l.take i)) l[i] := by
  rw [take_succ h, crcFrom_append]; simp only [crcFrom, List.foldl_cons, List.foldl_nil]
theorem rnd_hi {s : Nat} (h : 32768 ≤ s) : rnd s = (2 * s % 65536) ^^^ 4129 := by rw [rnd, if_pos h]
theorem rnd_lo {s : Nat} (h : ¬ 32768 ≤ s) : rnd s = 2 * s := by rw [rnd, if_neg h]
theorem and_top {s : Nat} (h : s < 65536) : s &&& 32768 = if 32768 ≤ s then 32768 else 0 := by
  have h1 := Nat.and_div_two_pow (a := s) (b := 32768) (n := 15)
  have h2 := Nat.and_mod_two_pow (a := s) (b := 32768) (n := 15)
  rw [show 32768 / 2 ^ 15 = 1 from rfl, Nat.and_one_is_mod] at h1
  rw [show 32768 % 2 ^ 15 = 0 from rfl, Nat.and_zero] at h2
  split <;> omega
theorem rnds_succ {k s : Nat} : rnds (k + 1) s = rnds k (rnd s) := rfl

theorem sum_ok (l : List UInt8) (hl : l.length ≤ 9223372036854775806) : AFn Try.prog 16 [.pure 1 (els l)] [] (fun v rows => v = .int .i64 (crc l) ∧ rows = []) := by
  refine afn Try.func16 a16_ok (by simp [a16]) ?_
  simp only [go_sem, Nat.reduceAdd, Nat.reduceSub, Nat.reduceMul, Nat.reduceEqDiff, Nat.reduceLT, Nat.reduceLeDiff, Nat.reduceBEq, reduceIte, reduceCtorEq, Int.reduceToNat, Int.reduceLE, Int.reduceLT, Int.reduceBEq, Int.reduceBNe, a16, a16r0, a16r1, a16r2, a16r3, a16r4, a16r5, a16r6, a16r7, a16r8, a16r9, a16r10, a16r11, a16r12, a16r13, a16r14]
  refine avc_loop (fun env rows => ∃ i : Nat, i ≤ l.length ∧ env = [(3, .int .u16 (crcFrom 65535 (l.take i))), (7, .pure 1 (els l)), (8, .int .i64 l.length), (9, .int .i64 i)] ∧ rows = [])
    (fun env _ => match slot env 9 with | .int _ j => (l.length - j).toNat | _ => 0) ?_ ?_
  · exact Cl.here ⟨0, by omega, by simp [crcFrom], rfl⟩
  · rintro env rows ⟨i, hi, rfl, rfl⟩
    simp only [go_sem, Nat.reduceAdd, Nat.reduceSub, Nat.reduceMul, Nat.reduceEqDiff, Nat.reduceLT, Nat.reduceLeDiff, Nat.reduceBEq, reduceIte, reduceCtorEq, Int.reduceToNat, Int.reduceLE, Int.reduceLT, Int.reduceBEq, Int.reduceBNe, a16, a16r0, a16r1, a16r2, a16r3, a16r4, a16r5, a16r6, a16r7, a16r8, a16r9, a16r10, a16r11, a16r12, a16r13, a16r14]
    have hs := crcFrom_lt (l := l.take i) (s := 65535) (by omega)
    refine condC_intro ?_ ?_ <;> intro hg <;> simp only [decide_eq_true_eq, decide_eq_false_iff_not, beq_iff_eq, beq_eq_false_iff_ne, bne_iff_ne, bne_eq_false_iff_eq, Bool.not_eq_true', Bool.not_eq_false', Int.not_lt, Int.not_le, ne_eq, Bool.and_eq_true, Bool.or_eq_true, Bool.or_eq_false_iff, Bool.and_eq_false_iff] at hg <;> simp only [go_sem, Nat.reduceAdd, Nat.reduceSub, Nat.reduceMul, Nat.reduceEqDiff, Nat.reduceLT, Nat.reduceLeDiff, Nat.reduceBEq, reduceIte, reduceCtorEq, Int.reduceToNat, Int.reduceLE, Int.reduceLT, Int.reduceBEq, Int.reduceBNe]
    · refine ⟨by omega, by omega, ?_⟩
      have hlt : i < l.length := by omega
      simp only [Int.toNat_natCast]
      rw [els_getD hlt, cel_u8]
      simp only [go_sem, Nat.reduceAdd, Nat.reduceSub, Nat.reduceMul, Nat.reduceEqDiff, Nat.reduceLT, Nat.reduceLeDiff, Nat.reduceBEq, reduceIte, reduceCtorEq, Int.reduceToNat, Int.reduceLE, Int.reduceLT, Int.reduceBEq, Int.reduceBNe]
      have hb := l[i].toNat_lt
      have e1 : bshl .u16 (IntKind.u16.wrap (l[i].toNat : Int)) 8 = ((l[i].toNat * 256 : Nat) : Int) := by
        rw [shl_u16 (by omega), wrap_u16, show (2 : Int) ^ 8 = 256 from rfl]; omega
      rw [e1, xor_u16 hs (by omega)]
      refine avc_loop (fun env rows => ∃ k s : Nat, k ≤ 8 ∧ s < 65536 ∧ rnds (8 - k) s = crcStep (crcFrom 65535 (l.take i)) l[i] ∧ env = [(3, .int .u16 s), (7, .pure 1 (els l)), (8, .int .i64 l.length), (9, .int .i64 i), (18, .int .i64 k)] ∧ rows = [])
        (fun env _ => match slot env 18 with | .int _ j => (8 - j).toNat | _ => 0) ?_ ?_
      · exact Cl.here ⟨0, _, by omega, mix_lt hs, rfl, rfl, rfl⟩
      · rintro env rows ⟨k, s, hk, hs', hr, rfl, rfl⟩
        simp only [go_sem, Nat.reduceAdd, Nat.reduceSub, Nat.reduceMul, Nat.reduceEqDiff, Nat.reduceLT, Nat.reduceLeDiff, Nat.reduceBEq, reduceIte, reduceCtorEq, Int.reduceToNat, Int.reduceLE, Int.reduceLT, Int.reduceBEq, Int.reduceBNe, a16, a16r0, a16r1, a16r2, a16r3, a16r4, a16r5, a16r6, a16r7, a16r8, a16r9, a16r10, a16r11, a16r12, a16r13, a16r14]
        refine condC_intro ?_ ?_ <;> intro hg2 <;> simp only [decide_eq_true_eq, decide_eq_false_iff_not, beq_iff_eq, beq_eq_false_iff_ne, bne_iff_ne, bne_eq_false_iff_eq, Bool.not_eq_true', Bool.not_eq_false', Int.not_lt, Int.not_le, ne_eq, Bool.and_eq_true, Bool.or_eq_true, Bool.or_eq_false_iff, Bool.and_eq_false_iff] at hg2 <;> simp only [go_sem, Nat.reduceAdd, Nat.reduceSub, Nat.reduceMul, Nat.reduceEqDiff, Nat.reduceLT, Nat.reduceLeDiff, Nat.reduceBEq, reduceIte, reduceCtorEq, Int.reduceToNat, Int.reduceLE, Int.reduceLT, Int.reduceBEq, Int.reduceBNe, a16, a16r0, a16r1, a16r2, a16r3, a16r4, a16r5, a16r6, a16r7, a16r8, a16r9, a16r10, a16r11, a16r12, a16r13, a16r14]
        · have e2 : bshl .u16 (s : Int) 1 = ((2 * s % 65536 : Nat) : Int) := by
            rw [shl_u16 (by omega), show (2 : Int) ^ 1 = 2 from rfl]; omega
          have e3 : band .u16 (s : Int) 32768 = (((if 32768 ≤ s then 32768 else 0) : Nat) : Int) := by
            rw [show (32768 : Int) = ((32768 : Nat) : Int) from rfl, and_u16 hs' (by omega), and_top hs']
          rw [e2, e3]
          have hk8 : 8 - k = (8 - (k + 1)) + 1 := by omega
          rw [hk8, rnds_succ] at hr
          refine condC_intro ?_ ?_ <;> intro hg3 <;> simp only [decide_eq_true_eq, decide_eq_false_iff_not, beq_iff_eq, beq_eq_false_iff_ne, bne_iff_ne, bne_eq_false_iff_eq, Bool.not_eq_true', Bool.not_eq_false', Int.not_lt, Int.not_le, ne_eq, Bool.and_eq_true, Bool.or_eq_true, Bool.or_eq_false_iff, Bool.and_eq_false_iff] at hg3 <;> simp only [go_sem, Nat.reduceAdd, Nat.reduceSub, Nat.reduceMul, Nat.reduceEqDiff, Nat.reduceLT, Nat.reduceLeDiff, Nat.reduceBEq, reduceIte, reduceCtorEq, Int.reduceToNat, Int.reduceLE, Int.reduceLT, Int.reduceBEq, Int.reduceBNe, a16, a16r0, a16r1, a16r2, a16r3, a16r4, a16r5, a16r6, a16r7, a16r8, a16r9, a16r10, a16r11, a16r12, a16r13, a16r14]
          · have h3 : 32768 ≤ s := by
              by_cases h : 32768 ≤ s
              · exact h
              · simp [h] at hg3
            rw [rnd_hi h3] at hr
            rw [show (4129 : Int) = ((4129 : Nat) : Int) from rfl, xor_u16 (by omega) (by omega), wrap_i64 (by omega) (by omega)]
            refine Cl.here ⟨⟨k + 1, _, by omega, Nat.xor_lt_two_pow (n := 16) (by omega) (by omega), hr, rfl, rfl⟩, ?_⟩
            simp only [go_sem, Nat.reduceAdd, Nat.reduceSub, Nat.reduceMul, Nat.reduceEqDiff, Nat.reduceLT, Nat.reduceLeDiff, Nat.reduceBEq, reduceIte, reduceCtorEq, Int.reduceToNat, Int.reduceLE, Int.reduceLT, Int.reduceBEq, Int.reduceBNe]
            omega
          · have h3 : ¬ 32768 ≤ s := by
              intro h
              simp [h] at hg3
            rw [rnd_lo h3] at hr
            rw [wrap_i64 (by omega) (by omega), show 2 * s % 65536 = 2 * s from by omega]
            refine Cl.here ⟨⟨k + 1, _, by omega, by omega, hr, rfl, rfl⟩, ?_⟩
            simp only [go_sem, Nat.reduceAdd, Nat.reduceSub, Nat.reduceMul, Nat.reduceEqDiff, Nat.reduceLT, Nat.reduceLeDiff, Nat.reduceBEq, reduceIte, reduceCtorEq, Int.reduceToNat, Int.reduceLE, Int.reduceLT, Int.reduceBEq, Int.reduceBNe]
            omega
        · have : k = 8 := by omega
          subst this
          have hr' : s = crcStep (crcFrom 65535 (l.take i)) l[i] := hr
          rw [wrap_i64 (by omega) (by omega)]
          refine Cl.here ⟨⟨i + 1, by omega, ?_, rfl⟩, ?_⟩
          · rw [crc_succ hlt, ← hr']; rfl
          · simp only [go_sem, Nat.reduceAdd, Nat.reduceSub, Nat.reduceMul, Nat.reduceEqDiff, Nat.reduceLT, Nat.reduceLeDiff, Nat.reduceBEq, reduceIte, reduceCtorEq, Int.reduceToNat, Int.reduceLE, Int.reduceLT, Int.reduceBEq, Int.reduceBNe]
            omega
    · refine Cl.fin rfl ⟨?_, rfl⟩
      have : i = l.length := by omega
      subst this
      rw [List.take_length] at hs ⊢
      rw [wrap_i64 (by omega) (by omega)]; rfl
theorem refSum_ok (l : List UInt8) (hl : l.length ≤ 9223372036854775806) : AFn Try.prog 17 [.pure 1 (els l)] [] (fun v rows => v = .int .i64 (crc l) ∧ rows = []) := by
  refine afn Try.func17 a17_ok (by simp [a17]) ?_
  simp only [go_sem, Nat.reduceAdd, Nat.reduceSub, Nat.reduceMul, Nat.reduceEqDiff, Nat.reduceLT, Nat.reduceLeDiff, Nat.reduceBEq, reduceIte, reduceCtorEq, Int.reduceToNat, Int.reduceLE, Int.reduceLT, Int.reduceBEq, Int.reduceBNe, a17, a17r0, a17r1, a17r2, a17r3, a17r4, a17r5, a17r6, a17r7, a17r8, a17r9, a17r10, a17r11, a17r12]
  refine avc_loop (fun env rows => ∃ i : Nat, i ≤ l.length ∧ env = [(0, .pure 1 (els l)), (3, .int .i64 (crcFrom 65535 (l.take i))), (4, .int .i64 i)] ∧ rows = [])
    (fun env _ => match slot env 4 with | .int _ j => (l.length - j).toNat | _ => 0) ?_ ?_
  · exact Cl.here ⟨0, by omega, by simp [crcFrom], rfl⟩
  · rintro env rows ⟨i, hi, rfl, rfl⟩
    simp only [go_sem, Nat.reduceAdd, Nat.reduceSub, Nat.reduceMul, Nat.reduceEqDiff, Nat.reduceLT, Nat.reduceLeDiff, Nat.reduceBEq, reduceIte, reduceCtorEq, Int.reduceToNat, Int.reduceLE, Int.reduceLT, Int.reduceBEq, Int.reduceBNe, a17, a17r0, a17r1, a17r2, a17r3, a17r4, a17r5, a17r6, a17r7, a17r8, a17r9, a17r10, a17r11, a17r12]
    have hs := crcFrom_lt (l := l.take i) (s := 65535) (by omega)
    refine condC_intro ?_ ?_ <;> intro hg <;> simp only [decide_eq_true_eq, decide_eq_false_iff_not, beq_iff_eq, beq_eq_false_iff_ne, bne_iff_ne, bne_eq_false_iff_eq, Bool.not_eq_true', Bool.not_eq_false', Int.not_lt, Int.not_le, ne_eq, Bool.and_eq_true, Bool.or_eq_true, Bool.or_eq_false_iff, Bool.and_eq_false_iff] at hg <;> simp only [go_sem, Nat.reduceAdd, Nat.reduceSub, Nat.reduceMul, Nat.reduceEqDiff, Nat.reduceLT, Nat.reduceLeDiff, Nat.reduceBEq, reduceIte, reduceCtorEq, Int.reduceToNat, Int.reduceLE, Int.reduceLT, Int.reduceBEq, Int.reduceBNe]
    · refine ⟨by omega, by omega, ?_⟩
      have hlt : i < l.length := by omega
      simp only [Int.toNat_natCast]
      rw [els_getD hlt, cel_u8]
      simp only [go_sem, Nat.reduceAdd, Nat.reduceSub, Nat.reduceMul, Nat.reduceEqDiff, Nat.reduceLT, Nat.reduceLeDiff, Nat.reduceBEq, reduceIte, reduceCtorEq, Int.reduceToNat, Int.reduceLE, Int.reduceLT, Int.reduceBEq, Int.reduceBNe]
      have hb := l[i].toNat_lt
      have e1 : bshl .i64 (IntKind.i64.wrap (l[i].toNat : Int)) 8 = ((l[i].toNat * 256 : Nat) : Int) := by
        rw [shl_i64 (by omega), show (2 : Int) ^ 8 = 256 from rfl, wrap_i64 (x := (l[i].toNat : Int)) (by omega) (by omega), wrap_i64 (by omega) (by omega)]; omega
      rw [e1, xor_i64 (by omega) (by omega)]
      refine avc_loop (fun env rows => ∃ k s : Nat, k ≤ 8 ∧ s < 65536 ∧ rnds (8 - k) s = crcStep (crcFrom 65535 (l.take i)) l[i] ∧ env = [(0, .pure 1 (els l)), (3, .int .i64 s), (4, .int .i64 i), (5, .int .i64 k)] ∧ rows = [])
        (fun env _ => match slot env 5 with | .int _ j => (8 - j).toNat | _ => 0) ?_ ?_
      · exact Cl.here ⟨0, _, by omega, mix_lt hs, rfl, rfl, rfl⟩
      · rintro env rows ⟨k, s, hk, hs', hr, rfl, rfl⟩
        simp only [go_sem, Nat.reduceAdd, Nat.reduceSub, Nat.reduceMul, Nat.reduceEqDiff, Nat.reduceLT, Nat.reduceLeDiff, Nat.reduceBEq, reduceIte, reduceCtorEq, Int.reduceToNat, Int.reduceLE, Int.reduceLT, Int.reduceBEq, Int.reduceBNe, a17, a17r0, a17r1, a17r2, a17r3, a17r4, a17r5, a17r6, a17r7, a17r8, a17r9, a17r10, a17r11, a17r12]
        refine condC_intro ?_ ?_ <;> intro hg2 <;> simp only [decide_eq_true_eq, decide_eq_false_iff_not, beq_iff_eq, beq_eq_false_iff_ne, bne_iff_ne, bne_eq_false_iff_eq, Bool.not_eq_true', Bool.not_eq_false', Int.not_lt, Int.not_le, ne_eq, Bool.and_eq_true, Bool.or_eq_true, Bool.or_eq_false_iff, Bool.and_eq_false_iff] at hg2 <;> simp only [go_sem, Nat.reduceAdd, Nat.reduceSub, Nat.reduceMul, Nat.reduceEqDiff, Nat.reduceLT, Nat.reduceLeDiff, Nat.reduceBEq, reduceIte, reduceCtorEq, Int.reduceToNat, Int.reduceLE, Int.reduceLT, Int.reduceBEq, Int.reduceBNe, a17, a17r0, a17r1, a17r2, a17r3, a17r4, a17r5, a17r6, a17r7, a17r8, a17r9, a17r10, a17r11, a17r12]
        · have e2 : bshl .i64 (s : Int) 1 = ((2 * s : Nat) : Int) := by
            rw [shl_i64 (by omega), show (2 : Int) ^ 1 = 2 from rfl, wrap_i64 (by omega) (by omega)]; omega
          rw [e2]
          have hk8 : 8 - k = (8 - (k + 1)) + 1 := by omega
          rw [hk8, rnds_succ] at hr
          refine condC_intro ?_ ?_ <;> intro hg3 <;> simp only [decide_eq_true_eq, decide_eq_false_iff_not, beq_iff_eq, beq_eq_false_iff_ne, bne_iff_ne, bne_eq_false_iff_eq, Bool.not_eq_true', Bool.not_eq_false', Int.not_lt, Int.not_le, ne_eq, Bool.and_eq_true, Bool.or_eq_true, Bool.or_eq_false_iff, Bool.and_eq_false_iff] at hg3 <;> simp only [go_sem, Nat.reduceAdd, Nat.reduceSub, Nat.reduceMul, Nat.reduceEqDiff, Nat.reduceLT, Nat.reduceLeDiff, Nat.reduceBEq, reduceIte, reduceCtorEq, Int.reduceToNat, Int.reduceLE, Int.reduceLT, Int.reduceBEq, Int.reduceBNe, a17, a17r0, a17r1, a17r2, a17r3, a17r4, a17r5, a17r6, a17r7, a17r8, a17r9, a17r10, a17r11, a17r12]
          · rw [rnd_hi (by omega)] at hr
            have e3 : band .i64 ((2 * s : Nat) : Int) 65535 = ((2 * s % 65536 : Nat) : Int) := by
              rw [show (65535 : Int) = ((65535 : Nat) : Int) from rfl, and_i64 (by omega) (by omega), show (65535 : Nat) = 2 ^ 16 - 1 from rfl, Nat.and_two_pow_sub_one_eq_mod]
            rw [e3, show (4129 : Int) = ((4129 : Nat) : Int) from rfl, xor_i64 (by omega) (by omega), wrap_i64 (by omega) (by omega)]
            refine Cl.here ⟨⟨k + 1, _, by omega, Nat.xor_lt_two_pow (n := 16) (by omega) (by omega), hr, rfl, rfl⟩, ?_⟩
            simp only [go_sem, Nat.reduceAdd, Nat.reduceSub, Nat.reduceMul, Nat.reduceEqDiff, Nat.reduceLT, Nat.reduceLeDiff, Nat.reduceBEq, reduceIte, reduceCtorEq, Int.reduceToNat, Int.reduceLE, Int.reduceLT, Int.reduceBEq, Int.reduceBNe]
            omega
          · rw [rnd_lo (by omega)] at hr
            rw [wrap_i64 (by omega) (by omega)]
            refine Cl.here ⟨⟨k + 1, _, by omega, by omega, hr, rfl, rfl⟩, ?_⟩
            simp only [go_sem, Nat.reduceAdd, Nat.reduceSub, Nat.reduceMul, Nat.reduceEqDiff, Nat.reduceLT, Nat.reduceLeDiff, Nat.reduceBEq, reduceIte, reduceCtorEq, Int.reduceToNat, Int.reduceLE, Int.reduceLT, Int.reduceBEq, Int.reduceBNe]
            omega
        · have : k = 8 := by omega
          subst this
          have hr' : s = crcStep (crcFrom 65535 (l.take i)) l[i] := hr
          rw [wrap_i64 (by omega) (by omega)]
          refine Cl.here ⟨⟨i + 1, by omega, ?_, rfl⟩, ?_⟩
          · rw [crc_succ hlt, ← hr']; rfl
          · simp only [go_sem, Nat.reduceAdd, Nat.reduceSub, Nat.reduceMul, Nat.reduceEqDiff, Nat.reduceLT, Nat.reduceLeDiff, Nat.reduceBEq, reduceIte, reduceCtorEq, Int.reduceToNat, Int.reduceLE, Int.reduceLT, Int.reduceBEq, Int.reduceBNe]
            omega
    · refine Cl.fin rfl ⟨?_, rfl⟩
      have : i = l.length := by omega
      subst this
      rw [List.take_length]; rfl

theorem get_ok (l : List UInt8) (hl : l.length ≤ 6) : AFn Try.prog 38 [.pure 1 (els l)] [] (fun v rows => v = .int .i64 (dec l) ∧ rows = []) := by
  refine afn Try.func38 a38_ok (by simp [a38]) ?_
  simp only [go_sem, Nat.reduceAdd, Nat.reduceSub, Nat.reduceMul, Nat.reduceEqDiff, Nat.reduceLT, Nat.reduceLeDiff, Nat.reduceBEq, reduceIte, reduceCtorEq, Int.reduceToNat, Int.reduceLE, Int.reduceLT, Int.reduceBEq, Int.reduceBNe, a38, a38r0, a38r1, a38r2, a38r3, a38r4, a38r5, a38r6, a38r7]
  refine avc_loop (fun env rows => ∃ i : Nat, i ≤ l.length ∧ env = [(3, .int .i64 (dec (l.take i))), (6, .pure 1 (els l)), (7, .int .i64 l.length), (8, .int .i64 i)] ∧ rows = [])
    (fun env _ => match slot env 8 with | .int _ j => (l.length - j).toNat | _ => 0) ?_ ?_
  · exact Cl.here ⟨0, by omega, by simp [dec], rfl⟩
  · rintro env rows ⟨i, hi, rfl, rfl⟩
    simp only [go_sem, Nat.reduceAdd, Nat.reduceSub, Nat.reduceMul, Nat.reduceEqDiff, Nat.reduceLT, Nat.reduceLeDiff, Nat.reduceBEq, reduceIte, reduceCtorEq, Int.reduceToNat, Int.reduceLE, Int.reduceLT, Int.reduceBEq, Int.reduceBNe, a38, a38r0, a38r1, a38r2, a38r3, a38r4, a38r5, a38r6, a38r7]
    refine condC_intro ?_ ?_ <;> intro hg <;> simp only [decide_eq_true_eq, decide_eq_false_iff_not, beq_iff_eq, beq_eq_false_iff_ne, bne_iff_ne, bne_eq_false_iff_eq, Bool.not_eq_true', Bool.not_eq_false', Int.not_lt, Int.not_le, ne_eq, Bool.and_eq_true, Bool.or_eq_true, Bool.or_eq_false_iff, Bool.and_eq_false_iff] at hg <;> simp only [go_sem, Nat.reduceAdd, Nat.reduceSub, Nat.reduceMul, Nat.reduceEqDiff, Nat.reduceLT, Nat.reduceLeDiff, Nat.reduceBEq, reduceIte, reduceCtorEq, Int.reduceToNat, Int.reduceLE, Int.reduceLT, Int.reduceBEq, Int.reduceBNe]
    · refine ⟨by omega, by omega, ?_⟩
      have hlt : i < l.length := by omega
      simp only [Int.toNat_natCast]
      rw [els_getD hlt, cel_u8]
      simp only [go_sem, Nat.reduceAdd, Nat.reduceSub, Nat.reduceMul, Nat.reduceEqDiff, Nat.reduceLT, Nat.reduceLeDiff, Nat.reduceBEq, reduceIte, reduceCtorEq, Int.reduceToNat, Int.reduceLE, Int.reduceLT, Int.reduceBEq, Int.reduceBNe]
      have hb := l[i].toNat_lt
      have hd : dec (l.take i) < 256 ^ 5 := Nat.lt_of_lt_of_le dec_lt (Nat.pow_le_pow_right (by omega) (by simp; omega))
      have e1 : bshl .i64 (dec (l.take i) : Int) 8 = ((dec (l.take i) * 256 : Nat) : Int) := by
        rw [shl_i64 (by omega), show (2 : Int) ^ 8 = 256 from rfl, wrap_i64 (by omega) (by omega)]; omega
      rw [e1, wrap_i64 (by omega) (by omega), or_i64 (by omega) (by omega), or_byte hb, wrap_i64 (by omega) (by omega)]
      refine Cl.here ⟨⟨i + 1, by omega, ?_, rfl⟩, ?_⟩
      · rw [take_succ hlt, dec_snoc]; rfl
      · simp only [go_sem, Nat.reduceAdd, Nat.reduceSub, Nat.reduceMul, Nat.reduceEqDiff, Nat.reduceLT, Nat.reduceLeDiff, Nat.reduceBEq, reduceIte, reduceCtorEq, Int.reduceToNat, Int.reduceLE, Int.reduceLT, Int.reduceBEq, Int.reduceBNe]
        omega
    · refine Cl.fin rfl ⟨?_, rfl⟩
      have : i = l.length := by omega
      subst this
      rw [List.take_length]

theorem refGet_ok (l : List UInt8) (hl : l.length ≤ 6) : AFn Try.prog 39 [.pure 1 (els l)] [] (fun v rows => v = .int .i64 (dec l) ∧ rows = []) := by
  refine afn Try.func39 a39_ok (by simp [a39]) ?_
  simp only [go_sem, Nat.reduceAdd, Nat.reduceSub, Nat.reduceMul, Nat.reduceEqDiff, Nat.reduceLT, Nat.reduceLeDiff, Nat.reduceBEq, reduceIte, reduceCtorEq, Int.reduceToNat, Int.reduceLE, Int.reduceLT, Int.reduceBEq, Int.reduceBNe, a39, a39r0, a39r1, a39r2, a39r3, a39r4, a39r5, a39r6]
  refine avc_loop (fun env rows => ∃ i : Nat, i ≤ l.length ∧ env = [(0, .pure 1 (els l)), (3, .int .i64 (dec (l.take i))), (4, .int .i64 i)] ∧ rows = [])
    (fun env _ => match slot env 4 with | .int _ j => (l.length - j).toNat | _ => 0) ?_ ?_
  · exact Cl.here ⟨0, by omega, by simp [dec], rfl⟩
  · rintro env rows ⟨i, hi, rfl, rfl⟩
    simp only [go_sem, Nat.reduceAdd, Nat.reduceSub, Nat.reduceMul, Nat.reduceEqDiff, Nat.reduceLT, Nat.reduceLeDiff, Nat.reduceBEq, reduceIte, reduceCtorEq, Int.reduceToNat, Int.reduceLE, Int.reduceLT, Int.reduceBEq, Int.reduceBNe, a39, a39r0, a39r1, a39r2, a39r3, a39r4, a39r5, a39r6]
    refine condC_intro ?_ ?_ <;> intro hg <;> simp only [decide_eq_true_eq, decide_eq_false_iff_not, beq_iff_eq, beq_eq_false_iff_ne, bne_iff_ne, bne_eq_false_iff_eq, Bool.not_eq_true', Bool.not_eq_false', Int.not_lt, Int.not_le, ne_eq, Bool.and_eq_true, Bool.or_eq_true, Bool.or_eq_false_iff, Bool.and_eq_false_iff] at hg <;> simp only [go_sem, Nat.reduceAdd, Nat.reduceSub, Nat.reduceMul, Nat.reduceEqDiff, Nat.reduceLT, Nat.reduceLeDiff, Nat.reduceBEq, reduceIte, reduceCtorEq, Int.reduceToNat, Int.reduceLE, Int.reduceLT, Int.reduceBEq, Int.reduceBNe]
    · refine ⟨by omega, by omega, ?_⟩
      have hlt : i < l.length := by omega
      simp only [Int.toNat_natCast]
      rw [els_getD hlt, cel_u8]
      simp only [go_sem, Nat.reduceAdd, Nat.reduceSub, Nat.reduceMul, Nat.reduceEqDiff, Nat.reduceLT, Nat.reduceLeDiff, Nat.reduceBEq, reduceIte, reduceCtorEq, Int.reduceToNat, Int.reduceLE, Int.reduceLT, Int.reduceBEq, Int.reduceBNe]
      have hb := l[i].toNat_lt
      have hd : dec (l.take i) < 256 ^ 5 := Nat.lt_of_lt_of_le dec_lt (Nat.pow_le_pow_right (by omega) (by simp; omega))
      have e1 : bshl .i64 (dec (l.take i) : Int) 8 = ((dec (l.take i) * 256 : Nat) : Int) := by
        rw [shl_i64 (by omega), show (2 : Int) ^ 8 = 256 from rfl, wrap_i64 (by omega) (by omega)]; omega
      rw [e1, wrap_i64 (by omega) (by omega), or_i64 (by omega) (by omega), or_byte hb, wrap_i64 (by omega) (by omega)]
      refine Cl.here ⟨⟨i + 1, by omega, ?_, rfl⟩, ?_⟩
      · rw [take_succ hlt, dec_snoc]; rfl
      · simp only [go_sem, Nat.reduceAdd, Nat.reduceSub, Nat.reduceMul, Nat.reduceEqDiff, Nat.reduceLT, Nat.reduceLeDiff, Nat.reduceBEq, reduceIte, reduceCtorEq, Int.reduceToNat, Int.reduceLE, Int.reduceLT, Int.reduceBEq, Int.reduceBNe]
        omega
    · refine Cl.fin rfl ⟨?_, rfl⟩
      have : i = l.length := by omega
      subst this
      rw [List.take_length]

theorem put_ok (xs : List UInt8) (n size : Nat) (hs : size ≤ 7) (hx : xs.length ≤ 1000) : AFn Try.prog 30 [.own 0 xs.length 0 xs.length, .int .i64 n, .int .i64 size] [.live 5 1 (els xs)]
    (fun v rows => v = .own 0 (xs.length + size) 0 (xs.length + size) ∧ rows = [.live 5 1 (els (xs ++ enc n size))]) := by
  refine afn Try.func30 a30_ok (by simp [a30]) ?_
  simp only [go_sem, Nat.reduceAdd, Nat.reduceSub, Nat.reduceMul, Nat.reduceEqDiff, Nat.reduceLT, Nat.reduceLeDiff, Nat.reduceBEq, reduceIte, reduceCtorEq, Int.reduceToNat, Int.reduceLE, Int.reduceLT, Int.reduceBEq, Int.reduceBNe, a30, a30r0, a30r1, a30r2, a30r3, a30r4, a30r5]
  refine avc_loop (fun env rows => ∃ (k : Nat) (ys : List UInt8), k ≤ size ∧ ys.length + k = size ∧ ys ++ enc n k = enc n size ∧ env = [(0, .own 0 (xs.length + ys.length) 0 (xs.length + ys.length)), (1, .int .i64 n), (7, .int .i64 ((k : Int) - 1))] ∧ rows = [.live 5 1 (els (xs ++ ys))])
    (fun env _ => match slot env 7 with | .int _ k => (k + 1).toNat | _ => 0) ?_ ?_
  · rw [wrap_i64 (by omega) (by omega)]
    exact Cl.here ⟨size, [], by omega, by simp, by simp, by simp, by simp⟩
  · rintro env rows ⟨k, ys, h1, h2, h3, rfl, rfl⟩
    simp only [go_sem, Nat.reduceAdd, Nat.reduceSub, Nat.reduceMul, Nat.reduceEqDiff, Nat.reduceLT, Nat.reduceLeDiff, Nat.reduceBEq, reduceIte, reduceCtorEq, Int.reduceToNat, Int.reduceLE, Int.reduceLT, Int.reduceBEq, Int.reduceBNe, a30, a30r0, a30r1, a30r2, a30r3, a30r4, a30r5]
    refine condC_intro ?_ ?_ <;> intro hg <;> simp only [decide_eq_true_eq, decide_eq_false_iff_not, beq_iff_eq, beq_eq_false_iff_ne, bne_iff_ne, bne_eq_false_iff_eq, Bool.not_eq_true', Bool.not_eq_false', Int.not_lt, Int.not_le, ne_eq, Bool.and_eq_true, Bool.or_eq_true, Bool.or_eq_false_iff, Bool.and_eq_false_iff] at hg <;> simp only [go_sem, Nat.reduceAdd, Nat.reduceSub, Nat.reduceMul, Nat.reduceEqDiff, Nat.reduceLT, Nat.reduceLeDiff, Nat.reduceBEq, reduceIte, reduceCtorEq, Int.reduceToNat, Int.reduceLE, Int.reduceLT, Int.reduceBEq, Int.reduceBNe]
    · obtain ⟨j, rfl⟩ : ∃ j, k = j + 1 := ⟨k - 1, by omega⟩
      have e0 : IntKind.i64.wrap (8 * (((j + 1 : Nat) : Int) - 1)) = ((8 * j : Nat) : Int) := by rw [wrap_i64 (by omega) (by omega)]; omega
      have e1 : IntKind.i64.wrap (((j + 1 : Nat) : Int) - 1 - 1) = (j : Int) - 1 := by rw [wrap_i64 (by omega) (by omega)]; omega
      rw [e0, e1]
      simp only [Int.toNat_natCast]
      rw [shr_i64 (by omega), wrap_u8, show 2 ^ (8 * j) = 256 ^ j from by rw [Nat.pow_mul], u8_cell]
      refine ⟨by omega, by simp, by omega, ?_⟩
      simp only [go_sem, Nat.reduceAdd, Nat.reduceSub, Nat.reduceMul, Nat.reduceEqDiff, Nat.reduceLT, Nat.reduceLeDiff, Nat.reduceBEq, reduceIte, reduceCtorEq, Int.reduceToNat, Int.reduceLE, Int.reduceLT, Int.reduceBEq, Int.reduceBNe]
      (refine Cl.tr [some 0] [] rfl rfl (by simp only [go_sem, Nat.reduceAdd, Nat.reduceSub, Nat.reduceMul, Nat.reduceEqDiff, Nat.reduceLT, Nat.reduceLeDiff, Nat.reduceBEq, reduceIte, reduceCtorEq, Int.reduceToNat, Int.reduceLE, Int.reduceLT, Int.reduceBEq, Int.reduceBNe] <;> rfl) ?_; simp only [go_sem, Nat.reduceAdd, Nat.reduceSub, Nat.reduceMul, Nat.reduceEqDiff, Nat.reduceLT, Nat.reduceLeDiff, Nat.reduceBEq, reduceIte, reduceCtorEq, Int.reduceToNat, Int.reduceLE, Int.reduceLT, Int.reduceBEq, Int.reduceBNe])
      rw [List.append_assoc]
      refine Cl.here ⟨⟨j, ys ++ [UInt8.ofNat (n / 256 ^ j)], by omega, by simp; omega, ?_, by simp [Nat.add_assoc], rfl⟩, ?_⟩
      · rw [List.append_assoc, ← h3]; rfl
      · simp only [go_sem, Nat.reduceAdd, Nat.reduceSub, Nat.reduceMul, Nat.reduceEqDiff, Nat.reduceLT, Nat.reduceLeDiff, Nat.reduceBEq, reduceIte, reduceCtorEq, Int.reduceToNat, Int.reduceLE, Int.reduceLT, Int.reduceBEq, Int.reduceBNe]
        omega
    · have : k = 0 := by omega
      subst this
      simp only [enc, List.append_nil] at h3
      subst h3
      refine Cl.here ⟨?_, rfl⟩
      rw [enc_length]; rfl
theorem refPut_ok (xs : List UInt8) (n size : Nat) (hs : size ≤ 7) (hx : xs.length ≤ 1000) : AFn Try.prog 36 [.own 0 xs.length 0 xs.length, .int .i64 n, .int .i64 size] [.live 5 1 (els xs)]
    (fun v rows => v = .own 0 (xs.length + size) 0 (xs.length + size) ∧ rows = [.live 5 1 (els (xs ++ enc n size))]) := by
  refine afn Try.func36 a36_ok (by simp [a36]) ?_
  simp only [go_sem, Nat.reduceAdd, Nat.reduceSub, Nat.reduceMul, Nat.reduceEqDiff, Nat.reduceLT, Nat.reduceLeDiff, Nat.reduceBEq, reduceIte, reduceCtorEq, Int.reduceToNat, Int.reduceLE, Int.reduceLT, Int.reduceBEq, Int.reduceBNe, a36, a36r0, a36r1, a36r2, a36r3, a36r4, a36r5]
  refine avc_loop (fun env rows => ∃ (k : Nat) (ys : List UInt8), k ≤ size ∧ ys.length + k = size ∧ ys ++ enc n k = enc n size ∧ env = [(0, .own 0 (xs.length + ys.length) 0 (xs.length + ys.length)), (1, .int .i64 n), (7, .int .i64 ((k : Int) - 1))] ∧ rows = [.live 5 1 (els (xs ++ ys))])
    (fun env _ => match slot env 7 with | .int _ k => (k + 1).toNat | _ => 0) ?_ ?_
  · rw [wrap_i64 (by omega) (by omega)]
    exact Cl.here ⟨size, [], by omega, by simp, by simp, by simp, by simp⟩
  · rintro env rows ⟨k, ys, h1, h2, h3, rfl, rfl⟩
    simp only [go_sem, Nat.reduceAdd, Nat.reduceSub, Nat.reduceMul, Nat.reduceEqDiff, Nat.reduceLT, Nat.reduceLeDiff, Nat.reduceBEq, reduceIte, reduceCtorEq, Int.reduceToNat, Int.reduceLE, Int.reduceLT, Int.reduceBEq, Int.reduceBNe, a36, a36r0, a36r1, a36r2, a36r3, a36r4, a36r5]
    refine condC_intro ?_ ?_ <;> intro hg <;> simp only [decide_eq_true_eq, decide_eq_false_iff_not, beq_iff_eq, beq_eq_false_iff_ne, bne_iff_ne, bne_eq_false_iff_eq, Bool.not_eq_true', Bool.not_eq_false', Int.not_lt, Int.not_le, ne_eq, Bool.and_eq_true, Bool.or_eq_true, Bool.or_eq_false_iff, Bool.and_eq_false_iff] at hg <;> simp only [go_sem, Nat.reduceAdd, Nat.reduceSub, Nat.reduceMul, Nat.reduceEqDiff, Nat.reduceLT, Nat.reduceLeDiff, Nat.reduceBEq, reduceIte, reduceCtorEq, Int.reduceToNat, Int.reduceLE, Int.reduceLT, Int.reduceBEq, Int.reduceBNe]
    · obtain ⟨j, rfl⟩ : ∃ j, k = j + 1 := ⟨k - 1, by omega⟩
      have e0 : IntKind.i64.wrap (8 * (((j + 1 : Nat) : Int) - 1)) = ((8 * j : Nat) : Int) := by rw [wrap_i64 (by omega) (by omega)]; omega
      have e1 : IntKind.i64.wrap (((j + 1 : Nat) : Int) - 1 - 1) = (j : Int) - 1 := by rw [wrap_i64 (by omega) (by omega)]; omega
      rw [e0, e1, wrap_u64 (by omega) (by omega)]
      simp only [Int.toNat_natCast]
      rw [shr_i64 (by omega), wrap_u8, show 2 ^ (8 * j) = 256 ^ j from by rw [Nat.pow_mul], u8_cell]
      refine ⟨by simp, by omega, ?_⟩
      simp only [go_sem, Nat.reduceAdd, Nat.reduceSub, Nat.reduceMul, Nat.reduceEqDiff, Nat.reduceLT, Nat.reduceLeDiff, Nat.reduceBEq, reduceIte, reduceCtorEq, Int.reduceToNat, Int.reduceLE, Int.reduceLT, Int.reduceBEq, Int.reduceBNe]
      (refine Cl.tr [some 0] [] rfl rfl (by simp only [go_sem, Nat.reduceAdd, Nat.reduceSub, Nat.reduceMul, Nat.reduceEqDiff, Nat.reduceLT, Nat.reduceLeDiff, Nat.reduceBEq, reduceIte, reduceCtorEq, Int.reduceToNat, Int.reduceLE, Int.reduceLT, Int.reduceBEq, Int.reduceBNe] <;> rfl) ?_; simp only [go_sem, Nat.reduceAdd, Nat.reduceSub, Nat.reduceMul, Nat.reduceEqDiff, Nat.reduceLT, Nat.reduceLeDiff, Nat.reduceBEq, reduceIte, reduceCtorEq, Int.reduceToNat, Int.reduceLE, Int.reduceLT, Int.reduceBEq, Int.reduceBNe])
      rw [List.append_assoc]
      refine Cl.here ⟨⟨j, ys ++ [UInt8.ofNat (n / 256 ^ j)], by omega, by simp; omega, ?_, by simp [Nat.add_assoc], rfl⟩, ?_⟩
      · rw [List.append_assoc, ← h3]; rfl
      · simp only [go_sem, Nat.reduceAdd, Nat.reduceSub, Nat.reduceMul, Nat.reduceEqDiff, Nat.reduceLT, Nat.reduceLeDiff, Nat.reduceBEq, reduceIte, reduceCtorEq, Int.reduceToNat, Int.reduceLE, Int.reduceLT, Int.reduceBEq, Int.reduceBNe]
        omega
    · have : k = 0 := by omega
      subst this
      simp only [enc, List.append_nil] at h3
      subst h3
      refine Cl.here ⟨?_, rfl⟩
      rw [enc_length]; rfl
end Go.Proofs.Ytkgffhjlfdmfeaa
