/- Contracts of the helpers of the statements. -/
import Derived.Test.YtkgffhjlfdmfeaaA1Rec3
set_option linter.unusedSimpArgs false
set_option linter.unusedVariables false
set_option linter.unusedSectionVars false
namespace Go.Proofs.Ytkgffhjlfdmfeaa
open Go Go.Abs Rec
set_option linter.unusedSimpArgs false

theorem same_ok (a : List Ev) (g : List Gp) (ha : a.length ≤ 1000000000) (hg : g.length ≤ 1000000000) : AFn Try.prog 25 [.pure 7 (els a), .pure 2 (els g), .pure 7 (els a), .pure 2 (els g)] [] (fun v rows => v = .bool true ∧ rows = []) := by
  refine afn Try.func25 a25_ok (by simp [a25]) ?_
  simp only [go_sem, Nat.reduceAdd, Nat.reduceSub, Nat.reduceMul, Nat.reduceEqDiff, Nat.reduceLT, Nat.reduceLeDiff, Nat.reduceBEq, reduceIte, reduceCtorEq, Int.reduceToNat, Int.reduceLE, Int.reduceLT, Int.reduceBEq, Int.reduceBNe, a25, a25r0, a25r1, a25r2, a25r3, a25r4, a25r5, a25r6, a25r7, a25r8, a25r9, a25r10, a25r11, a25r12, a25r13, bne_self_eq_false]
  refine avc_loop (fun env rows => ∃ i : Nat, i ≤ a.length ∧ env = [(0, .pure 7 (els a)), (1, .pure 2 (els g)), (2, .pure 7 (els a)), (3, .pure 2 (els g)), (9, .int .i64 i)] ∧ rows = [])
    (fun env _ => match slot env 9 with | .int _ j => (a.length - j).toNat | _ => 0) ?_ ?_
  · exact Cl.here ⟨0, by omega, rfl, rfl⟩
  · rintro env rows ⟨i, hi, rfl, rfl⟩
    simp only [go_sem, Nat.reduceAdd, Nat.reduceSub, Nat.reduceMul, Nat.reduceEqDiff, Nat.reduceLT, Nat.reduceLeDiff, Nat.reduceBEq, reduceIte, reduceCtorEq, Int.reduceToNat, Int.reduceLE, Int.reduceLT, Int.reduceBEq, Int.reduceBNe, a25, a25r0, a25r1, a25r2, a25r3, a25r4, a25r5, a25r6, a25r7, a25r8, a25r9, a25r10, a25r11, a25r12, a25r13]
    refine condC_intro ?_ ?_ <;> intro hlt <;> simp only [decide_eq_true_eq, decide_eq_false_iff_not, beq_iff_eq, beq_eq_false_iff_ne, bne_iff_ne, bne_eq_false_iff_eq, Bool.not_eq_true', Bool.not_eq_false', Int.not_lt, Int.not_le, ne_eq, Bool.and_eq_true, Bool.or_eq_true, Bool.or_eq_false_iff, Bool.and_eq_false_iff] at hlt <;> simp only [go_sem, Nat.reduceAdd, Nat.reduceSub, Nat.reduceMul, Nat.reduceEqDiff, Nat.reduceLT, Nat.reduceLeDiff, Nat.reduceBEq, reduceIte, reduceCtorEq, Int.reduceToNat, Int.reduceLE, Int.reduceLT, Int.reduceBEq, Int.reduceBNe, a25, a25r0, a25r1, a25r2, a25r3, a25r4, a25r5, a25r6, a25r7, a25r8, a25r9, a25r10, a25r11, a25r12, a25r13]
    · simp only [Int.toNat_natCast]
      rw [els_getD (by omega)]
      refine ⟨by omega, by omega, ?_⟩
      simp only [go_sem, Nat.reduceAdd, Nat.reduceSub, Nat.reduceMul, Nat.reduceEqDiff, Nat.reduceLT, Nat.reduceLeDiff, Nat.reduceBEq, reduceIte, reduceCtorEq, Int.reduceToNat, Int.reduceLE, Int.reduceLT, Int.reduceBEq, Int.reduceBNe, cel_ev]
      rw [wrap_i64 (by omega) (by omega)]
      refine ⟨by omega, by omega, Cl.here ⟨⟨i + 1, by omega, rfl, rfl⟩, ?_⟩⟩
      simp only [go_sem, Nat.reduceAdd, Nat.reduceSub, Nat.reduceMul, Nat.reduceEqDiff, Nat.reduceLT, Nat.reduceLeDiff, Nat.reduceBEq, reduceIte, reduceCtorEq, Int.reduceToNat, Int.reduceLE, Int.reduceLT, Int.reduceBEq, Int.reduceBNe]
      omega
    · refine avc_loop (fun env rows => ∃ i : Nat, i ≤ g.length ∧ env = [(1, .pure 2 (els g)), (3, .pure 2 (els g)), (10, .int .i64 i)] ∧ rows = [])
        (fun env _ => match slot env 10 with | .int _ j => (g.length - j).toNat | _ => 0) ?_ ?_
      · exact Cl.here ⟨0, by omega, rfl, rfl⟩
      · rintro env rows ⟨i, hi, rfl, rfl⟩
        simp only [go_sem, Nat.reduceAdd, Nat.reduceSub, Nat.reduceMul, Nat.reduceEqDiff, Nat.reduceLT, Nat.reduceLeDiff, Nat.reduceBEq, reduceIte, reduceCtorEq, Int.reduceToNat, Int.reduceLE, Int.reduceLT, Int.reduceBEq, Int.reduceBNe, a25, a25r0, a25r1, a25r2, a25r3, a25r4, a25r5, a25r6, a25r7, a25r8, a25r9, a25r10, a25r11, a25r12, a25r13]
        refine condC_intro ?_ ?_ <;> intro hlt <;> simp only [decide_eq_true_eq, decide_eq_false_iff_not, beq_iff_eq, beq_eq_false_iff_ne, bne_iff_ne, bne_eq_false_iff_eq, Bool.not_eq_true', Bool.not_eq_false', Int.not_lt, Int.not_le, ne_eq, Bool.and_eq_true, Bool.or_eq_true, Bool.or_eq_false_iff, Bool.and_eq_false_iff] at hlt <;> simp only [go_sem, Nat.reduceAdd, Nat.reduceSub, Nat.reduceMul, Nat.reduceEqDiff, Nat.reduceLT, Nat.reduceLeDiff, Nat.reduceBEq, reduceIte, reduceCtorEq, Int.reduceToNat, Int.reduceLE, Int.reduceLT, Int.reduceBEq, Int.reduceBNe, a25, a25r0, a25r1, a25r2, a25r3, a25r4, a25r5, a25r6, a25r7, a25r8, a25r9, a25r10, a25r11, a25r12, a25r13]
        · simp only [Int.toNat_natCast]
          rw [els_getD (by omega)]
          refine ⟨by omega, by omega, ?_⟩
          simp only [go_sem, Nat.reduceAdd, Nat.reduceSub, Nat.reduceMul, Nat.reduceEqDiff, Nat.reduceLT, Nat.reduceLeDiff, Nat.reduceBEq, reduceIte, reduceCtorEq, Int.reduceToNat, Int.reduceLE, Int.reduceLT, Int.reduceBEq, Int.reduceBNe, cel_gp]
          rw [wrap_i64 (by omega) (by omega)]
          refine ⟨by omega, by omega, Cl.here ⟨⟨i + 1, by omega, rfl, rfl⟩, ?_⟩⟩
          simp only [go_sem, Nat.reduceAdd, Nat.reduceSub, Nat.reduceMul, Nat.reduceEqDiff, Nat.reduceLT, Nat.reduceLeDiff, Nat.reduceBEq, reduceIte, reduceCtorEq, Int.reduceToNat, Int.reduceLE, Int.reduceLT, Int.reduceBEq, Int.reduceBNe]
          omega
        · exact Cl.fin rfl ⟨rfl, rfl⟩

theorem frame_take (e : Ev) : List.take 24 (frame e) = frame e := List.take_of_length_le (by rw [frame_length]; omega)
attribute [go_sem] frame_length frame_take
def someEv : Ev := ⟨3, 9, 7, 29453760, 1, 0, 0⟩
theorem some_ok : AFn Try.prog 21 [] [] (fun v rows => v = .agg (Cel.c someEv) ∧ rows = []) := by
  refine afn Try.func21 a21_ok (by simp [a21]) ?_
  simp only [go_sem, Nat.reduceAdd, Nat.reduceSub, Nat.reduceMul, Nat.reduceEqDiff, Nat.reduceLT, Nat.reduceLeDiff, Nat.reduceBEq, reduceIte, reduceCtorEq, Int.reduceToNat, Int.reduceLE, Int.reduceLT, Int.reduceBEq, Int.reduceBNe, a21, a21r0, a21r1]
  exact Cl.fin rfl ⟨rfl, rfl⟩

theorem sane_ok : AFn Try.prog 18 [] [] (fun v rows => v = .bool true ∧ rows = []) := by
  refine afn Try.func18 a18_ok (by simp [a18]) ?_
  simp only [go_sem, Nat.reduceAdd, Nat.reduceSub, Nat.reduceMul, Nat.reduceEqDiff, Nat.reduceLT, Nat.reduceLeDiff, Nat.reduceBEq, reduceIte, reduceCtorEq, Int.reduceToNat, Int.reduceLE, Int.reduceLT, Int.reduceBEq, Int.reduceBNe, a18, a18r0, a18r1, a18r2, a18r3, a18r4]
  refine callC_det some_ok rfl rfl ?_
  simp only [go_sem, Nat.reduceAdd, Nat.reduceSub, Nat.reduceMul, Nat.reduceEqDiff, Nat.reduceLT, Nat.reduceLeDiff, Nat.reduceBEq, reduceIte, reduceCtorEq, Int.reduceToNat, Int.reduceLE, Int.reduceLT, Int.reduceBEq, Int.reduceBNe]
  (refine callC_of [] [] (by simp) rfl (bindL_clean _ (by first | rfl | simp only [go_sem, Nat.reduceAdd, Nat.reduceSub, Nat.reduceMul, Nat.reduceEqDiff, Nat.reduceLT, Nat.reduceLeDiff, Nat.reduceBEq, reduceIte, reduceCtorEq, Int.reduceToNat, Int.reduceLE, Int.reduceLT, Int.reduceBEq, Int.reduceBNe])) (encode_ok someEv (by decide)) ?_; rintro _ _ ⟨rfl, rfl⟩; refine ⟨.inl rfl, ?_⟩; simp only [go_sem, Nat.reduceAdd, Nat.reduceSub, Nat.reduceMul, Nat.reduceEqDiff, Nat.reduceLT, Nat.reduceLeDiff, Nat.reduceBEq, reduceIte, reduceCtorEq, Int.reduceToNat, Int.reduceLE, Int.reduceLT, Int.reduceBEq, Int.reduceBNe])
  have e0 : [AVal.int .u8 1] :: [.int .u8 2] :: [.int .u8 3] :: els (frame someEv) = els ([1, 2, 3] ++ frame someEv) := rfl
  rw [e0]
  refine callC_lookNewAll (decode_ok _ (by simp [frame_length])) rfl (by simp [els_length, frame_length]) els_clean ?_
  rintro _ _ ⟨rfl, rfl⟩
  have e1 : decode ([1, 2, 3] ++ frame someEv) = ([someEv], [⟨0, 3⟩], 27) := by kernel_rfl
  simp only [e1]
  refine ⟨rfl, by simp only [go_sem, Nat.reduceAdd, Nat.reduceSub, Nat.reduceMul, Nat.reduceEqDiff, Nat.reduceLT, Nat.reduceLeDiff, Nat.reduceBEq, reduceIte, reduceCtorEq, Int.reduceToNat, Int.reduceLE, Int.reduceLT, Int.reduceBEq, Int.reduceBNe], ?_⟩
  simp only [go_sem, Nat.reduceAdd, Nat.reduceSub, Nat.reduceMul, Nat.reduceEqDiff, Nat.reduceLT, Nat.reduceLeDiff, Nat.reduceBEq, reduceIte, reduceCtorEq, Int.reduceToNat, Int.reduceLE, Int.reduceLT, Int.reduceBEq, Int.reduceBNe, a18, a18r0, a18r1, a18r2, a18r3, a18r4]
  refine callC_det (encode_bad ⟨0, 0, 0, 0, 0, 0, 0⟩ (by decide)) rfl rfl ?_
  simp only [go_sem, Nat.reduceAdd, Nat.reduceSub, Nat.reduceMul, Nat.reduceEqDiff, Nat.reduceLT, Nat.reduceLeDiff, Nat.reduceBEq, reduceIte, reduceCtorEq, Int.reduceToNat, Int.reduceLE, Int.reduceLT, Int.reduceBEq, Int.reduceBNe, a18, a18r0, a18r1, a18r2, a18r3, a18r4]
  have e2 : els [someEv] = [Cel.c someEv] := rfl
  have e3 : els [(⟨0, 3⟩ : Gp)] = [Cel.c (⟨0, 3⟩ : Gp)] := rfl
  rw [e2, e3]
  simp only [go_sem, Nat.reduceAdd, Nat.reduceSub, Nat.reduceMul, Nat.reduceEqDiff, Nat.reduceLT, Nat.reduceLeDiff, Nat.reduceBEq, reduceIte, reduceCtorEq, Int.reduceToNat, Int.reduceLE, Int.reduceLT, Int.reduceBEq, Int.reduceBNe, cel_ev, someEv]
  refine callD_det some_ok rfl rfl ?_
  simp only [go_sem, Nat.reduceAdd, Nat.reduceSub, Nat.reduceMul, Nat.reduceEqDiff, Nat.reduceLT, Nat.reduceLeDiff, Nat.reduceBEq, reduceIte, reduceCtorEq, Int.reduceToNat, Int.reduceLE, Int.reduceLT, Int.reduceBEq, Int.reduceBNe, cel_ev, someEv, cel_gp]
  refine callD_det ((sum_ok [] (by simp)).says (.cons says_nils .nil)) rfl rfl ?_
  have e4 : ((crc [] : Nat) : Int) = 65535 := rfl
  rw [e4]
  simp only [go_sem, Nat.reduceAdd, Nat.reduceSub, Nat.reduceMul, Nat.reduceEqDiff, Nat.reduceLT, Nat.reduceLeDiff, Nat.reduceBEq, reduceIte, reduceCtorEq, Int.reduceToNat, Int.reduceLE, Int.reduceLT, Int.reduceBEq, Int.reduceBNe]
  have e5 : [[AVal.int .u8 49], [.int .u8 50], [.int .u8 51], [.int .u8 52], [.int .u8 53], [.int .u8 54], [.int .u8 55], [.int .u8 56], [.int .u8 57]] = els ([49, 50, 51, 52, 53, 54, 55, 56, 57] : List UInt8) := rfl
  rw [e5]
  refine callD_det (sum_ok _ (by simp)) (by simp only [go_sem, Nat.reduceAdd, Nat.reduceSub, Nat.reduceMul, Nat.reduceEqDiff, Nat.reduceLT, Nat.reduceLeDiff, Nat.reduceBEq, reduceIte, reduceCtorEq, Int.reduceToNat, Int.reduceLE, Int.reduceLT, Int.reduceBEq, Int.reduceBNe]) rfl ?_
  have e6 : ((crc [49, 50, 51, 52, 53, 54, 55, 56, 57] : Nat) : Int) = 10673 := by kernel_rfl
  rw [e6]
  simp only [go_sem, Nat.reduceAdd, Nat.reduceSub, Nat.reduceMul, Nat.reduceEqDiff, Nat.reduceLT, Nat.reduceLeDiff, Nat.reduceBEq, reduceIte, reduceCtorEq, Int.reduceToNat, Int.reduceLE, Int.reduceLT, Int.reduceBEq, Int.reduceBNe]
  exact Cl.fin rfl ⟨rfl, rfl⟩

theorem scan_bound {b : List UInt8} : ∀ {n at_ : Nat} {es : List Ev} {gs : List Gp}, at_ ≤ b.length → es.length ≤ at_ → gs.length ≤ at_ → (scan b n at_ es gs).1.length ≤ b.length ∧ (scan b n at_ es gs).2.1.length ≤ b.length ∧ (scan b n at_ es gs).2.2 ≤ b.length
  | 0, _, _, _, h1, h2, h3 => by simp only [scan]; omega
  | n + 1, at_, es, gs, h1, h2, h3 => by
    by_cases h : at_ + 24 ≤ b.length
    · rw [scan_step h]
      split
      · exact scan_bound (by omega) (by simp; omega) (by omega)
      · exact scan_bound (by omega) (by omega) (by have := addGap_length (gs := gs) (at_ := at_); omega)
    · rw [scan_end h]; simp only; omega
theorem decode_bound {b : List UInt8} : (decode b).1.length ≤ b.length ∧ (decode b).2.1.length ≤ b.length ∧ (decode b).2.2 ≤ b.length := scan_bound (by omega) (by simp) (by simp)

theorem decodes_ok (b : List UInt8) (hb : b.length ≤ 1000000) : AFn Try.prog 19 [.pure 1 (els b)] [] (fun v rows => v = .bool true ∧ rows = []) := by
  refine afn Try.func19 a19_ok (by simp [a19]) ?_
  simp only [go_sem, Nat.reduceAdd, Nat.reduceSub, Nat.reduceMul, Nat.reduceEqDiff, Nat.reduceLT, Nat.reduceLeDiff, Nat.reduceBEq, reduceIte, reduceCtorEq, Int.reduceToNat, Int.reduceLE, Int.reduceLT, Int.reduceBEq, Int.reduceBNe, a19, a19r0, a19r1, a19r2, a19r3]
  (refine callC_of [] [] (by simp) rfl (bindL_clean _ (by first | rfl | simp only [go_sem, Nat.reduceAdd, Nat.reduceSub, Nat.reduceMul, Nat.reduceEqDiff, Nat.reduceLT, Nat.reduceLeDiff, Nat.reduceBEq, reduceIte, reduceCtorEq, Int.reduceToNat, Int.reduceLE, Int.reduceLT, Int.reduceBEq, Int.reduceBNe])) (decode_ok b hb) ?_; rintro _ _ ⟨rfl, rfl⟩; refine ⟨.inl rfl, ?_⟩; simp only [go_sem, Nat.reduceAdd, Nat.reduceSub, Nat.reduceMul, Nat.reduceEqDiff, Nat.reduceLT, Nat.reduceLeDiff, Nat.reduceBEq, reduceIte, reduceCtorEq, Int.reduceToNat, Int.reduceLE, Int.reduceLT, Int.reduceBEq, Int.reduceBNe])
  (refine callC_of [] [] (by simp) rfl (bindL_clean _ (by first | rfl | simp only [go_sem, Nat.reduceAdd, Nat.reduceSub, Nat.reduceMul, Nat.reduceEqDiff, Nat.reduceLT, Nat.reduceLeDiff, Nat.reduceBEq, reduceIte, reduceCtorEq, Int.reduceToNat, Int.reduceLE, Int.reduceLT, Int.reduceBEq, Int.reduceBNe])) (refDecode_ok b hb) ?_; rintro _ _ ⟨rfl, rfl⟩; refine ⟨.inl rfl, ?_⟩; simp only [go_sem, Nat.reduceAdd, Nat.reduceSub, Nat.reduceMul, Nat.reduceEqDiff, Nat.reduceLT, Nat.reduceLeDiff, Nat.reduceBEq, reduceIte, reduceCtorEq, Int.reduceToNat, Int.reduceLE, Int.reduceLT, Int.reduceBEq, Int.reduceBNe])
  have hbd := decode_bound (b := b)
  refine callC_view [0, 1, 2, 3] (same_ok (decode b).1 (decode b).2.1 (by omega) (by omega)) ?_ ?_
  · simp only [go_sem, Nat.reduceAdd, Nat.reduceSub, Nat.reduceMul, Nat.reduceEqDiff, Nat.reduceLT, Nat.reduceLeDiff, Nat.reduceBEq, reduceIte, reduceCtorEq, Int.reduceToNat, Int.reduceLE, Int.reduceLT, Int.reduceBEq, Int.reduceBNe, Nat.zero_add, List.take_length]
  · rintro _ rfl
    refine ⟨rfl, rfl, ?_⟩
    simp only [go_sem, Nat.reduceAdd, Nat.reduceSub, Nat.reduceMul, Nat.reduceEqDiff, Nat.reduceLT, Nat.reduceLeDiff, Nat.reduceBEq, reduceIte, reduceCtorEq, Int.reduceToNat, Int.reduceLE, Int.reduceLT, Int.reduceBEq, Int.reduceBNe]
    exact Cl.fin rfl ⟨rfl, rfl⟩

theorem frames_ok (l : List Int) (hl : TapeOk l) (n : Int) (hn0 : 0 ≤ n) (hn : n ≤ 10) (at_ : Int) (h0 : 0 ≤ at_) (h1 : at_ ≤ l.length) : AFn Try.prog 20 [.ref 0 1 0 0, .int .i64 n] [tp l at_]
    (fun v rs => ∃ (a : Int) (bs : List UInt8), v = .own 1 bs.length 0 bs.length ∧ rs = [tp l a, .live 5 1 (els bs)] ∧ 0 ≤ a ∧ a ≤ l.length ∧ bs.length ≤ 1000) := by
  refine afn Try.func20 a20_ok (by simp [a20]) ?_
  simp only [go_sem, Nat.reduceAdd, Nat.reduceSub, Nat.reduceMul, Nat.reduceEqDiff, Nat.reduceLT, Nat.reduceLeDiff, Nat.reduceBEq, reduceIte, reduceCtorEq, Int.reduceToNat, Int.reduceLE, Int.reduceLT, Int.reduceBEq, Int.reduceBNe, a20, a20r0, a20r1, a20r2, a20r3, a20r4, a20r5, a20r6, a20r7, a20r8, a20r9, a20r10, a20r11, a20r12, a20r13, tp]
  simp (disch := omega) only [wrap_i64, wrap_u8, wrap_u16]
  (refine callC_tape (next_ok l hl (n + 1) (by omega)) rfl rfl (by omega) (by omega) ?_; rintro _ at_ _ _ ⟨ k, rfl, _, _⟩; simp only [go_sem, Nat.reduceAdd, Nat.reduceSub, Nat.reduceMul, Nat.reduceEqDiff, Nat.reduceLT, Nat.reduceLeDiff, Nat.reduceBEq, reduceIte, reduceCtorEq, Int.reduceToNat, Int.reduceLE, Int.reduceLT, Int.reduceBEq, Int.reduceBNe])
  refine avc_loop (fun env rows => ∃ (a : Int) (bs : List UInt8) (j : Int), env = [(0, .ref 0 1 0 0), (5, .own 1 bs.length 0 bs.length), (6, .int .i64 j)] ∧ rows = [tapeRow 57 l a, .live 5 1 (els bs)] ∧ 0 ≤ a ∧ a ≤ l.length ∧ 0 ≤ j ∧ j ≤ n ∧ bs.length ≤ 28 * (n - j))
    (fun env _ => match slot env 6 with | .int _ j => j.toNat | _ => 0) ?_ ?_
  · (refine Cl.ghost 5  5  1 rfl (Cl.norm [ 0, 5, 6] ?_); simp only [go_sem, Nat.reduceAdd, Nat.reduceSub, Nat.reduceMul, Nat.reduceEqDiff, Nat.reduceLT, Nat.reduceLeDiff, Nat.reduceBEq, reduceIte, reduceCtorEq, Int.reduceToNat, Int.reduceLE, Int.reduceLT, Int.reduceBEq, Int.reduceBNe])
    exact Cl.here ⟨at_, [], k, rfl, rfl, by omega, by omega, by omega, by omega, by simp; omega⟩
  · rintro env rows ⟨at_, bs, j, rfl, rfl, _, _, _, _, _⟩
    simp only [go_sem, Nat.reduceAdd, Nat.reduceSub, Nat.reduceMul, Nat.reduceEqDiff, Nat.reduceLT, Nat.reduceLeDiff, Nat.reduceBEq, reduceIte, reduceCtorEq, Int.reduceToNat, Int.reduceLE, Int.reduceLT, Int.reduceBEq, Int.reduceBNe, a20, a20r0, a20r1, a20r2, a20r3, a20r4, a20r5, a20r6, a20r7, a20r8, a20r9, a20r10, a20r11, a20r12, a20r13]
    refine condC_intro ?_ ?_ <;> intro hg <;> simp only [decide_eq_true_eq, decide_eq_false_iff_not, beq_iff_eq, beq_eq_false_iff_ne, bne_iff_ne, bne_eq_false_iff_eq, Bool.not_eq_true', Bool.not_eq_false', Int.not_lt, Int.not_le, ne_eq, Bool.and_eq_true, Bool.or_eq_true, Bool.or_eq_false_iff, Bool.and_eq_false_iff] at hg <;> simp only [go_sem, Nat.reduceAdd, Nat.reduceSub, Nat.reduceMul, Nat.reduceEqDiff, Nat.reduceLT, Nat.reduceLeDiff, Nat.reduceBEq, reduceIte, reduceCtorEq, Int.reduceToNat, Int.reduceLE, Int.reduceLT, Int.reduceBEq, Int.reduceBNe, a20, a20r0, a20r1, a20r2, a20r3, a20r4, a20r5, a20r6, a20r7, a20r8, a20r9, a20r10, a20r11, a20r12, a20r13]
    · (refine callC_tape (next_ok l hl 3 (by omega)) rfl rfl (by omega) (by omega) ?_; rintro _ at_ _ _ ⟨ x, rfl, _, _⟩; simp only [go_sem, Nat.reduceAdd, Nat.reduceSub, Nat.reduceMul, Nat.reduceEqDiff, Nat.reduceLT, Nat.reduceLeDiff, Nat.reduceBEq, reduceIte, reduceCtorEq, Int.reduceToNat, Int.reduceLE, Int.reduceLT, Int.reduceBEq, Int.reduceBNe])
      (refine callC_tape (next_ok l hl 3 (by omega)) rfl rfl (by omega) (by omega) ?_; rintro _ at_ _ _ ⟨ y, rfl, _, _⟩; simp only [go_sem, Nat.reduceAdd, Nat.reduceSub, Nat.reduceMul, Nat.reduceEqDiff, Nat.reduceLT, Nat.reduceLeDiff, Nat.reduceBEq, reduceIte, reduceCtorEq, Int.reduceToNat, Int.reduceLE, Int.reduceLT, Int.reduceBEq, Int.reduceBNe])
      have hxy : 0 ≤ x * y ∧ x * y ≤ 4 := by
        have hx : x = 0 ∨ x = 1 ∨ x = 2 := by omega
        rcases hx with rfl | rfl | rfl <;> omega
      rw [wrap_i64 (by omega) (by omega)]
      refine avc_loop (fun env rows => ∃ (a : Int) (bs : List UInt8) (q : Int), env = [(0, .ref 0 1 0 0), (5, .own 1 bs.length 0 bs.length), (6, .int .i64 j), (7, .int .i64 q)] ∧ rows = [tapeRow 57 l a, .live 5 1 (els bs)] ∧ 0 ≤ a ∧ a ≤ l.length ∧ 0 ≤ q ∧ bs.length + q ≤ 28 * (n - j) + 4)
        (fun env _ => match slot env 7 with | .int _ j => j.toNat | _ => 0) ?_ ?_
      · exact Cl.here ⟨at_, bs, x * y, rfl, rfl, by omega, by omega, by omega, by omega⟩
      · rintro env rows ⟨at_, bs, q, rfl, rfl, _, _, _, _⟩
        simp only [go_sem, Nat.reduceAdd, Nat.reduceSub, Nat.reduceMul, Nat.reduceEqDiff, Nat.reduceLT, Nat.reduceLeDiff, Nat.reduceBEq, reduceIte, reduceCtorEq, Int.reduceToNat, Int.reduceLE, Int.reduceLT, Int.reduceBEq, Int.reduceBNe, a20, a20r0, a20r1, a20r2, a20r3, a20r4, a20r5, a20r6, a20r7, a20r8, a20r9, a20r10, a20r11, a20r12, a20r13]
        refine condC_intro ?_ ?_ <;> intro hq <;> simp only [decide_eq_true_eq, decide_eq_false_iff_not, beq_iff_eq, beq_eq_false_iff_ne, bne_iff_ne, bne_eq_false_iff_eq, Bool.not_eq_true', Bool.not_eq_false', Int.not_lt, Int.not_le, ne_eq, Bool.and_eq_true, Bool.or_eq_true, Bool.or_eq_false_iff, Bool.and_eq_false_iff] at hq <;> simp only [go_sem, Nat.reduceAdd, Nat.reduceSub, Nat.reduceMul, Nat.reduceEqDiff, Nat.reduceLT, Nat.reduceLeDiff, Nat.reduceBEq, reduceIte, reduceCtorEq, Int.reduceToNat, Int.reduceLE, Int.reduceLT, Int.reduceBEq, Int.reduceBNe, a20, a20r0, a20r1, a20r2, a20r3, a20r4, a20r5, a20r6, a20r7, a20r8, a20r9, a20r10, a20r11, a20r12, a20r13]
        · (refine callC_tape (next_ok l hl 256 (by omega)) rfl rfl (by omega) (by omega) ?_; rintro _ at_ _ _ ⟨ z, rfl, _, _⟩; simp only [go_sem, Nat.reduceAdd, Nat.reduceSub, Nat.reduceMul, Nat.reduceEqDiff, Nat.reduceLT, Nat.reduceLeDiff, Nat.reduceBEq, reduceIte, reduceCtorEq, Int.reduceToNat, Int.reduceLE, Int.reduceLT, Int.reduceBEq, Int.reduceBNe])
          (refine callC_pick [0, 193, z] (pick_ok l hl _ (by simp) (by simp)) rfl rfl rfl rfl rfl (by decide) (by omega) (by omega) ?_; rintro _ at_ _ _ ⟨u, hmem, rfl⟩; simp only [List.mem_cons, List.not_mem_nil, or_false] at hmem; simp only [go_sem, Nat.reduceAdd, Nat.reduceSub, Nat.reduceMul, Nat.reduceEqDiff, Nat.reduceLT, Nat.reduceLeDiff, Nat.reduceBEq, reduceIte, reduceCtorEq, Int.reduceToNat, Int.reduceLE, Int.reduceLT, Int.reduceBEq, Int.reduceBNe])
          refine ⟨by omega, ?_⟩
          obtain ⟨w, rfl⟩ : ∃ w : Nat, u = (w : Int) := ⟨u.toNat, by omega⟩
          rw [wrap_u8, u8_cell, wrap_i64 (by omega) (by omega)]
          simp only [go_sem, Nat.reduceAdd, Nat.reduceSub, Nat.reduceMul, Nat.reduceEqDiff, Nat.reduceLT, Nat.reduceLeDiff, Nat.reduceBEq, reduceIte, reduceCtorEq, Int.reduceToNat, Int.reduceLE, Int.reduceLT, Int.reduceBEq, Int.reduceBNe]
          (refine Cl.tr [some 0, some 1] [] rfl rfl (by simp only [go_sem, Nat.reduceAdd, Nat.reduceSub, Nat.reduceMul, Nat.reduceEqDiff, Nat.reduceLT, Nat.reduceLeDiff, Nat.reduceBEq, reduceIte, reduceCtorEq, Int.reduceToNat, Int.reduceLE, Int.reduceLT, Int.reduceBEq, Int.reduceBNe] <;> rfl) ?_; simp only [go_sem, Nat.reduceAdd, Nat.reduceSub, Nat.reduceMul, Nat.reduceEqDiff, Nat.reduceLT, Nat.reduceLeDiff, Nat.reduceBEq, reduceIte, reduceCtorEq, Int.reduceToNat, Int.reduceLE, Int.reduceLT, Int.reduceBEq, Int.reduceBNe])
          refine Cl.here ⟨⟨at_, _, q - 1, by simp, rfl, by omega, by omega, by omega, by simp; omega⟩, ?_⟩
          simp only [go_sem, Nat.reduceAdd, Nat.reduceSub, Nat.reduceMul, Nat.reduceEqDiff, Nat.reduceLT, Nat.reduceLeDiff, Nat.reduceBEq, reduceIte, reduceCtorEq, Int.reduceToNat, Int.reduceLE, Int.reduceLT, Int.reduceBEq, Int.reduceBNe]
          omega
        · refine callC_tape (event_ok l hl) rfl rfl (by omega) (by omega) ?_
          rintro _ at_ _ _ ⟨e, rfl, he⟩
          simp only [go_sem, Nat.reduceAdd, Nat.reduceSub, Nat.reduceMul, Nat.reduceEqDiff, Nat.reduceLT, Nat.reduceLeDiff, Nat.reduceBEq, reduceIte, reduceCtorEq, Int.reduceToNat, Int.reduceLE, Int.reduceLT, Int.reduceBEq, Int.reduceBNe, a20, a20r0, a20r1, a20r2, a20r3, a20r4, a20r5, a20r6, a20r7, a20r8, a20r9, a20r10, a20r11, a20r12, a20r13]
          (refine callC_of [] [] (by simp) rfl (bindL_clean _ (by first | rfl | simp only [go_sem, Nat.reduceAdd, Nat.reduceSub, Nat.reduceMul, Nat.reduceEqDiff, Nat.reduceLT, Nat.reduceLeDiff, Nat.reduceBEq, reduceIte, reduceCtorEq, Int.reduceToNat, Int.reduceLE, Int.reduceLT, Int.reduceBEq, Int.reduceBNe])) (refEncode_ok e he) ?_; rintro _ _ ⟨rfl, rfl⟩; refine ⟨.inl rfl, ?_⟩; simp only [go_sem, Nat.reduceAdd, Nat.reduceSub, Nat.reduceMul, Nat.reduceEqDiff, Nat.reduceLT, Nat.reduceLeDiff, Nat.reduceBEq, reduceIte, reduceCtorEq, Int.reduceToNat, Int.reduceLE, Int.reduceLT, Int.reduceBEq, Int.reduceBNe])
          refine ⟨by omega, ?_⟩
          rw [wrap_i64 (by omega) (by omega)]
          (refine Cl.tr [some 0, some 1] [] rfl rfl (by simp only [go_sem, Nat.reduceAdd, Nat.reduceSub, Nat.reduceMul, Nat.reduceEqDiff, Nat.reduceLT, Nat.reduceLeDiff, Nat.reduceBEq, reduceIte, reduceCtorEq, Int.reduceToNat, Int.reduceLE, Int.reduceLT, Int.reduceBEq, Int.reduceBNe] <;> rfl) ?_; simp only [go_sem, Nat.reduceAdd, Nat.reduceSub, Nat.reduceMul, Nat.reduceEqDiff, Nat.reduceLT, Nat.reduceLeDiff, Nat.reduceBEq, reduceIte, reduceCtorEq, Int.reduceToNat, Int.reduceLE, Int.reduceLT, Int.reduceBEq, Int.reduceBNe])
          refine Cl.here ⟨⟨at_, _, j - 1, by simp [frame_length], rfl, by omega, by omega, by omega, by omega, by simp [frame_length]; omega⟩, ?_⟩
          simp only [go_sem, Nat.reduceAdd, Nat.reduceSub, Nat.reduceMul, Nat.reduceEqDiff, Nat.reduceLT, Nat.reduceLeDiff, Nat.reduceBEq, reduceIte, reduceCtorEq, Int.reduceToNat, Int.reduceLE, Int.reduceLT, Int.reduceBEq, Int.reduceBNe]
          omega
    · refine grdC_intro ?_ ?_ <;> intro hb <;> simp only [go_sem, Nat.reduceAdd, Nat.reduceSub, Nat.reduceMul, Nat.reduceEqDiff, Nat.reduceLT, Nat.reduceLeDiff, Nat.reduceBEq, reduceIte, reduceCtorEq, Int.reduceToNat, Int.reduceLE, Int.reduceLT, Int.reduceBEq, Int.reduceBNe, hb] <;> simp only [decide_eq_true_eq, decide_eq_false_iff_not, beq_iff_eq, beq_eq_false_iff_ne, bne_iff_ne, bne_eq_false_iff_eq, Bool.not_eq_true', Bool.not_eq_false', Int.not_lt, Int.not_le, ne_eq, Bool.and_eq_true, Bool.or_eq_true, Bool.or_eq_false_iff, Bool.and_eq_false_iff] at hb
      · (refine callC_tape (next_ok l hl 2 (by omega)) rfl rfl (by omega) (by omega) ?_; rintro _ at_ _ _ ⟨ x, rfl, _, _⟩; simp only [go_sem, Nat.reduceAdd, Nat.reduceSub, Nat.reduceMul, Nat.reduceEqDiff, Nat.reduceLT, Nat.reduceLeDiff, Nat.reduceBEq, reduceIte, reduceCtorEq, Int.reduceToNat, Int.reduceLE, Int.reduceLT, Int.reduceBEq, Int.reduceBNe])
        refine condC_intro ?_ ?_ <;> intro hc <;> simp only [decide_eq_true_eq, decide_eq_false_iff_not, beq_iff_eq, beq_eq_false_iff_ne, bne_iff_ne, bne_eq_false_iff_eq, Bool.not_eq_true', Bool.not_eq_false', Int.not_lt, Int.not_le, ne_eq, Bool.and_eq_true, Bool.or_eq_true, Bool.or_eq_false_iff, Bool.and_eq_false_iff] at hc <;> simp only [go_sem, Nat.reduceAdd, Nat.reduceSub, Nat.reduceMul, Nat.reduceEqDiff, Nat.reduceLT, Nat.reduceLeDiff, Nat.reduceBEq, reduceIte, reduceCtorEq, Int.reduceToNat, Int.reduceLE, Int.reduceLT, Int.reduceBEq, Int.reduceBNe, a20, a20r0, a20r1, a20r2, a20r3, a20r4, a20r5, a20r6, a20r7, a20r8, a20r9, a20r10, a20r11, a20r12, a20r13]
        · (refine callD_tape (next_ok l hl (bs.length : Int) (by omega)) (by simp only [go_sem, Nat.reduceAdd, Nat.reduceSub, Nat.reduceMul, Nat.reduceEqDiff, Nat.reduceLT, Nat.reduceLeDiff, Nat.reduceBEq, reduceIte, reduceCtorEq, Int.reduceToNat, Int.reduceLE, Int.reduceLT, Int.reduceBEq, Int.reduceBNe]) rfl rfl (by omega) (by omega) ?_; rintro _ at_ _ _ ⟨ y, rfl, _, _⟩; simp only [go_sem, Nat.reduceAdd, Nat.reduceSub, Nat.reduceMul, Nat.reduceEqDiff, Nat.reduceLT, Nat.reduceLeDiff, Nat.reduceBEq, reduceIte, reduceCtorEq, Int.reduceToNat, Int.reduceLE, Int.reduceLT, Int.reduceBEq, Int.reduceBNe])
          refine ⟨by omega, by omega, ?_⟩
          rw [els_getD (by omega), cel_u8]
          (refine callD_tape (next_ok l hl 255 (by omega)) (by simp only [go_sem, Nat.reduceAdd, Nat.reduceSub, Nat.reduceMul, Nat.reduceEqDiff, Nat.reduceLT, Nat.reduceLeDiff, Nat.reduceBEq, reduceIte, reduceCtorEq, Int.reduceToNat, Int.reduceLE, Int.reduceLT, Int.reduceBEq, Int.reduceBNe]) rfl rfl (by omega) (by omega) ?_; rintro _ at_ _ _ ⟨ z, rfl, _, _⟩; simp only [go_sem, Nat.reduceAdd, Nat.reduceSub, Nat.reduceMul, Nat.reduceEqDiff, Nat.reduceLT, Nat.reduceLeDiff, Nat.reduceBEq, reduceIte, reduceCtorEq, Int.reduceToNat, Int.reduceLE, Int.reduceLT, Int.reduceBEq, Int.reduceBNe])
          obtain ⟨w, rfl⟩ : ∃ w : Nat, z = (w : Int) := ⟨z.toNat, by omega⟩
          have e1 : IntKind.u8.wrap (IntKind.i64.wrap (1 + (w : Int))) = ((UInt8.ofNat (1 + w)).toNat : Int) := by
            rw [wrap_i64 (by omega) (by omega), wrap_u8]
            simp
          rw [e1, xor_u8]
          refine ⟨by omega, by omega, ?_⟩
          rw [els_getD (by omega), cel_u8]
          simp only [go_sem, Nat.reduceAdd, Nat.reduceSub, Nat.reduceMul, Nat.reduceEqDiff, Nat.reduceLT, Nat.reduceLeDiff, Nat.reduceBEq, reduceIte, reduceCtorEq, Int.reduceToNat, Int.reduceLE, Int.reduceLT, Int.reduceBEq, Int.reduceBNe]
          have e2 : [AVal.int .u8 ((bs[y.toNat] ^^^ UInt8.ofNat (1 + w)).toNat : Int)] = Cel.c (bs[y.toNat] ^^^ UInt8.ofNat (1 + w)) := (cel_u8 _).symm
          rw [e2, els_set]
          exact Cl.here ⟨_, bs.set y.toNat (bs[y.toNat] ^^^ UInt8.ofNat (1 + w)), by simp [slot], rfl, by omega, by omega, by simp; omega⟩
        · exact Cl.here ⟨_, bs, rfl, rfl, by omega, by omega, by omega⟩
      · exact Cl.here ⟨_, bs, rfl, rfl, by omega, by omega, by omega⟩
end Go.Proofs.Ytkgffhjlfdmfeaa
