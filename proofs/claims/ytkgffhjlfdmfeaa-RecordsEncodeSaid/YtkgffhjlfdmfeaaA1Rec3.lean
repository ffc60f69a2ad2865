/- Contracts of package records and of its reference: frames. -/
import Derived.Test.YtkgffhjlfdmfeaaA1Rec2
set_option linter.unusedSimpArgs false
set_option linter.unusedVariables false
set_option linter.unusedSectionVars false
namespace Go.Proofs.Ytkgffhjlfdmfeaa
open Go Go.Abs Rec
set_option linter.unusedSimpArgs false

/-- the bytes of an event -/
def body (e : Ev) : List UInt8 := enc 193 1 ++ enc e.kind.toNat 1 ++ enc e.kt.toNat 2 ++ enc e.ks.toNat 4 ++ enc e.emp.toNat 4 ++ enc e.time.toNat 4 ++ enc e.tt.toNat 2 ++ enc e.ts.toNat 4
def frame (e : Ev) : List UInt8 := body e ++ enc (crc (body e)) 2
theorem body_length (e : Ev) : (body e).length = 22 := by simp [body, enc_length]
theorem frame_length (e : Ev) : (frame e).length = 24 := by simp [frame, body_length, enc_length]

theorem nat_of {n : Int} (h : 0 ≤ n) : ∃ m : Nat, n = (m : Int) := ⟨n.toNat, by omega⟩

theorem put_step (xs : List UInt8) (m : Nat) (n : Int) (size : Nat) (hm : xs.length = m) (hn : 0 ≤ n) (hs : size ≤ 7) (hx : m ≤ 1000) : AFn Try.prog 30 [.own 0 m 0 m, .int .i64 n, .int .i64 size] [.live 5 1 (els xs)]
    (fun v rows => v = .own 0 (m + size) 0 (m + size) ∧ rows = [.live 5 1 (els (xs ++ enc n.toNat size))]) := by
  subst hm
  have := put_ok xs n.toNat size hs hx
  rwa [Int.toNat_of_nonneg hn] at this
theorem refPut_step (xs : List UInt8) (m : Nat) (n : Int) (size : Nat) (hm : xs.length = m) (hn : 0 ≤ n) (hs : size ≤ 7) (hx : m ≤ 1000) : AFn Try.prog 36 [.own 0 m 0 m, .int .i64 n, .int .i64 size] [.live 5 1 (els xs)]
    (fun v rows => v = .own 0 (m + size) 0 (m + size) ∧ rows = [.live 5 1 (els (xs ++ enc n.toNat size))]) := by
  subst hm
  have := refPut_ok xs n.toNat size hs hx
  rwa [Int.toNat_of_nonneg hn] at this

theorem encode_ok (e : Ev) (he : vEv e) : AFn Try.prog 12 [.agg (Cel.c e)] [] (fun v rows => v = .tup [.own 0 24 0 24, .int .i64 0] ∧ rows = [.live 5 1 (els (frame e))]) := by
  refine afn Try.func12 a12_ok (by simp [a12]) ?_
  simp only [go_sem, Nat.reduceAdd, Nat.reduceSub, Nat.reduceMul, Nat.reduceEqDiff, Nat.reduceLT, Nat.reduceLeDiff, Nat.reduceBEq, reduceIte, reduceCtorEq, Int.reduceToNat, Int.reduceLE, Int.reduceLT, Int.reduceBEq, Int.reduceBNe, a12, a12r0, a12r1, a12r2, a12r3, a12r4, a12r5, a12r6, a12r7, a12r8, a12r9, a12r10, a12r11, a12r12]
  refine callC_det (valid_ok e) (by simp only [go_sem, Nat.reduceAdd, Nat.reduceSub, Nat.reduceMul, Nat.reduceEqDiff, Nat.reduceLT, Nat.reduceLeDiff, Nat.reduceBEq, reduceIte, reduceCtorEq, Int.reduceToNat, Int.reduceLE, Int.reduceLT, Int.reduceBEq, Int.reduceBNe]) rfl ?_
  rw [decide_eq_true he]
  simp only [go_sem, Nat.reduceAdd, Nat.reduceSub, Nat.reduceMul, Nat.reduceEqDiff, Nat.reduceLT, Nat.reduceLeDiff, Nat.reduceBEq, reduceIte, reduceCtorEq, Int.reduceToNat, Int.reduceLE, Int.reduceLT, Int.reduceBEq, Int.reduceBNe, a12, a12r0, a12r1, a12r2, a12r3, a12r4, a12r5, a12r6, a12r7, a12r8, a12r9, a12r10, a12r11, a12r12, cel_ev]
  have hv := he
  simp only [vEv, vKey] at hv
  refine ⟨by decide, ?_⟩
  refine callC_row (put_step [] 0 193 1 rfl (by omega) (by omega) (by omega)) rfl rfl els_clean rfl ?_
  simp only [go_sem, Nat.reduceAdd, Nat.reduceSub, Nat.reduceMul, Nat.reduceEqDiff, Nat.reduceLT, Nat.reduceLeDiff, Nat.reduceBEq, reduceIte, reduceCtorEq, Int.reduceToNat, Int.reduceLE, Int.reduceLT, Int.reduceBEq, Int.reduceBNe, a12, a12r0, a12r1, a12r2, a12r3, a12r4, a12r5, a12r6, a12r7, a12r8, a12r9, a12r10, a12r11, a12r12]
  refine callC_row (put_step (enc 193 1) 1 e.kind 1 enc_length (by omega) (by omega) (by omega)) rfl els_clean els_clean rfl ?_
  simp only [go_sem, Nat.reduceAdd, Nat.reduceSub, Nat.reduceMul, Nat.reduceEqDiff, Nat.reduceLT, Nat.reduceLeDiff, Nat.reduceBEq, reduceIte, reduceCtorEq, Int.reduceToNat, Int.reduceLE, Int.reduceLT, Int.reduceBEq, Int.reduceBNe, a12, a12r0, a12r1, a12r2, a12r3, a12r4, a12r5, a12r6, a12r7, a12r8, a12r9, a12r10, a12r11, a12r12]
  refine callC_row (put_step _ 2 e.kt 2 (by simp [enc_length]) (by omega) (by omega) (by omega)) rfl els_clean els_clean rfl ?_
  simp only [go_sem, Nat.reduceAdd, Nat.reduceSub, Nat.reduceMul, Nat.reduceEqDiff, Nat.reduceLT, Nat.reduceLeDiff, Nat.reduceBEq, reduceIte, reduceCtorEq, Int.reduceToNat, Int.reduceLE, Int.reduceLT, Int.reduceBEq, Int.reduceBNe, a12, a12r0, a12r1, a12r2, a12r3, a12r4, a12r5, a12r6, a12r7, a12r8, a12r9, a12r10, a12r11, a12r12]
  refine callC_row (put_step _ 4 e.ks 4 (by simp [enc_length]) (by omega) (by omega) (by omega)) rfl els_clean els_clean rfl ?_
  simp only [go_sem, Nat.reduceAdd, Nat.reduceSub, Nat.reduceMul, Nat.reduceEqDiff, Nat.reduceLT, Nat.reduceLeDiff, Nat.reduceBEq, reduceIte, reduceCtorEq, Int.reduceToNat, Int.reduceLE, Int.reduceLT, Int.reduceBEq, Int.reduceBNe, a12, a12r0, a12r1, a12r2, a12r3, a12r4, a12r5, a12r6, a12r7, a12r8, a12r9, a12r10, a12r11, a12r12]
  refine callC_row (put_step _ 8 e.emp 4 (by simp [enc_length]) (by omega) (by omega) (by omega)) rfl els_clean els_clean rfl ?_
  simp only [go_sem, Nat.reduceAdd, Nat.reduceSub, Nat.reduceMul, Nat.reduceEqDiff, Nat.reduceLT, Nat.reduceLeDiff, Nat.reduceBEq, reduceIte, reduceCtorEq, Int.reduceToNat, Int.reduceLE, Int.reduceLT, Int.reduceBEq, Int.reduceBNe, a12, a12r0, a12r1, a12r2, a12r3, a12r4, a12r5, a12r6, a12r7, a12r8, a12r9, a12r10, a12r11, a12r12]
  refine callC_row (put_step _ 12 e.time 4 (by simp [enc_length]) (by omega) (by omega) (by omega)) rfl els_clean els_clean rfl ?_
  simp only [go_sem, Nat.reduceAdd, Nat.reduceSub, Nat.reduceMul, Nat.reduceEqDiff, Nat.reduceLT, Nat.reduceLeDiff, Nat.reduceBEq, reduceIte, reduceCtorEq, Int.reduceToNat, Int.reduceLE, Int.reduceLT, Int.reduceBEq, Int.reduceBNe, a12, a12r0, a12r1, a12r2, a12r3, a12r4, a12r5, a12r6, a12r7, a12r8, a12r9, a12r10, a12r11, a12r12]
  refine callC_row (put_step _ 16 e.tt 2 (by simp [enc_length]) (by omega) (by omega) (by omega)) rfl els_clean els_clean rfl ?_
  simp only [go_sem, Nat.reduceAdd, Nat.reduceSub, Nat.reduceMul, Nat.reduceEqDiff, Nat.reduceLT, Nat.reduceLeDiff, Nat.reduceBEq, reduceIte, reduceCtorEq, Int.reduceToNat, Int.reduceLE, Int.reduceLT, Int.reduceBEq, Int.reduceBNe, a12, a12r0, a12r1, a12r2, a12r3, a12r4, a12r5, a12r6, a12r7, a12r8, a12r9, a12r10, a12r11, a12r12]
  refine callC_row (put_step _ 18 e.ts 4 (by simp [enc_length]) (by omega) (by omega) (by omega)) rfl els_clean els_clean rfl ?_
  simp only [go_sem, Nat.reduceAdd, Nat.reduceSub, Nat.reduceMul, Nat.reduceEqDiff, Nat.reduceLT, Nat.reduceLeDiff, Nat.reduceBEq, reduceIte, reduceCtorEq, Int.reduceToNat, Int.reduceLE, Int.reduceLT, Int.reduceBEq, Int.reduceBNe, a12, a12r0, a12r1, a12r2, a12r3, a12r4, a12r5, a12r6, a12r7, a12r8, a12r9, a12r10, a12r11, a12r12]
  have hb : enc 193 1 ++ enc e.kind.toNat 1 ++ enc e.kt.toNat 2 ++ enc e.ks.toNat 4 ++ enc e.emp.toNat 4 ++ enc e.time.toNat 4 ++ enc e.tt.toNat 2 ++ enc e.ts.toNat 4 = body e := rfl
  rw [hb]
  have hbl := body_length e
  refine callC_lookAll (sum_ok (body e) (by omega)) rfl (by rw [els_length, hbl]) els_clean rfl rfl ?_
  simp only [go_sem, Nat.reduceAdd, Nat.reduceSub, Nat.reduceMul, Nat.reduceEqDiff, Nat.reduceLT, Nat.reduceLeDiff, Nat.reduceBEq, reduceIte, reduceCtorEq, Int.reduceToNat, Int.reduceLE, Int.reduceLT, Int.reduceBEq, Int.reduceBNe]
  refine callC_row (put_step (body e) 22 _ 2 hbl (by omega) (by omega) (by omega)) rfl els_clean els_clean rfl ?_
  simp only [go_sem, Nat.reduceAdd, Nat.reduceSub, Nat.reduceMul, Nat.reduceEqDiff, Nat.reduceLT, Nat.reduceLeDiff, Nat.reduceBEq, reduceIte, reduceCtorEq, Int.reduceToNat, Int.reduceLE, Int.reduceLT, Int.reduceBEq, Int.reduceBNe]
  (refine Cl.tr [some 1] [] rfl rfl (by simp only [go_sem, Nat.reduceAdd, Nat.reduceSub, Nat.reduceMul, Nat.reduceEqDiff, Nat.reduceLT, Nat.reduceLeDiff, Nat.reduceBEq, reduceIte, reduceCtorEq, Int.reduceToNat, Int.reduceLE, Int.reduceLT, Int.reduceBEq, Int.reduceBNe] <;> rfl) ?_; simp only [go_sem, Nat.reduceAdd, Nat.reduceSub, Nat.reduceMul, Nat.reduceEqDiff, Nat.reduceLT, Nat.reduceLeDiff, Nat.reduceBEq, reduceIte, reduceCtorEq, Int.reduceToNat, Int.reduceLE, Int.reduceLT, Int.reduceBEq, Int.reduceBNe])
  exact Cl.here ⟨rfl, rfl⟩

theorem encode_bad (e : Ev) (he : ¬ vEv e) : AFn Try.prog 12 [.agg (Cel.c e)] [] (fun v rows => v = .tup [.nils, .int .i64 1] ∧ rows = []) := by
  refine afn Try.func12 a12_ok (by simp [a12]) ?_
  simp only [go_sem, Nat.reduceAdd, Nat.reduceSub, Nat.reduceMul, Nat.reduceEqDiff, Nat.reduceLT, Nat.reduceLeDiff, Nat.reduceBEq, reduceIte, reduceCtorEq, Int.reduceToNat, Int.reduceLE, Int.reduceLT, Int.reduceBEq, Int.reduceBNe, a12, a12r0, a12r1, a12r2, a12r3, a12r4, a12r5, a12r6, a12r7, a12r8, a12r9, a12r10, a12r11, a12r12]
  refine callC_det (valid_ok e) (by simp only [go_sem, Nat.reduceAdd, Nat.reduceSub, Nat.reduceMul, Nat.reduceEqDiff, Nat.reduceLT, Nat.reduceLeDiff, Nat.reduceBEq, reduceIte, reduceCtorEq, Int.reduceToNat, Int.reduceLE, Int.reduceLT, Int.reduceBEq, Int.reduceBNe]) rfl ?_
  rw [decide_eq_false he]
  simp only [go_sem, Nat.reduceAdd, Nat.reduceSub, Nat.reduceMul, Nat.reduceEqDiff, Nat.reduceLT, Nat.reduceLeDiff, Nat.reduceBEq, reduceIte, reduceCtorEq, Int.reduceToNat, Int.reduceLE, Int.reduceLT, Int.reduceBEq, Int.reduceBNe, a12, a12r0, a12r1, a12r2, a12r3, a12r4, a12r5, a12r6, a12r7, a12r8, a12r9, a12r10, a12r11, a12r12]
  exact Cl.fin rfl ⟨rfl, rfl⟩

theorem refFrame_ok (e : Ev) (he : vEv e) : AFn Try.prog 31 [.agg (Cel.c e)] [] (fun v rows => v = .own 0 24 0 24 ∧ rows = [.live 5 1 (els (frame e))]) := by
  refine afn Try.func31 a31_ok (by simp [a31]) ?_
  have hv := he
  simp only [vEv, vKey] at hv
  simp only [go_sem, Nat.reduceAdd, Nat.reduceSub, Nat.reduceMul, Nat.reduceEqDiff, Nat.reduceLT, Nat.reduceLeDiff, Nat.reduceBEq, reduceIte, reduceCtorEq, Int.reduceToNat, Int.reduceLE, Int.reduceLT, Int.reduceBEq, Int.reduceBNe, a31, a31r0, a31r1, a31r2, a31r3, a31r4, a31r5, cel_ev]
  have h0 : [[AVal.int .u8 193], [AVal.int .u8 (IntKind.u8.wrap e.kind)]] = els (enc 193 1 ++ enc e.kind.toNat 1) := by
    rw [wrap_u8]
    simp only [enc, els, List.map_cons, List.map_nil, List.cons_append, List.nil_append, cel_u8]
    simp [Nat.div_one]
    omega
  rw [h0]
  refine callD_row (refPut_step _ 2 e.kt 2 (by simp [enc_length]) (by omega) (by omega) (by omega)) (by simp only [go_sem, Nat.reduceAdd, Nat.reduceSub, Nat.reduceMul, Nat.reduceEqDiff, Nat.reduceLT, Nat.reduceLeDiff, Nat.reduceBEq, reduceIte, reduceCtorEq, Int.reduceToNat, Int.reduceLE, Int.reduceLT, Int.reduceBEq, Int.reduceBNe]) rfl els_clean els_clean rfl ?_
  simp only [go_sem, Nat.reduceAdd, Nat.reduceSub, Nat.reduceMul, Nat.reduceEqDiff, Nat.reduceLT, Nat.reduceLeDiff, Nat.reduceBEq, reduceIte, reduceCtorEq, Int.reduceToNat, Int.reduceLE, Int.reduceLT, Int.reduceBEq, Int.reduceBNe]
  refine callD_row (refPut_step _ 4 e.ks 4 (by simp [enc_length]) (by omega) (by omega) (by omega)) (by simp only [go_sem, Nat.reduceAdd, Nat.reduceSub, Nat.reduceMul, Nat.reduceEqDiff, Nat.reduceLT, Nat.reduceLeDiff, Nat.reduceBEq, reduceIte, reduceCtorEq, Int.reduceToNat, Int.reduceLE, Int.reduceLT, Int.reduceBEq, Int.reduceBNe]) rfl els_clean els_clean rfl ?_
  simp only [go_sem, Nat.reduceAdd, Nat.reduceSub, Nat.reduceMul, Nat.reduceEqDiff, Nat.reduceLT, Nat.reduceLeDiff, Nat.reduceBEq, reduceIte, reduceCtorEq, Int.reduceToNat, Int.reduceLE, Int.reduceLT, Int.reduceBEq, Int.reduceBNe, a31, a31r0, a31r1, a31r2, a31r3, a31r4, a31r5]
  refine callD_row (refPut_step _ 8 e.emp 4 (by simp [enc_length]) (by omega) (by omega) (by omega)) (by simp only [go_sem, Nat.reduceAdd, Nat.reduceSub, Nat.reduceMul, Nat.reduceEqDiff, Nat.reduceLT, Nat.reduceLeDiff, Nat.reduceBEq, reduceIte, reduceCtorEq, Int.reduceToNat, Int.reduceLE, Int.reduceLT, Int.reduceBEq, Int.reduceBNe]) rfl els_clean els_clean rfl ?_
  simp only [go_sem, Nat.reduceAdd, Nat.reduceSub, Nat.reduceMul, Nat.reduceEqDiff, Nat.reduceLT, Nat.reduceLeDiff, Nat.reduceBEq, reduceIte, reduceCtorEq, Int.reduceToNat, Int.reduceLE, Int.reduceLT, Int.reduceBEq, Int.reduceBNe, a31, a31r0, a31r1, a31r2, a31r3, a31r4, a31r5]
  refine callD_row (refPut_step _ 12 e.time 4 (by simp [enc_length]) (by omega) (by omega) (by omega)) (by simp only [go_sem, Nat.reduceAdd, Nat.reduceSub, Nat.reduceMul, Nat.reduceEqDiff, Nat.reduceLT, Nat.reduceLeDiff, Nat.reduceBEq, reduceIte, reduceCtorEq, Int.reduceToNat, Int.reduceLE, Int.reduceLT, Int.reduceBEq, Int.reduceBNe]) rfl els_clean els_clean rfl ?_
  simp only [go_sem, Nat.reduceAdd, Nat.reduceSub, Nat.reduceMul, Nat.reduceEqDiff, Nat.reduceLT, Nat.reduceLeDiff, Nat.reduceBEq, reduceIte, reduceCtorEq, Int.reduceToNat, Int.reduceLE, Int.reduceLT, Int.reduceBEq, Int.reduceBNe, a31, a31r0, a31r1, a31r2, a31r3, a31r4, a31r5]
  refine callD_row (refPut_step _ 16 e.tt 2 (by simp [enc_length]) (by omega) (by omega) (by omega)) (by simp only [go_sem, Nat.reduceAdd, Nat.reduceSub, Nat.reduceMul, Nat.reduceEqDiff, Nat.reduceLT, Nat.reduceLeDiff, Nat.reduceBEq, reduceIte, reduceCtorEq, Int.reduceToNat, Int.reduceLE, Int.reduceLT, Int.reduceBEq, Int.reduceBNe]) rfl els_clean els_clean rfl ?_
  simp only [go_sem, Nat.reduceAdd, Nat.reduceSub, Nat.reduceMul, Nat.reduceEqDiff, Nat.reduceLT, Nat.reduceLeDiff, Nat.reduceBEq, reduceIte, reduceCtorEq, Int.reduceToNat, Int.reduceLE, Int.reduceLT, Int.reduceBEq, Int.reduceBNe, a31, a31r0, a31r1, a31r2, a31r3, a31r4, a31r5]
  refine callD_row (refPut_step _ 18 e.ts 4 (by simp [enc_length]) (by omega) (by omega) (by omega)) (by simp only [go_sem, Nat.reduceAdd, Nat.reduceSub, Nat.reduceMul, Nat.reduceEqDiff, Nat.reduceLT, Nat.reduceLeDiff, Nat.reduceBEq, reduceIte, reduceCtorEq, Int.reduceToNat, Int.reduceLE, Int.reduceLT, Int.reduceBEq, Int.reduceBNe]) rfl els_clean els_clean rfl ?_
  simp only [go_sem, Nat.reduceAdd, Nat.reduceSub, Nat.reduceMul, Nat.reduceEqDiff, Nat.reduceLT, Nat.reduceLeDiff, Nat.reduceBEq, reduceIte, reduceCtorEq, Int.reduceToNat, Int.reduceLE, Int.reduceLT, Int.reduceBEq, Int.reduceBNe, a31, a31r0, a31r1, a31r2, a31r3, a31r4, a31r5]
  have hb : enc 193 1 ++ enc e.kind.toNat 1 ++ enc e.kt.toNat 2 ++ enc e.ks.toNat 4 ++ enc e.emp.toNat 4 ++ enc e.time.toNat 4 ++ enc e.tt.toNat 2 ++ enc e.ts.toNat 4 = body e := rfl
  rw [hb]
  have hbl := body_length e
  refine callC_lookAll (refSum_ok (body e) (by omega)) rfl (by rw [els_length, hbl]) els_clean rfl rfl ?_
  simp only [go_sem, Nat.reduceAdd, Nat.reduceSub, Nat.reduceMul, Nat.reduceEqDiff, Nat.reduceLT, Nat.reduceLeDiff, Nat.reduceBEq, reduceIte, reduceCtorEq, Int.reduceToNat, Int.reduceLE, Int.reduceLT, Int.reduceBEq, Int.reduceBNe]
  refine callC_row (refPut_step (body e) 22 _ 2 hbl (by omega) (by omega) (by omega)) rfl els_clean els_clean rfl ?_
  simp only [go_sem, Nat.reduceAdd, Nat.reduceSub, Nat.reduceMul, Nat.reduceEqDiff, Nat.reduceLT, Nat.reduceLeDiff, Nat.reduceBEq, reduceIte, reduceCtorEq, Int.reduceToNat, Int.reduceLE, Int.reduceLT, Int.reduceBEq, Int.reduceBNe]
  (refine Cl.tr [some 1] [] rfl rfl (by simp only [go_sem, Nat.reduceAdd, Nat.reduceSub, Nat.reduceMul, Nat.reduceEqDiff, Nat.reduceLT, Nat.reduceLeDiff, Nat.reduceBEq, reduceIte, reduceCtorEq, Int.reduceToNat, Int.reduceLE, Int.reduceLT, Int.reduceBEq, Int.reduceBNe] <;> rfl) ?_; simp only [go_sem, Nat.reduceAdd, Nat.reduceSub, Nat.reduceMul, Nat.reduceEqDiff, Nat.reduceLT, Nat.reduceLeDiff, Nat.reduceBEq, reduceIte, reduceCtorEq, Int.reduceToNat, Int.reduceLE, Int.reduceLT, Int.reduceBEq, Int.reduceBNe])
  exact Cl.here ⟨rfl, rfl⟩

theorem refEncode_ok (e : Ev) (he : vEv e) : AFn Try.prog 13 [.agg (Cel.c e)] [] (fun v rows => v = .tup [.own 0 24 0 24, .int .i64 0] ∧ rows = [.live 5 1 (els (frame e))]) := by
  refine afn Try.func13 a13_ok (by simp [a13]) ?_
  simp only [go_sem, Nat.reduceAdd, Nat.reduceSub, Nat.reduceMul, Nat.reduceEqDiff, Nat.reduceLT, Nat.reduceLeDiff, Nat.reduceBEq, reduceIte, reduceCtorEq, Int.reduceToNat, Int.reduceLE, Int.reduceLT, Int.reduceBEq, Int.reduceBNe, a13, a13r0, a13r1, a13r2, a13r3]
  refine callC_det (refValid_ok e) (by simp only [go_sem, Nat.reduceAdd, Nat.reduceSub, Nat.reduceMul, Nat.reduceEqDiff, Nat.reduceLT, Nat.reduceLeDiff, Nat.reduceBEq, reduceIte, reduceCtorEq, Int.reduceToNat, Int.reduceLE, Int.reduceLT, Int.reduceBEq, Int.reduceBNe]) rfl ?_
  rw [decide_eq_true he]
  simp only [go_sem, Nat.reduceAdd, Nat.reduceSub, Nat.reduceMul, Nat.reduceEqDiff, Nat.reduceLT, Nat.reduceLeDiff, Nat.reduceBEq, reduceIte, reduceCtorEq, Int.reduceToNat, Int.reduceLE, Int.reduceLT, Int.reduceBEq, Int.reduceBNe, a13, a13r0, a13r1, a13r2, a13r3]
  (refine callC_of [] [] (by simp) rfl (bindL_clean _ (by first | rfl | simp only [go_sem, Nat.reduceAdd, Nat.reduceSub, Nat.reduceMul, Nat.reduceEqDiff, Nat.reduceLT, Nat.reduceLeDiff, Nat.reduceBEq, reduceIte, reduceCtorEq, Int.reduceToNat, Int.reduceLE, Int.reduceLT, Int.reduceBEq, Int.reduceBNe])) (refFrame_ok e he) ?_; rintro _ _ ⟨rfl, rfl⟩; refine ⟨.inl rfl, ?_⟩; simp only [go_sem, Nat.reduceAdd, Nat.reduceSub, Nat.reduceMul, Nat.reduceEqDiff, Nat.reduceLT, Nat.reduceLeDiff, Nat.reduceBEq, reduceIte, reduceCtorEq, Int.reduceToNat, Int.reduceLE, Int.reduceLT, Int.reduceBEq, Int.reduceBNe])
  (refine Cl.tr [some 1] [] rfl rfl (by simp only [go_sem, Nat.reduceAdd, Nat.reduceSub, Nat.reduceMul, Nat.reduceEqDiff, Nat.reduceLT, Nat.reduceLeDiff, Nat.reduceBEq, reduceIte, reduceCtorEq, Int.reduceToNat, Int.reduceLE, Int.reduceLT, Int.reduceBEq, Int.reduceBNe] <;> rfl) ?_; simp only [go_sem, Nat.reduceAdd, Nat.reduceSub, Nat.reduceMul, Nat.reduceEqDiff, Nat.reduceLT, Nat.reduceLeDiff, Nat.reduceBEq, reduceIte, reduceCtorEq, Int.reduceToNat, Int.reduceLE, Int.reduceLT, Int.reduceBEq, Int.reduceBNe])
  exact Cl.here ⟨rfl, rfl⟩

theorem refEncode_bad (e : Ev) (he : ¬ vEv e) : AFn Try.prog 13 [.agg (Cel.c e)] [] (fun v rows => v = .tup [.nils, .int .i64 1] ∧ rows = []) := by
  refine afn Try.func13 a13_ok (by simp [a13]) ?_
  simp only [go_sem, Nat.reduceAdd, Nat.reduceSub, Nat.reduceMul, Nat.reduceEqDiff, Nat.reduceLT, Nat.reduceLeDiff, Nat.reduceBEq, reduceIte, reduceCtorEq, Int.reduceToNat, Int.reduceLE, Int.reduceLT, Int.reduceBEq, Int.reduceBNe, a13, a13r0, a13r1, a13r2, a13r3]
  refine callC_det (refValid_ok e) (by simp only [go_sem, Nat.reduceAdd, Nat.reduceSub, Nat.reduceMul, Nat.reduceEqDiff, Nat.reduceLT, Nat.reduceLeDiff, Nat.reduceBEq, reduceIte, reduceCtorEq, Int.reduceToNat, Int.reduceLE, Int.reduceLT, Int.reduceBEq, Int.reduceBNe]) rfl ?_
  rw [decide_eq_false he]
  simp only [go_sem, Nat.reduceAdd, Nat.reduceSub, Nat.reduceMul, Nat.reduceEqDiff, Nat.reduceLT, Nat.reduceLeDiff, Nat.reduceBEq, reduceIte, reduceCtorEq, Int.reduceToNat, Int.reduceLE, Int.reduceLT, Int.reduceBEq, Int.reduceBNe, a13, a13r0, a13r1, a13r2, a13r3]
  exact Cl.fin rfl ⟨rfl, rfl⟩

/-- the event that 24 bytes tell -/
def evOf (b : List UInt8) : Ev := ⟨dec ((b.drop 2).take 2), dec ((b.drop 4).take 4), dec ((b.drop 8).take 4), dec ((b.drop 12).take 4), dec ((b.drop 1).take 1), dec ((b.drop 16).take 2), dec ((b.drop 18).take 4)⟩
def good (b : List UInt8) : Prop := b.getD 0 0 = 193 ∧ crc (b.take 22) = dec ((b.drop 22).take 2) ∧ vEv (evOf b)
instance (b : List UInt8) : Decidable (good b) := by unfold good; infer_instance

theorem getV (b : List UInt8) (k n : Nat) (hn : n ≤ 6) : AFn Try.prog 38 [.pure 1 (els ((b.drop k).take n))] [] (fun v rows => v = .int .i64 (dec ((b.drop k).take n)) ∧ rows = []) :=
  get_ok _ (by simp; omega)
theorem refGetV (b : List UInt8) (k n : Nat) (hn : n ≤ 6) : AFn Try.prog 39 [.pure 1 (els ((b.drop k).take n))] [] (fun v rows => v = .int .i64 (dec ((b.drop k).take n)) ∧ rows = []) :=
  refGet_ok _ (by simp; omega)

theorem read_ok (b : List UInt8) (hb : b.length = 24) : AFn Try.prog 35 [.pure 1 (els b)] [] (fun v rows => (∃ x : Ev, v = .tup [.agg (Cel.c x), .bool (decide (good b))] ∧ (good b → x = evOf b)) ∧ rows = []) := by
  refine afn Try.func35 a35_ok (by simp [a35]) ?_
  have h0 : (els b).getD 0 [] = [.int .u8 (b.getD 0 0).toNat] := by
    rw [els_getD (by omega), cel_u8, List.getD_eq_getElem?_getD, List.getElem?_eq_getElem (by omega)]; rfl
  simp only [go_sem, Nat.reduceAdd, Nat.reduceSub, Nat.reduceMul, Nat.reduceEqDiff, Nat.reduceLT, Nat.reduceLeDiff, Nat.reduceBEq, reduceIte, reduceCtorEq, Int.reduceToNat, Int.reduceLE, Int.reduceLT, Int.reduceBEq, Int.reduceBNe, a35, a35r0, a35r1, a35r2, a35r3, a35r4, hb]
  rw [h0]
  refine ⟨by simp, ?_⟩
  simp only [go_sem, Nat.reduceAdd, Nat.reduceSub, Nat.reduceMul, Nat.reduceEqDiff, Nat.reduceLT, Nat.reduceLeDiff, Nat.reduceBEq, reduceIte, reduceCtorEq, Int.reduceToNat, Int.reduceLE, Int.reduceLT, Int.reduceBEq, Int.reduceBNe, a35, a35r0, a35r1, a35r2, a35r3, a35r4, hb]
  refine grdD_intro ?_ ?_ <;> intro hg <;> simp only [go_sem, Nat.reduceAdd, Nat.reduceSub, Nat.reduceMul, Nat.reduceEqDiff, Nat.reduceLT, Nat.reduceLeDiff, Nat.reduceBEq, reduceIte, reduceCtorEq, Int.reduceToNat, Int.reduceLE, Int.reduceLT, Int.reduceBEq, Int.reduceBNe, a35, a35r0, a35r1, a35r2, a35r3, a35r4, hb, hg]
  · have hng : ¬ good b := by
      rintro ⟨h, _⟩
      rw [h] at hg
      simp at hg
    refine Cl.fin rfl ⟨⟨⟨0, 0, 0, 0, 0, 0, 0⟩, ?_, fun h => (hng h).elim⟩, rfl⟩
    rw [decide_eq_false hng]; rfl
  · refine callD_det (getV b 22 2 (by omega)) (by simp only [go_sem, Nat.reduceAdd, Nat.reduceSub, Nat.reduceMul, Nat.reduceEqDiff, Nat.reduceLT, Nat.reduceLeDiff, Nat.reduceBEq, reduceIte, reduceCtorEq, Int.reduceToNat, Int.reduceLE, Int.reduceLT, Int.reduceBEq, Int.reduceBNe]) rfl ?_
    simp only [go_sem, Nat.reduceAdd, Nat.reduceSub, Nat.reduceMul, Nat.reduceEqDiff, Nat.reduceLT, Nat.reduceLeDiff, Nat.reduceBEq, reduceIte, reduceCtorEq, Int.reduceToNat, Int.reduceLE, Int.reduceLT, Int.reduceBEq, Int.reduceBNe]
    refine callD_det (sum_ok (b.take 22) (by simp; omega)) (by simp only [go_sem, Nat.reduceAdd, Nat.reduceSub, Nat.reduceMul, Nat.reduceEqDiff, Nat.reduceLT, Nat.reduceLeDiff, Nat.reduceBEq, reduceIte, reduceCtorEq, Int.reduceToNat, Int.reduceLE, Int.reduceLT, Int.reduceBEq, Int.reduceBNe]) rfl ?_
    simp only [go_sem, Nat.reduceAdd, Nat.reduceSub, Nat.reduceMul, Nat.reduceEqDiff, Nat.reduceLT, Nat.reduceLeDiff, Nat.reduceBEq, reduceIte, reduceCtorEq, Int.reduceToNat, Int.reduceLE, Int.reduceLT, Int.reduceBEq, Int.reduceBNe, a35, a35r0, a35r1, a35r2, a35r3, a35r4, hb]
    have hg1 : b.getD 0 0 = 193 := by
      simp only [decide_eq_true_eq, decide_eq_false_iff_not, beq_iff_eq, beq_eq_false_iff_ne, bne_iff_ne, bne_eq_false_iff_eq, Bool.not_eq_true', Bool.not_eq_false', Int.not_lt, Int.not_le, ne_eq, Bool.and_eq_true, Bool.or_eq_true, Bool.or_eq_false_iff, Bool.and_eq_false_iff] at hg
      exact UInt8.toNat_inj.1 (by have h193 : (193 : UInt8).toNat = 193 := rfl; omega)
    refine condC_intro ?_ ?_ <;> intro hc <;> simp only [decide_eq_true_eq, decide_eq_false_iff_not, beq_iff_eq, beq_eq_false_iff_ne, bne_iff_ne, bne_eq_false_iff_eq, Bool.not_eq_true', Bool.not_eq_false', Int.not_lt, Int.not_le, ne_eq, Bool.and_eq_true, Bool.or_eq_true, Bool.or_eq_false_iff, Bool.and_eq_false_iff] at hc <;> simp only [go_sem, Nat.reduceAdd, Nat.reduceSub, Nat.reduceMul, Nat.reduceEqDiff, Nat.reduceLT, Nat.reduceLeDiff, Nat.reduceBEq, reduceIte, reduceCtorEq, Int.reduceToNat, Int.reduceLE, Int.reduceLT, Int.reduceBEq, Int.reduceBNe, a35, a35r0, a35r1, a35r2, a35r3, a35r4, hb]
    · have hng : ¬ good b := by
        rintro ⟨_, h, _⟩
        exact hc (by rw [h])
      refine Cl.fin rfl ⟨⟨⟨0, 0, 0, 0, 0, 0, 0⟩, ?_, fun h => (hng h).elim⟩, rfl⟩
      rw [decide_eq_false hng]; rfl
    · refine callD_det (getV b 2 2 (by omega)) (by simp only [go_sem, Nat.reduceAdd, Nat.reduceSub, Nat.reduceMul, Nat.reduceEqDiff, Nat.reduceLT, Nat.reduceLeDiff, Nat.reduceBEq, reduceIte, reduceCtorEq, Int.reduceToNat, Int.reduceLE, Int.reduceLT, Int.reduceBEq, Int.reduceBNe]) rfl ?_
      simp only [go_sem, Nat.reduceAdd, Nat.reduceSub, Nat.reduceMul, Nat.reduceEqDiff, Nat.reduceLT, Nat.reduceLeDiff, Nat.reduceBEq, reduceIte, reduceCtorEq, Int.reduceToNat, Int.reduceLE, Int.reduceLT, Int.reduceBEq, Int.reduceBNe]
      refine callD_det (getV b 4 4 (by omega)) (by simp only [go_sem, Nat.reduceAdd, Nat.reduceSub, Nat.reduceMul, Nat.reduceEqDiff, Nat.reduceLT, Nat.reduceLeDiff, Nat.reduceBEq, reduceIte, reduceCtorEq, Int.reduceToNat, Int.reduceLE, Int.reduceLT, Int.reduceBEq, Int.reduceBNe]) rfl ?_
      simp only [go_sem, Nat.reduceAdd, Nat.reduceSub, Nat.reduceMul, Nat.reduceEqDiff, Nat.reduceLT, Nat.reduceLeDiff, Nat.reduceBEq, reduceIte, reduceCtorEq, Int.reduceToNat, Int.reduceLE, Int.reduceLT, Int.reduceBEq, Int.reduceBNe]
      refine callD_det (getV b 8 4 (by omega)) (by simp only [go_sem, Nat.reduceAdd, Nat.reduceSub, Nat.reduceMul, Nat.reduceEqDiff, Nat.reduceLT, Nat.reduceLeDiff, Nat.reduceBEq, reduceIte, reduceCtorEq, Int.reduceToNat, Int.reduceLE, Int.reduceLT, Int.reduceBEq, Int.reduceBNe]) rfl ?_
      simp only [go_sem, Nat.reduceAdd, Nat.reduceSub, Nat.reduceMul, Nat.reduceEqDiff, Nat.reduceLT, Nat.reduceLeDiff, Nat.reduceBEq, reduceIte, reduceCtorEq, Int.reduceToNat, Int.reduceLE, Int.reduceLT, Int.reduceBEq, Int.reduceBNe]
      refine callD_det (getV b 12 4 (by omega)) (by simp only [go_sem, Nat.reduceAdd, Nat.reduceSub, Nat.reduceMul, Nat.reduceEqDiff, Nat.reduceLT, Nat.reduceLeDiff, Nat.reduceBEq, reduceIte, reduceCtorEq, Int.reduceToNat, Int.reduceLE, Int.reduceLT, Int.reduceBEq, Int.reduceBNe]) rfl ?_
      simp only [go_sem, Nat.reduceAdd, Nat.reduceSub, Nat.reduceMul, Nat.reduceEqDiff, Nat.reduceLT, Nat.reduceLeDiff, Nat.reduceBEq, reduceIte, reduceCtorEq, Int.reduceToNat, Int.reduceLE, Int.reduceLT, Int.reduceBEq, Int.reduceBNe]
      refine callD_det (getV b 1 1 (by omega)) (by simp only [go_sem, Nat.reduceAdd, Nat.reduceSub, Nat.reduceMul, Nat.reduceEqDiff, Nat.reduceLT, Nat.reduceLeDiff, Nat.reduceBEq, reduceIte, reduceCtorEq, Int.reduceToNat, Int.reduceLE, Int.reduceLT, Int.reduceBEq, Int.reduceBNe]) rfl ?_
      simp only [go_sem, Nat.reduceAdd, Nat.reduceSub, Nat.reduceMul, Nat.reduceEqDiff, Nat.reduceLT, Nat.reduceLeDiff, Nat.reduceBEq, reduceIte, reduceCtorEq, Int.reduceToNat, Int.reduceLE, Int.reduceLT, Int.reduceBEq, Int.reduceBNe]
      refine callD_det (getV b 16 2 (by omega)) (by simp only [go_sem, Nat.reduceAdd, Nat.reduceSub, Nat.reduceMul, Nat.reduceEqDiff, Nat.reduceLT, Nat.reduceLeDiff, Nat.reduceBEq, reduceIte, reduceCtorEq, Int.reduceToNat, Int.reduceLE, Int.reduceLT, Int.reduceBEq, Int.reduceBNe]) rfl ?_
      simp only [go_sem, Nat.reduceAdd, Nat.reduceSub, Nat.reduceMul, Nat.reduceEqDiff, Nat.reduceLT, Nat.reduceLeDiff, Nat.reduceBEq, reduceIte, reduceCtorEq, Int.reduceToNat, Int.reduceLE, Int.reduceLT, Int.reduceBEq, Int.reduceBNe]
      refine callD_det (getV b 18 4 (by omega)) (by simp only [go_sem, Nat.reduceAdd, Nat.reduceSub, Nat.reduceMul, Nat.reduceEqDiff, Nat.reduceLT, Nat.reduceLeDiff, Nat.reduceBEq, reduceIte, reduceCtorEq, Int.reduceToNat, Int.reduceLE, Int.reduceLT, Int.reduceBEq, Int.reduceBNe]) rfl ?_
      simp only [go_sem, Nat.reduceAdd, Nat.reduceSub, Nat.reduceMul, Nat.reduceEqDiff, Nat.reduceLT, Nat.reduceLeDiff, Nat.reduceBEq, reduceIte, reduceCtorEq, Int.reduceToNat, Int.reduceLE, Int.reduceLT, Int.reduceBEq, Int.reduceBNe, a35, a35r0, a35r1, a35r2, a35r3, a35r4]
      refine callD_det (valid_ok (evOf b)) rfl rfl ?_
      simp only [go_sem, Nat.reduceAdd, Nat.reduceSub, Nat.reduceMul, Nat.reduceEqDiff, Nat.reduceLT, Nat.reduceLeDiff, Nat.reduceBEq, reduceIte, reduceCtorEq, Int.reduceToNat, Int.reduceLE, Int.reduceLT, Int.reduceBEq, Int.reduceBNe, a35, a35r0, a35r1, a35r2, a35r3, a35r4]
      refine Cl.fin rfl ⟨⟨evOf b, ?_, fun _ => rfl⟩, rfl⟩
      have : good b ↔ vEv (evOf b) := ⟨fun h => h.2.2, fun h => ⟨hg1, by omega, h⟩⟩
      rw [decide_eq_decide.2 this]; rfl

theorem refRead_ok (b : List UInt8) (hb : b.length = 24) : AFn Try.prog 37 [.pure 1 (els b)] [] (fun v rows => (∃ x : Ev, v = .tup [.agg (Cel.c x), .bool (decide (good b))] ∧ (good b → x = evOf b)) ∧ rows = []) := by
  refine afn Try.func37 a37_ok (by simp [a37]) ?_
  have h0 : (els b).getD 0 [] = [.int .u8 (b.getD 0 0).toNat] := by
    rw [els_getD (by omega), cel_u8, List.getD_eq_getElem?_getD, List.getElem?_eq_getElem (by omega)]; rfl
  have h1 : (els b).getD 1 [] = [.int .u8 (dec ((b.drop 1).take 1))] := by
    rw [els_getD (by omega), cel_u8]
    congr 2
    have : (b.drop 1).take 1 = [b[1]] := by
      rw [List.drop_eq_getElem_cons (by omega)]; rfl
    rw [this]
    simp [dec]
  simp only [go_sem, Nat.reduceAdd, Nat.reduceSub, Nat.reduceMul, Nat.reduceEqDiff, Nat.reduceLT, Nat.reduceLeDiff, Nat.reduceBEq, reduceIte, reduceCtorEq, Int.reduceToNat, Int.reduceLE, Int.reduceLT, Int.reduceBEq, Int.reduceBNe, a37, a37r0, a37r1, a37r2, hb]
  rw [h1]
  refine ⟨by simp, ?_⟩
  have hd1 : dec ((b.drop 1).take 1) < 256 := by
    have := dec_lt (l := (b.drop 1).take 1)
    have hl : ((b.drop 1).take 1).length = 1 := by simp; omega
    rw [hl] at this
    simpa using this
  simp only [go_sem, Nat.reduceAdd, Nat.reduceSub, Nat.reduceMul, Nat.reduceEqDiff, Nat.reduceLT, Nat.reduceLeDiff, Nat.reduceBEq, reduceIte, reduceCtorEq, Int.reduceToNat, Int.reduceLE, Int.reduceLT, Int.reduceBEq, Int.reduceBNe, hb]
  rw [wrap_i64 (by omega) (by omega)]
  refine callD_det (refGetV b 2 2 (by omega)) (by simp only [go_sem, Nat.reduceAdd, Nat.reduceSub, Nat.reduceMul, Nat.reduceEqDiff, Nat.reduceLT, Nat.reduceLeDiff, Nat.reduceBEq, reduceIte, reduceCtorEq, Int.reduceToNat, Int.reduceLE, Int.reduceLT, Int.reduceBEq, Int.reduceBNe]) rfl ?_
  simp only [go_sem, Nat.reduceAdd, Nat.reduceSub, Nat.reduceMul, Nat.reduceEqDiff, Nat.reduceLT, Nat.reduceLeDiff, Nat.reduceBEq, reduceIte, reduceCtorEq, Int.reduceToNat, Int.reduceLE, Int.reduceLT, Int.reduceBEq, Int.reduceBNe]
  refine callD_det (refGetV b 4 4 (by omega)) (by simp only [go_sem, Nat.reduceAdd, Nat.reduceSub, Nat.reduceMul, Nat.reduceEqDiff, Nat.reduceLT, Nat.reduceLeDiff, Nat.reduceBEq, reduceIte, reduceCtorEq, Int.reduceToNat, Int.reduceLE, Int.reduceLT, Int.reduceBEq, Int.reduceBNe]) rfl ?_
  simp only [go_sem, Nat.reduceAdd, Nat.reduceSub, Nat.reduceMul, Nat.reduceEqDiff, Nat.reduceLT, Nat.reduceLeDiff, Nat.reduceBEq, reduceIte, reduceCtorEq, Int.reduceToNat, Int.reduceLE, Int.reduceLT, Int.reduceBEq, Int.reduceBNe]
  refine callD_det (refGetV b 8 4 (by omega)) (by simp only [go_sem, Nat.reduceAdd, Nat.reduceSub, Nat.reduceMul, Nat.reduceEqDiff, Nat.reduceLT, Nat.reduceLeDiff, Nat.reduceBEq, reduceIte, reduceCtorEq, Int.reduceToNat, Int.reduceLE, Int.reduceLT, Int.reduceBEq, Int.reduceBNe]) rfl ?_
  simp only [go_sem, Nat.reduceAdd, Nat.reduceSub, Nat.reduceMul, Nat.reduceEqDiff, Nat.reduceLT, Nat.reduceLeDiff, Nat.reduceBEq, reduceIte, reduceCtorEq, Int.reduceToNat, Int.reduceLE, Int.reduceLT, Int.reduceBEq, Int.reduceBNe]
  refine callD_det (refGetV b 12 4 (by omega)) (by simp only [go_sem, Nat.reduceAdd, Nat.reduceSub, Nat.reduceMul, Nat.reduceEqDiff, Nat.reduceLT, Nat.reduceLeDiff, Nat.reduceBEq, reduceIte, reduceCtorEq, Int.reduceToNat, Int.reduceLE, Int.reduceLT, Int.reduceBEq, Int.reduceBNe]) rfl ?_
  simp only [go_sem, Nat.reduceAdd, Nat.reduceSub, Nat.reduceMul, Nat.reduceEqDiff, Nat.reduceLT, Nat.reduceLeDiff, Nat.reduceBEq, reduceIte, reduceCtorEq, Int.reduceToNat, Int.reduceLE, Int.reduceLT, Int.reduceBEq, Int.reduceBNe]
  refine callD_det (refGetV b 16 2 (by omega)) (by simp only [go_sem, Nat.reduceAdd, Nat.reduceSub, Nat.reduceMul, Nat.reduceEqDiff, Nat.reduceLT, Nat.reduceLeDiff, Nat.reduceBEq, reduceIte, reduceCtorEq, Int.reduceToNat, Int.reduceLE, Int.reduceLT, Int.reduceBEq, Int.reduceBNe]) rfl ?_
  simp only [go_sem, Nat.reduceAdd, Nat.reduceSub, Nat.reduceMul, Nat.reduceEqDiff, Nat.reduceLT, Nat.reduceLeDiff, Nat.reduceBEq, reduceIte, reduceCtorEq, Int.reduceToNat, Int.reduceLE, Int.reduceLT, Int.reduceBEq, Int.reduceBNe]
  refine callD_det (refGetV b 18 4 (by omega)) (by simp only [go_sem, Nat.reduceAdd, Nat.reduceSub, Nat.reduceMul, Nat.reduceEqDiff, Nat.reduceLT, Nat.reduceLeDiff, Nat.reduceBEq, reduceIte, reduceCtorEq, Int.reduceToNat, Int.reduceLE, Int.reduceLT, Int.reduceBEq, Int.reduceBNe]) rfl ?_
  simp only [go_sem, Nat.reduceAdd, Nat.reduceSub, Nat.reduceMul, Nat.reduceEqDiff, Nat.reduceLT, Nat.reduceLeDiff, Nat.reduceBEq, reduceIte, reduceCtorEq, Int.reduceToNat, Int.reduceLE, Int.reduceLT, Int.reduceBEq, Int.reduceBNe, a37, a37r0, a37r1, a37r2, hb]
  rw [h0]
  refine ⟨by simp, ?_⟩
  simp only [go_sem, Nat.reduceAdd, Nat.reduceSub, Nat.reduceMul, Nat.reduceEqDiff, Nat.reduceLT, Nat.reduceLeDiff, Nat.reduceBEq, reduceIte, reduceCtorEq, Int.reduceToNat, Int.reduceLE, Int.reduceLT, Int.reduceBEq, Int.reduceBNe, hb]
  refine grdD_intro ?_ ?_ <;> intro hg <;> simp only [go_sem, Nat.reduceAdd, Nat.reduceSub, Nat.reduceMul, Nat.reduceEqDiff, Nat.reduceLT, Nat.reduceLeDiff, Nat.reduceBEq, reduceIte, reduceCtorEq, Int.reduceToNat, Int.reduceLE, Int.reduceLT, Int.reduceBEq, Int.reduceBNe, a37, a37r0, a37r1, a37r2, hb, hg] <;> simp only [decide_eq_true_eq, decide_eq_false_iff_not, beq_iff_eq, beq_eq_false_iff_ne, bne_iff_ne, bne_eq_false_iff_eq, Bool.not_eq_true', Bool.not_eq_false', Int.not_lt, Int.not_le, ne_eq, Bool.and_eq_true, Bool.or_eq_true, Bool.or_eq_false_iff, Bool.and_eq_false_iff] at hg
  · have hg1 : b.getD 0 0 = 193 := UInt8.toNat_inj.1 (by have h193 : (193 : UInt8).toNat = 193 := rfl; omega)
    refine callD_det (refSum_ok (b.take 22) (by simp; omega)) (by simp only [go_sem, Nat.reduceAdd, Nat.reduceSub, Nat.reduceMul, Nat.reduceEqDiff, Nat.reduceLT, Nat.reduceLeDiff, Nat.reduceBEq, reduceIte, reduceCtorEq, Int.reduceToNat, Int.reduceLE, Int.reduceLT, Int.reduceBEq, Int.reduceBNe]) rfl ?_
    simp only [go_sem, Nat.reduceAdd, Nat.reduceSub, Nat.reduceMul, Nat.reduceEqDiff, Nat.reduceLT, Nat.reduceLeDiff, Nat.reduceBEq, reduceIte, reduceCtorEq, Int.reduceToNat, Int.reduceLE, Int.reduceLT, Int.reduceBEq, Int.reduceBNe]
    refine callD_det (refGetV b 22 2 (by omega)) (by simp only [go_sem, Nat.reduceAdd, Nat.reduceSub, Nat.reduceMul, Nat.reduceEqDiff, Nat.reduceLT, Nat.reduceLeDiff, Nat.reduceBEq, reduceIte, reduceCtorEq, Int.reduceToNat, Int.reduceLE, Int.reduceLT, Int.reduceBEq, Int.reduceBNe]) rfl ?_
    simp only [go_sem, Nat.reduceAdd, Nat.reduceSub, Nat.reduceMul, Nat.reduceEqDiff, Nat.reduceLT, Nat.reduceLeDiff, Nat.reduceBEq, reduceIte, reduceCtorEq, Int.reduceToNat, Int.reduceLE, Int.reduceLT, Int.reduceBEq, Int.reduceBNe, a37, a37r0, a37r1, a37r2, hb]
    refine grdD_intro ?_ ?_ <;> intro hc <;> simp only [go_sem, Nat.reduceAdd, Nat.reduceSub, Nat.reduceMul, Nat.reduceEqDiff, Nat.reduceLT, Nat.reduceLeDiff, Nat.reduceBEq, reduceIte, reduceCtorEq, Int.reduceToNat, Int.reduceLE, Int.reduceLT, Int.reduceBEq, Int.reduceBNe, a37, a37r0, a37r1, a37r2, hb, hc] <;> simp only [decide_eq_true_eq, decide_eq_false_iff_not, beq_iff_eq, beq_eq_false_iff_ne, bne_iff_ne, bne_eq_false_iff_eq, Bool.not_eq_true', Bool.not_eq_false', Int.not_lt, Int.not_le, ne_eq, Bool.and_eq_true, Bool.or_eq_true, Bool.or_eq_false_iff, Bool.and_eq_false_iff] at hc
    · refine callD_det (refValid_ok (evOf b)) rfl rfl ?_
      simp only [go_sem, Nat.reduceAdd, Nat.reduceSub, Nat.reduceMul, Nat.reduceEqDiff, Nat.reduceLT, Nat.reduceLeDiff, Nat.reduceBEq, reduceIte, reduceCtorEq, Int.reduceToNat, Int.reduceLE, Int.reduceLT, Int.reduceBEq, Int.reduceBNe, a37, a37r0, a37r1, a37r2]
      refine Cl.fin rfl ⟨⟨evOf b, ?_, fun _ => rfl⟩, rfl⟩
      have : good b ↔ vEv (evOf b) := ⟨fun h => h.2.2, fun h => ⟨hg1, by omega, h⟩⟩
      rw [decide_eq_decide.2 this]; rfl
    · have hng : ¬ good b := by
        rintro ⟨_, h, _⟩
        exact hc (by rw [h])
      refine Cl.fin rfl ⟨⟨evOf b, ?_, fun h => (hng h).elim⟩, rfl⟩
      rw [decide_eq_false hng]; rfl
  · have hng : ¬ good b := by
      rintro ⟨h, _⟩
      rw [h] at hg
      simp at hg
    refine Cl.fin rfl ⟨⟨evOf b, ?_, fun h => (hng h).elim⟩, rfl⟩
    rw [decide_eq_false hng]; rfl

/-- a gap -/
structure Gp where
  fr : Int
  to : Int
def Gp.cells (e : Gp) : List AVal := [.int .i64 e.fr, .int .i64 e.to]
instance : Cel Gp := ⟨Gp.cells, 2, fun _ => rfl, fun _ => rfl, fun _ => rfl, fun _ => rfl⟩
theorem cel_gp (e : Gp) : Cel.c e = [.int .i64 e.fr, .int .i64 e.to] := rfl
theorem cel_gp_sz : Cel.sz Gp = 2 := rfl
theorem cel_gp_take (e : Gp) : List.take 2 (Cel.c e) = Cel.c e := rfl
attribute [go_sem] cel_gp_sz cel_gp_take
theorem Gp.ext' {a b : Gp} (h0 : a.fr = b.fr) (h1 : a.to = b.to) : a = b := by
  cases a; cases b; simp_all


/-- what is found in bytes: events, gaps, the number of bytes read -/
structure Found where
  evs : List Ev
  gaps : List Gp
def lastGap (gs : List Gp) : Gp := gs.getD (gs.length - 1) ⟨-1, -1⟩
def addGap (gs : List Gp) (at_ : Nat) : List Gp :=
  if (lastGap gs).to = at_ then gs.set (gs.length - 1) ⟨(lastGap gs).fr, at_ + 1⟩ else gs ++ [⟨at_, at_ + 1⟩]
/-- the loop of Decode, from a place on, with fuel -/
def scan (b : List UInt8) : Nat → Nat → List Ev → List Gp → List Ev × List Gp × Nat
  | 0, at_, es, gs => (es, gs, at_)
  | n + 1, at_, es, gs =>
    if at_ + 24 ≤ b.length then
      if good ((b.drop at_).take 24) then scan b n (at_ + 24) (es ++ [evOf ((b.drop at_).take 24)]) gs
      else scan b n (at_ + 1) es (addGap gs at_)
    else (es, gs, at_)
def decode (b : List UInt8) : List Ev × List Gp × Nat := scan b (b.length + 1) 0 [] []

theorem addGap_length {gs : List Gp} {at_ : Nat} : (addGap gs at_).length ≤ gs.length + 1 := by
  unfold addGap
  split <;> simp
theorem scan_step {b : List UInt8} {n at_ : Nat} {es : List Ev} {gs : List Gp} (h : at_ + 24 ≤ b.length) : scan b (n + 1) at_ es gs =
    if good ((b.drop at_).take 24) then scan b n (at_ + 24) (es ++ [evOf ((b.drop at_).take 24)]) gs else scan b n (at_ + 1) es (addGap gs at_) := by
  rw [scan, if_pos h]
theorem scan_end {b : List UInt8} {n at_ : Nat} {es : List Ev} {gs : List Gp} (h : ¬ at_ + 24 ≤ b.length) : scan b n at_ es gs = (es, gs, at_) := by
  cases n with
  | zero => rfl
  | succ n => rw [scan, if_neg h]

def DecInv (b : List UInt8) (env : Env) (rows : List Row) : Prop :=
  ∃ (n at_ : Nat) (es : List Ev) (gs : List Gp), scan b n at_ es gs = decode b ∧ at_ ≤ b.length ∧ es.length ≤ at_ ∧ gs.length ≤ at_ ∧ b.length < n + at_ ∧
    env = [(0, .pure 1 (els b)), (5, .own 0 es.length 0 es.length), (6, .own 1 gs.length 0 gs.length), (7, .int .i64 at_)] ∧ rows = [.live 26 7 (els es), .live 55 2 (els gs)]

theorem decode_ok (b : List UInt8) (hb : b.length ≤ 1000000) : AFn Try.prog 24 [.pure 1 (els b)] []
    (fun v rows => v = .tup [.own 0 (decode b).1.length 0 (decode b).1.length, .own 1 (decode b).2.1.length 0 (decode b).2.1.length, .int .i64 (decode b).2.2] ∧ rows = [.live 26 7 (els (decode b).1), .live 55 2 (els (decode b).2.1)]) := by
  refine afn Try.func24 a24_ok (by simp [a24]) ?_
  simp only [go_sem, Nat.reduceAdd, Nat.reduceSub, Nat.reduceMul, Nat.reduceEqDiff, Nat.reduceLT, Nat.reduceLeDiff, Nat.reduceBEq, reduceIte, reduceCtorEq, Int.reduceToNat, Int.reduceLE, Int.reduceLT, Int.reduceBEq, Int.reduceBNe, a24, a24r0, a24r1, a24r2, a24r3, a24r4, a24r5, a24r6, a24r7, a24r8, a24r9, a24r10, a24r11, a24r12, a24r13, a24r14]
  refine avc_loop (DecInv b) (fun env _ => match slot env 7 with | .int _ j => (b.length - j).toNat | _ => 0) ?_ ?_
  · (refine Cl.ghost 5  26  7 rfl (Cl.norm [ 0, 5, 6, 7] ?_); simp only [go_sem, Nat.reduceAdd, Nat.reduceSub, Nat.reduceMul, Nat.reduceEqDiff, Nat.reduceLT, Nat.reduceLeDiff, Nat.reduceBEq, reduceIte, reduceCtorEq, Int.reduceToNat, Int.reduceLE, Int.reduceLT, Int.reduceBEq, Int.reduceBNe])
    (refine Cl.ghost 6  55  2 rfl (Cl.norm [ 0, 5, 6, 7] ?_); simp only [go_sem, Nat.reduceAdd, Nat.reduceSub, Nat.reduceMul, Nat.reduceEqDiff, Nat.reduceLT, Nat.reduceLeDiff, Nat.reduceBEq, reduceIte, reduceCtorEq, Int.reduceToNat, Int.reduceLE, Int.reduceLT, Int.reduceBEq, Int.reduceBNe])
    exact Cl.here ⟨b.length + 1, 0, [], [], rfl, by omega, by simp, by simp, by omega, rfl, rfl⟩
  · rintro env rows ⟨n, at_, es, gs, hsc, h1, h2, h3, h4, rfl, rfl⟩
    simp only [go_sem, Nat.reduceAdd, Nat.reduceSub, Nat.reduceMul, Nat.reduceEqDiff, Nat.reduceLT, Nat.reduceLeDiff, Nat.reduceBEq, reduceIte, reduceCtorEq, Int.reduceToNat, Int.reduceLE, Int.reduceLT, Int.reduceBEq, Int.reduceBNe, a24, a24r0, a24r1, a24r2, a24r3, a24r4, a24r5, a24r6, a24r7, a24r8, a24r9, a24r10, a24r11, a24r12, a24r13, a24r14]
    rw [wrap_i64 (by omega) (by omega)]
    refine condC_intro ?_ ?_ <;> intro hg <;> simp only [decide_eq_true_eq, decide_eq_false_iff_not, beq_iff_eq, beq_eq_false_iff_ne, bne_iff_ne, bne_eq_false_iff_eq, Bool.not_eq_true', Bool.not_eq_false', Int.not_lt, Int.not_le, ne_eq, Bool.and_eq_true, Bool.or_eq_true, Bool.or_eq_false_iff, Bool.and_eq_false_iff] at hg <;> simp only [go_sem, Nat.reduceAdd, Nat.reduceSub, Nat.reduceMul, Nat.reduceEqDiff, Nat.reduceLT, Nat.reduceLeDiff, Nat.reduceBEq, reduceIte, reduceCtorEq, Int.reduceToNat, Int.reduceLE, Int.reduceLT, Int.reduceBEq, Int.reduceBNe, a24, a24r0, a24r1, a24r2, a24r3, a24r4, a24r5, a24r6, a24r7, a24r8, a24r9, a24r10, a24r11, a24r12, a24r13, a24r14]
    · rw [wrap_i64 (by omega) (by omega)]
      obtain ⟨m, rfl⟩ : ∃ m, n = m + 1 := ⟨n - 1, by omega⟩
      rw [scan_step (by omega)] at hsc
      refine ⟨by omega, by omega, by omega, ?_⟩
      have e1 : ((at_ : Int) + 24).toNat - (at_ : Int).toNat = 24 := by omega
      rw [e1, Int.toNat_natCast]
      refine callC_fn (read_ok ((b.drop at_).take 24) (by simp; omega)) (by simp only [go_sem, Nat.reduceAdd, Nat.reduceSub, Nat.reduceMul, Nat.reduceEqDiff, Nat.reduceLT, Nat.reduceLeDiff, Nat.reduceBEq, reduceIte, reduceCtorEq, Int.reduceToNat, Int.reduceLE, Int.reduceLT, Int.reduceBEq, Int.reduceBNe]) ?_
      rintro _ ⟨x, rfl, hx⟩
      refine ⟨by simp [clean, cleanL, Cel.cl], ?_⟩
      simp only [go_sem, Nat.reduceAdd, Nat.reduceSub, Nat.reduceMul, Nat.reduceEqDiff, Nat.reduceLT, Nat.reduceLeDiff, Nat.reduceBEq, reduceIte, reduceCtorEq, Int.reduceToNat, Int.reduceLE, Int.reduceLT, Int.reduceBEq, Int.reduceBNe, a24, a24r0, a24r1, a24r2, a24r3, a24r4, a24r5, a24r6, a24r7, a24r8, a24r9, a24r10, a24r11, a24r12, a24r13, a24r14]
      refine condC_intro ?_ ?_ <;> intro hgd <;> simp only [decide_eq_true_eq, decide_eq_false_iff_not, beq_iff_eq, beq_eq_false_iff_ne, bne_iff_ne, bne_eq_false_iff_eq, Bool.not_eq_true', Bool.not_eq_false', Int.not_lt, Int.not_le, ne_eq, Bool.and_eq_true, Bool.or_eq_true, Bool.or_eq_false_iff, Bool.and_eq_false_iff] at hgd <;> simp only [go_sem, Nat.reduceAdd, Nat.reduceSub, Nat.reduceMul, Nat.reduceEqDiff, Nat.reduceLT, Nat.reduceLeDiff, Nat.reduceBEq, reduceIte, reduceCtorEq, Int.reduceToNat, Int.reduceLE, Int.reduceLT, Int.reduceBEq, Int.reduceBNe, a24, a24r0, a24r1, a24r2, a24r3, a24r4, a24r5, a24r6, a24r7, a24r8, a24r9, a24r10, a24r11, a24r12, a24r13, a24r14]
      · rw [if_pos hgd] at hsc
        rw [hx hgd]
        refine ⟨by omega, ?_⟩
        (refine Cl.tr [some 0, some 1] [] rfl rfl (by simp only [go_sem, Nat.reduceAdd, Nat.reduceSub, Nat.reduceMul, Nat.reduceEqDiff, Nat.reduceLT, Nat.reduceLeDiff, Nat.reduceBEq, reduceIte, reduceCtorEq, Int.reduceToNat, Int.reduceLE, Int.reduceLT, Int.reduceBEq, Int.reduceBNe] <;> rfl) ?_; simp only [go_sem, Nat.reduceAdd, Nat.reduceSub, Nat.reduceMul, Nat.reduceEqDiff, Nat.reduceLT, Nat.reduceLeDiff, Nat.reduceBEq, reduceIte, reduceCtorEq, Int.reduceToNat, Int.reduceLE, Int.reduceLT, Int.reduceBEq, Int.reduceBNe])
        rw [wrap_i64 (by omega) (by omega)]
        refine Cl.here ⟨⟨m, at_ + 24, _, gs, hsc, by omega, by simp; omega, by omega, by omega, by simp, rfl⟩, ?_⟩
        simp only [go_sem, Nat.reduceAdd, Nat.reduceSub, Nat.reduceMul, Nat.reduceEqDiff, Nat.reduceLT, Nat.reduceLeDiff, Nat.reduceBEq, reduceIte, reduceCtorEq, Int.reduceToNat, Int.reduceLE, Int.reduceLT, Int.reduceBEq, Int.reduceBNe]
        omega
      · rw [if_neg hgd] at hsc
        refine grdC_intro ?_ ?_ <;> intro hb0 <;> simp only [go_sem, Nat.reduceAdd, Nat.reduceSub, Nat.reduceMul, Nat.reduceEqDiff, Nat.reduceLT, Nat.reduceLeDiff, Nat.reduceBEq, reduceIte, reduceCtorEq, Int.reduceToNat, Int.reduceLE, Int.reduceLT, Int.reduceBEq, Int.reduceBNe, a24, a24r0, a24r1, a24r2, a24r3, a24r4, a24r5, a24r6, a24r7, a24r8, a24r9, a24r10, a24r11, a24r12, a24r13, a24r14, hb0] <;> simp only [decide_eq_true_eq, decide_eq_false_iff_not, beq_iff_eq, beq_eq_false_iff_ne, bne_iff_ne, bne_eq_false_iff_eq, Bool.not_eq_true', Bool.not_eq_false', Int.not_lt, Int.not_le, ne_eq, Bool.and_eq_true, Bool.or_eq_true, Bool.or_eq_false_iff, Bool.and_eq_false_iff] at hb0
        · have e2 : IntKind.i64.wrap ((gs.length : Int) - 1) = ((gs.length - 1 : Nat) : Int) := by rw [wrap_i64 (by omega) (by omega)]; omega
          rw [e2]
          simp only [Int.toNat_natCast]
          rw [els_getD (by omega), cel_gp]
          refine ⟨by omega, by omega, ?_⟩
          simp only [go_sem, Nat.reduceAdd, Nat.reduceSub, Nat.reduceMul, Nat.reduceEqDiff, Nat.reduceLT, Nat.reduceLeDiff, Nat.reduceBEq, reduceIte, reduceCtorEq, Int.reduceToNat, Int.reduceLE, Int.reduceLT, Int.reduceBEq, Int.reduceBNe]
          have hlg : lastGap gs = gs[gs.length - 1] := by
            rw [lastGap, List.getD_eq_getElem?_getD, List.getElem?_eq_getElem (by omega)]; rfl
          refine condC_intro ?_ ?_ <;> intro hl <;> simp only [decide_eq_true_eq, decide_eq_false_iff_not, beq_iff_eq, beq_eq_false_iff_ne, bne_iff_ne, bne_eq_false_iff_eq, Bool.not_eq_true', Bool.not_eq_false', Int.not_lt, Int.not_le, ne_eq, Bool.and_eq_true, Bool.or_eq_true, Bool.or_eq_false_iff, Bool.and_eq_false_iff] at hl <;> simp only [go_sem, Nat.reduceAdd, Nat.reduceSub, Nat.reduceMul, Nat.reduceEqDiff, Nat.reduceLT, Nat.reduceLeDiff, Nat.reduceBEq, reduceIte, reduceCtorEq, Int.reduceToNat, Int.reduceLE, Int.reduceLT, Int.reduceBEq, Int.reduceBNe, a24, a24r0, a24r1, a24r2, a24r3, a24r4, a24r5, a24r6, a24r7, a24r8, a24r9, a24r10, a24r11, a24r12, a24r13, a24r14]
          · have hag : addGap gs at_ = gs.set (gs.length - 1) ⟨gs[gs.length - 1].fr, at_ + 1⟩ := by
              rw [addGap, hlg, if_pos hl]
            rw [e2]
            simp only [Int.toNat_natCast]
            rw [els_getD (by omega), cel_gp]
            refine ⟨by omega, by omega, ?_⟩
            simp only [go_sem, Nat.reduceAdd, Nat.reduceSub, Nat.reduceMul, Nat.reduceEqDiff, Nat.reduceLT, Nat.reduceLeDiff, Nat.reduceBEq, reduceIte, reduceCtorEq, Int.reduceToNat, Int.reduceLE, Int.reduceLT, Int.reduceBEq, Int.reduceBNe]
            refine ⟨by omega, by omega, ?_⟩
            rw [hl, wrap_i64 (by omega) (by omega)]
            simp only [Int.toNat_natCast]
            rw [els_getD (by omega), cel_gp]
            simp only [go_sem, Nat.reduceAdd, Nat.reduceSub, Nat.reduceMul, Nat.reduceEqDiff, Nat.reduceLT, Nat.reduceLeDiff, Nat.reduceBEq, reduceIte, reduceCtorEq, Int.reduceToNat, Int.reduceLE, Int.reduceLT, Int.reduceBEq, Int.reduceBNe]
            have e3 : [AVal.int .i64 gs[gs.length - 1].fr, .int .i64 ((at_ : Int) + 1)] = Cel.c (⟨gs[gs.length - 1].fr, at_ + 1⟩ : Gp) := rfl
            rw [e3, els_set]
            (refine Cl.tr [some 0, some 1] [] rfl rfl (by simp only [go_sem, Nat.reduceAdd, Nat.reduceSub, Nat.reduceMul, Nat.reduceEqDiff, Nat.reduceLT, Nat.reduceLeDiff, Nat.reduceBEq, reduceIte, reduceCtorEq, Int.reduceToNat, Int.reduceLE, Int.reduceLT, Int.reduceBEq, Int.reduceBNe] <;> rfl) ?_; simp only [go_sem, Nat.reduceAdd, Nat.reduceSub, Nat.reduceMul, Nat.reduceEqDiff, Nat.reduceLT, Nat.reduceLeDiff, Nat.reduceBEq, reduceIte, reduceCtorEq, Int.reduceToNat, Int.reduceLE, Int.reduceLT, Int.reduceBEq, Int.reduceBNe])
            refine Cl.here ⟨⟨m, at_ + 1, es, _, hsc, by omega, by omega, ?_, by omega, ?_, ?_⟩, ?_⟩
            · rw [hag]; simp; omega
            · rw [hag]; simp
            · rw [hag]
            · simp only [go_sem, Nat.reduceAdd, Nat.reduceSub, Nat.reduceMul, Nat.reduceEqDiff, Nat.reduceLT, Nat.reduceLeDiff, Nat.reduceBEq, reduceIte, reduceCtorEq, Int.reduceToNat, Int.reduceLE, Int.reduceLT, Int.reduceBEq, Int.reduceBNe]
              omega
          · have hag : addGap gs at_ = gs ++ [⟨at_, at_ + 1⟩] := by
              rw [addGap, hlg, if_neg hl]
            refine ⟨by omega, ?_⟩
            rw [wrap_i64 (by omega) (by omega)]
            have e3 : [AVal.int .i64 (at_ : Int), .int .i64 ((at_ : Int) + 1)] = Cel.c (⟨at_, at_ + 1⟩ : Gp) := rfl
            rw [e3]
            simp only [go_sem, Nat.reduceAdd, Nat.reduceSub, Nat.reduceMul, Nat.reduceEqDiff, Nat.reduceLT, Nat.reduceLeDiff, Nat.reduceBEq, reduceIte, reduceCtorEq, Int.reduceToNat, Int.reduceLE, Int.reduceLT, Int.reduceBEq, Int.reduceBNe]
            (refine Cl.tr [some 0, some 1] [] rfl rfl (by simp only [go_sem, Nat.reduceAdd, Nat.reduceSub, Nat.reduceMul, Nat.reduceEqDiff, Nat.reduceLT, Nat.reduceLeDiff, Nat.reduceBEq, reduceIte, reduceCtorEq, Int.reduceToNat, Int.reduceLE, Int.reduceLT, Int.reduceBEq, Int.reduceBNe] <;> rfl) ?_; simp only [go_sem, Nat.reduceAdd, Nat.reduceSub, Nat.reduceMul, Nat.reduceEqDiff, Nat.reduceLT, Nat.reduceLeDiff, Nat.reduceBEq, reduceIte, reduceCtorEq, Int.reduceToNat, Int.reduceLE, Int.reduceLT, Int.reduceBEq, Int.reduceBNe])
            refine Cl.here ⟨⟨m, at_ + 1, es, _, hsc, by omega, by omega, ?_, by omega, ?_, ?_⟩, ?_⟩
            · rw [hag]; simp; omega
            · rw [hag]; simp
            · rw [hag]
            · simp only [go_sem, Nat.reduceAdd, Nat.reduceSub, Nat.reduceMul, Nat.reduceEqDiff, Nat.reduceLT, Nat.reduceLeDiff, Nat.reduceBEq, reduceIte, reduceCtorEq, Int.reduceToNat, Int.reduceLE, Int.reduceLT, Int.reduceBEq, Int.reduceBNe]
              omega
        · have hag : addGap gs at_ = gs ++ [⟨at_, at_ + 1⟩] := by
            have : gs = [] := List.eq_nil_of_length_eq_zero (by omega)
            subst this
            rw [addGap, if_neg (by simp [lastGap])]
          refine ⟨by omega, ?_⟩
          rw [wrap_i64 (by omega) (by omega)]
          have e3 : [AVal.int .i64 (at_ : Int), .int .i64 ((at_ : Int) + 1)] = Cel.c (⟨at_, at_ + 1⟩ : Gp) := rfl
          rw [e3]
          simp only [go_sem, Nat.reduceAdd, Nat.reduceSub, Nat.reduceMul, Nat.reduceEqDiff, Nat.reduceLT, Nat.reduceLeDiff, Nat.reduceBEq, reduceIte, reduceCtorEq, Int.reduceToNat, Int.reduceLE, Int.reduceLT, Int.reduceBEq, Int.reduceBNe]
          (refine Cl.tr [some 0, some 1] [] rfl rfl (by simp only [go_sem, Nat.reduceAdd, Nat.reduceSub, Nat.reduceMul, Nat.reduceEqDiff, Nat.reduceLT, Nat.reduceLeDiff, Nat.reduceBEq, reduceIte, reduceCtorEq, Int.reduceToNat, Int.reduceLE, Int.reduceLT, Int.reduceBEq, Int.reduceBNe] <;> rfl) ?_; simp only [go_sem, Nat.reduceAdd, Nat.reduceSub, Nat.reduceMul, Nat.reduceEqDiff, Nat.reduceLT, Nat.reduceLeDiff, Nat.reduceBEq, reduceIte, reduceCtorEq, Int.reduceToNat, Int.reduceLE, Int.reduceLT, Int.reduceBEq, Int.reduceBNe])
          refine Cl.here ⟨⟨m, at_ + 1, es, _, hsc, by omega, by omega, ?_, by omega, ?_, ?_⟩, ?_⟩
          · rw [hag]; simp; omega
          · rw [hag]; simp
          · rw [hag]
          · simp only [go_sem, Nat.reduceAdd, Nat.reduceSub, Nat.reduceMul, Nat.reduceEqDiff, Nat.reduceLT, Nat.reduceLeDiff, Nat.reduceBEq, reduceIte, reduceCtorEq, Int.reduceToNat, Int.reduceLE, Int.reduceLT, Int.reduceBEq, Int.reduceBNe]
            omega
    · rw [scan_end (by omega)] at hsc
      rw [← hsc]
      exact Cl.here ⟨rfl, rfl⟩
theorem refDecode_ok (b : List UInt8) (hb : b.length ≤ 1000000) : AFn Try.prog 34 [.pure 1 (els b)] []
    (fun v rows => v = .tup [.own 0 (decode b).1.length 0 (decode b).1.length, .own 1 (decode b).2.1.length 0 (decode b).2.1.length, .int .i64 (decode b).2.2] ∧ rows = [.live 26 7 (els (decode b).1), .live 55 2 (els (decode b).2.1)]) := by
  refine afn Try.func34 a34_ok (by simp [a34]) ?_
  simp only [go_sem, Nat.reduceAdd, Nat.reduceSub, Nat.reduceMul, Nat.reduceEqDiff, Nat.reduceLT, Nat.reduceLeDiff, Nat.reduceBEq, reduceIte, reduceCtorEq, Int.reduceToNat, Int.reduceLE, Int.reduceLT, Int.reduceBEq, Int.reduceBNe, a34, a34r0, a34r1, a34r2, a34r3, a34r4, a34r5, a34r6, a34r7, a34r8, a34r9, a34r10, a34r11, a34r12, a34r13, a34r14]
  refine avc_loop (DecInv b) (fun env _ => match slot env 7 with | .int _ j => (b.length - j).toNat | _ => 0) ?_ ?_
  · (refine Cl.ghost 5  26  7 rfl (Cl.norm [ 0, 5, 6, 7] ?_); simp only [go_sem, Nat.reduceAdd, Nat.reduceSub, Nat.reduceMul, Nat.reduceEqDiff, Nat.reduceLT, Nat.reduceLeDiff, Nat.reduceBEq, reduceIte, reduceCtorEq, Int.reduceToNat, Int.reduceLE, Int.reduceLT, Int.reduceBEq, Int.reduceBNe])
    (refine Cl.ghost 6  55  2 rfl (Cl.norm [ 0, 5, 6, 7] ?_); simp only [go_sem, Nat.reduceAdd, Nat.reduceSub, Nat.reduceMul, Nat.reduceEqDiff, Nat.reduceLT, Nat.reduceLeDiff, Nat.reduceBEq, reduceIte, reduceCtorEq, Int.reduceToNat, Int.reduceLE, Int.reduceLT, Int.reduceBEq, Int.reduceBNe])
    exact Cl.here ⟨b.length + 1, 0, [], [], rfl, by omega, by simp, by simp, by omega, rfl, rfl⟩
  · rintro env rows ⟨n, at_, es, gs, hsc, h1, h2, h3, h4, rfl, rfl⟩
    simp only [go_sem, Nat.reduceAdd, Nat.reduceSub, Nat.reduceMul, Nat.reduceEqDiff, Nat.reduceLT, Nat.reduceLeDiff, Nat.reduceBEq, reduceIte, reduceCtorEq, Int.reduceToNat, Int.reduceLE, Int.reduceLT, Int.reduceBEq, Int.reduceBNe, a34, a34r0, a34r1, a34r2, a34r3, a34r4, a34r5, a34r6, a34r7, a34r8, a34r9, a34r10, a34r11, a34r12, a34r13, a34r14]
    rw [wrap_i64 (by omega) (by omega)]
    refine condC_intro ?_ ?_ <;> intro hg <;> simp only [decide_eq_true_eq, decide_eq_false_iff_not, beq_iff_eq, beq_eq_false_iff_ne, bne_iff_ne, bne_eq_false_iff_eq, Bool.not_eq_true', Bool.not_eq_false', Int.not_lt, Int.not_le, ne_eq, Bool.and_eq_true, Bool.or_eq_true, Bool.or_eq_false_iff, Bool.and_eq_false_iff] at hg <;> simp only [go_sem, Nat.reduceAdd, Nat.reduceSub, Nat.reduceMul, Nat.reduceEqDiff, Nat.reduceLT, Nat.reduceLeDiff, Nat.reduceBEq, reduceIte, reduceCtorEq, Int.reduceToNat, Int.reduceLE, Int.reduceLT, Int.reduceBEq, Int.reduceBNe, a34, a34r0, a34r1, a34r2, a34r3, a34r4, a34r5, a34r6, a34r7, a34r8, a34r9, a34r10, a34r11, a34r12, a34r13, a34r14]
    · rw [wrap_i64 (by omega) (by omega)]
      obtain ⟨m, rfl⟩ : ∃ m, n = m + 1 := ⟨n - 1, by omega⟩
      rw [scan_step (by omega)] at hsc
      refine ⟨by omega, by omega, by omega, ?_⟩
      have e1 : ((at_ : Int) + 24).toNat - (at_ : Int).toNat = 24 := by omega
      rw [e1, Int.toNat_natCast]
      refine callC_fn (refRead_ok ((b.drop at_).take 24) (by simp; omega)) (by simp only [go_sem, Nat.reduceAdd, Nat.reduceSub, Nat.reduceMul, Nat.reduceEqDiff, Nat.reduceLT, Nat.reduceLeDiff, Nat.reduceBEq, reduceIte, reduceCtorEq, Int.reduceToNat, Int.reduceLE, Int.reduceLT, Int.reduceBEq, Int.reduceBNe]) ?_
      rintro _ ⟨x, rfl, hx⟩
      refine ⟨by simp [clean, cleanL, Cel.cl], ?_⟩
      simp only [go_sem, Nat.reduceAdd, Nat.reduceSub, Nat.reduceMul, Nat.reduceEqDiff, Nat.reduceLT, Nat.reduceLeDiff, Nat.reduceBEq, reduceIte, reduceCtorEq, Int.reduceToNat, Int.reduceLE, Int.reduceLT, Int.reduceBEq, Int.reduceBNe, a34, a34r0, a34r1, a34r2, a34r3, a34r4, a34r5, a34r6, a34r7, a34r8, a34r9, a34r10, a34r11, a34r12, a34r13, a34r14]
      refine condC_intro ?_ ?_ <;> intro hgd <;> simp only [decide_eq_true_eq, decide_eq_false_iff_not, beq_iff_eq, beq_eq_false_iff_ne, bne_iff_ne, bne_eq_false_iff_eq, Bool.not_eq_true', Bool.not_eq_false', Int.not_lt, Int.not_le, ne_eq, Bool.and_eq_true, Bool.or_eq_true, Bool.or_eq_false_iff, Bool.and_eq_false_iff] at hgd <;> simp only [go_sem, Nat.reduceAdd, Nat.reduceSub, Nat.reduceMul, Nat.reduceEqDiff, Nat.reduceLT, Nat.reduceLeDiff, Nat.reduceBEq, reduceIte, reduceCtorEq, Int.reduceToNat, Int.reduceLE, Int.reduceLT, Int.reduceBEq, Int.reduceBNe, a34, a34r0, a34r1, a34r2, a34r3, a34r4, a34r5, a34r6, a34r7, a34r8, a34r9, a34r10, a34r11, a34r12, a34r13, a34r14]
      · rw [if_pos hgd] at hsc
        rw [hx hgd]
        refine ⟨by omega, ?_⟩
        (refine Cl.tr [some 0, some 1] [] rfl rfl (by simp only [go_sem, Nat.reduceAdd, Nat.reduceSub, Nat.reduceMul, Nat.reduceEqDiff, Nat.reduceLT, Nat.reduceLeDiff, Nat.reduceBEq, reduceIte, reduceCtorEq, Int.reduceToNat, Int.reduceLE, Int.reduceLT, Int.reduceBEq, Int.reduceBNe] <;> rfl) ?_; simp only [go_sem, Nat.reduceAdd, Nat.reduceSub, Nat.reduceMul, Nat.reduceEqDiff, Nat.reduceLT, Nat.reduceLeDiff, Nat.reduceBEq, reduceIte, reduceCtorEq, Int.reduceToNat, Int.reduceLE, Int.reduceLT, Int.reduceBEq, Int.reduceBNe])
        rw [wrap_i64 (by omega) (by omega)]
        refine Cl.here ⟨⟨m, at_ + 24, _, gs, hsc, by omega, by simp; omega, by omega, by omega, by simp, rfl⟩, ?_⟩
        simp only [go_sem, Nat.reduceAdd, Nat.reduceSub, Nat.reduceMul, Nat.reduceEqDiff, Nat.reduceLT, Nat.reduceLeDiff, Nat.reduceBEq, reduceIte, reduceCtorEq, Int.reduceToNat, Int.reduceLE, Int.reduceLT, Int.reduceBEq, Int.reduceBNe]
        omega
      · rw [if_neg hgd] at hsc
        refine grdC_intro ?_ ?_ <;> intro hb0 <;> simp only [go_sem, Nat.reduceAdd, Nat.reduceSub, Nat.reduceMul, Nat.reduceEqDiff, Nat.reduceLT, Nat.reduceLeDiff, Nat.reduceBEq, reduceIte, reduceCtorEq, Int.reduceToNat, Int.reduceLE, Int.reduceLT, Int.reduceBEq, Int.reduceBNe, a34, a34r0, a34r1, a34r2, a34r3, a34r4, a34r5, a34r6, a34r7, a34r8, a34r9, a34r10, a34r11, a34r12, a34r13, a34r14, hb0] <;> simp only [decide_eq_true_eq, decide_eq_false_iff_not, beq_iff_eq, beq_eq_false_iff_ne, bne_iff_ne, bne_eq_false_iff_eq, Bool.not_eq_true', Bool.not_eq_false', Int.not_lt, Int.not_le, ne_eq, Bool.and_eq_true, Bool.or_eq_true, Bool.or_eq_false_iff, Bool.and_eq_false_iff] at hb0
        · have e2 : IntKind.i64.wrap ((gs.length : Int) - 1) = ((gs.length - 1 : Nat) : Int) := by rw [wrap_i64 (by omega) (by omega)]; omega
          rw [e2]
          simp only [Int.toNat_natCast]
          rw [els_getD (by omega), cel_gp]
          refine ⟨by omega, by omega, ?_⟩
          simp only [go_sem, Nat.reduceAdd, Nat.reduceSub, Nat.reduceMul, Nat.reduceEqDiff, Nat.reduceLT, Nat.reduceLeDiff, Nat.reduceBEq, reduceIte, reduceCtorEq, Int.reduceToNat, Int.reduceLE, Int.reduceLT, Int.reduceBEq, Int.reduceBNe]
          have hlg : lastGap gs = gs[gs.length - 1] := by
            rw [lastGap, List.getD_eq_getElem?_getD, List.getElem?_eq_getElem (by omega)]; rfl
          refine condC_intro ?_ ?_ <;> intro hl <;> simp only [decide_eq_true_eq, decide_eq_false_iff_not, beq_iff_eq, beq_eq_false_iff_ne, bne_iff_ne, bne_eq_false_iff_eq, Bool.not_eq_true', Bool.not_eq_false', Int.not_lt, Int.not_le, ne_eq, Bool.and_eq_true, Bool.or_eq_true, Bool.or_eq_false_iff, Bool.and_eq_false_iff] at hl <;> simp only [go_sem, Nat.reduceAdd, Nat.reduceSub, Nat.reduceMul, Nat.reduceEqDiff, Nat.reduceLT, Nat.reduceLeDiff, Nat.reduceBEq, reduceIte, reduceCtorEq, Int.reduceToNat, Int.reduceLE, Int.reduceLT, Int.reduceBEq, Int.reduceBNe, a34, a34r0, a34r1, a34r2, a34r3, a34r4, a34r5, a34r6, a34r7, a34r8, a34r9, a34r10, a34r11, a34r12, a34r13, a34r14]
          · have hag : addGap gs at_ = gs.set (gs.length - 1) ⟨gs[gs.length - 1].fr, at_ + 1⟩ := by
              rw [addGap, hlg, if_pos hl]
            rw [e2]
            simp only [Int.toNat_natCast]
            rw [els_getD (by omega), cel_gp]
            refine ⟨by omega, by omega, ?_⟩
            simp only [go_sem, Nat.reduceAdd, Nat.reduceSub, Nat.reduceMul, Nat.reduceEqDiff, Nat.reduceLT, Nat.reduceLeDiff, Nat.reduceBEq, reduceIte, reduceCtorEq, Int.reduceToNat, Int.reduceLE, Int.reduceLT, Int.reduceBEq, Int.reduceBNe]
            refine ⟨by omega, by omega, ?_⟩
            rw [hl, wrap_i64 (by omega) (by omega)]
            simp only [Int.toNat_natCast]
            rw [els_getD (by omega), cel_gp]
            simp only [go_sem, Nat.reduceAdd, Nat.reduceSub, Nat.reduceMul, Nat.reduceEqDiff, Nat.reduceLT, Nat.reduceLeDiff, Nat.reduceBEq, reduceIte, reduceCtorEq, Int.reduceToNat, Int.reduceLE, Int.reduceLT, Int.reduceBEq, Int.reduceBNe]
            have e3 : [AVal.int .i64 gs[gs.length - 1].fr, .int .i64 ((at_ : Int) + 1)] = Cel.c (⟨gs[gs.length - 1].fr, at_ + 1⟩ : Gp) := rfl
            rw [e3, els_set]
            (refine Cl.tr [some 0, some 1] [] rfl rfl (by simp only [go_sem, Nat.reduceAdd, Nat.reduceSub, Nat.reduceMul, Nat.reduceEqDiff, Nat.reduceLT, Nat.reduceLeDiff, Nat.reduceBEq, reduceIte, reduceCtorEq, Int.reduceToNat, Int.reduceLE, Int.reduceLT, Int.reduceBEq, Int.reduceBNe] <;> rfl) ?_; simp only [go_sem, Nat.reduceAdd, Nat.reduceSub, Nat.reduceMul, Nat.reduceEqDiff, Nat.reduceLT, Nat.reduceLeDiff, Nat.reduceBEq, reduceIte, reduceCtorEq, Int.reduceToNat, Int.reduceLE, Int.reduceLT, Int.reduceBEq, Int.reduceBNe])
            refine Cl.here ⟨⟨m, at_ + 1, es, _, hsc, by omega, by omega, ?_, by omega, ?_, ?_⟩, ?_⟩
            · rw [hag]; simp; omega
            · rw [hag]; simp
            · rw [hag]
            · simp only [go_sem, Nat.reduceAdd, Nat.reduceSub, Nat.reduceMul, Nat.reduceEqDiff, Nat.reduceLT, Nat.reduceLeDiff, Nat.reduceBEq, reduceIte, reduceCtorEq, Int.reduceToNat, Int.reduceLE, Int.reduceLT, Int.reduceBEq, Int.reduceBNe]
              omega
          · have hag : addGap gs at_ = gs ++ [⟨at_, at_ + 1⟩] := by
              rw [addGap, hlg, if_neg hl]
            refine ⟨by omega, ?_⟩
            rw [wrap_i64 (by omega) (by omega)]
            have e3 : [AVal.int .i64 (at_ : Int), .int .i64 ((at_ : Int) + 1)] = Cel.c (⟨at_, at_ + 1⟩ : Gp) := rfl
            rw [e3]
            simp only [go_sem, Nat.reduceAdd, Nat.reduceSub, Nat.reduceMul, Nat.reduceEqDiff, Nat.reduceLT, Nat.reduceLeDiff, Nat.reduceBEq, reduceIte, reduceCtorEq, Int.reduceToNat, Int.reduceLE, Int.reduceLT, Int.reduceBEq, Int.reduceBNe]
            (refine Cl.tr [some 0, some 1] [] rfl rfl (by simp only [go_sem, Nat.reduceAdd, Nat.reduceSub, Nat.reduceMul, Nat.reduceEqDiff, Nat.reduceLT, Nat.reduceLeDiff, Nat.reduceBEq, reduceIte, reduceCtorEq, Int.reduceToNat, Int.reduceLE, Int.reduceLT, Int.reduceBEq, Int.reduceBNe] <;> rfl) ?_; simp only [go_sem, Nat.reduceAdd, Nat.reduceSub, Nat.reduceMul, Nat.reduceEqDiff, Nat.reduceLT, Nat.reduceLeDiff, Nat.reduceBEq, reduceIte, reduceCtorEq, Int.reduceToNat, Int.reduceLE, Int.reduceLT, Int.reduceBEq, Int.reduceBNe])
            refine Cl.here ⟨⟨m, at_ + 1, es, _, hsc, by omega, by omega, ?_, by omega, ?_, ?_⟩, ?_⟩
            · rw [hag]; simp; omega
            · rw [hag]; simp
            · rw [hag]
            · simp only [go_sem, Nat.reduceAdd, Nat.reduceSub, Nat.reduceMul, Nat.reduceEqDiff, Nat.reduceLT, Nat.reduceLeDiff, Nat.reduceBEq, reduceIte, reduceCtorEq, Int.reduceToNat, Int.reduceLE, Int.reduceLT, Int.reduceBEq, Int.reduceBNe]
              omega
        · have hag : addGap gs at_ = gs ++ [⟨at_, at_ + 1⟩] := by
            have : gs = [] := List.eq_nil_of_length_eq_zero (by omega)
            subst this
            rw [addGap, if_neg (by simp [lastGap])]
          refine ⟨by omega, ?_⟩
          rw [wrap_i64 (by omega) (by omega)]
          have e3 : [AVal.int .i64 (at_ : Int), .int .i64 ((at_ : Int) + 1)] = Cel.c (⟨at_, at_ + 1⟩ : Gp) := rfl
          rw [e3]
          simp only [go_sem, Nat.reduceAdd, Nat.reduceSub, Nat.reduceMul, Nat.reduceEqDiff, Nat.reduceLT, Nat.reduceLeDiff, Nat.reduceBEq, reduceIte, reduceCtorEq, Int.reduceToNat, Int.reduceLE, Int.reduceLT, Int.reduceBEq, Int.reduceBNe]
          (refine Cl.tr [some 0, some 1] [] rfl rfl (by simp only [go_sem, Nat.reduceAdd, Nat.reduceSub, Nat.reduceMul, Nat.reduceEqDiff, Nat.reduceLT, Nat.reduceLeDiff, Nat.reduceBEq, reduceIte, reduceCtorEq, Int.reduceToNat, Int.reduceLE, Int.reduceLT, Int.reduceBEq, Int.reduceBNe] <;> rfl) ?_; simp only [go_sem, Nat.reduceAdd, Nat.reduceSub, Nat.reduceMul, Nat.reduceEqDiff, Nat.reduceLT, Nat.reduceLeDiff, Nat.reduceBEq, reduceIte, reduceCtorEq, Int.reduceToNat, Int.reduceLE, Int.reduceLT, Int.reduceBEq, Int.reduceBNe])
          refine Cl.here ⟨⟨m, at_ + 1, es, _, hsc, by omega, by omega, ?_, by omega, ?_, ?_⟩, ?_⟩
          · rw [hag]; simp; omega
          · rw [hag]; simp
          · rw [hag]
          · simp only [go_sem, Nat.reduceAdd, Nat.reduceSub, Nat.reduceMul, Nat.reduceEqDiff, Nat.reduceLT, Nat.reduceLeDiff, Nat.reduceBEq, reduceIte, reduceCtorEq, Int.reduceToNat, Int.reduceLE, Int.reduceLT, Int.reduceBEq, Int.reduceBNe]
            omega
    · rw [scan_end (by omega)] at hsc
      rw [← hsc]
      exact Cl.here ⟨rfl, rfl⟩
end Go.Proofs.Ytkgffhjlfdmfeaa
