/- What InboxCancels takes of A5LRd, A5LIOrd and A5LSt (never imported together with them). -/
import Derived.Test.YtodbafiepdcfbaaA5Sane8
import Derived.Test.YtodbafiepdcfbaaA5Days
set_option linter.unusedSimpArgs false
set_option linter.unusedVariables false
set_option linter.unusedSectionVars false
namespace Go.Proofs.Ytodbafiepdcfbaa
open Go Go.Abs
set_option linter.unusedSimpArgs false
set_option linter.unusedVariables false

theorem sameS_ok (L : List Stamp) (hL : L.length ≤ 1000000) : AFn Try.prog 38 [.pure 4 (els L), .pure 4 (els L)] [] (fun v rs => v = .bool true ∧ rs = []) := by
  refine afn Try.func38 a38_ok (by simp [a38]) ?_
  simp only [go_sem, Nat.reduceAdd, Nat.reduceSub, Nat.reduceMul, Nat.reduceEqDiff, Nat.reduceLT, Nat.reduceLeDiff, Nat.reduceBEq, reduceIte, reduceCtorEq, Int.reduceToNat, Int.reduceLE, Int.reduceLT, Int.reduceBEq, Int.reduceBNe, a38, a38r0, a38r1, a38r2, a38r3, a38r4, a38r5, a38r6, a38r7, a38r8, bne_self_eq_false]
  refine avc_loop (fun env rows => ∃ i : Nat, i ≤ L.length ∧ env = [(0, .pure 4 (els L)), (1, .pure 4 (els L)), (5, .int .i64 i)] ∧ rows = [])
    (fun env _ => match slot env 5 with | .int _ j => (L.length - j).toNat | _ => 0) ?_ ?_
  · exact Cl.here ⟨0, by omega, rfl, rfl⟩
  rintro env rows ⟨i, hi, rfl, rfl⟩
  have hw1 : IntKind.i64.wrap ((i : Int) + 1) = ((i + 1 : Nat) : Int) := by rw [wrap_i64 (by omega) (by omega)]; omega
  simp only [go_sem, Nat.reduceAdd, Nat.reduceSub, Nat.reduceMul, Nat.reduceEqDiff, Nat.reduceLT, Nat.reduceLeDiff, Nat.reduceBEq, reduceIte, reduceCtorEq, Int.reduceToNat, Int.reduceLE, Int.reduceLT, Int.reduceBEq, Int.reduceBNe, a38, a38r0, a38r1, a38r2, a38r3, a38r4, a38r5, a38r6, a38r7, a38r8]
  refine condC_intro ?_ ?_ <;> intro hg1 <;> simp only [decide_eq_true_eq, decide_eq_false_iff_not, beq_iff_eq, beq_eq_false_iff_ne, bne_iff_ne, bne_eq_false_iff_eq, Bool.not_eq_true', Bool.not_eq_false', Int.not_lt, Int.not_le, ne_eq, Bool.and_eq_true, Bool.or_eq_true, Bool.or_eq_false_iff, Bool.and_eq_false_iff] at hg1 <;> simp only [go_sem, Nat.reduceAdd, Nat.reduceSub, Nat.reduceMul, Nat.reduceEqDiff, Nat.reduceLT, Nat.reduceLeDiff, Nat.reduceBEq, reduceIte, reduceCtorEq, Int.reduceToNat, Int.reduceLE, Int.reduceLT, Int.reduceBEq, Int.reduceBNe, a38, a38r0, a38r1, a38r2, a38r3, a38r4, a38r5, a38r6, a38r7, a38r8]
  · have hlt : i < L.length := by omega
    have hgj : (els L).getD i [] = Cel.c L[i] := els_getD hlt
    have hj0 : (0 : Int) ≤ i := by omega
    have hj1 : (i : Int) < L.length := by omega
    simp only [go_sem, Nat.reduceAdd, Nat.reduceSub, Nat.reduceMul, Nat.reduceEqDiff, Nat.reduceLT, Nat.reduceLeDiff, Nat.reduceBEq, reduceIte, reduceCtorEq, Int.reduceToNat, Int.reduceLE, Int.reduceLT, Int.reduceBEq, Int.reduceBNe, hj0, hj1, hgj, fits_stamp, eqc_stamp, decide_true, bne_self_eq_false, hw1]
    refine Cl.here ⟨⟨i + 1, by omega, rfl, rfl⟩, ?_⟩
    simp only [go_sem, Nat.reduceAdd, Nat.reduceSub, Nat.reduceMul, Nat.reduceEqDiff, Nat.reduceLT, Nat.reduceLeDiff, Nat.reduceBEq, reduceIte, reduceCtorEq, Int.reduceToNat, Int.reduceLE, Int.reduceLT, Int.reduceBEq, Int.reduceBNe]
    omega
  · exact Cl.fin rfl ⟨rfl, rfl⟩

theorem stamps_len (F : List Ev) : (stamps F).length ≤ F.length := List.length_filterMap_le _ _

structure Gd (l : List Ev) (n : Nat) : Prop where
  v : ∀ e ∈ l, vEv e
  len : l.length ≤ n
theorem Gd.all {l : List Ev} {n : Nat} (h : Gd l n) : allV l = true := by
  unfold allV
  rw [List.all_eq_true]
  exact fun e he => decide_eq_true (h.v e he)
theorem Gd.chk {l : List Ev} {n : Nat} (h : Gd l n) (hn : n ≤ 1024) : chk l = 0 := by
  have := h.len
  unfold Ytodbafiepdcfbaa.chk
  rw [if_neg (by omega), if_pos h.all]
theorem Gd.app {a b : List Ev} {n m : Nat} (ha : Gd a n) (hb : Gd b m) : Gd (a ++ b) (n + m) :=
  ⟨fun e he => (List.mem_append.1 he).elim (ha.v e) (hb.v e), by have := ha.len; have := hb.len; rw [List.length_append]; omega⟩
theorem Gd.uni {a : List Ev} {n : Nat} (h : Gd a n) : Gd (uni a) n :=
  ⟨fun e he => h.v e ((mem_uni a e).1 he), Nat.le_trans (uni_le a) h.len⟩
theorem mergeG {a b : List Ev} {n m : Nat} (ha : Gd a n) (hb : Gd b m) (hs : n + m ≤ 1000) : AFn Try.prog 35 [.pure 7 (els a), .pure 7 (els b)] [] (fun v rs => v = .tup [.own 0 (uni (a ++ b)).length 0 (uni (a ++ b)).length, .int .i64 0] ∧ rs = [.live 64 7 (els (uni (a ++ b)))]) := by
  have h1 := ha.len
  have h2 := hb.len
  have h3 := (ha.app hb).uni.len
  have h0 : mrgE a b = 0 := by
    unfold mrgE
    rw [if_neg (by omega), if_neg (by simp [ha.all, hb.all]), if_neg (by omega)]
  refine (merge_ok a b (by omega) (by omega)).mono ?_
  rintro v rs (⟨h, _⟩ | ⟨_, rfl, rfl⟩)
  · exact (h h0).elim
  · exact ⟨rfl, rfl⟩
theorem effG {l : List Ev} {m : Nat} (h : Gd l m) (hm : m ≤ 1000) (n : Int) : AFn Try.prog 37 [.pure 7 (els l), .int .i64 n] [] (fun v rs => ∃ S : List Stamp, S.Perm (stamps (effF l n)) ∧ S.Pairwise sLt ∧ S.length ≤ m ∧ v = .tup [.own 0 S.length 0 S.length, .int .i64 0] ∧ rs = [.live 77 4 (els S)]) := by
  have h1 := h.len
  have h0 := h.chk (by omega)
  refine (effective_ok l (by omega) n).mono ?_
  rintro v rs (⟨h, _⟩ | ⟨_, S, hp, hs, rfl, rfl⟩)
  · exact (h h0).elim
  · have := hp.length_eq
    have := stamps_len (effF l n)
    have := effF_len l n
    exact ⟨S, hp, hs, by omega, rfl, rfl⟩
theorem evG_v {e : Ev} (h : evG e) : vEv e := h.1

theorem skey_eq (a b : Stamp) : eqCells [.int .i64 a.kt, .int .i64 a.ks] [.int .i64 b.kt, .int .i64 b.ks] = decide (a.key = b.key) := eqc_ky a.key b.key

end Go.Proofs.Ytodbafiepdcfbaa
