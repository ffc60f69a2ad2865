/- Made rules of bands; minutes of intervals; equal lists of pieces. -/
import Derived.Test.YtaloobgfgehhdaaGreatR5Wks
set_option linter.unusedSimpArgs false
set_option linter.unusedVariables false
set_option linter.unusedSectionVars false
namespace Go.Proofs.YtaloobgfgehhdaaGreat
open Go Go.Abs
set_option linter.unusedSimpArgs false
set_option linter.unusedVariables false

theorem bdsB_snoc {x : Bd} (hn : nmP x.name) (h2 : x.after ≤ 10080) : ∀ {b : Int} {l : List Bd}, bdsB b l = true → b < x.after → (∀ y ∈ l, y.after < x.after) → bdsB b (l ++ [x]) = true
  | b, [], _, h1, _ => by simp [bdsB, hn, h1, h2]
  | b, y :: l, h, h1, h3 => by
    simp only [bdsB, Bool.and_eq_true, decide_eq_true_eq] at h
    have := bdsB_snoc hn h2 h.2.2.2 (h3 y List.mem_cons_self) fun z hz => h3 z (List.mem_cons_of_mem _ hz)
    simp [bdsB, h.1, h.2.1, h.2.2.1, this]
theorem nm_pick {s0 s1 s2 : ByteArray} (h0 : nmP s0) (h1 : nmP s1) (h2 : nmP s2) {z : Int} (hz : 0 ≤ z) (hz2 : z < 3 ∨ z = 0) : ∃ nm : ByteArray, ([[AVal.str s0], [.str s1], [.str s2]] : List (List AVal)).getD z.toNat [] = [.str nm] ∧ nmP nm := by
  have : z = 0 ∨ z = 1 ∨ z = 2 := by omega
  rcases this with rfl | rfl | rfl
  · exact ⟨s0, rfl, h0⟩
  · exact ⟨s1, rfl, h1⟩
  · exact ⟨s2, rfl, h2⟩

def rlOk (R : Rl) : Prop := R.nm = nmN ∧ R.dy.length ≤ 2 ∧ R.wk.length ≤ 2 ∧ bdsB (-1) R.dy = true ∧ bdsB (-1) R.wk = true
theorem rlOk_v {R : Rl} (h : rlOk R) : vR R = 0 := by
  obtain ⟨h1, h2, h3, h4, h5⟩ := h
  have hn : nmP R.nm := by rw [h1]; decide
  unfold vR
  rw [if_neg (by omega), if_pos ⟨hn, h4, h5⟩]

/-- the minutes of valid intervals -/
def mnI : List Iv → Int
  | [] => 0
  | v :: vs => (if ivP v.fr v.to then v.to - v.fr else 0) + mnI vs
theorem mnI_append : ∀ (a b : List Iv), mnI (a ++ b) = mnI a + mnI b
  | [], b => by simp [mnI]
  | x :: a, b => by simp only [List.cons_append, mnI, mnI_append a b]; omega
theorem mnI_bd : ∀ (l : List Iv), 0 ≤ mnI l ∧ mnI l ≤ 120968640 * l.length
  | [] => by simp [mnI]
  | v :: l => by
    have := mnI_bd l
    simp only [mnI, List.length_cons]
    split
    · rename_i h; unfold ivP at h; omega
    · omega
theorem minutes_ok (L : List Iv) (hL : L.length ≤ 1000000) : AFn Tryz.prog 13 [.pure 2 (els L)] [] (fun v rs => v = .int .i64 (mnI L) ∧ rs = []) := by
  refine afn Tryz.func13 a13_ok (by simp [a13]) ?_
  simp only [go_sem, Nat.reduceAdd, Nat.reduceSub, Nat.reduceMul, Nat.reduceEqDiff, Nat.reduceLT, Nat.reduceLeDiff, Nat.reduceBEq, reduceIte, reduceCtorEq, Int.reduceToNat, Int.reduceLE, Int.reduceLT, Int.reduceBEq, Int.reduceBNe, a13, a13r0, a13r1, a13r2, a13r3, a13r4, a13r5, a13r6, a13r7]
  refine avc_loop (fun env rows => ∃ i : Nat, i ≤ L.length ∧ env = [(0, .pure 2 (els L)), (3, .int .i64 (mnI (L.take i))), (4, .int .i64 i)] ∧ rows = [])
    (fun env _ => match slot env 4 with | .int _ j => (L.length - j).toNat | _ => 0) ?_ ?_
  · exact Cl.here ⟨0, by omega, rfl, rfl⟩
  rintro env rows ⟨i, hi, rfl, rfl⟩
  have hw : IntKind.i64.wrap ((i : Int) + 1) = ((i + 1 : Nat) : Int) := by rw [wrap_i64 (by omega) (by omega)]; omega
  have hbd := mnI_bd (L.take i)
  have htl : (L.take i).length ≤ 1000000 := by rw [List.length_take]; omega
  simp only [go_sem, Nat.reduceAdd, Nat.reduceSub, Nat.reduceMul, Nat.reduceEqDiff, Nat.reduceLT, Nat.reduceLeDiff, Nat.reduceBEq, reduceIte, reduceCtorEq, Int.reduceToNat, Int.reduceLE, Int.reduceLT, Int.reduceBEq, Int.reduceBNe, a13, a13r0, a13r1, a13r2, a13r3, a13r4, a13r5, a13r6, a13r7]
  refine condC_intro ?_ ?_ <;> intro hg2 <;> simp only [decide_eq_true_eq, decide_eq_false_iff_not, beq_iff_eq, beq_eq_false_iff_ne, bne_iff_ne, bne_eq_false_iff_eq, Bool.not_eq_true', Bool.not_eq_false', Int.not_lt, Int.not_le, ne_eq, Bool.and_eq_true, Bool.or_eq_true, Bool.or_eq_false_iff, Bool.and_eq_false_iff] at hg2 <;> simp only [go_sem, Nat.reduceAdd, Nat.reduceSub, Nat.reduceMul, Nat.reduceEqDiff, Nat.reduceLT, Nat.reduceLeDiff, Nat.reduceBEq, reduceIte, reduceCtorEq, Int.reduceToNat, Int.reduceLE, Int.reduceLT, Int.reduceBEq, Int.reduceBNe, a13, a13r0, a13r1, a13r2, a13r3, a13r4, a13r5, a13r6, a13r7]
  · have hlt : i < L.length := by omega
    have hT : mnI (L.take (i + 1)) = mnI (L.take i) + (if ivP L[i].fr L[i].to then L[i].to - L[i].fr else 0) := by
      rw [List.take_add_one, List.getElem?_eq_getElem hlt, Option.toList_some, mnI_append]; simp [mnI]
    have hgi : (els L).getD i [] = [.int .i64 L[i].fr, .int .i64 L[i].to] := by rw [els_getD hlt, cel_iv]
    have hi0 : (0 : Int) ≤ i := by omega
    have hi1 : (i : Int) < L.length := by omega
    simp only [go_sem, Nat.reduceAdd, Nat.reduceSub, Nat.reduceMul, Nat.reduceEqDiff, Nat.reduceLT, Nat.reduceLeDiff, Nat.reduceBEq, reduceIte, reduceCtorEq, Int.reduceToNat, Int.reduceLE, Int.reduceLT, Int.reduceBEq, Int.reduceBNe, hi0, hi1, hgi]
    refine callC_det (isInterval_ok _ _) rfl rfl ?_
    by_cases hv : ivP L[i].fr L[i].to
    · rw [if_pos hv] at hT
      have hv1 := hv
      unfold ivP at hv1
      simp only [go_sem, Nat.reduceAdd, Nat.reduceSub, Nat.reduceMul, Nat.reduceEqDiff, Nat.reduceLT, Nat.reduceLeDiff, Nat.reduceBEq, reduceIte, reduceCtorEq, Int.reduceToNat, Int.reduceLE, Int.reduceLT, Int.reduceBEq, Int.reduceBNe, hv, hi0, hi1, hgi]
      rw [wrap_i64 (x := L[i].to - L[i].fr) (by omega) (by omega), wrap_i64 (x := mnI (L.take i) + (L[i].to - L[i].fr)) (by omega) (by omega), hw, ← hT]
      refine Cl.here ⟨⟨i + 1, by omega, rfl, rfl⟩, ?_⟩
      simp only [go_sem, Nat.reduceAdd, Nat.reduceSub, Nat.reduceMul, Nat.reduceEqDiff, Nat.reduceLT, Nat.reduceLeDiff, Nat.reduceBEq, reduceIte, reduceCtorEq, Int.reduceToNat, Int.reduceLE, Int.reduceLT, Int.reduceBEq, Int.reduceBNe]
      omega
    · rw [if_neg hv] at hT
      simp only [go_sem, Nat.reduceAdd, Nat.reduceSub, Nat.reduceMul, Nat.reduceEqDiff, Nat.reduceLT, Nat.reduceLeDiff, Nat.reduceBEq, reduceIte, reduceCtorEq, Int.reduceToNat, Int.reduceLE, Int.reduceLT, Int.reduceBEq, Int.reduceBNe, hv, hw]
      refine Cl.here ⟨⟨i + 1, by omega, by rw [hT]; simp, rfl⟩, ?_⟩
      simp only [go_sem, Nat.reduceAdd, Nat.reduceSub, Nat.reduceMul, Nat.reduceEqDiff, Nat.reduceLT, Nat.reduceLeDiff, Nat.reduceBEq, reduceIte, reduceCtorEq, Int.reduceToNat, Int.reduceLE, Int.reduceLT, Int.reduceBEq, Int.reduceBNe]
      omega
  · obtain rfl : i = L.length := by omega
    rw [List.take_length]
    exact Cl.fin rfl ⟨rfl, rfl⟩

end Go.Proofs.YtaloobgfgehhdaaGreat
