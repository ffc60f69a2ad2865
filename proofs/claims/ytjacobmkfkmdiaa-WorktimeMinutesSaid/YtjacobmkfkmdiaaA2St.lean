/- stamps of presences. -/
import Derived.Test.YtjacobmkfkmdiaaA2Same
set_option linter.unusedSimpArgs false
set_option linter.unusedVariables false
set_option linter.unusedSectionVars false
namespace Go.Proofs.Ytjacobmkfkmdiaa
open Go Go.Abs
set_option linter.unusedSimpArgs false

def brS : List Iv → List Stamp
  | [] => []
  | b :: r => ⟨b.fr, 3, 0, 0⟩ :: ⟨b.to, 4, 0, 0⟩ :: brS r
def preS (p : Pre) : List Stamp := ⟨p.fr, 1, 0, 0⟩ :: (brS p.br ++ [⟨p.to, 2, 0, 0⟩])
def presS : List Pre → List Stamp
  | [] => []
  | p :: r => preS p ++ presS r
theorem brS_append : ∀ {a b : List Iv}, brS (a ++ b) = brS a ++ brS b
  | [], _ => rfl
  | x :: r, b => by simp only [List.cons_append, brS, brS_append]
theorem presS_append : ∀ {a b : List Pre}, presS (a ++ b) = presS a ++ presS b
  | [], _ => rfl
  | x :: r, b => by simp only [List.cons_append, presS, presS_append, List.append_assoc]
theorem brS_length : ∀ {a : List Iv}, (brS a).length = 2 * a.length
  | [] => rfl
  | x :: r => by simp only [brS, List.length_cons, brS_length]; omega
theorem presS_length {m : Nat} : ∀ {a : List Pre}, (∀ p ∈ a, p.br.length ≤ m) → (presS a).length ≤ (2 * m + 2) * a.length
  | [], _ => by simp [presS]
  | x :: r, h => by
    have h1 := presS_length (a := r) fun p hp => h p (by simp [hp])
    have h2 := h x (by simp)
    simp only [presS, preS, List.length_append, List.length_cons, brS_length, List.length_nil]
    rw [Nat.mul_add]
    omega
theorem take_snoc {α : Type} {l : List α} {i : Nat} (h : i < l.length) : l.take (i + 1) = l.take i ++ [l[i]] := by
  rw [List.take_add_one, List.getElem?_eq_getElem h]; rfl
theorem stamp_snoc2 {l : List Stamp} {a b c d a' b' c' d' : Int} : els l ++ [[.int .i64 a, .int .i64 b, .int .i64 c, .int .i64 d], [.int .i64 a', .int .i64 b', .int .i64 c', .int .i64 d']] = els (l ++ [⟨a, b, c, d⟩, ⟨a', b', c', d'⟩]) := by
  simp [els]; exact ⟨rfl, rfl⟩
attribute [go_sem] stamp_snoc2

theorem stampsOf_ok (ps : List Pre) (hl : ps.length ≤ 1000) (hbl : ∀ p ∈ ps, p.br.length ≤ 1000) : AFn Try.prog 27 [.pure 3 (els ps)] []
    (fun v rs => v = .own 0 (presS ps).length 0 (presS ps).length ∧ rs = [.live 34 4 (els (presS ps))]) := by
  refine afn Try.func27 a27_ok (by simp [a27]) ?_
  simp only [go_sem, Nat.reduceAdd, Nat.reduceSub, Nat.reduceMul, Nat.reduceEqDiff, Nat.reduceLT, Nat.reduceLeDiff, Nat.reduceBEq, reduceIte, reduceCtorEq, Int.reduceToNat, Int.reduceLE, Int.reduceLT, Int.reduceBEq, Int.reduceBNe, a27, a27r0, a27r1, a27r2, a27r3, a27r4, a27r5, a27r6, a27r7, a27r8, a27r9, a27r10, a27r11]
  refine avc_loop (fun env rows => ∃ (i : Nat) (X : List Stamp), X = presS (ps.take i) ∧ i ≤ ps.length ∧ env = [(0, .pure 3 (els ps)), (3, .own 0 X.length 0 X.length), (4, .int .i64 i)] ∧ rows = [.live 34 4 (els X)])
    (fun env _ => match slot env 4 with | .int _ j => (ps.length - j).toNat | _ => 0) ?_ ?_
  · (refine Cl.ghost 3  34  4 rfl (Cl.norm [ 0, 3, 4] ?_); simp only [go_sem, Nat.reduceAdd, Nat.reduceSub, Nat.reduceMul, Nat.reduceEqDiff, Nat.reduceLT, Nat.reduceLeDiff, Nat.reduceBEq, reduceIte, reduceCtorEq, Int.reduceToNat, Int.reduceLE, Int.reduceLT, Int.reduceBEq, Int.reduceBNe])
    exact Cl.here ⟨0, [], rfl, by omega, rfl, rfl⟩
  · rintro env rows ⟨i, X, hX, hi, rfl, rfl⟩
    have hXl : X.length ≤ 2002 * i := by
      have := presS_length (a := ps.take i) (m := 1000) fun p hp => hbl p (List.mem_of_mem_take hp)
      rw [hX]
      have h3 : (ps.take i).length ≤ i := by simp; omega
      have h4 : 2002 * (ps.take i).length ≤ 2002 * i := Nat.mul_le_mul_left _ h3
      omega
    simp only [go_sem, Nat.reduceAdd, Nat.reduceSub, Nat.reduceMul, Nat.reduceEqDiff, Nat.reduceLT, Nat.reduceLeDiff, Nat.reduceBEq, reduceIte, reduceCtorEq, Int.reduceToNat, Int.reduceLE, Int.reduceLT, Int.reduceBEq, Int.reduceBNe, a27, a27r0, a27r1, a27r2, a27r3, a27r4, a27r5, a27r6, a27r7, a27r8, a27r9, a27r10, a27r11]
    refine condC_intro ?_ ?_ <;> intro hg1 <;> simp only [decide_eq_true_eq, decide_eq_false_iff_not, beq_iff_eq, beq_eq_false_iff_ne, bne_iff_ne, bne_eq_false_iff_eq, Bool.not_eq_true', Bool.not_eq_false', Int.not_lt, Int.not_le, ne_eq, Bool.and_eq_true, Bool.or_eq_true, Bool.or_eq_false_iff, Bool.and_eq_false_iff] at hg1 <;> simp only [go_sem, Nat.reduceAdd, Nat.reduceSub, Nat.reduceMul, Nat.reduceEqDiff, Nat.reduceLT, Nat.reduceLeDiff, Nat.reduceBEq, reduceIte, reduceCtorEq, Int.reduceToNat, Int.reduceLE, Int.reduceLT, Int.reduceBEq, Int.reduceBNe, a27, a27r0, a27r1, a27r2, a27r3, a27r4, a27r5, a27r6, a27r7, a27r8, a27r9, a27r10, a27r11]
    · have hlt : i < ps.length := by omega
      have hi0 : (0 : Int) ≤ i := by omega
      have hi1 : (i : Int) < ps.length := by omega
      have hget : (els ps).getD i [] = [.int .i64 ps[i].fr, .int .i64 ps[i].to, .pure 2 (els ps[i].br)] := by rw [els_getD hlt, cel_pre]
      have hbp := hbl _ (List.getElem_mem hlt)
      have hnext : presS (ps.take (i + 1)) = X ++ preS ps[i] := by rw [take_snoc hlt, presS_append, hX]; simp [presS]
      generalize ps[i] = p at hget hbp hnext
      have hw1 : IntKind.i64.wrap ((i : Int) + 1) = ((i + 1 : Nat) : Int) := by rw [wrap_i64 (by omega) (by omega)]; omega
      simp only [go_sem, Nat.reduceAdd, Nat.reduceSub, Nat.reduceMul, Nat.reduceEqDiff, Nat.reduceLT, Nat.reduceLeDiff, Nat.reduceBEq, reduceIte, reduceCtorEq, Int.reduceToNat, Int.reduceLE, Int.reduceLT, Int.reduceBEq, Int.reduceBNe, hi0, hi1, hget]
      refine ⟨by omega, ?_⟩
      try simp only [go_sem, Nat.reduceAdd, Nat.reduceSub, Nat.reduceMul, Nat.reduceEqDiff, Nat.reduceLT, Nat.reduceLeDiff, Nat.reduceBEq, reduceIte, reduceCtorEq, Int.reduceToNat, Int.reduceLE, Int.reduceLT, Int.reduceBEq, Int.reduceBNe, a27, a27r0, a27r1, a27r2, a27r3, a27r4, a27r5, a27r6, a27r7, a27r8, a27r9, a27r10, a27r11]
      refine avc_loop (fun env rows => ∃ (k : Nat) (Y : List Stamp), Y = X ++ [⟨p.fr, 1, 0, 0⟩] ++ brS (p.br.take k) ∧ k ≤ p.br.length ∧ env = [(0, .pure 3 (els ps)), (3, .own 0 Y.length 0 Y.length), (4, .int .i64 i), (5, .int .i64 k)] ∧ rows = [.live 34 4 (els Y)])
        (fun env _ => match slot env 5 with | .int _ j => (p.br.length - j).toNat | _ => 0) ?_ ?_
      · (refine Cl.tr [some 0] [] rfl rfl (by simp only [go_sem, Nat.reduceAdd, Nat.reduceSub, Nat.reduceMul, Nat.reduceEqDiff, Nat.reduceLT, Nat.reduceLeDiff, Nat.reduceBEq, reduceIte, reduceCtorEq, Int.reduceToNat, Int.reduceLE, Int.reduceLT, Int.reduceBEq, Int.reduceBNe] <;> rfl) ?_; simp only [go_sem, Nat.reduceAdd, Nat.reduceSub, Nat.reduceMul, Nat.reduceEqDiff, Nat.reduceLT, Nat.reduceLeDiff, Nat.reduceBEq, reduceIte, reduceCtorEq, Int.reduceToNat, Int.reduceLE, Int.reduceLT, Int.reduceBEq, Int.reduceBNe])
        exact Cl.here ⟨0, X ++ [⟨p.fr, 1, 0, 0⟩], by simp [brS], by omega, by simp, rfl⟩
      · rintro env rows ⟨k, Y, hY, hk, rfl, rfl⟩
        have hYl : Y.length ≤ 2002 * i + 1 + 2 * k := by
          rw [hY]; simp only [List.length_append, List.length_cons, List.length_nil, brS_length]
          have h3 : (p.br.take k).length ≤ k := by simp; omega
          omega
        simp only [go_sem, Nat.reduceAdd, Nat.reduceSub, Nat.reduceMul, Nat.reduceEqDiff, Nat.reduceLT, Nat.reduceLeDiff, Nat.reduceBEq, reduceIte, reduceCtorEq, Int.reduceToNat, Int.reduceLE, Int.reduceLT, Int.reduceBEq, Int.reduceBNe, a27, a27r0, a27r1, a27r2, a27r3, a27r4, a27r5, a27r6, a27r7, a27r8, a27r9, a27r10, a27r11, hi0, hi1, hget]
        refine condC_intro ?_ ?_ <;> intro hg2 <;> simp only [decide_eq_true_eq, decide_eq_false_iff_not, beq_iff_eq, beq_eq_false_iff_ne, bne_iff_ne, bne_eq_false_iff_eq, Bool.not_eq_true', Bool.not_eq_false', Int.not_lt, Int.not_le, ne_eq, Bool.and_eq_true, Bool.or_eq_true, Bool.or_eq_false_iff, Bool.and_eq_false_iff] at hg2 <;> simp only [go_sem, Nat.reduceAdd, Nat.reduceSub, Nat.reduceMul, Nat.reduceEqDiff, Nat.reduceLT, Nat.reduceLeDiff, Nat.reduceBEq, reduceIte, reduceCtorEq, Int.reduceToNat, Int.reduceLE, Int.reduceLT, Int.reduceBEq, Int.reduceBNe, a27, a27r0, a27r1, a27r2, a27r3, a27r4, a27r5, a27r6, a27r7, a27r8, a27r9, a27r10, a27r11, hi0, hi1, hget]
        · have hlt2 : k < p.br.length := by omega
          have hk0 : (0 : Int) ≤ k := by omega
          have hk1 : (k : Int) < p.br.length := by omega
          have hget2 : (els p.br).getD k [] = [.int .i64 p.br[k].fr, .int .i64 p.br[k].to] := by rw [els_getD hlt2, cel_iv]
          have hnext2 : Y ++ [⟨p.br[k].fr, 3, 0, 0⟩, ⟨p.br[k].to, 4, 0, 0⟩] = X ++ [⟨p.fr, 1, 0, 0⟩] ++ brS (p.br.take (k + 1)) := by
            rw [take_snoc hlt2, brS_append, hY]; simp [brS]
          generalize p.br[k] = b at hget2 hnext2
          have hw2 : IntKind.i64.wrap ((k : Int) + 1) = ((k + 1 : Nat) : Int) := by rw [wrap_i64 (by omega) (by omega)]; omega
          simp only [go_sem, Nat.reduceAdd, Nat.reduceSub, Nat.reduceMul, Nat.reduceEqDiff, Nat.reduceLT, Nat.reduceLeDiff, Nat.reduceBEq, reduceIte, reduceCtorEq, Int.reduceToNat, Int.reduceLE, Int.reduceLT, Int.reduceBEq, Int.reduceBNe, a27, a27r0, a27r1, a27r2, a27r3, a27r4, a27r5, a27r6, a27r7, a27r8, a27r9, a27r10, a27r11, hi0, hi1, hget, hk0, hk1, hget2, hw2]
          refine ⟨by omega, ?_⟩
          try simp only [go_sem, Nat.reduceAdd, Nat.reduceSub, Nat.reduceMul, Nat.reduceEqDiff, Nat.reduceLT, Nat.reduceLeDiff, Nat.reduceBEq, reduceIte, reduceCtorEq, Int.reduceToNat, Int.reduceLE, Int.reduceLT, Int.reduceBEq, Int.reduceBNe, hw2]
          (refine Cl.tr [some 0] [] rfl rfl (by simp only [go_sem, Nat.reduceAdd, Nat.reduceSub, Nat.reduceMul, Nat.reduceEqDiff, Nat.reduceLT, Nat.reduceLeDiff, Nat.reduceBEq, reduceIte, reduceCtorEq, Int.reduceToNat, Int.reduceLE, Int.reduceLT, Int.reduceBEq, Int.reduceBNe] <;> rfl) ?_; simp only [go_sem, Nat.reduceAdd, Nat.reduceSub, Nat.reduceMul, Nat.reduceEqDiff, Nat.reduceLT, Nat.reduceLeDiff, Nat.reduceBEq, reduceIte, reduceCtorEq, Int.reduceToNat, Int.reduceLE, Int.reduceLT, Int.reduceBEq, Int.reduceBNe])
          refine Cl.here ⟨⟨k + 1, _, hnext2, by omega, by simp, rfl⟩, ?_⟩
          simp only [go_sem, Nat.reduceAdd, Nat.reduceSub, Nat.reduceMul, Nat.reduceEqDiff, Nat.reduceLT, Nat.reduceLeDiff, Nat.reduceBEq, reduceIte, reduceCtorEq, Int.reduceToNat, Int.reduceLE, Int.reduceLT, Int.reduceBEq, Int.reduceBNe]
          omega
        · have hkk : k = p.br.length := by omega
          rw [hkk, List.take_length] at hY
          have hn2 : Y ++ [⟨p.to, 2, 0, 0⟩] = presS (ps.take (i + 1)) := by rw [hnext, hY, preS]; simp
          refine ⟨by omega, ?_⟩
          try simp only [go_sem, Nat.reduceAdd, Nat.reduceSub, Nat.reduceMul, Nat.reduceEqDiff, Nat.reduceLT, Nat.reduceLeDiff, Nat.reduceBEq, reduceIte, reduceCtorEq, Int.reduceToNat, Int.reduceLE, Int.reduceLT, Int.reduceBEq, Int.reduceBNe, hw1]
          (refine Cl.tr [some 0] [] rfl rfl (by simp only [go_sem, Nat.reduceAdd, Nat.reduceSub, Nat.reduceMul, Nat.reduceEqDiff, Nat.reduceLT, Nat.reduceLeDiff, Nat.reduceBEq, reduceIte, reduceCtorEq, Int.reduceToNat, Int.reduceLE, Int.reduceLT, Int.reduceBEq, Int.reduceBNe] <;> rfl) ?_; simp only [go_sem, Nat.reduceAdd, Nat.reduceSub, Nat.reduceMul, Nat.reduceEqDiff, Nat.reduceLT, Nat.reduceLeDiff, Nat.reduceBEq, reduceIte, reduceCtorEq, Int.reduceToNat, Int.reduceLE, Int.reduceLT, Int.reduceBEq, Int.reduceBNe])
          refine Cl.here ⟨⟨i + 1, _, hn2, by omega, by simp, rfl⟩, ?_⟩
          simp only [go_sem, Nat.reduceAdd, Nat.reduceSub, Nat.reduceMul, Nat.reduceEqDiff, Nat.reduceLT, Nat.reduceLeDiff, Nat.reduceBEq, reduceIte, reduceCtorEq, Int.reduceToNat, Int.reduceLE, Int.reduceLT, Int.reduceBEq, Int.reduceBNe]
          omega
    · have : i = ps.length := by omega
      rw [this, List.take_length] at hX
      rw [hX]
      exact Cl.here ⟨rfl, rfl⟩

end Go.Proofs.Ytjacobmkfkmdiaa
