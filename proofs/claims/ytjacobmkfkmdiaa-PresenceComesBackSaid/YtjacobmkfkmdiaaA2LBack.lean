/- PresenceComesBack. -/
import Derived.Test.YtjacobmkfkmdiaaA2St
set_option linter.unusedSimpArgs false
set_option linter.unusedVariables false
set_option linter.unusedSectionVars false
namespace Go.Proofs.Ytjacobmkfkmdiaa
open Go Go.Abs
set_option linter.unusedSimpArgs false

theorem sOk_brS {X : List Stamp} {t : Int} : ∀ {bs : List Iv} {e : Int}, brOk e t bs = true → e ≤ t → t ≤ 120968639 → (∀ e', e' ≤ t → sOk e' X = true) → sOk e (brS bs ++ X) = true
  | [], e, _, h1, _, hX => hX e h1
  | b :: r, e, h, h1, h2, hX => by
    simp only [brOk, ivIn, Bool.and_eq_true, decide_eq_true_eq] at h
    simp only [brS, List.cons_append, sOk, Bool.and_eq_true, decide_eq_true_eq]
    exact ⟨by omega, by omega, sOk_brS h.2 (by omega) h2 hX⟩
theorem sOk_presS : ∀ {ps : List Pre} {e e' : Int}, presOk e ps = true → 0 ≤ e → e' ≤ e → (∀ p ∈ ps, p.to ≤ 40000000) → sOk e' (presS ps) = true
  | [], _, _, _, _, _, _ => rfl
  | p :: r, e, e', h, h0, he, hb => by
    simp only [presOk, preOk, ivIn, Bool.and_eq_true, decide_eq_true_eq] at h
    have hp := hb p (by simp)
    simp only [presS, preS, List.cons_append, List.append_assoc, sOk, Bool.and_eq_true, decide_eq_true_eq]
    refine ⟨by omega, sOk_brS h.1.2 (by omega) (by omega) fun x hx => ?_⟩
    simp only [List.nil_append, sOk, Bool.and_eq_true, decide_eq_true_eq]
    exact ⟨by omega, sOk_presS h.2 (by omega) (by omega) fun q hq => hb q (by simp [hq])⟩
theorem run_brS {n fr : Int} {P : List Pre} {A : List An} : ∀ {bs : List Iv} {e t pa : Int} {B : List Iv}, brOk e t bs = true → ∃ pa', (brS bs).foldl PS.read ⟨n, 1, fr, pa, B, P, A⟩ = ⟨n, 1, fr, pa', B ++ bs, P, A⟩
  | [], _, _, pa, B, _ => ⟨pa, by simp [brS]⟩
  | b :: r, e, t, pa, B, h => by
    simp only [brOk, ivIn, Bool.and_eq_true, decide_eq_true_eq] at h
    obtain ⟨pa', h2⟩ := run_brS (n := n) (fr := fr) (P := P) (A := A) (bs := r) (pa := b.fr) (B := B ++ [b]) h.2
    refine ⟨pa', ?_⟩
    have e1 : (⟨n, 1, fr, pa, B, P, A⟩ : PS).read ⟨b.fr, 3, 0, 0⟩ = ⟨n, 2, fr, b.fr, B, P, A⟩ := rfl
    have e2 : (⟨n, 2, fr, b.fr, B, P, A⟩ : PS).read ⟨b.to, 4, 0, 0⟩ = ⟨n, 1, fr, b.fr, B ++ [b], P, A⟩ := by
      show (⟨n, 2, fr, b.fr, B, P, A⟩ : PS).resume b.to = _
      rw [PS.resume, if_pos (by simp only; omega)]
    rw [brS, List.foldl_cons, List.foldl_cons, e1, e2, h2]
    simp
theorem run_presS {n : Int} {A : List An} : ∀ {ps : List Pre} {e b pa : Int} {P : List Pre}, presOk e ps = true → (∀ p ∈ ps, p.to - p.fr ≤ n) → ∃ b' pa', (presS ps).foldl PS.read ⟨n, 0, b, pa, [], P, A⟩ = ⟨n, 0, b', pa', [], P ++ ps, A⟩
  | [], _, b, pa, P, _, _ => ⟨b, pa, by simp [presS]⟩
  | p :: r, e, b, pa, P, h, hn => by
    simp only [presOk, preOk, ivIn, Bool.and_eq_true, decide_eq_true_eq] at h
    have hp := hn p (by simp)
    obtain ⟨pa1, h1⟩ := run_brS (n := n) (fr := p.fr) (P := P) (A := A) (pa := pa) (B := []) h.1.2
    obtain ⟨b2, pa2, h2⟩ := run_presS (n := n) (A := A) (ps := r) (b := p.fr) (pa := pa1) (P := P ++ [p]) h.2 fun q hq => hn q (by simp [hq])
    refine ⟨b2, pa2, ?_⟩
    have e1 : (⟨n, 0, b, pa, [], P, A⟩ : PS).read ⟨p.fr, 1, 0, 0⟩ = ⟨n, 1, p.fr, pa, [], P, A⟩ := rfl
    have e2 : (⟨n, 1, p.fr, pa1, [] ++ p.br, P, A⟩ : PS).read ⟨p.to, 2, 0, 0⟩ = ⟨n, 0, p.fr, pa1, [], P ++ [p], A⟩ := by
      show (⟨n, 1, p.fr, pa1, [] ++ p.br, P, A⟩ : PS).leave p.to = _
      rw [PS.leave, PS.out, if_neg (by simp only; omega), if_pos (by simp only; omega)]
      simp
    rw [presS, preS, List.cons_append, List.foldl_cons, e1, List.append_assoc, List.foldl_append, h1, List.foldl_append, List.foldl_cons, e2, List.foldl_nil, h2]
    simp

theorem back_pl {ps : List Pre} (h : presOk 0 ps = true) (hn : ps.length ≤ 6) (hb : ∀ p ∈ ps, p.to - p.fr ≤ 545 ∧ p.br.length ≤ 2 ∧ p.to ≤ 40000000) :
    pcheck (presS ps) 10080 = 0 ∧ pairP (presS ps) 10080 = ps ∧ pairA (presS ps) 10080 = [] := by
  have hl := presS_length (a := ps) (m := 2) fun p hp => (hb p hp).2.1
  have hs := sOk_presS h (Int.le_refl 0) (Int.le_refl 0) fun p hp => (hb p hp).2.2
  have hc : pcheck (presS ps) 10080 = 0 := by rw [pcheck, if_neg (by omega), if_neg (by omega), if_pos hs]
  obtain ⟨b, pa, hr⟩ := run_presS (n := 10080) (A := []) (b := 0) (pa := 0) (P := []) h fun p hp => by have := (hb p hp).1; omega
  have hr' : prun (presS ps) 10080 = ⟨10080, 0, b, pa, [], ps, []⟩ := hr
  refine ⟨hc, ?_, ?_⟩
  · rw [pairP, if_pos hc, hr']; rfl
  · rw [pairA, if_pos hc, hr']; rfl

theorem presenceComesBack (l : List Int) (hl : TapeOk l) : AFn Try.prog 6 [.pure 1 (numsE .i64 l)] [] (fun v _ => v = .bool true) := by
  refine afnW Try.func6 a6_ok (by simp [a6]) ?_
  simp only [go_sem, Nat.reduceAdd, Nat.reduceSub, Nat.reduceMul, Nat.reduceEqDiff, Nat.reduceLT, Nat.reduceLeDiff, Nat.reduceBEq, reduceIte, reduceCtorEq, Int.reduceToNat, Int.reduceLE, Int.reduceLT, Int.reduceBEq, Int.reduceBNe, a6, a6r0, a6r1, a6r2, a6r3]
  (refine Cl.here ?_; simp only [go_sem, Nat.reduceAdd, Nat.reduceSub, Nat.reduceMul, Nat.reduceEqDiff, Nat.reduceLT, Nat.reduceLeDiff, Nat.reduceBEq, reduceIte, reduceCtorEq, Int.reduceToNat, Int.reduceLE, Int.reduceLT, Int.reduceBEq, Int.reduceBNe])
  (refine callC_of [] [] (by simp) rfl (bindL_clean _ (by first | rfl | simp only [go_sem, Nat.reduceAdd, Nat.reduceSub, Nat.reduceMul, Nat.reduceEqDiff, Nat.reduceLT, Nat.reduceLeDiff, Nat.reduceBEq, reduceIte, reduceCtorEq, Int.reduceToNat, Int.reduceLE, Int.reduceLT, Int.reduceBEq, Int.reduceBNe])) (new_ok l) ?_; rintro _ _ ⟨rfl, rfl⟩; refine ⟨.inl rfl, ?_⟩; simp only [go_sem, Nat.reduceAdd, Nat.reduceSub, Nat.reduceMul, Nat.reduceEqDiff, Nat.reduceLT, Nat.reduceLeDiff, Nat.reduceBEq, reduceIte, reduceCtorEq, Int.reduceToNat, Int.reduceLE, Int.reduceLT, Int.reduceBEq, Int.reduceBNe])
  (refine callC_of [0] [] (by decide) (by simp only [go_sem, Nat.reduceAdd, Nat.reduceSub, Nat.reduceMul, Nat.reduceEqDiff, Nat.reduceLT, Nat.reduceLeDiff, Nat.reduceBEq, reduceIte, reduceCtorEq, Int.reduceToNat, Int.reduceLE, Int.reduceLT, Int.reduceBEq, Int.reduceBNe] <;> rfl) (by simp only [go_sem, Nat.reduceAdd, Nat.reduceSub, Nat.reduceMul, Nat.reduceEqDiff, Nat.reduceLT, Nat.reduceLeDiff, Nat.reduceBEq, reduceIte, reduceCtorEq, Int.reduceToNat, Int.reduceLE, Int.reduceLT, Int.reduceBEq, Int.reduceBNe] <;> rfl) (presences_ok l hl 6 (by omega) (by omega) 0 (by omega) (by omega)) ?_; rintro _ _ ⟨at_, ps, rfl, rfl, _, _, hn, hp, hb⟩; refine ⟨.inl rfl, ?_⟩; simp only [go_sem, Nat.reduceAdd, Nat.reduceSub, Nat.reduceMul, Nat.reduceEqDiff, Nat.reduceLT, Nat.reduceLeDiff, Nat.reduceBEq, reduceIte, reduceCtorEq, Int.reduceToNat, Int.reduceLE, Int.reduceLT, Int.reduceBEq, Int.reduceBNe])
  obtain ⟨hc, hP, hA⟩ := back_pl hp (by omega) hb
  (refine Cl.frz [] [ 1] rfl rfl (by simp only [go_sem, Nat.reduceAdd, Nat.reduceSub, Nat.reduceMul, Nat.reduceEqDiff, Nat.reduceLT, Nat.reduceLeDiff, Nat.reduceBEq, reduceIte, reduceCtorEq, Int.reduceToNat, Int.reduceLE, Int.reduceLT, Int.reduceBEq, Int.reduceBNe] <;> rfl) ?_; simp only [go_sem, Nat.reduceAdd, Nat.reduceSub, Nat.reduceMul, Nat.reduceEqDiff, Nat.reduceLT, Nat.reduceLeDiff, Nat.reduceBEq, reduceIte, reduceCtorEq, Int.reduceToNat, Int.reduceLE, Int.reduceLT, Int.reduceBEq, Int.reduceBNe])
  (refine Cl.here ?_; simp only [go_sem, Nat.reduceAdd, Nat.reduceSub, Nat.reduceMul, Nat.reduceEqDiff, Nat.reduceLT, Nat.reduceLeDiff, Nat.reduceBEq, reduceIte, reduceCtorEq, Int.reduceToNat, Int.reduceLE, Int.reduceLT, Int.reduceBEq, Int.reduceBNe])
  (refine callC_of [] [] (by simp) rfl (bindL_clean _ (by first | rfl | simp only [go_sem, Nat.reduceAdd, Nat.reduceSub, Nat.reduceMul, Nat.reduceEqDiff, Nat.reduceLT, Nat.reduceLeDiff, Nat.reduceBEq, reduceIte, reduceCtorEq, Int.reduceToNat, Int.reduceLE, Int.reduceLT, Int.reduceBEq, Int.reduceBNe])) (stampsOf_ok ps (by omega) (fun p h => by have := (hb p h).2.1; omega)) ?_; rintro _ _ ⟨rfl, rfl⟩; refine ⟨.inl rfl, ?_⟩; simp only [go_sem, Nat.reduceAdd, Nat.reduceSub, Nat.reduceMul, Nat.reduceEqDiff, Nat.reduceLT, Nat.reduceLeDiff, Nat.reduceBEq, reduceIte, reduceCtorEq, Int.reduceToNat, Int.reduceLE, Int.reduceLT, Int.reduceBEq, Int.reduceBNe])
  have hl2 := presS_length (a := ps) (m := 2) fun p hp => (hb p hp).2.1
  refine callC_of [0] [] (by decide) (by simp only [go_sem, Nat.reduceAdd, Nat.reduceSub, Nat.reduceMul, Nat.reduceEqDiff, Nat.reduceLT, Nat.reduceLeDiff, Nat.reduceBEq, reduceIte, reduceCtorEq, Int.reduceToNat, Int.reduceLE, Int.reduceLT, Int.reduceBEq, Int.reduceBNe] <;> rfl) (by simp only [go_sem, Nat.reduceAdd, Nat.reduceSub, Nat.reduceMul, Nat.reduceEqDiff, Nat.reduceLT, Nat.reduceLeDiff, Nat.reduceBEq, reduceIte, reduceCtorEq, Int.reduceToNat, Int.reduceLE, Int.reduceLT, Int.reduceBEq, Int.reduceBNe] <;> rfl) (pairOwn_ok (presS ps) 10080 (by omega)) ?_
  rintro _ _ ⟨rfl, rfl⟩
  refine ⟨.inl rfl, ?_⟩
  rw [hc, hP, hA]
  simp only [go_sem, Nat.reduceAdd, Nat.reduceSub, Nat.reduceMul, Nat.reduceEqDiff, Nat.reduceLT, Nat.reduceLeDiff, Nat.reduceBEq, reduceIte, reduceCtorEq, Int.reduceToNat, Int.reduceLE, Int.reduceLT, Int.reduceBEq, Int.reduceBNe]
  (refine Cl.here ?_; simp only [go_sem, Nat.reduceAdd, Nat.reduceSub, Nat.reduceMul, Nat.reduceEqDiff, Nat.reduceLT, Nat.reduceLeDiff, Nat.reduceBEq, reduceIte, reduceCtorEq, Int.reduceToNat, Int.reduceLE, Int.reduceLT, Int.reduceBEq, Int.reduceBNe])
  refine callC_det (same_ok ps (by omega) (fun p h => by have := (hb p h).2.1; omega)) rfl rfl ?_
  simp only [go_sem, Nat.reduceAdd, Nat.reduceSub, Nat.reduceMul, Nat.reduceEqDiff, Nat.reduceLT, Nat.reduceLeDiff, Nat.reduceBEq, reduceIte, reduceCtorEq, Int.reduceToNat, Int.reduceLE, Int.reduceLT, Int.reduceBEq, Int.reduceBNe]
  refine callC_det sane_ok rfl rfl ?_
  simp only [go_sem, Nat.reduceAdd, Nat.reduceSub, Nat.reduceMul, Nat.reduceEqDiff, Nat.reduceLT, Nat.reduceLeDiff, Nat.reduceBEq, reduceIte, reduceCtorEq, Int.reduceToNat, Int.reduceLE, Int.reduceLT, Int.reduceBEq, Int.reduceBNe]
  (refine Cl.here ?_; simp only [go_sem, Nat.reduceAdd, Nat.reduceSub, Nat.reduceMul, Nat.reduceEqDiff, Nat.reduceLT, Nat.reduceLeDiff, Nat.reduceBEq, reduceIte, reduceCtorEq, Int.reduceToNat, Int.reduceLE, Int.reduceLT, Int.reduceBEq, Int.reduceBNe])
  exact Cl.fin rfl rfl

end Go.Proofs.Ytjacobmkfkmdiaa
