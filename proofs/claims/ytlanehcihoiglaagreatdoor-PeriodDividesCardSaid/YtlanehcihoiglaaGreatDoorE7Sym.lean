/- slices.SortStableFunc: ranges swapped, rotated, merged in place. -/
import Derived.Test.YtlanehcihoiglaaGreatDoorE7Srt
set_option linter.unusedSimpArgs false
set_option linter.unusedVariables false
set_option linter.unusedSectionVars false
namespace Go.Proofs.YtlanehcihoiglaaGreatDoor
open Go Go.Abs
set_option linter.unusedSimpArgs false
set_option linter.unusedVariables false

theorem n2_b {L1 L2 L3 : List Int} {x y : Int} : (numsE .i64 (L1 ++ x :: (L2 ++ y :: L3))).getD (L1.length + 1 + L2.length) [] = [.int .i64 y] := by
  rw [numsE_getD (by simp; omega)]
  rw [List.getD_eq_getElem?_getD, List.getElem?_append_right (by omega), show L1.length + 1 + L2.length - L1.length = L2.length + 1 by omega, List.getElem?_cons_succ, List.getElem?_append_right (Nat.le_refl _), Nat.sub_self]; rfl
theorem n2_bs {L1 L2 L3 : List Int} {x y : Int} {v : List AVal} : ((numsE .i64 (L1 ++ x :: (L2 ++ y :: L3))).set L1.length v).getD (L1.length + 1 + L2.length) [] = [.int .i64 y] := by
  have h := n2_b (L1 := L1) (L2 := L2) (L3 := L3) (x := x) (y := y)
  rw [List.getD_eq_getElem?_getD] at h ⊢
  rw [List.getElem?_set, if_neg (by omega)]; exact h
theorem n2_set {L1 L2 L3 : List Int} {x y : Int} : ((numsE .i64 (L1 ++ x :: (L2 ++ y :: L3))).set L1.length [.int .i64 y]).set (L1.length + 1 + L2.length) [.int .i64 x] = numsE .i64 (L1 ++ y :: (L2 ++ x :: L3)) := by
  have h : ∀ (P : List (List AVal)) (a b c d : List AVal) (M Q : List (List AVal)), ((P ++ a :: (M ++ b :: Q)).set P.length c).set (P.length + 1 + M.length) d = P ++ c :: (M ++ d :: Q) := by
    intro P a b c d M Q
    rw [List.set_append_right _ _ (Nat.le_refl _), Nat.sub_self, List.set_cons_zero, List.set_append_right _ _ (by omega), show P.length + 1 + M.length - P.length = M.length + 1 by omega, List.set_cons_succ, List.set_append_right _ _ (Nat.le_refl _), Nat.sub_self, List.set_cons_zero]
  have h2 := h (numsE .i64 L1) [.int .i64 x] [.int .i64 y] [.int .i64 y] [.int .i64 x] (numsE .i64 L2) (numsE .i64 L3)
  simp only [numsE, List.length_map, List.map_append, List.map_cons] at h2 ⊢
  exact h2

theorem swapRange_ok (R P A M B Q : List Int) (hn : A.length = B.length) (N : Nat) (hN : (P ++ A ++ M ++ B ++ Q).length = N) (hl : N ≤ 1000000) :
    AFn Tryz.prog 112 [.own 0 N 0 N, .int .i64 P.length, .int .i64 ((P.length + A.length + M.length : Nat) : Int), .int .i64 A.length, .fn 77 [.ref 1 1 0 0]] [.live 3 1 (numsE .i64 (P ++ A ++ M ++ B ++ Q)), rRow R]
      (fun v rs => v = .tup [] ∧ rs = [.live 3 1 (numsE .i64 (P ++ B ++ M ++ A ++ Q)), rRow R]) := by
  refine afn Tryz.func112 a112_ok (by simp [a112]) ?_
  have hlen : P.length + A.length + M.length + B.length + Q.length = N := by rw [← hN]; simp only [List.length_append]
  simp only [go_sem,a112,a112r0,a112r1,a112r2,a112r3]
  refine avc_loop (fun env rows => ∃ A1 A2 B1 B2 : List Int, A = A1 ++ A2 ∧ B = B1 ++ B2 ∧ A1.length = B1.length ∧ env = [(0, .own 0 N 0 N), (1, .int .i64 P.length), (2, .int .i64 ((P.length + A.length + M.length : Nat) : Int)), (3, .int .i64 A.length), (10, .int .i64 A1.length)] ∧
      rows = [.live 3 1 (numsE .i64 (P ++ B1 ++ A2 ++ M ++ A1 ++ B2 ++ Q)), rRow R])
    (fun env _ => match slot env 10 with | .int _ j => (A.length - j).toNat | _ => 0) ?_ ?_
  · exact Cl.here ⟨[], A, [], B, rfl, rfl, rfl, rfl, by simp⟩
  · rintro env rows ⟨A1, A2, B1, B2, hA, hB, h12, rfl, rfl⟩
    have hAl : A.length = A1.length + A2.length := by rw [hA]; simp
    have hBl : B.length = B1.length + B2.length := by rw [hB]; simp
    simp only [go_sem,a112,a112r0,a112r1,a112r2,a112r3]
    refine condC_intro ?_ ?_ <;> intro hg <;> simp only [decide_eq_true_eq,decide_eq_false_iff_not,beq_iff_eq,beq_eq_false_iff_ne,bne_iff_ne,bne_eq_false_iff_eq,Bool.not_eq_true',Bool.not_eq_false',Int.not_lt,Int.not_le,ne_eq,Bool.and_eq_true,Bool.or_eq_true,Bool.or_eq_false_iff,Bool.and_eq_false_iff] at hg <;> simp only [go_sem,a112,a112r0,a112r1,a112r2,a112r3]
    · obtain ⟨x, A2, rfl⟩ : ∃ x A', A2 = x :: A' := by
        cases A2 with
        | nil => simp at hAl; omega
        | cons x l => exact ⟨x, l, rfl⟩
      obtain ⟨y, B2, rfl⟩ : ∃ y B', B2 = y :: B' := by
        cases B2 with
        | nil => simp at hAl hBl; omega
        | cons x l => exact ⟨x, l, rfl⟩
      simp only [List.length_cons] at hAl hBl
      have hshape : P ++ B1 ++ (x :: A2) ++ M ++ A1 ++ (y :: B2) ++ Q = (P ++ B1) ++ x :: ((A2 ++ M ++ A1) ++ y :: (B2 ++ Q)) := by simp
      have hL1 : (P ++ B1).length = P.length + A1.length := by rw [List.length_append, h12]
      have hL2 : (A2 ++ M ++ A1).length = A2.length + M.length + A1.length := by simp only [List.length_append]
      have hi1 : IntKind.i64.wrap ((P.length : Int) + (A1.length : Int)) = ((P ++ B1).length : Int) := by rw [wrap_i64 (by omega) (by omega)]; omega
      have hi2 : IntKind.i64.wrap (((P.length + A.length + M.length : Nat) : Int) + (A1.length : Int)) = (((P ++ B1).length + 1 + (A2 ++ M ++ A1).length : Nat) : Int) := by rw [wrap_i64 (by omega) (by omega)]; omega
      have hi3 : IntKind.i64.wrap ((A1.length : Int) + 1) = ((A1.length + 1 : Nat) : Int) := by rw [wrap_i64 (by omega) (by omega)]; omega
      have hlN : ((P ++ B1) ++ x :: ((A2 ++ M ++ A1) ++ y :: (B2 ++ Q))).length = N := by simp only [List.length_append, List.length_cons]; omega
      rw [hshape]
      have hfin : (P ++ B1) ++ y :: ((A2 ++ M ++ A1) ++ x :: (B2 ++ Q)) = P ++ (B1 ++ [y]) ++ A2 ++ M ++ (A1 ++ [x]) ++ B2 ++ Q := by simp
      have ha1 : ((P ++ B1).length : Int) < N := by omega
      have ha2 : (((P ++ B1).length + 1 + (A2 ++ M ++ A1).length : Nat) : Int) < N := by omega
      generalize P ++ B1 = L1 at *
      generalize A2 ++ M ++ A1 = L2 at *
      generalize B2 ++ Q = L3 at *
      have hz1 : (0 : Int) ≤ (L1.length : Int) := by omega
      have hz2 : (0 : Int) ≤ ((L1.length + 1 + L2.length : Nat) : Int) := by omega
      simp only [go_sem,hi1,hi2,hi3,ha1,ha2,hz1,hz2,hlN,Int.toNat_natCast,num_get,n2_b,n2_bs,n2_set,numsE_length,List.drop_one,List.tail_cons,List.length_set]
      rw [hfin]
      refine Cl.here ⟨⟨A1 ++ [x], A2, B1 ++ [y], B2, by simp [hA], by simp [hB], by simp [h12], by simp, rfl⟩, ?_⟩
      simp only [go_sem]
      omega
    · obtain rfl : A2 = [] := by
        cases A2 with
        | nil => rfl
        | cons x l => simp at hAl; omega
      obtain rfl : B2 = [] := by
        cases B2 with
        | nil => rfl
        | cons x l => simp at hAl hBl; omega
      rw [List.append_nil] at hA hB
      subst hA; subst hB
      refine Cl.here ⟨rfl, by simp⟩

theorem rotate_ok (R P U V Q : List Int) (hU : 0 < U.length) (hV : 0 < V.length) (N : Nat) (hN : (P ++ U ++ V ++ Q).length = N) (hl : N ≤ 1000000) :
    AFn Tryz.prog 110 [.own 0 N 0 N, .int .i64 P.length, .int .i64 ((P.length + U.length : Nat) : Int), .int .i64 ((P.length + U.length + V.length : Nat) : Int), .fn 77 [.ref 1 1 0 0]] [.live 3 1 (numsE .i64 (P ++ U ++ V ++ Q)), rRow R]
      (fun v rs => v = .tup [] ∧ rs = [.live 3 1 (numsE .i64 (P ++ V ++ U ++ Q)), rRow R]) := by
  refine afn Tryz.func110 a110_ok (by simp [a110]) ?_
  have hlen : P.length + U.length + V.length + Q.length = N := by rw [← hN]; simp only [List.length_append]
  have hw1 : IntKind.i64.wrap (((P.length + U.length : Nat) : Int) - (P.length : Int)) = (U.length : Int) := by rw [wrap_i64 (by omega) (by omega)]; omega
  have hw2 : IntKind.i64.wrap (((P.length + U.length + V.length : Nat) : Int) - ((P.length + U.length : Nat) : Int)) = (V.length : Int) := by rw [wrap_i64 (by omega) (by omega)]; omega
  simp only [go_sem,a110,a110r0,a110r1,a110r2,a110r3,a110r4,a110r5,a110r6,a110r7,a110r8,hw1,hw2]
  refine avc_loop (fun env rows => ∃ P' A B Q' : List Int, P'.length + A.length = P.length + U.length ∧ 0 < A.length ∧ 0 < B.length ∧ P' ++ B ++ A ++ Q' = P ++ V ++ U ++ Q ∧ env = [(0, .own 0 N 0 N), (2, .int .i64 ((P.length + U.length : Nat) : Int)), (4, .fn 77 [.ref 1 1 0 0]), (10, .int .i64 A.length), (11, .int .i64 B.length)] ∧
      rows = [.live 3 1 (numsE .i64 (P' ++ A ++ B ++ Q')), rRow R])
    (fun env _ => match slot env 10, slot env 11 with | .int _ i, .int _ j => (i + j).toNat | _, _ => 0) ?_ ?_
  · exact Cl.here ⟨P, U, V, Q, rfl, hU, hV, rfl, rfl, rfl⟩
  · rintro env rows ⟨P', A, B, Q', hm, hA0, hB0, hE, rfl, rfl⟩
    have hlen2 : P'.length + A.length + B.length + Q'.length = N := by
      have := congrArg List.length hE
      simp only [List.length_append] at this
      omega
    have hmi : IntKind.i64.wrap (((P.length + U.length : Nat) : Int) - (A.length : Int)) = (P'.length : Int) := by rw [wrap_i64 (by omega) (by omega)]; omega
    simp only [go_sem,a110,a110r0,a110r1,a110r2,a110r3,a110r4,a110r5,a110r6,a110r7,a110r8]
    by_cases hij : A.length = B.length
    · have hne : ((A.length : Int) != (B.length : Int)) = false := by rw [hij]; simp
      simp only [go_sem,a110,a110r0,a110r1,a110r2,a110r3,a110r4,a110r5,a110r6,a110r7,a110r8,hne,hmi]
      have hS := swapRange_ok R P' A [] B Q' hij N (by simp only [List.length_append, List.length_nil]; omega) hl
      rw [List.append_nil, List.append_nil, List.length_nil, Nat.add_zero, hm] at hS
      refine callC_of [0,1] [] (by decide) (by simp only [go_sem,bind_rRow] <;> rfl) (by simp only [go_sem] <;> rfl) hS ?_
      rintro _ _ ⟨rfl, rfl⟩
      refine ⟨.inl rfl, ?_⟩
      simp only [go_sem,ren_rRow]
      rw [hE]
      exact Cl.here ⟨rfl, rfl⟩
    · have hne : ((A.length : Int) != (B.length : Int)) = true := by simp; omega
      by_cases hgt : B.length < A.length
      · have hgt' : (B.length : Int) < A.length := by omega
        have hA : A = A.take B.length ++ A.drop B.length := (List.take_append_drop _ _).symm
        have hA1 : (A.take B.length).length = B.length := by rw [List.length_take]; omega
        have hA2 : (A.drop B.length).length = A.length - B.length := by rw [List.length_drop]
        have hwd : IntKind.i64.wrap ((A.length : Int) - (B.length : Int)) = ((A.drop B.length).length : Int) := by rw [wrap_i64 (by omega) (by omega)]; omega
        generalize A.take B.length = A1 at hA hA1
        generalize A.drop B.length = A2 at hA hA2 hwd
        have hS := swapRange_ok R P' A1 A2 B Q' hA1 N (by simp only [List.length_append]; omega) hl
        rw [show P'.length + A1.length + A2.length = P.length + U.length by omega, hA1] at hS
        simp only [go_sem,a110,a110r0,a110r1,a110r2,a110r3,a110r4,a110r5,a110r6,a110r7,a110r8,hne,hgt',hmi]
        rw [hA, show P' ++ (A1 ++ A2) ++ B ++ Q' = P' ++ A1 ++ A2 ++ B ++ Q' by simp]
        refine callC_of [0,1] [] (by decide) (by simp only [go_sem,bind_rRow] <;> rfl) (by simp only [go_sem] <;> rfl) hS ?_
        rintro _ _ ⟨rfl, rfl⟩
        refine ⟨.inl rfl, ?_⟩
        simp only [go_sem,ren_rRow]
        rw [← hA, hwd]
        refine Cl.here ⟨⟨P' ++ B, A2, A1, Q', by rw [List.length_append]; omega, by omega, by omega, ?_, by rw [hA1], by simp⟩, ?_⟩
        · rw [← hE, hA]; simp
        · simp only [go_sem]
          omega
      · have hgt' : ¬ (B.length : Int) < A.length := by omega
        have hB : B = B.take (B.length - A.length) ++ B.drop (B.length - A.length) := (List.take_append_drop _ _).symm
        have hB1 : (B.take (B.length - A.length)).length = B.length - A.length := by rw [List.length_take]; omega
        have hB2 : (B.drop (B.length - A.length)).length = A.length := by rw [List.length_drop]; omega
        have hwd : IntKind.i64.wrap ((B.length : Int) - (A.length : Int)) = ((B.take (B.length - A.length)).length : Int) := by rw [wrap_i64 (by omega) (by omega)]; omega
        generalize B.take (B.length - A.length) = B1 at hB hB1 hwd
        generalize B.drop (B.length - A.length) = B2 at hB hB2
        have hS := swapRange_ok R P' A B1 B2 Q' hB2.symm N (by simp only [List.length_append]; omega) hl
        have hw5 : IntKind.i64.wrap (((P.length + U.length : Nat) : Int) + (B.length : Int)) = ((P.length + U.length + B.length : Nat) : Int) := by rw [wrap_i64 (by omega) (by omega)]; omega
        have hw6 : IntKind.i64.wrap (((P.length + U.length + B.length : Nat) : Int) - (A.length : Int)) = ((P'.length + A.length + B1.length : Nat) : Int) := by rw [wrap_i64 (by omega) (by omega)]; omega
        simp only [go_sem,a110,a110r0,a110r1,a110r2,a110r3,a110r4,a110r5,a110r6,a110r7,a110r8,hne,hgt',hmi,hw5,hw6]
        rw [show P' ++ A ++ B ++ Q' = P' ++ A ++ B1 ++ B2 ++ Q' by rw [hB]; simp]
        refine callC_of [0,1] [] (by decide) (by simp only [go_sem,bind_rRow] <;> rfl) (by simp only [go_sem] <;> rfl) hS ?_
        rintro _ _ ⟨rfl, rfl⟩
        refine ⟨.inl rfl, ?_⟩
        simp only [go_sem,ren_rRow]
        rw [hwd]
        refine Cl.here ⟨⟨P', B2, B1, A ++ Q', by omega, by omega, by omega, ?_, by rw [hB2], by simp⟩, ?_⟩
        · rw [← hE, hB]; simp
        · simp only [go_sem]
          omega

end Go.Proofs.YtlanehcihoiglaaGreatDoor
