/- slices.SortStableFunc: two ascending ranges merged in place. -/
import Derived.Test.YtlanehcihoiglaaGreatDoorE7Sym
set_option linter.unusedSimpArgs false
set_option linter.unusedVariables false
set_option linter.unusedSectionVars false
namespace Go.Proofs.YtlanehcihoiglaaGreatDoor
open Go Go.Abs
set_option linter.unusedSimpArgs false
set_option linter.unusedVariables false

theorem half_ok {i j : Nat} (h : i + j < 4000000) : IntKind.i64.wrap (bshr .u64 (IntKind.u64.wrap (IntKind.i64.wrap ((i : Int) + (j : Int)))) 1) = (((i + j) / 2 : Nat) : Int) := by
  rw [wrap_i64 (x := (i : Int) + (j : Int)) (by omega) (by omega), wrap_u64 (by omega) (by omega)]
  have : bshr .u64 ((i : Int) + (j : Int)) 1 = (((i + j) / 2 : Nat) : Int) := by
    show Int.fdiv ((i : Int) + (j : Int)) (2 ^ (min 1 64)) = _
    rw [Int.fdiv_eq_ediv_of_nonneg _ (by decide)]
    show ((i : Int) + (j : Int)) / 2 = _
    omega
  rw [this, wrap_i64 (by omega) (by omega)]
theorem lx_rst {R : List Int} {x y : Int} (h : lx R x y) : rst R y ≤ rst R x := by unfold lx at h; omega
theorem lx_of {R : List Int} {x y : Int} (h : rst R y < rst R x) : lx R x y := .inl h
theorem lx_of' {R : List Int} {x y : Int} (h : ¬ rst R x < rst R y) (hxy : x < y) : lx R x y := by unfold lx; omega
theorem sorted_ins {R : List Int} {Y : List Int} {x : Int} {p : Nat} (hY : Y.Pairwise (lx R)) (h1 : ∀ k (h : k < Y.length), k < p → lx R Y[k] x) (h2 : ∀ k (h : k < Y.length), p ≤ k → lx R x Y[k]) : (Y.take p ++ x :: Y.drop p).Pairwise (lx R) := by
  have hY' := hY
  rw [← List.take_append_drop p Y, List.pairwise_append] at hY'
  rw [List.pairwise_append, List.pairwise_cons]
  refine ⟨hY'.1, ⟨fun z hz => ?_, hY'.2.1⟩, fun z hz w hw => ?_⟩
  · obtain ⟨k, hk, rfl⟩ := List.mem_iff_getElem.1 hz
    rw [List.getElem_drop]
    rw [List.length_drop] at hk
    exact h2 _ (by omega) (by omega)
  · obtain ⟨k, hk, rfl⟩ := List.mem_iff_getElem.1 hz
    rw [List.length_take] at hk
    have hzx : lx R (Y.take p)[k] x := by rw [List.getElem_take]; exact h1 _ (by omega) (by omega)
    rcases List.mem_cons.1 hw with rfl | hw
    · exact hzx
    · exact hY'.2.2 _ hz _ hw
theorem perm_ins {Y : List Int} {x : Int} {p : Nat} : (Y.take p ++ x :: Y.drop p).Perm (x :: Y) := by
  refine List.perm_middle.trans ?_
  rw [List.take_append_drop]

theorem n1_s {L1 L3 : List Int} {x y : Int} {v : List AVal} : ((numsE .i64 (L1 ++ x :: y :: L3)).set L1.length v).getD (L1.length + 1) [] = [.int .i64 y] := by
  have h := n2_bs (L1 := L1) (L2 := []) (L3 := L3) (x := x) (y := y) (v := v)
  simpa using h
theorem n1_set {L1 L3 : List Int} {x y : Int} : ((numsE .i64 (L1 ++ x :: y :: L3)).set L1.length [.int .i64 y]).set (L1.length + 1) [.int .i64 x] = numsE .i64 (L1 ++ y :: x :: L3) := by
  have h := n2_set (L1 := L1) (L2 := []) (L3 := L3) (x := x) (y := y)
  simpa using h
/-- one element in front of a range -/
theorem merge_left (R P Y Q : List Int) (x : Int) (hY0 : 0 < Y.length) (N : Nat) (hN : (P ++ x :: Y ++ Q).length = N) (hl : N ≤ 1000000) (hY : Y.Pairwise (lx R)) (hxy : ∀ y ∈ Y, x < y) (hx : 0 ≤ x ∧ x < R.length) (hr : ∀ z ∈ Y, 0 ≤ z ∧ z < R.length) :
    AFn Tryz.prog 104 [.own 0 N 0 N, .int .i64 P.length, .int .i64 ((P.length + 1 : Nat) : Int), .int .i64 ((P.length + 1 + Y.length : Nat) : Int), .fn 77 [.ref 1 1 0 0]] [.live 3 1 (numsE .i64 (P ++ x :: Y ++ Q)), rRow R]
      (fun v rs => v = .tup [] ∧ ∃ S : List Int, S.Perm (x :: Y) ∧ S.Pairwise (lx R) ∧ rs = [.live 3 1 (numsE .i64 (P ++ S ++ Q)), rRow R]) := by
  refine afn Tryz.func104 a104_ok (by simp [a104]) ?_
  have hlen : P.length + 1 + Y.length + Q.length = N := by rw [← hN]; simp only [List.length_append, List.length_cons]; omega
  have hw1 : IntKind.i64.wrap (((P.length + 1 : Nat) : Int) - (P.length : Int)) = 1 := by rw [wrap_i64 (by omega) (by omega)]; omega
  simp only [go_sem,a104,a104r0,a104r1,a104r2,a104r3,a104r4,a104r5,a104r6,a104r7,a104r8,a104r9,a104r10,a104r11,a104r12,a104r13,a104r14,a104r15,a104r16,a104r17,a104r18,a104r19,a104r20,a104r21,a104r22,a104r23,a104r24,a104r25,a104r26,a104r27,a104r28,a104r29,a104r30,a104r31,a104r32,a104r33,a104r34,a104r35,a104r36,a104r37,a104r38,a104r39,a104r40,a104r41,a104r42,a104r43,a104r44,hw1]
  refine avc_loop (fun env rows => ∃ (p q : Nat), p ≤ q ∧ q ≤ Y.length ∧ (∀ k (h : k < Y.length), k < p → rst R x < rst R Y[k]) ∧ (∀ k (h : k < Y.length), q ≤ k → ¬ rst R x < rst R Y[k]) ∧
      env = [(0, .own 0 N 0 N), (1, .int .i64 P.length), (4, .fn 77 [.ref 1 1 0 0]), (10, .int .i64 ((P.length + 1 + p : Nat) : Int)), (11, .int .i64 ((P.length + 1 + q : Nat) : Int))] ∧ rows = [.live 3 1 (numsE .i64 (P ++ x :: Y ++ Q)), rRow R])
    (fun env _ => match slot env 10, slot env 11 with | .int _ i, .int _ j => (j - i).toNat | _, _ => 0) ?_ ?_
  · exact Cl.here ⟨0, Y.length, by omega, by omega, fun k _ h => by omega, fun k h1 h2 => by omega, rfl, rfl⟩
  · rintro env rows ⟨p, q, hpq, hq, h1, h2, rfl, rfl⟩
    simp only [go_sem,a104,a104r0,a104r1,a104r2,a104r3,a104r4,a104r5,a104r6,a104r7,a104r8,a104r9,a104r10,a104r11,a104r12,a104r13,a104r14,a104r15,a104r16,a104r17,a104r18,a104r19,a104r20,a104r21,a104r22,a104r23,a104r24,a104r25,a104r26,a104r27,a104r28,a104r29,a104r30,a104r31,a104r32,a104r33,a104r34,a104r35,a104r36,a104r37,a104r38,a104r39,a104r40,a104r41,a104r42,a104r43,a104r44]
    refine condC_intro ?_ ?_ <;> intro hg <;> simp only [decide_eq_true_eq,decide_eq_false_iff_not,beq_iff_eq,beq_eq_false_iff_ne,bne_iff_ne,bne_eq_false_iff_eq,Bool.not_eq_true',Bool.not_eq_false',Int.not_lt,Int.not_le,ne_eq,Bool.and_eq_true,Bool.or_eq_true,Bool.or_eq_false_iff,Bool.and_eq_false_iff] at hg <;> simp only [go_sem,a104,a104r0,a104r1,a104r2,a104r3,a104r4,a104r5,a104r6,a104r7,a104r8,a104r9,a104r10,a104r11,a104r12,a104r13,a104r14,a104r15,a104r16,a104r17,a104r18,a104r19,a104r20,a104r21,a104r22,a104r23,a104r24,a104r25,a104r26,a104r27,a104r28,a104r29,a104r30,a104r31,a104r32,a104r33,a104r34,a104r35,a104r36,a104r37,a104r38,a104r39,a104r40,a104r41,a104r42,a104r43,a104r44]
    · have hc : (P.length + 1 + p + (P.length + 1 + q)) / 2 = P.length + 1 + (p + q) / 2 := by omega
      have hh := half_ok (i := P.length + 1 + p) (j := P.length + 1 + q) (by omega)
      rw [hc] at hh
      have hcY : (p + q) / 2 < Y.length := by omega
      have hcp : p ≤ (p + q) / 2 := by omega
      have hcq : (p + q) / 2 < q := by omega
      generalize (p + q) / 2 = c at hh hcY hcp hcq
      have hgx : (numsE .i64 (P ++ x :: Y ++ Q)).getD P.length [] = [.int .i64 x] := by
        rw [numsE_getD (by omega), List.getD_eq_getElem?_getD, List.append_assoc, List.getElem?_append_right (Nat.le_refl _), Nat.sub_self]; rfl
      have hgy : (numsE .i64 (P ++ x :: Y ++ Q)).getD (P.length + 1 + c) [] = [.int .i64 Y[c]] := by
        rw [numsE_getD (by omega), List.getD_eq_getElem?_getD, List.append_assoc, List.getElem?_append_right (by omega), show P.length + 1 + c - P.length = c + 1 by omega, List.cons_append, List.getElem?_cons_succ, List.getElem?_append_left hcY, List.getElem?_eq_getElem hcY]; rfl
      have b1 : (P.length : Int) < N := by omega
      have b2 : ((P.length + 1 + c : Nat) : Int) < N := by omega
      have z1 : (0 : Int) ≤ (P.length : Int) := by omega
      have z2 : (0 : Int) ≤ ((P.length + 1 + c : Nat) : Int) := by omega
      have hyr := hr _ (List.getElem_mem hcY)
      have hYp := List.pairwise_iff_getElem.1 hY
      have hless := less_ok R Y[c] x hyr.1 hyr.2 hx.1 hx.2
      simp only [go_sem,hh,b1,b2,z1,z2,hN,Int.toNat_natCast,hgx,hgy]
      refine ⟨⟨_, Tryz.func77, by kernel_rfl⟩, ?_⟩
      (refine callD_of [1] [] (by simp only [go_sem]) (by decide) (by simp only [go_sem] <;> rfl) (by simp only [go_sem] <;> rfl) (hless) ?_; rintro _ _ ⟨rfl,rfl⟩; refine ⟨.inl rfl,?_⟩; simp only [go_sem])
      by_cases hyx : rst R x < rst R Y[c]
      · have hcm : cmpI (rst R x) (rst R Y[c]) < 0 := cmpI_neg.2 hyx
        have hwc : IntKind.i64.wrap (((P.length + 1 + c : Nat) : Int) + 1) = ((P.length + 1 + (c + 1) : Nat) : Int) := by rw [wrap_i64 (by omega) (by omega)]; omega
        simp only [go_sem,hcm,hwc,ren_rRow,a104,a104r0,a104r1,a104r2,a104r3,a104r4,a104r5,a104r6,a104r7,a104r8,a104r9,a104r10,a104r11,a104r12,a104r13,a104r14,a104r15,a104r16,a104r17,a104r18,a104r19,a104r20,a104r21,a104r22,a104r23,a104r24,a104r25,a104r26,a104r27,a104r28,a104r29,a104r30,a104r31,a104r32,a104r33,a104r34,a104r35,a104r36,a104r37,a104r38,a104r39,a104r40,a104r41,a104r42,a104r43,a104r44]
        refine Cl.here ⟨⟨c + 1, q, by omega, hq, fun k hk hkc => ?_, h2, rfl, rfl⟩, ?_⟩
        · rcases Nat.lt_or_ge k c with h3 | h3
          · have := lx_rst (hYp k c hk hcY h3); omega
          · obtain rfl : k = c := by omega
            exact hyx
        · simp only [go_sem]
          omega
      · have hcm : ¬ cmpI (rst R x) (rst R Y[c]) < 0 := fun h => hyx (cmpI_neg.1 h)
        simp only [go_sem,hcm,ren_rRow,a104,a104r0,a104r1,a104r2,a104r3,a104r4,a104r5,a104r6,a104r7,a104r8,a104r9,a104r10,a104r11,a104r12,a104r13,a104r14,a104r15,a104r16,a104r17,a104r18,a104r19,a104r20,a104r21,a104r22,a104r23,a104r24,a104r25,a104r26,a104r27,a104r28,a104r29,a104r30,a104r31,a104r32,a104r33,a104r34,a104r35,a104r36,a104r37,a104r38,a104r39,a104r40,a104r41,a104r42,a104r43,a104r44]
        refine Cl.here ⟨⟨p, c, hcp, by omega, h1, fun k hk hkc => ?_, rfl, rfl⟩, ?_⟩
        · rcases Nat.lt_or_ge c k with h3 | h3
          · have := lx_rst (hYp c k hcY hk h3); omega
          · obtain rfl : k = c := by omega
            exact hyx
        · simp only [go_sem]
          omega
    · obtain rfl : p = q := by omega
      have hS := sorted_ins (p := p) hY (fun k hk hkp => lx_of (h1 k hk hkp)) (fun k hk hkp => lx_of' (h2 k hk hkp) (hxy _ (List.getElem_mem hk)))
      refine avc_loop (fun env rows => ∃ (t : Nat), t ≤ p ∧ env = [(0, .own 0 N 0 N), (10, .int .i64 ((P.length + 1 + p : Nat) : Int)), (13, .int .i64 ((P.length + t : Nat) : Int))] ∧ rows = [.live 3 1 (numsE .i64 (P ++ (Y.take t ++ x :: Y.drop t) ++ Q)), rRow R])
        (fun env _ => match slot env 13 with | .int _ k => (P.length + p - k).toNat | _ => 0) ?_ ?_
      · exact Cl.here ⟨0, by omega, rfl, by simp⟩
      · rintro env rows ⟨t, ht, rfl, rfl⟩
        have hw2 : IntKind.i64.wrap (((P.length + 1 + p : Nat) : Int) - 1) = ((P.length + p : Nat) : Int) := by rw [wrap_i64 (by omega) (by omega)]; omega
        simp only [go_sem,a104,a104r0,a104r1,a104r2,a104r3,a104r4,a104r5,a104r6,a104r7,a104r8,a104r9,a104r10,a104r11,a104r12,a104r13,a104r14,a104r15,a104r16,a104r17,a104r18,a104r19,a104r20,a104r21,a104r22,a104r23,a104r24,a104r25,a104r26,a104r27,a104r28,a104r29,a104r30,a104r31,a104r32,a104r33,a104r34,a104r35,a104r36,a104r37,a104r38,a104r39,a104r40,a104r41,a104r42,a104r43,a104r44,hw2]
        refine condC_intro ?_ ?_ <;> intro hg2 <;> simp only [decide_eq_true_eq,decide_eq_false_iff_not,beq_iff_eq,beq_eq_false_iff_ne,bne_iff_ne,bne_eq_false_iff_eq,Bool.not_eq_true',Bool.not_eq_false',Int.not_lt,Int.not_le,ne_eq,Bool.and_eq_true,Bool.or_eq_true,Bool.or_eq_false_iff,Bool.and_eq_false_iff] at hg2 <;> simp only [go_sem,a104,a104r0,a104r1,a104r2,a104r3,a104r4,a104r5,a104r6,a104r7,a104r8,a104r9,a104r10,a104r11,a104r12,a104r13,a104r14,a104r15,a104r16,a104r17,a104r18,a104r19,a104r20,a104r21,a104r22,a104r23,a104r24,a104r25,a104r26,a104r27,a104r28,a104r29,a104r30,a104r31,a104r32,a104r33,a104r34,a104r35,a104r36,a104r37,a104r38,a104r39,a104r40,a104r41,a104r42,a104r43,a104r44]
        · have htY : t < Y.length := by omega
          have hYt : Y.drop t = Y[t] :: Y.drop (t + 1) := List.drop_eq_getElem_cons htY
          have hYt2 : Y.take (t + 1) = Y.take t ++ [Y[t]] := List.take_succ_eq_append_getElem htY
          generalize Y[t] = y at hYt hYt2
          have hshape : P ++ (Y.take t ++ x :: Y.drop t) ++ Q = (P ++ Y.take t) ++ x :: y :: (Y.drop (t + 1) ++ Q) := by rw [hYt]; simp
          have hshape2 : (P ++ Y.take t) ++ y :: x :: (Y.drop (t + 1) ++ Q) = P ++ (Y.take (t + 1) ++ x :: Y.drop (t + 1)) ++ Q := by rw [hYt2]; simp
          have hLl : (P ++ Y.take t).length = P.length + t := by rw [List.length_append, List.length_take]; omega
          have hlN : ((P ++ Y.take t) ++ x :: y :: (Y.drop (t + 1) ++ Q)).length = N := by rw [← hshape]; simp only [List.length_append, List.length_cons, List.length_take, List.length_drop]; omega
          have hlast : ((P ++ Y.take t).length + 1 : Nat) = P.length + (t + 1) := by omega
          rw [hshape, ← hLl]
          generalize P ++ Y.take t = L1 at hshape2 hLl hlN hlast ⊢
          generalize Y.drop (t + 1) ++ Q = L3 at hshape2 hlN ⊢
          have hw3 : IntKind.i64.wrap ((L1.length : Int) + 1) = ((L1.length + 1 : Nat) : Int) := by rw [wrap_i64 (by omega) (by omega)]; omega
          have c1 : (L1.length : Int) < N := by omega
          have c2 : ((L1.length + 1 : Nat) : Int) < N := by omega
          have z1 : (0 : Int) ≤ (L1.length : Int) := by omega
          have z2 : (0 : Int) ≤ ((L1.length + 1 : Nat) : Int) := by omega
          simp only [go_sem,hw3,c1,c2,z1,z2,hlN,Int.toNat_natCast,num_get,num_get1,n1_s,n1_set,numsE_length,List.drop_one,List.tail_cons,List.length_set]
          rw [hshape2, hlast]
          refine Cl.here ⟨⟨t + 1, by omega, rfl, rfl⟩, ?_⟩
          simp only [go_sem]
          omega
        · obtain rfl : t = p := by omega
          refine Cl.here ⟨rfl, _, perm_ins, hS, rfl⟩

/-- one element behind a range -/
theorem merge_right (R P X Q : List Int) (y : Int) (hX0 : 2 ≤ X.length) (N : Nat) (hN : (P ++ X ++ y :: Q).length = N) (hl : N ≤ 1000000) (hX : X.Pairwise (lx R)) (hxy : ∀ x ∈ X, x < y) (hy : 0 ≤ y ∧ y < R.length) (hr : ∀ z ∈ X, 0 ≤ z ∧ z < R.length) :
    AFn Tryz.prog 104 [.own 0 N 0 N, .int .i64 P.length, .int .i64 ((P.length + X.length : Nat) : Int), .int .i64 ((P.length + X.length + 1 : Nat) : Int), .fn 77 [.ref 1 1 0 0]] [.live 3 1 (numsE .i64 (P ++ X ++ y :: Q)), rRow R]
      (fun v rs => v = .tup [] ∧ ∃ S : List Int, S.Perm (y :: X) ∧ S.Pairwise (lx R) ∧ rs = [.live 3 1 (numsE .i64 (P ++ S ++ Q)), rRow R]) := by
  refine afn Tryz.func104 a104_ok (by simp [a104]) ?_
  have hlen : P.length + X.length + 1 + Q.length = N := by rw [← hN]; simp only [List.length_append, List.length_cons]; omega
  have hw1 : (IntKind.i64.wrap (((P.length + X.length : Nat) : Int) - (P.length : Int)) == 1) = false := by rw [wrap_i64 (by omega) (by omega)]; exact beq_eq_false_iff_ne.2 (by omega)
  have hw2 : IntKind.i64.wrap (((P.length + X.length + 1 : Nat) : Int) - ((P.length + X.length : Nat) : Int)) = 1 := by rw [wrap_i64 (by omega) (by omega)]; omega
  simp only [go_sem,a104,a104r0,a104r1,a104r2,a104r3,a104r4,a104r5,a104r6,a104r7,a104r8,a104r9,a104r10,a104r11,a104r12,a104r13,a104r14,a104r15,a104r16,a104r17,a104r18,a104r19,a104r20,a104r21,a104r22,a104r23,a104r24,a104r25,a104r26,a104r27,a104r28,a104r29,a104r30,a104r31,a104r32,a104r33,a104r34,a104r35,a104r36,a104r37,a104r38,a104r39,a104r40,a104r41,a104r42,a104r43,a104r44,hw1,hw2]
  refine avc_loop (fun env rows => ∃ (p q : Nat), p ≤ q ∧ q ≤ X.length ∧ (∀ k (h : k < X.length), k < p → ¬ rst R X[k] < rst R y) ∧ (∀ k (h : k < X.length), q ≤ k → rst R X[k] < rst R y) ∧
      env = [(0, .own 0 N 0 N), (2, .int .i64 ((P.length + X.length : Nat) : Int)), (4, .fn 77 [.ref 1 1 0 0]), (14, .int .i64 ((P.length + p : Nat) : Int)), (15, .int .i64 ((P.length + q : Nat) : Int))] ∧ rows = [.live 3 1 (numsE .i64 (P ++ X ++ y :: Q)), rRow R])
    (fun env _ => match slot env 14, slot env 15 with | .int _ i, .int _ j => (j - i).toNat | _, _ => 0) ?_ ?_
  · exact Cl.here ⟨0, X.length, by omega, by omega, fun k _ h => by omega, fun k h1 h2 => by omega, rfl, rfl⟩
  · rintro env rows ⟨p, q, hpq, hq, h1, h2, rfl, rfl⟩
    simp only [go_sem,a104,a104r0,a104r1,a104r2,a104r3,a104r4,a104r5,a104r6,a104r7,a104r8,a104r9,a104r10,a104r11,a104r12,a104r13,a104r14,a104r15,a104r16,a104r17,a104r18,a104r19,a104r20,a104r21,a104r22,a104r23,a104r24,a104r25,a104r26,a104r27,a104r28,a104r29,a104r30,a104r31,a104r32,a104r33,a104r34,a104r35,a104r36,a104r37,a104r38,a104r39,a104r40,a104r41,a104r42,a104r43,a104r44]
    refine condC_intro ?_ ?_ <;> intro hg <;> simp only [decide_eq_true_eq,decide_eq_false_iff_not,beq_iff_eq,beq_eq_false_iff_ne,bne_iff_ne,bne_eq_false_iff_eq,Bool.not_eq_true',Bool.not_eq_false',Int.not_lt,Int.not_le,ne_eq,Bool.and_eq_true,Bool.or_eq_true,Bool.or_eq_false_iff,Bool.and_eq_false_iff] at hg <;> simp only [go_sem,a104,a104r0,a104r1,a104r2,a104r3,a104r4,a104r5,a104r6,a104r7,a104r8,a104r9,a104r10,a104r11,a104r12,a104r13,a104r14,a104r15,a104r16,a104r17,a104r18,a104r19,a104r20,a104r21,a104r22,a104r23,a104r24,a104r25,a104r26,a104r27,a104r28,a104r29,a104r30,a104r31,a104r32,a104r33,a104r34,a104r35,a104r36,a104r37,a104r38,a104r39,a104r40,a104r41,a104r42,a104r43,a104r44]
    · have hc : (P.length + p + (P.length + q)) / 2 = P.length + (p + q) / 2 := by omega
      have hh := half_ok (i := P.length + p) (j := P.length + q) (by omega)
      rw [hc] at hh
      have hcX : (p + q) / 2 < X.length := by omega
      have hcp : p ≤ (p + q) / 2 := by omega
      have hcq : (p + q) / 2 < q := by omega
      generalize (p + q) / 2 = c at hh hcX hcp hcq
      have hgy : (numsE .i64 (P ++ X ++ y :: Q)).getD (P.length + X.length) [] = [.int .i64 y] := by
        have := num_get (P := P ++ X) (x := y) (Q := Q)
        rwa [List.length_append] at this
      have hgx : (numsE .i64 (P ++ X ++ y :: Q)).getD (P.length + c) [] = [.int .i64 X[c]] := by
        rw [numsE_getD (by omega), List.getD_eq_getElem?_getD, List.append_assoc, List.getElem?_append_right (by omega), show P.length + c - P.length = c by omega, List.getElem?_append_left hcX, List.getElem?_eq_getElem hcX]; rfl
      have b1 : ((P.length + X.length : Nat) : Int) < N := by omega
      have b2 : ((P.length + c : Nat) : Int) < N := by omega
      have z1 : (0 : Int) ≤ ((P.length + X.length : Nat) : Int) := by omega
      have z2 : (0 : Int) ≤ ((P.length + c : Nat) : Int) := by omega
      have hxr := hr _ (List.getElem_mem hcX)
      have hXp := List.pairwise_iff_getElem.1 hX
      have hless := less_ok R y X[c] hy.1 hy.2 hxr.1 hxr.2
      simp only [go_sem,hh,b1,b2,z1,z2,hN,Int.toNat_natCast,hgx,hgy]
      refine ⟨⟨_, Tryz.func77, by kernel_rfl⟩, ?_⟩
      (refine callD_of [1] [] (by simp only [go_sem]) (by decide) (by simp only [go_sem] <;> rfl) (by simp only [go_sem] <;> rfl) (hless) ?_; rintro _ _ ⟨rfl,rfl⟩; refine ⟨.inl rfl,?_⟩; simp only [go_sem])
      by_cases hyx : rst R X[c] < rst R y
      · have hcm : cmpI (rst R X[c]) (rst R y) < 0 := cmpI_neg.2 hyx
        simp only [go_sem,hcm,ren_rRow,a104,a104r0,a104r1,a104r2,a104r3,a104r4,a104r5,a104r6,a104r7,a104r8,a104r9,a104r10,a104r11,a104r12,a104r13,a104r14,a104r15,a104r16,a104r17,a104r18,a104r19,a104r20,a104r21,a104r22,a104r23,a104r24,a104r25,a104r26,a104r27,a104r28,a104r29,a104r30,a104r31,a104r32,a104r33,a104r34,a104r35,a104r36,a104r37,a104r38,a104r39,a104r40,a104r41,a104r42,a104r43,a104r44]
        refine Cl.here ⟨⟨p, c, hcp, by omega, h1, fun k hk hkc => ?_, rfl, rfl⟩, ?_⟩
        · rcases Nat.lt_or_ge c k with h3 | h3
          · have := lx_rst (hXp c k hcX hk h3); omega
          · obtain rfl : k = c := by omega
            exact hyx
        · simp only [go_sem]
          omega
      · have hcm : ¬ cmpI (rst R X[c]) (rst R y) < 0 := fun h => hyx (cmpI_neg.1 h)
        have hwc : IntKind.i64.wrap (((P.length + c : Nat) : Int) + 1) = ((P.length + (c + 1) : Nat) : Int) := by rw [wrap_i64 (by omega) (by omega)]; omega
        simp only [go_sem,hcm,hwc,ren_rRow,a104,a104r0,a104r1,a104r2,a104r3,a104r4,a104r5,a104r6,a104r7,a104r8,a104r9,a104r10,a104r11,a104r12,a104r13,a104r14,a104r15,a104r16,a104r17,a104r18,a104r19,a104r20,a104r21,a104r22,a104r23,a104r24,a104r25,a104r26,a104r27,a104r28,a104r29,a104r30,a104r31,a104r32,a104r33,a104r34,a104r35,a104r36,a104r37,a104r38,a104r39,a104r40,a104r41,a104r42,a104r43,a104r44]
        refine Cl.here ⟨⟨c + 1, q, by omega, hq, fun k hk hkc => ?_, h2, rfl, rfl⟩, ?_⟩
        · rcases Nat.lt_or_ge k c with h3 | h3
          · have := lx_rst (hXp k c hk hcX h3); omega
          · obtain rfl : k = c := by omega
            exact hyx
        · simp only [go_sem]
          omega
    · obtain rfl : p = q := by omega
      have hS := sorted_ins (p := p) hX (fun k hk hkp => lx_of' (h1 k hk hkp) (hxy _ (List.getElem_mem hk))) (fun k hk hkp => lx_of (h2 k hk hkp))
      refine avc_loop (fun env rows => ∃ (t : Nat), p ≤ t ∧ t ≤ X.length ∧ env = [(0, .own 0 N 0 N), (14, .int .i64 ((P.length + p : Nat) : Int)), (17, .int .i64 ((P.length + t : Nat) : Int))] ∧ rows = [.live 3 1 (numsE .i64 (P ++ (X.take t ++ y :: X.drop t) ++ Q)), rRow R])
        (fun env _ => match slot env 17 with | .int _ k => k.toNat | _ => 0) ?_ ?_
      · exact Cl.here ⟨X.length, by omega, by omega, rfl, by simp⟩
      · rintro env rows ⟨t, hpt, ht, rfl, rfl⟩
        simp only [go_sem,a104,a104r0,a104r1,a104r2,a104r3,a104r4,a104r5,a104r6,a104r7,a104r8,a104r9,a104r10,a104r11,a104r12,a104r13,a104r14,a104r15,a104r16,a104r17,a104r18,a104r19,a104r20,a104r21,a104r22,a104r23,a104r24,a104r25,a104r26,a104r27,a104r28,a104r29,a104r30,a104r31,a104r32,a104r33,a104r34,a104r35,a104r36,a104r37,a104r38,a104r39,a104r40,a104r41,a104r42,a104r43,a104r44]
        refine condC_intro ?_ ?_ <;> intro hg2 <;> simp only [decide_eq_true_eq,decide_eq_false_iff_not,beq_iff_eq,beq_eq_false_iff_ne,bne_iff_ne,bne_eq_false_iff_eq,Bool.not_eq_true',Bool.not_eq_false',Int.not_lt,Int.not_le,ne_eq,Bool.and_eq_true,Bool.or_eq_true,Bool.or_eq_false_iff,Bool.and_eq_false_iff] at hg2 <;> simp only [go_sem,a104,a104r0,a104r1,a104r2,a104r3,a104r4,a104r5,a104r6,a104r7,a104r8,a104r9,a104r10,a104r11,a104r12,a104r13,a104r14,a104r15,a104r16,a104r17,a104r18,a104r19,a104r20,a104r21,a104r22,a104r23,a104r24,a104r25,a104r26,a104r27,a104r28,a104r29,a104r30,a104r31,a104r32,a104r33,a104r34,a104r35,a104r36,a104r37,a104r38,a104r39,a104r40,a104r41,a104r42,a104r43,a104r44]
        · obtain ⟨t, rfl⟩ : ∃ t', t = t' + 1 := ⟨t - 1, by omega⟩
          have htX : t < X.length := by omega
          have hXt : X.drop t = X[t] :: X.drop (t + 1) := List.drop_eq_getElem_cons htX
          have hXt2 : X.take (t + 1) = X.take t ++ [X[t]] := List.take_succ_eq_append_getElem htX
          generalize X[t] = x at hXt hXt2
          have hshape : P ++ (X.take (t + 1) ++ y :: X.drop (t + 1)) ++ Q = (P ++ X.take t) ++ x :: y :: (X.drop (t + 1) ++ Q) := by rw [hXt2]; simp
          have hshape2 : (P ++ X.take t) ++ y :: x :: (X.drop (t + 1) ++ Q) = P ++ (X.take t ++ y :: X.drop t) ++ Q := by rw [hXt]; simp
          have hLl : (P ++ X.take t).length = P.length + t := by rw [List.length_append, List.length_take]; omega
          have hlN : ((P ++ X.take t) ++ x :: y :: (X.drop (t + 1) ++ Q)).length = N := by rw [← hshape]; simp only [List.length_append, List.length_cons, List.length_take, List.length_drop]; omega
          have hk1 : P.length + (t + 1) = (P ++ X.take t).length + 1 := by omega
          rw [hshape, hk1]
          generalize P ++ X.take t = L1 at hshape2 hLl hlN hk1 ⊢
          generalize X.drop (t + 1) ++ Q = L3 at hshape2 hlN ⊢
          have hw3 : IntKind.i64.wrap (((L1.length + 1 : Nat) : Int) - 1) = (L1.length : Int) := by rw [wrap_i64 (by omega) (by omega)]; omega
          have c1 : (L1.length : Int) < N := by omega
          have c2 : ((L1.length + 1 : Nat) : Int) < N := by omega
          have z1 : (0 : Int) ≤ (L1.length : Int) := by omega
          have z2 : (0 : Int) ≤ ((L1.length + 1 : Nat) : Int) := by omega
          simp only [go_sem,hw3,c1,c2,z1,z2,hlN,Int.toNat_natCast,num_get,num_get1,num_getS,num_swap,numsE_length,List.drop_one,List.tail_cons,List.length_set]
          rw [hshape2, hLl]
          refine Cl.here ⟨⟨t, by omega, by omega, rfl, rfl⟩, ?_⟩
          simp only [go_sem]
          omega
        · obtain rfl : t = p := by omega
          refine Cl.here ⟨rfl, _, perm_ins, hS, rfl⟩

end Go.Proofs.YtlanehcihoiglaaGreatDoor
