/- slices.SortStableFunc: two ascending ranges merged in place, in general; the sort of at most 31 elements. -/
import Derived.Test.YtlanehcihoiglaaGreatDoorE7Sym2
import Derived.Test.YtlanehcihoiglaaGreatDoorAbs41
set_option linter.unusedSimpArgs false
set_option linter.unusedVariables false
set_option linter.unusedSectionVars false
namespace Go.Proofs.YtlanehcihoiglaaGreatDoor
open Go Go.Abs
set_option linter.unusedSimpArgs false
set_option linter.unusedVariables false

def LoOk (R X Y : List Int) (h u : Nat) : Prop := u = h - Y.length ∨ ∃ (a : u - 1 < X.length) (b : h - u < Y.length), 0 < u ∧ ¬ rst R X[u - 1] < rst R Y[h - u]
def HiOk (R X Y : List Int) (h u : Nat) : Prop := u = min X.length h ∨ ∃ (a : u < X.length) (b : h - 1 - u < Y.length), rst R X[u] < rst R Y[h - 1 - u]
theorem parts_sorted {R : List Int} {X Y : List Int} {u h : Nat} (hX : X.Pairwise (lx R)) (hY : Y.Pairwise (lx R)) (hxy : ∀ x ∈ X, ∀ y ∈ Y, x < y) (hu : u ≤ X.length) (huh : u ≤ h) (hhY : h - u ≤ Y.length)
    (h1 : LoOk R X Y h u) (h2 : HiOk R X Y h u) :
    ∀ p ∈ X.take u ++ Y.take (h - u), ∀ q ∈ X.drop u ++ Y.drop (h - u), lx R p q := by
  have hXp := List.pairwise_iff_getElem.1 hX
  have hYp := List.pairwise_iff_getElem.1 hY
  unfold LoOk at h1
  unfold HiOk at h2
  intro p hp q hq
  rcases List.mem_append.1 hp with hp | hp <;> rcases List.mem_append.1 hq with hq | hq
  · have := hX
    rw [← List.take_append_drop u X, List.pairwise_append] at this
    exact this.2.2 _ hp _ hq
  · obtain ⟨i, hi, rfl⟩ := List.mem_iff_getElem.1 hp
    obtain ⟨j, hj, rfl⟩ := List.mem_iff_getElem.1 hq
    rw [List.length_take] at hi
    rw [List.length_drop] at hj
    rw [List.getElem_take, List.getElem_drop]
    rcases h1 with h1 | ⟨a, b, hu0, hb⟩
    · omega
    · refine lx_of' (fun hlt => hb ?_) (hxy _ (List.getElem_mem _) _ (List.getElem_mem _))
      have e1 : rst R X[u - 1] ≤ rst R (X[i]'(by omega)) := by
        rcases Nat.lt_or_ge i (u - 1) with h3 | h3
        · exact lx_rst (hXp i (u - 1) (by omega) (by omega) h3)
        · have : i = u - 1 := by omega
          subst this; exact Int.le_refl _
      have e2 : rst R (Y[h - u + j]'(by omega)) ≤ rst R Y[h - u] := by
        rcases Nat.eq_zero_or_pos j with h3 | h3
        · subst h3; exact Int.le_refl _
        · exact lx_rst (hYp (h - u) (h - u + j) (by omega) (by omega) (by omega))
      omega
  · obtain ⟨i, hi, rfl⟩ := List.mem_iff_getElem.1 hp
    obtain ⟨j, hj, rfl⟩ := List.mem_iff_getElem.1 hq
    rw [List.length_take] at hi
    rw [List.length_drop] at hj
    rw [List.getElem_take, List.getElem_drop]
    rcases h2 with h2 | ⟨a, b, hb⟩
    · omega
    · refine lx_of ?_
      have e1 : rst R (X[u + j]'(by omega)) ≤ rst R X[u] := by
        rcases Nat.eq_zero_or_pos j with h3 | h3
        · subst h3; exact Int.le_refl _
        · exact lx_rst (hXp u (u + j) (by omega) (by omega) (by omega))
      have hi2 : i < h - u := (Nat.lt_min.1 hi).1
      have hi3 : i < Y.length := (Nat.lt_min.1 hi).2
      have e2 : rst R Y[h - 1 - u] ≤ rst R (Y[i]'hi3) := by
        have hc : i < h - 1 - u ∨ i = h - 1 - u := by clear e1 hb hq hp h1 hhY hi; omega
        rcases hc with h3 | h3
        · exact lx_rst (hYp i (h - 1 - u) hi3 b h3)
        · subst h3; exact Int.le_refl _
      omega
  · have := hY
    rw [← List.take_append_drop (h - u) Y, List.pairwise_append] at this
    exact this.2.2 _ hp _ hq

def SMok (R : List Int) (n : Nat) : Prop := ∀ (P X Y Q : List Int) (N : Nat), X.length + Y.length < n → 0 < X.length → 0 < Y.length → (P ++ X ++ Y ++ Q).length = N → N ≤ 1000000 → X.Pairwise (lx R) → Y.Pairwise (lx R) → (∀ x ∈ X, ∀ y ∈ Y, x < y) → (∀ z ∈ X, 0 ≤ z ∧ z < R.length) → (∀ z ∈ Y, 0 ≤ z ∧ z < R.length) →
    AFn Tryz.prog 104 [.own 0 N 0 N, .int .i64 P.length, .int .i64 ((P.length + X.length : Nat) : Int), .int .i64 ((P.length + X.length + Y.length : Nat) : Int), .fn 77 [.ref 1 1 0 0]] [.live 3 1 (numsE .i64 (P ++ X ++ Y ++ Q)), rRow R]
      (fun v rs => v = .tup [] ∧ ∃ S : List Int, S.Perm (X ++ Y) ∧ S.Pairwise (lx R) ∧ rs = [.live 3 1 (numsE .i64 (P ++ S ++ Q)), rRow R])

set_option maxHeartbeats 4000000 in
theorem merge_many (R : List Int) (n : Nat) (IH : SMok R n) (P X Y Q : List Int) (N : Nat) (hn : X.length + Y.length ≤ n) (hX0 : 2 ≤ X.length) (hY0 : 2 ≤ Y.length) (hN : (P ++ X ++ Y ++ Q).length = N) (hl : N ≤ 1000000) (hX : X.Pairwise (lx R)) (hY : Y.Pairwise (lx R)) (hxy : ∀ x ∈ X, ∀ y ∈ Y, x < y) (hrX : ∀ z ∈ X, 0 ≤ z ∧ z < R.length) (hrY : ∀ z ∈ Y, 0 ≤ z ∧ z < R.length) :
    AFn Tryz.prog 104 [.own 0 N 0 N, .int .i64 P.length, .int .i64 ((P.length + X.length : Nat) : Int), .int .i64 ((P.length + X.length + Y.length : Nat) : Int), .fn 77 [.ref 1 1 0 0]] [.live 3 1 (numsE .i64 (P ++ X ++ Y ++ Q)), rRow R]
      (fun v rs => v = .tup [] ∧ ∃ S : List Int, S.Perm (X ++ Y) ∧ S.Pairwise (lx R) ∧ rs = [.live 3 1 (numsE .i64 (P ++ S ++ Q)), rRow R]) := by
  refine afn Tryz.func104 a104_ok (by simp [a104]) ?_
  have hlen : P.length + X.length + Y.length + Q.length = N := by rw [← hN]; simp only [List.length_append]
  have hw1 : (IntKind.i64.wrap (((P.length + X.length : Nat) : Int) - (P.length : Int)) == 1) = false := by rw [wrap_i64 (by omega) (by omega)]; exact beq_eq_false_iff_ne.2 (by omega)
  have hw2 : (IntKind.i64.wrap (((P.length + X.length + Y.length : Nat) : Int) - ((P.length + X.length : Nat) : Int)) == 1) = false := by rw [wrap_i64 (by omega) (by omega)]; exact beq_eq_false_iff_ne.2 (by omega)
  obtain ⟨h, hh⟩ : ∃ h, h = (X.length + Y.length) / 2 := ⟨_, rfl⟩
  have hmid := half_ok (i := P.length) (j := P.length + X.length + Y.length) (by omega)
  rw [show (P.length + (P.length + X.length + Y.length)) / 2 = P.length + h by omega] at hmid
  have hw3 : IntKind.i64.wrap (((P.length + h : Nat) : Int) + ((P.length + X.length : Nat) : Int)) = ((P.length + h + (P.length + X.length) : Nat) : Int) := by rw [wrap_i64 (by omega) (by omega)]; omega
  simp only [go_sem,a104,a104r0,a104r1,a104r2,a104r3,a104r4,a104r5,a104r6,a104r7,a104r8,a104r9,a104r10,a104r11,a104r12,a104r13,a104r14,a104r15,a104r16,a104r17,a104r18,a104r19,a104r20,a104r21,a104r22,a104r23,a104r24,a104r25,a104r26,a104r27,a104r28,a104r29,a104r30,a104r31,a104r32,a104r33,a104r34,a104r35,a104r36,a104r37,a104r38,a104r39,a104r40,a104r41,a104r42,a104r43,a104r44,hw1,hw2,hmid,hw3]
  refine condC_cut (fun env rows => slot env 0 = .own 0 N 0 N ∧ slot env 1 = .int .i64 P.length ∧ slot env 2 = .int .i64 ((P.length + X.length : Nat) : Int) ∧ slot env 3 = .int .i64 ((P.length + X.length + Y.length : Nat) : Int) ∧ slot env 4 = .fn 77 [.ref 1 1 0 0] ∧ slot env 18 = .int .i64 ((P.length + h : Nat) : Int) ∧ slot env 19 = .int .i64 ((P.length + h + (P.length + X.length) : Nat) : Int) ∧ slot env 20 = .int .i64 ((P.length + (h - Y.length) : Nat) : Int) ∧ slot env 21 = .int .i64 ((P.length + min X.length h : Nat) : Int) ∧ rows = [.live 3 1 (numsE .i64 (P ++ X ++ Y ++ Q)), rRow R]) ?_ ?_ ?_
  · intro hc
    have hc := of_decide_eq_true hc
    have hw4 : IntKind.i64.wrap (((P.length + h + (P.length + X.length) : Nat) : Int) - ((P.length + X.length + Y.length : Nat) : Int)) = ((P.length + (h - Y.length) : Nat) : Int) := by rw [wrap_i64 (by omega) (by omega)]; omega
    have hmn : min X.length h = h := by omega
    simp only [go_sem,a104,a104r0,a104r1,a104r2,a104r3,a104r4,a104r5,a104r6,a104r7,a104r8,a104r9,a104r10,a104r11,a104r12,a104r13,a104r14,a104r15,a104r16,a104r17,a104r18,a104r19,a104r20,a104r21,a104r22,a104r23,a104r24,a104r25,a104r26,a104r27,a104r28,a104r29,a104r30,a104r31,a104r32,a104r33,a104r34,a104r35,a104r36,a104r37,a104r38,a104r39,a104r40,a104r41,a104r42,a104r43,a104r44,hw4,hmn]
  · intro hc
    have hc := of_decide_eq_false hc
    have hmn : min X.length h = X.length := by omega
    have hz : h - Y.length = 0 := by omega
    simp only [go_sem,a104,a104r0,a104r1,a104r2,a104r3,a104r4,a104r5,a104r6,a104r7,a104r8,a104r9,a104r10,a104r11,a104r12,a104r13,a104r14,a104r15,a104r16,a104r17,a104r18,a104r19,a104r20,a104r21,a104r22,a104r23,a104r24,a104r25,a104r26,a104r27,a104r28,a104r29,a104r30,a104r31,a104r32,a104r33,a104r34,a104r35,a104r36,a104r37,a104r38,a104r39,a104r40,a104r41,a104r42,a104r43,a104r44,hmn,hz]
  · rintro env _ ⟨s0, s1, s2, s3, s4, s18, s19, s20, s21, rfl⟩
    have hw5 : IntKind.i64.wrap (((P.length + h + (P.length + X.length) : Nat) : Int) - 1) = ((P.length + h + (P.length + X.length) - 1 : Nat) : Int) := by rw [wrap_i64 (by omega) (by omega)]; omega
    simp only [go_sem,a104,a104r0,a104r1,a104r2,a104r3,a104r4,a104r5,a104r6,a104r7,a104r8,a104r9,a104r10,a104r11,a104r12,a104r13,a104r14,a104r15,a104r16,a104r17,a104r18,a104r19,a104r20,a104r21,a104r22,a104r23,a104r24,a104r25,a104r26,a104r27,a104r28,a104r29,a104r30,a104r31,a104r32,a104r33,a104r34,a104r35,a104r36,a104r37,a104r38,a104r39,a104r40,a104r41,a104r42,a104r43,a104r44,s0,s1,s2,s3,s4,s18,s19,s20,s21,hw5]
    clear s0 s1 s2 s3 s4 s18 s19 s20 s21 env
    refine avc_loop (fun env rows => ∃ (u w : Nat), h - Y.length ≤ u ∧ u ≤ w ∧ w ≤ min X.length h ∧ LoOk R X Y h u ∧ HiOk R X Y h w ∧
        env = [(0, .own 0 N 0 N), (1, .int .i64 P.length), (2, .int .i64 ((P.length + X.length : Nat) : Int)), (3, .int .i64 ((P.length + X.length + Y.length : Nat) : Int)), (4, .fn 77 [.ref 1 1 0 0]), (18, .int .i64 ((P.length + h : Nat) : Int)), (19, .int .i64 ((P.length + h + (P.length + X.length) : Nat) : Int)), (20, .int .i64 ((P.length + u : Nat) : Int)), (21, .int .i64 ((P.length + w : Nat) : Int)), (22, .int .i64 ((P.length + h + (P.length + X.length) - 1 : Nat) : Int))] ∧
        rows = [.live 3 1 (numsE .i64 (P ++ X ++ Y ++ Q)), rRow R])
      (fun env _ => match slot env 20, slot env 21 with | .int _ i, .int _ j => (j - i).toNat | _, _ => 0) ?_ ?_
    · exact Cl.here ⟨h - Y.length, min X.length h, Nat.le_refl _, by omega, Nat.le_refl _, .inl rfl, .inl rfl, rfl, rfl⟩
    · rintro env rows ⟨u, w, hu0, huw, hw0, h1, h2, rfl, rfl⟩
      simp only [go_sem,a104,a104r0,a104r1,a104r2,a104r3,a104r4,a104r5,a104r6,a104r7,a104r8,a104r9,a104r10,a104r11,a104r12,a104r13,a104r14,a104r15,a104r16,a104r17,a104r18,a104r19,a104r20,a104r21,a104r22,a104r23,a104r24,a104r25,a104r26,a104r27,a104r28,a104r29,a104r30,a104r31,a104r32,a104r33,a104r34,a104r35,a104r36,a104r37,a104r38,a104r39,a104r40,a104r41,a104r42,a104r43,a104r44]
      refine condC_intro ?_ ?_ <;> intro hg <;> simp only [decide_eq_true_eq, decide_eq_false_iff_not, beq_iff_eq, beq_eq_false_iff_ne, bne_iff_ne, bne_eq_false_iff_eq, Bool.not_eq_true', Bool.not_eq_false', Int.not_lt, Int.not_le, ne_eq, Bool.and_eq_true, Bool.or_eq_true, Bool.or_eq_false_iff, Bool.and_eq_false_iff] at hg
      · simp only [go_sem,a104,a104r0,a104r1,a104r2,a104r3,a104r4,a104r5,a104r6,a104r7,a104r8,a104r9,a104r10,a104r11,a104r12,a104r13,a104r14,a104r15,a104r16,a104r17,a104r18,a104r19,a104r20,a104r21,a104r22,a104r23,a104r24,a104r25,a104r26,a104r27,a104r28,a104r29,a104r30,a104r31,a104r32,a104r33,a104r34,a104r35,a104r36,a104r37,a104r38,a104r39,a104r40,a104r41,a104r42,a104r43,a104r44]
        have hc : (P.length + u + (P.length + w)) / 2 = P.length + (u + w) / 2 := by omega
        have hhf := half_ok (i := P.length + u) (j := P.length + w) (by omega)
        rw [hc] at hhf
        have hcu : u ≤ (u + w) / 2 := by omega
        have hcw : (u + w) / 2 < w := by omega
        generalize (u + w) / 2 = c at hhf hcu hcw
        have hcX : c < X.length := by omega
        have hcY : h - 1 - c < Y.length := by omega
        have hw6 : IntKind.i64.wrap (((P.length + h + (P.length + X.length) - 1 : Nat) : Int) - ((P.length + c : Nat) : Int)) = ((P.length + X.length + (h - 1 - c) : Nat) : Int) := by rw [wrap_i64 (by omega) (by omega)]; omega
        have hgx : (numsE .i64 (P ++ X ++ Y ++ Q)).getD (P.length + c) [] = [.int .i64 X[c]] := by
          rw [numsE_getD (by omega), List.getD_eq_getElem?_getD, List.append_assoc, List.append_assoc, List.getElem?_append_right (by omega), show P.length + c - P.length = c by omega, List.getElem?_append_left hcX, List.getElem?_eq_getElem hcX]; rfl
        have hgy : (numsE .i64 (P ++ X ++ Y ++ Q)).getD (P.length + X.length + (h - 1 - c)) [] = [.int .i64 Y[h - 1 - c]] := by
          rw [numsE_getD (by omega), List.getD_eq_getElem?_getD, List.append_assoc, List.getElem?_append_right (by rw [List.length_append]; omega), List.length_append, show P.length + X.length + (h - 1 - c) - (P.length + X.length) = h - 1 - c by omega, List.getElem?_append_left hcY, List.getElem?_eq_getElem hcY]; rfl
        have b1 : ((P.length + c : Nat) : Int) < N := by omega
        have b2 : ((P.length + X.length + (h - 1 - c) : Nat) : Int) < N := by omega
        have z1 : (0 : Int) ≤ ((P.length + c : Nat) : Int) := by omega
        have z2 : (0 : Int) ≤ ((P.length + X.length + (h - 1 - c) : Nat) : Int) := by omega
        have hxr := hrX _ (List.getElem_mem hcX)
        have hyr := hrY _ (List.getElem_mem hcY)
        have hless := less_ok R Y[h - 1 - c] X[c] hyr.1 hyr.2 hxr.1 hxr.2
        simp only [go_sem,hhf,hw6,b1,b2,z1,z2,hN,Int.toNat_natCast,hgx,hgy]
        refine ⟨⟨_, Tryz.func77, by kernel_rfl⟩, ?_⟩
        (refine callD_of [1] [] (by simp only [go_sem]) (by decide) (by simp only [go_sem] <;> rfl) (by simp only [go_sem] <;> rfl) (hless) ?_; rintro _ _ ⟨rfl,rfl⟩; refine ⟨.inl rfl,?_⟩; simp only [go_sem])
        by_cases hyx : rst R X[c] < rst R Y[h - 1 - c]
        · have hcm : cmpI (rst R X[c]) (rst R Y[h - 1 - c]) < 0 := cmpI_neg.2 hyx
          simp only [go_sem,hcm,ren_rRow,a104,a104r0,a104r1,a104r2,a104r3,a104r4,a104r5,a104r6,a104r7,a104r8,a104r9,a104r10,a104r11,a104r12,a104r13,a104r14,a104r15,a104r16,a104r17,a104r18,a104r19,a104r20,a104r21,a104r22,a104r23,a104r24,a104r25,a104r26,a104r27,a104r28,a104r29,a104r30,a104r31,a104r32,a104r33,a104r34,a104r35,a104r36,a104r37,a104r38,a104r39,a104r40,a104r41,a104r42,a104r43,a104r44]
          refine Cl.here ⟨⟨u, c, hu0, hcu, by omega, h1, .inr ⟨hcX, hcY, hyx⟩, rfl, rfl⟩, ?_⟩
          simp only [go_sem]
          omega
        · have hcm : ¬ cmpI (rst R X[c]) (rst R Y[h - 1 - c]) < 0 := fun h => hyx (cmpI_neg.1 h)
          have hwc : IntKind.i64.wrap (((P.length + c : Nat) : Int) + 1) = ((P.length + (c + 1) : Nat) : Int) := by rw [wrap_i64 (by omega) (by omega)]; omega
          simp only [go_sem,hcm,hwc,ren_rRow,a104,a104r0,a104r1,a104r2,a104r3,a104r4,a104r5,a104r6,a104r7,a104r8,a104r9,a104r10,a104r11,a104r12,a104r13,a104r14,a104r15,a104r16,a104r17,a104r18,a104r19,a104r20,a104r21,a104r22,a104r23,a104r24,a104r25,a104r26,a104r27,a104r28,a104r29,a104r30,a104r31,a104r32,a104r33,a104r34,a104r35,a104r36,a104r37,a104r38,a104r39,a104r40,a104r41,a104r42,a104r43,a104r44]
          have he : h - (c + 1) = h - 1 - c := by omega
          refine Cl.here ⟨⟨c + 1, w, by omega, by omega, hw0, .inr ⟨by omega, by omega, by omega, ?_⟩, h2, rfl, rfl⟩, ?_⟩
          · simp only [Nat.add_sub_cancel, he]; exact hyx
          · simp only [go_sem]
            omega
      · obtain rfl : u = w := by omega
        have hps := parts_sorted hX hY hxy (by omega) (by omega) (by omega) h1 h2
        rw [avc_exit]
        dsimp only
        rw [blockX_eq, if_pos rfl]
        dsimp only
        have hw7 : IntKind.i64.wrap (((P.length + h + (P.length + X.length) : Nat) : Int) - ((P.length + u : Nat) : Int)) = ((P.length + X.length + (h - u) : Nat) : Int) := by rw [wrap_i64 (by omega) (by omega)]; omega
        have hX12 : X = X.take u ++ X.drop u := (List.take_append_drop _ _).symm
        have hY12 : Y = Y.take (h - u) ++ Y.drop (h - u) := (List.take_append_drop _ _).symm
        have l1 : (X.take u).length = u := by rw [List.length_take]; omega
        have l2 : (X.drop u).length = X.length - u := by rw [List.length_drop]
        have l3 : (Y.take (h - u)).length = h - u := by rw [List.length_take]; omega
        have l4 : (Y.drop (h - u)).length = Y.length - (h - u) := by rw [List.length_drop]
        have p1 := hX
        have p2 := hY
        rw [hX12, List.pairwise_append] at p1
        rw [hY12, List.pairwise_append] at p2
        have huX : u ≤ X.length := by omega
        have huh : u ≤ h := by omega
        have hhY : h - u ≤ Y.length := by omega
        generalize X.take u = X1 at hX12 l1 p1 hps
        generalize X.drop u = X2 at hX12 l2 p1 hps
        generalize Y.take (h - u) = Y1 at hY12 l3 p2 hps
        generalize Y.drop (h - u) = Y2 at hY12 l4 p2 hps
        have m1 : ∀ z ∈ X1, z ∈ X := fun z hz => by rw [hX12]; simp [hz]
        have m2 : ∀ z ∈ X2, z ∈ X := fun z hz => by rw [hX12]; simp [hz]
        have m3 : ∀ z ∈ Y1, z ∈ Y := fun z hz => by rw [hY12]; simp [hz]
        have m4 : ∀ z ∈ Y2, z ∈ Y := fun z hz => by rw [hY12]; simp [hz]
        have hsh : P ++ X ++ Y ++ Q = P ++ X1 ++ X2 ++ Y1 ++ (Y2 ++ Q) := by rw [hX12, hY12]; simp
        refine avc_seq_cut (fun env rows => slot env 0 = .own 0 N 0 N ∧ slot env 1 = .int .i64 P.length ∧ slot env 2 = .int .i64 ((P.length + X.length : Nat) : Int) ∧ slot env 3 = .int .i64 ((P.length + X.length + Y.length : Nat) : Int) ∧ slot env 4 = .fn 77 [.ref 1 1 0 0] ∧ slot env 18 = .int .i64 ((P.length + h : Nat) : Int) ∧ slot env 20 = .int .i64 ((P.length + u : Nat) : Int) ∧ slot env 24 = .int .i64 ((P.length + X.length + (h - u) : Nat) : Int) ∧ rows = [.live 3 1 (numsE .i64 (P ++ X1 ++ X2 ++ Y1 ++ (Y2 ++ Q))), rRow R]) ?_ ?_
        · rw [hsh]
          simp only [go_sem,hw7]
        rintro env _ ⟨s0, s1, s2, s3, s4, s18, s20, s24, rfl⟩
        refine avc_seq_cut (fun env rows => slot env 0 = .own 0 N 0 N ∧ slot env 1 = .int .i64 P.length ∧ slot env 3 = .int .i64 ((P.length + X.length + Y.length : Nat) : Int) ∧ slot env 4 = .fn 77 [.ref 1 1 0 0] ∧ slot env 18 = .int .i64 ((P.length + h : Nat) : Int) ∧ slot env 20 = .int .i64 ((P.length + u : Nat) : Int) ∧ slot env 24 = .int .i64 ((P.length + X.length + (h - u) : Nat) : Int) ∧ rows = [.live 3 1 (numsE .i64 (P ++ X1 ++ Y1 ++ X2 ++ (Y2 ++ Q))), rRow R]) ?_ ?_
        · by_cases c1 : u < X.length
          · have c1' : ((P.length + u : Nat) : Int) < ((P.length + X.length : Nat) : Int) := by omega
            by_cases c2 : 0 < h - u
            · have c2' : ((P.length + X.length : Nat) : Int) < ((P.length + X.length + (h - u) : Nat) : Int) := by omega
              simp only [go_sem,s0,s1,s2,s3,s4,s18,s20,s24,c1',c2']
              have hR := rotate_ok R (P ++ X1) X2 Y1 (Y2 ++ Q) (by omega) (by omega) N (by rw [← hsh]; exact hN) hl
              rw [List.length_append, l1, l2, l3, show P.length + u + (X.length - u) = P.length + X.length by omega] at hR
              refine callC_of [0,1] [] (by decide) (by simp only [go_sem,bind_rRow] <;> rfl) (by simp only [go_sem] <;> rfl) hR ?_
              rintro _ _ ⟨rfl, rfl⟩
              refine ⟨.inl rfl, ?_⟩
              simp only [go_sem,s0,s1,s2,s3,s4,s18,s20,s24,ren_rRow]
            · have c2' : ¬ ((P.length + X.length : Nat) : Int) < ((P.length + X.length + (h - u) : Nat) : Int) := by omega
              obtain rfl : Y1 = [] := List.length_eq_zero_iff.1 (by omega)
              simp only [go_sem,s0,s1,s2,s3,s4,s18,s20,s24,c1',c2',List.append_nil]
          · have c1' : ¬ ((P.length + u : Nat) : Int) < ((P.length + X.length : Nat) : Int) := by omega
            obtain rfl : X2 = [] := List.length_eq_zero_iff.1 (by omega)
            simp only [go_sem,s0,s1,s2,s3,s4,s18,s20,s24,c1',List.append_nil]
        clear s0 s1 s2 s3 s4 s18 s20 s24 env
        rintro env _ ⟨s0, s1, s3, s4, s18, s20, s24, rfl⟩
        refine avc_seq_cut (fun env rows => ∃ S1 : List Int, S1.Perm (X1 ++ Y1) ∧ S1.Pairwise (lx R) ∧ slot env 0 = .own 0 N 0 N ∧ slot env 3 = .int .i64 ((P.length + X.length + Y.length : Nat) : Int) ∧ slot env 4 = .fn 77 [.ref 1 1 0 0] ∧ slot env 18 = .int .i64 ((P.length + h : Nat) : Int) ∧ slot env 24 = .int .i64 ((P.length + X.length + (h - u) : Nat) : Int) ∧ rows = [.live 3 1 (numsE .i64 (P ++ S1 ++ X2 ++ Y2 ++ Q)), rRow R]) ?_ ?_
        · have hsh2 : P ++ X1 ++ Y1 ++ X2 ++ (Y2 ++ Q) = P ++ X1 ++ Y1 ++ (X2 ++ Y2 ++ Q) := by simp
          have hsh3 : ∀ S : List Int, P ++ S ++ (X2 ++ Y2 ++ Q) = P ++ S ++ X2 ++ Y2 ++ Q := fun S => by simp
          by_cases c1 : 0 < u
          · have c1' : (P.length : Int) < ((P.length + u : Nat) : Int) := by omega
            by_cases c2 : u < h
            · have c2' : ((P.length + u : Nat) : Int) < ((P.length + h : Nat) : Int) := by omega
              simp only [go_sem,s0,s1,s3,s4,s18,s20,s24,c1',c2']
              have hI := IH P X1 Y1 (X2 ++ Y2 ++ Q) N (by omega) (by omega) (by omega) (by rw [← hN]; simp only [List.length_append]; omega) hl p1.1 p2.1 (fun x hx y hy => hxy x (m1 x hx) y (m3 y hy)) (fun z hz => hrX z (m1 z hz)) (fun z hz => hrY z (m3 z hz))
              rw [l1, l3, show P.length + u + (h - u) = P.length + h by omega] at hI
              rw [hsh2]
              refine callC_of [0,1] [] (by decide) (by simp only [go_sem,bind_rRow] <;> rfl) (by simp only [go_sem] <;> rfl) hI ?_
              rintro _ _ ⟨rfl, S1, hS1, hS1p, rfl⟩
              refine ⟨.inl rfl, ?_⟩
              simp only [go_sem,s0,s1,s3,s4,s18,s20,s24,ren_rRow]
              exact ⟨S1, hS1, hS1p, by rw [hsh3]⟩
            · have c2' : ¬ ((P.length + u : Nat) : Int) < ((P.length + h : Nat) : Int) := by omega
              obtain rfl : Y1 = [] := List.length_eq_zero_iff.1 (by omega)
              simp only [go_sem,s0,s1,s3,s4,s18,s20,s24,c1',c2']
              exact ⟨X1, by simp, p1.1, by simp⟩
          · have c1' : ¬ (P.length : Int) < ((P.length + u : Nat) : Int) := by omega
            obtain rfl : X1 = [] := List.length_eq_zero_iff.1 (by omega)
            simp only [go_sem,s0,s1,s3,s4,s18,s20,s24,c1']
            exact ⟨Y1, by simp, p2.1, by simp⟩
        clear s0 s1 s3 s4 s18 s20 s24 env
        rintro env _ ⟨S1, hS1, hS1p, s0, s3, s4, s18, s24, rfl⟩
        have hS1l : S1.length = h := by rw [hS1.length_eq, List.length_append]; omega
        have hfin : ∀ S2 : List Int, S2.Perm (X2 ++ Y2) → S2.Pairwise (lx R) → (S1 ++ S2).Perm (X ++ Y) ∧ (S1 ++ S2).Pairwise (lx R) := fun S2 hS2 hS2p => by
          refine ⟨?_, List.pairwise_append.2 ⟨hS1p, hS2p, fun a ha b hb => hps a (hS1.mem_iff.1 ha) b (hS2.mem_iff.1 hb)⟩⟩
          refine (hS1.append hS2).trans ?_
          rw [hX12, hY12]
          simp only [List.append_assoc]
          refine List.Perm.append_left _ ?_
          rw [← List.append_assoc, ← List.append_assoc]
          exact List.perm_append_comm.append_right _
        have hsh4 : ∀ S2 : List Int, P ++ S1 ++ S2 ++ Q = P ++ (S1 ++ S2) ++ Q := fun S2 => by simp
        by_cases c1 : u < X.length
        · have c1' : ((P.length + h : Nat) : Int) < ((P.length + X.length + (h - u) : Nat) : Int) := by omega
          by_cases c2 : h - u < Y.length
          · have c2' : ((P.length + X.length + (h - u) : Nat) : Int) < ((P.length + X.length + Y.length : Nat) : Int) := by omega
            simp only [go_sem,s0,s3,s4,s18,s24,c1',c2',a104,a104r0,a104r1,a104r2,a104r3,a104r4,a104r5,a104r6,a104r7,a104r8,a104r9,a104r10,a104r11,a104r12,a104r13,a104r14,a104r15,a104r16,a104r17,a104r18,a104r19,a104r20,a104r21,a104r22,a104r23,a104r24,a104r25,a104r26,a104r27,a104r28,a104r29,a104r30,a104r31,a104r32,a104r33,a104r34,a104r35,a104r36,a104r37,a104r38,a104r39,a104r40,a104r41,a104r42,a104r43,a104r44]
            have hI := IH (P ++ S1) X2 Y2 Q N (by omega) (by omega) (by omega) (by rw [← hN]; simp only [List.length_append]; omega) hl p1.2.1 p2.2.1 (fun x hx y hy => hxy x (m2 x hx) y (m4 y hy)) (fun z hz => hrX z (m2 z hz)) (fun z hz => hrY z (m4 z hz))
            rw [List.length_append, hS1l, l2, l4, show P.length + h + (X.length - u) = P.length + X.length + (h - u) by omega, show P.length + X.length + (h - u) + (Y.length - (h - u)) = P.length + X.length + Y.length by omega] at hI
            refine callC_of [0,1] [] (by decide) (by simp only [go_sem,bind_rRow] <;> rfl) (by simp only [go_sem] <;> rfl) hI ?_
            rintro _ _ ⟨rfl, S2, hS2, hS2p, rfl⟩
            refine ⟨.inl rfl, ?_⟩
            simp only [go_sem,s0,s3,s4,s18,s24,ren_rRow]
            exact Cl.here ⟨rfl, S1 ++ S2, (hfin S2 hS2 hS2p).1, (hfin S2 hS2 hS2p).2, by rw [hsh4]⟩
          · have c2' : ¬ ((P.length + X.length + (h - u) : Nat) : Int) < ((P.length + X.length + Y.length : Nat) : Int) := by omega
            obtain rfl : Y2 = [] := List.length_eq_zero_iff.1 (by omega)
            simp only [go_sem,s0,s3,s4,s18,s24,c1',c2',a104,a104r0,a104r1,a104r2,a104r3,a104r4,a104r5,a104r6,a104r7,a104r8,a104r9,a104r10,a104r11,a104r12,a104r13,a104r14,a104r15,a104r16,a104r17,a104r18,a104r19,a104r20,a104r21,a104r22,a104r23,a104r24,a104r25,a104r26,a104r27,a104r28,a104r29,a104r30,a104r31,a104r32,a104r33,a104r34,a104r35,a104r36,a104r37,a104r38,a104r39,a104r40,a104r41,a104r42,a104r43,a104r44]
            have hf := hfin X2 (by simp) p1.2.1
            exact Cl.here ⟨rfl, S1 ++ X2, hf.1, hf.2, by simp⟩
        · have c1' : ¬ ((P.length + h : Nat) : Int) < ((P.length + X.length + (h - u) : Nat) : Int) := by omega
          obtain rfl : X2 = [] := List.length_eq_zero_iff.1 (by omega)
          simp only [go_sem,s0,s3,s4,s18,s24,c1',a104,a104r0,a104r1,a104r2,a104r3,a104r4,a104r5,a104r6,a104r7,a104r8,a104r9,a104r10,a104r11,a104r12,a104r13,a104r14,a104r15,a104r16,a104r17,a104r18,a104r19,a104r20,a104r21,a104r22,a104r23,a104r24,a104r25,a104r26,a104r27,a104r28,a104r29,a104r30,a104r31,a104r32,a104r33,a104r34,a104r35,a104r36,a104r37,a104r38,a104r39,a104r40,a104r41,a104r42,a104r43,a104r44]
          have hf := hfin Y2 (by simp) p2.2.1
          exact Cl.here ⟨rfl, S1 ++ Y2, hf.1, hf.2, by simp⟩

theorem symMerge_all (R : List Int) : ∀ n, SMok R n
  | 0 => fun P X Y Q N h => by omega
  | n + 1 => by
    have IH := symMerge_all R n
    intro P X Y Q N hn hX0 hY0 hN hl hX hY hxy hrX hrY
    have hlen : P.length + X.length + Y.length + Q.length = N := by rw [← hN]; simp only [List.length_append]
    rcases (show X.length = 1 ∨ 2 ≤ X.length by omega) with h1 | h1
    · obtain ⟨x, rfl⟩ := List.length_eq_one_iff.1 h1
      have := merge_left R P Y Q x hY0 N (by rw [← hN]; simp) hl hY (hxy x (by simp)) (hrX x (by simp)) hrY
      simpa using this
    · rcases (show Y.length = 1 ∨ 2 ≤ Y.length by omega) with h2 | h2
      · obtain ⟨y, rfl⟩ := List.length_eq_one_iff.1 h2
        have := merge_right R P X Q y h1 N (by rw [← hN]; simp) hl hX (fun x hx => hxy x hx y (by simp)) (hrY y (by simp)) hrX
        have h3 := this.mono (Q' := fun v rs => v = .tup [] ∧ ∃ S : List Int, S.Perm (X ++ [y]) ∧ S.Pairwise (lx R) ∧ rs = [.live 3 1 (numsE .i64 (P ++ S ++ Q)), rRow R]) (by
          rintro v rs ⟨e, S, hS, hSp, hrs⟩
          exact ⟨e, S, hS.trans (List.perm_append_comm (l₁ := [y])), hSp, hrs⟩)
        simpa using h3
      · exact merge_many R n IH P X Y Q N (by omega) h1 h2 hN hl hX hY hxy hrX hrY

end Go.Proofs.YtlanehcihoiglaaGreatDoor
