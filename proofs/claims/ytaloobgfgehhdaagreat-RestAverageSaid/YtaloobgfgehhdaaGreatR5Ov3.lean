/- Overtime: the intervals of works in the order of time. -/
import Derived.Test.YtaloobgfgehhdaaGreatR5Ov2
set_option linter.unusedSimpArgs false
set_option linter.unusedVariables false
set_option linter.unusedSectionVars false
namespace Go.Proofs.YtaloobgfgehhdaaGreat
open Go Go.Abs
set_option linter.unusedSimpArgs false
set_option linter.unusedVariables false

def flatW (w : Wk) : List Spn := w.iv.map fun v => ⟨w.day, v.fr, v.to⟩
def flatS (ws : List Wk) : List Spn := ws.flatMap flatW
def disj (a b : Spn) : Prop := a.to ≤ b.fr ∨ b.to ≤ a.fr
def wkP (w : Wk) : Prop := (0 ≤ w.day ∧ w.day ≤ 84005) ∧ ∀ v ∈ w.iv, ivP v.fr v.to
def sumS : List Spn → Int
  | [] => 0
  | s :: ss => s.to - s.fr + sumS ss
theorem sumS_append : ∀ (a b : List Spn), sumS (a ++ b) = sumS a + sumS b
  | [], b => by simp [sumS]
  | x :: a, b => by simp only [List.cons_append, sumS, sumS_append a b]; omega
theorem sumS_perm {a b : List Spn} (h : a.Perm b) : sumS a = sumS b := by
  induction h with
  | nil => rfl
  | cons x _ ih => simp only [sumS, ih]
  | swap x y l => simp only [sumS]; omega
  | trans _ _ ih1 ih2 => exact ih1.trans ih2
open Classical in
/-- the error of works -/
noncomputable def spE (ws : List Wk) : Int :=
  if 1024 < ws.length then 3
  else if ∃ w ∈ ws, 1024 < w.iv.length then 3
  else if ¬ ∀ w ∈ ws, wkP w then 1
  else if ¬ (flatS ws).Pairwise disj then 1
  else if 100000 < sumS (flatS ws) then 3
  else 0
theorem disj_symm {a b : Spn} (h : disj a b) : disj b a := by unfold disj at *; omega
theorem pw_perm {a b : List Spn} (h : a.Perm b) : a.Pairwise disj ↔ b.Pairwise disj := h.pairwise_iff (fun h => disj_symm h)
theorem flatS_take {ws : List Wk} {i : Nat} (h : i < ws.length) : flatS (ws.take (i + 1)) = flatS (ws.take i) ++ flatW ws[i] := by
  unfold flatS
  rw [List.take_add_one, List.getElem?_eq_getElem h, Option.toList_some, List.flatMap_append]
  simp
theorem flatW_take {w : Wk} {j : Nat} (h : j < w.iv.length) : (flatW w).take (j + 1) = (flatW w).take j ++ [⟨w.day, w.iv[j].fr, w.iv[j].to⟩] := by
  unfold flatW
  rw [List.take_add_one, List.getElem?_map, List.getElem?_eq_getElem h]
  rfl
theorem flatW_length {w : Wk} : (flatW w).length = w.iv.length := by simp [flatW]
theorem mem_flatS {ws : List Wk} {s : Spn} : s ∈ flatS ws ↔ ∃ w ∈ ws, ∃ v ∈ w.iv, s = ⟨w.day, v.fr, v.to⟩ := by
  unfold flatS flatW
  rw [List.mem_flatMap]
  constructor
  · rintro ⟨w, hw, h⟩
    obtain ⟨v, hv, rfl⟩ := List.mem_map.1 h
    exact ⟨w, hw, v, hv, rfl⟩
  · rintro ⟨w, hw, v, hv, rfl⟩
    exact ⟨w, hw, List.mem_map.2 ⟨v, hv, rfl⟩⟩
/-- in the order of time, without an instant in common -/
def asc (S : List Spn) : Prop := S.Pairwise fun a b => a.to ≤ b.fr
theorem asc_disj {S : List Spn} (h : asc S) : S.Pairwise disj := h.imp fun h => .inl h
theorem asc_snoc {S : List Spn} {i : Nat} (hi : i < S.length) (h : asc (S.take i)) (hv : ∀ s ∈ S, ivP s.fr s.to) (h1 : ∀ (h0 : 0 < i), (S[i - 1]'(by omega)).to ≤ S[i].fr) : asc (S.take (i + 1)) := by
  unfold asc at *
  rw [List.take_add_one, List.getElem?_eq_getElem hi, Option.toList_some, List.pairwise_append]
  refine ⟨h, by simp, fun a ha b hb => ?_⟩
  rw [List.mem_singleton] at hb
  subst hb
  obtain ⟨k, hk, rfl⟩ := List.getElem_of_mem ha
  rw [List.length_take] at hk
  have hki : k < i := by omega
  have e1 : (S.take i)[k]'(by rw [List.length_take]; omega) = S[k]'(by omega) := List.getElem_take
  rw [e1]
  have hlast := h1 (by omega)
  by_cases hkl : k = i - 1
  · subst hkl; exact hlast
  · rw [List.pairwise_iff_getElem] at h
    have := h k (i - 1) (by rw [List.length_take]; omega) (by rw [List.length_take]; omega) (by omega)
    rw [List.getElem_take, List.getElem_take] at this
    have hv1 := hv (S[i - 1]'(by omega)) (List.getElem_mem _)
    unfold ivP at hv1
    omega
theorem sumS_bd {S : List Spn} (hv : ∀ s ∈ S, ivP s.fr s.to) : 0 ≤ sumS S ∧ sumS S ≤ 120968640 * S.length := by
  induction S with
  | nil => simp [sumS]
  | cons s S ih =>
    have h1 := ih fun x hx => hv x (List.mem_cons_of_mem _ hx)
    have h2 := hv s List.mem_cons_self
    unfold ivP at h2
    simp only [sumS, List.length_cons]
    omega
theorem flatS_length : ∀ {ws : List Wk}, (∀ w ∈ ws, w.iv.length ≤ 1024) → (flatS ws).length ≤ 1024 * ws.length
  | [], _ => by simp [flatS]
  | w :: ws, h => by
    have h1 := flatS_length fun x hx => h x (List.mem_cons_of_mem _ hx)
    have h2 := h w List.mem_cons_self
    have : flatS (w :: ws) = flatW w ++ flatS ws := rfl
    rw [this, List.length_append, flatW_length, List.length_cons]
    omega

def spQ (ws : List Wk) (v : AVal) (rs : List Row) : Prop :=
  (spE ws ≠ 0 ∧ v = .tup [.nils, .int .i64 (spE ws)] ∧ rs = []) ∨
  (spE ws = 0 ∧ ∃ S : List Spn, S.Perm (flatS ws) ∧ asc S ∧ v = .tup [.own 0 S.length 0 S.length, .int .i64 0] ∧ rs = [.live 76 3 (els S)])

set_option maxHeartbeats 1000000 in
theorem spans_ok (ws : List Wk) (hl0 : ws.length ≤ 9223372036854775806) : AFn Tryz.prog 25 [.pure 2 (els ws)] [] (spQ ws) := by
  refine afn Tryz.func25 a25_ok (by simp [a25]) ?_
  simp only [go_sem, Nat.reduceAdd, Nat.reduceSub, Nat.reduceMul, Nat.reduceEqDiff, Nat.reduceLT, Nat.reduceLeDiff, Nat.reduceBEq, reduceIte, reduceCtorEq, Int.reduceToNat, Int.reduceLE, Int.reduceLT, Int.reduceBEq, Int.reduceBNe, a25, a25r0, a25r1, a25r2, a25r3, a25r4, a25r5, a25r6, a25r7, a25r8, a25r9, a25r10, a25r11, a25r12, a25r13, a25r14, a25r15, a25r16, a25r17, a25r18, a25r19, a25r20, a25r21, a25r22, a25r23, a25r24, a25r25, a25r26, a25r27, a25r28, a25r29, a25r30, a25r31, a25r32, a25r33, a25r34]
  by_cases h1 : (ws.length : Int) > 1024
  · have he : spE ws = 3 := by unfold spE; rw [if_pos (by omega)]
    simp only [go_sem, Nat.reduceAdd, Nat.reduceSub, Nat.reduceMul, Nat.reduceEqDiff, Nat.reduceLT, Nat.reduceLeDiff, Nat.reduceBEq, reduceIte, reduceCtorEq, Int.reduceToNat, Int.reduceLE, Int.reduceLT, Int.reduceBEq, Int.reduceBNe, h1]
    exact Cl.fin rfl (.inl ⟨by rw [he]; decide, by rw [he], rfl⟩)
  simp only [go_sem, Nat.reduceAdd, Nat.reduceSub, Nat.reduceMul, Nat.reduceEqDiff, Nat.reduceLT, Nat.reduceLeDiff, Nat.reduceBEq, reduceIte, reduceCtorEq, Int.reduceToNat, Int.reduceLE, Int.reduceLT, Int.reduceBEq, Int.reduceBNe, h1]
  refine avc_loop (fun env rows => ∃ i : Nat, i ≤ ws.length ∧ (∀ j (hj : j < i) (hl : j < ws.length), ws[j].iv.length ≤ 1024) ∧ env = [(0, .pure 2 (els ws)), (17, .pure 2 (els ws)), (18, .int .i64 ws.length), (19, .int .i64 i)] ∧ rows = [])
    (fun env _ => match slot env 19 with | .int _ j => (ws.length - j).toNat | _ => 0) ?_ ?_
  · exact Cl.here ⟨0, by omega, fun j hj => by omega, rfl, rfl⟩
  · rintro env rows ⟨i, hi, hall, rfl, rfl⟩
    have hw : IntKind.i64.wrap ((i : Int) + 1) = ((i + 1 : Nat) : Int) := by rw [wrap_i64 (by omega) (by omega)]; omega
    simp only [go_sem, Nat.reduceAdd, Nat.reduceSub, Nat.reduceMul, Nat.reduceEqDiff, Nat.reduceLT, Nat.reduceLeDiff, Nat.reduceBEq, reduceIte, reduceCtorEq, Int.reduceToNat, Int.reduceLE, Int.reduceLT, Int.reduceBEq, Int.reduceBNe, a25, a25r0, a25r1, a25r2, a25r3, a25r4, a25r5, a25r6, a25r7, a25r8, a25r9, a25r10, a25r11, a25r12, a25r13, a25r14, a25r15, a25r16, a25r17, a25r18, a25r19, a25r20, a25r21, a25r22, a25r23, a25r24, a25r25, a25r26, a25r27, a25r28, a25r29, a25r30, a25r31, a25r32, a25r33, a25r34]
    refine condC_intro ?_ ?_ <;> intro hg2 <;> simp only [decide_eq_true_eq, decide_eq_false_iff_not, beq_iff_eq, beq_eq_false_iff_ne, bne_iff_ne, bne_eq_false_iff_eq, Bool.not_eq_true', Bool.not_eq_false', Int.not_lt, Int.not_le, ne_eq, Bool.and_eq_true, Bool.or_eq_true, Bool.or_eq_false_iff, Bool.and_eq_false_iff] at hg2 <;> simp only [go_sem, Nat.reduceAdd, Nat.reduceSub, Nat.reduceMul, Nat.reduceEqDiff, Nat.reduceLT, Nat.reduceLeDiff, Nat.reduceBEq, reduceIte, reduceCtorEq, Int.reduceToNat, Int.reduceLE, Int.reduceLT, Int.reduceBEq, Int.reduceBNe, a25, a25r0, a25r1, a25r2, a25r3, a25r4, a25r5, a25r6, a25r7, a25r8, a25r9, a25r10, a25r11, a25r12, a25r13, a25r14, a25r15, a25r16, a25r17, a25r18, a25r19, a25r20, a25r21, a25r22, a25r23, a25r24, a25r25, a25r26, a25r27, a25r28, a25r29, a25r30, a25r31, a25r32, a25r33, a25r34]
    · have hlt : i < ws.length := by omega
      refine ⟨by omega, by omega, ?_⟩
      try simp only [Int.toNat_natCast]
      rw [els_getD hlt]
      simp only [go_sem, Nat.reduceAdd, Nat.reduceSub, Nat.reduceMul, Nat.reduceEqDiff, Nat.reduceLT, Nat.reduceLeDiff, Nat.reduceBEq, reduceIte, reduceCtorEq, Int.reduceToNat, Int.reduceLE, Int.reduceLT, Int.reduceBEq, Int.reduceBNe, cel_wk]
      by_cases h2 : (ws[i].iv.length : Int) > 1024
      · have he : spE ws = 3 := by
          unfold spE; rw [if_neg (by omega), if_pos ⟨ws[i], List.getElem_mem _, by omega⟩]
        simp only [go_sem, Nat.reduceAdd, Nat.reduceSub, Nat.reduceMul, Nat.reduceEqDiff, Nat.reduceLT, Nat.reduceLeDiff, Nat.reduceBEq, reduceIte, reduceCtorEq, Int.reduceToNat, Int.reduceLE, Int.reduceLT, Int.reduceBEq, Int.reduceBNe, h2]
        exact Cl.fin rfl (.inl ⟨by rw [he]; decide, by rw [he], rfl⟩)
      · simp only [go_sem, Nat.reduceAdd, Nat.reduceSub, Nat.reduceMul, Nat.reduceEqDiff, Nat.reduceLT, Nat.reduceLeDiff, Nat.reduceBEq, reduceIte, reduceCtorEq, Int.reduceToNat, Int.reduceLE, Int.reduceLT, Int.reduceBEq, Int.reduceBNe, h2, hw]
        refine Cl.tr [] [] rfl rfl rfl ?_
        simp only [go_sem, Nat.reduceAdd, Nat.reduceSub, Nat.reduceMul, Nat.reduceEqDiff, Nat.reduceLT, Nat.reduceLeDiff, Nat.reduceBEq, reduceIte, reduceCtorEq, Int.reduceToNat, Int.reduceLE, Int.reduceLT, Int.reduceBEq, Int.reduceBNe]
        refine Cl.here ⟨⟨i + 1, by omega, fun j hj hl => ?_, rfl, rfl⟩, ?_⟩
        · by_cases hji : j = i
          · subst hji; omega
          · exact hall j (by omega) hl
        · simp only [go_sem, Nat.reduceAdd, Nat.reduceSub, Nat.reduceMul, Nat.reduceEqDiff, Nat.reduceLT, Nat.reduceLeDiff, Nat.reduceBEq, reduceIte, reduceCtorEq, Int.reduceToNat, Int.reduceLE, Int.reduceLT, Int.reduceBEq, Int.reduceBNe]
          omega
    have hlen : ∀ w ∈ ws, w.iv.length ≤ 1024 := by
      intro w hw
      obtain ⟨j, hj, rfl⟩ := List.getElem_of_mem hw
      exact hall j (by omega) hj
    have hE : spE ws = (open Classical in if ¬ ∀ w ∈ ws, wkP w then 1 else if ¬ (flatS ws).Pairwise disj then 1 else if 100000 < sumS (flatS ws) then 3 else 0) := by
      unfold spE
      rw [if_neg (by omega), if_neg (fun ⟨w, hw, h⟩ => by have := hlen w hw; omega)]
    have hfl := flatS_length hlen
    clear hall
    refine avc_loop (fun env rows => ∃ i : Nat, i ≤ ws.length ∧ (∀ j (hj : j < i) (hl : j < ws.length), wkP ws[j]) ∧ env = [(6, .own 0 (flatS (ws.take i)).length 0 (flatS (ws.take i)).length), (28, .pure 2 (els ws)), (29, .int .i64 ws.length), (30, .int .i64 i)] ∧ rows = [.live 76 3 (els (flatS (ws.take i)))])
      (fun env _ => match slot env 30 with | .int _ j => (ws.length - j).toNat | _ => 0) ?_ ?_
    · (refine Cl.ghost 6  76  3 rfl (Cl.norm [ 6, 28, 29, 30] ?_); simp only [go_sem, Nat.reduceAdd, Nat.reduceSub, Nat.reduceMul, Nat.reduceEqDiff, Nat.reduceLT, Nat.reduceLeDiff, Nat.reduceBEq, reduceIte, reduceCtorEq, Int.reduceToNat, Int.reduceLE, Int.reduceLT, Int.reduceBEq, Int.reduceBNe])
      exact Cl.here ⟨0, by omega, fun j hj => by omega, rfl, rfl⟩
    rintro env rows ⟨i, hi, hall, rfl, rfl⟩
    have hw : IntKind.i64.wrap ((i : Int) + 1) = ((i + 1 : Nat) : Int) := by rw [wrap_i64 (by omega) (by omega)]; omega
    simp only [go_sem, Nat.reduceAdd, Nat.reduceSub, Nat.reduceMul, Nat.reduceEqDiff, Nat.reduceLT, Nat.reduceLeDiff, Nat.reduceBEq, reduceIte, reduceCtorEq, Int.reduceToNat, Int.reduceLE, Int.reduceLT, Int.reduceBEq, Int.reduceBNe, a25, a25r0, a25r1, a25r2, a25r3, a25r4, a25r5, a25r6, a25r7, a25r8, a25r9, a25r10, a25r11, a25r12, a25r13, a25r14, a25r15, a25r16, a25r17, a25r18, a25r19, a25r20, a25r21, a25r22, a25r23, a25r24, a25r25, a25r26, a25r27, a25r28, a25r29, a25r30, a25r31, a25r32, a25r33, a25r34]
    refine condC_intro ?_ ?_ <;> intro hg2 <;> simp only [decide_eq_true_eq, decide_eq_false_iff_not, beq_iff_eq, beq_eq_false_iff_ne, bne_iff_ne, bne_eq_false_iff_eq, Bool.not_eq_true', Bool.not_eq_false', Int.not_lt, Int.not_le, ne_eq, Bool.and_eq_true, Bool.or_eq_true, Bool.or_eq_false_iff, Bool.and_eq_false_iff] at hg2 <;> simp only [go_sem, Nat.reduceAdd, Nat.reduceSub, Nat.reduceMul, Nat.reduceEqDiff, Nat.reduceLT, Nat.reduceLeDiff, Nat.reduceBEq, reduceIte, reduceCtorEq, Int.reduceToNat, Int.reduceLE, Int.reduceLT, Int.reduceBEq, Int.reduceBNe, a25, a25r0, a25r1, a25r2, a25r3, a25r4, a25r5, a25r6, a25r7, a25r8, a25r9, a25r10, a25r11, a25r12, a25r13, a25r14, a25r15, a25r16, a25r17, a25r18, a25r19, a25r20, a25r21, a25r22, a25r23, a25r24, a25r25, a25r26, a25r27, a25r28, a25r29, a25r30, a25r31, a25r32, a25r33, a25r34]
    · have hlt : i < ws.length := by omega
      refine ⟨by omega, by omega, ?_⟩
      try simp only [Int.toNat_natCast]
      rw [els_getD hlt]
      have hT := flatS_take hlt
      have hbad : ¬ wkP ws[i] → spE ws = 1 := fun h => by rw [hE, if_pos (fun h' => h (h' _ (List.getElem_mem _)))]
      have hwl := hlen ws[i] (List.getElem_mem _)
      have hnl : (flatS (ws.take i)).length ≤ 1024 * 1024 := by
        have := flatS_length (ws := ws.take i) fun w hw => hlen w (List.mem_of_mem_take hw)
        have h2 := List.length_take_le i ws
        have h3 : (ws.take i).length ≤ 1024 := by rw [List.length_take]; omega
        omega
      have hok : wkP ws[i] → ∀ j (hj : j < i + 1) (hl : j < ws.length), wkP ws[j] := fun h j hj hl => by
        by_cases hji : j = i
        · subst hji; exact h
        · exact hall j (by omega) hl
      generalize ws[i] = w at hT hbad hwl hok ⊢
      generalize hX : flatS (ws.take i) = X at *
      simp only [go_sem, Nat.reduceAdd, Nat.reduceSub, Nat.reduceMul, Nat.reduceEqDiff, Nat.reduceLT, Nat.reduceLeDiff, Nat.reduceBEq, reduceIte, reduceCtorEq, Int.reduceToNat, Int.reduceLE, Int.reduceLT, Int.reduceBEq, Int.reduceBNe, cel_wk]
      by_cases hd : w.day < 0 ∨ 84005 < w.day
      · have he := hbad (fun h => by have := h.1; omega)
        rcases hd with hd | hd
        · simp only [go_sem, Nat.reduceAdd, Nat.reduceSub, Nat.reduceMul, Nat.reduceEqDiff, Nat.reduceLT, Nat.reduceLeDiff, Nat.reduceBEq, reduceIte, reduceCtorEq, Int.reduceToNat, Int.reduceLE, Int.reduceLT, Int.reduceBEq, Int.reduceBNe, hd]
          refine Cl.tr [] [] rfl rfl rfl ?_
          simp only [go_sem, Nat.reduceAdd, Nat.reduceSub, Nat.reduceMul, Nat.reduceEqDiff, Nat.reduceLT, Nat.reduceLeDiff, Nat.reduceBEq, reduceIte, reduceCtorEq, Int.reduceToNat, Int.reduceLE, Int.reduceLT, Int.reduceBEq, Int.reduceBNe]
          exact Cl.here (.inl ⟨by rw [he]; decide, by rw [he]; rfl, rfl⟩)
        · have hd2 : ¬ w.day < 0 := by omega
          have hd3 : w.day > 84005 := hd
          simp only [go_sem, Nat.reduceAdd, Nat.reduceSub, Nat.reduceMul, Nat.reduceEqDiff, Nat.reduceLT, Nat.reduceLeDiff, Nat.reduceBEq, reduceIte, reduceCtorEq, Int.reduceToNat, Int.reduceLE, Int.reduceLT, Int.reduceBEq, Int.reduceBNe, hd2, hd3]
          refine Cl.tr [] [] rfl rfl rfl ?_
          simp only [go_sem, Nat.reduceAdd, Nat.reduceSub, Nat.reduceMul, Nat.reduceEqDiff, Nat.reduceLT, Nat.reduceLeDiff, Nat.reduceBEq, reduceIte, reduceCtorEq, Int.reduceToNat, Int.reduceLE, Int.reduceLT, Int.reduceBEq, Int.reduceBNe]
          exact Cl.here (.inl ⟨by rw [he]; decide, by rw [he]; rfl, rfl⟩)
      have hd2 : ¬ w.day < 0 := by omega
      have hd3 : ¬ w.day > 84005 := by omega
      simp only [go_sem, Nat.reduceAdd, Nat.reduceSub, Nat.reduceMul, Nat.reduceEqDiff, Nat.reduceLT, Nat.reduceLeDiff, Nat.reduceBEq, reduceIte, reduceCtorEq, Int.reduceToNat, Int.reduceLE, Int.reduceLT, Int.reduceBEq, Int.reduceBNe, hd2, hd3]
      refine avc_loop (fun env rows => ∃ j : Nat, j ≤ w.iv.length ∧ (∀ k (hk : k < j) (hl : k < w.iv.length), ivP w.iv[k].fr w.iv[k].to) ∧ env = [(6, .own 0 (X ++ (flatW w).take j).length 0 (X ++ (flatW w).take j).length), (8, .ref 1 1 0 0), (28, .pure 2 (els ws)), (29, .int .i64 ws.length), (30, .int .i64 i), (43, .pure 2 (els w.iv)), (44, .int .i64 w.iv.length), (45, .int .i64 j)] ∧ rows = [.live 76 3 (els (X ++ (flatW w).take j)), .live 45 2 [[.int .i64 w.day, .pure 2 (els w.iv)]]])
        (fun env _ => match slot env 45 with | .int _ j => (w.iv.length - j).toNat | _ => 0) ?_ ?_
      · exact Cl.here ⟨0, by omega, fun k hk => by omega, by simp, by simp⟩
      rintro env rows ⟨j, hj, hiv, rfl, rfl⟩
      have hwj : IntKind.i64.wrap ((j : Int) + 1) = ((j + 1 : Nat) : Int) := by rw [wrap_i64 (by omega) (by omega)]; omega
      simp only [go_sem, Nat.reduceAdd, Nat.reduceSub, Nat.reduceMul, Nat.reduceEqDiff, Nat.reduceLT, Nat.reduceLeDiff, Nat.reduceBEq, reduceIte, reduceCtorEq, Int.reduceToNat, Int.reduceLE, Int.reduceLT, Int.reduceBEq, Int.reduceBNe, a25, a25r0, a25r1, a25r2, a25r3, a25r4, a25r5, a25r6, a25r7, a25r8, a25r9, a25r10, a25r11, a25r12, a25r13, a25r14, a25r15, a25r16, a25r17, a25r18, a25r19, a25r20, a25r21, a25r22, a25r23, a25r24, a25r25, a25r26, a25r27, a25r28, a25r29, a25r30, a25r31, a25r32, a25r33, a25r34]
      refine condC_intro ?_ ?_ <;> intro hg3 <;> simp only [decide_eq_true_eq, decide_eq_false_iff_not, beq_iff_eq, beq_eq_false_iff_ne, bne_iff_ne, bne_eq_false_iff_eq, Bool.not_eq_true', Bool.not_eq_false', Int.not_lt, Int.not_le, ne_eq, Bool.and_eq_true, Bool.or_eq_true, Bool.or_eq_false_iff, Bool.and_eq_false_iff] at hg3 <;> simp only [go_sem, Nat.reduceAdd, Nat.reduceSub, Nat.reduceMul, Nat.reduceEqDiff, Nat.reduceLT, Nat.reduceLeDiff, Nat.reduceBEq, reduceIte, reduceCtorEq, Int.reduceToNat, Int.reduceLE, Int.reduceLT, Int.reduceBEq, Int.reduceBNe, a25, a25r0, a25r1, a25r2, a25r3, a25r4, a25r5, a25r6, a25r7, a25r8, a25r9, a25r10, a25r11, a25r12, a25r13, a25r14, a25r15, a25r16, a25r17, a25r18, a25r19, a25r20, a25r21, a25r22, a25r23, a25r24, a25r25, a25r26, a25r27, a25r28, a25r29, a25r30, a25r31, a25r32, a25r33, a25r34]
      · have hlj : j < w.iv.length := by omega
        refine ⟨by omega, by omega, ?_⟩
        try simp only [Int.toNat_natCast]
        rw [els_getD hlj]
        have hT2 := flatW_take hlj
        have hXl : (X ++ (flatW w).take j).length ≤ 1024 * 1024 + 1024 := by rw [List.length_append, List.length_take]; omega
        have hbad2 : ¬ ivP w.iv[j].fr w.iv[j].to → spE ws = 1 := fun h => hbad fun h' => h (h'.2 _ (List.getElem_mem _))
        have hok2 : ivP w.iv[j].fr w.iv[j].to → ∀ k (hk : k < j + 1) (hl : k < w.iv.length), ivP w.iv[k].fr w.iv[k].to := fun h k hk hl => by
          by_cases hkj : k = j
          · subst hkj; exact h
          · exact hiv k (by omega) hl
        generalize w.iv[j] = u at hT2 hbad2 hok2 ⊢
        simp only [go_sem, Nat.reduceAdd, Nat.reduceSub, Nat.reduceMul, Nat.reduceEqDiff, Nat.reduceLT, Nat.reduceLeDiff, Nat.reduceBEq, reduceIte, reduceCtorEq, Int.reduceToNat, Int.reduceLE, Int.reduceLT, Int.reduceBEq, Int.reduceBNe, cel_iv]
        refine callC_det (validInterval_ok _ _) rfl rfl ?_
        by_cases hu : ivP u.fr u.to
        · simp only [go_sem, Nat.reduceAdd, Nat.reduceSub, Nat.reduceMul, Nat.reduceEqDiff, Nat.reduceLT, Nat.reduceLeDiff, Nat.reduceBEq, reduceIte, reduceCtorEq, Int.reduceToNat, Int.reduceLE, Int.reduceLT, Int.reduceBEq, Int.reduceBNe, hu, spn_snoc]
          refine ⟨by rw [List.length_append] at hXl ⊢; omega, ?_⟩
          simp only [go_sem, Nat.reduceAdd, Nat.reduceSub, Nat.reduceMul, Nat.reduceEqDiff, Nat.reduceLT, Nat.reduceLeDiff, Nat.reduceBEq, reduceIte, reduceCtorEq, Int.reduceToNat, Int.reduceLE, Int.reduceLT, Int.reduceBEq, Int.reduceBNe, hwj]
          have hE2 : X ++ List.take j (flatW w) ++ [⟨w.day, u.fr, u.to⟩] = X ++ (flatW w).take (j + 1) := by rw [hT2, List.append_assoc]
          rw [hE2]
          (refine Cl.tr [some 0, some 1] [] rfl rfl (by simp only [go_sem, Nat.reduceAdd, Nat.reduceSub, Nat.reduceMul, Nat.reduceEqDiff, Nat.reduceLT, Nat.reduceLeDiff, Nat.reduceBEq, reduceIte, reduceCtorEq, Int.reduceToNat, Int.reduceLE, Int.reduceLT, Int.reduceBEq, Int.reduceBNe] <;> rfl) ?_; simp only [go_sem, Nat.reduceAdd, Nat.reduceSub, Nat.reduceMul, Nat.reduceEqDiff, Nat.reduceLT, Nat.reduceLeDiff, Nat.reduceBEq, reduceIte, reduceCtorEq, Int.reduceToNat, Int.reduceLE, Int.reduceLT, Int.reduceBEq, Int.reduceBNe])
          refine Cl.here ⟨⟨j + 1, by omega, hok2 hu, ?_, rfl⟩, ?_⟩
          · rw [← hE2]; simp; omega
          · simp only [go_sem, Nat.reduceAdd, Nat.reduceSub, Nat.reduceMul, Nat.reduceEqDiff, Nat.reduceLT, Nat.reduceLeDiff, Nat.reduceBEq, reduceIte, reduceCtorEq, Int.reduceToNat, Int.reduceLE, Int.reduceLT, Int.reduceBEq, Int.reduceBNe]
            omega
        · have he := hbad2 hu
          simp only [go_sem, Nat.reduceAdd, Nat.reduceSub, Nat.reduceMul, Nat.reduceEqDiff, Nat.reduceLT, Nat.reduceLeDiff, Nat.reduceBEq, reduceIte, reduceCtorEq, Int.reduceToNat, Int.reduceLE, Int.reduceLT, Int.reduceBEq, Int.reduceBNe, hu]
          refine Cl.tr [] [] rfl rfl rfl ?_
          simp only [go_sem, Nat.reduceAdd, Nat.reduceSub, Nat.reduceMul, Nat.reduceEqDiff, Nat.reduceLT, Nat.reduceLeDiff, Nat.reduceBEq, reduceIte, reduceCtorEq, Int.reduceToNat, Int.reduceLE, Int.reduceLT, Int.reduceBEq, Int.reduceBNe]
          exact Cl.here (.inl ⟨by rw [he]; decide, by rw [he]; rfl, rfl⟩)
      · have hwk : wkP w := ⟨by omega, fun v hv => by
          obtain ⟨k, hk, rfl⟩ := List.getElem_of_mem hv
          exact hiv k (by omega) hk⟩
        have hE2 : X ++ List.take j (flatW w) = flatS (ws.take (i + 1)) := by
          rw [hT, List.take_of_length_le (by rw [flatW_length]; omega)]
        rw [hE2]
        simp only [go_sem, Nat.reduceAdd, Nat.reduceSub, Nat.reduceMul, Nat.reduceEqDiff, Nat.reduceLT, Nat.reduceLeDiff, Nat.reduceBEq, reduceIte, reduceCtorEq, Int.reduceToNat, Int.reduceLE, Int.reduceLT, Int.reduceBEq, Int.reduceBNe, hw]
        (refine Cl.tr [some 0] [] rfl rfl (by simp only [go_sem, Nat.reduceAdd, Nat.reduceSub, Nat.reduceMul, Nat.reduceEqDiff, Nat.reduceLT, Nat.reduceLeDiff, Nat.reduceBEq, reduceIte, reduceCtorEq, Int.reduceToNat, Int.reduceLE, Int.reduceLT, Int.reduceBEq, Int.reduceBNe] <;> rfl) ?_; simp only [go_sem, Nat.reduceAdd, Nat.reduceSub, Nat.reduceMul, Nat.reduceEqDiff, Nat.reduceLT, Nat.reduceLeDiff, Nat.reduceBEq, reduceIte, reduceCtorEq, Int.reduceToNat, Int.reduceLE, Int.reduceLT, Int.reduceBEq, Int.reduceBNe])
        refine Cl.here ⟨⟨i + 1, by omega, hok hwk, rfl, rfl⟩, ?_⟩
        simp only [go_sem, Nat.reduceAdd, Nat.reduceSub, Nat.reduceMul, Nat.reduceEqDiff, Nat.reduceLT, Nat.reduceLeDiff, Nat.reduceBEq, reduceIte, reduceCtorEq, Int.reduceToNat, Int.reduceLE, Int.reduceLT, Int.reduceBEq, Int.reduceBNe]
        omega
    have hil : i = ws.length := by omega
    have hall2 : ∀ w ∈ ws, wkP w := by
      intro w hw
      obtain ⟨j, hj, rfl⟩ := List.getElem_of_mem hw
      exact hall j (by omega) hj
    rw [hil, List.take_length]
    rw [if_neg (fun h => h hall2)] at hE
    clear hall hil
    have hvs : ∀ s ∈ flatS ws, ivP s.fr s.to := by
      intro s hs
      obtain ⟨w, hw, v, hv, rfl⟩ := mem_flatS.1 hs
      exact (hall2 w hw).2 v hv
    have hfl2 : (flatS ws).length ≤ 1024 * 1024 := by omega
    (refine callC_of [0] [] (by decide) (by simp only [go_sem, Nat.reduceAdd, Nat.reduceSub, Nat.reduceMul, Nat.reduceEqDiff, Nat.reduceLT, Nat.reduceLeDiff, Nat.reduceBEq, reduceIte, reduceCtorEq, Int.reduceToNat, Int.reduceLE, Int.reduceLT, Int.reduceBEq, Int.reduceBNe] <;> rfl) (by simp only [go_sem, Nat.reduceAdd, Nat.reduceSub, Nat.reduceMul, Nat.reduceEqDiff, Nat.reduceLT, Nat.reduceLeDiff, Nat.reduceBEq, reduceIte, reduceCtorEq, Int.reduceToNat, Int.reduceLE, Int.reduceLT, Int.reduceBEq, Int.reduceBNe] <;> rfl) (sortP_ok (flatS ws) (by omega)) ?_; rintro _ _ ⟨rfl, S, hperm, hsort, rfl⟩; refine ⟨.inl rfl, ?_⟩; simp only [go_sem, Nat.reduceAdd, Nat.reduceSub, Nat.reduceMul, Nat.reduceEqDiff, Nat.reduceLT, Nat.reduceLeDiff, Nat.reduceBEq, reduceIte, reduceCtorEq, Int.reduceToNat, Int.reduceLE, Int.reduceLT, Int.reduceBEq, Int.reduceBNe])
    have hSl := hperm.length_eq
    have hvS : ∀ s ∈ S, ivP s.fr s.to := fun s hs => hvs s (hperm.mem_iff.1 hs)
    replace hE : spE ws = (open Classical in if ¬ S.Pairwise disj then 1 else if 100000 < sumS S then 3 else 0) := by
      rw [hE, sumS_perm hperm]
      by_cases h : S.Pairwise disj
      · have h2 := (pw_perm hperm).1 h
        rw [if_neg (fun h' : ¬ List.Pairwise disj (flatS ws) => h' h2), if_neg (fun h' : ¬ List.Pairwise disj S => h' h)]
      · have h2 : ¬ List.Pairwise disj (flatS ws) := fun h' => h ((pw_perm hperm).2 h')
        rw [if_pos h2, if_pos h]
    rw [← hSl]
    clear hvs hfl hlen
    refine avc_loop (fun env rows => ∃ i : Nat, i ≤ S.length ∧ asc (S.take i) ∧ env = [(6, .own 0 S.length 0 S.length), (11, .int .i64 (sumS (S.take i))), (63, .own 0 S.length 0 S.length), (64, .int .i64 S.length), (65, .int .i64 i)] ∧ rows = [.live 76 3 (els S)])
      (fun env _ => match slot env 65 with | .int _ j => (S.length - j).toNat | _ => 0) ?_ ?_
    · exact Cl.here ⟨0, by omega, by simp [asc], rfl, rfl⟩
    rintro env rows ⟨i, hi, hasc, rfl, rfl⟩
    have hw : IntKind.i64.wrap ((i : Int) + 1) = ((i + 1 : Nat) : Int) := by rw [wrap_i64 (by omega) (by omega)]; omega
    have hbd := sumS_bd (S := S.take i) fun s hs => hvS s (List.mem_of_mem_take hs)
    have htl : (S.take i).length ≤ 1048576 := by rw [List.length_take]; omega
    simp only [go_sem, Nat.reduceAdd, Nat.reduceSub, Nat.reduceMul, Nat.reduceEqDiff, Nat.reduceLT, Nat.reduceLeDiff, Nat.reduceBEq, reduceIte, reduceCtorEq, Int.reduceToNat, Int.reduceLE, Int.reduceLT, Int.reduceBEq, Int.reduceBNe, a25, a25r0, a25r1, a25r2, a25r3, a25r4, a25r5, a25r6, a25r7, a25r8, a25r9, a25r10, a25r11, a25r12, a25r13, a25r14, a25r15, a25r16, a25r17, a25r18, a25r19, a25r20, a25r21, a25r22, a25r23, a25r24, a25r25, a25r26, a25r27, a25r28, a25r29, a25r30, a25r31, a25r32, a25r33, a25r34]
    refine condC_intro ?_ ?_ <;> intro hg2 <;> simp only [decide_eq_true_eq, decide_eq_false_iff_not, beq_iff_eq, beq_eq_false_iff_ne, bne_iff_ne, bne_eq_false_iff_eq, Bool.not_eq_true', Bool.not_eq_false', Int.not_lt, Int.not_le, ne_eq, Bool.and_eq_true, Bool.or_eq_true, Bool.or_eq_false_iff, Bool.and_eq_false_iff] at hg2 <;> simp only [go_sem, Nat.reduceAdd, Nat.reduceSub, Nat.reduceMul, Nat.reduceEqDiff, Nat.reduceLT, Nat.reduceLeDiff, Nat.reduceBEq, reduceIte, reduceCtorEq, Int.reduceToNat, Int.reduceLE, Int.reduceLT, Int.reduceBEq, Int.reduceBNe, a25, a25r0, a25r1, a25r2, a25r3, a25r4, a25r5, a25r6, a25r7, a25r8, a25r9, a25r10, a25r11, a25r12, a25r13, a25r14, a25r15, a25r16, a25r17, a25r18, a25r19, a25r20, a25r21, a25r22, a25r23, a25r24, a25r25, a25r26, a25r27, a25r28, a25r29, a25r30, a25r31, a25r32, a25r33, a25r34]
    · have hlt : i < S.length := by omega
      have hgi : (els S).getD i [] = [.int .i64 S[i].day, .int .i64 S[i].fr, .int .i64 S[i].to] := by rw [els_getD hlt, cel_spn]
      refine ⟨by omega, by omega, ?_⟩
      try simp only [Int.toNat_natCast]
      rw [hgi]
      have hv1 := hvS S[i] (List.getElem_mem _)
      have hS1 : sumS (S.take (i + 1)) = sumS (S.take i) + (S[i].to - S[i].fr) := by
        rw [List.take_add_one, List.getElem?_eq_getElem hlt, Option.toList_some, sumS_append]; simp [sumS]
      have hw2 : IntKind.i64.wrap (sumS (S.take i) + IntKind.i64.wrap (S[i].to - S[i].fr)) = sumS (S.take (i + 1)) := by
        unfold ivP at hv1
        rw [wrap_i64 (x := S[i].to - S[i].fr) (by omega) (by omega), wrap_i64 (by omega) (by omega), hS1]
      by_cases h0 : 0 < i
      rotate_left
      · have h0' : ¬ (i : Int) > 0 := by omega
        simp only [go_sem, Nat.reduceAdd, Nat.reduceSub, Nat.reduceMul, Nat.reduceEqDiff, Nat.reduceLT, Nat.reduceLeDiff, Nat.reduceBEq, reduceIte, reduceCtorEq, Int.reduceToNat, Int.reduceLE, Int.reduceLT, Int.reduceBEq, Int.reduceBNe, h0', hw, hw2]
        (refine Cl.tr [some 0] [] rfl rfl (by simp only [go_sem, Nat.reduceAdd, Nat.reduceSub, Nat.reduceMul, Nat.reduceEqDiff, Nat.reduceLT, Nat.reduceLeDiff, Nat.reduceBEq, reduceIte, reduceCtorEq, Int.reduceToNat, Int.reduceLE, Int.reduceLT, Int.reduceBEq, Int.reduceBNe] <;> rfl) ?_; simp only [go_sem, Nat.reduceAdd, Nat.reduceSub, Nat.reduceMul, Nat.reduceEqDiff, Nat.reduceLT, Nat.reduceLeDiff, Nat.reduceBEq, reduceIte, reduceCtorEq, Int.reduceToNat, Int.reduceLE, Int.reduceLT, Int.reduceBEq, Int.reduceBNe])
        refine Cl.here ⟨⟨i + 1, by omega, asc_snoc hlt hasc hvS (fun h => (h0 h).elim), rfl, rfl⟩, ?_⟩
        simp only [go_sem, Nat.reduceAdd, Nat.reduceSub, Nat.reduceMul, Nat.reduceEqDiff, Nat.reduceLT, Nat.reduceLeDiff, Nat.reduceBEq, reduceIte, reduceCtorEq, Int.reduceToNat, Int.reduceLE, Int.reduceLT, Int.reduceBEq, Int.reduceBNe]
        omega
      have h0' : (i : Int) > 0 := by omega
      have hw1 : IntKind.i64.wrap ((i : Int) - 1) = ((i - 1 : Nat) : Int) := by rw [wrap_i64 (by omega) (by omega)]; omega
      have hlp : i - 1 < S.length := by omega
      have hgp : (els S).getD (i - 1) [] = [.int .i64 S[i - 1].day, .int .i64 S[i - 1].fr, .int .i64 S[i - 1].to] := by rw [els_getD hlp, cel_spn]
      simp only [go_sem, Nat.reduceAdd, Nat.reduceSub, Nat.reduceMul, Nat.reduceEqDiff, Nat.reduceLT, Nat.reduceLeDiff, Nat.reduceBEq, reduceIte, reduceCtorEq, Int.reduceToNat, Int.reduceLE, Int.reduceLT, Int.reduceBEq, Int.reduceBNe, h0', hw1]
      refine ⟨by omega, by omega, ?_⟩
      try simp only [Int.toNat_natCast]
      rw [hgp]
      simp only [go_sem, Nat.reduceAdd, Nat.reduceSub, Nat.reduceMul, Nat.reduceEqDiff, Nat.reduceLT, Nat.reduceLeDiff, Nat.reduceBEq, reduceIte, reduceCtorEq, Int.reduceToNat, Int.reduceLE, Int.reduceLT, Int.reduceBEq, Int.reduceBNe]
      by_cases hov : S[i].fr < S[i - 1].to
      · have he : spE ws = 1 := by
          rw [hE, if_pos]
          intro hpw
          rw [List.pairwise_iff_getElem] at hpw hsort
          have a1 := hpw (i - 1) i hlp hlt (by omega)
          have a2 := hsort (i - 1) i hlp hlt (by omega)
          unfold disj at a1
          unfold ivP at hv1
          omega
        simp only [go_sem, Nat.reduceAdd, Nat.reduceSub, Nat.reduceMul, Nat.reduceEqDiff, Nat.reduceLT, Nat.reduceLeDiff, Nat.reduceBEq, reduceIte, reduceCtorEq, Int.reduceToNat, Int.reduceLE, Int.reduceLT, Int.reduceBEq, Int.reduceBNe, hov]
        refine Cl.tr [] [] rfl rfl rfl ?_
        simp only [go_sem, Nat.reduceAdd, Nat.reduceSub, Nat.reduceMul, Nat.reduceEqDiff, Nat.reduceLT, Nat.reduceLeDiff, Nat.reduceBEq, reduceIte, reduceCtorEq, Int.reduceToNat, Int.reduceLE, Int.reduceLT, Int.reduceBEq, Int.reduceBNe]
        exact Cl.here (.inl ⟨by rw [he]; decide, by rw [he]; rfl, rfl⟩)
      · simp only [go_sem, Nat.reduceAdd, Nat.reduceSub, Nat.reduceMul, Nat.reduceEqDiff, Nat.reduceLT, Nat.reduceLeDiff, Nat.reduceBEq, reduceIte, reduceCtorEq, Int.reduceToNat, Int.reduceLE, Int.reduceLT, Int.reduceBEq, Int.reduceBNe, hov, hw, hw2]
        (refine Cl.tr [some 0] [] rfl rfl (by simp only [go_sem, Nat.reduceAdd, Nat.reduceSub, Nat.reduceMul, Nat.reduceEqDiff, Nat.reduceLT, Nat.reduceLeDiff, Nat.reduceBEq, reduceIte, reduceCtorEq, Int.reduceToNat, Int.reduceLE, Int.reduceLT, Int.reduceBEq, Int.reduceBNe] <;> rfl) ?_; simp only [go_sem, Nat.reduceAdd, Nat.reduceSub, Nat.reduceMul, Nat.reduceEqDiff, Nat.reduceLT, Nat.reduceLeDiff, Nat.reduceBEq, reduceIte, reduceCtorEq, Int.reduceToNat, Int.reduceLE, Int.reduceLT, Int.reduceBEq, Int.reduceBNe])
        refine Cl.here ⟨⟨i + 1, by omega, asc_snoc hlt hasc hvS (fun h => by omega), rfl, rfl⟩, ?_⟩
        simp only [go_sem, Nat.reduceAdd, Nat.reduceSub, Nat.reduceMul, Nat.reduceEqDiff, Nat.reduceLT, Nat.reduceLeDiff, Nat.reduceBEq, reduceIte, reduceCtorEq, Int.reduceToNat, Int.reduceLE, Int.reduceLT, Int.reduceBEq, Int.reduceBNe]
        omega
    · obtain rfl : i = S.length := by omega
      rw [List.take_length] at *
      rw [if_neg (fun h => h (asc_disj hasc))] at hE
      by_cases hm : sumS S > 100000
      · rw [if_pos hm] at hE
        simp only [go_sem, Nat.reduceAdd, Nat.reduceSub, Nat.reduceMul, Nat.reduceEqDiff, Nat.reduceLT, Nat.reduceLeDiff, Nat.reduceBEq, reduceIte, reduceCtorEq, Int.reduceToNat, Int.reduceLE, Int.reduceLT, Int.reduceBEq, Int.reduceBNe, hm]
        refine Cl.tr [] [] rfl rfl rfl ?_
        simp only [go_sem, Nat.reduceAdd, Nat.reduceSub, Nat.reduceMul, Nat.reduceEqDiff, Nat.reduceLT, Nat.reduceLeDiff, Nat.reduceBEq, reduceIte, reduceCtorEq, Int.reduceToNat, Int.reduceLE, Int.reduceLT, Int.reduceBEq, Int.reduceBNe]
        exact Cl.here (.inl ⟨by rw [hE]; decide, by rw [hE]; rfl, rfl⟩)
      · rw [if_neg hm] at hE
        simp only [go_sem, Nat.reduceAdd, Nat.reduceSub, Nat.reduceMul, Nat.reduceEqDiff, Nat.reduceLT, Nat.reduceLeDiff, Nat.reduceBEq, reduceIte, reduceCtorEq, Int.reduceToNat, Int.reduceLE, Int.reduceLT, Int.reduceBEq, Int.reduceBNe, hm]
        exact Cl.here (.inr ⟨hE, S, hperm, hasc, rfl, rfl⟩)

end Go.Proofs.YtaloobgfgehhdaaGreat
