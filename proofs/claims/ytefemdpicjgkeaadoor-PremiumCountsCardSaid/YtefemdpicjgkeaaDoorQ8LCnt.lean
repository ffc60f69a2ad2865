/- PremiumCounts: the walk. -/
import Derived.Test.YtefemdpicjgkeaaDoorQ8Tap3
import Derived.Test.YtefemdpicjgkeaaDoorQ8CPl
import Derived.Test.YtefemdpicjgkeaaDoorQ8San
set_option linter.unusedSimpArgs false
set_option linter.unusedVariables false
set_option linter.unusedSectionVars false
namespace Go.Proofs.YtefemdpicjgkeaaDoor
open Go Go.Abs
set_option linter.unusedSimpArgs false
set_option linter.unusedVariables false

/-- windows with another group -/
def sg (g : ByteArray) (w : Win) : Win := ⟨w.name, g, w.rank, w.fr, w.to, w.wd, w.dy⟩
def wsI (g : ByteArray) (ws : List Win) (i : Nat) : List Win := (ws.take i).map (sg g) ++ ws.drop i
theorem wsI_length (g : ByteArray) (ws : List Win) (i : Nat) : (wsI g ws i).length = ws.length := by simp [wsI]; omega
theorem set_mid {α : Type} (M : List α) (x y : α) (B : List α) : (M ++ x :: B).set M.length y = M ++ y :: B := by
  induction M with
  | nil => rfl
  | cons m M ih => simp [ih]
theorem wsI_set {g : ByteArray} {ws : List Win} {i : Nat} (h : i < ws.length) : (els (wsI g ws i)).set i (List.take 1 ((els (wsI g ws i)).getD i []) ++ [.str g] ++ List.drop 2 ((els (wsI g ws i)).getD i [])) = els (wsI g ws (i + 1)) := by
  obtain ⟨A, x, B, rfl, rfl⟩ : ∃ A x B, ws = A ++ x :: B ∧ i = A.length := ⟨ws.take i, ws[i], ws.drop (i + 1), by rw [← List.drop_eq_getElem_cons h, List.take_append_drop], by simp; omega⟩
  have h1 : wsI g (A ++ x :: B) A.length = A.map (sg g) ++ x :: B := by simp [wsI]
  have h2 : wsI g (A ++ x :: B) (A.length + 1) = A.map (sg g) ++ sg g x :: B := by
    have : A ++ x :: B = (A ++ [x]) ++ B := by simp
    unfold wsI
    rw [this, show A.length + 1 = (A ++ [x]).length by simp, List.take_left', List.drop_left'] <;> simp
  rw [h1, h2]
  have hM : (A.map (sg g)).length = A.length := by simp
  generalize A.map (sg g) = M at hM
  rw [← hM]
  have hg : (els (M ++ x :: B)).getD M.length [] = Cel.c x := by
    rw [els_getD (by simp)]; simp
  rw [hg]
  have he : ∀ y : Win, els (M ++ y :: B) = els M ++ Cel.c y :: els B := fun y => by simp [els]
  rw [he, he]
  have hL : M.length = (els M).length := els_length.symm
  rw [hL, set_mid]; rfl
theorem validP_mk' {l : List Hol} (h1 : l.length ≤ 1024) (h2 : validL l = true) : validP l = 0 := by rw [validP, if_neg (by omega), if_pos h2]
theorem pcSum_le {B : Int} : ∀ {ps : List Pc}, (∀ p ∈ ps, p.to - p.fr ≤ B) → pcSum ps ≤ B * ps.length
  | [], _ => by simp [pcSum]
  | p :: ps, h => by
    have ih := pcSum_le (ps := ps) fun q hq => h q (List.mem_cons_of_mem _ hq)
    have h1 := h p List.mem_cons_self
    have h3 : B * (((p :: ps).length : Nat) : Int) = B * ps.length + B := by rw [List.length_cons, Int.natCast_add, Int.mul_add]; simp
    unfold pcSum at *
    rw [List.map_cons, List.sum_cons]; omega
theorem pcE_made {ps : List Pc} (hl : ps.length ≤ 4) (h : ∀ p ∈ ps, pcOk p ∧ p.to - p.fr ≤ 240) : pcE ps = 0 := by
  have h1 := pcSum_le (B := 240) fun p hp => (h p hp).2
  unfold pcE
  rw [if_neg (by omega), if_pos (fun p hp => (h p hp).1), if_neg (by omega)]
/-- how many windows cover an instant -/
def covK (z : Zn) (h : List Hol) (ws : List Win) (n : Nat) (t : Int) : Int := sumJ (fun j => if covT z h (gw ws j) t then 1 else 0) n
theorem covK_succ (z : Zn) (h : List Hol) (ws : List Win) (n : Nat) (t : Int) : covK z h ws (n + 1) t = covK z h ws n t + if covT z h (gw ws n) t then 1 else 0 := rfl
theorem covK_bd (z : Zn) (h : List Hol) (ws : List Win) (n : Nat) (t : Int) : 0 ≤ covK z h ws n t ∧ covK z h ws n t ≤ n := sumJ_bd fun j _ => by split <;> omega
def spnS (f : Int → Int) (ps : List Pc) : Int := (ps.map fun p => spn f p.fr (pcN p)).sum
theorem spnS_take {f : Int → Int} {ps : List Pc} {i : Nat} (hi : i < ps.length) : spnS f (ps.take (i + 1)) = spnS f (ps.take i) + spn f ps[i].fr (pcN ps[i]) := by
  unfold spnS
  rw [List.take_succ_eq_append_getElem hi, List.map_append, List.sum_append]; simp
theorem spnS_bd {f : Int → Int} {ps : List Pc} (hf : ∀ t, 0 ≤ f t ∧ f t ≤ 3) (h : ∀ p ∈ ps, pcOk p ∧ p.to - p.fr ≤ 240) : 0 ≤ spnS f ps ∧ spnS f ps ≤ 720 * ps.length := by
  induction ps with
  | nil => simp [spnS]
  | cons p ps ih =>
    have ih := ih fun q hq => h q (List.mem_cons_of_mem _ hq)
    obtain ⟨h1, h2⟩ := h p List.mem_cons_self
    unfold pcOk at h1
    have h3 := spn_bd (f := f) (fr := p.fr) (B := 3) (k := pcN p) fun i _ => hf _
    have h4 : (pcN p : Int) = p.to - p.fr := by unfold pcN; omega
    unfold spnS at *
    rw [List.map_cons, List.sum_cons, List.length_cons]; omega
theorem pmSum_drop {M : List Pm} {i : Nat} (h : i < M.length) : pmSum (M.drop i) = M[i].min + pmSum (M.drop (i + 1)) := by
  unfold pmSum
  rw [List.drop_eq_getElem_cons h, List.map_cons, List.sum_cons]
theorem pmSum_nn : ∀ {M : List Pm}, (∀ m ∈ M, 1 ≤ m.min) → 0 ≤ pmSum M
  | [], _ => by simp [pmSum]
  | m :: M, h => by
    have := pmSum_nn (M := M) fun x hx => h x (List.mem_cons_of_mem _ hx)
    have := h m List.mem_cons_self
    unfold pmSum at *
    rw [List.map_cons, List.sum_cons]; omega
theorem pmSum_len : ∀ {M : List Pm}, (∀ m ∈ M, 1 ≤ m.min) → (M.length : Int) ≤ pmSum M
  | [], _ => by simp [pmSum]
  | m :: M, h => by
    have := pmSum_len (M := M) fun x hx => h x (List.mem_cons_of_mem _ hx)
    have := h m List.mem_cons_self
    unfold pmSum at *
    rw [List.map_cons, List.sum_cons, List.length_cons]; omega

set_option maxHeartbeats 4000000 in
theorem premiumCounts (l : List Int) (hl : TapeOk l) : AFn Tryd.prog 4 [.pure 1 (numsE .i64 l)] [] (fun v _ => v = .bool true) := by
  refine afnW Tryd.func4 a4_ok (by simp [a4]) ?_
  simp only [go_sem, Nat.reduceAdd, Nat.reduceSub, Nat.reduceMul, Nat.reduceEqDiff, Nat.reduceLT, Nat.reduceLeDiff, Nat.reduceBEq, reduceIte, reduceCtorEq, Int.reduceToNat, Int.reduceLE, Int.reduceLT, Int.reduceBEq, Int.reduceBNe, a4, a4r0, a4r1, a4r2, a4r3, a4r4, a4r5, a4r6, a4r7, a4r8, a4r9, a4r10, a4r11, a4r12, a4r13, a4r14, a4r15, a4r16, a4r17, a4r18, a4r19, a4r20, a4r21, a4r22, a4r23, a4r24, a4r25, a4r26, a4r27, a4r28]
  (repeat (first | (refine Cl.here ?_; simp only [go_sem, Nat.reduceAdd, Nat.reduceSub, Nat.reduceMul, Nat.reduceEqDiff, Nat.reduceLT, Nat.reduceLeDiff, Nat.reduceBEq, reduceIte, reduceCtorEq, Int.reduceToNat, Int.reduceLE, Int.reduceLT, Int.reduceBEq, Int.reduceBNe]) | simp only [go_sem, Nat.reduceAdd, Nat.reduceSub, Nat.reduceMul, Nat.reduceEqDiff, Nat.reduceLT, Nat.reduceLeDiff, Nat.reduceBEq, reduceIte, reduceCtorEq, Int.reduceToNat, Int.reduceLE, Int.reduceLT, Int.reduceBEq, Int.reduceBNe]))
  (refine callC_of [] [] (by simp) rfl (bindL_clean _ (by first | rfl | simp only [go_sem, Nat.reduceAdd, Nat.reduceSub, Nat.reduceMul, Nat.reduceEqDiff, Nat.reduceLT, Nat.reduceLeDiff, Nat.reduceBEq, reduceIte, reduceCtorEq, Int.reduceToNat, Int.reduceLE, Int.reduceLT, Int.reduceBEq, Int.reduceBNe])) (new_ok l) ?_; rintro _ _ ⟨rfl, rfl⟩; refine ⟨.inl rfl, ?_⟩; simp only [go_sem, Nat.reduceAdd, Nat.reduceSub, Nat.reduceMul, Nat.reduceEqDiff, Nat.reduceLT, Nat.reduceLeDiff, Nat.reduceBEq, reduceIte, reduceCtorEq, Int.reduceToNat, Int.reduceLE, Int.reduceLT, Int.reduceBEq, Int.reduceBNe])
  (repeat (first | (refine Cl.here ?_; simp only [go_sem, Nat.reduceAdd, Nat.reduceSub, Nat.reduceMul, Nat.reduceEqDiff, Nat.reduceLT, Nat.reduceLeDiff, Nat.reduceBEq, reduceIte, reduceCtorEq, Int.reduceToNat, Int.reduceLE, Int.reduceLT, Int.reduceBEq, Int.reduceBNe]) | simp only [go_sem, Nat.reduceAdd, Nat.reduceSub, Nat.reduceMul, Nat.reduceEqDiff, Nat.reduceLT, Nat.reduceLeDiff, Nat.reduceBEq, reduceIte, reduceCtorEq, Int.reduceToNat, Int.reduceLE, Int.reduceLT, Int.reduceBEq, Int.reduceBNe]))
  (refine callC_of [0] [] (by decide) (by simp only [go_sem, Nat.reduceAdd, Nat.reduceSub, Nat.reduceMul, Nat.reduceEqDiff, Nat.reduceLT, Nat.reduceLeDiff, Nat.reduceBEq, reduceIte, reduceCtorEq, Int.reduceToNat, Int.reduceLE, Int.reduceLT, Int.reduceBEq, Int.reduceBNe] <;> rfl) (by simp only [go_sem, Nat.reduceAdd, Nat.reduceSub, Nat.reduceMul, Nat.reduceEqDiff, Nat.reduceLT, Nat.reduceLeDiff, Nat.reduceBEq, reduceIte, reduceCtorEq, Int.reduceToNat, Int.reduceLE, Int.reduceLT, Int.reduceBEq, Int.reduceBNe] <;> rfl) (zone_ok l hl 0 (by omega) (by omega)) ?_; rintro _ _ ⟨at1, z, rfl, rfl, h0, h1, hz, hzl⟩; refine ⟨.inl rfl, ?_⟩; simp only [go_sem, Nat.reduceAdd, Nat.reduceSub, Nat.reduceMul, Nat.reduceEqDiff, Nat.reduceLT, Nat.reduceLeDiff, Nat.reduceBEq, reduceIte, reduceCtorEq, Int.reduceToNat, Int.reduceLE, Int.reduceLT, Int.reduceBEq, Int.reduceBNe])
  simp only [go_sem, Nat.reduceAdd, Nat.reduceSub, Nat.reduceMul, Nat.reduceEqDiff, Nat.reduceLT, Nat.reduceLeDiff, Nat.reduceBEq, reduceIte, reduceCtorEq, Int.reduceToNat, Int.reduceLE, Int.reduceLT, Int.reduceBEq, Int.reduceBNe, tp, Zn.v]
  (refine callC_of [0] [] (by decide) (by simp only [go_sem, Nat.reduceAdd, Nat.reduceSub, Nat.reduceMul, Nat.reduceEqDiff, Nat.reduceLT, Nat.reduceLeDiff, Nat.reduceBEq, reduceIte, reduceCtorEq, Int.reduceToNat, Int.reduceLE, Int.reduceLT, Int.reduceBEq, Int.reduceBNe] <;> rfl) (by simp only [go_sem, Nat.reduceAdd, Nat.reduceSub, Nat.reduceMul, Nat.reduceEqDiff, Nat.reduceLT, Nat.reduceLeDiff, Nat.reduceBEq, reduceIte, reduceCtorEq, Int.reduceToNat, Int.reduceLE, Int.reduceLT, Int.reduceBEq, Int.reduceBNe] <;> rfl) (tHol_ok l hl false at1 h0 h1) ?_; rintro _ _ ⟨at2, hs, h0, h1, hhl, hhv, rfl, rfl⟩; refine ⟨.inl rfl, ?_⟩; simp only [go_sem, Nat.reduceAdd, Nat.reduceSub, Nat.reduceMul, Nat.reduceEqDiff, Nat.reduceLT, Nat.reduceLeDiff, Nat.reduceBEq, reduceIte, reduceCtorEq, Int.reduceToNat, Int.reduceLE, Int.reduceLT, Int.reduceBEq, Int.reduceBNe])
  (refine callC_of [0] [] (by decide) (by simp only [go_sem, Nat.reduceAdd, Nat.reduceSub, Nat.reduceMul, Nat.reduceEqDiff, Nat.reduceLT, Nat.reduceLeDiff, Nat.reduceBEq, reduceIte, reduceCtorEq, Int.reduceToNat, Int.reduceLE, Int.reduceLT, Int.reduceBEq, Int.reduceBNe] <;> rfl) (by simp only [go_sem, Nat.reduceAdd, Nat.reduceSub, Nat.reduceMul, Nat.reduceEqDiff, Nat.reduceLT, Nat.reduceLeDiff, Nat.reduceBEq, reduceIte, reduceCtorEq, Int.reduceToNat, Int.reduceLE, Int.reduceLT, Int.reduceBEq, Int.reduceBNe] <;> rfl) (windows_ok l hl false at2 h0 h1) ?_; rintro _ _ ⟨at3, ws, rfl, rfl, h0, h1, hwl, hws⟩; refine ⟨.inl rfl, ?_⟩; simp only [go_sem, Nat.reduceAdd, Nat.reduceSub, Nat.reduceMul, Nat.reduceEqDiff, Nat.reduceLT, Nat.reduceLeDiff, Nat.reduceBEq, reduceIte, reduceCtorEq, Int.reduceToNat, Int.reduceLE, Int.reduceLT, Int.reduceBEq, Int.reduceBNe])
  simp only [go_sem, Nat.reduceAdd, Nat.reduceSub, Nat.reduceMul, Nat.reduceEqDiff, Nat.reduceLT, Nat.reduceLeDiff, Nat.reduceBEq, reduceIte, reduceCtorEq, Int.reduceToNat, Int.reduceLE, Int.reduceLT, Int.reduceBEq, Int.reduceBNe, tp]
  (refine callC_of [0] [] (by decide) (by simp only [go_sem, Nat.reduceAdd, Nat.reduceSub, Nat.reduceMul, Nat.reduceEqDiff, Nat.reduceLT, Nat.reduceLeDiff, Nat.reduceBEq, reduceIte, reduceCtorEq, Int.reduceToNat, Int.reduceLE, Int.reduceLT, Int.reduceBEq, Int.reduceBNe] <;> rfl) (by simp only [go_sem, Nat.reduceAdd, Nat.reduceSub, Nat.reduceMul, Nat.reduceEqDiff, Nat.reduceLT, Nat.reduceLeDiff, Nat.reduceBEq, reduceIte, reduceCtorEq, Int.reduceToNat, Int.reduceLE, Int.reduceLT, Int.reduceBEq, Int.reduceBNe] <;> rfl) (pieces_ok l hl 3 (by omega) (by omega) at3 h0 h1) ?_; rintro _ _ ⟨at4, ps, rfl, rfl, h0, h1, hpl, hps⟩; refine ⟨.inl rfl, ?_⟩; simp only [go_sem, Nat.reduceAdd, Nat.reduceSub, Nat.reduceMul, Nat.reduceEqDiff, Nat.reduceLT, Nat.reduceLeDiff, Nat.reduceBEq, reduceIte, reduceCtorEq, Int.reduceToNat, Int.reduceLE, Int.reduceLT, Int.reduceBEq, Int.reduceBNe])
  have hws := hws rfl
  simp only [go_sem, Nat.reduceAdd, Nat.reduceSub, Nat.reduceMul, Nat.reduceEqDiff, Nat.reduceLT, Nat.reduceLeDiff, Nat.reduceBEq, reduceIte, reduceCtorEq, Int.reduceToNat, Int.reduceLE, Int.reduceLT, Int.reduceBEq, Int.reduceBNe, tp]
  (refine Cl.frz [some 4, some 2] [ 1, 3] rfl rfl (by simp only [go_sem, Nat.reduceAdd, Nat.reduceSub, Nat.reduceMul, Nat.reduceEqDiff, Nat.reduceLT, Nat.reduceLeDiff, Nat.reduceBEq, reduceIte, reduceCtorEq, Int.reduceToNat, Int.reduceLE, Int.reduceLT, Int.reduceBEq, Int.reduceBNe] <;> rfl) ?_; simp only [go_sem, Nat.reduceAdd, Nat.reduceSub, Nat.reduceMul, Nat.reduceEqDiff, Nat.reduceLT, Nat.reduceLeDiff, Nat.reduceBEq, reduceIte, reduceCtorEq, Int.reduceToNat, Int.reduceLE, Int.reduceLT, Int.reduceBEq, Int.reduceBNe])
  (refine Cl.here ?_; simp only [go_sem, Nat.reduceAdd, Nat.reduceSub, Nat.reduceMul, Nat.reduceEqDiff, Nat.reduceLT, Nat.reduceLeDiff, Nat.reduceBEq, reduceIte, reduceCtorEq, Int.reduceToNat, Int.reduceLE, Int.reduceLT, Int.reduceBEq, Int.reduceBNe])
  (refine Cl.here ?_; simp only [go_sem, Nat.reduceAdd, Nat.reduceSub, Nat.reduceMul, Nat.reduceEqDiff, Nat.reduceLT, Nat.reduceLeDiff, Nat.reduceBEq, reduceIte, reduceCtorEq, Int.reduceToNat, Int.reduceLE, Int.reduceLT, Int.reduceBEq, Int.reduceBNe])
  have hWl : ws.length ≤ 3 := hwl
  refine avcW_loop (fun env rows => ∃ (i : Nat), i ≤ ws.length ∧ env = [(4, .ref 0 1 0 0), (5, .pure 6 (els hs)), (6, .own 1 ws.length 0 ws.length), (7, .pure 4 (els ps)), (8, .int .i64 i)] ∧ rows = [.live 38 2 [[.int .i64 z.off, .pure 2 (els z.ch)]], .live 25 7 (els (wsI ⟨#[]⟩ ws i))])
    (fun env _ => match slot env 8 with | .int _ j => (ws.length - j).toNat | _ => 0) ?_ ?_
  · exact Cl.here ⟨0, by omega, rfl, by simp [wsI]⟩
  · rintro env rows ⟨i, hi, rfl, rfl⟩
    have hwi : IntKind.i64.wrap ((i : Int) + 1) = ((i + 1 : Nat) : Int) := by rw [wrap_i64 (by omega) (by omega)]; omega
    simp only [go_sem, Nat.reduceAdd, Nat.reduceSub, Nat.reduceMul, Nat.reduceEqDiff, Nat.reduceLT, Nat.reduceLeDiff, Nat.reduceBEq, reduceIte, reduceCtorEq, Int.reduceToNat, Int.reduceLE, Int.reduceLT, Int.reduceBEq, Int.reduceBNe, a4, a4r0, a4r1, a4r2, a4r3, a4r4, a4r5, a4r6, a4r7, a4r8, a4r9, a4r10, a4r11, a4r12, a4r13, a4r14, a4r15, a4r16, a4r17, a4r18, a4r19, a4r20, a4r21, a4r22, a4r23, a4r24, a4r25, a4r26, a4r27, a4r28]
    (refine Cl.here ?_; simp only [go_sem, Nat.reduceAdd, Nat.reduceSub, Nat.reduceMul, Nat.reduceEqDiff, Nat.reduceLT, Nat.reduceLeDiff, Nat.reduceBEq, reduceIte, reduceCtorEq, Int.reduceToNat, Int.reduceLE, Int.reduceLT, Int.reduceBEq, Int.reduceBNe])
    refine condW_intro ?_ ?_ <;> intro hg <;> simp only [decide_eq_true_eq, decide_eq_false_iff_not, beq_iff_eq, beq_eq_false_iff_ne, bne_iff_ne, bne_eq_false_iff_eq, Bool.not_eq_true', Bool.not_eq_false', Int.not_lt, Int.not_le, ne_eq, Bool.and_eq_true, Bool.or_eq_true, Bool.or_eq_false_iff, Bool.and_eq_false_iff] at hg <;> simp only [go_sem, Nat.reduceAdd, Nat.reduceSub, Nat.reduceMul, Nat.reduceEqDiff, Nat.reduceLT, Nat.reduceLeDiff, Nat.reduceBEq, reduceIte, reduceCtorEq, Int.reduceToNat, Int.reduceLE, Int.reduceLT, Int.reduceBEq, Int.reduceBNe, a4, a4r0, a4r1, a4r2, a4r3, a4r4, a4r5, a4r6, a4r7, a4r8, a4r9, a4r10, a4r11, a4r12, a4r13, a4r14, a4r15, a4r16, a4r17, a4r18, a4r19, a4r20, a4r21, a4r22, a4r23, a4r24, a4r25, a4r26, a4r27, a4r28]
    · have hlt : i < ws.length := by omega
      have i0 : (0 : Int) ≤ i := by omega
      (refine Cl.here ?_; simp only [go_sem, Nat.reduceAdd, Nat.reduceSub, Nat.reduceMul, Nat.reduceEqDiff, Nat.reduceLT, Nat.reduceLeDiff, Nat.reduceBEq, reduceIte, reduceCtorEq, Int.reduceToNat, Int.reduceLE, Int.reduceLT, Int.reduceBEq, Int.reduceBNe])
      have hWi := wsI_length ⟨#[]⟩ ws i
      refine ⟨by omega, i0, by omega, by omega, ?_⟩
      try simp only [Int.toNat_natCast]
      (refine Cl.here ?_; simp only [go_sem, Nat.reduceAdd, Nat.reduceSub, Nat.reduceMul, Nat.reduceEqDiff, Nat.reduceLT, Nat.reduceLeDiff, Nat.reduceBEq, reduceIte, reduceCtorEq, Int.reduceToNat, Int.reduceLE, Int.reduceLT, Int.reduceBEq, Int.reduceBNe])
      rw [hwi, wsI_set hlt]
      refine Cl.here ⟨⟨i + 1, by omega, rfl, rfl⟩, ?_⟩
      simp only [go_sem, Nat.reduceAdd, Nat.reduceSub, Nat.reduceMul, Nat.reduceEqDiff, Nat.reduceLT, Nat.reduceLeDiff, Nat.reduceBEq, reduceIte, reduceCtorEq, Int.reduceToNat, Int.reduceLE, Int.reduceLT, Int.reduceBEq, Int.reduceBNe]
      omega
    · obtain rfl : i = ws.length := by omega
      obtain ⟨W, hW⟩ : ∃ W, W = wsI ⟨#[]⟩ ws ws.length := ⟨_, rfl⟩
      have hW2 : W = ws.map (sg ⟨#[]⟩) := by rw [hW, wsI, List.take_length, List.drop_length]; simp
      have hWn : W.length = ws.length := by rw [hW2]; simp
      rw [← hW, ← hWn]
      (refine Cl.frz [some 0] [ 1] rfl rfl (by simp only [go_sem, Nat.reduceAdd, Nat.reduceSub, Nat.reduceMul, Nat.reduceEqDiff, Nat.reduceLT, Nat.reduceLeDiff, Nat.reduceBEq, reduceIte, reduceCtorEq, Int.reduceToNat, Int.reduceLE, Int.reduceLT, Int.reduceBEq, Int.reduceBNe] <;> rfl) ?_; simp only [go_sem, Nat.reduceAdd, Nat.reduceSub, Nat.reduceMul, Nat.reduceEqDiff, Nat.reduceLT, Nat.reduceLeDiff, Nat.reduceBEq, reduceIte, reduceCtorEq, Int.reduceToNat, Int.reduceLE, Int.reduceLT, Int.reduceBEq, Int.reduceBNe])
      refine Cl.here (avcW_of _ ?_)
      simp only [go_sem, Nat.reduceAdd, Nat.reduceSub, Nat.reduceMul, Nat.reduceEqDiff, Nat.reduceLT, Nat.reduceLeDiff, Nat.reduceBEq, reduceIte, reduceCtorEq, Int.reduceToNat, Int.reduceLE, Int.reduceLT, Int.reduceBEq, Int.reduceBNe]
      have hWok : winsP W = true := by
        rw [hW2]
        unfold winsP at *
        rw [List.all_eq_true] at *
        intro w hw
        obtain ⟨x, hx, rfl⟩ := List.mem_map.1 hw
        have := hws x hx
        unfold winP at *
        simp only [Bool.and_eq_true, sg] at *
        exact ⟨⟨this.1.1, by simp [noG, sEq_refl]⟩, this.2⟩
      have hWg : ∀ w ∈ W, noG w = true := by
        rw [hW2]
        intro w hw
        obtain ⟨x, hx, rfl⟩ := List.mem_map.1 hw
        exact sEq_refl _
      have hW3 : W.length ≤ 3 := by omega
      clear hW hW2 hWn hws
      have hhok := hhv rfl
      have hvp : validP hs = 0 := validP_mk' (by omega) hhok
      have hvl : vldE z hs W = 0 := by unfold vldE; rw [if_pos hz, if_pos hvp, if_neg (by omega), if_pos hWok]
      have hv1 : ∀ w ∈ W, vldE z hs [w] = 0 := fun w hw => by
        have : winsP [w] = true := by
          unfold winsP at *
          rw [List.all_eq_true] at hWok
          simp [hWok w hw]
        unfold vldE; rw [if_pos hz, if_pos hvp, if_neg (by simp), if_pos this]
      have hpe := pcE_made (by omega) hps
      have hM := Mark_ok z hs (by omega) W (by omega) ps (by omega)
      have hme : markE z hs W ps = 0 := by unfold markE; rw [if_pos hvl, hpe]
      simp only [hme, if_true] at hM
      refine callC_of [] [] (by decide) rfl rfl hM ?_
      rintro _ _ ⟨rfl, rfl⟩
      refine ⟨.inl rfl, ?_⟩
      simp only [go_sem, Nat.reduceAdd, Nat.reduceSub, Nat.reduceMul, Nat.reduceEqDiff, Nat.reduceLT, Nat.reduceLeDiff, Nat.reduceBEq, reduceIte, reduceCtorEq, Int.reduceToNat, Int.reduceLE, Int.reduceLT, Int.reduceBEq, Int.reduceBNe]
      have hkb := fun t => covK_bd z hs W W.length t
      have hkb3 : ∀ t, 0 ≤ covK z hs W W.length t ∧ covK z hs W W.length t ≤ 3 := fun t => ⟨(hkb t).1, by have := (hkb t).2; omega⟩
      have hpos := fun m (hm : m ∈ markL z hs W ps) => markL_pos hm
      have htot : pmSum (markL z hs W ps) = spnS (covK z hs W W.length) ps := by
        rw [markL_sum fun p hp => (hps p hp).1]
        unfold spnS
        congr 1
        refine List.map_congr_left fun p _ => spn_ext fun i _ => wonK_free hWg _
      have hSb := spnS_bd hkb3 hps
      generalize markL z hs W ps = M at hpos htot ⊢
      refine avc_loop (fun env rows => ∃ (i : Nat), i ≤ ps.length ∧ env = [(4, .ref 0 1 0 0), (5, .pure 6 (els hs)), (6, .pure 7 (els W)), (7, .pure 4 (els ps)), (9, .own 1 M.length 0 M.length), (11, .int .i64 (spnS (covK z hs W W.length) (ps.take i))), (12, .int .i64 i)] ∧ rows = [.live 38 2 [[.int .i64 z.off, .pure 2 (els z.ch)]], .live 52 3 (els M)])
        (fun env _ => match slot env 12 with | .int _ j => (ps.length - j).toNat | _ => 0) ?_ ?_
      · exact Cl.here ⟨0, by omega, rfl, rfl⟩
      · rintro env rows ⟨i, hi, rfl, rfl⟩
        have hwi : IntKind.i64.wrap ((i : Int) + 1) = ((i + 1 : Nat) : Int) := by rw [wrap_i64 (by omega) (by omega)]; omega
        simp only [go_sem, Nat.reduceAdd, Nat.reduceSub, Nat.reduceMul, Nat.reduceEqDiff, Nat.reduceLT, Nat.reduceLeDiff, Nat.reduceBEq, reduceIte, reduceCtorEq, Int.reduceToNat, Int.reduceLE, Int.reduceLT, Int.reduceBEq, Int.reduceBNe, a4, a4r0, a4r1, a4r2, a4r3, a4r4, a4r5, a4r6, a4r7, a4r8, a4r9, a4r10, a4r11, a4r12, a4r13, a4r14, a4r15, a4r16, a4r17, a4r18, a4r19, a4r20, a4r21, a4r22, a4r23, a4r24, a4r25, a4r26, a4r27, a4r28]
        refine condC_intro ?_ ?_ <;> intro hg <;> simp only [decide_eq_true_eq, decide_eq_false_iff_not, beq_iff_eq, beq_eq_false_iff_ne, bne_iff_ne, bne_eq_false_iff_eq, Bool.not_eq_true', Bool.not_eq_false', Int.not_lt, Int.not_le, ne_eq, Bool.and_eq_true, Bool.or_eq_true, Bool.or_eq_false_iff, Bool.and_eq_false_iff] at hg <;> simp only [go_sem, Nat.reduceAdd, Nat.reduceSub, Nat.reduceMul, Nat.reduceEqDiff, Nat.reduceLT, Nat.reduceLeDiff, Nat.reduceBEq, reduceIte, reduceCtorEq, Int.reduceToNat, Int.reduceLE, Int.reduceLT, Int.reduceBEq, Int.reduceBNe, a4, a4r0, a4r1, a4r2, a4r3, a4r4, a4r5, a4r6, a4r7, a4r8, a4r9, a4r10, a4r11, a4r12, a4r13, a4r14, a4r15, a4r16, a4r17, a4r18, a4r19, a4r20, a4r21, a4r22, a4r23, a4r24, a4r25, a4r26, a4r27, a4r28]
        · have hlt : i < ps.length := by omega
          obtain ⟨hpo, hpl2⟩ := hps _ (List.getElem_mem hlt)
          unfold pcOk at hpo
          have htk := spnS_take (f := covK z hs W W.length) hlt
          have hS0 := spnS_bd (ps := ps.take i) hkb3 fun p hp => hps p (List.mem_of_mem_take hp)
          rw [List.length_take] at hS0
          have hgp : (els ps).getD i [] = [.int .i64 ps[i].day, .int .i64 ps[i].fr, .int .i64 ps[i].to, .str ps[i].band] := by rw [els_getD hlt, cel_pc]
          have i0 : (0 : Int) ≤ i := by omega
          have i1 : (i : Int) < ps.length := by omega
          generalize ps[i] = p at hpo hpl2 htk hgp
          generalize spnS (covK z hs W W.length) (ps.take i) = S0 at hS0 htk ⊢
          have hpn : (pcN p : Int) = p.to - p.fr := by unfold pcN; omega
          have hsb := fun k => spn_bd (f := covK z hs W W.length) (fr := p.fr) (B := 3) (k := k) fun i _ => hkb3 _
          simp only [go_sem, Nat.reduceAdd, Nat.reduceSub, Nat.reduceMul, Nat.reduceEqDiff, Nat.reduceLT, Nat.reduceLeDiff, Nat.reduceBEq, reduceIte, reduceCtorEq, Int.reduceToNat, Int.reduceLE, Int.reduceLT, Int.reduceBEq, Int.reduceBNe, Int.toNat_natCast, hgp, i0, i1]
          refine avc_loop (fun env rows => ∃ (k : Nat), k ≤ pcN p ∧ env = [(4, .ref 0 1 0 0), (5, .pure 6 (els hs)), (6, .pure 7 (els W)), (7, .pure 4 (els ps)), (9, .own 1 M.length 0 M.length), (11, .int .i64 (S0 + spn (covK z hs W W.length) p.fr k)), (12, .int .i64 i), (13, .int .i64 (p.fr + k))] ∧ rows = [.live 38 2 [[.int .i64 z.off, .pure 2 (els z.ch)]], .live 52 3 (els M)])
            (fun env _ => match slot env 13 with | .int _ t => (p.to - t).toNat | _ => 0) ?_ ?_
          · exact Cl.here ⟨0, by omega, by simp [spn], rfl⟩
          · rintro env rows ⟨k, hk, rfl, rfl⟩
            simp only [go_sem, Nat.reduceAdd, Nat.reduceSub, Nat.reduceMul, Nat.reduceEqDiff, Nat.reduceLT, Nat.reduceLeDiff, Nat.reduceBEq, reduceIte, reduceCtorEq, Int.reduceToNat, Int.reduceLE, Int.reduceLT, Int.reduceBEq, Int.reduceBNe, a4, a4r0, a4r1, a4r2, a4r3, a4r4, a4r5, a4r6, a4r7, a4r8, a4r9, a4r10, a4r11, a4r12, a4r13, a4r14, a4r15, a4r16, a4r17, a4r18, a4r19, a4r20, a4r21, a4r22, a4r23, a4r24, a4r25, a4r26, a4r27, a4r28, Int.toNat_natCast, hgp, i0, i1]
            refine condC_intro ?_ ?_ <;> intro hg3 <;> simp only [decide_eq_true_eq, decide_eq_false_iff_not, beq_iff_eq, beq_eq_false_iff_ne, bne_iff_ne, bne_eq_false_iff_eq, Bool.not_eq_true', Bool.not_eq_false', Int.not_lt, Int.not_le, ne_eq, Bool.and_eq_true, Bool.or_eq_true, Bool.or_eq_false_iff, Bool.and_eq_false_iff] at hg3 <;> simp only [go_sem, Nat.reduceAdd, Nat.reduceSub, Nat.reduceMul, Nat.reduceEqDiff, Nat.reduceLT, Nat.reduceLeDiff, Nat.reduceBEq, reduceIte, reduceCtorEq, Int.reduceToNat, Int.reduceLE, Int.reduceLT, Int.reduceBEq, Int.reduceBNe, a4, a4r0, a4r1, a4r2, a4r3, a4r4, a4r5, a4r6, a4r7, a4r8, a4r9, a4r10, a4r11, a4r12, a4r13, a4r14, a4r15, a4r16, a4r17, a4r18, a4r19, a4r20, a4r21, a4r22, a4r23, a4r24, a4r25, a4r26, a4r27, a4r28]
            · have hkl : k < pcN p := by omega
              have hsk := hsb k
              have hs1 : spn (covK z hs W W.length) p.fr (k + 1) = spn (covK z hs W W.length) p.fr k + covK z hs W W.length (p.fr + k) := rfl
              generalize htt : p.fr + (k : Int) = t at hg3 hs1 ⊢
              have hw15 : IntKind.i64.wrap (t + 1) = p.fr + ((k + 1 : Nat) : Int) := by rw [wrap_i64 (by omega) (by omega)]; omega
              have hCP : ∀ j (hj : j < W.length), CovP z hs W[j] t = covT z hs (gw W j) t := fun j hj => by
                unfold CovP
                rw [hv1 _ (List.getElem_mem hj), gw_get hj]
                simp; omega
              have hSk : 0 ≤ S0 + spn (covK z hs W W.length) p.fr k ∧ S0 + spn (covK z hs W W.length) p.fr k ≤ 10000 := by omega
              have hE : S0 + spn (covK z hs W W.length) p.fr (k + 1) = S0 + spn (covK z hs W W.length) p.fr k + covK z hs W W.length t := by omega
              generalize S0 + spn (covK z hs W W.length) p.fr k = S1 at hSk hE ⊢
              refine avc_loop (fun env rows => ∃ (j : Nat), j ≤ W.length ∧ env = [(4, .ref 0 1 0 0), (5, .pure 6 (els hs)), (6, .pure 7 (els W)), (7, .pure 4 (els ps)), (9, .own 1 M.length 0 M.length), (11, .int .i64 (S1 + covK z hs W j t)), (12, .int .i64 i), (13, .int .i64 t), (14, .int .i64 j)] ∧ rows = [.live 38 2 [[.int .i64 z.off, .pure 2 (els z.ch)]], .live 52 3 (els M)])
                (fun env _ => match slot env 14 with | .int _ j => (W.length - j).toNat | _ => 0) ?_ ?_
              · exact Cl.here ⟨0, by omega, by simp [covK, sumJ], rfl⟩
              · rintro env rows ⟨j, hj, rfl, rfl⟩
                have hwj : IntKind.i64.wrap ((j : Int) + 1) = ((j + 1 : Nat) : Int) := by rw [wrap_i64 (by omega) (by omega)]; omega
                simp only [go_sem, Nat.reduceAdd, Nat.reduceSub, Nat.reduceMul, Nat.reduceEqDiff, Nat.reduceLT, Nat.reduceLeDiff, Nat.reduceBEq, reduceIte, reduceCtorEq, Int.reduceToNat, Int.reduceLE, Int.reduceLT, Int.reduceBEq, Int.reduceBNe, a4, a4r0, a4r1, a4r2, a4r3, a4r4, a4r5, a4r6, a4r7, a4r8, a4r9, a4r10, a4r11, a4r12, a4r13, a4r14, a4r15, a4r16, a4r17, a4r18, a4r19, a4r20, a4r21, a4r22, a4r23, a4r24, a4r25, a4r26, a4r27, a4r28]
                refine condC_intro ?_ ?_ <;> intro hg4 <;> simp only [decide_eq_true_eq, decide_eq_false_iff_not, beq_iff_eq, beq_eq_false_iff_ne, bne_iff_ne, bne_eq_false_iff_eq, Bool.not_eq_true', Bool.not_eq_false', Int.not_lt, Int.not_le, ne_eq, Bool.and_eq_true, Bool.or_eq_true, Bool.or_eq_false_iff, Bool.and_eq_false_iff] at hg4 <;> simp only [go_sem, Nat.reduceAdd, Nat.reduceSub, Nat.reduceMul, Nat.reduceEqDiff, Nat.reduceLT, Nat.reduceLeDiff, Nat.reduceBEq, reduceIte, reduceCtorEq, Int.reduceToNat, Int.reduceLE, Int.reduceLT, Int.reduceBEq, Int.reduceBNe, a4, a4r0, a4r1, a4r2, a4r3, a4r4, a4r5, a4r6, a4r7, a4r8, a4r9, a4r10, a4r11, a4r12, a4r13, a4r14, a4r15, a4r16, a4r17, a4r18, a4r19, a4r20, a4r21, a4r22, a4r23, a4r24, a4r25, a4r26, a4r27, a4r28]
                · have hjl : j < W.length := by omega
                  have hc := hCP j hjl
                  have hck := covK_succ z hs W j t
                  have hcb := covK_bd z hs W j t
                  refine ⟨by omega, by omega, ?_⟩
                  try simp only [Int.toNat_natCast]
                  rw [els_getD hjl]
                  have hC := Covers_ok z hs (by omega) W[j] t
                  rw [hc] at hC
                  unfold Zn.v at hC
                  rw [cel_win] at hC
                  simp only [go_sem, Nat.reduceAdd, Nat.reduceSub, Nat.reduceMul, Nat.reduceEqDiff, Nat.reduceLT, Nat.reduceLeDiff, Nat.reduceBEq, reduceIte, reduceCtorEq, Int.reduceToNat, Int.reduceLE, Int.reduceLT, Int.reduceBEq, Int.reduceBNe, cel_win]
                  refine callD_det hC rfl rfl ?_
                  cases hcv : covT z hs (gw W j) t
                  · rw [hcv, if_neg (by simp)] at hck
                    simp only [go_sem, Nat.reduceAdd, Nat.reduceSub, Nat.reduceMul, Nat.reduceEqDiff, Nat.reduceLT, Nat.reduceLeDiff, Nat.reduceBEq, reduceIte, reduceCtorEq, Int.reduceToNat, Int.reduceLE, Int.reduceLT, Int.reduceBEq, Int.reduceBNe, hwj]
                    refine Cl.here ⟨⟨j + 1, by omega, by rw [hck, Int.add_zero], rfl⟩, ?_⟩
                    simp only [go_sem, Nat.reduceAdd, Nat.reduceSub, Nat.reduceMul, Nat.reduceEqDiff, Nat.reduceLT, Nat.reduceLeDiff, Nat.reduceBEq, reduceIte, reduceCtorEq, Int.reduceToNat, Int.reduceLE, Int.reduceLT, Int.reduceBEq, Int.reduceBNe]
                    omega
                  · rw [hcv, if_pos rfl] at hck
                    have hwS : IntKind.i64.wrap (S1 + covK z hs W j t + 1) = S1 + covK z hs W (j + 1) t := by rw [wrap_i64 (by omega) (by omega)]; omega
                    simp only [go_sem, Nat.reduceAdd, Nat.reduceSub, Nat.reduceMul, Nat.reduceEqDiff, Nat.reduceLT, Nat.reduceLeDiff, Nat.reduceBEq, reduceIte, reduceCtorEq, Int.reduceToNat, Int.reduceLE, Int.reduceLT, Int.reduceBEq, Int.reduceBNe, hwj, hwS]
                    refine Cl.here ⟨⟨j + 1, by omega, rfl, rfl⟩, ?_⟩
                    simp only [go_sem, Nat.reduceAdd, Nat.reduceSub, Nat.reduceMul, Nat.reduceEqDiff, Nat.reduceLT, Nat.reduceLeDiff, Nat.reduceBEq, reduceIte, reduceCtorEq, Int.reduceToNat, Int.reduceLE, Int.reduceLT, Int.reduceBEq, Int.reduceBNe]
                    omega
                · obtain rfl : j = W.length := by omega
                  simp only [go_sem, Nat.reduceAdd, Nat.reduceSub, Nat.reduceMul, Nat.reduceEqDiff, Nat.reduceLT, Nat.reduceLeDiff, Nat.reduceBEq, reduceIte, reduceCtorEq, Int.reduceToNat, Int.reduceLE, Int.reduceLT, Int.reduceBEq, Int.reduceBNe, hw15]
                  refine Cl.here ⟨⟨k + 1, by omega, by rw [hE], rfl⟩, ?_⟩
                  simp only [go_sem, Nat.reduceAdd, Nat.reduceSub, Nat.reduceMul, Nat.reduceEqDiff, Nat.reduceLT, Nat.reduceLeDiff, Nat.reduceBEq, reduceIte, reduceCtorEq, Int.reduceToNat, Int.reduceLE, Int.reduceLT, Int.reduceBEq, Int.reduceBNe]
                  omega
            · obtain rfl : k = pcN p := by omega
              rw [hwi]
              refine Cl.here ⟨⟨i + 1, by omega, by rw [htk], rfl⟩, ?_⟩
              simp only [go_sem, Nat.reduceAdd, Nat.reduceSub, Nat.reduceMul, Nat.reduceEqDiff, Nat.reduceLT, Nat.reduceLeDiff, Nat.reduceBEq, reduceIte, reduceCtorEq, Int.reduceToNat, Int.reduceLE, Int.reduceLT, Int.reduceBEq, Int.reduceBNe]
              omega
        · obtain rfl : i = ps.length := by omega
          rw [List.take_length, ← htot]
          rw [← htot] at hSb
          have hML := pmSum_len hpos
          refine avc_loop (fun env rows => ∃ (i : Nat), i ≤ M.length ∧ pmSum (M.drop i) ≤ 10000 ∧ env = [(9, .own 0 M.length 0 M.length), (11, .int .i64 (pmSum (M.drop i))), (15, .int .i64 i)] ∧ rows = [.live 52 3 (els M)])
            (fun env _ => match slot env 15 with | .int _ j => (M.length - j).toNat | _ => 0) ?_ ?_
          · (refine Cl.tr [some 1] [] rfl rfl (by simp only [go_sem, Nat.reduceAdd, Nat.reduceSub, Nat.reduceMul, Nat.reduceEqDiff, Nat.reduceLT, Nat.reduceLeDiff, Nat.reduceBEq, reduceIte, reduceCtorEq, Int.reduceToNat, Int.reduceLE, Int.reduceLT, Int.reduceBEq, Int.reduceBNe] <;> rfl) ?_; simp only [go_sem, Nat.reduceAdd, Nat.reduceSub, Nat.reduceMul, Nat.reduceEqDiff, Nat.reduceLT, Nat.reduceLeDiff, Nat.reduceBEq, reduceIte, reduceCtorEq, Int.reduceToNat, Int.reduceLE, Int.reduceLT, Int.reduceBEq, Int.reduceBNe])
            exact Cl.here ⟨0, by omega, by rw [List.drop_zero]; omega, rfl, rfl⟩
          · rintro env rows ⟨i, hi, hb, rfl, rfl⟩
            have hwi : IntKind.i64.wrap ((i : Int) + 1) = ((i + 1 : Nat) : Int) := by rw [wrap_i64 (by omega) (by omega)]; omega
            simp only [go_sem, Nat.reduceAdd, Nat.reduceSub, Nat.reduceMul, Nat.reduceEqDiff, Nat.reduceLT, Nat.reduceLeDiff, Nat.reduceBEq, reduceIte, reduceCtorEq, Int.reduceToNat, Int.reduceLE, Int.reduceLT, Int.reduceBEq, Int.reduceBNe, a4, a4r0, a4r1, a4r2, a4r3, a4r4, a4r5, a4r6, a4r7, a4r8, a4r9, a4r10, a4r11, a4r12, a4r13, a4r14, a4r15, a4r16, a4r17, a4r18, a4r19, a4r20, a4r21, a4r22, a4r23, a4r24, a4r25, a4r26, a4r27, a4r28]
            refine condC_intro ?_ ?_ <;> intro hg <;> simp only [decide_eq_true_eq, decide_eq_false_iff_not, beq_iff_eq, beq_eq_false_iff_ne, bne_iff_ne, bne_eq_false_iff_eq, Bool.not_eq_true', Bool.not_eq_false', Int.not_lt, Int.not_le, ne_eq, Bool.and_eq_true, Bool.or_eq_true, Bool.or_eq_false_iff, Bool.and_eq_false_iff] at hg <;> simp only [go_sem, Nat.reduceAdd, Nat.reduceSub, Nat.reduceMul, Nat.reduceEqDiff, Nat.reduceLT, Nat.reduceLeDiff, Nat.reduceBEq, reduceIte, reduceCtorEq, Int.reduceToNat, Int.reduceLE, Int.reduceLT, Int.reduceBEq, Int.reduceBNe, a4, a4r0, a4r1, a4r2, a4r3, a4r4, a4r5, a4r6, a4r7, a4r8, a4r9, a4r10, a4r11, a4r12, a4r13, a4r14, a4r15, a4r16, a4r17, a4r18, a4r19, a4r20, a4r21, a4r22, a4r23, a4r24, a4r25, a4r26, a4r27, a4r28]
            · have hlt : i < M.length := by omega
              have hdr := pmSum_drop hlt
              have hm1 := hpos _ (List.getElem_mem hlt)
              have hnn := pmSum_nn (M := M.drop (i + 1)) fun m hm => hpos m (List.mem_of_mem_drop hm)
              have hgm : (els M).getD i [] = [.int .i64 M[i].day, .str M[i].name, .int .i64 M[i].min] := by rw [els_getD hlt, cel_pm]
              have i0 : (0 : Int) ≤ i := by omega
              have i1 : (i : Int) < M.length := by omega
              generalize M[i] = m at hdr hm1 hgm
              refine ⟨i0, i1, ?_⟩
              try simp only [Int.toNat_natCast]
              rw [hgm]
              have n1 : ¬ m.min < 1 := by omega
              have hwm : IntKind.i64.wrap (pmSum (M.drop i) - m.min) = pmSum (M.drop (i + 1)) := by rw [wrap_i64 (by omega) (by omega)]; omega
              simp only [go_sem, Nat.reduceAdd, Nat.reduceSub, Nat.reduceMul, Nat.reduceEqDiff, Nat.reduceLT, Nat.reduceLeDiff, Nat.reduceBEq, reduceIte, reduceCtorEq, Int.reduceToNat, Int.reduceLE, Int.reduceLT, Int.reduceBEq, Int.reduceBNe, n1, Int.toNat_natCast, hgm, i0, i1, hwm, hwi]
              refine Cl.here ⟨⟨i + 1, by omega, by omega, rfl, rfl⟩, ?_⟩
              simp only [go_sem, Nat.reduceAdd, Nat.reduceSub, Nat.reduceMul, Nat.reduceEqDiff, Nat.reduceLT, Nat.reduceLeDiff, Nat.reduceBEq, reduceIte, reduceCtorEq, Int.reduceToNat, Int.reduceLE, Int.reduceLT, Int.reduceBEq, Int.reduceBNe]
              omega
            · obtain rfl : i = M.length := by omega
              rw [List.drop_length, show pmSum [] = 0 from rfl]
              simp only [go_sem, Nat.reduceAdd, Nat.reduceSub, Nat.reduceMul, Nat.reduceEqDiff, Nat.reduceLT, Nat.reduceLeDiff, Nat.reduceBEq, reduceIte, reduceCtorEq, Int.reduceToNat, Int.reduceLE, Int.reduceLT, Int.reduceBEq, Int.reduceBNe]
              refine callC_det sane_ok rfl rfl ?_
              simp only [go_sem, Nat.reduceAdd, Nat.reduceSub, Nat.reduceMul, Nat.reduceEqDiff, Nat.reduceLT, Nat.reduceLeDiff, Nat.reduceBEq, reduceIte, reduceCtorEq, Int.reduceToNat, Int.reduceLE, Int.reduceLT, Int.reduceBEq, Int.reduceBNe]
              exact Cl.fin rfl rfl

end Go.Proofs.YtefemdpicjgkeaaDoor
