/- Rest: the blocks of days. -/
import Derived.Test.YtaloobgfgehhdaaGreatR6Clk
import Derived.Test.YtaloobgfgehhdaaGreatR6Sort
import Derived.Test.YtaloobgfgehhdaaGreatR5Ov4
set_option linter.unusedSimpArgs false
set_option linter.unusedVariables false
set_option linter.unusedSectionVars false
namespace Go.Proofs.YtaloobgfgehhdaaGreat
open Go Go.Abs
set_option linter.unusedSimpArgs false
set_option linter.unusedVariables false

/-- maps from numbers to structs -/
def mapV {α : Type} [Cel α] (l : List (Int × α)) : List (AVal × AVal) := l.map fun p => (.int .i64 p.1, .agg (Cel.c p.2))
def lookV {α : Type} (l : List (Int × α)) (k : Int) : Option α := (l.find? fun p => k == p.1).map (·.2)
def putV {α : Type} (k : Int) (v : α) : List (Int × α) → List (Int × α)
  | [] => [(k, v)]
  | p :: ps => if k == p.1 then (k, v) :: ps else p :: putV k v ps
section
variable {α : Type} [Cel α]
theorem mapV_clean : ∀ {l : List (Int × α)}, cleanM (mapV l) = true
  | [] => _root_.id rfl
  | p :: l => by
    have := mapV_clean (l := l)
    simp only [cleanM, mapV, List.map_map, Bool.and_eq_true] at this ⊢
    simp only [List.map_cons, cleanL, Function.comp_apply, clean, Bool.true_and, Cel.cl, Bool.and_true]
    exact this
theorem kfind_mapV {k : Int} : ∀ {l : List (Int × α)}, kfind (.int .i64 k) (mapV l) = (lookV l k).map fun v => .agg (Cel.c v)
  | [] => _root_.id rfl
  | p :: l => by
    have ih := kfind_mapV (k := k) (l := l)
    unfold mapV lookV at *
    rw [List.map_cons, kfind, List.find?_cons]
    have : isKey (.int .i64 k) (.int .i64 p.1) = (k == p.1) := by simp [isKey, acells, eqCells]
    simp only [this]
    cases hk : k == p.1
    · simpa using ih
    · rfl
theorem kput_mapV {k : Int} {v : α} : ∀ {l : List (Int × α)}, kput (.int .i64 k) (.agg (Cel.c v)) (mapV l) = mapV (putV k v l)
  | [] => _root_.id rfl
  | p :: l => by
    have ih := kput_mapV (k := k) (v := v) (l := l)
    unfold mapV at *
    rw [List.map_cons, kput, putV]
    have : isKey (.int .i64 k) (.int .i64 p.1) = (k == p.1) := by simp [isKey, acells, eqCells]
    simp only [this]
    cases hk : k == p.1
    · simp only [Bool.false_eq_true, if_false, List.map_cons, ih]
    · rfl
attribute [go_sem] mapV_clean kfind_mapV
theorem mapV_length {l : List (Int × α)} : (mapV l).length = l.length := by simp [mapV]
theorem mapV_getD {l : List (Int × α)} {i : Nat} (h : i < l.length) {d : AVal × AVal} : (mapV l).getD i d = (.int .i64 l[i].1, .agg (Cel.c l[i].2)) := by
  rw [List.getD_eq_getElem?_getD, List.getElem?_eq_getElem (by rw [mapV_length]; exact h)]
  simp [mapV]
end
section
variable {α : Type}
theorem putV_keys {k : Int} {v : α} : ∀ {l : List (Int × α)}, (putV k v l).map (·.1) = if k ∈ l.map (·.1) then l.map (·.1) else l.map (·.1) ++ [k]
  | [] => by simp [putV]
  | p :: l => by
    have ih := putV_keys (k := k) (v := v) (l := l)
    rw [putV]
    cases hk : k == p.1
    · have hk' : ¬ k = p.1 := by simpa using hk
      simp only [Bool.false_eq_true, if_false, List.map_cons, ih, List.mem_cons, hk', false_or]
      split <;> rfl
    · have hk' : k = p.1 := by simpa using hk
      simp [hk']
theorem putV_nodup {k : Int} {v : α} {l : List (Int × α)} (h : (l.map (·.1)).Nodup) : ((putV k v l).map (·.1)).Nodup := by
  rw [putV_keys]
  split
  · exact h
  · rename_i hk
    rw [List.nodup_append]
    exact ⟨h, by simp, fun a ha b hb => by rw [List.mem_singleton] at hb; subst hb; exact fun e => hk (e ▸ ha)⟩
theorem putV_mem {k : Int} {v : α} : ∀ {l : List (Int × α)} {p : Int × α}, p ∈ putV k v l → p = (k, v) ∨ p ∈ l
  | [], p, h => by simp only [putV, List.mem_singleton] at h; exact .inl h
  | q :: l, p, h => by
    rw [putV] at h
    split at h
    · rcases List.mem_cons.1 h with h | h
      · exact .inl h
      · exact .inr (List.mem_cons_of_mem _ h)
    · rcases List.mem_cons.1 h with h | h
      · exact .inr (by rw [h]; exact List.mem_cons_self)
      · exact (putV_mem h).imp_right (List.mem_cons_of_mem _)
theorem lookV_mem {l : List (Int × α)} {k : Int} {v : α} (h : lookV l k = some v) : (k, v) ∈ l := by
  unfold lookV at h
  rw [Option.map_eq_some_iff] at h
  obtain ⟨p, hp, rfl⟩ := h
  have h1 := List.find?_some hp
  have h2 := List.mem_of_find?_eq_some hp
  simp only [beq_iff_eq] at h1
  rw [h1]; exact h2
theorem putV_length {k : Int} {v : α} {l : List (Int × α)} : (putV k v l).length ≤ l.length + 1 := by
  have := congrArg List.length (putV_keys (k := k) (v := v) (l := l))
  rw [List.length_map] at this
  rw [this]
  split <;> simp
end

/-- the span of a day with one more interval -/
def addSp (M : List (Int × Iv)) (s : Spn) : List (Int × Iv) :=
  putV s.day ⟨min ((lookV M s.day).getD ⟨s.fr, s.to⟩).fr s.fr, max ((lookV M s.day).getD ⟨s.fr, s.to⟩).to s.to⟩ M
def blkF (S : List Spn) : List (Int × Iv) := S.foldl addSp []
theorem blkF_snoc {S : List Spn} {s : Spn} : blkF (S ++ [s]) = addSp (blkF S) s := by simp [blkF, List.foldl_append]
def MInv (M : List (Int × Iv)) (n : Nat) : Prop := (M.map (·.1)).Nodup ∧ M.length ≤ n ∧ ∀ p ∈ M, 0 ≤ p.2.fr ∧ p.2.fr ≤ p.2.to ∧ p.2.to ≤ 120968640
theorem addSp_inv {M : List (Int × Iv)} {n : Nat} {s : Spn} (h : MInv M n) (hs : 0 ≤ s.fr ∧ s.fr ≤ s.to ∧ s.to ≤ 120968640) : MInv (addSp M s) (n + 1) := by
  obtain ⟨h1, h2, h3⟩ := h
  unfold addSp
  refine ⟨putV_nodup h1, Nat.le_trans putV_length (by omega), fun p hp => ?_⟩
  rcases putV_mem hp with rfl | hp
  · simp only
    cases hl : lookV M s.day with
    | none => simp only [Option.getD_none]; omega
    | some v =>
      have := h3 _ (lookV_mem hl)
      simp only [Option.getD_some] at this ⊢
      omega
  · exact h3 p hp
theorem foldl_inv : ∀ (S : List Spn) {M : List (Int × Iv)} {n : Nat}, MInv M n → (∀ s ∈ S, 0 ≤ s.fr ∧ s.fr ≤ s.to ∧ s.to ≤ 120968640) → MInv (S.foldl addSp M) (n + S.length)
  | [], M, n, h, _ => h
  | s :: S, M, n, h, hS => by
    rw [List.foldl_cons, List.length_cons, show n + (S.length + 1) = n + 1 + S.length from by omega]
    exact foldl_inv S (addSp_inv h (hS s List.mem_cons_self)) fun x hx => hS x (List.mem_cons_of_mem _ hx)
theorem blkF_inv (S : List Spn) (hS : ∀ s ∈ S, 0 ≤ s.fr ∧ s.fr ≤ s.to ∧ s.to ≤ 120968640) : MInv (blkF S) S.length := by
  have := foldl_inv S (M := []) (n := 0) ⟨by simp, by simp, by simp⟩ hS
  rwa [Nat.zero_add] at this

def toBk (p : Int × Iv) : Bk := ⟨p.1, p.2.fr, p.2.to⟩
/-- the blocks of works, in order -/
def IsBlk (ws : List Wk) (B : List Bk) : Prop := B.Perm ((blkF (flatS ws)).map toBk) ∧ B.Pairwise bLt
theorem IsBlk.uniq {ws : List Wk} {B C : List Bk} (h : IsBlk ws B) (k : IsBlk ws C) : B = C :=
  List.Perm.eq_of_pairwise (fun a b _ _ h1 h2 => by unfold bLt at h1 h2; omega) h.2 k.2 (h.1.trans k.1.symm)

theorem flat_len {ws : List Wk} (hwk : ∀ w ∈ ws, wkP w) : ((flatS ws).length : Int) ≤ sumS (flatS ws) := by
  have h1 : ∀ T : List Spn, (∀ s ∈ T, ivP s.fr s.to) → (T.length : Int) ≤ sumS T := by
    intro T
    induction T with
    | nil => intro _; simp [sumS]
    | cons s T ih =>
      intro h
      have a := ih fun x hx => h x (List.mem_cons_of_mem _ hx)
      have b := h s List.mem_cons_self
      unfold ivP at b
      simp only [sumS, List.length_cons]
      omega
  exact h1 (flatS ws) fun s hs => (flat_iv hwk s hs).1
set_option maxHeartbeats 1000000 in
theorem blocks_ok (ws : List Wk) (he : spE ws = 0) : AFn Tryz.prog 28 [.pure 2 (els ws)] [] (fun v rs => ∃ B, IsBlk ws B ∧ v = .own 0 B.length 0 B.length ∧ rs = [.live 85 3 (els B)]) := by
  refine afn Tryz.func28 a28_ok (by simp [a28]) ?_
  obtain ⟨hl1, hl2, hwk, hdj, hsum⟩ := spE_zero he
  have hfl : ∀ s ∈ flatS ws, 0 ≤ s.fr ∧ s.fr ≤ s.to ∧ s.to ≤ 120968640 := fun s hs => by have := (flat_iv hwk s hs).1; unfold ivP at this; omega
  obtain ⟨hnd, hln, _⟩ := blkF_inv (flatS ws) hfl
  have hSl := flat_len hwk
  have hSl2 : (flatS ws).length ≤ 100000 := by omega
  simp only [go_sem, Nat.reduceAdd, Nat.reduceSub, Nat.reduceMul, Nat.reduceEqDiff, Nat.reduceLT, Nat.reduceLeDiff, Nat.reduceBEq, reduceIte, reduceCtorEq, Int.reduceToNat, Int.reduceLE, Int.reduceLT, Int.reduceBEq, Int.reduceBNe, a28, a28r0, a28r1, a28r2, a28r3, a28r4, a28r5, a28r6, a28r7, a28r8, a28r9, a28r10, a28r11, a28r12, a28r13, a28r14, a28r15, a28r16, a28r17, a28r18, a28r19, a28r20]
  refine avc_loop (fun env rows => ∃ i : Nat, i ≤ ws.length ∧ env = [(3, .mref 0), (14, .pure 2 (els ws)), (15, .int .i64 ws.length), (16, .int .i64 i)] ∧ rows = [.obj (.map false [.int .i64] (mapV (blkF (flatS (ws.take i)))))])
    (fun env _ => match slot env 16 with | .int _ j => (ws.length - j).toNat | _ => 0) ?_ ?_
  · exact Cl.here ⟨0, by omega, rfl, rfl⟩
  · rintro env rows ⟨i, hi, rfl, rfl⟩
    have hw : IntKind.i64.wrap ((i : Int) + 1) = ((i + 1 : Nat) : Int) := by rw [wrap_i64 (by omega) (by omega)]; omega
    simp only [go_sem, Nat.reduceAdd, Nat.reduceSub, Nat.reduceMul, Nat.reduceEqDiff, Nat.reduceLT, Nat.reduceLeDiff, Nat.reduceBEq, reduceIte, reduceCtorEq, Int.reduceToNat, Int.reduceLE, Int.reduceLT, Int.reduceBEq, Int.reduceBNe, a28, a28r0, a28r1, a28r2, a28r3, a28r4, a28r5, a28r6, a28r7, a28r8, a28r9, a28r10, a28r11, a28r12, a28r13, a28r14, a28r15, a28r16, a28r17, a28r18, a28r19, a28r20]
    refine condC_intro ?_ ?_ <;> intro hg2 <;> simp only [decide_eq_true_eq, decide_eq_false_iff_not, beq_iff_eq, beq_eq_false_iff_ne, bne_iff_ne, bne_eq_false_iff_eq, Bool.not_eq_true', Bool.not_eq_false', Int.not_lt, Int.not_le, ne_eq, Bool.and_eq_true, Bool.or_eq_true, Bool.or_eq_false_iff, Bool.and_eq_false_iff] at hg2 <;> simp only [go_sem, Nat.reduceAdd, Nat.reduceSub, Nat.reduceMul, Nat.reduceEqDiff, Nat.reduceLT, Nat.reduceLeDiff, Nat.reduceBEq, reduceIte, reduceCtorEq, Int.reduceToNat, Int.reduceLE, Int.reduceLT, Int.reduceBEq, Int.reduceBNe, a28, a28r0, a28r1, a28r2, a28r3, a28r4, a28r5, a28r6, a28r7, a28r8, a28r9, a28r10, a28r11, a28r12, a28r13, a28r14, a28r15, a28r16, a28r17, a28r18, a28r19, a28r20]
    · have hlt : i < ws.length := by omega
      refine ⟨by omega, by omega, ?_⟩
      try simp only [Int.toNat_natCast]
      have hT := flatS_take hlt
      have hwi := hl2 ws[i] (List.getElem_mem _)
      rw [els_getD hlt]
      generalize ws[i] = w at hT hwi ⊢
      generalize flatS (ws.take i) = T at *
      simp only [go_sem, Nat.reduceAdd, Nat.reduceSub, Nat.reduceMul, Nat.reduceEqDiff, Nat.reduceLT, Nat.reduceLeDiff, Nat.reduceBEq, reduceIte, reduceCtorEq, Int.reduceToNat, Int.reduceLE, Int.reduceLT, Int.reduceBEq, Int.reduceBNe, cel_wk]
      refine avc_loop (fun env rows => ∃ k : Nat, k ≤ w.iv.length ∧ env = [(3, .mref 0), (5, .ref 1 1 0 0), (14, .pure 2 (els ws)), (15, .int .i64 ws.length), (16, .int .i64 i), (21, .pure 2 (els w.iv)), (22, .int .i64 w.iv.length), (23, .int .i64 k)] ∧ rows = [.obj (.map false [.int .i64] (mapV (blkF (T ++ (flatW w).take k)))), .live 45 2 [[.int .i64 w.day, .pure 2 (els w.iv)]]])
        (fun env _ => match slot env 23 with | .int _ j => (w.iv.length - j).toNat | _ => 0) ?_ ?_
      · exact Cl.here ⟨0, by omega, rfl, by simp⟩
      · rintro env rows ⟨k, hk, rfl, rfl⟩
        have hwk2 : IntKind.i64.wrap ((k : Int) + 1) = ((k + 1 : Nat) : Int) := by rw [wrap_i64 (by omega) (by omega)]; omega
        simp only [go_sem, Nat.reduceAdd, Nat.reduceSub, Nat.reduceMul, Nat.reduceEqDiff, Nat.reduceLT, Nat.reduceLeDiff, Nat.reduceBEq, reduceIte, reduceCtorEq, Int.reduceToNat, Int.reduceLE, Int.reduceLT, Int.reduceBEq, Int.reduceBNe, a28, a28r0, a28r1, a28r2, a28r3, a28r4, a28r5, a28r6, a28r7, a28r8, a28r9, a28r10, a28r11, a28r12, a28r13, a28r14, a28r15, a28r16, a28r17, a28r18, a28r19, a28r20]
        refine condC_intro ?_ ?_ <;> intro hg3 <;> simp only [decide_eq_true_eq, decide_eq_false_iff_not, beq_iff_eq, beq_eq_false_iff_ne, bne_iff_ne, bne_eq_false_iff_eq, Bool.not_eq_true', Bool.not_eq_false', Int.not_lt, Int.not_le, ne_eq, Bool.and_eq_true, Bool.or_eq_true, Bool.or_eq_false_iff, Bool.and_eq_false_iff] at hg3 <;> simp only [go_sem, Nat.reduceAdd, Nat.reduceSub, Nat.reduceMul, Nat.reduceEqDiff, Nat.reduceLT, Nat.reduceLeDiff, Nat.reduceBEq, reduceIte, reduceCtorEq, Int.reduceToNat, Int.reduceLE, Int.reduceLT, Int.reduceBEq, Int.reduceBNe, a28, a28r0, a28r1, a28r2, a28r3, a28r4, a28r5, a28r6, a28r7, a28r8, a28r9, a28r10, a28r11, a28r12, a28r13, a28r14, a28r15, a28r16, a28r17, a28r18, a28r19, a28r20]
        · have hlt2 : k < w.iv.length := by omega
          refine ⟨by omega, by omega, ?_⟩
          try simp only [Int.toNat_natCast]
          have hW := flatW_take hlt2
          rw [els_getD hlt2]
          have hN : blkF (T ++ (flatW w).take (k + 1)) = addSp (blkF (T ++ (flatW w).take k)) ⟨w.day, w.iv[k].fr, w.iv[k].to⟩ := by
            rw [hW, ← List.append_assoc, blkF_snoc]
          generalize w.iv[k] = v at hN ⊢
          generalize blkF (T ++ (flatW w).take k) = M at hN ⊢
          unfold addSp at hN
          simp only at hN
          simp only [go_sem, Nat.reduceAdd, Nat.reduceSub, Nat.reduceMul, Nat.reduceEqDiff, Nat.reduceLT, Nat.reduceLeDiff, Nat.reduceBEq, reduceIte, reduceCtorEq, Int.reduceToNat, Int.reduceLE, Int.reduceLT, Int.reduceBEq, Int.reduceBNe, cel_iv, mapV_clean, kfind_mapV]
          have hput : ∀ a b : Int, kput (.int .i64 w.day) (.agg [.int .i64 a, .int .i64 b]) (mapV M) = mapV (putV w.day (⟨a, b⟩ : Iv) M) := fun a b => kput_mapV (v := (⟨a, b⟩ : Iv))
          cases hlk : lookV M w.day with
          | none =>
            rw [hlk] at hN
            simp only [Option.getD_none] at hN
            simp only [go_sem, Nat.reduceAdd, Nat.reduceSub, Nat.reduceMul, Nat.reduceEqDiff, Nat.reduceLT, Nat.reduceLeDiff, Nat.reduceBEq, reduceIte, reduceCtorEq, Int.reduceToNat, Int.reduceLE, Int.reduceLT, Int.reduceBEq, Int.reduceBNe, Option.map_none, hput, hwk2]
            rw [← hN]
            (refine Cl.tr [some 0, some 1] [] rfl rfl (by simp only [go_sem, Nat.reduceAdd, Nat.reduceSub, Nat.reduceMul, Nat.reduceEqDiff, Nat.reduceLT, Nat.reduceLeDiff, Nat.reduceBEq, reduceIte, reduceCtorEq, Int.reduceToNat, Int.reduceLE, Int.reduceLT, Int.reduceBEq, Int.reduceBNe] <;> rfl) ?_; simp only [go_sem, Nat.reduceAdd, Nat.reduceSub, Nat.reduceMul, Nat.reduceEqDiff, Nat.reduceLT, Nat.reduceLeDiff, Nat.reduceBEq, reduceIte, reduceCtorEq, Int.reduceToNat, Int.reduceLE, Int.reduceLT, Int.reduceBEq, Int.reduceBNe])
            refine Cl.here ⟨⟨k + 1, by omega, rfl, rfl⟩, ?_⟩
            simp only [go_sem, Nat.reduceAdd, Nat.reduceSub, Nat.reduceMul, Nat.reduceEqDiff, Nat.reduceLT, Nat.reduceLeDiff, Nat.reduceBEq, reduceIte, reduceCtorEq, Int.reduceToNat, Int.reduceLE, Int.reduceLT, Int.reduceBEq, Int.reduceBNe]
            omega
          | some x =>
            rw [hlk] at hN
            simp only [Option.getD_some] at hN
            simp only [go_sem, Nat.reduceAdd, Nat.reduceSub, Nat.reduceMul, Nat.reduceEqDiff, Nat.reduceLT, Nat.reduceLeDiff, Nat.reduceBEq, reduceIte, reduceCtorEq, Int.reduceToNat, Int.reduceLE, Int.reduceLT, Int.reduceBEq, Int.reduceBNe, Option.map_some, cel_iv, hput, hwk2]
            rw [← hN]
            (refine Cl.tr [some 0, some 1] [] rfl rfl (by simp only [go_sem, Nat.reduceAdd, Nat.reduceSub, Nat.reduceMul, Nat.reduceEqDiff, Nat.reduceLT, Nat.reduceLeDiff, Nat.reduceBEq, reduceIte, reduceCtorEq, Int.reduceToNat, Int.reduceLE, Int.reduceLT, Int.reduceBEq, Int.reduceBNe] <;> rfl) ?_; simp only [go_sem, Nat.reduceAdd, Nat.reduceSub, Nat.reduceMul, Nat.reduceEqDiff, Nat.reduceLT, Nat.reduceLeDiff, Nat.reduceBEq, reduceIte, reduceCtorEq, Int.reduceToNat, Int.reduceLE, Int.reduceLT, Int.reduceBEq, Int.reduceBNe])
            refine Cl.here ⟨⟨k + 1, by omega, rfl, rfl⟩, ?_⟩
            simp only [go_sem, Nat.reduceAdd, Nat.reduceSub, Nat.reduceMul, Nat.reduceEqDiff, Nat.reduceLT, Nat.reduceLeDiff, Nat.reduceBEq, reduceIte, reduceCtorEq, Int.reduceToNat, Int.reduceLE, Int.reduceLT, Int.reduceBEq, Int.reduceBNe]
            omega
        · have hE : T ++ (flatW w).take k = flatS (ws.take (i + 1)) := by
            rw [hT, show k = (flatW w).length from by rw [flatW_length]; omega, List.take_length]
          rw [hE]
          simp only [go_sem, Nat.reduceAdd, Nat.reduceSub, Nat.reduceMul, Nat.reduceEqDiff, Nat.reduceLT, Nat.reduceLeDiff, Nat.reduceBEq, reduceIte, reduceCtorEq, Int.reduceToNat, Int.reduceLE, Int.reduceLT, Int.reduceBEq, Int.reduceBNe, hw]
          (refine Cl.tr [some 0] [] rfl rfl (by simp only [go_sem, Nat.reduceAdd, Nat.reduceSub, Nat.reduceMul, Nat.reduceEqDiff, Nat.reduceLT, Nat.reduceLeDiff, Nat.reduceBEq, reduceIte, reduceCtorEq, Int.reduceToNat, Int.reduceLE, Int.reduceLT, Int.reduceBEq, Int.reduceBNe] <;> rfl) ?_; simp only [go_sem, Nat.reduceAdd, Nat.reduceSub, Nat.reduceMul, Nat.reduceEqDiff, Nat.reduceLT, Nat.reduceLeDiff, Nat.reduceBEq, reduceIte, reduceCtorEq, Int.reduceToNat, Int.reduceLE, Int.reduceLT, Int.reduceBEq, Int.reduceBNe])
          refine Cl.here ⟨⟨i + 1, by omega, rfl, rfl⟩, ?_⟩
          simp only [go_sem, Nat.reduceAdd, Nat.reduceSub, Nat.reduceMul, Nat.reduceEqDiff, Nat.reduceLT, Nat.reduceLeDiff, Nat.reduceBEq, reduceIte, reduceCtorEq, Int.reduceToNat, Int.reduceLE, Int.reduceLT, Int.reduceBEq, Int.reduceBNe]
          omega
    · obtain rfl : i = ws.length := by omega
      rw [List.take_length]
      generalize hM : blkF (flatS ws) = M at *
      refine avc_loop (fun env rows => ∃ seen : List Nat, seen.Nodup ∧ (∀ j ∈ seen, j < M.length) ∧ env = [(10, .own 2 seen.length 0 seen.length), (54, .itref 1 0)] ∧ rows = [.obj (.map false [.int .i64] (mapV M)), .obj (.iter M.length seen), .live 85 3 (els (seen.map fun j => toBk (M.getD j (0, ⟨0, 0⟩))))])
        (fun _ rows => match rows with | [_, .obj (.iter n s), _] => n - s.length | _ => 0) ?_ ?_
      · (refine Cl.ghost 10  85  3 rfl (Cl.norm [ 10, 54] ?_); simp only [go_sem, Nat.reduceAdd, Nat.reduceSub, Nat.reduceMul, Nat.reduceEqDiff, Nat.reduceLT, Nat.reduceLeDiff, Nat.reduceBEq, reduceIte, reduceCtorEq, Int.reduceToNat, Int.reduceLE, Int.reduceLT, Int.reduceBEq, Int.reduceBNe])
        exact Cl.here ⟨[], by simp, by simp, rfl, by simp [mapV_length, els]⟩
      · rintro env rows ⟨seen, hnd1, hsn, rfl, rfl⟩
        simp only [go_sem, Nat.reduceAdd, Nat.reduceSub, Nat.reduceMul, Nat.reduceEqDiff, Nat.reduceLT, Nat.reduceLeDiff, Nat.reduceBEq, reduceIte, reduceCtorEq, Int.reduceToNat, Int.reduceLE, Int.reduceLT, Int.reduceBEq, Int.reduceBNe, a28, a28r0, a28r1, a28r2, a28r3, a28r4, a28r5, a28r6, a28r7, a28r8, a28r9, a28r10, a28r11, a28r12, a28r13, a28r14, a28r15, a28r16, a28r17, a28r18, a28r19, a28r20]
        unfold nextC evNext
        simp only [List.getElem?_cons_zero, List.getElem?_cons_succ]
        refine ⟨mapV_length.symm, by decide, fun hall => ?_, fun j hj hjs => ?_⟩
        · simp only [go_sem, Nat.reduceAdd, Nat.reduceSub, Nat.reduceMul, Nat.reduceEqDiff, Nat.reduceLT, Nat.reduceLeDiff, Nat.reduceBEq, reduceIte, reduceCtorEq, Int.reduceToNat, Int.reduceLE, Int.reduceLT, Int.reduceBEq, Int.reduceBNe, a28, a28r0, a28r1, a28r2, a28r3, a28r4, a28r5, a28r6, a28r7, a28r8, a28r9, a28r10, a28r11, a28r12, a28r13, a28r14, a28r15, a28r16, a28r17, a28r18, a28r19, a28r20]
          have hsl : seen.length ≤ M.length := by
            have := hnd1.length_le_of_subset (l₂ := List.range M.length) (fun x hx => List.mem_range.2 (hsn x hx))
            simpa using this
          have hperm : seen.Perm (List.range M.length) := by
            refine (List.perm_ext_iff_of_nodup hnd1 List.nodup_range).2 fun x => ⟨fun hx => List.mem_range.2 (hsn x hx), fun hx => hall x (List.mem_range.1 hx)⟩
          have hpm : (seen.map fun j => toBk (M.getD j (0, ⟨0, 0⟩))).Perm (M.map toBk) := by
            refine (hperm.map _).trans (List.Perm.of_eq ?_)
            apply List.ext_getElem
            · simp
            · intro n h1 h2
              have h3 : n < M.length := by simpa using h2
              simp [h3]
          have hsort := sortB_ok (seen.map fun j => toBk (M.getD j (0, ⟨0, 0⟩))) (by rw [List.length_map]; omega)
          rw [List.length_map] at hsort
          (refine callC_of [2] [] (by decide) (by simp only [go_sem, Nat.reduceAdd, Nat.reduceSub, Nat.reduceMul, Nat.reduceEqDiff, Nat.reduceLT, Nat.reduceLeDiff, Nat.reduceBEq, reduceIte, reduceCtorEq, Int.reduceToNat, Int.reduceLE, Int.reduceLT, Int.reduceBEq, Int.reduceBNe] <;> rfl) (by simp only [go_sem, Nat.reduceAdd, Nat.reduceSub, Nat.reduceMul, Nat.reduceEqDiff, Nat.reduceLT, Nat.reduceLeDiff, Nat.reduceBEq, reduceIte, reduceCtorEq, Int.reduceToNat, Int.reduceLE, Int.reduceLT, Int.reduceBEq, Int.reduceBNe] <;> rfl) (hsort) ?_; rintro _ _ ⟨rfl, B, h1, h2, rfl⟩; refine ⟨.inl rfl, ?_⟩; simp only [go_sem, Nat.reduceAdd, Nat.reduceSub, Nat.reduceMul, Nat.reduceEqDiff, Nat.reduceLT, Nat.reduceLeDiff, Nat.reduceBEq, reduceIte, reduceCtorEq, Int.reduceToNat, Int.reduceLE, Int.reduceLT, Int.reduceBEq, Int.reduceBNe])
          (refine Cl.tr [some 2] [] rfl rfl (by simp only [go_sem, Nat.reduceAdd, Nat.reduceSub, Nat.reduceMul, Nat.reduceEqDiff, Nat.reduceLT, Nat.reduceLeDiff, Nat.reduceBEq, reduceIte, reduceCtorEq, Int.reduceToNat, Int.reduceLE, Int.reduceLT, Int.reduceBEq, Int.reduceBNe] <;> rfl) ?_; simp only [go_sem, Nat.reduceAdd, Nat.reduceSub, Nat.reduceMul, Nat.reduceEqDiff, Nat.reduceLT, Nat.reduceLeDiff, Nat.reduceBEq, reduceIte, reduceCtorEq, Int.reduceToNat, Int.reduceLE, Int.reduceLT, Int.reduceBEq, Int.reduceBNe])
          have h3 := h1.trans hpm
          refine Cl.here ⟨B, ⟨by rw [hM]; exact h3, ?_⟩, ?_, rfl⟩
          · have h4 : (B.map (·.day)).Nodup := by
              refine (h3.map (·.day)).nodup_iff.2 ?_
              rw [List.map_map]
              exact hnd
            have h5 := List.pairwise_map.1 h4
            exact (h2.and h5).imp fun {x y} h => by
              obtain ⟨a, b⟩ := h
              unfold bLt at *
              omega
          · have h4 := h1.length_eq
            rw [List.length_map] at h4
            simp [slot, h4]
        · have hlast : (seen ++ [j]).getLastD 0 = j := by simp
          have hj' : j < M.length := hj
          have hget := mapV_getD hj' (d := (.junk, .junk))
          have hsl : (seen ++ [j]).length ≤ M.length := by
            have hn : (seen ++ [j]).Nodup := by
              rw [List.nodup_append]
              exact ⟨hnd1, by simp, fun a ha b hb => by rw [List.mem_singleton] at hb; subst hb; exact fun e => hjs (e ▸ ha)⟩
            have := hn.length_le_of_subset (l₂ := List.range M.length) (fun x hx => by
              rcases List.mem_append.1 hx with hx | hx
              · exact List.mem_range.2 (hsn x hx)
              · rw [List.mem_singleton] at hx; subst hx; exact List.mem_range.2 hj')
            simpa using this
          have hsl' := hsl
          rw [List.length_append, List.length_singleton] at hsl'
          simp only [go_sem, Nat.reduceAdd, Nat.reduceSub, Nat.reduceMul, Nat.reduceEqDiff, Nat.reduceLT, Nat.reduceLeDiff, Nat.reduceBEq, reduceIte, reduceCtorEq, Int.reduceToNat, Int.reduceLE, Int.reduceLT, Int.reduceBEq, Int.reduceBNe, hlast, hget]
          refine ⟨mapV_length.symm, by simp, hj', by simp, by omega, ?_⟩
          have hels : els (seen.map fun j => toBk (M.getD j (0, ⟨0, 0⟩))) ++ [.int .i64 M[j].1 :: Cel.c M[j].2] = els ((seen ++ [j]).map fun j => toBk (M.getD j (0, ⟨0, 0⟩))) := by
            rw [List.map_append, List.map_singleton, ← els_snoc]
            congr 2
            rw [List.getD_eq_getElem?_getD, List.getElem?_eq_getElem hj', Option.getD_some]
            rfl
          rw [hels]
          (refine Cl.tr [some 0, some 1, some 2] [] rfl rfl (by simp only [go_sem, Nat.reduceAdd, Nat.reduceSub, Nat.reduceMul, Nat.reduceEqDiff, Nat.reduceLT, Nat.reduceLeDiff, Nat.reduceBEq, reduceIte, reduceCtorEq, Int.reduceToNat, Int.reduceLE, Int.reduceLT, Int.reduceBEq, Int.reduceBNe] <;> rfl) ?_; simp only [go_sem, Nat.reduceAdd, Nat.reduceSub, Nat.reduceMul, Nat.reduceEqDiff, Nat.reduceLT, Nat.reduceLeDiff, Nat.reduceBEq, reduceIte, reduceCtorEq, Int.reduceToNat, Int.reduceLE, Int.reduceLT, Int.reduceBEq, Int.reduceBNe])
          refine Cl.here ⟨⟨seen ++ [j], ?_, ?_, ?_, rfl⟩, ?_⟩
          · rw [List.nodup_append]
            exact ⟨hnd1, by simp, fun a ha b hb => by rw [List.mem_singleton] at hb; subst hb; exact fun e => hjs (e ▸ ha)⟩
          · intro x hx
            rcases List.mem_append.1 hx with hx | hx
            · exact hsn x hx
            · rw [List.mem_singleton] at hx; subst hx; exact hj'
          · simp
          · simp only [List.length_append, List.length_singleton]
            omega

end Go.Proofs.YtaloobgfgehhdaaGreat
