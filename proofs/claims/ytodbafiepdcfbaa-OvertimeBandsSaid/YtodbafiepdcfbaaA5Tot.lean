/- Overtime: the minutes of each band of a day. -/
import Derived.Test.YtodbafiepdcfbaaA5Ov4
set_option linter.unusedSimpArgs false
set_option linter.unusedVariables false
set_option linter.unusedSectionVars false
namespace Go.Proofs.Ytodbafiepdcfbaa
open Go Go.Abs
set_option linter.unusedSimpArgs false
set_option linter.unusedVariables false

def addT (b : ByteArray) (m : Int) : List Tm → List Tm
  | [] => [⟨b, m⟩]
  | t :: ts => if sEq t.name b then ⟨t.name, t.min + m⟩ :: ts else t :: addT b m ts
def totP (day : Int) (p : Pc) : Prop := p.day = day ∧ ivP p.fr p.to
instance (day : Int) (p : Pc) : Decidable (totP day p) := inferInstanceAs (Decidable (p.day = day ∧ ivP p.fr p.to))
def tot (day : Int) (acc : List Tm) (p : Pc) : List Tm := if totP day p then addT p.band (p.to - p.fr) acc else acc
def totals (l : List Pc) (day : Int) : List Tm := (l.take 4096).foldl (tot day) []
def idxT (b : ByteArray) : List Tm → Option Nat
  | [] => none
  | t :: ts => if sEq t.name b then some 0 else (idxT b ts).map (· + 1)
def placesOf : Nat → List Tm → List (AVal × AVal)
  | _, [] => []
  | k, t :: ts => (.str t.name, .int .i64 (k : Nat)) :: placesOf (k + 1) ts
theorem sEq_comm (a b : ByteArray) : sEq a b = sEq b a := by unfold sEq; rw [Bool.beq_comm]
theorem isKey_str (a b : ByteArray) : isKey (.str a) (.str b) = sEq b a := by
  rw [sEq_comm]
  unfold isKey acells eqCells sEq
  simp [eqCells]
theorem kfind_places (b : ByteArray) : ∀ (k : Nat) (acc : List Tm), kfind (.str b) (placesOf k acc) = (idxT b acc).map fun i => .int .i64 ((k + i : Nat) : Int)
  | _, [] => rfl
  | k, t :: ts => by
    rw [placesOf, kfind, isKey_str, idxT]
    by_cases h : sEq t.name b = true
    · rw [if_pos h, if_pos h]; simp
    · rw [if_neg h, if_neg h, kfind_places b (k + 1) ts]
      cases idxT b ts with
      | none => rfl
      | some i => simp; omega
theorem kput_places (b : ByteArray) (m : Int) : ∀ (k : Nat) (acc : List Tm), idxT b acc = none → kput (.str b) (.int .i64 ((k + acc.length : Nat) : Int)) (placesOf k acc) = placesOf k (acc ++ [⟨b, m⟩])
  | k, [], _ => by simp [placesOf, kput]
  | k, t :: ts, h => by
    rw [idxT] at h
    by_cases h1 : sEq t.name b = true
    · rw [if_pos h1] at h; cases h
    · rw [if_neg h1] at h
      have h2 : idxT b ts = none := by cases hh : idxT b ts with
        | none => rfl
        | some i => rw [hh] at h; simp at h
      have ih := kput_places b m (k + 1) ts h2
      rw [placesOf, kput, isKey_str, if_neg h1, List.cons_append, placesOf, ← ih]
      congr 4
      simp only [List.length_cons]
      omega
theorem addT_none {b : ByteArray} {m : Int} : ∀ {acc : List Tm}, idxT b acc = none → addT b m acc = acc ++ [⟨b, m⟩]
  | [], _ => rfl
  | t :: ts, h => by
    rw [idxT] at h
    by_cases h1 : sEq t.name b = true
    · rw [if_pos h1] at h; cases h
    · rw [if_neg h1] at h
      have h2 : idxT b ts = none := by cases hh : idxT b ts with
        | none => rfl
        | some i => rw [hh] at h; simp at h
      rw [addT, if_neg h1, addT_none h2, List.cons_append]
theorem addT_some {b : ByteArray} {m : Int} : ∀ {acc : List Tm} {i : Nat}, idxT b acc = some i → ∃ h : i < acc.length, addT b m acc = acc.set i ⟨acc[i].name, acc[i].min + m⟩
  | [], _, h => by cases h
  | t :: ts, i, h => by
    rw [idxT] at h
    by_cases h1 : sEq t.name b = true
    · rw [if_pos h1] at h
      cases h
      exact ⟨by simp, by rw [addT, if_pos h1]; rfl⟩
    · rw [if_neg h1] at h
      cases hh : idxT b ts with
      | none => rw [hh] at h; cases h
      | some j =>
        rw [hh] at h
        simp at h
        subst h
        obtain ⟨h2, h3⟩ := addT_some (m := m) hh
        exact ⟨by simp; omega, by rw [addT, if_neg h1, h3]; rfl⟩
theorem places_set : ∀ (k : Nat) (acc : List Tm) (i : Nat) (h : i < acc.length) (m : Int), placesOf k (acc.set i ⟨acc[i].name, m⟩) = placesOf k acc
  | _, [], i, h, _ => by simp at h
  | k, t :: ts, 0, _, m => rfl
  | k, t :: ts, i + 1, h, m => by
    have := places_set (k + 1) ts i (by simpa using h) m
    simp only [List.getElem_cons_succ, List.set_cons_succ, placesOf, this]
theorem tots_take {l : List Pc} {day : Int} {i : Nat} (h : i < l.length) : (l.take (i + 1)).foldl (tot day) [] = tot day ((l.take i).foldl (tot day) []) l[i] := by
  rw [List.take_add_one, List.getElem?_eq_getElem h, Option.toList_some, List.foldl_append]; rfl
theorem addT_bd {b : ByteArray} {m B : Int} (h0 : 0 ≤ m) : ∀ {acc : List Tm}, 0 ≤ B → (∀ t ∈ acc, 0 ≤ t.min ∧ t.min ≤ B) → ∀ t ∈ addT b m acc, 0 ≤ t.min ∧ t.min ≤ B + m
  | [], hB, _, t, ht => by
    simp only [addT, List.mem_singleton] at ht
    subst ht; simp only; omega
  | x :: acc, hB, h, t, ht => by
    rw [addT] at ht
    have hx := h x List.mem_cons_self
    split at ht
    · rcases List.mem_cons.1 ht with rfl | ht
      · simp only; omega
      · have := h t (List.mem_cons_of_mem _ ht); omega
    · rcases List.mem_cons.1 ht with rfl | ht
      · omega
      · exact addT_bd h0 hB (fun y hy => h y (List.mem_cons_of_mem _ hy)) t ht
theorem tots_bd (l : List Pc) (day : Int) : ∀ i, i ≤ l.length → (∀ t ∈ (l.take i).foldl (tot day) [], 0 ≤ t.min ∧ t.min ≤ 120968640 * i) ∧ ((l.take i).foldl (tot day) []).length ≤ i
  | 0, _ => by simp
  | i + 1, h => by
    obtain ⟨h1, h2⟩ := tots_bd l day i (by omega)
    rw [tots_take (by omega)]
    rw [tot]
    split
    · rename_i hp
      obtain ⟨_, hp⟩ := hp
      unfold ivP at hp
      refine ⟨fun t ht => ?_, ?_⟩
      · have := addT_bd (b := l[i].band) (m := l[i].to - l[i].fr) (B := 120968640 * i) (by omega) (by omega) h1 t ht
        omega
      · cases hx : idxT l[i].band ((l.take i).foldl (tot day) []) with
        | none => rw [addT_none hx, List.length_append]; simp; omega
        | some j => obtain ⟨_, e⟩ := addT_some (m := l[i].to - l[i].fr) hx; rw [e, List.length_set]; omega
    · exact ⟨fun t ht => by have := h1 t ht; omega, by omega⟩
theorem cleanM_places : ∀ (k : Nat) (acc : List Tm), cleanM (placesOf k acc) = true
  | _, [] => rfl
  | k, t :: ts => by
    have := cleanM_places (k + 1) ts
    simp only [cleanM, placesOf, List.map_cons, cleanL, clean, Bool.true_and] at this ⊢
    exact this

set_option maxHeartbeats 1000000 in
theorem totals_ok (l : List Pc) (hl0 : l.length ≤ 9223372036854775806) (day : Int) : AFn Try.prog 15 [.pure 4 (els l), .int .i64 day] [] (fun v rs => v = .own 0 (totals l day).length 0 (totals l day).length ∧ rs = [.live 31 2 (els (totals l day))]) := by
  refine afn Try.func15 a15_ok (by simp [a15]) ?_
  unfold totals
  simp only [go_sem, Nat.reduceAdd, Nat.reduceSub, Nat.reduceMul, Nat.reduceEqDiff, Nat.reduceLT, Nat.reduceLeDiff, Nat.reduceBEq, reduceIte, reduceCtorEq, Int.reduceToNat, Int.reduceLE, Int.reduceLT, Int.reduceBEq, Int.reduceBNe, a15, a15r0, a15r1, a15r2, a15r3, a15r4, a15r5, a15r6, a15r7, a15r8, a15r9, a15r10, a15r11, a15r12, a15r13, a15r14]
  have hmin : (min (l.length : Int) 4096).toNat = min l.length 4096 := by omega
  rw [hmin]
  refine ⟨by omega, by omega, ?_⟩
  have e1 : l.take (min l.length 4096) = l.take 4096 := by
    by_cases h : l.length ≤ 4096
    · rw [List.take_of_length_le (by omega), List.take_of_length_le h]
    · congr 1; omega
  try simp only [Int.toNat_zero, List.drop_zero, Nat.sub_zero]
  rw [e1]
  have hXl : (l.take 4096).length ≤ 4096 := by rw [List.length_take]; omega
  generalize l.take 4096 = X at hXl ⊢
  try simp only [go_sem, Nat.reduceAdd, Nat.reduceSub, Nat.reduceMul, Nat.reduceEqDiff, Nat.reduceLT, Nat.reduceLeDiff, Nat.reduceBEq, reduceIte, reduceCtorEq, Int.reduceToNat, Int.reduceLE, Int.reduceLT, Int.reduceBEq, Int.reduceBNe]
  refine avc_loop (fun env rows => ∃ i : Nat, i ≤ X.length ∧ env = [(1, .int .i64 day), (5, .own 1 ((X.take i).foldl (tot day) []).length 0 ((X.take i).foldl (tot day) []).length), (6, .mref 0), (16, .pure 4 (els X)), (17, .int .i64 X.length), (18, .int .i64 i)] ∧ rows = [.obj (.map false [.str] (placesOf 0 ((X.take i).foldl (tot day) []))), .live 31 2 (els ((X.take i).foldl (tot day) []))])
    (fun env _ => match slot env 18 with | .int _ j => (X.length - j).toNat | _ => 0) ?_ ?_
  · (refine Cl.ghost 5  31  2 rfl (Cl.norm [ 1, 5, 6, 16, 17, 18] ?_); simp only [go_sem, Nat.reduceAdd, Nat.reduceSub, Nat.reduceMul, Nat.reduceEqDiff, Nat.reduceLT, Nat.reduceLeDiff, Nat.reduceBEq, reduceIte, reduceCtorEq, Int.reduceToNat, Int.reduceLE, Int.reduceLT, Int.reduceBEq, Int.reduceBNe])
    exact Cl.here ⟨0, by omega, rfl, rfl⟩
  rintro env rows ⟨i, hi, rfl, rfl⟩
  have hw : IntKind.i64.wrap ((i : Int) + 1) = ((i + 1 : Nat) : Int) := by rw [wrap_i64 (by omega) (by omega)]; omega
  simp only [go_sem, Nat.reduceAdd, Nat.reduceSub, Nat.reduceMul, Nat.reduceEqDiff, Nat.reduceLT, Nat.reduceLeDiff, Nat.reduceBEq, reduceIte, reduceCtorEq, Int.reduceToNat, Int.reduceLE, Int.reduceLT, Int.reduceBEq, Int.reduceBNe, a15, a15r0, a15r1, a15r2, a15r3, a15r4, a15r5, a15r6, a15r7, a15r8, a15r9, a15r10, a15r11, a15r12, a15r13, a15r14]
  refine condC_intro ?_ ?_ <;> intro hg2 <;> simp only [decide_eq_true_eq, decide_eq_false_iff_not, beq_iff_eq, beq_eq_false_iff_ne, bne_iff_ne, bne_eq_false_iff_eq, Bool.not_eq_true', Bool.not_eq_false', Int.not_lt, Int.not_le, ne_eq, Bool.and_eq_true, Bool.or_eq_true, Bool.or_eq_false_iff, Bool.and_eq_false_iff] at hg2 <;> simp only [go_sem, Nat.reduceAdd, Nat.reduceSub, Nat.reduceMul, Nat.reduceEqDiff, Nat.reduceLT, Nat.reduceLeDiff, Nat.reduceBEq, reduceIte, reduceCtorEq, Int.reduceToNat, Int.reduceLE, Int.reduceLT, Int.reduceBEq, Int.reduceBNe, a15, a15r0, a15r1, a15r2, a15r3, a15r4, a15r5, a15r6, a15r7, a15r8, a15r9, a15r10, a15r11, a15r12, a15r13, a15r14]
  · have hlt : i < X.length := by omega
    refine ⟨by omega, by omega, ?_⟩
    try simp only [Int.toNat_natCast]
    rw [els_getD hlt]
    have hT := tots_take (day := day) hlt
    obtain ⟨hbd, hlen⟩ := tots_bd X day i hi
    generalize X[i] = p at hT ⊢
    generalize (X.take i).foldl (tot day) [] = acc at hT hbd hlen ⊢
    have hnext : ∀ {acc' : List Tm}, acc' = tot day acc p → ∃ i_1 : Nat, i_1 ≤ X.length ∧ ([(1, .int .i64 day), (5, .own 1 acc'.length 0 acc'.length), (6, .mref 0), (16, .pure 4 (els X)), (17, .int .i64 X.length), (18, .int .i64 ((i + 1 : Nat) : Int))] : Env) = [(1, .int .i64 day), (5, .own 1 ((X.take i_1).foldl (tot day) []).length 0 ((X.take i_1).foldl (tot day) []).length), (6, .mref 0), (16, .pure 4 (els X)), (17, .int .i64 X.length), (18, .int .i64 i_1)] ∧ ([.obj (.map false [.str] (placesOf 0 acc')), .live 31 2 (els acc')] : List Row) = [.obj (.map false [.str] (placesOf 0 ((X.take i_1).foldl (tot day) []))), .live 31 2 (els ((X.take i_1).foldl (tot day) []))] := by
      intro acc' h
      exact ⟨i + 1, by omega, by rw [hT, ← h], by rw [hT, ← h]⟩
    have hcl := cleanM_places 0 acc
    simp only [go_sem, Nat.reduceAdd, Nat.reduceSub, Nat.reduceMul, Nat.reduceEqDiff, Nat.reduceLT, Nat.reduceLeDiff, Nat.reduceBEq, reduceIte, reduceCtorEq, Int.reduceToNat, Int.reduceLE, Int.reduceLT, Int.reduceBEq, Int.reduceBNe, cel_pc]
    by_cases hd : p.day = day
    rotate_left
    · have hd' : (p.day != day) = true := by simp [hd]
      simp only [go_sem, Nat.reduceAdd, Nat.reduceSub, Nat.reduceMul, Nat.reduceEqDiff, Nat.reduceLT, Nat.reduceLeDiff, Nat.reduceBEq, reduceIte, reduceCtorEq, Int.reduceToNat, Int.reduceLE, Int.reduceLT, Int.reduceBEq, Int.reduceBNe, hd', hw]
      refine Cl.tr [some 0, some 1] [] rfl rfl (by simp only [go_sem, Nat.reduceAdd, Nat.reduceSub, Nat.reduceMul, Nat.reduceEqDiff, Nat.reduceLT, Nat.reduceLeDiff, Nat.reduceBEq, reduceIte, reduceCtorEq, Int.reduceToNat, Int.reduceLE, Int.reduceLT, Int.reduceBEq, Int.reduceBNe, hcl] <;> rfl) ?_
      simp only [go_sem, Nat.reduceAdd, Nat.reduceSub, Nat.reduceMul, Nat.reduceEqDiff, Nat.reduceLT, Nat.reduceLeDiff, Nat.reduceBEq, reduceIte, reduceCtorEq, Int.reduceToNat, Int.reduceLE, Int.reduceLT, Int.reduceBEq, Int.reduceBNe]
      refine Cl.here ⟨hnext (by rw [tot, if_neg (fun h => hd h.1)]), ?_⟩
      simp only [go_sem, Nat.reduceAdd, Nat.reduceSub, Nat.reduceMul, Nat.reduceEqDiff, Nat.reduceLT, Nat.reduceLeDiff, Nat.reduceBEq, reduceIte, reduceCtorEq, Int.reduceToNat, Int.reduceLE, Int.reduceLT, Int.reduceBEq, Int.reduceBNe]
      omega
    have hd' : (p.day != day) = false := by simp [hd]
    simp only [go_sem, Nat.reduceAdd, Nat.reduceSub, Nat.reduceMul, Nat.reduceEqDiff, Nat.reduceLT, Nat.reduceLeDiff, Nat.reduceBEq, reduceIte, reduceCtorEq, Int.reduceToNat, Int.reduceLE, Int.reduceLT, Int.reduceBEq, Int.reduceBNe, hd']
    refine callC_det (validInterval_ok _ _) rfl rfl ?_
    by_cases hv : ivP p.fr p.to
    rotate_left
    · simp only [go_sem, Nat.reduceAdd, Nat.reduceSub, Nat.reduceMul, Nat.reduceEqDiff, Nat.reduceLT, Nat.reduceLeDiff, Nat.reduceBEq, reduceIte, reduceCtorEq, Int.reduceToNat, Int.reduceLE, Int.reduceLT, Int.reduceBEq, Int.reduceBNe, hv, hw]
      refine Cl.tr [some 0, some 1] [] rfl rfl (by simp only [go_sem, Nat.reduceAdd, Nat.reduceSub, Nat.reduceMul, Nat.reduceEqDiff, Nat.reduceLT, Nat.reduceLeDiff, Nat.reduceBEq, reduceIte, reduceCtorEq, Int.reduceToNat, Int.reduceLE, Int.reduceLT, Int.reduceBEq, Int.reduceBNe, hcl] <;> rfl) ?_
      simp only [go_sem, Nat.reduceAdd, Nat.reduceSub, Nat.reduceMul, Nat.reduceEqDiff, Nat.reduceLT, Nat.reduceLeDiff, Nat.reduceBEq, reduceIte, reduceCtorEq, Int.reduceToNat, Int.reduceLE, Int.reduceLT, Int.reduceBEq, Int.reduceBNe]
      refine Cl.here ⟨hnext (by rw [tot, if_neg (fun h => hv h.2)]), ?_⟩
      simp only [go_sem, Nat.reduceAdd, Nat.reduceSub, Nat.reduceMul, Nat.reduceEqDiff, Nat.reduceLT, Nat.reduceLeDiff, Nat.reduceBEq, reduceIte, reduceCtorEq, Int.reduceToNat, Int.reduceLE, Int.reduceLT, Int.reduceBEq, Int.reduceBNe]
      omega
    have hv1 := hv
    unfold ivP at hv1
    have htot : tot day acc p = addT p.band (p.to - p.fr) acc := by rw [tot, if_pos ⟨hd, hv⟩]
    rw [htot] at hnext
    have hkf := kfind_places p.band 0 acc
    cases hx : idxT p.band acc with
    | none =>
      rw [hx] at hkf
      have hkp := kput_places p.band 0 0 acc hx
      rw [Nat.zero_add] at hkp
      obtain ⟨B, hB⟩ : ∃ B : List Tm, B = acc ++ [⟨p.band, 0⟩] := ⟨_, rfl⟩
      have hBl : B.length = acc.length + 1 := by rw [hB]; simp
      have hj : acc.length < B.length := by omega
      have hBj : B[acc.length] = ⟨p.band, 0⟩ := by subst hB; simp
      have hadd : addT p.band (p.to - p.fr) acc = B.set acc.length ⟨B[acc.length].name, B[acc.length].min + (p.to - p.fr)⟩ := by
        rw [addT_none hx, hBj]
        subst hB
        simp
      have hpl : placesOf 0 B = placesOf 0 (addT p.band (p.to - p.fr) acc) := by rw [hadd, places_set]
      have hbj : 0 ≤ B[acc.length].min ∧ B[acc.length].min ≤ 120968640 * 4096 := by rw [hBj]; simp
      rw [← hB] at hkp
      have hgj : (els B).getD acc.length [] = [.str B[acc.length].name, .int .i64 B[acc.length].min] := by rw [els_getD hj, cel_tm]
      have hset : (els B).set acc.length [.str B[acc.length].name, .int .i64 (B[acc.length].min + (p.to - p.fr))] = els (addT p.band (p.to - p.fr) acc) := by rw [hadd]; exact els_set (x := Tm.mk B[acc.length].name (B[acc.length].min + (p.to - p.fr)))
      have hlen2 : (addT p.band (p.to - p.fr) acc).length = B.length := by rw [hadd, List.length_set]
      have hcl2 := cleanM_places 0 (addT p.band (p.to - p.fr) acc)
      simp only [go_sem, Nat.reduceAdd, Nat.reduceSub, Nat.reduceMul, Nat.reduceEqDiff, Nat.reduceLT, Nat.reduceLeDiff, Nat.reduceBEq, reduceIte, reduceCtorEq, Int.reduceToNat, Int.reduceLE, Int.reduceLT, Int.reduceBEq, Int.reduceBNe, hv, hkf, hkp, tm_snoc]
      refine ⟨by omega, ?_⟩
      rw [← hB]
      simp only [go_sem, Nat.reduceAdd, Nat.reduceSub, Nat.reduceMul, Nat.reduceEqDiff, Nat.reduceLT, Nat.reduceLeDiff, Nat.reduceBEq, reduceIte, reduceCtorEq, Int.reduceToNat, Int.reduceLE, Int.reduceLT, Int.reduceBEq, Int.reduceBNe, hBl]
      refine ⟨by omega, by omega, ?_⟩
      try simp only [Int.toNat_natCast]
      simp only [go_sem, Nat.reduceAdd, Nat.reduceSub, Nat.reduceMul, Nat.reduceEqDiff, Nat.reduceLT, Nat.reduceLeDiff, Nat.reduceBEq, reduceIte, reduceCtorEq, Int.reduceToNat, Int.reduceLE, Int.reduceLT, Int.reduceBEq, Int.reduceBNe, hgj]
      rw [wrap_i64 (x := p.to - p.fr) (by omega) (by omega), wrap_i64 (x := B[acc.length].min + (p.to - p.fr)) (by omega) (by omega), hw]
      refine ⟨by omega, by omega, by omega, by omega, ?_⟩
      rw [hset, hpl, show acc.length + 1 = (addT p.band (p.to - p.fr) acc).length from by omega]
      refine Cl.tr [some 0, some 1] [] rfl rfl (by simp only [go_sem, Nat.reduceAdd, Nat.reduceSub, Nat.reduceMul, Nat.reduceEqDiff, Nat.reduceLT, Nat.reduceLeDiff, Nat.reduceBEq, reduceIte, reduceCtorEq, Int.reduceToNat, Int.reduceLE, Int.reduceLT, Int.reduceBEq, Int.reduceBNe, hcl2] <;> rfl) ?_
      simp only [go_sem, Nat.reduceAdd, Nat.reduceSub, Nat.reduceMul, Nat.reduceEqDiff, Nat.reduceLT, Nat.reduceLeDiff, Nat.reduceBEq, reduceIte, reduceCtorEq, Int.reduceToNat, Int.reduceLE, Int.reduceLT, Int.reduceBEq, Int.reduceBNe]
      refine Cl.here ⟨hnext rfl, ?_⟩
      simp only [go_sem, Nat.reduceAdd, Nat.reduceSub, Nat.reduceMul, Nat.reduceEqDiff, Nat.reduceLT, Nat.reduceLeDiff, Nat.reduceBEq, reduceIte, reduceCtorEq, Int.reduceToNat, Int.reduceLE, Int.reduceLT, Int.reduceBEq, Int.reduceBNe]
      omega
    | some j =>
      rw [hx] at hkf
      obtain ⟨hj, hadd⟩ := addT_some (m := p.to - p.fr) hx
      have hpl : placesOf 0 acc = placesOf 0 (addT p.band (p.to - p.fr) acc) := by rw [hadd, places_set]
      have hbj := hbd acc[j] (List.getElem_mem _)
      have hgj : (els acc).getD j [] = [.str acc[j].name, .int .i64 acc[j].min] := by rw [els_getD hj, cel_tm]
      have hset : (els acc).set j [.str acc[j].name, .int .i64 (acc[j].min + (p.to - p.fr))] = els (addT p.band (p.to - p.fr) acc) := by rw [hadd]; exact els_set (x := Tm.mk acc[j].name (acc[j].min + (p.to - p.fr)))
      have hlen2 : (addT p.band (p.to - p.fr) acc).length = acc.length := by rw [hadd, List.length_set]
      have hcl2 := cleanM_places 0 (addT p.band (p.to - p.fr) acc)
      simp only [go_sem, Nat.reduceAdd, Nat.reduceSub, Nat.reduceMul, Nat.reduceEqDiff, Nat.reduceLT, Nat.reduceLeDiff, Nat.reduceBEq, reduceIte, reduceCtorEq, Int.reduceToNat, Int.reduceLE, Int.reduceLT, Int.reduceBEq, Int.reduceBNe, hv, hkf]
      refine ⟨by omega, by omega, ?_⟩
      try simp only [Int.toNat_natCast]
      simp only [go_sem, Nat.reduceAdd, Nat.reduceSub, Nat.reduceMul, Nat.reduceEqDiff, Nat.reduceLT, Nat.reduceLeDiff, Nat.reduceBEq, reduceIte, reduceCtorEq, Int.reduceToNat, Int.reduceLE, Int.reduceLT, Int.reduceBEq, Int.reduceBNe, hgj]
      rw [wrap_i64 (x := p.to - p.fr) (by omega) (by omega), wrap_i64 (x := acc[j].min + (p.to - p.fr)) (by omega) (by omega), hw]
      refine ⟨by omega, by omega, ?_⟩
      rw [hset, hpl, show acc.length = (addT p.band (p.to - p.fr) acc).length from by omega]
      refine Cl.tr [some 0, some 1] [] rfl rfl (by simp only [go_sem, Nat.reduceAdd, Nat.reduceSub, Nat.reduceMul, Nat.reduceEqDiff, Nat.reduceLT, Nat.reduceLeDiff, Nat.reduceBEq, reduceIte, reduceCtorEq, Int.reduceToNat, Int.reduceLE, Int.reduceLT, Int.reduceBEq, Int.reduceBNe, hcl2] <;> rfl) ?_
      simp only [go_sem, Nat.reduceAdd, Nat.reduceSub, Nat.reduceMul, Nat.reduceEqDiff, Nat.reduceLT, Nat.reduceLeDiff, Nat.reduceBEq, reduceIte, reduceCtorEq, Int.reduceToNat, Int.reduceLE, Int.reduceLT, Int.reduceBEq, Int.reduceBNe]
      refine Cl.here ⟨hnext rfl, ?_⟩
      simp only [go_sem, Nat.reduceAdd, Nat.reduceSub, Nat.reduceMul, Nat.reduceEqDiff, Nat.reduceLT, Nat.reduceLeDiff, Nat.reduceBEq, reduceIte, reduceCtorEq, Int.reduceToNat, Int.reduceLE, Int.reduceLT, Int.reduceBEq, Int.reduceBNe]
      omega
  · obtain rfl : i = X.length := by omega
    rw [List.take_length]
    (refine Cl.tr [some 1] [] rfl rfl (by simp only [go_sem, Nat.reduceAdd, Nat.reduceSub, Nat.reduceMul, Nat.reduceEqDiff, Nat.reduceLT, Nat.reduceLeDiff, Nat.reduceBEq, reduceIte, reduceCtorEq, Int.reduceToNat, Int.reduceLE, Int.reduceLT, Int.reduceBEq, Int.reduceBNe] <;> rfl) ?_; simp only [go_sem, Nat.reduceAdd, Nat.reduceSub, Nat.reduceMul, Nat.reduceEqDiff, Nat.reduceLT, Nat.reduceLeDiff, Nat.reduceBEq, reduceIte, reduceCtorEq, Int.reduceToNat, Int.reduceLE, Int.reduceLT, Int.reduceBEq, Int.reduceBNe])
    exact Cl.here ⟨rfl, rfl⟩

end Go.Proofs.Ytodbafiepdcfbaa
