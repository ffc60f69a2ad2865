/- The statement RecordsDamage: plain law and walk. -/
import Derived.Test.YtkgffhjlfdmfeaaA1Pl
import Derived.Test.YtkgffhjlfdmfeaaAbs32
set_option linter.unusedSimpArgs false
set_option linter.unusedVariables false
set_option linter.unusedSectionVars false
namespace Go.Proofs.Ytkgffhjlfdmfeaa
open Go Go.Abs Rec
set_option linter.unusedSimpArgs false

def sumB (l : List UInt8) : Nat := l.foldr (fun b n => b.toNat + n) 0
theorem sumB_append : ∀ (a b : List UInt8), sumB (a ++ b) = sumB a + sumB b
  | [], b => by simp [sumB]
  | x :: a, b => by
    have := sumB_append a b
    simp only [sumB, List.cons_append, List.foldr_cons] at this ⊢
    omega
theorem sumB_set : ∀ (l : List UInt8) (i : Nat) (h : i < l.length) (v : UInt8), sumB (l.set i v) + l[i].toNat = sumB l + v.toNat
  | x :: l, 0, _, v => by simp only [List.set_cons_zero, sumB, List.foldr_cons, List.getElem_cons_zero]; omega
  | x :: l, i + 1, h, v => by
    have := sumB_set l i (by simpa using h) v
    simp only [sumB, List.set_cons_succ, List.foldr_cons, List.getElem_cons_succ] at this ⊢
    omega

theorem xor_ne {x d : UInt8} (hd : d ≠ 0) : x ^^^ d ≠ x := by
  intro h
  apply hd
  have := congrArg (x ^^^ ·) h
  simpa [← UInt8.xor_assoc] using this

/-- a frame with one changed byte -/
theorem damaged_bad (e : Ev) (he : vEv e) (a : Nat) (ha : a < 24) (v : UInt8) (hv : v ≠ (frame e).getD a 0) : ¬ good ((frame e).set a v) := by
  intro hg
  have hl := frame_length e
  have hget : (frame e).getD a 0 = (frame e)[a]'(by omega) := by rw [List.getD_eq_getElem?_getD, List.getElem?_eq_getElem (by omega)]; rfl
  rw [hget] at hv
  obtain ⟨g1, g2, _⟩ := hg
  obtain ⟨f1, f2, _⟩ := good_frame e he
  by_cases h22 : a < 22
  · have t1 : ((frame e).set a v).take 22 = ((frame e).take 22).set a v := by rw [List.take_set]
    have t2 : (((frame e).set a v).drop 22).take 2 = ((frame e).drop 22).take 2 := by rw [List.drop_set_of_lt h22]
    rw [t1, t2, ← f2] at g2
    have hlen : a < ((frame e).take 22).length := by simp; omega
    have e1 : ((frame e).take 22).set a v = ((frame e).take 22).take a ++ v :: ((frame e).take 22).drop (a + 1) := by rw [List.set_eq_take_append_cons_drop, if_pos hlen]
    have e2 : (frame e).take 22 = ((frame e).take 22).take a ++ (frame e)[a]'(by omega) :: ((frame e).take 22).drop (a + 1) := by
      conv => lhs; rw [← List.take_append_drop a ((frame e).take 22), List.drop_eq_getElem_cons hlen]
      rw [List.getElem_take]
    rw [e1] at g2
    conv at g2 => rhs; rw [e2]
    exact hv (crc_changed g2)
  · have t1 : ((frame e).set a v).take 22 = (frame e).take 22 := by rw [List.take_set_of_le (by omega)]
    rw [t1, f2] at g2
    have hl1 : (((frame e).drop 22).take 2).length = 2 := by simp; omega
    have hl2 : ((((frame e).set a v).drop 22).take 2).length = 2 := by simp; omega
    have h1 := enc_dec (l := ((frame e).drop 22).take 2)
    have h2 := enc_dec (l := (((frame e).set a v).drop 22).take 2)
    rw [hl1, g2] at h1
    rw [hl2] at h2
    rw [h2] at h1
    have h3 := congrArg (·[a - 22]?) h1
    simp only [List.getElem?_take, List.getElem?_drop] at h3
    rw [if_pos (by omega), if_pos (by omega), show 22 + (a - 22) = a from by omega, List.getElem?_set, if_pos rfl, if_pos (by omega), List.getElem?_eq_getElem (by omega)] at h3
    exact hv (by simpa using h3)

/-- bytes that turn into themselves -/
theorem not_again_x (x : List UInt8) (hl : x.length = 24) (h0 : x[0]'(by omega) = 193) (h8 : x[8]'(by omega) ≠ 193) (h12 : x[12]'(by omega) ≠ 193) (a p : Nat) (ha : a < 24) (hp1 : 1 ≤ p) (hp2 : p < 24) (v : UInt8) (hv : v ≠ x[a]'(by omega)) :
    ((x.set a v ++ x).drop p).take 24 ≠ x := by
  intro h
  have hw : ((x.set a v ++ x).drop p).take 24 = (x.set a v).drop p ++ x.take p := by
    rw [List.drop_append_of_le_length (by simp; omega), List.take_append, List.take_of_length_le (by simp; omega)]
    congr 2
    simp; omega
  rw [hw] at h
  by_cases hap : p ≤ a
  · have h1 := congrArg sumB h
    rw [sumB_append] at h1
    have h2 : sumB x = sumB (x.take p) + sumB (x.drop p) := by rw [← sumB_append, List.take_append_drop]
    have h3 : (x.set a v).drop p = (x.drop p).set (a - p) v := by rw [List.drop_set, if_neg (by omega)]
    have h4 := sumB_set (x.drop p) (a - p) (by simp; omega) v
    rw [← h3, List.getElem_drop] at h4
    have h5 : x[p + (a - p)]'(by omega) = x[a]'(by omega) := by congr 1; omega
    rw [h5] at h4
    exact hv (UInt8.toNat_inj.1 (by omega))
  · have h3 : (x.set a v).drop p = x.drop p := by rw [List.drop_set_of_lt (by omega)]
    rw [h3] at h
    have hr : ∀ i (hi : i < 24), x[i]'(by omega) = x[(i + p) % 24]'(by omega) := by
      intro i hi
      have := congrArg (·[i]?) h
      simp only [List.getElem?_append, List.length_drop, List.getElem?_drop, List.getElem?_take] at this
      rw [List.getElem?_eq_getElem (show i < x.length by omega)] at this
      split at this
      · rename_i hlt
        rw [List.getElem?_eq_getElem (by omega)] at this
        have e : (i + p) % 24 = p + i := by omega
        simp only [Option.some.injEq] at this
        simp only [e]
        exact this.symm
      · rename_i hlt
        rw [if_pos (by omega), List.getElem?_eq_getElem (by omega)] at this
        have e : (i + p) % 24 = i - (x.length - p) := by omega
        simp only [Option.some.injEq] at this
        simp only [e]
        exact this.symm
    have hrot : ∀ k : Nat, x[k * p % 24]'(by omega) = 193 := by
      intro k
      induction k with
      | zero => simp only [Nat.zero_mul, Nat.zero_mod]; exact h0
      | succ k ih =>
        have := hr (k * p % 24) (by omega)
        rw [ih] at this
        have e : (k + 1) * p % 24 = (k * p % 24 + p) % 24 := by rw [Nat.succ_mul, Nat.mod_add_mod]
        simp only [e]
        exact this.symm
    have hex : ∃ k, k * p % 24 = 8 ∨ k * p % 24 = 12 := by
      have : ∀ q : Fin 24, 1 ≤ q.val → ∃ k : Fin 24, k.val * q.val % 24 = 8 ∨ k.val * q.val % 24 = 12 := by decide
      obtain ⟨k, hk⟩ := this ⟨p, hp2⟩ hp1
      exact ⟨k.val, hk⟩
    obtain ⟨k, hk⟩ := hex
    have hk2 := hrot k
    rcases hk with hk | hk
    · simp only [hk] at hk2
      exact h8 hk2
    · simp only [hk] at hk2
      exact h12 hk2

theorem byte_of (e : Ev) : (frame e).getD 0 0 = 193 ∧ (frame e).getD 8 0 = UInt8.ofNat (e.emp.toNat / 256 ^ 3) ∧ (frame e).getD 12 0 = UInt8.ofNat (e.time.toNat / 256 ^ 3) := ⟨rfl, rfl, rfl⟩
theorem getD_at {x : List UInt8} {i : Nat} (h : i < x.length) : x.getD i 0 = x[i] := by rw [List.getD_eq_getElem?_getD, List.getElem?_eq_getElem h]; rfl

/-- the frame is not found again in what is left of the damaged one and its beginning -/
theorem not_again (e : Ev) (he : vEv e) (a p : Nat) (ha : a < 24) (hp1 : 1 ≤ p) (hp2 : p < 24) (v : UInt8) (hv : v ≠ (frame e).getD a 0) : (((frame e).set a v ++ frame e).drop p).take 24 ≠ frame e := by
  have hl := frame_length e
  obtain ⟨b0, b8, b12⟩ := byte_of e
  generalize frame e = x at *
  simp only [vEv, vKey] at he
  rw [getD_at (by omega)] at b0 b8 b12 hv
  refine not_again_x x hl b0 ?_ ?_ a p ha hp1 hp2 v hv
  · rw [b8]
    intro h
    have := congrArg UInt8.toNat h
    rw [UInt8.toNat_ofNat', show (193 : UInt8).toNat = 193 from rfl] at this
    omega
  · rw [b12]
    intro h
    have := congrArg UInt8.toNat h
    rw [UInt8.toNat_ofNat', show (193 : UInt8).toNat = 193 from rfl] at this
    omega

/-- what is found in a damaged frame alone, and with the frame behind it -/
theorem damaged_alone (e : Ev) (he : vEv e) (a : Nat) (ha : a < 24) (v : UInt8) (hv : v ≠ (frame e).getD a 0) : decode ((frame e).set a v) = ([], [⟨0, 1⟩], 1) := by
  have hl : ((frame e).set a v).length = 24 := by simp [frame_length]
  have hb := damaged_bad e he a ha v hv
  rw [decode, hl, scan_step (by omega), List.drop_zero, List.take_of_length_le (by omega), if_neg hb, scan_end (by omega)]
  rfl
theorem damaged_both (e : Ev) (he : vEv e) (a : Nat) (ha : a < 24) (v : UInt8) (hv : v ≠ (frame e).getD a 0) :
    ∃ x, (decode ((frame e).set a v ++ frame e)).1 = [x] ∧ 1 ≤ (decode ((frame e).set a v ++ frame e)).2.2 ∧ (x = e → (decode ((frame e).set a v ++ frame e)).2.2 = 48) := by
  have hl : ((frame e).set a v ++ frame e).length = 48 := by simp [frame_length]
  have hb := damaged_bad e he a ha v hv
  have h1 := scan_run ((frame e).set a v ++ frame e) (((frame e).set a v ++ frame e).length + 1) 0 [] []
  have d1 : (decode ((frame e).set a v ++ frame e)).1 = (run ((frame e).set a v ++ frame e) 49 0).1 := by rw [hl] at h1; simpa [decode, hl] using h1.1
  have d2 : (decode ((frame e).set a v ++ frame e)).2.2 = (run ((frame e).set a v ++ frame e) 49 0).2 := by rw [hl] at h1; simpa [decode, hl] using h1.2
  rw [d1, d2]
  have hw0 : (((frame e).set a v ++ frame e).drop 0).take 24 = (frame e).set a v := by
    rw [List.drop_zero, List.take_append_of_le_length (by simp [frame_length]), List.take_of_length_le (by simp [frame_length])]
  rw [run, if_pos (by omega), hw0, if_neg hb]
  have key : ∀ (k p : Nat), p + k = 24 → 1 ≤ p → ∃ x, (run ((frame e).set a v ++ frame e) (25 + k) p).1 = [x] ∧ 1 ≤ (run ((frame e).set a v ++ frame e) (25 + k) p).2 ∧ (x = e → (run ((frame e).set a v ++ frame e) (25 + k) p).2 = 48) := by
    intro k
    induction k with
    | zero =>
      intro p hp _
      have : p = 24 := by omega
      subst this
      have hw : (((frame e).set a v ++ frame e).drop 24).take 24 = frame e := by
        have := List.drop_left (l₁ := (frame e).set a v) (l₂ := frame e)
        rw [show ((frame e).set a v).length = 24 from by simp [frame_length]] at this
        rw [this, frame_take]
      rw [run, if_pos (by omega), hw, if_pos (good_frame e he), run_end (by omega)]
      exact ⟨e, by rw [evOf_frame e he], by simp, fun _ => rfl⟩
    | succ k ih =>
      intro p hp hp1
      rw [show 25 + (k + 1) = (25 + k) + 1 from rfl, run, if_pos (by omega)]
      split
      · rename_i hg
        rw [run_end (by omega)]
        refine ⟨_, rfl, by simp, fun hx => ?_⟩
        exfalso
        have hf := frame_evOf _ (by simp [frame_length]; omega) hg
        rw [hx] at hf
        exact not_again e he a p ha hp1 (by omega) v hv hf.symm
      · exact ih (p + 1) (by omega) (by omega)
  exact key 23 1 (by omega) (by omega)

theorem fits_ev (e : Ev) : fits [.int .i64, .int .i64, .int .i64, .int .i64, .int .i64, .int .i64, .int .i64] (Cel.c e) = True := by simp [fits, cel_ev]
theorem els_one {α : Type} [Cel α] (x : α) : els [x] = [Cel.c x] := rfl
theorem eqCells_ev (x e : Ev) : eqCells (Cel.c x) (Cel.c e) = true ↔ x = e := by
  constructor
  · intro h
    simp only [cel_ev, eqCells, Bool.and_eq_true, beq_iff_eq, and_true] at h
    obtain ⟨h1, h2, h3, h4, h5, h6, h7⟩ := h
    exact Ev.ext' h1 h2 h3 h4 h5 h6 h7
  · rintro rfl
    simp [cel_ev, eqCells]
theorem or_one_ne (b : UInt8) : b ||| 1 ≠ 0 := by
  intro h
  have h1 := congrArg (fun x : UInt8 => x.toNat.testBit 0) h
  simp only [UInt8.toNat_or, Nat.testBit_or] at h1
  rw [show (1 : UInt8).toNat = 1 from rfl, show (0 : UInt8).toNat = 0 from rfl] at h1
  simp at h1

theorem recordsDamage (l : List Int) (hl : TapeOk l) (p : Int) (by_ : UInt8) : AFn Try.prog 7 [.pure 1 (numsE .i64 l), .int .i64 p, .int .u8 by_.toNat] [] (fun v _ => v = .bool true) := by
  refine afn Try.func7 a7_ok (by simp [a7]) ?_
  simp only [go_sem, Nat.reduceAdd, Nat.reduceSub, Nat.reduceMul, Nat.reduceEqDiff, Nat.reduceLT, Nat.reduceLeDiff, Nat.reduceBEq, reduceIte, reduceCtorEq, Int.reduceToNat, Int.reduceLE, Int.reduceLT, Int.reduceBEq, Int.reduceBNe, a7, a7r0, a7r1, a7r2, a7r3, a7r4, a7r5, a7r6, a7r7, a7r8, a7r9, a7r10, a7r11, a7r12]
  (refine callC_of [] [] (by simp) rfl (bindL_clean _ (by first | rfl | simp only [go_sem, Nat.reduceAdd, Nat.reduceSub, Nat.reduceMul, Nat.reduceEqDiff, Nat.reduceLT, Nat.reduceLeDiff, Nat.reduceBEq, reduceIte, reduceCtorEq, Int.reduceToNat, Int.reduceLE, Int.reduceLT, Int.reduceBEq, Int.reduceBNe])) (new_ok l) ?_; rintro _ _ ⟨rfl, rfl⟩; refine ⟨.inl rfl, ?_⟩; simp only [go_sem, Nat.reduceAdd, Nat.reduceSub, Nat.reduceMul, Nat.reduceEqDiff, Nat.reduceLT, Nat.reduceLeDiff, Nat.reduceBEq, reduceIte, reduceCtorEq, Int.reduceToNat, Int.reduceLE, Int.reduceLT, Int.reduceBEq, Int.reduceBNe])
  refine callC_tape (event_ok l hl) rfl rfl (by omega) (by omega) ?_
  rintro _ at_ _ _ ⟨e, rfl, he⟩
  simp only [go_sem, Nat.reduceAdd, Nat.reduceSub, Nat.reduceMul, Nat.reduceEqDiff, Nat.reduceLT, Nat.reduceLeDiff, Nat.reduceBEq, reduceIte, reduceCtorEq, Int.reduceToNat, Int.reduceLE, Int.reduceLT, Int.reduceBEq, Int.reduceBNe, a7, a7r0, a7r1, a7r2, a7r3, a7r4, a7r5, a7r6, a7r7, a7r8, a7r9, a7r10, a7r11, a7r12]
  (refine callC_of [] [] (by simp) rfl (bindL_clean _ (by first | rfl | simp only [go_sem, Nat.reduceAdd, Nat.reduceSub, Nat.reduceMul, Nat.reduceEqDiff, Nat.reduceLT, Nat.reduceLeDiff, Nat.reduceBEq, reduceIte, reduceCtorEq, Int.reduceToNat, Int.reduceLE, Int.reduceLT, Int.reduceBEq, Int.reduceBNe])) (encode_ok e he) ?_; rintro _ _ ⟨rfl, rfl⟩; refine ⟨.inl rfl, ?_⟩; simp only [go_sem, Nat.reduceAdd, Nat.reduceSub, Nat.reduceMul, Nat.reduceEqDiff, Nat.reduceLT, Nat.reduceLeDiff, Nat.reduceBEq, reduceIte, reduceCtorEq, Int.reduceToNat, Int.reduceLE, Int.reduceLT, Int.reduceBEq, Int.reduceBNe])
  refine callC_det (mod_ok p 24 (by omega) (by omega)) rfl rfl ?_
  have hm := mod_bounds (v := p) (n := 24) (by omega)
  obtain ⟨a, ha⟩ : ∃ a : Nat, mod p 24 = (a : Int) := ⟨(mod p 24).toNat, by omega⟩
  rw [ha] at hm ⊢
  have hfl := frame_length e
  have hget : (els (frame e)).getD a [] = [.int .u8 ((frame e).getD a 0).toNat] := by rw [els_getD (by omega), cel_u8, getD_at (by omega)]
  simp only [go_sem, Nat.reduceAdd, Nat.reduceSub, Nat.reduceMul, Nat.reduceEqDiff, Nat.reduceLT, Nat.reduceLeDiff, Nat.reduceBEq, reduceIte, reduceCtorEq, Int.reduceToNat, Int.reduceLE, Int.reduceLT, Int.reduceBEq, Int.reduceBNe, a7, a7r0, a7r1, a7r2, a7r3, a7r4, a7r5, a7r6, a7r7, a7r8, a7r9, a7r10, a7r11, a7r12, hget]
  refine ⟨by omega, by omega, ?_⟩
  have hor : bor .u8 (by_.toNat : Int) 1 = ((by_ ||| 1).toNat : Int) := or_u8 (a := by_) (b := 1)
  rw [hor, xor_u8, ← cel_u8]
  have hv : (frame e).getD a 0 ^^^ (by_ ||| 1) ≠ (frame e).getD a 0 := xor_ne (or_one_ne by_)
  generalize (frame e).getD a 0 ^^^ (by_ ||| 1) = v at *
  simp only [go_sem, Nat.reduceAdd, Nat.reduceSub, Nat.reduceMul, Nat.reduceEqDiff, Nat.reduceLT, Nat.reduceLeDiff, Nat.reduceBEq, reduceIte, reduceCtorEq, Int.reduceToNat, Int.reduceLE, Int.reduceLT, Int.reduceBEq, Int.reduceBNe, a7, a7r0, a7r1, a7r2, a7r3, a7r4, a7r5, a7r6, a7r7, a7r8, a7r9, a7r10, a7r11, a7r12]
  refine ⟨by omega, by omega, ?_⟩
  have h1 := damaged_alone e he a (by omega) v hv
  refine callC_lookNewAll (decode_ok ((frame e).set a v) (by simp [frame_length])) rfl (by simp [els_length, frame_length]) els_clean ?_
  rintro _ _ ⟨rfl, rfl⟩
  simp only [h1]
  refine ⟨rfl, by simp only [go_sem, Nat.reduceAdd, Nat.reduceSub, Nat.reduceMul, Nat.reduceEqDiff, Nat.reduceLT, Nat.reduceLeDiff, Nat.reduceBEq, reduceIte, reduceCtorEq, Int.reduceToNat, Int.reduceLE, Int.reduceLT, Int.reduceBEq, Int.reduceBNe], ?_⟩
  have hyl : ((frame e).set a v).length = 24 := by simp [frame_length]
  have hyt : List.take 24 ((frame e).set a v) = (frame e).set a v := List.take_of_length_le (by omega)
  simp only [go_sem, Nat.reduceAdd, Nat.reduceSub, Nat.reduceMul, Nat.reduceEqDiff, Nat.reduceLT, Nat.reduceLeDiff, Nat.reduceBEq, reduceIte, reduceCtorEq, Int.reduceToNat, Int.reduceLE, Int.reduceLT, Int.reduceBEq, Int.reduceBNe, a7, a7r0, a7r1, a7r2, a7r3, a7r4, a7r5, a7r6, a7r7, a7r8, a7r9, a7r10, a7r11, a7r12, hyl, hyt]
  obtain ⟨x, b1, b2, b3⟩ := damaged_both e he a (by omega) v hv
  refine callC_lookNewAll (decode_ok ((frame e).set a v ++ frame e) (by simp [frame_length])) rfl (by simp [els_length, frame_length]) els_clean ?_
  rintro _ _ ⟨rfl, rfl⟩
  have hbd := decode_bound (b := (frame e).set a v ++ frame e)
  have hcat : ((frame e).set a v ++ frame e).length = 48 := by simp [frame_length]
  generalize decode ((frame e).set a v ++ frame e) = Z at *
  simp only [b1]
  refine ⟨rfl, by simp only [go_sem, Nat.reduceAdd, Nat.reduceSub, Nat.reduceMul, Nat.reduceEqDiff, Nat.reduceLT, Nat.reduceLeDiff, Nat.reduceBEq, reduceIte, reduceCtorEq, Int.reduceToNat, Int.reduceLE, Int.reduceLT, Int.reduceBEq, Int.reduceBNe], ?_⟩
  simp only [go_sem, Nat.reduceAdd, Nat.reduceSub, Nat.reduceMul, Nat.reduceEqDiff, Nat.reduceLT, Nat.reduceLeDiff, Nat.reduceBEq, reduceIte, reduceCtorEq, Int.reduceToNat, Int.reduceLE, Int.reduceLT, Int.reduceBEq, Int.reduceBNe, a7, a7r0, a7r1, a7r2, a7r3, a7r4, a7r5, a7r6, a7r7, a7r8, a7r9, a7r10, a7r11, a7r12, els_one]
  refine condC_intro ?_ ?_ <;> intro hc <;> simp only [decide_eq_true_eq, decide_eq_false_iff_not, beq_iff_eq, beq_eq_false_iff_ne, bne_iff_ne, bne_eq_false_iff_eq, Bool.not_eq_true', Bool.not_eq_false', Int.not_lt, Int.not_le, ne_eq, Bool.and_eq_true, Bool.or_eq_true, Bool.or_eq_false_iff, Bool.and_eq_false_iff] at hc
  · omega
  by_cases hxe : x = e
  · have hq : eqCells (Cel.c x) (Cel.c e) = true := (eqCells_ev x e).2 hxe
    have hz : (Z.2.2 : Int) = 48 := by rw [b3 hxe]; rfl
    simp only [go_sem, Nat.reduceAdd, Nat.reduceSub, Nat.reduceMul, Nat.reduceEqDiff, Nat.reduceLT, Nat.reduceLeDiff, Nat.reduceBEq, reduceIte, reduceCtorEq, Int.reduceToNat, Int.reduceLE, Int.reduceLT, Int.reduceBEq, Int.reduceBNe, a7, a7r0, a7r1, a7r2, a7r3, a7r4, a7r5, a7r6, a7r7, a7r8, a7r9, a7r10, a7r11, a7r12, hq, hz, fits_ev]
    refine callD_det sane_ok rfl rfl ?_
    simp only [go_sem, Nat.reduceAdd, Nat.reduceSub, Nat.reduceMul, Nat.reduceEqDiff, Nat.reduceLT, Nat.reduceLeDiff, Nat.reduceBEq, reduceIte, reduceCtorEq, Int.reduceToNat, Int.reduceLE, Int.reduceLT, Int.reduceBEq, Int.reduceBNe]
    exact Cl.fin rfl rfl
  · have hq : eqCells (Cel.c x) (Cel.c e) = false := by
      rw [← Bool.not_eq_true, eqCells_ev]; exact hxe
    simp only [go_sem, Nat.reduceAdd, Nat.reduceSub, Nat.reduceMul, Nat.reduceEqDiff, Nat.reduceLT, Nat.reduceLeDiff, Nat.reduceBEq, reduceIte, reduceCtorEq, Int.reduceToNat, Int.reduceLE, Int.reduceLT, Int.reduceBEq, Int.reduceBNe, a7, a7r0, a7r1, a7r2, a7r3, a7r4, a7r5, a7r6, a7r7, a7r8, a7r9, a7r10, a7r11, a7r12, hq, fits_ev]
    refine callD_det sane_ok rfl rfl ?_
    simp only [go_sem, Nat.reduceAdd, Nat.reduceSub, Nat.reduceMul, Nat.reduceEqDiff, Nat.reduceLT, Nat.reduceLeDiff, Nat.reduceBEq, reduceIte, reduceCtorEq, Int.reduceToNat, Int.reduceLE, Int.reduceLT, Int.reduceBEq, Int.reduceBNe]
    exact Cl.fin rfl rfl
end Go.Proofs.Ytkgffhjlfdmfeaa
