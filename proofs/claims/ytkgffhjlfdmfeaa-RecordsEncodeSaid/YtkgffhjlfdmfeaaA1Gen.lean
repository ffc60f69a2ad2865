/- Contracts of the functions that make choices: Mod, New, Next, Pick, Key, Near. -/
import Derived.Test.YtkgffhjlfdmfeaaA1Forms
import Derived.Test.YtkgffhjlfdmfeaaAbs31
set_option linter.unusedSimpArgs false
set_option linter.unusedVariables false
set_option linter.unusedSectionVars false
namespace Go.Proofs.Ytkgffhjlfdmfeaa
open Go Go.Abs
set_option linter.unusedSimpArgs false

def tp (l : List Int) (a : Int) : Row := tapeRow 57 l a

theorem mod_ok (v n : Int) (hn : 0 < n) (hn' : n ≤ 9223372036854775807) : AFn Try.prog 26 [.int .i64 v, .int .i64 n] [] (fun r rows => r = .int .i64 (mod v n) ∧ rows = []) := by
  refine afn Try.func26 a26_ok (by simp [a26]) ?_
  simp only [go_sem, Nat.reduceAdd, Nat.reduceSub, Nat.reduceMul, Nat.reduceEqDiff, Nat.reduceLT, Nat.reduceLeDiff, Nat.reduceBEq, reduceIte, reduceCtorEq, Int.reduceToNat, Int.reduceLE, Int.reduceLT, Int.reduceBEq, Int.reduceBNe, a26, a26r0, a26r1, a26r2, a26r3, a26r4]
  refine ⟨by omega, ?_⟩
  have h1 := Int.tmod_lt_of_pos v hn
  refine condC_intro ?_ ?_ <;> intro hg <;> simp only [go_sem, Nat.reduceAdd, Nat.reduceSub, Nat.reduceMul, Nat.reduceEqDiff, Nat.reduceLT, Nat.reduceLeDiff, Nat.reduceBEq, reduceIte, reduceCtorEq, Int.reduceToNat, Int.reduceLE, Int.reduceLT, Int.reduceBEq, Int.reduceBNe, a26, a26r0, a26r1, a26r2, a26r3, a26r4] <;> refine Cl.fin rfl ⟨?_, rfl⟩ <;> simp only [decide_eq_true_eq, decide_eq_false_iff_not] at hg
  · have h2 : -n < v.tmod n := by
      have := Int.lt_tmod_of_pos v hn
      omega
    rw [wrap_i64 (by omega) (by omega), mod, if_pos hg]
  · rw [mod, if_neg hg]

theorem new_ok (l : List Int) : AFn Try.prog 9 [.pure 1 (numsE .i64 l)] [] (fun r rows => r = .ref 0 1 0 0 ∧ rows = [tp l 0]) := by
  refine afn Try.func9 a9_ok (by simp [a9]) ?_
  simp only [go_sem, Nat.reduceAdd, Nat.reduceSub, Nat.reduceMul, Nat.reduceEqDiff, Nat.reduceLT, Nat.reduceLeDiff, Nat.reduceBEq, reduceIte, reduceCtorEq, Int.reduceToNat, Int.reduceLE, Int.reduceLT, Int.reduceBEq, Int.reduceBNe, a9, a9r0, a9r1]
  exact Cl.here ⟨rfl, rfl⟩

theorem next_ok (l : List Int) (hl : TapeOk l) (n : Int) (hn : n ≤ 9223372036854775807) : TapeFn Try.prog 57 22 [.int .i64 n] l (Pickd n) := by
  intro at_ h0 h1
  refine afn Try.func22 a22_ok (by simp [a22]) ?_
  simp only [go_sem, Nat.reduceAdd, Nat.reduceSub, Nat.reduceMul, Nat.reduceEqDiff, Nat.reduceLT, Nat.reduceLeDiff, Nat.reduceBEq, reduceIte, reduceCtorEq, Int.reduceToNat, Int.reduceLE, Int.reduceLT, Int.reduceBEq, Int.reduceBNe, a22, a22r0, a22r1, a22r2, a22r3, a22r4, tapeRow]
  have hlen := hl.len
  repeat' (first | (refine grdC_intro ?_ ?_ <;> intro hg <;> (have hp := hg; try simp only [decide_eq_true_eq, decide_eq_false_iff_not, beq_iff_eq, beq_eq_false_iff_ne, bne_iff_ne, bne_eq_false_iff_eq, Bool.not_eq_true', Bool.not_eq_false', Int.not_lt, Int.not_le, ne_eq, Bool.and_eq_true, Bool.or_eq_true, Bool.or_eq_false_iff, Bool.and_eq_false_iff] at hp) <;> (first | omega | (simp only [go_sem, Nat.reduceAdd, Nat.reduceSub, Nat.reduceMul, Nat.reduceEqDiff, Nat.reduceLT, Nat.reduceLeDiff, Nat.reduceBEq, reduceIte, reduceCtorEq, Int.reduceToNat, Int.reduceLE, Int.reduceLT, Int.reduceBEq, Int.reduceBNe, hg, a22, a22r0, a22r1, a22r2, a22r3, a22r4]; clear hg))) | (refine grdD_intro ?_ ?_ <;> intro hg <;> (have hp := hg; try simp only [decide_eq_true_eq, decide_eq_false_iff_not, beq_iff_eq, beq_eq_false_iff_ne, bne_iff_ne, bne_eq_false_iff_eq, Bool.not_eq_true', Bool.not_eq_false', Int.not_lt, Int.not_le, ne_eq, Bool.and_eq_true, Bool.or_eq_true, Bool.or_eq_false_iff, Bool.and_eq_false_iff] at hp) <;> (first | omega | (simp only [go_sem, Nat.reduceAdd, Nat.reduceSub, Nat.reduceMul, Nat.reduceEqDiff, Nat.reduceLT, Nat.reduceLeDiff, Nat.reduceBEq, reduceIte, reduceCtorEq, Int.reduceToNat, Int.reduceLE, Int.reduceLT, Int.reduceBEq, Int.reduceBNe, hg, a22, a22r0, a22r1, a22r2, a22r3, a22r4]; clear hg))) | (refine condC_intro ?_ ?_ <;> intro hg <;> (have hp := hg; try simp only [decide_eq_true_eq, decide_eq_false_iff_not, beq_iff_eq, beq_eq_false_iff_ne, bne_iff_ne, bne_eq_false_iff_eq, Bool.not_eq_true', Bool.not_eq_false', Int.not_lt, Int.not_le, ne_eq, Bool.and_eq_true, Bool.or_eq_true, Bool.or_eq_false_iff, Bool.and_eq_false_iff] at hp) <;> (first | omega | (simp only [go_sem, Nat.reduceAdd, Nat.reduceSub, Nat.reduceMul, Nat.reduceEqDiff, Nat.reduceLT, Nat.reduceLeDiff, Nat.reduceBEq, reduceIte, reduceCtorEq, Int.reduceToNat, Int.reduceLE, Int.reduceLT, Int.reduceBEq, Int.reduceBNe, hg, a22, a22r0, a22r1, a22r2, a22r3, a22r4]; clear hg))))
  · exact Cl.tape rfl h0 h1 ⟨0, rfl, by omega, by omega⟩
  · exact Cl.tape rfl h0 h1 ⟨0, rfl, by omega, by omega⟩
  · simp (disch := omega) only [wrap_i64, numsE_getD, Int.add_sub_cancel]
    refine ⟨by omega, by omega, by simp, ?_⟩
    simp only [go_sem, Nat.reduceAdd, Nat.reduceSub, Nat.reduceMul, Nat.reduceEqDiff, Nat.reduceLT, Nat.reduceLeDiff, Nat.reduceBEq, reduceIte, reduceCtorEq, Int.reduceToNat, Int.reduceLE, Int.reduceLT, Int.reduceBEq, Int.reduceBNe]
    refine callD_det (mod_ok _ _ (by omega) hn) rfl rfl ?_
    simp only [go_sem, Nat.reduceAdd, Nat.reduceSub, Nat.reduceMul, Nat.reduceEqDiff, Nat.reduceLT, Nat.reduceLeDiff, Nat.reduceBEq, reduceIte, reduceCtorEq, Int.reduceToNat, Int.reduceLE, Int.reduceLT, Int.reduceBEq, Int.reduceBNe]
    have hb := mod_bounds (v := l.getD at_.toNat 0) (n := n) (by omega)
    exact Cl.tape rfl (by omega) (by omega) ⟨_, rfl, by omega, by omega⟩

theorem pick_ok (l : List Int) (hl : TapeOk l) (xs : List Int) (hx : 0 < xs.length) (hx' : xs.length ≤ 1000) : TapeFn1 Try.prog 57 3 29 l xs (fun v => ∃ x, x ∈ xs ∧ v = .int .i64 x) := by
  intro at_ h0 h1
  refine afn Try.func29 a29_ok (by simp [a29]) ?_
  simp only [go_sem, Nat.reduceAdd, Nat.reduceSub, Nat.reduceMul, Nat.reduceEqDiff, Nat.reduceLT, Nat.reduceLeDiff, Nat.reduceBEq, reduceIte, reduceCtorEq, Int.reduceToNat, Int.reduceLE, Int.reduceLT, Int.reduceBEq, Int.reduceBNe, a29, a29r0, a29r1]
  refine callC_tape (next_ok l hl _ (by omega)) rfl (by simp) h0 h1 ?_
  rintro v a h2 h3 ⟨x, rfl, h4, h5⟩
  simp only [go_sem, Nat.reduceAdd, Nat.reduceSub, Nat.reduceMul, Nat.reduceEqDiff, Nat.reduceLT, Nat.reduceLeDiff, Nat.reduceBEq, reduceIte, reduceCtorEq, Int.reduceToNat, Int.reduceLE, Int.reduceLT, Int.reduceBEq, Int.reduceBNe]
  refine ⟨by omega, by omega, ?_⟩
  rw [numsE_getD (by omega)]
  simp only [go_sem, Nat.reduceAdd, Nat.reduceSub, Nat.reduceMul, Nat.reduceEqDiff, Nat.reduceLT, Nat.reduceLeDiff, Nat.reduceBEq, reduceIte, reduceCtorEq, Int.reduceToNat, Int.reduceLE, Int.reduceLT, Int.reduceBEq, Int.reduceBNe]
  refine Cl.here ⟨a, rfl, h2, h3, rfl, _, ?_, rfl⟩
  rw [List.getD_eq_getElem?_getD, List.getElem?_eq_getElem (by omega)]
  simp

theorem key_ok (l : List Int) (hl : TapeOk l) : TapeFn Try.prog 57 27 [] l (fun v => ∃ t s : Int, v = .agg [.int .i64 t, .int .i64 s] ∧ 0 ≤ t ∧ t ≤ 1 ∧ 0 ≤ s ∧ s ≤ 8) := by
  intro at_ h0 h1
  refine afn Try.func27 a27_ok (by simp [a27]) ?_
  simp only [go_sem, Nat.reduceAdd, Nat.reduceSub, Nat.reduceMul, Nat.reduceEqDiff, Nat.reduceLT, Nat.reduceLeDiff, Nat.reduceBEq, reduceIte, reduceCtorEq, Int.reduceToNat, Int.reduceLE, Int.reduceLT, Int.reduceBEq, Int.reduceBNe, a27, a27r0, a27r1]
  (refine callC_tape (next_ok l hl 2 (by omega)) rfl rfl (by omega) (by omega) ?_; rintro _ at_ _ _ ⟨ x, rfl, _, _⟩; simp only [go_sem, Nat.reduceAdd, Nat.reduceSub, Nat.reduceMul, Nat.reduceEqDiff, Nat.reduceLT, Nat.reduceLeDiff, Nat.reduceBEq, reduceIte, reduceCtorEq, Int.reduceToNat, Int.reduceLE, Int.reduceLT, Int.reduceBEq, Int.reduceBNe])
  (refine callC_tape (next_ok l hl 9 (by omega)) rfl rfl (by omega) (by omega) ?_; rintro _ at_ _ _ ⟨ y, rfl, _, _⟩; simp only [go_sem, Nat.reduceAdd, Nat.reduceSub, Nat.reduceMul, Nat.reduceEqDiff, Nat.reduceLT, Nat.reduceLeDiff, Nat.reduceBEq, reduceIte, reduceCtorEq, Int.reduceToNat, Int.reduceLE, Int.reduceLT, Int.reduceBEq, Int.reduceBNe])
  exact Cl.tape rfl (by omega) (by omega) ⟨x, y, rfl, by omega, by omega, by omega, by omega⟩

theorem near_ok (l : List Int) (hl : TapeOk l) : TapeFn Try.prog 57 28 [] l (fun v => ∃ t : Int, v = .int .i64 t ∧ 29453760 ≤ t ∧ t ≤ 29470000) := by
  intro at_ h0 h1
  refine afn Try.func28 a28_ok (by simp [a28]) ?_
  simp only [go_sem, Nat.reduceAdd, Nat.reduceSub, Nat.reduceMul, Nat.reduceEqDiff, Nat.reduceLT, Nat.reduceLeDiff, Nat.reduceBEq, reduceIte, reduceCtorEq, Int.reduceToNat, Int.reduceLE, Int.reduceLT, Int.reduceBEq, Int.reduceBNe, a28, a28r0, a28r1]
  (refine callC_tape (next_ok l hl 10 (by omega)) rfl rfl (by omega) (by omega) ?_; rintro _ at_ _ _ ⟨ x, rfl, _, _⟩; simp only [go_sem, Nat.reduceAdd, Nat.reduceSub, Nat.reduceMul, Nat.reduceEqDiff, Nat.reduceLT, Nat.reduceLeDiff, Nat.reduceBEq, reduceIte, reduceCtorEq, Int.reduceToNat, Int.reduceLE, Int.reduceLT, Int.reduceBEq, Int.reduceBNe])
  (refine callC_tape (next_ok l hl 97 (by omega)) rfl rfl (by omega) (by omega) ?_; rintro _ at_ _ _ ⟨ y, rfl, _, _⟩; simp only [go_sem, Nat.reduceAdd, Nat.reduceSub, Nat.reduceMul, Nat.reduceEqDiff, Nat.reduceLT, Nat.reduceLeDiff, Nat.reduceBEq, reduceIte, reduceCtorEq, Int.reduceToNat, Int.reduceLE, Int.reduceLT, Int.reduceBEq, Int.reduceBNe])
  (refine callC_tape (next_ok l hl 8 (by omega)) rfl rfl (by omega) (by omega) ?_; rintro _ at_ _ _ ⟨ z, rfl, _, _⟩; simp only [go_sem, Nat.reduceAdd, Nat.reduceSub, Nat.reduceMul, Nat.reduceEqDiff, Nat.reduceLT, Nat.reduceLeDiff, Nat.reduceBEq, reduceIte, reduceCtorEq, Int.reduceToNat, Int.reduceLE, Int.reduceLT, Int.reduceBEq, Int.reduceBNe])
  refine ⟨by omega, ?_⟩
  have hz : z.tdiv 6 = z / 6 := Int.tdiv_eq_ediv_of_nonneg (by omega)
  rw [hz]
  simp (disch := omega) only [wrap_i64, wrap_u8, wrap_u16]
  exact Cl.tape rfl (by omega) (by omega) ⟨_, rfl, by omega, by omega⟩

/-- an event -/
structure Ev where
  kt : Int
  ks : Int
  emp : Int
  time : Int
  kind : Int
  tt : Int
  ts : Int
def Ev.cells (e : Ev) : List AVal := [.int .i64 e.kt, .int .i64 e.ks, .int .i64 e.emp, .int .i64 e.time, .int .i64 e.kind, .int .i64 e.tt, .int .i64 e.ts]
instance : Cel Ev := ⟨Ev.cells, 7, fun _ => rfl, fun _ => rfl, fun _ => rfl, fun _ => rfl⟩
theorem cel_ev (e : Ev) : Cel.c e = [.int .i64 e.kt, .int .i64 e.ks, .int .i64 e.emp, .int .i64 e.time, .int .i64 e.kind, .int .i64 e.tt, .int .i64 e.ts] := rfl
theorem cel_ev_sz : Cel.sz Ev = 7 := rfl
theorem cel_ev_take (e : Ev) : List.take 7 (Cel.c e) = Cel.c e := rfl
attribute [go_sem] cel_ev_sz cel_ev_take
theorem Ev.ext' {a b : Ev} (h0 : a.kt = b.kt) (h1 : a.ks = b.ks) (h2 : a.emp = b.emp) (h3 : a.time = b.time) (h4 : a.kind = b.kind) (h5 : a.tt = b.tt) (h6 : a.ts = b.ts) : a = b := by
  cases a; cases b; simp_all

def vKey (t s : Int) : Prop := 0 ≤ t ∧ t ≤ 65535 ∧ 0 ≤ s ∧ s ≤ 2147483647
def vEv (e : Ev) : Prop := vKey e.kt e.ks ∧ 1 ≤ e.emp ∧ e.emp ≤ 2147483647 ∧ 0 ≤ e.time ∧ e.time ≤ 120968639 ∧
  ((1 ≤ e.kind ∧ e.kind ≤ 4 ∧ e.tt = 0 ∧ e.ts = 0) ∨ ((e.kind = 5 ∨ e.kind = 6) ∧ vKey e.tt e.ts))
instance (t s : Int) : Decidable (vKey t s) := by unfold vKey; infer_instance
instance (e : Ev) : Decidable (vEv e) := by unfold vEv; infer_instance

theorem event_ok (l : List Int) (hl : TapeOk l) : TapeFn Try.prog 57 10 [] l (fun v => ∃ e : Ev, v = .agg (Cel.c e) ∧ vEv e) := by
  intro at_ h0 h1
  refine afn Try.func10 a10_ok (by simp [a10]) ?_
  simp only [go_sem, Nat.reduceAdd, Nat.reduceSub, Nat.reduceMul, Nat.reduceEqDiff, Nat.reduceLT, Nat.reduceLeDiff, Nat.reduceBEq, reduceIte, reduceCtorEq, Int.reduceToNat, Int.reduceLE, Int.reduceLT, Int.reduceBEq, Int.reduceBNe, a10, a10r0, a10r1, a10r2, a10r3, a10r4]
  refine callC_tape (key_ok l hl) rfl rfl h0 h1 ?_
  rintro _ at_ _ _ ⟨kt, ks, rfl, _, _, _, _⟩
  simp only [go_sem, Nat.reduceAdd, Nat.reduceSub, Nat.reduceMul, Nat.reduceEqDiff, Nat.reduceLT, Nat.reduceLeDiff, Nat.reduceBEq, reduceIte, reduceCtorEq, Int.reduceToNat, Int.reduceLE, Int.reduceLT, Int.reduceBEq, Int.reduceBNe]
  (refine callC_tape (next_ok l hl 6 (by omega)) rfl rfl (by omega) (by omega) ?_; rintro _ at_ _ _ ⟨ x, rfl, _, _⟩; simp only [go_sem, Nat.reduceAdd, Nat.reduceSub, Nat.reduceMul, Nat.reduceEqDiff, Nat.reduceLT, Nat.reduceLeDiff, Nat.reduceBEq, reduceIte, reduceCtorEq, Int.reduceToNat, Int.reduceLE, Int.reduceLT, Int.reduceBEq, Int.reduceBNe])
  have hx : x.tdiv 5 = x / 5 := Int.tdiv_eq_ediv_of_nonneg (by omega)
  refine ⟨by omega, ?_⟩
  refine callC_tape (near_ok l hl) rfl rfl (by omega) (by omega) ?_
  rintro _ at_ _ _ ⟨t, rfl, _, _⟩
  simp only [go_sem, Nat.reduceAdd, Nat.reduceSub, Nat.reduceMul, Nat.reduceEqDiff, Nat.reduceLT, Nat.reduceLeDiff, Nat.reduceBEq, reduceIte, reduceCtorEq, Int.reduceToNat, Int.reduceLE, Int.reduceLT, Int.reduceBEq, Int.reduceBNe]
  (refine callC_pick [1, 2, 3, 4, 1, 2, 5, 6] (pick_ok l hl _ (by simp) (by simp)) rfl rfl rfl rfl rfl (by decide) (by omega) (by omega) ?_; rintro _ at_ _ _ ⟨k, hmem, rfl⟩; simp only [List.mem_cons, List.not_mem_nil, or_false] at hmem; simp only [go_sem, Nat.reduceAdd, Nat.reduceSub, Nat.reduceMul, Nat.reduceEqDiff, Nat.reduceLT, Nat.reduceLeDiff, Nat.reduceBEq, reduceIte, reduceCtorEq, Int.reduceToNat, Int.reduceLE, Int.reduceLT, Int.reduceBEq, Int.reduceBNe])
  rw [hx]
  simp (disch := omega) only [wrap_i64, wrap_u8, wrap_u16]
  refine condC_intro ?_ ?_ <;> intro hg <;> simp only [decide_eq_true_eq, decide_eq_false_iff_not, beq_iff_eq, beq_eq_false_iff_ne, bne_iff_ne, bne_eq_false_iff_eq, Bool.not_eq_true', Bool.not_eq_false', Int.not_lt, Int.not_le, ne_eq, Bool.and_eq_true, Bool.or_eq_true, Bool.or_eq_false_iff, Bool.and_eq_false_iff] at hg <;> simp only [go_sem, Nat.reduceAdd, Nat.reduceSub, Nat.reduceMul, Nat.reduceEqDiff, Nat.reduceLT, Nat.reduceLeDiff, Nat.reduceBEq, reduceIte, reduceCtorEq, Int.reduceToNat, Int.reduceLE, Int.reduceLT, Int.reduceBEq, Int.reduceBNe, a10, a10r0, a10r1, a10r2, a10r3, a10r4]
  · refine callC_tape (key_ok l hl) rfl rfl (by omega) (by omega) ?_
    rintro _ at_ _ _ ⟨tt, ts, rfl, _, _, _, _⟩
    simp only [go_sem, Nat.reduceAdd, Nat.reduceSub, Nat.reduceMul, Nat.reduceEqDiff, Nat.reduceLT, Nat.reduceLeDiff, Nat.reduceBEq, reduceIte, reduceCtorEq, Int.reduceToNat, Int.reduceLE, Int.reduceLT, Int.reduceBEq, Int.reduceBNe]
    exact Cl.tape rfl (by omega) (by omega) ⟨⟨_, _, _, _, _, _, _⟩, rfl, by simp only [vEv, vKey, and_true]; omega⟩
  · exact Cl.tape rfl (by omega) (by omega) ⟨⟨_, _, _, _, _, _, _⟩, rfl, by simp only [vEv, vKey, and_true]; omega⟩

theorem events_ok (l : List Int) (hl : TapeOk l) (n : Int) (hn0 : 0 ≤ n) (hn : n ≤ 1000) (at_ : Int) (h0 : 0 ≤ at_) (h1 : at_ ≤ l.length) : AFn Try.prog 23 [.ref 0 1 0 0, .int .i64 n] [tp l at_]
    (fun v rs => ∃ (a : Int) (es : List Ev), v = .own 1 es.length 0 es.length ∧ rs = [tp l a, .live 26 7 (els es)] ∧ 0 ≤ a ∧ a ≤ l.length ∧ es.length ≤ n ∧ ∀ e ∈ es, vEv e) := by
  refine afn Try.func23 a23_ok (by simp [a23]) ?_
  simp only [go_sem, Nat.reduceAdd, Nat.reduceSub, Nat.reduceMul, Nat.reduceEqDiff, Nat.reduceLT, Nat.reduceLeDiff, Nat.reduceBEq, reduceIte, reduceCtorEq, Int.reduceToNat, Int.reduceLE, Int.reduceLT, Int.reduceBEq, Int.reduceBNe, a23, a23r0, a23r1, a23r2, a23r3, a23r4, a23r5, a23r6, a23r7, a23r8, tp]
  simp (disch := omega) only [wrap_i64, wrap_u8, wrap_u16]
  (refine callC_tape (next_ok l hl (n + 1) (by omega)) rfl rfl (by omega) (by omega) ?_; rintro _ at_ _ _ ⟨ k, rfl, _, _⟩; simp only [go_sem, Nat.reduceAdd, Nat.reduceSub, Nat.reduceMul, Nat.reduceEqDiff, Nat.reduceLT, Nat.reduceLeDiff, Nat.reduceBEq, reduceIte, reduceCtorEq, Int.reduceToNat, Int.reduceLE, Int.reduceLT, Int.reduceBEq, Int.reduceBNe])
  refine avc_loop (fun env rows => ∃ (a : Int) (es : List Ev) (j : Int), env = [(0, .ref 0 1 0 0), (5, .own 1 es.length 0 es.length), (6, .int .i64 j)] ∧ rows = [tapeRow 57 l a, .live 26 7 (els es)] ∧ 0 ≤ a ∧ a ≤ l.length ∧ 0 ≤ j ∧ es.length + j ≤ n ∧ ∀ e ∈ es, vEv e)
    (fun env _ => match slot env 6 with | .int _ j => j.toNat | _ => 0) ?_ ?_
  · (refine Cl.ghost 5  26  7 rfl (Cl.norm [ 0, 5, 6] ?_); simp only [go_sem, Nat.reduceAdd, Nat.reduceSub, Nat.reduceMul, Nat.reduceEqDiff, Nat.reduceLT, Nat.reduceLeDiff, Nat.reduceBEq, reduceIte, reduceCtorEq, Int.reduceToNat, Int.reduceLE, Int.reduceLT, Int.reduceBEq, Int.reduceBNe])
    exact Cl.here ⟨at_, [], k, rfl, rfl, by omega, by omega, by omega, by simp; omega, by simp⟩
  · rintro env rows ⟨at_, es, j, rfl, rfl, _, _, _, _, hes⟩
    simp only [go_sem, Nat.reduceAdd, Nat.reduceSub, Nat.reduceMul, Nat.reduceEqDiff, Nat.reduceLT, Nat.reduceLeDiff, Nat.reduceBEq, reduceIte, reduceCtorEq, Int.reduceToNat, Int.reduceLE, Int.reduceLT, Int.reduceBEq, Int.reduceBNe, a23, a23r0, a23r1, a23r2, a23r3, a23r4, a23r5, a23r6, a23r7, a23r8]
    refine condC_intro ?_ ?_ <;> intro hg <;> simp only [decide_eq_true_eq, decide_eq_false_iff_not, beq_iff_eq, beq_eq_false_iff_ne, bne_iff_ne, bne_eq_false_iff_eq, Bool.not_eq_true', Bool.not_eq_false', Int.not_lt, Int.not_le, ne_eq, Bool.and_eq_true, Bool.or_eq_true, Bool.or_eq_false_iff, Bool.and_eq_false_iff] at hg <;> simp only [go_sem, Nat.reduceAdd, Nat.reduceSub, Nat.reduceMul, Nat.reduceEqDiff, Nat.reduceLT, Nat.reduceLeDiff, Nat.reduceBEq, reduceIte, reduceCtorEq, Int.reduceToNat, Int.reduceLE, Int.reduceLT, Int.reduceBEq, Int.reduceBNe]
    · refine grdC_intro ?_ ?_ <;> intro hb <;> simp only [go_sem, Nat.reduceAdd, Nat.reduceSub, Nat.reduceMul, Nat.reduceEqDiff, Nat.reduceLT, Nat.reduceLeDiff, Nat.reduceBEq, reduceIte, reduceCtorEq, Int.reduceToNat, Int.reduceLE, Int.reduceLT, Int.reduceBEq, Int.reduceBNe, hb] <;> simp only [decide_eq_true_eq, decide_eq_false_iff_not, beq_iff_eq, beq_eq_false_iff_ne, bne_iff_ne, bne_eq_false_iff_eq, Bool.not_eq_true', Bool.not_eq_false', Int.not_lt, Int.not_le, ne_eq, Bool.and_eq_true, Bool.or_eq_true, Bool.or_eq_false_iff, Bool.and_eq_false_iff] at hb
      · (refine callC_tape (next_ok l hl 8 (by omega)) rfl rfl (by omega) (by omega) ?_; rintro _ at_ _ _ ⟨ x, rfl, _, _⟩; simp only [go_sem, Nat.reduceAdd, Nat.reduceSub, Nat.reduceMul, Nat.reduceEqDiff, Nat.reduceLT, Nat.reduceLeDiff, Nat.reduceBEq, reduceIte, reduceCtorEq, Int.reduceToNat, Int.reduceLE, Int.reduceLT, Int.reduceBEq, Int.reduceBNe])
        refine condC_intro ?_ ?_ <;> intro hc <;> simp only [go_sem, Nat.reduceAdd, Nat.reduceSub, Nat.reduceMul, Nat.reduceEqDiff, Nat.reduceLT, Nat.reduceLeDiff, Nat.reduceBEq, reduceIte, reduceCtorEq, Int.reduceToNat, Int.reduceLE, Int.reduceLT, Int.reduceBEq, Int.reduceBNe, a23, a23r0, a23r1, a23r2, a23r3, a23r4, a23r5, a23r6, a23r7, a23r8]
        · (refine callC_tape (next_ok l hl (es.length : Int) (by omega)) rfl rfl (by omega) (by omega) ?_; rintro _ at_ _ _ ⟨ y, rfl, _, _⟩; simp only [go_sem, Nat.reduceAdd, Nat.reduceSub, Nat.reduceMul, Nat.reduceEqDiff, Nat.reduceLT, Nat.reduceLeDiff, Nat.reduceBEq, reduceIte, reduceCtorEq, Int.reduceToNat, Int.reduceLE, Int.reduceLT, Int.reduceBEq, Int.reduceBNe])
          refine ⟨by omega, by omega, ?_⟩
          rw [els_getD (by omega)]
          simp only [go_sem, Nat.reduceAdd, Nat.reduceSub, Nat.reduceMul, Nat.reduceEqDiff, Nat.reduceLT, Nat.reduceLeDiff, Nat.reduceBEq, reduceIte, reduceCtorEq, Int.reduceToNat, Int.reduceLE, Int.reduceLT, Int.reduceBEq, Int.reduceBNe]
          refine ⟨by omega, ?_⟩
          (refine Cl.tr [some 0, some 1] [] rfl rfl (by simp only [go_sem, Nat.reduceAdd, Nat.reduceSub, Nat.reduceMul, Nat.reduceEqDiff, Nat.reduceLT, Nat.reduceLeDiff, Nat.reduceBEq, reduceIte, reduceCtorEq, Int.reduceToNat, Int.reduceLE, Int.reduceLT, Int.reduceBEq, Int.reduceBNe] <;> rfl) ?_; simp only [go_sem, Nat.reduceAdd, Nat.reduceSub, Nat.reduceMul, Nat.reduceEqDiff, Nat.reduceLT, Nat.reduceLeDiff, Nat.reduceBEq, reduceIte, reduceCtorEq, Int.reduceToNat, Int.reduceLE, Int.reduceLT, Int.reduceBEq, Int.reduceBNe])
          rw [wrap_i64 (by omega) (by omega)]
          refine Cl.here ⟨⟨at_, es ++ [es[y.toNat]], j - 1, by simp, rfl, by omega, by omega, by omega, by simp; omega, ?_⟩, ?_⟩
          · intro e he
            simp only [List.mem_append, List.mem_singleton] at he
            rcases he with he | rfl
            · exact hes e he
            · exact hes _ (List.getElem_mem _)
          · simp only [go_sem, Nat.reduceAdd, Nat.reduceSub, Nat.reduceMul, Nat.reduceEqDiff, Nat.reduceLT, Nat.reduceLeDiff, Nat.reduceBEq, reduceIte, reduceCtorEq, Int.reduceToNat, Int.reduceLE, Int.reduceLT, Int.reduceBEq, Int.reduceBNe]
            omega
        · refine callC_tape (event_ok l hl) rfl rfl (by omega) (by omega) ?_
          rintro _ at_ _ _ ⟨e, rfl, he⟩
          simp only [go_sem, Nat.reduceAdd, Nat.reduceSub, Nat.reduceMul, Nat.reduceEqDiff, Nat.reduceLT, Nat.reduceLeDiff, Nat.reduceBEq, reduceIte, reduceCtorEq, Int.reduceToNat, Int.reduceLE, Int.reduceLT, Int.reduceBEq, Int.reduceBNe, a23, a23r0, a23r1, a23r2, a23r3, a23r4, a23r5, a23r6, a23r7, a23r8]
          refine ⟨by omega, ?_⟩
          (refine Cl.tr [some 0, some 1] [] rfl rfl (by simp only [go_sem, Nat.reduceAdd, Nat.reduceSub, Nat.reduceMul, Nat.reduceEqDiff, Nat.reduceLT, Nat.reduceLeDiff, Nat.reduceBEq, reduceIte, reduceCtorEq, Int.reduceToNat, Int.reduceLE, Int.reduceLT, Int.reduceBEq, Int.reduceBNe] <;> rfl) ?_; simp only [go_sem, Nat.reduceAdd, Nat.reduceSub, Nat.reduceMul, Nat.reduceEqDiff, Nat.reduceLT, Nat.reduceLeDiff, Nat.reduceBEq, reduceIte, reduceCtorEq, Int.reduceToNat, Int.reduceLE, Int.reduceLT, Int.reduceBEq, Int.reduceBNe])
          rw [wrap_i64 (by omega) (by omega)]
          refine Cl.here ⟨⟨at_, es ++ [e], j - 1, by simp, rfl, by omega, by omega, by omega, by simp; omega, ?_⟩, ?_⟩
          · intro e' he'
            simp only [List.mem_append, List.mem_singleton] at he'
            rcases he' with he' | rfl
            · exact hes e' he'
            · exact he
          · simp only [go_sem, Nat.reduceAdd, Nat.reduceSub, Nat.reduceMul, Nat.reduceEqDiff, Nat.reduceLT, Nat.reduceLeDiff, Nat.reduceBEq, reduceIte, reduceCtorEq, Int.reduceToNat, Int.reduceLE, Int.reduceLT, Int.reduceBEq, Int.reduceBNe]
            omega
      · refine callC_tape (event_ok l hl) rfl rfl (by omega) (by omega) ?_
        rintro _ at_ _ _ ⟨e, rfl, he⟩
        simp only [go_sem, Nat.reduceAdd, Nat.reduceSub, Nat.reduceMul, Nat.reduceEqDiff, Nat.reduceLT, Nat.reduceLeDiff, Nat.reduceBEq, reduceIte, reduceCtorEq, Int.reduceToNat, Int.reduceLE, Int.reduceLT, Int.reduceBEq, Int.reduceBNe, a23, a23r0, a23r1, a23r2, a23r3, a23r4, a23r5, a23r6, a23r7, a23r8]
        refine ⟨by omega, ?_⟩
        (refine Cl.tr [some 0, some 1] [] rfl rfl (by simp only [go_sem, Nat.reduceAdd, Nat.reduceSub, Nat.reduceMul, Nat.reduceEqDiff, Nat.reduceLT, Nat.reduceLeDiff, Nat.reduceBEq, reduceIte, reduceCtorEq, Int.reduceToNat, Int.reduceLE, Int.reduceLT, Int.reduceBEq, Int.reduceBNe] <;> rfl) ?_; simp only [go_sem, Nat.reduceAdd, Nat.reduceSub, Nat.reduceMul, Nat.reduceEqDiff, Nat.reduceLT, Nat.reduceLeDiff, Nat.reduceBEq, reduceIte, reduceCtorEq, Int.reduceToNat, Int.reduceLE, Int.reduceLT, Int.reduceBEq, Int.reduceBNe])
        rw [wrap_i64 (by omega) (by omega)]
        refine Cl.here ⟨⟨at_, es ++ [e], j - 1, by simp, rfl, by omega, by omega, by omega, by simp; omega, ?_⟩, ?_⟩
        · intro e' he'
          simp only [List.mem_append, List.mem_singleton] at he'
          rcases he' with he' | rfl
          · exact hes e' he'
          · exact he
        · simp only [go_sem, Nat.reduceAdd, Nat.reduceSub, Nat.reduceMul, Nat.reduceEqDiff, Nat.reduceLT, Nat.reduceLeDiff, Nat.reduceBEq, reduceIte, reduceCtorEq, Int.reduceToNat, Int.reduceLE, Int.reduceLT, Int.reduceBEq, Int.reduceBNe]
          omega
    · exact Cl.here ⟨at_, es, rfl, rfl, by omega, by omega, by omega, hes⟩
end Go.Proofs.Ytkgffhjlfdmfeaa
