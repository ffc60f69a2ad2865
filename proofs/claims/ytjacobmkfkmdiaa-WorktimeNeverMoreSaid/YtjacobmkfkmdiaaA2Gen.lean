/- Contracts of the functions that make choices: Mod, New, Next, Pick, Key. -/
import Derived.Test.YtjacobmkfkmdiaaA2PForms
import Derived.Test.YtjacobmkfkmdiaaAbsMd
set_option linter.unusedSimpArgs false
set_option linter.unusedVariables false
set_option linter.unusedSectionVars false
namespace Go.Proofs.Ytjacobmkfkmdiaa
open Go Go.Abs
set_option linter.unusedSimpArgs false

def tp (l : List Int) (a : Int) : Row := tapeRow 100 l a

theorem mod_ok (v n : Int) (hn : 0 < n) (hn' : n ≤ 9223372036854775807) : AFn Try.prog 14 [.int .i64 v, .int .i64 n] [] (fun r rows => r = .int .i64 (mod v n) ∧ rows = []) := by
  refine afn Try.func14 a14_ok (by simp [a14]) ?_
  simp only [go_sem, Nat.reduceAdd, Nat.reduceSub, Nat.reduceMul, Nat.reduceEqDiff, Nat.reduceLT, Nat.reduceLeDiff, Nat.reduceBEq, reduceIte, reduceCtorEq, Int.reduceToNat, Int.reduceLE, Int.reduceLT, Int.reduceBEq, Int.reduceBNe, a14, a14r0, a14r1, a14r2, a14r3, a14r4]
  refine ⟨by omega, ?_⟩
  have h1 := Int.tmod_lt_of_pos v hn
  refine condC_intro ?_ ?_ <;> intro hg <;> simp only [go_sem, Nat.reduceAdd, Nat.reduceSub, Nat.reduceMul, Nat.reduceEqDiff, Nat.reduceLT, Nat.reduceLeDiff, Nat.reduceBEq, reduceIte, reduceCtorEq, Int.reduceToNat, Int.reduceLE, Int.reduceLT, Int.reduceBEq, Int.reduceBNe, a14, a14r0, a14r1, a14r2, a14r3, a14r4] <;> refine Cl.fin rfl ⟨?_, rfl⟩ <;> simp only [decide_eq_true_eq, decide_eq_false_iff_not] at hg
  · have h2 : -n < v.tmod n := by
      have := Int.lt_tmod_of_pos v hn
      omega
    rw [wrap_i64 (by omega) (by omega), mod, if_pos hg]
  · rw [mod, if_neg hg]

theorem new_ok (l : List Int) : AFn Try.prog 20 [.pure 1 (numsE .i64 l)] [] (fun r rows => r = .ref 0 1 0 0 ∧ rows = [tp l 0]) := by
  refine afn Try.func20 a20_ok (by simp [a20]) ?_
  simp only [go_sem, Nat.reduceAdd, Nat.reduceSub, Nat.reduceMul, Nat.reduceEqDiff, Nat.reduceLT, Nat.reduceLeDiff, Nat.reduceBEq, reduceIte, reduceCtorEq, Int.reduceToNat, Int.reduceLE, Int.reduceLT, Int.reduceBEq, Int.reduceBNe, a20, a20r0, a20r1]
  exact Cl.here ⟨rfl, rfl⟩

theorem next_ok (l : List Int) (hl : TapeOk l) (n : Int) (hn : n ≤ 9223372036854775807) : TapeFn Try.prog 100 38 [.int .i64 n] l (Pickd n) := by
  intro at_ h0 h1
  refine afn Try.func38 a38_ok (by simp [a38]) ?_
  simp only [go_sem, Nat.reduceAdd, Nat.reduceSub, Nat.reduceMul, Nat.reduceEqDiff, Nat.reduceLT, Nat.reduceLeDiff, Nat.reduceBEq, reduceIte, reduceCtorEq, Int.reduceToNat, Int.reduceLE, Int.reduceLT, Int.reduceBEq, Int.reduceBNe, a38, a38r0, a38r1, a38r2, a38r3, a38r4, tapeRow]
  have hlen := hl.len
  repeat' (first | (refine grdC_intro ?_ ?_ <;> intro hg <;> (have hp := hg; try simp only [decide_eq_true_eq, decide_eq_false_iff_not, beq_iff_eq, beq_eq_false_iff_ne, bne_iff_ne, bne_eq_false_iff_eq, Bool.not_eq_true', Bool.not_eq_false', Int.not_lt, Int.not_le, ne_eq, Bool.and_eq_true, Bool.or_eq_true, Bool.or_eq_false_iff, Bool.and_eq_false_iff] at hp) <;> (first | omega | (simp only [go_sem, Nat.reduceAdd, Nat.reduceSub, Nat.reduceMul, Nat.reduceEqDiff, Nat.reduceLT, Nat.reduceLeDiff, Nat.reduceBEq, reduceIte, reduceCtorEq, Int.reduceToNat, Int.reduceLE, Int.reduceLT, Int.reduceBEq, Int.reduceBNe, hg, a38, a38r0, a38r1, a38r2, a38r3, a38r4]; clear hg))) | (refine grdD_intro ?_ ?_ <;> intro hg <;> (have hp := hg; try simp only [decide_eq_true_eq, decide_eq_false_iff_not, beq_iff_eq, beq_eq_false_iff_ne, bne_iff_ne, bne_eq_false_iff_eq, Bool.not_eq_true', Bool.not_eq_false', Int.not_lt, Int.not_le, ne_eq, Bool.and_eq_true, Bool.or_eq_true, Bool.or_eq_false_iff, Bool.and_eq_false_iff] at hp) <;> (first | omega | (simp only [go_sem, Nat.reduceAdd, Nat.reduceSub, Nat.reduceMul, Nat.reduceEqDiff, Nat.reduceLT, Nat.reduceLeDiff, Nat.reduceBEq, reduceIte, reduceCtorEq, Int.reduceToNat, Int.reduceLE, Int.reduceLT, Int.reduceBEq, Int.reduceBNe, hg, a38, a38r0, a38r1, a38r2, a38r3, a38r4]; clear hg))) | (refine condC_intro ?_ ?_ <;> intro hg <;> (have hp := hg; try simp only [decide_eq_true_eq, decide_eq_false_iff_not, beq_iff_eq, beq_eq_false_iff_ne, bne_iff_ne, bne_eq_false_iff_eq, Bool.not_eq_true', Bool.not_eq_false', Int.not_lt, Int.not_le, ne_eq, Bool.and_eq_true, Bool.or_eq_true, Bool.or_eq_false_iff, Bool.and_eq_false_iff] at hp) <;> (first | omega | (simp only [go_sem, Nat.reduceAdd, Nat.reduceSub, Nat.reduceMul, Nat.reduceEqDiff, Nat.reduceLT, Nat.reduceLeDiff, Nat.reduceBEq, reduceIte, reduceCtorEq, Int.reduceToNat, Int.reduceLE, Int.reduceLT, Int.reduceBEq, Int.reduceBNe, hg, a38, a38r0, a38r1, a38r2, a38r3, a38r4]; clear hg))) | (refine condW_intro ?_ ?_ <;> intro hg <;> (have hp := hg; try simp only [decide_eq_true_eq, decide_eq_false_iff_not, beq_iff_eq, beq_eq_false_iff_ne, bne_iff_ne, bne_eq_false_iff_eq, Bool.not_eq_true', Bool.not_eq_false', Int.not_lt, Int.not_le, ne_eq, Bool.and_eq_true, Bool.or_eq_true, Bool.or_eq_false_iff, Bool.and_eq_false_iff] at hp) <;> (first | omega | (simp only [go_sem, Nat.reduceAdd, Nat.reduceSub, Nat.reduceMul, Nat.reduceEqDiff, Nat.reduceLT, Nat.reduceLeDiff, Nat.reduceBEq, reduceIte, reduceCtorEq, Int.reduceToNat, Int.reduceLE, Int.reduceLT, Int.reduceBEq, Int.reduceBNe, hg, a38, a38r0, a38r1, a38r2, a38r3, a38r4]; clear hg))))
  · exact Cl.tape rfl h0 h1 ⟨0, rfl, by omega, by omega⟩
  · exact Cl.tape rfl h0 h1 ⟨0, rfl, by omega, by omega⟩
  · simp (disch := omega) only [wrap_i64, numsE_getD, Int.add_sub_cancel]
    refine ⟨by omega, by omega, by simp, ?_⟩
    simp only [go_sem, Nat.reduceAdd, Nat.reduceSub, Nat.reduceMul, Nat.reduceEqDiff, Nat.reduceLT, Nat.reduceLeDiff, Nat.reduceBEq, reduceIte, reduceCtorEq, Int.reduceToNat, Int.reduceLE, Int.reduceLT, Int.reduceBEq, Int.reduceBNe]
    refine callD_det (mod_ok _ _ (by omega) hn) rfl rfl ?_
    simp only [go_sem, Nat.reduceAdd, Nat.reduceSub, Nat.reduceMul, Nat.reduceEqDiff, Nat.reduceLT, Nat.reduceLeDiff, Nat.reduceBEq, reduceIte, reduceCtorEq, Int.reduceToNat, Int.reduceLE, Int.reduceLT, Int.reduceBEq, Int.reduceBNe]
    have hb := mod_bounds (v := l.getD at_.toNat 0) (n := n) (by omega)
    exact Cl.tape rfl (by omega) (by omega) ⟨_, rfl, by omega, by omega⟩

theorem pick_ok (l : List Int) (hl : TapeOk l) (xs : List Int) (hx : 0 < xs.length) (hx' : xs.length ≤ 1000) : TapeFn1 Try.prog 100 3 52 l xs (fun v => ∃ x, x ∈ xs ∧ v = .int .i64 x) := by
  intro at_ h0 h1
  refine afn Try.func52 a52_ok (by simp [a52]) ?_
  simp only [go_sem, Nat.reduceAdd, Nat.reduceSub, Nat.reduceMul, Nat.reduceEqDiff, Nat.reduceLT, Nat.reduceLeDiff, Nat.reduceBEq, reduceIte, reduceCtorEq, Int.reduceToNat, Int.reduceLE, Int.reduceLT, Int.reduceBEq, Int.reduceBNe, a52, a52r0, a52r1]
  refine callC_tape (next_ok l hl _ (by omega)) rfl (by simp) h0 h1 ?_
  rintro v a h2 h3 ⟨x, rfl, h4, h5⟩
  simp only [go_sem, Nat.reduceAdd, Nat.reduceSub, Nat.reduceMul, Nat.reduceEqDiff, Nat.reduceLT, Nat.reduceLeDiff, Nat.reduceBEq, reduceIte, reduceCtorEq, Int.reduceToNat, Int.reduceLE, Int.reduceLT, Int.reduceBEq, Int.reduceBNe]
  refine ⟨by omega, by omega, ?_⟩
  rw [numsE_getD (by omega)]
  simp only [go_sem, Nat.reduceAdd, Nat.reduceSub, Nat.reduceMul, Nat.reduceEqDiff, Nat.reduceLT, Nat.reduceLeDiff, Nat.reduceBEq, reduceIte, reduceCtorEq, Int.reduceToNat, Int.reduceLE, Int.reduceLT, Int.reduceBEq, Int.reduceBNe]
  refine Cl.here ⟨a, rfl, h2, h3, rfl, _, ?_, rfl⟩
  rw [List.getD_eq_getElem?_getD, List.getElem?_eq_getElem (by omega)]
  simp

theorem key_ok (l : List Int) (hl : TapeOk l) : TapeFn Try.prog 100 54 [] l (fun v => ∃ t s : Int, v = .agg [.int .i64 t, .int .i64 s] ∧ 0 ≤ t ∧ t ≤ 1 ∧ 0 ≤ s ∧ s ≤ 8) := by
  intro at_ h0 h1
  refine afn Try.func54 a54_ok (by simp [a54]) ?_
  simp only [go_sem, Nat.reduceAdd, Nat.reduceSub, Nat.reduceMul, Nat.reduceEqDiff, Nat.reduceLT, Nat.reduceLeDiff, Nat.reduceBEq, reduceIte, reduceCtorEq, Int.reduceToNat, Int.reduceLE, Int.reduceLT, Int.reduceBEq, Int.reduceBNe, a54, a54r0, a54r1]
  (refine callC_tape (next_ok l hl 2 (by omega)) rfl rfl (by omega) (by omega) ?_; rintro _ at_ _ _ ⟨ x, rfl, _, _⟩; simp only [go_sem, Nat.reduceAdd, Nat.reduceSub, Nat.reduceMul, Nat.reduceEqDiff, Nat.reduceLT, Nat.reduceLeDiff, Nat.reduceBEq, reduceIte, reduceCtorEq, Int.reduceToNat, Int.reduceLE, Int.reduceLT, Int.reduceBEq, Int.reduceBNe])
  (refine callC_tape (next_ok l hl 9 (by omega)) rfl rfl (by omega) (by omega) ?_; rintro _ at_ _ _ ⟨ y, rfl, _, _⟩; simp only [go_sem, Nat.reduceAdd, Nat.reduceSub, Nat.reduceMul, Nat.reduceEqDiff, Nat.reduceLT, Nat.reduceLeDiff, Nat.reduceBEq, reduceIte, reduceCtorEq, Int.reduceToNat, Int.reduceLE, Int.reduceLT, Int.reduceBEq, Int.reduceBNe])
  exact Cl.tape rfl (by omega) (by omega) ⟨x, y, rfl, by omega, by omega, by omega, by omega⟩

structure Iv where
  fr : Int
  to : Int
def Iv.cells (e : Iv) : List AVal := [.int .i64 e.fr, .int .i64 e.to]
instance : Cel Iv := ⟨Iv.cells, 2, fun _ => rfl, fun _ => rfl, fun _ => rfl⟩
instance : Flt Iv := ⟨fun _ => rfl⟩
theorem cel_iv (e : Iv) : Cel.c e = [.int .i64 e.fr, .int .i64 e.to] := rfl
theorem cel_iv_sz : Cel.sz Iv = 2 := rfl
theorem cel_iv_take (e : Iv) : List.take 2 (Cel.c e) = Cel.c e := rfl
attribute [go_sem] cel_iv_sz cel_iv_take
theorem Iv.ext' {a b : Iv} (h0 : a.fr = b.fr) (h1 : a.to = b.to) : a = b := by
  cases a; cases b; simp_all

structure Stamp where
  time : Int
  kind : Int
  kt : Int
  ks : Int
def Stamp.cells (e : Stamp) : List AVal := [.int .i64 e.time, .int .i64 e.kind, .int .i64 e.kt, .int .i64 e.ks]
instance : Cel Stamp := ⟨Stamp.cells, 4, fun _ => rfl, fun _ => rfl, fun _ => rfl⟩
instance : Flt Stamp := ⟨fun _ => rfl⟩
theorem cel_stamp (e : Stamp) : Cel.c e = [.int .i64 e.time, .int .i64 e.kind, .int .i64 e.kt, .int .i64 e.ks] := rfl
theorem cel_stamp_sz : Cel.sz Stamp = 4 := rfl
theorem cel_stamp_take (e : Stamp) : List.take 4 (Cel.c e) = Cel.c e := rfl
attribute [go_sem] cel_stamp_sz cel_stamp_take
theorem Stamp.ext' {a b : Stamp} (h0 : a.time = b.time) (h1 : a.kind = b.kind) (h2 : a.kt = b.kt) (h3 : a.ks = b.ks) : a = b := by
  cases a; cases b; simp_all

structure An where
  kind : Int
  time : Int
def An.cells (e : An) : List AVal := [.int .i64 e.kind, .int .i64 e.time]
instance : Cel An := ⟨An.cells, 2, fun _ => rfl, fun _ => rfl, fun _ => rfl⟩
instance : Flt An := ⟨fun _ => rfl⟩
theorem cel_an (e : An) : Cel.c e = [.int .i64 e.kind, .int .i64 e.time] := rfl
theorem cel_an_sz : Cel.sz An = 2 := rfl
theorem cel_an_take (e : An) : List.take 2 (Cel.c e) = Cel.c e := rfl
attribute [go_sem] cel_an_sz cel_an_take
theorem An.ext' {a b : An} (h0 : a.kind = b.kind) (h1 : a.time = b.time) : a = b := by
  cases a; cases b; simp_all

/-- a presence -/
structure Pre where
  fr : Int
  to : Int
  br : List Iv
def Pre.cells (p : Pre) : List AVal := [.int .i64 p.fr, .int .i64 p.to, .pure 2 (els p.br)]
theorem pre_on (p : Pre) : p.cells.all one = true := by simp [Pre.cells, one]
theorem pre_cl (p : Pre) : cleanL p.cells = true := by simp [Pre.cells, cleanL, clean]
instance : Cel Pre := ⟨Pre.cells, 3, fun _ => rfl, pre_cl, pre_on⟩
theorem cel_pre (p : Pre) : Cel.c p = [.int .i64 p.fr, .int .i64 p.to, .pure 2 (els p.br)] := rfl
theorem cel_pre_sz : Cel.sz Pre = 3 := rfl
theorem cel_pre_take (p : Pre) : List.take 3 (Cel.c p) = Cel.c p := rfl
attribute [go_sem] cel_pre_sz cel_pre_take
theorem iv_snoc {l : List Iv} {a b : Int} : els l ++ [[.int .i64 a, .int .i64 b]] = els (l ++ [⟨a, b⟩]) := els_snoc (x := Iv.mk a b)
theorem an_snoc {l : List An} {a b : Int} : els l ++ [[.int .i64 a, .int .i64 b]] = els (l ++ [⟨a, b⟩]) := els_snoc (x := An.mk a b)
theorem stamp_snoc {l : List Stamp} {a b c d : Int} : els l ++ [[.int .i64 a, .int .i64 b, .int .i64 c, .int .i64 d]] = els (l ++ [⟨a, b, c, d⟩]) := els_snoc (x := Stamp.mk a b c d)
theorem pre_snoc {l : List Pre} {a b : Int} {bs : List Iv} : els l ++ [[.int .i64 a, .int .i64 b, .pure 2 (els bs)]] = els (l ++ [⟨a, b, bs⟩]) := els_snoc (x := Pre.mk a b bs)
attribute [go_sem] iv_snoc an_snoc stamp_snoc pre_snoc
theorem Pre.ext' {a b : Pre} (h0 : a.fr = b.fr) (h1 : a.to = b.to) (h2 : a.br = b.br) : a = b := by
  cases a; cases b; simp_all

end Go.Proofs.Ytjacobmkfkmdiaa
