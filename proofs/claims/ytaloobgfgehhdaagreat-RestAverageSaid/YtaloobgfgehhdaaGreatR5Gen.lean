/- Contracts of the functions that make choices: Mod, New, Next, Pick, Key, Near; the structs. -/
import Derived.Test.YtaloobgfgehhdaaGreatB1Forms
import Derived.Test.YtaloobgfgehhdaaGreatAbs41
set_option linter.unusedSimpArgs false
set_option linter.unusedVariables false
set_option linter.unusedSectionVars false
namespace Go.Proofs.YtaloobgfgehhdaaGreat
open Go Go.Abs
set_option linter.unusedSimpArgs false

instance : Glb := ⟨0, fun _ => True, fun _ _ _ _ => trivial⟩

def tp (l : List Int) (a : Int) : Row := tapeRow 48 l a

theorem mod_ok (v n : Int) (hn : 0 < n) (hn' : n ≤ 9223372036854775807) : AFn Tryz.prog 9 [.int .i64 v, .int .i64 n] [] (fun r rows => r = .int .i64 (mod v n) ∧ rows = []) := by
  refine afn Tryz.func9 a9_ok (by simp [a9]) ?_
  simp only [go_sem, Nat.reduceAdd, Nat.reduceSub, Nat.reduceMul, Nat.reduceEqDiff, Nat.reduceLT, Nat.reduceLeDiff, Nat.reduceBEq, reduceIte, reduceCtorEq, Int.reduceToNat, Int.reduceLE, Int.reduceLT, Int.reduceBEq, Int.reduceBNe, a9, a9r0, a9r1, a9r2, a9r3, a9r4]
  refine ⟨by omega, ?_⟩
  have h1 := Int.tmod_lt_of_pos v hn
  refine condC_intro ?_ ?_ <;> intro hg <;> simp only [go_sem, Nat.reduceAdd, Nat.reduceSub, Nat.reduceMul, Nat.reduceEqDiff, Nat.reduceLT, Nat.reduceLeDiff, Nat.reduceBEq, reduceIte, reduceCtorEq, Int.reduceToNat, Int.reduceLE, Int.reduceLT, Int.reduceBEq, Int.reduceBNe, a9, a9r0, a9r1, a9r2, a9r3, a9r4] <;> refine Cl.fin rfl ⟨?_, rfl⟩ <;> simp only [decide_eq_true_eq, decide_eq_false_iff_not] at hg
  · have h2 : -n < v.tmod n := by
      have := Int.lt_tmod_of_pos v hn
      omega
    rw [wrap_i64 (by omega) (by omega), mod, if_pos hg]
  · rw [mod, if_neg hg]

theorem new_ok (l : List Int) : AFn Tryz.prog 5 [.pure 1 (numsE .i64 l)] [] (fun r rows => r = .ref 0 1 0 0 ∧ rows = [tp l 0]) := by
  refine afn Tryz.func5 a5_ok (by simp [a5]) ?_
  simp only [go_sem, Nat.reduceAdd, Nat.reduceSub, Nat.reduceMul, Nat.reduceEqDiff, Nat.reduceLT, Nat.reduceLeDiff, Nat.reduceBEq, reduceIte, reduceCtorEq, Int.reduceToNat, Int.reduceLE, Int.reduceLT, Int.reduceBEq, Int.reduceBNe, a5, a5r0, a5r1]
  exact Cl.here ⟨rfl, rfl⟩

theorem next_ok (l : List Int) (hl : TapeOk l) (n : Int) (hn : n ≤ 9223372036854775807) : TapeFn Tryz.prog 48 8 [.int .i64 n] l (Pickd n) := by
  intro at_ h0 h1
  refine afn Tryz.func8 a8_ok (by simp [a8]) ?_
  simp only [go_sem, Nat.reduceAdd, Nat.reduceSub, Nat.reduceMul, Nat.reduceEqDiff, Nat.reduceLT, Nat.reduceLeDiff, Nat.reduceBEq, reduceIte, reduceCtorEq, Int.reduceToNat, Int.reduceLE, Int.reduceLT, Int.reduceBEq, Int.reduceBNe, a8, a8r0, a8r1, a8r2, a8r3, a8r4, tapeRow]
  have hlen := hl.len
  repeat' (first | (refine grdC_intro ?_ ?_ <;> intro hg <;> (have hp := hg; try simp only [decide_eq_true_eq, decide_eq_false_iff_not, beq_iff_eq, beq_eq_false_iff_ne, bne_iff_ne, bne_eq_false_iff_eq, Bool.not_eq_true', Bool.not_eq_false', Int.not_lt, Int.not_le, ne_eq, Bool.and_eq_true, Bool.or_eq_true, Bool.or_eq_false_iff, Bool.and_eq_false_iff] at hp) <;> (first | omega | (simp only [go_sem, Nat.reduceAdd, Nat.reduceSub, Nat.reduceMul, Nat.reduceEqDiff, Nat.reduceLT, Nat.reduceLeDiff, Nat.reduceBEq, reduceIte, reduceCtorEq, Int.reduceToNat, Int.reduceLE, Int.reduceLT, Int.reduceBEq, Int.reduceBNe, hg, a8, a8r0, a8r1, a8r2, a8r3, a8r4]; clear hg))) | (refine grdD_intro ?_ ?_ <;> intro hg <;> (have hp := hg; try simp only [decide_eq_true_eq, decide_eq_false_iff_not, beq_iff_eq, beq_eq_false_iff_ne, bne_iff_ne, bne_eq_false_iff_eq, Bool.not_eq_true', Bool.not_eq_false', Int.not_lt, Int.not_le, ne_eq, Bool.and_eq_true, Bool.or_eq_true, Bool.or_eq_false_iff, Bool.and_eq_false_iff] at hp) <;> (first | omega | (simp only [go_sem, Nat.reduceAdd, Nat.reduceSub, Nat.reduceMul, Nat.reduceEqDiff, Nat.reduceLT, Nat.reduceLeDiff, Nat.reduceBEq, reduceIte, reduceCtorEq, Int.reduceToNat, Int.reduceLE, Int.reduceLT, Int.reduceBEq, Int.reduceBNe, hg, a8, a8r0, a8r1, a8r2, a8r3, a8r4]; clear hg))) | (refine condC_intro ?_ ?_ <;> intro hg <;> (have hp := hg; try simp only [decide_eq_true_eq, decide_eq_false_iff_not, beq_iff_eq, beq_eq_false_iff_ne, bne_iff_ne, bne_eq_false_iff_eq, Bool.not_eq_true', Bool.not_eq_false', Int.not_lt, Int.not_le, ne_eq, Bool.and_eq_true, Bool.or_eq_true, Bool.or_eq_false_iff, Bool.and_eq_false_iff] at hp) <;> (first | omega | (simp only [go_sem, Nat.reduceAdd, Nat.reduceSub, Nat.reduceMul, Nat.reduceEqDiff, Nat.reduceLT, Nat.reduceLeDiff, Nat.reduceBEq, reduceIte, reduceCtorEq, Int.reduceToNat, Int.reduceLE, Int.reduceLT, Int.reduceBEq, Int.reduceBNe, hg, a8, a8r0, a8r1, a8r2, a8r3, a8r4]; clear hg))) | (refine condW_intro ?_ ?_ <;> intro hg <;> (have hp := hg; try simp only [decide_eq_true_eq, decide_eq_false_iff_not, beq_iff_eq, beq_eq_false_iff_ne, bne_iff_ne, bne_eq_false_iff_eq, Bool.not_eq_true', Bool.not_eq_false', Int.not_lt, Int.not_le, ne_eq, Bool.and_eq_true, Bool.or_eq_true, Bool.or_eq_false_iff, Bool.and_eq_false_iff] at hp) <;> (first | omega | (simp only [go_sem, Nat.reduceAdd, Nat.reduceSub, Nat.reduceMul, Nat.reduceEqDiff, Nat.reduceLT, Nat.reduceLeDiff, Nat.reduceBEq, reduceIte, reduceCtorEq, Int.reduceToNat, Int.reduceLE, Int.reduceLT, Int.reduceBEq, Int.reduceBNe, hg, a8, a8r0, a8r1, a8r2, a8r3, a8r4]; clear hg))))
  · exact Cl.tape rfl h0 h1 ⟨0, rfl, by omega, by omega⟩
  · exact Cl.tape rfl h0 h1 ⟨0, rfl, by omega, by omega⟩
  · simp (disch := omega) only [wrap_i64, numsE_getD, Int.add_sub_cancel]
    refine ⟨by omega, by omega, by simp, ?_⟩
    simp only [go_sem, Nat.reduceAdd, Nat.reduceSub, Nat.reduceMul, Nat.reduceEqDiff, Nat.reduceLT, Nat.reduceLeDiff, Nat.reduceBEq, reduceIte, reduceCtorEq, Int.reduceToNat, Int.reduceLE, Int.reduceLT, Int.reduceBEq, Int.reduceBNe]
    refine callD_det (mod_ok _ _ (by omega) hn) rfl rfl ?_
    simp only [go_sem, Nat.reduceAdd, Nat.reduceSub, Nat.reduceMul, Nat.reduceEqDiff, Nat.reduceLT, Nat.reduceLeDiff, Nat.reduceBEq, reduceIte, reduceCtorEq, Int.reduceToNat, Int.reduceLE, Int.reduceLT, Int.reduceBEq, Int.reduceBNe]
    have hb := mod_bounds (v := l.getD at_.toNat 0) (n := n) (by omega)
    exact Cl.tape rfl (by omega) (by omega) ⟨_, rfl, by omega, by omega⟩

theorem pick_ok (l : List Int) (hl : TapeOk l) (xs : List Int) (hx : 0 < xs.length) (hx' : xs.length ≤ 1000) : TapeFn1 Tryz.prog 48 3 14 l xs (fun v => ∃ x, x ∈ xs ∧ v = .int .i64 x) := by
  intro at_ h0 h1
  refine afn Tryz.func14 a14_ok (by simp [a14]) ?_
  simp only [go_sem, Nat.reduceAdd, Nat.reduceSub, Nat.reduceMul, Nat.reduceEqDiff, Nat.reduceLT, Nat.reduceLeDiff, Nat.reduceBEq, reduceIte, reduceCtorEq, Int.reduceToNat, Int.reduceLE, Int.reduceLT, Int.reduceBEq, Int.reduceBNe, a14, a14r0, a14r1]
  refine callC_tape (next_ok l hl _ (by omega)) rfl (by simp) h0 h1 ?_
  rintro v a h2 h3 ⟨x, rfl, h4, h5⟩
  simp only [go_sem, Nat.reduceAdd, Nat.reduceSub, Nat.reduceMul, Nat.reduceEqDiff, Nat.reduceLT, Nat.reduceLeDiff, Nat.reduceBEq, reduceIte, reduceCtorEq, Int.reduceToNat, Int.reduceLE, Int.reduceLT, Int.reduceBEq, Int.reduceBNe]
  refine ⟨by omega, by omega, ?_⟩
  rw [numsE_getD (by omega)]
  simp only [go_sem, Nat.reduceAdd, Nat.reduceSub, Nat.reduceMul, Nat.reduceEqDiff, Nat.reduceLT, Nat.reduceLeDiff, Nat.reduceBEq, reduceIte, reduceCtorEq, Int.reduceToNat, Int.reduceLE, Int.reduceLT, Int.reduceBEq, Int.reduceBNe]
  refine Cl.here ⟨a, rfl, h2, h3, rfl, _, ?_, rfl⟩
  rw [List.getD_eq_getElem?_getD, List.getElem?_eq_getElem (by omega)]
  simp

structure Iv where
  fr : Int
  to : Int
def Iv.cells (e : Iv) : List AVal := [.int .i64 e.fr, .int .i64 e.to]
instance : Cel Iv := ⟨Iv.cells, 2, fun _ => rfl, fun _ => rfl, fun _ => rfl⟩
instance : Flt Iv := ⟨fun _ => rfl⟩
theorem cel_iv (e : Iv) : Cel.c e = [.int .i64 e.fr, .int .i64 e.to] := rfl
theorem cel_iv_sz : Cel.sz Iv = 2 := rfl
theorem cel_iv_take (e : Iv) : List.take 2 (Cel.c e) = Cel.c e := rfl
attribute [go_sem] cel_iv_sz cel_iv_take
theorem Iv.ext' {a b : Iv} (h0 : a.fr = b.fr) (h1 : a.to = b.to) : a = b := by
  cases a; cases b; simp_all

structure Stamp where
  time : Int
  kind : Int
  kt : Int
  ks : Int
def Stamp.cells (e : Stamp) : List AVal := [.int .i64 e.time, .int .i64 e.kind, .int .i64 e.kt, .int .i64 e.ks]
instance : Cel Stamp := ⟨Stamp.cells, 4, fun _ => rfl, fun _ => rfl, fun _ => rfl⟩
instance : Flt Stamp := ⟨fun _ => rfl⟩
theorem cel_stamp (e : Stamp) : Cel.c e = [.int .i64 e.time, .int .i64 e.kind, .int .i64 e.kt, .int .i64 e.ks] := rfl
theorem cel_stamp_sz : Cel.sz Stamp = 4 := rfl
theorem cel_stamp_take (e : Stamp) : List.take 4 (Cel.c e) = Cel.c e := rfl
attribute [go_sem] cel_stamp_sz cel_stamp_take
theorem Stamp.ext' {a b : Stamp} (h0 : a.time = b.time) (h1 : a.kind = b.kind) (h2 : a.kt = b.kt) (h3 : a.ks = b.ks) : a = b := by
  cases a; cases b; simp_all

structure Ev where
  kt : Int
  ks : Int
  emp : Int
  time : Int
  kind : Int
  tt : Int
  ts : Int
def Ev.cells (e : Ev) : List AVal := [.int .i64 e.kt, .int .i64 e.ks, .int .i64 e.emp, .int .i64 e.time, .int .i64 e.kind, .int .i64 e.tt, .int .i64 e.ts]
instance : Cel Ev := ⟨Ev.cells, 7, fun _ => rfl, fun _ => rfl, fun _ => rfl⟩
instance : Flt Ev := ⟨fun _ => rfl⟩
theorem cel_ev (e : Ev) : Cel.c e = [.int .i64 e.kt, .int .i64 e.ks, .int .i64 e.emp, .int .i64 e.time, .int .i64 e.kind, .int .i64 e.tt, .int .i64 e.ts] := rfl
theorem cel_ev_sz : Cel.sz Ev = 7 := rfl
theorem cel_ev_take (e : Ev) : List.take 7 (Cel.c e) = Cel.c e := rfl
attribute [go_sem] cel_ev_sz cel_ev_take
theorem Ev.ext' {a b : Ev} (h0 : a.kt = b.kt) (h1 : a.ks = b.ks) (h2 : a.emp = b.emp) (h3 : a.time = b.time) (h4 : a.kind = b.kind) (h5 : a.tt = b.tt) (h6 : a.ts = b.ts) : a = b := by
  cases a; cases b; simp_all

structure Ky where
  t : Int
  s : Int
def Ky.cells (e : Ky) : List AVal := [.int .i64 e.t, .int .i64 e.s]
instance : Cel Ky := ⟨Ky.cells, 2, fun _ => rfl, fun _ => rfl, fun _ => rfl⟩
instance : Flt Ky := ⟨fun _ => rfl⟩
theorem cel_ky (e : Ky) : Cel.c e = [.int .i64 e.t, .int .i64 e.s] := rfl
theorem cel_ky_sz : Cel.sz Ky = 2 := rfl
theorem cel_ky_take (e : Ky) : List.take 2 (Cel.c e) = Cel.c e := rfl
attribute [go_sem] cel_ky_sz cel_ky_take
theorem Ky.ext' {a b : Ky} (h0 : a.t = b.t) (h1 : a.s = b.s) : a = b := by
  cases a; cases b; simp_all

structure Spn where
  day : Int
  fr : Int
  to : Int
def Spn.cells (e : Spn) : List AVal := [.int .i64 e.day, .int .i64 e.fr, .int .i64 e.to]
instance : Cel Spn := ⟨Spn.cells, 3, fun _ => rfl, fun _ => rfl, fun _ => rfl⟩
instance : Flt Spn := ⟨fun _ => rfl⟩
theorem cel_spn (e : Spn) : Cel.c e = [.int .i64 e.day, .int .i64 e.fr, .int .i64 e.to] := rfl
theorem cel_spn_sz : Cel.sz Spn = 3 := rfl
theorem cel_spn_take (e : Spn) : List.take 3 (Cel.c e) = Cel.c e := rfl
attribute [go_sem] cel_spn_sz cel_spn_take
theorem Spn.ext' {a b : Spn} (h0 : a.day = b.day) (h1 : a.fr = b.fr) (h2 : a.to = b.to) : a = b := by
  cases a; cases b; simp_all

theorem iv_snoc {l : List Iv} {a b : Int} : els l ++ [[.int .i64 a, .int .i64 b]] = els (l ++ [⟨a, b⟩]) := els_snoc (x := Iv.mk a b)
theorem ky_snoc {l : List Ky} {a b : Int} : els l ++ [[.int .i64 a, .int .i64 b]] = els (l ++ [⟨a, b⟩]) := els_snoc (x := Ky.mk a b)
theorem stamp_snoc {l : List Stamp} {a b c d : Int} : els l ++ [[.int .i64 a, .int .i64 b, .int .i64 c, .int .i64 d]] = els (l ++ [⟨a, b, c, d⟩]) := els_snoc (x := Stamp.mk a b c d)
theorem spn_snoc {l : List Spn} {a b c : Int} : els l ++ [[.int .i64 a, .int .i64 b, .int .i64 c]] = els (l ++ [⟨a, b, c⟩]) := els_snoc (x := Spn.mk a b c)
theorem ev_snoc {l : List Ev} {a b c d e f g : Int} : els l ++ [[.int .i64 a, .int .i64 b, .int .i64 c, .int .i64 d, .int .i64 e, .int .i64 f, .int .i64 g]] = els (l ++ [⟨a, b, c, d, e, f, g⟩]) := els_snoc (x := Ev.mk a b c d e f g)

/-- the work of a day -/
structure Wk where
  day : Int
  iv : List Iv
def Wk.cells (w : Wk) : List AVal := [.int .i64 w.day, .pure 2 (els w.iv)]
theorem wk_on (w : Wk) : w.cells.all one = true := by simp [Wk.cells, one]
theorem wk_cl (w : Wk) : cleanL w.cells = true := by simp [Wk.cells, cleanL, clean]
instance : Cel Wk := ⟨Wk.cells, 2, fun _ => rfl, wk_cl, wk_on⟩
theorem cel_wk (w : Wk) : Cel.c w = [.int .i64 w.day, .pure 2 (els w.iv)] := rfl
theorem cel_wk_sz : Cel.sz Wk = 2 := rfl
theorem cel_wk_take (w : Wk) : List.take 2 (Cel.c w) = Cel.c w := rfl
attribute [go_sem] cel_wk_sz cel_wk_take
theorem wk_snoc {l : List Wk} {a : Int} {bs : List Iv} : els l ++ [[.int .i64 a, .pure 2 (els bs)]] = els (l ++ [⟨a, bs⟩]) := els_snoc (x := Wk.mk a bs)
/-- a band of a rule -/
structure Bd where
  name : ByteArray
  after : Int
def Bd.cells (w : Bd) : List AVal := [.str w.name, .int .i64 w.after]
instance : Cel Bd := ⟨Bd.cells, 2, fun _ => rfl, fun _ => rfl, fun _ => rfl⟩
instance : Flt Bd := ⟨fun _ => rfl⟩
theorem cel_bd (w : Bd) : Cel.c w = [.str w.name, .int .i64 w.after] := rfl
theorem cel_bd_sz : Cel.sz Bd = 2 := rfl
theorem cel_bd_take (w : Bd) : List.take 2 (Cel.c w) = Cel.c w := rfl
attribute [go_sem] cel_bd_sz cel_bd_take
theorem bd_snoc {l : List Bd} {a : ByteArray} {b : Int} : els l ++ [[.str a, .int .i64 b]] = els (l ++ [⟨a, b⟩]) := els_snoc (x := Bd.mk a b)
/-- a time with a name -/
structure Tm where
  name : ByteArray
  min : Int
def Tm.cells (w : Tm) : List AVal := [.str w.name, .int .i64 w.min]
instance : Cel Tm := ⟨Tm.cells, 2, fun _ => rfl, fun _ => rfl, fun _ => rfl⟩
instance : Flt Tm := ⟨fun _ => rfl⟩
theorem cel_tm (w : Tm) : Cel.c w = [.str w.name, .int .i64 w.min] := rfl
theorem cel_tm_sz : Cel.sz Tm = 2 := rfl
theorem cel_tm_take (w : Tm) : List.take 2 (Cel.c w) = Cel.c w := rfl
attribute [go_sem] cel_tm_sz cel_tm_take
theorem tm_snoc {l : List Tm} {a : ByteArray} {b : Int} : els l ++ [[.str a, .int .i64 b]] = els (l ++ [⟨a, b⟩]) := els_snoc (x := Tm.mk a b)
/-- a piece of work -/
structure Pc where
  day : Int
  fr : Int
  to : Int
  band : ByteArray
def Pc.cells (w : Pc) : List AVal := [.int .i64 w.day, .int .i64 w.fr, .int .i64 w.to, .str w.band]
instance : Cel Pc := ⟨Pc.cells, 4, fun _ => rfl, fun _ => rfl, fun _ => rfl⟩
instance : Flt Pc := ⟨fun _ => rfl⟩
theorem cel_pc (w : Pc) : Cel.c w = [.int .i64 w.day, .int .i64 w.fr, .int .i64 w.to, .str w.band] := rfl
theorem cel_pc_sz : Cel.sz Pc = 4 := rfl
theorem cel_pc_take (w : Pc) : List.take 4 (Cel.c w) = Cel.c w := rfl
attribute [go_sem] cel_pc_sz cel_pc_take
theorem pc_snoc {l : List Pc} {a b c : Int} {d : ByteArray} : els l ++ [[.int .i64 a, .int .i64 b, .int .i64 c, .str d]] = els (l ++ [⟨a, b, c, d⟩]) := els_snoc (x := Pc.mk a b c d)

theorem gok0 (w : World) : GOk (ctx0 w) := ⟨Nat.zero_le _, fun b hb => (Nat.not_lt_zero _ hb).elim, trivial⟩

end Go.Proofs.YtaloobgfgehhdaaGreat
