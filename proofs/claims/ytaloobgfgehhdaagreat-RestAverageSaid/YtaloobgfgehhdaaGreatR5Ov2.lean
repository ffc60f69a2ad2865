/- Overtime: the next minutes of a day, and their piece. -/
import Derived.Test.YtaloobgfgehhdaaGreatR5Ov1
set_option linter.unusedSimpArgs false
set_option linter.unusedVariables false
set_option linter.unusedSectionVars false
namespace Go.Proofs.YtaloobgfgehhdaaGreat
open Go Go.Abs
set_option linter.unusedSimpArgs false
set_option linter.unusedVariables false

def lk (D : List (Int × Int)) (k : Int) : Int := (Abs.look D k).getD 0
theorem lk_getD {D : List (Int × Int)} {k : Int} : ((Abs.look D k).map (fun x => AVal.int .i64 x)).getD (.int .i64 0) = .int .i64 (lk D k) := by
  unfold lk; cases Abs.look D k <;> rfl
theorem lk_put {D : List (Int × Int)} {k v k' : Int} : lk (putI k v D) k' = if k' = k then v else lk D k' := by
  unfold lk; rw [Abs.look_put]; split <;> rfl
attribute [go_sem] lk_getD

def ovRows (R : Rl) (D W : List (Int × Int)) (ps : List Pc) : List Row :=
  [.live 74 6 [[.str R.nm, .pure 2 (els R.dy), .pure 2 (els R.wk), .mref 1, .mref 2, .own 3 ps.length 0 ps.length]], .obj (.map false [.int .i64] (mapI D)), .obj (.map false [.int .i64] (mapI W)), .live 81 4 (els ps)]

instance : Inhabited Bd := ⟨⟨⟨#[]⟩, 0⟩⟩
/-- the name of a band -/
def bnm (l : List Bd) (i : Int) : ByteArray := (l.getD i.toNat default).name
def mon (day : Int) : Int := day - (day + 3) % 7
/-- the band of the next minutes, their number, and the minutes then -/
def nxt (R : Rl) (D W : List (Int × Int)) (day most : Int) : ByteArray × Int × List (Int × Int) × List (Int × Int) :=
  let f := fnd 0 R.dy (lk D day)
  let n := min f.2 most
  if 0 ≤ f.1 then (bnm R.dy f.1, n, putI day (lk D day + n) D, W)
  else
    let g := fnd 0 R.wk (lk W (mon day))
    let n' := min n g.2
    (if 0 ≤ g.1 then bnm R.wk g.1 else R.nm, n', putI day (lk D day + n') D, putI (mon day) (lk W (mon day) + n') W)

theorem fnd_bd : ∀ {l : List Bd} {b : Int} (k : Nat) {n : Int}, bdsB b l = true → 0 ≤ n → (k : Int) - 1 ≤ (fnd k l n).1 ∧ (fnd k l n).1 < k + l.length ∧ 1 ≤ (fnd k l n).2 ∧ (fnd k l n).2 ≤ 100000
  | [], b, k, n, _, _ => by simp only [fnd, List.length_nil]; omega
  | x :: xs, b, k, n, hb, hn => by
    simp only [bdsB, Bool.and_eq_true, decide_eq_true_eq] at hb
    rw [fnd]
    split
    · simp only [List.length_cons]; omega
    · have := fnd_bd (l := xs) (k + 1) hb.2.2.2 hn
      simp only [List.length_cons]
      omega
structure RlOk (R : Rl) : Prop where
  d : R.dy.length ≤ 16
  w : R.wk.length ≤ 16
  bd : bdsB (-1) R.dy = true
  bw : bdsB (-1) R.wk = true

theorem next_ok' (R : Rl) (hR : RlOk R) (D W : List (Int × Int)) (ps : List Pc) (day most : Int) (h0 : 0 ≤ day) (h1 : day ≤ 84005) (h2 : 1 ≤ most) (h3 : most ≤ 1000000000)
    (hD : 0 ≤ lk D day) (hD2 : lk D day ≤ 100000000000) (hW : 0 ≤ lk W (mon day)) (hW2 : lk W (mon day) ≤ 100000000000) :
    AFn Tryz.prog 26 [.ref 0 1 0 0, .int .i64 day, .int .i64 most] (ovRows R D W ps)
      (fun v rs => v = .tup [.str (nxt R D W day most).1, .int .i64 (nxt R D W day most).2.1] ∧ rs = ovRows R (nxt R D W day most).2.2.1 (nxt R D W day most).2.2.2 ps) := by
  refine afn Tryz.func26 a26_ok (by simp [a26]) ?_
  have hfd := fnd_bd 0 hR.bd hD
  have hfw := fnd_bd 0 hR.bw hW
  have hf1 := find_ok R.dy hR.d hR.bd (lk D day) hD (by omega)
  have hf2 := find_ok R.wk hR.w hR.bw (lk W (mon day)) hW (by omega)
  unfold nxt ovRows
  simp only [go_sem, Nat.reduceAdd, Nat.reduceSub, Nat.reduceMul, Nat.reduceEqDiff, Nat.reduceLT, Nat.reduceLeDiff, Nat.reduceBEq, reduceIte, reduceCtorEq, Int.reduceToNat, Int.reduceLE, Int.reduceLT, Int.reduceBEq, Int.reduceBNe, a26, a26r0, a26r1, a26r2, a26r3, a26r4, a26r5, a26r6, a26r7, a26r8, a26r9, a26r10, a26r11, a26r12, a26r13]
  refine callD_det hf1 rfl rfl ?_
  clear hf1
  generalize fnd 0 R.dy (lk D day) = f at hfd ⊢
  obtain ⟨i, n⟩ := f
  simp only at hfd ⊢
  simp only [go_sem, Nat.reduceAdd, Nat.reduceSub, Nat.reduceMul, Nat.reduceEqDiff, Nat.reduceLT, Nat.reduceLeDiff, Nat.reduceBEq, reduceIte, reduceCtorEq, Int.reduceToNat, Int.reduceLE, Int.reduceLT, Int.reduceBEq, Int.reduceBNe]
  by_cases hi : i ≥ 0
  · have hi' : 0 ≤ i := hi
    rw [if_pos hi']
    have hlt : i.toNat < R.dy.length := by omega
    have hget : (els R.dy).getD i.toNat [] = [.str (bnm R.dy i), .int .i64 (R.dy.getD i.toNat default).after] := by
      rw [els_getD hlt, cel_bd, bnm, List.getD_eq_getElem?_getD, List.getElem?_eq_getElem hlt, Option.getD_some]
    simp only [go_sem, Nat.reduceAdd, Nat.reduceSub, Nat.reduceMul, Nat.reduceEqDiff, Nat.reduceLT, Nat.reduceLeDiff, Nat.reduceBEq, reduceIte, reduceCtorEq, Int.reduceToNat, Int.reduceLE, Int.reduceLT, Int.reduceBEq, Int.reduceBNe, hi, hget]
    rw [wrap_i64 (x := lk D day + min n most) (by omega) (by omega)]
    refine ⟨by omega, ?_⟩
    exact Cl.here ⟨rfl, rfl⟩
  · have hi' : ¬ 0 ≤ i := hi
    rw [if_neg hi']
    have hmon : IntKind.i64.wrap (day - (IntKind.i64.wrap (day + 3)).tmod 7) = mon day := by
      rw [wrap_i64 (x := day + 3) (by omega) (by omega), Int.tmod_eq_emod_of_nonneg (by omega), wrap_i64 (by omega) (by omega), mon]
    simp only [go_sem, Nat.reduceAdd, Nat.reduceSub, Nat.reduceMul, Nat.reduceEqDiff, Nat.reduceLT, Nat.reduceLeDiff, Nat.reduceBEq, reduceIte, reduceCtorEq, Int.reduceToNat, Int.reduceLE, Int.reduceLT, Int.reduceBEq, Int.reduceBNe, hi, hmon]
    refine ⟨by decide, ?_⟩
    refine callD_det hf2 rfl rfl ?_
    clear hf2
    generalize fnd 0 R.wk (lk W (mon day)) = g at hfw ⊢
    obtain ⟨j, m⟩ := g
    simp only at hfw ⊢
    simp only [go_sem, Nat.reduceAdd, Nat.reduceSub, Nat.reduceMul, Nat.reduceEqDiff, Nat.reduceLT, Nat.reduceLeDiff, Nat.reduceBEq, reduceIte, reduceCtorEq, Int.reduceToNat, Int.reduceLE, Int.reduceLT, Int.reduceBEq, Int.reduceBNe]
    rw [wrap_i64 (x := lk D day + min (min n most) m) (by omega) (by omega), wrap_i64 (x := lk W (mon day) + min (min n most) m) (by omega) (by omega)]
    by_cases hj : j ≥ 0
    · have hj' : 0 ≤ j := hj
      rw [if_pos hj']
      have hlt : j.toNat < R.wk.length := by omega
      have hget : (els R.wk).getD j.toNat [] = [.str (bnm R.wk j), .int .i64 (R.wk.getD j.toNat default).after] := by
        rw [els_getD hlt, cel_bd, bnm, List.getD_eq_getElem?_getD, List.getElem?_eq_getElem hlt, Option.getD_some]
      simp only [go_sem, Nat.reduceAdd, Nat.reduceSub, Nat.reduceMul, Nat.reduceEqDiff, Nat.reduceLT, Nat.reduceLeDiff, Nat.reduceBEq, reduceIte, reduceCtorEq, Int.reduceToNat, Int.reduceLE, Int.reduceLT, Int.reduceBEq, Int.reduceBNe, hj, hget]
      refine ⟨by omega, ?_⟩
      exact Cl.here ⟨rfl, rfl⟩
    · have hj' : ¬ 0 ≤ j := hj
      rw [if_neg hj']
      simp only [go_sem, Nat.reduceAdd, Nat.reduceSub, Nat.reduceMul, Nat.reduceEqDiff, Nat.reduceLT, Nat.reduceLeDiff, Nat.reduceBEq, reduceIte, reduceCtorEq, Int.reduceToNat, Int.reduceLE, Int.reduceLT, Int.reduceBEq, Int.reduceBNe, hj]
      exact Cl.here ⟨rfl, rfl⟩

def sEq (a b : ByteArray) : Bool := a.toList == b.toList
/-- the last piece goes on -/
def goesOn (p q : Pc) : Bool := decide (p.day = q.day) && (sEq p.band q.band && decide (p.to = q.fr))
def addP (ps : List Pc) (q : Pc) : List Pc :=
  match ps.getLast? with
  | some p => if goesOn p q then ps.dropLast ++ [{ p with to := q.to }] else ps ++ [q]
  | none => [q]

theorem add_ok (R : Rl) (D W : List (Int × Int)) (ps : List Pc) (q : Pc) (hl : ps.length ≤ 1000000000) :
    AFn Tryz.prog 27 [.ref 0 1 0 0, .agg (Cel.c q)] (ovRows R D W ps) (fun v rs => v = .tup [] ∧ rs = ovRows R D W (addP ps q)) := by
  refine afn Tryz.func27 a27_ok (by simp [a27]) ?_
  unfold ovRows
  simp only [go_sem, Nat.reduceAdd, Nat.reduceSub, Nat.reduceMul, Nat.reduceEqDiff, Nat.reduceLT, Nat.reduceLeDiff, Nat.reduceBEq, reduceIte, reduceCtorEq, Int.reduceToNat, Int.reduceLE, Int.reduceLT, Int.reduceBEq, Int.reduceBNe, a27, a27r0, a27r1, a27r2, a27r3, a27r4, a27r5, a27r6, cel_pc]
  by_cases h0 : ps = []
  · subst h0
    simp only [go_sem, Nat.reduceAdd, Nat.reduceSub, Nat.reduceMul, Nat.reduceEqDiff, Nat.reduceLT, Nat.reduceLeDiff, Nat.reduceBEq, reduceIte, reduceCtorEq, Int.reduceToNat, Int.reduceLE, Int.reduceLT, Int.reduceBEq, Int.reduceBNe, pc_snoc]
    (refine Cl.tr [some 0, some 1, some 2, some 3] [] rfl rfl (by simp only [go_sem, Nat.reduceAdd, Nat.reduceSub, Nat.reduceMul, Nat.reduceEqDiff, Nat.reduceLT, Nat.reduceLeDiff, Nat.reduceBEq, reduceIte, reduceCtorEq, Int.reduceToNat, Int.reduceLE, Int.reduceLT, Int.reduceBEq, Int.reduceBNe] <;> rfl) ?_; simp only [go_sem, Nat.reduceAdd, Nat.reduceSub, Nat.reduceMul, Nat.reduceEqDiff, Nat.reduceLT, Nat.reduceLeDiff, Nat.reduceBEq, reduceIte, reduceCtorEq, Int.reduceToNat, Int.reduceLE, Int.reduceLT, Int.reduceBEq, Int.reduceBNe])
    exact Cl.here ⟨rfl, rfl⟩
  · have hpos : 0 < ps.length := List.length_pos_iff.2 h0
    have hg : (ps.length : Int) > 0 := by omega
    have hw : IntKind.i64.wrap ((ps.length : Int) - 1) = ((ps.length - 1 : Nat) : Int) := by rw [wrap_i64 (by omega) (by omega)]; omega
    obtain ⟨p, hp⟩ : ∃ p, ps.getLast? = some p := ⟨_, List.getLast?_eq_some_getLast h0⟩
    have hlt : ps.length - 1 < ps.length := by omega
    have hget : (els ps).getD (ps.length - 1) [] = [.int .i64 p.day, .int .i64 p.fr, .int .i64 p.to, .str p.band] := by
      rw [els_getD hlt]
      have : ps[ps.length - 1] = p := by
        rw [List.getLast?_eq_getElem?, List.getElem?_eq_getElem hlt] at hp
        exact Option.some.inj hp
      rw [this, cel_pc]
    simp only [go_sem, Nat.reduceAdd, Nat.reduceSub, Nat.reduceMul, Nat.reduceEqDiff, Nat.reduceLT, Nat.reduceLeDiff, Nat.reduceBEq, reduceIte, reduceCtorEq, Int.reduceToNat, Int.reduceLE, Int.reduceLT, Int.reduceBEq, Int.reduceBNe, hg, hw]
    refine ⟨by omega, by omega, ?_⟩
    try simp only [Int.toNat_natCast]
    simp only [go_sem, Nat.reduceAdd, Nat.reduceSub, Nat.reduceMul, Nat.reduceEqDiff, Nat.reduceLT, Nat.reduceLeDiff, Nat.reduceBEq, reduceIte, reduceCtorEq, Int.reduceToNat, Int.reduceLE, Int.reduceLT, Int.reduceBEq, Int.reduceBNe, hget]
    by_cases h1 : p.day = q.day
    rotate_left
    · have h1' : (p.day == q.day) = false := by simp [h1]
      have hadd : addP ps q = ps ++ [q] := by rw [addP, hp]; simp [goesOn, h1]
      simp only [go_sem, Nat.reduceAdd, Nat.reduceSub, Nat.reduceMul, Nat.reduceEqDiff, Nat.reduceLT, Nat.reduceLeDiff, Nat.reduceBEq, reduceIte, reduceCtorEq, Int.reduceToNat, Int.reduceLE, Int.reduceLT, Int.reduceBEq, Int.reduceBNe, h1', hget, pc_snoc]
      refine ⟨by omega, ?_⟩
      rw [hadd]
      (refine Cl.tr [some 0, some 1, some 2, some 3] [] rfl rfl (by simp only [go_sem, Nat.reduceAdd, Nat.reduceSub, Nat.reduceMul, Nat.reduceEqDiff, Nat.reduceLT, Nat.reduceLeDiff, Nat.reduceBEq, reduceIte, reduceCtorEq, Int.reduceToNat, Int.reduceLE, Int.reduceLT, Int.reduceBEq, Int.reduceBNe] <;> rfl) ?_; simp only [go_sem, Nat.reduceAdd, Nat.reduceSub, Nat.reduceMul, Nat.reduceEqDiff, Nat.reduceLT, Nat.reduceLeDiff, Nat.reduceBEq, reduceIte, reduceCtorEq, Int.reduceToNat, Int.reduceLE, Int.reduceLT, Int.reduceBEq, Int.reduceBNe])
      exact Cl.here ⟨rfl, by simp⟩
    have h1' : (p.day == q.day) = true := by simp [h1]
    rcases h2 : sEq p.band q.band with _ | _
    · have h2' : (p.band.toList == q.band.toList) = false := h2
      have hadd : addP ps q = ps ++ [q] := by rw [addP, hp]; simp [goesOn, h2]
      simp only [go_sem, Nat.reduceAdd, Nat.reduceSub, Nat.reduceMul, Nat.reduceEqDiff, Nat.reduceLT, Nat.reduceLeDiff, Nat.reduceBEq, reduceIte, reduceCtorEq, Int.reduceToNat, Int.reduceLE, Int.reduceLT, Int.reduceBEq, Int.reduceBNe, h1', h2', hget, pc_snoc]
      refine ⟨by omega, ?_⟩
      rw [hadd]
      (refine Cl.tr [some 0, some 1, some 2, some 3] [] rfl rfl (by simp only [go_sem, Nat.reduceAdd, Nat.reduceSub, Nat.reduceMul, Nat.reduceEqDiff, Nat.reduceLT, Nat.reduceLeDiff, Nat.reduceBEq, reduceIte, reduceCtorEq, Int.reduceToNat, Int.reduceLE, Int.reduceLT, Int.reduceBEq, Int.reduceBNe] <;> rfl) ?_; simp only [go_sem, Nat.reduceAdd, Nat.reduceSub, Nat.reduceMul, Nat.reduceEqDiff, Nat.reduceLT, Nat.reduceLeDiff, Nat.reduceBEq, reduceIte, reduceCtorEq, Int.reduceToNat, Int.reduceLE, Int.reduceLT, Int.reduceBEq, Int.reduceBNe])
      exact Cl.here ⟨rfl, by simp⟩
    have h2' : (p.band.toList == q.band.toList) = true := h2
    by_cases h3 : p.to = q.fr
    rotate_left
    · have h3' : (p.to == q.fr) = false := by simp [h3]
      have hadd : addP ps q = ps ++ [q] := by rw [addP, hp]; simp [goesOn, h3]
      simp only [go_sem, Nat.reduceAdd, Nat.reduceSub, Nat.reduceMul, Nat.reduceEqDiff, Nat.reduceLT, Nat.reduceLeDiff, Nat.reduceBEq, reduceIte, reduceCtorEq, Int.reduceToNat, Int.reduceLE, Int.reduceLT, Int.reduceBEq, Int.reduceBNe, h1', h2', h3', hget, pc_snoc]
      refine ⟨by omega, ?_⟩
      rw [hadd]
      (refine Cl.tr [some 0, some 1, some 2, some 3] [] rfl rfl (by simp only [go_sem, Nat.reduceAdd, Nat.reduceSub, Nat.reduceMul, Nat.reduceEqDiff, Nat.reduceLT, Nat.reduceLeDiff, Nat.reduceBEq, reduceIte, reduceCtorEq, Int.reduceToNat, Int.reduceLE, Int.reduceLT, Int.reduceBEq, Int.reduceBNe] <;> rfl) ?_; simp only [go_sem, Nat.reduceAdd, Nat.reduceSub, Nat.reduceMul, Nat.reduceEqDiff, Nat.reduceLT, Nat.reduceLeDiff, Nat.reduceBEq, reduceIte, reduceCtorEq, Int.reduceToNat, Int.reduceLE, Int.reduceLT, Int.reduceBEq, Int.reduceBNe])
      exact Cl.here ⟨rfl, by simp⟩
    have h3' : (p.to == q.fr) = true := by simp [h3]
    have hadd : addP ps q = ps.set (ps.length - 1) { p with to := q.to } := by
      rw [addP, hp]
      simp only [goesOn, h1, h2, h3, decide_true, Bool.and_self, if_true]
      rw [List.dropLast_eq_take, List.set_eq_take_append_cons_drop, if_pos hlt, List.drop_eq_nil_of_le (by omega)]
    simp only [go_sem, Nat.reduceAdd, Nat.reduceSub, Nat.reduceMul, Nat.reduceEqDiff, Nat.reduceLT, Nat.reduceLeDiff, Nat.reduceBEq, reduceIte, reduceCtorEq, Int.reduceToNat, Int.reduceLE, Int.reduceLT, Int.reduceBEq, Int.reduceBNe, h1', h2', h3', hget]
    rw [hadd]
    have hset : (els ps).set (ps.length - 1) [.int .i64 p.day, .int .i64 p.fr, .int .i64 q.to, .str p.band] = els (ps.set (ps.length - 1) { p with to := q.to }) := els_set (x := { p with to := q.to })
    rw [hset]
    (refine Cl.tr [some 0, some 1, some 2, some 3] [] rfl rfl (by simp only [go_sem, Nat.reduceAdd, Nat.reduceSub, Nat.reduceMul, Nat.reduceEqDiff, Nat.reduceLT, Nat.reduceLeDiff, Nat.reduceBEq, reduceIte, reduceCtorEq, Int.reduceToNat, Int.reduceLE, Int.reduceLT, Int.reduceBEq, Int.reduceBNe] <;> rfl) ?_; simp only [go_sem, Nat.reduceAdd, Nat.reduceSub, Nat.reduceMul, Nat.reduceEqDiff, Nat.reduceLT, Nat.reduceLeDiff, Nat.reduceBEq, reduceIte, reduceCtorEq, Int.reduceToNat, Int.reduceLE, Int.reduceLT, Int.reduceBEq, Int.reduceBNe])
    exact Cl.here ⟨rfl, by simp⟩

end Go.Proofs.YtaloobgfgehhdaaGreat
