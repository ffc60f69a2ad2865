/- The clock: zones, segments, the beginning of a day; made zones; weekdays. -/
import Derived.Test.YtaloobgfgehhdaaGreatR5Gen
set_option linter.unusedSimpArgs false
set_option linter.unusedVariables false
set_option linter.unusedSectionVars false
namespace Go.Proofs.YtaloobgfgehhdaaGreat
open Go Go.Abs
set_option linter.unusedSimpArgs false
set_option linter.unusedVariables false

structure Ch where
  at_ : Int
  off : Int
def Ch.cells (e : Ch) : List AVal := [.int .i64 e.at_, .int .i64 e.off]
instance : Cel Ch := ⟨Ch.cells, 2, fun _ => rfl, fun _ => rfl, fun _ => rfl⟩
instance : Flt Ch := ⟨fun _ => rfl⟩
theorem cel_ch (e : Ch) : Cel.c e = [.int .i64 e.at_, .int .i64 e.off] := rfl
theorem cel_ch_sz : Cel.sz Ch = 2 := rfl
theorem cel_ch_take (e : Ch) : List.take 2 (Cel.c e) = Cel.c e := rfl
attribute [go_sem] cel_ch_sz cel_ch_take
theorem Ch.ext' {a b : Ch} (h0 : a.at_ = b.at_) (h1 : a.off = b.off) : a = b := by
  cases a; cases b; simp_all

structure Sg where
  fr : Int
  to : Int
  off : Int
def Sg.cells (e : Sg) : List AVal := [.int .i64 e.fr, .int .i64 e.to, .int .i64 e.off]
instance : Cel Sg := ⟨Sg.cells, 3, fun _ => rfl, fun _ => rfl, fun _ => rfl⟩
instance : Flt Sg := ⟨fun _ => rfl⟩
theorem cel_sg (e : Sg) : Cel.c e = [.int .i64 e.fr, .int .i64 e.to, .int .i64 e.off] := rfl
theorem cel_sg_sz : Cel.sz Sg = 3 := rfl
theorem cel_sg_take (e : Sg) : List.take 3 (Cel.c e) = Cel.c e := rfl
attribute [go_sem] cel_sg_sz cel_sg_take
theorem Sg.ext' {a b : Sg} (h0 : a.fr = b.fr) (h1 : a.to = b.to) (h2 : a.off = b.off) : a = b := by
  cases a; cases b; simp_all

theorem ch_snoc {l : List Ch} {a b : Int} : els l ++ [[.int .i64 a, .int .i64 b]] = els (l ++ [⟨a, b⟩]) := els_snoc (x := Ch.mk a b)
theorem sg_snoc {l : List Sg} {a b c : Int} : els l ++ [[.int .i64 a, .int .i64 b, .int .i64 c]] = els (l ++ [⟨a, b, c⟩]) := els_snoc (x := Sg.mk a b c)
/-- a zone -/
structure Zn where
  off : Int
  ch : List Ch
def Zn.v (z : Zn) : AVal := .agg [.int .i64 z.off, .pure 2 (els z.ch)]
def offP (o : Int) : Prop := -840 ≤ o ∧ o ≤ 840
instance (o : Int) : Decidable (offP o) := inferInstanceAs (Decidable (-840 ≤ o ∧ o ≤ 840))
def chE : Int → List Ch → Int
  | _, [] => 0
  | p, c :: cs => if ¬ (0 ≤ c.at_ ∧ c.at_ ≤ 120968639 ∧ offP c.off) then 2 else if c.at_ ≤ p then 1 else chE c.at_ cs
def vZ (z : Zn) : Int := if 64 < z.ch.length then 3 else if offP z.off then chE (-1) z.ch else 2
theorem chE_drop {p : Int} {l : List Ch} {i : Nat} (h : i < l.length) : chE p (l.drop i) = if ¬ (0 ≤ l[i].at_ ∧ l[i].at_ ≤ 120968639 ∧ offP l[i].off) then 2 else if l[i].at_ ≤ p then 1 else chE l[i].at_ (l.drop (i + 1)) := by
  rw [List.drop_eq_getElem_cons h, chE]

theorem validOffset_ok (o : Int) : AFn Tryz.prog 23 [.int .i64 o] [] (fun v rs => v = .bool (decide (offP o)) ∧ rs = []) := by
  refine afn Tryz.func23 a23_ok (by simp [a23]) ?_
  simp only [go_sem, Nat.reduceAdd, Nat.reduceSub, Nat.reduceMul, Nat.reduceEqDiff, Nat.reduceLT, Nat.reduceLeDiff, Nat.reduceBEq, reduceIte, reduceCtorEq, Int.reduceToNat, Int.reduceLE, Int.reduceLT, Int.reduceBEq, Int.reduceBNe, a23, a23r0, a23r1]
  repeat' (first | (refine grdC_intro ?_ ?_ <;> intro hg <;> (have hp := hg; try simp only [decide_eq_true_eq, decide_eq_false_iff_not, beq_iff_eq, beq_eq_false_iff_ne, bne_iff_ne, bne_eq_false_iff_eq, Bool.not_eq_true', Bool.not_eq_false', Int.not_lt, Int.not_le, ne_eq, Bool.and_eq_true, Bool.or_eq_true, Bool.or_eq_false_iff, Bool.and_eq_false_iff] at hp) <;> (first | omega | (simp only [go_sem, Nat.reduceAdd, Nat.reduceSub, Nat.reduceMul, Nat.reduceEqDiff, Nat.reduceLT, Nat.reduceLeDiff, Nat.reduceBEq, reduceIte, reduceCtorEq, Int.reduceToNat, Int.reduceLE, Int.reduceLT, Int.reduceBEq, Int.reduceBNe, hg, a23, a23r0, a23r1]; clear hg))) | (refine grdD_intro ?_ ?_ <;> intro hg <;> (have hp := hg; try simp only [decide_eq_true_eq, decide_eq_false_iff_not, beq_iff_eq, beq_eq_false_iff_ne, bne_iff_ne, bne_eq_false_iff_eq, Bool.not_eq_true', Bool.not_eq_false', Int.not_lt, Int.not_le, ne_eq, Bool.and_eq_true, Bool.or_eq_true, Bool.or_eq_false_iff, Bool.and_eq_false_iff] at hp) <;> (first | omega | (simp only [go_sem, Nat.reduceAdd, Nat.reduceSub, Nat.reduceMul, Nat.reduceEqDiff, Nat.reduceLT, Nat.reduceLeDiff, Nat.reduceBEq, reduceIte, reduceCtorEq, Int.reduceToNat, Int.reduceLE, Int.reduceLT, Int.reduceBEq, Int.reduceBNe, hg, a23, a23r0, a23r1]; clear hg))) | (refine condC_intro ?_ ?_ <;> intro hg <;> (have hp := hg; try simp only [decide_eq_true_eq, decide_eq_false_iff_not, beq_iff_eq, beq_eq_false_iff_ne, bne_iff_ne, bne_eq_false_iff_eq, Bool.not_eq_true', Bool.not_eq_false', Int.not_lt, Int.not_le, ne_eq, Bool.and_eq_true, Bool.or_eq_true, Bool.or_eq_false_iff, Bool.and_eq_false_iff] at hp) <;> (first | omega | (simp only [go_sem, Nat.reduceAdd, Nat.reduceSub, Nat.reduceMul, Nat.reduceEqDiff, Nat.reduceLT, Nat.reduceLeDiff, Nat.reduceBEq, reduceIte, reduceCtorEq, Int.reduceToNat, Int.reduceLE, Int.reduceLT, Int.reduceBEq, Int.reduceBNe, hg, a23, a23r0, a23r1]; clear hg))) | (refine condW_intro ?_ ?_ <;> intro hg <;> (have hp := hg; try simp only [decide_eq_true_eq, decide_eq_false_iff_not, beq_iff_eq, beq_eq_false_iff_ne, bne_iff_ne, bne_eq_false_iff_eq, Bool.not_eq_true', Bool.not_eq_false', Int.not_lt, Int.not_le, ne_eq, Bool.and_eq_true, Bool.or_eq_true, Bool.or_eq_false_iff, Bool.and_eq_false_iff] at hp) <;> (first | omega | (simp only [go_sem, Nat.reduceAdd, Nat.reduceSub, Nat.reduceMul, Nat.reduceEqDiff, Nat.reduceLT, Nat.reduceLeDiff, Nat.reduceBEq, reduceIte, reduceCtorEq, Int.reduceToNat, Int.reduceLE, Int.reduceLT, Int.reduceBEq, Int.reduceBNe, hg, a23, a23r0, a23r1]; clear hg))))
  all_goals ((refine Cl.fin rfl ⟨congrArg AVal.bool ?_, rfl⟩; rw [Bool.eq_iff_iff]; simp only [decide_eq_true_eq, decide_eq_false_iff_not, beq_iff_eq, beq_eq_false_iff_ne, bne_iff_ne, bne_eq_false_iff_eq, Bool.not_eq_true', Bool.not_eq_false', Int.not_lt, Int.not_le, ne_eq, Bool.and_eq_true, Bool.or_eq_true, Bool.or_eq_false_iff, Bool.and_eq_false_iff, Bool.false_eq_true, false_iff, true_iff, iff_true, iff_false, and_true, true_and] at *; try simp only [offP] at *; omega))

theorem validZ_ok (z : Zn) : AFn Tryz.prog 15 [z.v] [] (fun v rs => v = .int .i64 (vZ z) ∧ rs = []) := by
  refine afn Tryz.func15 a15_ok (by simp [a15]) ?_
  unfold vZ
  simp only [go_sem, Nat.reduceAdd, Nat.reduceSub, Nat.reduceMul, Nat.reduceEqDiff, Nat.reduceLT, Nat.reduceLeDiff, Nat.reduceBEq, reduceIte, reduceCtorEq, Int.reduceToNat, Int.reduceLE, Int.reduceLT, Int.reduceBEq, Int.reduceBNe, a15, a15r0, a15r1, a15r2, a15r3, a15r4, a15r5, a15r6, a15r7, a15r8, a15r9, a15r10, a15r11, a15r12, a15r13, Zn.v]
  by_cases h1 : (z.ch.length : Int) > 64
  · simp only [go_sem, Nat.reduceAdd, Nat.reduceSub, Nat.reduceMul, Nat.reduceEqDiff, Nat.reduceLT, Nat.reduceLeDiff, Nat.reduceBEq, reduceIte, reduceCtorEq, Int.reduceToNat, Int.reduceLE, Int.reduceLT, Int.reduceBEq, Int.reduceBNe, h1]
    exact Cl.fin rfl ⟨by rw [if_pos (by omega)], rfl⟩
  simp only [go_sem, Nat.reduceAdd, Nat.reduceSub, Nat.reduceMul, Nat.reduceEqDiff, Nat.reduceLT, Nat.reduceLeDiff, Nat.reduceBEq, reduceIte, reduceCtorEq, Int.reduceToNat, Int.reduceLE, Int.reduceLT, Int.reduceBEq, Int.reduceBNe, h1]
  rw [if_neg (by omega)]
  refine callC_det (validOffset_ok _) rfl rfl ?_
  by_cases h2 : offP z.off
  rotate_left
  · simp only [go_sem, Nat.reduceAdd, Nat.reduceSub, Nat.reduceMul, Nat.reduceEqDiff, Nat.reduceLT, Nat.reduceLeDiff, Nat.reduceBEq, reduceIte, reduceCtorEq, Int.reduceToNat, Int.reduceLE, Int.reduceLT, Int.reduceBEq, Int.reduceBNe, h2]
    exact Cl.fin rfl ⟨rfl, rfl⟩
  simp only [go_sem, Nat.reduceAdd, Nat.reduceSub, Nat.reduceMul, Nat.reduceEqDiff, Nat.reduceLT, Nat.reduceLeDiff, Nat.reduceBEq, reduceIte, reduceCtorEq, Int.reduceToNat, Int.reduceLE, Int.reduceLT, Int.reduceBEq, Int.reduceBNe, h2]
  refine avc_loop (fun env rows => ∃ (i : Nat) (p : Int), i ≤ z.ch.length ∧ chE (-1) z.ch = chE p (z.ch.drop i) ∧ (i = 0 → p = -1) ∧ (∀ j (h : j < z.ch.length), i = j + 1 → p = z.ch[j].at_) ∧ env = [(1, .ref 0 1 0 0), (14, .pure 2 (els z.ch)), (15, .int .i64 z.ch.length), (16, .int .i64 i)] ∧ rows = [.live 27 2 [[.int .i64 z.off, .pure 2 (els z.ch)]]])
    (fun env _ => match slot env 16 with | .int _ j => (z.ch.length - j).toNat | _ => 0) ?_ ?_
  · exact Cl.here ⟨0, -1, by omega, rfl, fun _ => rfl, fun j _ h => by omega, rfl, rfl⟩
  · rintro env rows ⟨i, p, hi, hd, hp0, hp1, rfl, rfl⟩
    have hw : IntKind.i64.wrap ((i : Int) + 1) = ((i + 1 : Nat) : Int) := by rw [wrap_i64 (by omega) (by omega)]; omega
    simp only [go_sem, Nat.reduceAdd, Nat.reduceSub, Nat.reduceMul, Nat.reduceEqDiff, Nat.reduceLT, Nat.reduceLeDiff, Nat.reduceBEq, reduceIte, reduceCtorEq, Int.reduceToNat, Int.reduceLE, Int.reduceLT, Int.reduceBEq, Int.reduceBNe, a15, a15r0, a15r1, a15r2, a15r3, a15r4, a15r5, a15r6, a15r7, a15r8, a15r9, a15r10, a15r11, a15r12, a15r13]
    refine condC_intro ?_ ?_ <;> intro hg2 <;> simp only [decide_eq_true_eq, decide_eq_false_iff_not, beq_iff_eq, beq_eq_false_iff_ne, bne_iff_ne, bne_eq_false_iff_eq, Bool.not_eq_true', Bool.not_eq_false', Int.not_lt, Int.not_le, ne_eq, Bool.and_eq_true, Bool.or_eq_true, Bool.or_eq_false_iff, Bool.and_eq_false_iff] at hg2 <;> simp only [go_sem, Nat.reduceAdd, Nat.reduceSub, Nat.reduceMul, Nat.reduceEqDiff, Nat.reduceLT, Nat.reduceLeDiff, Nat.reduceBEq, reduceIte, reduceCtorEq, Int.reduceToNat, Int.reduceLE, Int.reduceLT, Int.reduceBEq, Int.reduceBNe, a15, a15r0, a15r1, a15r2, a15r3, a15r4, a15r5, a15r6, a15r7, a15r8, a15r9, a15r10, a15r11, a15r12, a15r13]
    · have hlt : i < z.ch.length := by omega
      refine ⟨by omega, by omega, ?_⟩
      try simp only [Int.toNat_natCast]
      rw [chE_drop hlt] at hd
      have hnx : ∀ j (h : j < z.ch.length), i + 1 = j + 1 → z.ch[i].at_ = z.ch[j].at_ := by intro j h hj; obtain rfl : i = j := (by omega); rfl
      rw [els_getD hlt]
      generalize z.ch[i] = c at hd hnx ⊢
      simp only [go_sem, Nat.reduceAdd, Nat.reduceSub, Nat.reduceMul, Nat.reduceEqDiff, Nat.reduceLT, Nat.reduceLeDiff, Nat.reduceBEq, reduceIte, reduceCtorEq, Int.reduceToNat, Int.reduceLE, Int.reduceLT, Int.reduceBEq, Int.reduceBNe, cel_ch]
      by_cases h3 : c.at_ < 0
      · simp only [go_sem, Nat.reduceAdd, Nat.reduceSub, Nat.reduceMul, Nat.reduceEqDiff, Nat.reduceLT, Nat.reduceLeDiff, Nat.reduceBEq, reduceIte, reduceCtorEq, Int.reduceToNat, Int.reduceLE, Int.reduceLT, Int.reduceBEq, Int.reduceBNe, h3]
        exact Cl.fin rfl ⟨by rw [hd, if_pos (by omega)], rfl⟩
      by_cases h4 : c.at_ > 120968639
      · simp only [go_sem, Nat.reduceAdd, Nat.reduceSub, Nat.reduceMul, Nat.reduceEqDiff, Nat.reduceLT, Nat.reduceLeDiff, Nat.reduceBEq, reduceIte, reduceCtorEq, Int.reduceToNat, Int.reduceLE, Int.reduceLT, Int.reduceBEq, Int.reduceBNe, h3, h4]
        exact Cl.fin rfl ⟨by rw [hd, if_pos (by omega)], rfl⟩
      simp only [go_sem, Nat.reduceAdd, Nat.reduceSub, Nat.reduceMul, Nat.reduceEqDiff, Nat.reduceLT, Nat.reduceLeDiff, Nat.reduceBEq, reduceIte, reduceCtorEq, Int.reduceToNat, Int.reduceLE, Int.reduceLT, Int.reduceBEq, Int.reduceBNe, h3, h4]
      refine callC_det (validOffset_ok _) rfl rfl ?_
      by_cases h5 : offP c.off
      rotate_left
      · simp only [go_sem, Nat.reduceAdd, Nat.reduceSub, Nat.reduceMul, Nat.reduceEqDiff, Nat.reduceLT, Nat.reduceLeDiff, Nat.reduceBEq, reduceIte, reduceCtorEq, Int.reduceToNat, Int.reduceLE, Int.reduceLT, Int.reduceBEq, Int.reduceBNe, h5]
        exact Cl.fin rfl ⟨by rw [hd, if_pos (fun h => h5 h.2.2)], rfl⟩
      simp only [go_sem, Nat.reduceAdd, Nat.reduceSub, Nat.reduceMul, Nat.reduceEqDiff, Nat.reduceLT, Nat.reduceLeDiff, Nat.reduceBEq, reduceIte, reduceCtorEq, Int.reduceToNat, Int.reduceLE, Int.reduceLT, Int.reduceBEq, Int.reduceBNe, h5]
      rw [if_neg (by simp only [h5, and_true]; omega)] at hd
      cases i with
      | zero =>
        simp only [go_sem, Nat.reduceAdd, Nat.reduceSub, Nat.reduceMul, Nat.reduceEqDiff, Nat.reduceLT, Nat.reduceLeDiff, Nat.reduceBEq, reduceIte, reduceCtorEq, Int.reduceToNat, Int.reduceLE, Int.reduceLT, Int.reduceBEq, Int.reduceBNe, Int.natCast_zero, Int.lt_irrefl, gt_iff_lt]
        obtain rfl := hp0 rfl
        rw [if_neg (by omega)] at hd
        simp only [go_sem, Nat.reduceAdd, Nat.reduceSub, Nat.reduceMul, Nat.reduceEqDiff, Nat.reduceLT, Nat.reduceLeDiff, Nat.reduceBEq, reduceIte, reduceCtorEq, Int.reduceToNat, Int.reduceLE, Int.reduceLT, Int.reduceBEq, Int.reduceBNe, Int.natCast_zero] at hw
        (refine Cl.tr [some 0] [] rfl rfl (by simp only [go_sem, Nat.reduceAdd, Nat.reduceSub, Nat.reduceMul, Nat.reduceEqDiff, Nat.reduceLT, Nat.reduceLeDiff, Nat.reduceBEq, reduceIte, reduceCtorEq, Int.reduceToNat, Int.reduceLE, Int.reduceLT, Int.reduceBEq, Int.reduceBNe] <;> rfl) ?_; simp only [go_sem, Nat.reduceAdd, Nat.reduceSub, Nat.reduceMul, Nat.reduceEqDiff, Nat.reduceLT, Nat.reduceLeDiff, Nat.reduceBEq, reduceIte, reduceCtorEq, Int.reduceToNat, Int.reduceLE, Int.reduceLT, Int.reduceBEq, Int.reduceBNe])
        refine Cl.here ⟨⟨1, c.at_, by omega, hd, fun h => by omega, fun j h hj => hnx j h hj, rfl, rfl⟩, ?_⟩
        simp only [go_sem, Nat.reduceAdd, Nat.reduceSub, Nat.reduceMul, Nat.reduceEqDiff, Nat.reduceLT, Nat.reduceLeDiff, Nat.reduceBEq, reduceIte, reduceCtorEq, Int.reduceToNat, Int.reduceLE, Int.reduceLT, Int.reduceBEq, Int.reduceBNe]
        omega
      | succ k =>
        have hk : k < z.ch.length := by omega
        obtain rfl := hp1 k hk rfl
        have hpos : ((k + 1 : Nat) : Int) > 0 := by omega
        have hwk : IntKind.i64.wrap (((k + 1 : Nat) : Int) - 1) = (k : Int) := by rw [wrap_i64 (by omega) (by omega)]; omega
        simp only [go_sem, Nat.reduceAdd, Nat.reduceSub, Nat.reduceMul, Nat.reduceEqDiff, Nat.reduceLT, Nat.reduceLeDiff, Nat.reduceBEq, reduceIte, reduceCtorEq, Int.reduceToNat, Int.reduceLE, Int.reduceLT, Int.reduceBEq, Int.reduceBNe, hpos, hwk]
        refine ⟨by omega, by omega, ?_⟩
        try simp only [Int.toNat_natCast]
        rw [els_getD hk]
        simp only [go_sem, Nat.reduceAdd, Nat.reduceSub, Nat.reduceMul, Nat.reduceEqDiff, Nat.reduceLT, Nat.reduceLeDiff, Nat.reduceBEq, reduceIte, reduceCtorEq, Int.reduceToNat, Int.reduceLE, Int.reduceLT, Int.reduceBEq, Int.reduceBNe, cel_ch]
        by_cases h6 : c.at_ ≤ z.ch[k].at_
        · rw [if_pos h6] at hd
          simp only [go_sem, Nat.reduceAdd, Nat.reduceSub, Nat.reduceMul, Nat.reduceEqDiff, Nat.reduceLT, Nat.reduceLeDiff, Nat.reduceBEq, reduceIte, reduceCtorEq, Int.reduceToNat, Int.reduceLE, Int.reduceLT, Int.reduceBEq, Int.reduceBNe, h6]
          exact Cl.fin rfl ⟨by rw [hd], rfl⟩
        · rw [if_neg h6] at hd
          simp only [go_sem, Nat.reduceAdd, Nat.reduceSub, Nat.reduceMul, Nat.reduceEqDiff, Nat.reduceLT, Nat.reduceLeDiff, Nat.reduceBEq, reduceIte, reduceCtorEq, Int.reduceToNat, Int.reduceLE, Int.reduceLT, Int.reduceBEq, Int.reduceBNe, h6, hw]
          (refine Cl.tr [some 0] [] rfl rfl (by simp only [go_sem, Nat.reduceAdd, Nat.reduceSub, Nat.reduceMul, Nat.reduceEqDiff, Nat.reduceLT, Nat.reduceLeDiff, Nat.reduceBEq, reduceIte, reduceCtorEq, Int.reduceToNat, Int.reduceLE, Int.reduceLT, Int.reduceBEq, Int.reduceBNe] <;> rfl) ?_; simp only [go_sem, Nat.reduceAdd, Nat.reduceSub, Nat.reduceMul, Nat.reduceEqDiff, Nat.reduceLT, Nat.reduceLeDiff, Nat.reduceBEq, reduceIte, reduceCtorEq, Int.reduceToNat, Int.reduceLE, Int.reduceLT, Int.reduceBEq, Int.reduceBNe])
          refine Cl.here ⟨⟨k + 1 + 1, c.at_, by omega, hd, fun h => by omega, fun j h hj => hnx j h hj, rfl, rfl⟩, ?_⟩
          simp only [go_sem, Nat.reduceAdd, Nat.reduceSub, Nat.reduceMul, Nat.reduceEqDiff, Nat.reduceLT, Nat.reduceLeDiff, Nat.reduceBEq, reduceIte, reduceCtorEq, Int.reduceToNat, Int.reduceLE, Int.reduceLT, Int.reduceBEq, Int.reduceBNe]
          omega
    · obtain rfl : i = z.ch.length := by omega
      refine Cl.fin rfl ⟨?_, rfl⟩
      rw [hd, List.drop_length]; rfl

/-- the segments of a zone from an instant on -/
def segs : Int → Int → List Ch → List Sg
  | f, o, [] => [⟨f, 120968640, o⟩]
  | f, o, c :: cs => (if f < c.at_ then [⟨f, c.at_, o⟩] else []) ++ segs c.at_ c.off cs
theorem segs_drop {f o : Int} {l : List Ch} {i : Nat} (h : i < l.length) : segs f o (l.drop i) = (if f < l[i].at_ then [⟨f, l[i].at_, o⟩] else []) ++ segs l[i].at_ l[i].off (l.drop (i + 1)) := by
  rw [List.drop_eq_getElem_cons h, segs]
theorem segments_ok (z : Zn) (hz : z.ch.length ≤ 64) : AFn Tryz.prog 73 [z.v] [] (fun v rs => v = .own 0 (segs 0 z.off z.ch).length 0 (segs 0 z.off z.ch).length ∧ rs = [.live 134 3 (els (segs 0 z.off z.ch))]) := by
  refine afn Tryz.func73 a73_ok (by simp [a73]) ?_
  simp only [go_sem, Nat.reduceAdd, Nat.reduceSub, Nat.reduceMul, Nat.reduceEqDiff, Nat.reduceLT, Nat.reduceLeDiff, Nat.reduceBEq, reduceIte, reduceCtorEq, Int.reduceToNat, Int.reduceLE, Int.reduceLT, Int.reduceBEq, Int.reduceBNe, a73, a73r0, a73r1, a73r2, a73r3, a73r4, a73r5, a73r6, a73r7, a73r8, a73r9, a73r10, a73r11, a73r12, Zn.v]
  refine avc_loop (fun env rows => ∃ (i : Nat) (f o : Int) (r : List Sg), i ≤ z.ch.length ∧ segs 0 z.off z.ch = r ++ segs f o (z.ch.drop i) ∧ r.length ≤ i ∧ env = [(3, .own 1 r.length 0 r.length), (4, .ref 0 1 0 0), (11, .pure 2 (els z.ch)), (12, .int .i64 z.ch.length), (13, .int .i64 i)] ∧ rows = [.live 134 3 [[.int .i64 f, .int .i64 0, .int .i64 o]], .live 134 3 (els r)])
    (fun env _ => match slot env 13 with | .int _ j => (z.ch.length - j).toNat | _ => 0) ?_ ?_
  · (refine Cl.ghost 3  134  3 rfl (Cl.norm [ 3, 4, 11, 12, 13] ?_); simp only [go_sem, Nat.reduceAdd, Nat.reduceSub, Nat.reduceMul, Nat.reduceEqDiff, Nat.reduceLT, Nat.reduceLeDiff, Nat.reduceBEq, reduceIte, reduceCtorEq, Int.reduceToNat, Int.reduceLE, Int.reduceLT, Int.reduceBEq, Int.reduceBNe])
    (refine Cl.tr [some 1, some 2] [] rfl rfl (by simp only [go_sem, Nat.reduceAdd, Nat.reduceSub, Nat.reduceMul, Nat.reduceEqDiff, Nat.reduceLT, Nat.reduceLeDiff, Nat.reduceBEq, reduceIte, reduceCtorEq, Int.reduceToNat, Int.reduceLE, Int.reduceLT, Int.reduceBEq, Int.reduceBNe] <;> rfl) ?_; simp only [go_sem, Nat.reduceAdd, Nat.reduceSub, Nat.reduceMul, Nat.reduceEqDiff, Nat.reduceLT, Nat.reduceLeDiff, Nat.reduceBEq, reduceIte, reduceCtorEq, Int.reduceToNat, Int.reduceLE, Int.reduceLT, Int.reduceBEq, Int.reduceBNe])
    exact Cl.here ⟨0, 0, z.off, [], by omega, rfl, by simp, rfl, rfl⟩
  · rintro env rows ⟨i, f, o, r, hi, hd, hr, rfl, rfl⟩
    have hw : IntKind.i64.wrap ((i : Int) + 1) = ((i + 1 : Nat) : Int) := by rw [wrap_i64 (by omega) (by omega)]; omega
    simp only [go_sem, Nat.reduceAdd, Nat.reduceSub, Nat.reduceMul, Nat.reduceEqDiff, Nat.reduceLT, Nat.reduceLeDiff, Nat.reduceBEq, reduceIte, reduceCtorEq, Int.reduceToNat, Int.reduceLE, Int.reduceLT, Int.reduceBEq, Int.reduceBNe, a73, a73r0, a73r1, a73r2, a73r3, a73r4, a73r5, a73r6, a73r7, a73r8, a73r9, a73r10, a73r11, a73r12]
    refine condC_intro ?_ ?_ <;> intro hg2 <;> simp only [decide_eq_true_eq, decide_eq_false_iff_not, beq_iff_eq, beq_eq_false_iff_ne, bne_iff_ne, bne_eq_false_iff_eq, Bool.not_eq_true', Bool.not_eq_false', Int.not_lt, Int.not_le, ne_eq, Bool.and_eq_true, Bool.or_eq_true, Bool.or_eq_false_iff, Bool.and_eq_false_iff] at hg2 <;> simp only [go_sem, Nat.reduceAdd, Nat.reduceSub, Nat.reduceMul, Nat.reduceEqDiff, Nat.reduceLT, Nat.reduceLeDiff, Nat.reduceBEq, reduceIte, reduceCtorEq, Int.reduceToNat, Int.reduceLE, Int.reduceLT, Int.reduceBEq, Int.reduceBNe, a73, a73r0, a73r1, a73r2, a73r3, a73r4, a73r5, a73r6, a73r7, a73r8, a73r9, a73r10, a73r11, a73r12]
    · have hlt : i < z.ch.length := by omega
      refine ⟨by omega, by omega, ?_⟩
      try simp only [Int.toNat_natCast]
      rw [segs_drop hlt] at hd
      rw [els_getD hlt]
      generalize z.ch[i] = c at hd ⊢
      simp only [go_sem, Nat.reduceAdd, Nat.reduceSub, Nat.reduceMul, Nat.reduceEqDiff, Nat.reduceLT, Nat.reduceLeDiff, Nat.reduceBEq, reduceIte, reduceCtorEq, Int.reduceToNat, Int.reduceLE, Int.reduceLT, Int.reduceBEq, Int.reduceBNe, cel_ch]
      by_cases h3 : c.at_ > f
      · rw [if_pos h3, ← List.append_assoc] at hd
        simp only [go_sem, Nat.reduceAdd, Nat.reduceSub, Nat.reduceMul, Nat.reduceEqDiff, Nat.reduceLT, Nat.reduceLeDiff, Nat.reduceBEq, reduceIte, reduceCtorEq, Int.reduceToNat, Int.reduceLE, Int.reduceLT, Int.reduceBEq, Int.reduceBNe, h3]
        refine ⟨by omega, ?_⟩
        simp only [go_sem, Nat.reduceAdd, Nat.reduceSub, Nat.reduceMul, Nat.reduceEqDiff, Nat.reduceLT, Nat.reduceLeDiff, Nat.reduceBEq, reduceIte, reduceCtorEq, Int.reduceToNat, Int.reduceLE, Int.reduceLT, Int.reduceBEq, Int.reduceBNe, sg_snoc, hw]
        (refine Cl.tr [some 0, some 1] [] rfl rfl (by simp only [go_sem, Nat.reduceAdd, Nat.reduceSub, Nat.reduceMul, Nat.reduceEqDiff, Nat.reduceLT, Nat.reduceLeDiff, Nat.reduceBEq, reduceIte, reduceCtorEq, Int.reduceToNat, Int.reduceLE, Int.reduceLT, Int.reduceBEq, Int.reduceBNe] <;> rfl) ?_; simp only [go_sem, Nat.reduceAdd, Nat.reduceSub, Nat.reduceMul, Nat.reduceEqDiff, Nat.reduceLT, Nat.reduceLeDiff, Nat.reduceBEq, reduceIte, reduceCtorEq, Int.reduceToNat, Int.reduceLE, Int.reduceLT, Int.reduceBEq, Int.reduceBNe])
        refine Cl.here ⟨⟨i + 1, c.at_, c.off, _, by omega, hd, by simp; omega, by simp, rfl⟩, ?_⟩
        simp only [go_sem, Nat.reduceAdd, Nat.reduceSub, Nat.reduceMul, Nat.reduceEqDiff, Nat.reduceLT, Nat.reduceLeDiff, Nat.reduceBEq, reduceIte, reduceCtorEq, Int.reduceToNat, Int.reduceLE, Int.reduceLT, Int.reduceBEq, Int.reduceBNe]
        omega
      · rw [if_neg h3, List.nil_append] at hd
        simp only [go_sem, Nat.reduceAdd, Nat.reduceSub, Nat.reduceMul, Nat.reduceEqDiff, Nat.reduceLT, Nat.reduceLeDiff, Nat.reduceBEq, reduceIte, reduceCtorEq, Int.reduceToNat, Int.reduceLE, Int.reduceLT, Int.reduceBEq, Int.reduceBNe, h3, hw]
        (refine Cl.tr [some 0, some 1] [] rfl rfl (by simp only [go_sem, Nat.reduceAdd, Nat.reduceSub, Nat.reduceMul, Nat.reduceEqDiff, Nat.reduceLT, Nat.reduceLeDiff, Nat.reduceBEq, reduceIte, reduceCtorEq, Int.reduceToNat, Int.reduceLE, Int.reduceLT, Int.reduceBEq, Int.reduceBNe] <;> rfl) ?_; simp only [go_sem, Nat.reduceAdd, Nat.reduceSub, Nat.reduceMul, Nat.reduceEqDiff, Nat.reduceLT, Nat.reduceLeDiff, Nat.reduceBEq, reduceIte, reduceCtorEq, Int.reduceToNat, Int.reduceLE, Int.reduceLT, Int.reduceBEq, Int.reduceBNe])
        refine Cl.here ⟨⟨i + 1, c.at_, c.off, _, by omega, hd, by omega, rfl, rfl⟩, ?_⟩
        simp only [go_sem, Nat.reduceAdd, Nat.reduceSub, Nat.reduceMul, Nat.reduceEqDiff, Nat.reduceLT, Nat.reduceLeDiff, Nat.reduceBEq, reduceIte, reduceCtorEq, Int.reduceToNat, Int.reduceLE, Int.reduceLT, Int.reduceBEq, Int.reduceBNe]
        omega
    · obtain rfl : i = z.ch.length := by omega
      rw [List.drop_length, segs] at hd
      refine ⟨by omega, ?_⟩
      simp only [go_sem, Nat.reduceAdd, Nat.reduceSub, Nat.reduceMul, Nat.reduceEqDiff, Nat.reduceLT, Nat.reduceLeDiff, Nat.reduceBEq, reduceIte, reduceCtorEq, Int.reduceToNat, Int.reduceLE, Int.reduceLT, Int.reduceBEq, Int.reduceBNe, sg_snoc]
      (refine Cl.tr [some 1] [] rfl rfl (by simp only [go_sem, Nat.reduceAdd, Nat.reduceSub, Nat.reduceMul, Nat.reduceEqDiff, Nat.reduceLT, Nat.reduceLeDiff, Nat.reduceBEq, reduceIte, reduceCtorEq, Int.reduceToNat, Int.reduceLE, Int.reduceLT, Int.reduceBEq, Int.reduceBNe] <;> rfl) ?_; simp only [go_sem, Nat.reduceAdd, Nat.reduceSub, Nat.reduceMul, Nat.reduceEqDiff, Nat.reduceLT, Nat.reduceLeDiff, Nat.reduceBEq, reduceIte, reduceCtorEq, Int.reduceToNat, Int.reduceLE, Int.reduceLT, Int.reduceBEq, Int.reduceBNe])
      rw [hd]
      exact Cl.here ⟨by simp [slot], rfl⟩

/-- the first instant of segments with a local minute -/
def frst : List Sg → Int → Int
  | [], _ => 120968640
  | s :: ss, t => if max s.fr (t - s.off) < s.to then max s.fr (t - s.off) else frst ss t
theorem frst_drop {l : List Sg} {t : Int} {i : Nat} (h : i < l.length) : frst (l.drop i) t = if max l[i].fr (t - l[i].off) < l[i].to then max l[i].fr (t - l[i].off) else frst (l.drop (i + 1)) t := by
  rw [List.drop_eq_getElem_cons h, frst]
def frstZ (z : Zn) (t : Int) : Int := if 120969479 < t then 120968640 else frst (segs 0 z.off z.ch) (max t (-840))
/-- a zone that is valid -/
structure ZnOk (z : Zn) : Prop where
  len : z.ch.length ≤ 64
  off : offP z.off
  ch : ∀ c ∈ z.ch, 0 ≤ c.at_ ∧ c.at_ ≤ 120968639 ∧ offP c.off
theorem chE_ok : ∀ {l : List Ch} {p : Int}, chE p l = 0 → ∀ c ∈ l, 0 ≤ c.at_ ∧ c.at_ ≤ 120968639 ∧ offP c.off
  | [], _, _, c, hc => by simp at hc
  | x :: xs, p, h, c, hc => by
    rw [chE] at h
    split at h
    · cases h
    split at h
    · cases h
    rename_i h1 h2
    rcases List.mem_cons.1 hc with rfl | hc
    · exact Classical.not_not.1 h1
    · exact chE_ok h c hc
theorem vZ_ok {z : Zn} (h : vZ z = 0) : ZnOk z := by
  unfold vZ at h
  split at h
  · cases h
  split at h
  · rename_i h1 h2
    exact ⟨by omega, h2, chE_ok h⟩
  · cases h
theorem segs_bd : ∀ {l : List Ch} {f o : Int}, 0 ≤ f → f ≤ 120968640 → offP o → (∀ c ∈ l, 0 ≤ c.at_ ∧ c.at_ ≤ 120968639 ∧ offP c.off) → ∀ s ∈ segs f o l, 0 ≤ s.fr ∧ s.fr ≤ 120968640 ∧ 0 ≤ s.to ∧ s.to ≤ 120968640 ∧ offP s.off
  | [], f, o, h0, h1, ho, _, s, hs => by
    simp only [segs, List.mem_singleton] at hs
    subst hs
    exact ⟨h0, h1, by simp only; omega, by simp only; omega, ho⟩
  | c :: cs, f, o, h0, h1, ho, hc, s, hs => by
    have h2 := hc c List.mem_cons_self
    rw [segs, List.mem_append] at hs
    rcases hs with hs | hs
    · split at hs
      · rw [List.mem_singleton] at hs
        subst hs
        exact ⟨h0, h1, by simp only; omega, by simp only; omega, ho⟩
      · simp at hs
    · exact segs_bd (by omega) (by omega) h2.2.2 (fun c h => hc c (List.mem_cons_of_mem _ h)) s hs
theorem frst_bd : ∀ {l : List Sg} {t : Int}, (∀ s ∈ l, 0 ≤ s.fr ∧ s.to ≤ 120968640) → 0 ≤ frst l t ∧ frst l t ≤ 120968640
  | [], t, _ => by simp [frst]
  | s :: ss, t, h => by
    have h1 := h s List.mem_cons_self
    rw [frst]
    split
    · omega
    · exact frst_bd fun s hs => h s (List.mem_cons_of_mem _ hs)
theorem segs_length : ∀ {l : List Ch} {f o : Int}, (segs f o l).length ≤ l.length + 1
  | [], f, o => by simp [segs]
  | c :: cs, f, o => by
    have := segs_length (l := cs) (f := c.at_) (o := c.off)
    rw [segs, List.length_append, List.length_cons]
    split <;> simp <;> omega

theorem first_ok (z : Zn) (hz : ZnOk z) (t : Int) (ht : -1000000000 ≤ t) : AFn Tryz.prog 52 [z.v, .int .i64 t] [] (fun v rs => v = .int .i64 (frstZ z t) ∧ rs = []) := by
  refine afn Tryz.func52 a52_ok (by simp [a52]) ?_
  have hsg := segments_ok z hz.len
  have hbd := segs_bd (l := z.ch) (f := 0) (o := z.off) (by omega) (by omega) hz.off hz.ch
  have hln := segs_length (l := z.ch) (f := 0) (o := z.off)
  have hz1 := hz.len
  unfold frstZ
  unfold Zn.v at hsg ⊢
  simp only [go_sem, Nat.reduceAdd, Nat.reduceSub, Nat.reduceMul, Nat.reduceEqDiff, Nat.reduceLT, Nat.reduceLeDiff, Nat.reduceBEq, reduceIte, reduceCtorEq, Int.reduceToNat, Int.reduceLE, Int.reduceLT, Int.reduceBEq, Int.reduceBNe, a52, a52r0, a52r1, a52r2, a52r3, a52r4, a52r5, a52r6, a52r7, a52r8, a52r9, a52r10, a52r11]
  by_cases h1 : t > 120969479
  · have h1' : 120969479 < t := h1
    simp only [go_sem, Nat.reduceAdd, Nat.reduceSub, Nat.reduceMul, Nat.reduceEqDiff, Nat.reduceLT, Nat.reduceLeDiff, Nat.reduceBEq, reduceIte, reduceCtorEq, Int.reduceToNat, Int.reduceLE, Int.reduceLT, Int.reduceBEq, Int.reduceBNe, h1, h1']
    exact Cl.fin rfl ⟨rfl, rfl⟩
  have h1' : ¬ 120969479 < t := h1
  rw [if_neg h1']
  simp only [go_sem, Nat.reduceAdd, Nat.reduceSub, Nat.reduceMul, Nat.reduceEqDiff, Nat.reduceLT, Nat.reduceLeDiff, Nat.reduceBEq, reduceIte, reduceCtorEq, Int.reduceToNat, Int.reduceLE, Int.reduceLT, Int.reduceBEq, Int.reduceBNe, h1]
  (refine callC_of [] [] (by simp) rfl (bindL_clean _ (by first | rfl | simp only [go_sem, Nat.reduceAdd, Nat.reduceSub, Nat.reduceMul, Nat.reduceEqDiff, Nat.reduceLT, Nat.reduceLeDiff, Nat.reduceBEq, reduceIte, reduceCtorEq, Int.reduceToNat, Int.reduceLE, Int.reduceLT, Int.reduceBEq, Int.reduceBNe])) (hsg) ?_; rintro _ _ ⟨rfl, rfl⟩; refine ⟨.inl rfl, ?_⟩; simp only [go_sem, Nat.reduceAdd, Nat.reduceSub, Nat.reduceMul, Nat.reduceEqDiff, Nat.reduceLT, Nat.reduceLeDiff, Nat.reduceBEq, reduceIte, reduceCtorEq, Int.reduceToNat, Int.reduceLE, Int.reduceLT, Int.reduceBEq, Int.reduceBNe])
  clear hsg
  generalize segs 0 z.off z.ch = l at *
  obtain ⟨u, hu⟩ : ∃ u, u = max t (-840) := ⟨_, rfl⟩
  rw [← hu]
  have hu1 : -1000000000 ≤ u ∧ u ≤ 120969479 := by omega
  refine avc_loop (fun env rows => ∃ i : Nat, i ≤ l.length ∧ frst l u = frst (l.drop i) u ∧ env = [(1, .int .i64 u), (13, .own 0 l.length 0 l.length), (14, .int .i64 l.length), (15, .int .i64 i)] ∧ rows = [.live 134 3 (els l)])
    (fun env _ => match slot env 15 with | .int _ j => (l.length - j).toNat | _ => 0) ?_ ?_
  · (refine Cl.tr [some 1] [] rfl rfl (by simp only [go_sem, Nat.reduceAdd, Nat.reduceSub, Nat.reduceMul, Nat.reduceEqDiff, Nat.reduceLT, Nat.reduceLeDiff, Nat.reduceBEq, reduceIte, reduceCtorEq, Int.reduceToNat, Int.reduceLE, Int.reduceLT, Int.reduceBEq, Int.reduceBNe] <;> rfl) ?_; simp only [go_sem, Nat.reduceAdd, Nat.reduceSub, Nat.reduceMul, Nat.reduceEqDiff, Nat.reduceLT, Nat.reduceLeDiff, Nat.reduceBEq, reduceIte, reduceCtorEq, Int.reduceToNat, Int.reduceLE, Int.reduceLT, Int.reduceBEq, Int.reduceBNe])
    exact Cl.here ⟨0, by omega, rfl, rfl, rfl⟩
  · rintro env rows ⟨i, hi, hd, rfl, rfl⟩
    have hw : IntKind.i64.wrap ((i : Int) + 1) = ((i + 1 : Nat) : Int) := by rw [wrap_i64 (by omega) (by omega)]; omega
    simp only [go_sem, Nat.reduceAdd, Nat.reduceSub, Nat.reduceMul, Nat.reduceEqDiff, Nat.reduceLT, Nat.reduceLeDiff, Nat.reduceBEq, reduceIte, reduceCtorEq, Int.reduceToNat, Int.reduceLE, Int.reduceLT, Int.reduceBEq, Int.reduceBNe, a52, a52r0, a52r1, a52r2, a52r3, a52r4, a52r5, a52r6, a52r7, a52r8, a52r9, a52r10, a52r11]
    refine condC_intro ?_ ?_ <;> intro hg2 <;> simp only [decide_eq_true_eq, decide_eq_false_iff_not, beq_iff_eq, beq_eq_false_iff_ne, bne_iff_ne, bne_eq_false_iff_eq, Bool.not_eq_true', Bool.not_eq_false', Int.not_lt, Int.not_le, ne_eq, Bool.and_eq_true, Bool.or_eq_true, Bool.or_eq_false_iff, Bool.and_eq_false_iff] at hg2 <;> simp only [go_sem, Nat.reduceAdd, Nat.reduceSub, Nat.reduceMul, Nat.reduceEqDiff, Nat.reduceLT, Nat.reduceLeDiff, Nat.reduceBEq, reduceIte, reduceCtorEq, Int.reduceToNat, Int.reduceLE, Int.reduceLT, Int.reduceBEq, Int.reduceBNe, a52, a52r0, a52r1, a52r2, a52r3, a52r4, a52r5, a52r6, a52r7, a52r8, a52r9, a52r10, a52r11]
    · have hlt : i < l.length := by omega
      refine ⟨by omega, by omega, ?_⟩
      try simp only [Int.toNat_natCast]
      rw [frst_drop hlt] at hd
      have hb := hbd l[i] (List.getElem_mem _)
      rw [els_getD hlt]
      generalize l[i] = s at hd hb ⊢
      unfold offP at hb
      simp only [go_sem, Nat.reduceAdd, Nat.reduceSub, Nat.reduceMul, Nat.reduceEqDiff, Nat.reduceLT, Nat.reduceLeDiff, Nat.reduceBEq, reduceIte, reduceCtorEq, Int.reduceToNat, Int.reduceLE, Int.reduceLT, Int.reduceBEq, Int.reduceBNe, cel_sg]
      rw [wrap_i64 (x := u - s.off) (by omega) (by omega)]
      by_cases h3 : max s.fr (u - s.off) < s.to
      · rw [if_pos h3] at hd
        simp only [go_sem, Nat.reduceAdd, Nat.reduceSub, Nat.reduceMul, Nat.reduceEqDiff, Nat.reduceLT, Nat.reduceLeDiff, Nat.reduceBEq, reduceIte, reduceCtorEq, Int.reduceToNat, Int.reduceLE, Int.reduceLT, Int.reduceBEq, Int.reduceBNe, h3]
        exact Cl.fin rfl ⟨by rw [hd], rfl⟩
      · rw [if_neg h3] at hd
        simp only [go_sem, Nat.reduceAdd, Nat.reduceSub, Nat.reduceMul, Nat.reduceEqDiff, Nat.reduceLT, Nat.reduceLeDiff, Nat.reduceBEq, reduceIte, reduceCtorEq, Int.reduceToNat, Int.reduceLE, Int.reduceLT, Int.reduceBEq, Int.reduceBNe, h3, hw]
        (refine Cl.tr [some 0] [] rfl rfl (by simp only [go_sem, Nat.reduceAdd, Nat.reduceSub, Nat.reduceMul, Nat.reduceEqDiff, Nat.reduceLT, Nat.reduceLeDiff, Nat.reduceBEq, reduceIte, reduceCtorEq, Int.reduceToNat, Int.reduceLE, Int.reduceLT, Int.reduceBEq, Int.reduceBNe] <;> rfl) ?_; simp only [go_sem, Nat.reduceAdd, Nat.reduceSub, Nat.reduceMul, Nat.reduceEqDiff, Nat.reduceLT, Nat.reduceLeDiff, Nat.reduceBEq, reduceIte, reduceCtorEq, Int.reduceToNat, Int.reduceLE, Int.reduceLT, Int.reduceBEq, Int.reduceBNe])
        refine Cl.here ⟨⟨i + 1, by omega, hd, rfl, rfl⟩, ?_⟩
        simp only [go_sem, Nat.reduceAdd, Nat.reduceSub, Nat.reduceMul, Nat.reduceEqDiff, Nat.reduceLT, Nat.reduceLeDiff, Nat.reduceBEq, reduceIte, reduceCtorEq, Int.reduceToNat, Int.reduceLE, Int.reduceLT, Int.reduceBEq, Int.reduceBNe]
        omega
    · obtain rfl : i = l.length := by omega
      refine Cl.fin rfl ⟨?_, rfl⟩
      rw [hd, List.drop_length]; rfl

def begZ (z : Zn) (d : Int) : Int := if d = 0 then 0 else if d = 84006 then 120968640 else frstZ z (d * 1440)
theorem frstZ_bd {z : Zn} (hz : ZnOk z) (t : Int) : 0 ≤ frstZ z t ∧ frstZ z t ≤ 120968640 := by
  unfold frstZ
  split
  · omega
  · exact frst_bd fun s hs => by
      have := segs_bd (l := z.ch) (f := 0) (o := z.off) (by omega) (by omega) hz.off hz.ch s hs
      omega
theorem begZ_bd {z : Zn} (hz : ZnOk z) (d : Int) : 0 ≤ begZ z d ∧ begZ z d ≤ 120968640 := by
  unfold begZ
  split
  · omega
  split
  · omega
  exact frstZ_bd hz _
theorem begin_ok (z : Zn) (hz : vZ z = 0) (d : Int) (h0 : 0 ≤ d) (h1 : d ≤ 84006) : AFn Tryz.prog 35 [z.v, .int .i64 d] [] (fun v rs => v = .tup [.int .i64 (begZ z d), .int .i64 0] ∧ rs = []) := by
  refine afn Tryz.func35 a35_ok (by simp [a35]) ?_
  have hV := validZ_ok z
  have hF := first_ok z (vZ_ok hz) (d * 1440) (by omega)
  rw [hz] at hV
  unfold begZ
  unfold Zn.v at *
  simp only [go_sem, Nat.reduceAdd, Nat.reduceSub, Nat.reduceMul, Nat.reduceEqDiff, Nat.reduceLT, Nat.reduceLeDiff, Nat.reduceBEq, reduceIte, reduceCtorEq, Int.reduceToNat, Int.reduceLE, Int.reduceLT, Int.reduceBEq, Int.reduceBNe, a35, a35r0, a35r1, a35r2, a35r3, a35r4, a35r5, a35r6, a35r7, a35r8, a35r9, a35r10, a35r11]
  refine callC_det hV rfl rfl ?_
  simp only [go_sem, Nat.reduceAdd, Nat.reduceSub, Nat.reduceMul, Nat.reduceEqDiff, Nat.reduceLT, Nat.reduceLeDiff, Nat.reduceBEq, reduceIte, reduceCtorEq, Int.reduceToNat, Int.reduceLE, Int.reduceLT, Int.reduceBEq, Int.reduceBNe, bne_self_eq_false]
  have h2 : ¬ d < 0 := by omega
  have h3 : ¬ d > 84006 := by omega
  simp only [go_sem, Nat.reduceAdd, Nat.reduceSub, Nat.reduceMul, Nat.reduceEqDiff, Nat.reduceLT, Nat.reduceLeDiff, Nat.reduceBEq, reduceIte, reduceCtorEq, Int.reduceToNat, Int.reduceLE, Int.reduceLT, Int.reduceBEq, Int.reduceBNe, h2, h3]
  by_cases h4 : d = 0
  · subst h4
    simp only [go_sem, Nat.reduceAdd, Nat.reduceSub, Nat.reduceMul, Nat.reduceEqDiff, Nat.reduceLT, Nat.reduceLeDiff, Nat.reduceBEq, reduceIte, reduceCtorEq, Int.reduceToNat, Int.reduceLE, Int.reduceLT, Int.reduceBEq, Int.reduceBNe]
    exact Cl.fin rfl ⟨rfl, rfl⟩
  have h4' : (d == 0) = false := by simp [h4]
  rw [if_neg h4]
  by_cases h5 : d = 84006
  · subst h5
    simp only [go_sem, Nat.reduceAdd, Nat.reduceSub, Nat.reduceMul, Nat.reduceEqDiff, Nat.reduceLT, Nat.reduceLeDiff, Nat.reduceBEq, reduceIte, reduceCtorEq, Int.reduceToNat, Int.reduceLE, Int.reduceLT, Int.reduceBEq, Int.reduceBNe]
    exact Cl.fin rfl ⟨rfl, rfl⟩
  have h5' : (d == 84006) = false := by simp [h5]
  rw [if_neg h5]
  simp only [go_sem, Nat.reduceAdd, Nat.reduceSub, Nat.reduceMul, Nat.reduceEqDiff, Nat.reduceLT, Nat.reduceLeDiff, Nat.reduceBEq, reduceIte, reduceCtorEq, Int.reduceToNat, Int.reduceLE, Int.reduceLT, Int.reduceBEq, Int.reduceBNe, h4', h5']
  rw [wrap_i64 (x := d * 1440) (by omega) (by omega)]
  refine callC_det hF rfl rfl ?_
  simp only [go_sem, Nat.reduceAdd, Nat.reduceSub, Nat.reduceMul, Nat.reduceEqDiff, Nat.reduceLT, Nat.reduceLeDiff, Nat.reduceBEq, reduceIte, reduceCtorEq, Int.reduceToNat, Int.reduceLE, Int.reduceLT, Int.reduceBEq, Int.reduceBNe]
  exact Cl.fin rfl ⟨rfl, rfl⟩

def dyP (d : Int) : Prop := 0 ≤ d ∧ d ≤ 84005
instance (d : Int) : Decidable (dyP d) := inferInstanceAs (Decidable (0 ≤ d ∧ d ≤ 84005))
theorem calvalid_ok (d : Int) : AFn Tryz.prog 49 [.int .i64 d] [] (fun v rs => v = .bool (decide (dyP d)) ∧ rs = []) := by
  refine afn Tryz.func49 a49_ok (by simp [a49]) ?_
  simp only [go_sem, Nat.reduceAdd, Nat.reduceSub, Nat.reduceMul, Nat.reduceEqDiff, Nat.reduceLT, Nat.reduceLeDiff, Nat.reduceBEq, reduceIte, reduceCtorEq, Int.reduceToNat, Int.reduceLE, Int.reduceLT, Int.reduceBEq, Int.reduceBNe, a49, a49r0, a49r1]
  repeat' (first | (refine grdC_intro ?_ ?_ <;> intro hg <;> (have hp := hg; try simp only [decide_eq_true_eq, decide_eq_false_iff_not, beq_iff_eq, beq_eq_false_iff_ne, bne_iff_ne, bne_eq_false_iff_eq, Bool.not_eq_true', Bool.not_eq_false', Int.not_lt, Int.not_le, ne_eq, Bool.and_eq_true, Bool.or_eq_true, Bool.or_eq_false_iff, Bool.and_eq_false_iff] at hp) <;> (first | omega | (simp only [go_sem, Nat.reduceAdd, Nat.reduceSub, Nat.reduceMul, Nat.reduceEqDiff, Nat.reduceLT, Nat.reduceLeDiff, Nat.reduceBEq, reduceIte, reduceCtorEq, Int.reduceToNat, Int.reduceLE, Int.reduceLT, Int.reduceBEq, Int.reduceBNe, hg, a49, a49r0, a49r1]; clear hg))) | (refine grdD_intro ?_ ?_ <;> intro hg <;> (have hp := hg; try simp only [decide_eq_true_eq, decide_eq_false_iff_not, beq_iff_eq, beq_eq_false_iff_ne, bne_iff_ne, bne_eq_false_iff_eq, Bool.not_eq_true', Bool.not_eq_false', Int.not_lt, Int.not_le, ne_eq, Bool.and_eq_true, Bool.or_eq_true, Bool.or_eq_false_iff, Bool.and_eq_false_iff] at hp) <;> (first | omega | (simp only [go_sem, Nat.reduceAdd, Nat.reduceSub, Nat.reduceMul, Nat.reduceEqDiff, Nat.reduceLT, Nat.reduceLeDiff, Nat.reduceBEq, reduceIte, reduceCtorEq, Int.reduceToNat, Int.reduceLE, Int.reduceLT, Int.reduceBEq, Int.reduceBNe, hg, a49, a49r0, a49r1]; clear hg))) | (refine condC_intro ?_ ?_ <;> intro hg <;> (have hp := hg; try simp only [decide_eq_true_eq, decide_eq_false_iff_not, beq_iff_eq, beq_eq_false_iff_ne, bne_iff_ne, bne_eq_false_iff_eq, Bool.not_eq_true', Bool.not_eq_false', Int.not_lt, Int.not_le, ne_eq, Bool.and_eq_true, Bool.or_eq_true, Bool.or_eq_false_iff, Bool.and_eq_false_iff] at hp) <;> (first | omega | (simp only [go_sem, Nat.reduceAdd, Nat.reduceSub, Nat.reduceMul, Nat.reduceEqDiff, Nat.reduceLT, Nat.reduceLeDiff, Nat.reduceBEq, reduceIte, reduceCtorEq, Int.reduceToNat, Int.reduceLE, Int.reduceLT, Int.reduceBEq, Int.reduceBNe, hg, a49, a49r0, a49r1]; clear hg))) | (refine condW_intro ?_ ?_ <;> intro hg <;> (have hp := hg; try simp only [decide_eq_true_eq, decide_eq_false_iff_not, beq_iff_eq, beq_eq_false_iff_ne, bne_iff_ne, bne_eq_false_iff_eq, Bool.not_eq_true', Bool.not_eq_false', Int.not_lt, Int.not_le, ne_eq, Bool.and_eq_true, Bool.or_eq_true, Bool.or_eq_false_iff, Bool.and_eq_false_iff] at hp) <;> (first | omega | (simp only [go_sem, Nat.reduceAdd, Nat.reduceSub, Nat.reduceMul, Nat.reduceEqDiff, Nat.reduceLT, Nat.reduceLeDiff, Nat.reduceBEq, reduceIte, reduceCtorEq, Int.reduceToNat, Int.reduceLE, Int.reduceLT, Int.reduceBEq, Int.reduceBNe, hg, a49, a49r0, a49r1]; clear hg))))
  all_goals ((refine Cl.fin rfl ⟨congrArg AVal.bool ?_, rfl⟩; rw [Bool.eq_iff_iff]; simp only [decide_eq_true_eq, decide_eq_false_iff_not, beq_iff_eq, beq_eq_false_iff_ne, bne_iff_ne, bne_eq_false_iff_eq, Bool.not_eq_true', Bool.not_eq_false', Int.not_lt, Int.not_le, ne_eq, Bool.and_eq_true, Bool.or_eq_true, Bool.or_eq_false_iff, Bool.and_eq_false_iff, Bool.false_eq_true, false_iff, true_iff, iff_true, iff_false, and_true, true_and] at *; try simp only [dyP] at *; omega))
theorem weekday1_ok (d : Int) (h0 : 0 ≤ d) (h1 : d ≤ 84005) : AFn Tryz.prog 50 [.int .i64 d] [] (fun v rs => v = .int .i64 ((d + 3) % 7) ∧ rs = []) := by
  refine afn Tryz.func50 a50_ok (by simp [a50]) ?_
  simp only [go_sem, Nat.reduceAdd, Nat.reduceSub, Nat.reduceMul, Nat.reduceEqDiff, Nat.reduceLT, Nat.reduceLeDiff, Nat.reduceBEq, reduceIte, reduceCtorEq, Int.reduceToNat, Int.reduceLE, Int.reduceLT, Int.reduceBEq, Int.reduceBNe, a50, a50r0, a50r1]
  refine ⟨by decide, by decide, ?_⟩
  rw [wrap_i64 (x := d + 3) (by omega) (by omega), Int.tmod_eq_emod_of_nonneg (a := d + 3) (by omega), wrap_i64 (x := (d + 3) % 7 + 7) (by omega) (by omega), Int.tmod_eq_emod_of_nonneg (a := (d + 3) % 7 + 7) (by omega)]
  exact Cl.fin rfl ⟨by rw [show ((d + 3) % 7 + 7) % 7 = (d + 3) % 7 from by omega], rfl⟩
theorem weekday_ok (d : Int) (h0 : 0 ≤ d) (h1 : d ≤ 84005) : AFn Tryz.prog 32 [.int .i64 d] [] (fun v rs => v = .int .i64 ((d + 3) % 7) ∧ rs = []) := by
  refine afn Tryz.func32 a32_ok (by simp [a32]) ?_
  simp only [go_sem, Nat.reduceAdd, Nat.reduceSub, Nat.reduceMul, Nat.reduceEqDiff, Nat.reduceLT, Nat.reduceLeDiff, Nat.reduceBEq, reduceIte, reduceCtorEq, Int.reduceToNat, Int.reduceLE, Int.reduceLT, Int.reduceBEq, Int.reduceBNe, a32, a32r0, a32r1, a32r2, a32r3]
  refine callC_det (calvalid_ok d) rfl rfl ?_
  have h2 : dyP d := ⟨h0, h1⟩
  simp only [go_sem, Nat.reduceAdd, Nat.reduceSub, Nat.reduceMul, Nat.reduceEqDiff, Nat.reduceLT, Nat.reduceLeDiff, Nat.reduceBEq, reduceIte, reduceCtorEq, Int.reduceToNat, Int.reduceLE, Int.reduceLT, Int.reduceBEq, Int.reduceBNe, h2]
  refine callC_det (weekday1_ok d h0 h1) rfl rfl ?_
  simp only [go_sem, Nat.reduceAdd, Nat.reduceSub, Nat.reduceMul, Nat.reduceEqDiff, Nat.reduceLT, Nat.reduceLeDiff, Nat.reduceBEq, reduceIte, reduceCtorEq, Int.reduceToNat, Int.reduceLE, Int.reduceLT, Int.reduceBEq, Int.reduceBNe]
  exact Cl.fin rfl ⟨rfl, rfl⟩

theorem chE_snoc : ∀ {l : List Ch} {p : Int} {c : Ch}, chE p l = 0 → (∀ x ∈ l, x.at_ < c.at_) → p < c.at_ → 0 ≤ c.at_ ∧ c.at_ ≤ 120968639 ∧ offP c.off → chE p (l ++ [c]) = 0
  | [], p, c, _, _, hp, hc => by
    rw [List.nil_append, chE, if_neg (fun h => h hc), if_neg (by omega)]; rfl
  | x :: xs, p, c, h, hx, hp, hc => by
    rw [chE] at h
    rw [List.cons_append, chE]
    split at h
    · cases h
    split at h
    · cases h
    rename_i h1 h2
    rw [if_neg h1, if_neg h2]
    exact chE_snoc h (fun y hy => hx y (List.mem_cons_of_mem _ hy)) (hx x List.mem_cons_self) hc
/-- a made zone -/
theorem zone_ok (l : List Int) (hl : TapeOk l) (at_ : Int) (h0 : 0 ≤ at_) (h1 : at_ ≤ l.length) : AFn Tryz.prog 6 [.ref 0 1 0 0] [tp l at_]
    (fun v rs => ∃ (a : Int) (z : Zn), v = z.v ∧ rs = [tp l a] ∧ 0 ≤ a ∧ a ≤ l.length ∧ vZ z = 0 ∧ z.ch.length ≤ 3) := by
  refine afnW Tryz.func6 a6_ok (by simp [a6]) ?_
  simp only [go_sem, Nat.reduceAdd, Nat.reduceSub, Nat.reduceMul, Nat.reduceEqDiff, Nat.reduceLT, Nat.reduceLeDiff, Nat.reduceBEq, reduceIte, reduceCtorEq, Int.reduceToNat, Int.reduceLE, Int.reduceLT, Int.reduceBEq, Int.reduceBNe, a6, a6r0, a6r1, a6r2, a6r3, a6r4, a6r5, a6r6, a6r7, a6r8, tp]
  (refine Cl.here ?_; simp only [go_sem, Nat.reduceAdd, Nat.reduceSub, Nat.reduceMul, Nat.reduceEqDiff, Nat.reduceLT, Nat.reduceLeDiff, Nat.reduceBEq, reduceIte, reduceCtorEq, Int.reduceToNat, Int.reduceLE, Int.reduceLT, Int.reduceBEq, Int.reduceBNe])
  (refine callC_pick [0, 60, -300, 840, -840, 570] (pick_ok l hl _ (by simp) (by simp)) rfl rfl rfl rfl rfl (by decide) (by omega) (by omega) ?_; rintro _ at_ _ _ ⟨o, hmem, rfl⟩; simp only [List.mem_cons, List.not_mem_nil, or_false] at hmem; simp only [go_sem, Nat.reduceAdd, Nat.reduceSub, Nat.reduceMul, Nat.reduceEqDiff, Nat.reduceLT, Nat.reduceLeDiff, Nat.reduceBEq, reduceIte, reduceCtorEq, Int.reduceToNat, Int.reduceLE, Int.reduceLT, Int.reduceBEq, Int.reduceBNe])
  have ho : offP o := by unfold offP; omega
  clear hmem
  (refine Cl.here ?_; simp only [go_sem, Nat.reduceAdd, Nat.reduceSub, Nat.reduceMul, Nat.reduceEqDiff, Nat.reduceLT, Nat.reduceLeDiff, Nat.reduceBEq, reduceIte, reduceCtorEq, Int.reduceToNat, Int.reduceLE, Int.reduceLT, Int.reduceBEq, Int.reduceBNe])
  (refine callC_pick [0, 29453760, 29455200, 29456700, 29453060] (pick_ok l hl _ (by simp) (by simp)) rfl rfl rfl rfl rfl (by decide) (by omega) (by omega) ?_; rintro _ at_ _ _ ⟨t0, hmem, rfl⟩; simp only [List.mem_cons, List.not_mem_nil, or_false] at hmem; simp only [go_sem, Nat.reduceAdd, Nat.reduceSub, Nat.reduceMul, Nat.reduceEqDiff, Nat.reduceLT, Nat.reduceLeDiff, Nat.reduceBEq, reduceIte, reduceCtorEq, Int.reduceToNat, Int.reduceLE, Int.reduceLT, Int.reduceBEq, Int.reduceBNe])
  have ht0 : 0 ≤ t0 ∧ t0 ≤ 29456700 := by omega
  clear hmem
  (refine Cl.here ?_; simp only [go_sem, Nat.reduceAdd, Nat.reduceSub, Nat.reduceMul, Nat.reduceEqDiff, Nat.reduceLT, Nat.reduceLeDiff, Nat.reduceBEq, reduceIte, reduceCtorEq, Int.reduceToNat, Int.reduceLE, Int.reduceLT, Int.reduceBEq, Int.reduceBNe])
  (refine callC_tape (next_ok l hl 4 (by omega)) rfl rfl (by omega) (by omega) ?_; rintro _ at_ _ _ ⟨ n, rfl, _, _⟩; simp only [go_sem, Nat.reduceAdd, Nat.reduceSub, Nat.reduceMul, Nat.reduceEqDiff, Nat.reduceLT, Nat.reduceLeDiff, Nat.reduceBEq, reduceIte, reduceCtorEq, Int.reduceToNat, Int.reduceLE, Int.reduceLT, Int.reduceBEq, Int.reduceBNe])
  (refine Cl.here ?_; simp only [go_sem, Nat.reduceAdd, Nat.reduceSub, Nat.reduceMul, Nat.reduceEqDiff, Nat.reduceLT, Nat.reduceLeDiff, Nat.reduceBEq, reduceIte, reduceCtorEq, Int.reduceToNat, Int.reduceLE, Int.reduceLT, Int.reduceBEq, Int.reduceBNe])
  refine avcW_loop (fun env rows => ∃ (a : Int) (cs : List Ch) (j t : Int), env = [(0, .ref 0 1 0 0), (2, .ref 1 1 0 0), (3, .ref 2 1 0 0), (4, .int .i64 t), (5, .int .i64 j)] ∧ rows = [tapeRow 48 l a, .live 27 2 [[.int .i64 0, .nils]], .live 27 2 [[.int .i64 o, .own 3 cs.length 0 cs.length]], .live 51 2 (els cs)] ∧ 0 ≤ a ∧ a ≤ l.length ∧ 0 ≤ j ∧ cs.length + j ≤ 3 ∧ chE (-1) cs = 0 ∧ (∀ c ∈ cs, c.at_ < t) ∧ 0 ≤ t ∧ t + 4320 * j ≤ 29470000)
    (fun env _ => match slot env 5 with | .int _ j => j.toNat | _ => 0) ?_ ?_
  · (refine Cl.step (.ghostC 3  0  1  51  2 rfl (by simp) (by decide) rfl) ?_; simp only [go_sem, Nat.reduceAdd, Nat.reduceSub, Nat.reduceMul, Nat.reduceEqDiff, Nat.reduceLT, Nat.reduceLeDiff, Nat.reduceBEq, reduceIte, reduceCtorEq, Int.reduceToNat, Int.reduceLE, Int.reduceLT, Int.reduceBEq, Int.reduceBNe, splice])
    (refine Cl.tr [some 0, some 1, some 3, some 5] [] rfl rfl (by simp only [go_sem, Nat.reduceAdd, Nat.reduceSub, Nat.reduceMul, Nat.reduceEqDiff, Nat.reduceLT, Nat.reduceLeDiff, Nat.reduceBEq, reduceIte, reduceCtorEq, Int.reduceToNat, Int.reduceLE, Int.reduceLT, Int.reduceBEq, Int.reduceBNe] <;> rfl) ?_; simp only [go_sem, Nat.reduceAdd, Nat.reduceSub, Nat.reduceMul, Nat.reduceEqDiff, Nat.reduceLT, Nat.reduceLeDiff, Nat.reduceBEq, reduceIte, reduceCtorEq, Int.reduceToNat, Int.reduceLE, Int.reduceLT, Int.reduceBEq, Int.reduceBNe])
    exact Cl.here ⟨at_, [], n, t0, rfl, rfl, by omega, by omega, by omega, by simp; omega, rfl, by simp, by omega, by omega⟩
  · rintro env rows ⟨at_, cs, j, t, rfl, rfl, _, _, _, hl1, hcs, hlt, ht1, ht2⟩
    simp only [go_sem, Nat.reduceAdd, Nat.reduceSub, Nat.reduceMul, Nat.reduceEqDiff, Nat.reduceLT, Nat.reduceLeDiff, Nat.reduceBEq, reduceIte, reduceCtorEq, Int.reduceToNat, Int.reduceLE, Int.reduceLT, Int.reduceBEq, Int.reduceBNe, a6, a6r0, a6r1, a6r2, a6r3, a6r4, a6r5, a6r6, a6r7, a6r8]
    (refine Cl.here ?_; simp only [go_sem, Nat.reduceAdd, Nat.reduceSub, Nat.reduceMul, Nat.reduceEqDiff, Nat.reduceLT, Nat.reduceLeDiff, Nat.reduceBEq, reduceIte, reduceCtorEq, Int.reduceToNat, Int.reduceLE, Int.reduceLT, Int.reduceBEq, Int.reduceBNe])
    refine condW_intro ?_ ?_ <;> intro hg <;> simp only [decide_eq_true_eq, decide_eq_false_iff_not, beq_iff_eq, beq_eq_false_iff_ne, bne_iff_ne, bne_eq_false_iff_eq, Bool.not_eq_true', Bool.not_eq_false', Int.not_lt, Int.not_le, ne_eq, Bool.and_eq_true, Bool.or_eq_true, Bool.or_eq_false_iff, Bool.and_eq_false_iff] at hg <;> simp only [go_sem, Nat.reduceAdd, Nat.reduceSub, Nat.reduceMul, Nat.reduceEqDiff, Nat.reduceLT, Nat.reduceLeDiff, Nat.reduceBEq, reduceIte, reduceCtorEq, Int.reduceToNat, Int.reduceLE, Int.reduceLT, Int.reduceBEq, Int.reduceBNe, a6, a6r0, a6r1, a6r2, a6r3, a6r4, a6r5, a6r6, a6r7, a6r8]
    · (refine Cl.here ?_; simp only [go_sem, Nat.reduceAdd, Nat.reduceSub, Nat.reduceMul, Nat.reduceEqDiff, Nat.reduceLT, Nat.reduceLeDiff, Nat.reduceBEq, reduceIte, reduceCtorEq, Int.reduceToNat, Int.reduceLE, Int.reduceLT, Int.reduceBEq, Int.reduceBNe])
      (refine callD_pick [60, 120, 0, -300, 840, -840] (pick_ok l hl _ (by simp) (by simp)) (by simp only [go_sem, Nat.reduceAdd, Nat.reduceSub, Nat.reduceMul, Nat.reduceEqDiff, Nat.reduceLT, Nat.reduceLeDiff, Nat.reduceBEq, reduceIte, reduceCtorEq, Int.reduceToNat, Int.reduceLE, Int.reduceLT, Int.reduceBEq, Int.reduceBNe]) rfl rfl rfl rfl rfl (by decide) (by omega) (by omega) ?_; rintro _ at_ _ _ ⟨x, hmem, rfl⟩; simp only [List.mem_cons, List.not_mem_nil, or_false] at hmem; simp only [go_sem, Nat.reduceAdd, Nat.reduceSub, Nat.reduceMul, Nat.reduceEqDiff, Nat.reduceLT, Nat.reduceLeDiff, Nat.reduceBEq, reduceIte, reduceCtorEq, Int.reduceToNat, Int.reduceLE, Int.reduceLT, Int.reduceBEq, Int.reduceBNe])
      have hx : offP x := by unfold offP; omega
      clear hmem
      refine ⟨by omega, ?_⟩
      rw [ch_snoc]
      (refine Cl.here ?_; simp only [go_sem, Nat.reduceAdd, Nat.reduceSub, Nat.reduceMul, Nat.reduceEqDiff, Nat.reduceLT, Nat.reduceLeDiff, Nat.reduceBEq, reduceIte, reduceCtorEq, Int.reduceToNat, Int.reduceLE, Int.reduceLT, Int.reduceBEq, Int.reduceBNe])
      (refine callC_pick [60, 1440, 30, 4320, 1] (pick_ok l hl _ (by simp) (by simp)) rfl rfl rfl rfl rfl (by decide) (by omega) (by omega) ?_; rintro _ at_ _ _ ⟨y, hmem, rfl⟩; simp only [List.mem_cons, List.not_mem_nil, or_false] at hmem; simp only [go_sem, Nat.reduceAdd, Nat.reduceSub, Nat.reduceMul, Nat.reduceEqDiff, Nat.reduceLT, Nat.reduceLeDiff, Nat.reduceBEq, reduceIte, reduceCtorEq, Int.reduceToNat, Int.reduceLE, Int.reduceLT, Int.reduceBEq, Int.reduceBNe])
      have hy : 1 ≤ y ∧ y ≤ 4320 := by omega
      clear hmem
      rw [wrap_i64 (by omega) (by omega)]
      (refine Cl.here ?_; simp only [go_sem, Nat.reduceAdd, Nat.reduceSub, Nat.reduceMul, Nat.reduceEqDiff, Nat.reduceLT, Nat.reduceLeDiff, Nat.reduceBEq, reduceIte, reduceCtorEq, Int.reduceToNat, Int.reduceLE, Int.reduceLT, Int.reduceBEq, Int.reduceBNe])
      rw [wrap_i64 (by omega) (by omega)]
      (refine Cl.tr [some 0, some 1, some 2, some 3] [] rfl rfl (by simp only [go_sem, Nat.reduceAdd, Nat.reduceSub, Nat.reduceMul, Nat.reduceEqDiff, Nat.reduceLT, Nat.reduceLeDiff, Nat.reduceBEq, reduceIte, reduceCtorEq, Int.reduceToNat, Int.reduceLE, Int.reduceLT, Int.reduceBEq, Int.reduceBNe] <;> rfl) ?_; simp only [go_sem, Nat.reduceAdd, Nat.reduceSub, Nat.reduceMul, Nat.reduceEqDiff, Nat.reduceLT, Nat.reduceLeDiff, Nat.reduceBEq, reduceIte, reduceCtorEq, Int.reduceToNat, Int.reduceLE, Int.reduceLT, Int.reduceBEq, Int.reduceBNe])
      refine Cl.here ⟨⟨at_, cs ++ [⟨t, x⟩], j - 1, t + y, by simp, by simp, by omega, by omega, by omega, by simp; omega, ?_, ?_, by omega, by omega⟩, ?_⟩
      · exact chE_snoc hcs hlt (by simp only; omega) ⟨by simp only; omega, by simp only; omega, hx⟩
      · intro c hc
        rcases List.mem_append.1 hc with hc | hc
        · have := hlt c hc; omega
        · rw [List.mem_singleton] at hc; subst hc; simp only; omega
      · simp only [go_sem, Nat.reduceAdd, Nat.reduceSub, Nat.reduceMul, Nat.reduceEqDiff, Nat.reduceLT, Nat.reduceLeDiff, Nat.reduceBEq, reduceIte, reduceCtorEq, Int.reduceToNat, Int.reduceLE, Int.reduceLT, Int.reduceBEq, Int.reduceBNe]
        omega
    · (refine Cl.here ?_; simp only [go_sem, Nat.reduceAdd, Nat.reduceSub, Nat.reduceMul, Nat.reduceEqDiff, Nat.reduceLT, Nat.reduceLeDiff, Nat.reduceBEq, reduceIte, reduceCtorEq, Int.reduceToNat, Int.reduceLE, Int.reduceLT, Int.reduceBEq, Int.reduceBNe])
      (refine Cl.frz [some 0, some 1] [ 3] rfl rfl (by simp only [go_sem, Nat.reduceAdd, Nat.reduceSub, Nat.reduceMul, Nat.reduceEqDiff, Nat.reduceLT, Nat.reduceLeDiff, Nat.reduceBEq, reduceIte, reduceCtorEq, Int.reduceToNat, Int.reduceLE, Int.reduceLT, Int.reduceBEq, Int.reduceBNe] <;> rfl) ?_; simp only [go_sem, Nat.reduceAdd, Nat.reduceSub, Nat.reduceMul, Nat.reduceEqDiff, Nat.reduceLT, Nat.reduceLeDiff, Nat.reduceBEq, reduceIte, reduceCtorEq, Int.reduceToNat, Int.reduceLE, Int.reduceLT, Int.reduceBEq, Int.reduceBNe])
      (refine Cl.here ?_; simp only [go_sem, Nat.reduceAdd, Nat.reduceSub, Nat.reduceMul, Nat.reduceEqDiff, Nat.reduceLT, Nat.reduceLeDiff, Nat.reduceBEq, reduceIte, reduceCtorEq, Int.reduceToNat, Int.reduceLE, Int.reduceLT, Int.reduceBEq, Int.reduceBNe])
      (refine Cl.tr [some 0] [] rfl rfl (by simp only [go_sem, Nat.reduceAdd, Nat.reduceSub, Nat.reduceMul, Nat.reduceEqDiff, Nat.reduceLT, Nat.reduceLeDiff, Nat.reduceBEq, reduceIte, reduceCtorEq, Int.reduceToNat, Int.reduceLE, Int.reduceLT, Int.reduceBEq, Int.reduceBNe] <;> rfl) ?_; simp only [go_sem, Nat.reduceAdd, Nat.reduceSub, Nat.reduceMul, Nat.reduceEqDiff, Nat.reduceLT, Nat.reduceLeDiff, Nat.reduceBEq, reduceIte, reduceCtorEq, Int.reduceToNat, Int.reduceLE, Int.reduceLT, Int.reduceBEq, Int.reduceBNe])
      refine Cl.here ⟨at_, ⟨o, cs⟩, rfl, rfl, by omega, by omega, ?_, by simp only; omega⟩
      unfold vZ
      rw [if_neg (by simp only; omega), if_pos ho]
      exact hcs

end Go.Proofs.YtaloobgfgehhdaaGreat
