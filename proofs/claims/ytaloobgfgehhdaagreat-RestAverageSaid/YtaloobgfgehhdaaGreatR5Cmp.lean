/- How events, keys, stamps and spans are compared; sorting them. -/
import Derived.Test.YtaloobgfgehhdaaGreatR5Lay
set_option linter.unusedSimpArgs false
set_option linter.unusedVariables false
set_option linter.unusedSectionVars false
namespace Go.Proofs.YtaloobgfgehhdaaGreat
open Go Go.Abs
open Go.Sort (SWO)
set_option linter.unusedSimpArgs false

def cmpI (a b : Int) : Int := if a < b then -1 else if b < a then 1 else 0
def orL : List Int → Int
  | [] => 0
  | x :: xs => if x = 0 then orL xs else x

theorem isNaN_ok (a : Int) : AFn Tryz.prog 48 [.int .i64 a] [] (fun v rs => v = .bool false ∧ rs = []) := by
  refine afn Tryz.func48 a48_ok (by simp [a48]) ?_
  simp only [go_sem, Nat.reduceAdd, Nat.reduceSub, Nat.reduceMul, Nat.reduceEqDiff, Nat.reduceLT, Nat.reduceLeDiff, Nat.reduceBEq, reduceIte, reduceCtorEq, Int.reduceToNat, Int.reduceLE, Int.reduceLT, Int.reduceBEq, Int.reduceBNe, a48, a48r0, a48r1, bne_self_eq_false]
  exact Cl.fin rfl ⟨rfl, rfl⟩
theorem cmp_ok (a b : Int) : AFn Tryz.prog 31 [.int .i64 a, .int .i64 b] [] (fun v rs => v = .int .i64 (cmpI a b) ∧ rs = []) := by
  refine afn Tryz.func31 a31_ok (by simp [a31]) ?_
  simp only [go_sem, Nat.reduceAdd, Nat.reduceSub, Nat.reduceMul, Nat.reduceEqDiff, Nat.reduceLT, Nat.reduceLeDiff, Nat.reduceBEq, reduceIte, reduceCtorEq, Int.reduceToNat, Int.reduceLE, Int.reduceLT, Int.reduceBEq, Int.reduceBNe, a31, a31r0, a31r1, a31r2, a31r3, a31r4, a31r5, a31r6, a31r7, a31r8, a31r9, a31r10, a31r11, a31r12, a31r13]
  refine callC_det (isNaN_ok a) rfl rfl ?_
  simp only [go_sem, Nat.reduceAdd, Nat.reduceSub, Nat.reduceMul, Nat.reduceEqDiff, Nat.reduceLT, Nat.reduceLeDiff, Nat.reduceBEq, reduceIte, reduceCtorEq, Int.reduceToNat, Int.reduceLE, Int.reduceLT, Int.reduceBEq, Int.reduceBNe]
  refine callC_det (isNaN_ok b) rfl rfl ?_
  simp only [go_sem, Nat.reduceAdd, Nat.reduceSub, Nat.reduceMul, Nat.reduceEqDiff, Nat.reduceLT, Nat.reduceLeDiff, Nat.reduceBEq, reduceIte, reduceCtorEq, Int.reduceToNat, Int.reduceLE, Int.reduceLT, Int.reduceBEq, Int.reduceBNe]
  repeat' (first | (refine grdC_intro ?_ ?_ <;> intro hg <;> (have hp := hg; try simp only [decide_eq_true_eq, decide_eq_false_iff_not, beq_iff_eq, beq_eq_false_iff_ne, bne_iff_ne, bne_eq_false_iff_eq, Bool.not_eq_true', Bool.not_eq_false', Int.not_lt, Int.not_le, ne_eq, Bool.and_eq_true, Bool.or_eq_true, Bool.or_eq_false_iff, Bool.and_eq_false_iff] at hp) <;> (first | omega | (simp only [go_sem, Nat.reduceAdd, Nat.reduceSub, Nat.reduceMul, Nat.reduceEqDiff, Nat.reduceLT, Nat.reduceLeDiff, Nat.reduceBEq, reduceIte, reduceCtorEq, Int.reduceToNat, Int.reduceLE, Int.reduceLT, Int.reduceBEq, Int.reduceBNe, hg, a31, a31r0, a31r1, a31r2, a31r3, a31r4, a31r5, a31r6, a31r7, a31r8, a31r9, a31r10, a31r11, a31r12, a31r13]; clear hg))) | (refine grdD_intro ?_ ?_ <;> intro hg <;> (have hp := hg; try simp only [decide_eq_true_eq, decide_eq_false_iff_not, beq_iff_eq, beq_eq_false_iff_ne, bne_iff_ne, bne_eq_false_iff_eq, Bool.not_eq_true', Bool.not_eq_false', Int.not_lt, Int.not_le, ne_eq, Bool.and_eq_true, Bool.or_eq_true, Bool.or_eq_false_iff, Bool.and_eq_false_iff] at hp) <;> (first | omega | (simp only [go_sem, Nat.reduceAdd, Nat.reduceSub, Nat.reduceMul, Nat.reduceEqDiff, Nat.reduceLT, Nat.reduceLeDiff, Nat.reduceBEq, reduceIte, reduceCtorEq, Int.reduceToNat, Int.reduceLE, Int.reduceLT, Int.reduceBEq, Int.reduceBNe, hg, a31, a31r0, a31r1, a31r2, a31r3, a31r4, a31r5, a31r6, a31r7, a31r8, a31r9, a31r10, a31r11, a31r12, a31r13]; clear hg))) | (refine condC_intro ?_ ?_ <;> intro hg <;> (have hp := hg; try simp only [decide_eq_true_eq, decide_eq_false_iff_not, beq_iff_eq, beq_eq_false_iff_ne, bne_iff_ne, bne_eq_false_iff_eq, Bool.not_eq_true', Bool.not_eq_false', Int.not_lt, Int.not_le, ne_eq, Bool.and_eq_true, Bool.or_eq_true, Bool.or_eq_false_iff, Bool.and_eq_false_iff] at hp) <;> (first | omega | (simp only [go_sem, Nat.reduceAdd, Nat.reduceSub, Nat.reduceMul, Nat.reduceEqDiff, Nat.reduceLT, Nat.reduceLeDiff, Nat.reduceBEq, reduceIte, reduceCtorEq, Int.reduceToNat, Int.reduceLE, Int.reduceLT, Int.reduceBEq, Int.reduceBNe, hg, a31, a31r0, a31r1, a31r2, a31r3, a31r4, a31r5, a31r6, a31r7, a31r8, a31r9, a31r10, a31r11, a31r12, a31r13]; clear hg))) | (refine condW_intro ?_ ?_ <;> intro hg <;> (have hp := hg; try simp only [decide_eq_true_eq, decide_eq_false_iff_not, beq_iff_eq, beq_eq_false_iff_ne, bne_iff_ne, bne_eq_false_iff_eq, Bool.not_eq_true', Bool.not_eq_false', Int.not_lt, Int.not_le, ne_eq, Bool.and_eq_true, Bool.or_eq_true, Bool.or_eq_false_iff, Bool.and_eq_false_iff] at hp) <;> (first | omega | (simp only [go_sem, Nat.reduceAdd, Nat.reduceSub, Nat.reduceMul, Nat.reduceEqDiff, Nat.reduceLT, Nat.reduceLeDiff, Nat.reduceBEq, reduceIte, reduceCtorEq, Int.reduceToNat, Int.reduceLE, Int.reduceLT, Int.reduceBEq, Int.reduceBNe, hg, a31, a31r0, a31r1, a31r2, a31r3, a31r4, a31r5, a31r6, a31r7, a31r8, a31r9, a31r10, a31r11, a31r12, a31r13]; clear hg))))
  · exact Cl.fin rfl ⟨by rw [cmpI, if_pos hp], rfl⟩
  · refine Cl.fin rfl ⟨?_, rfl⟩
    rw [cmpI, if_neg (by omega), if_pos (by omega)]
  · refine Cl.fin rfl ⟨?_, rfl⟩
    rw [cmpI, if_neg (by omega), if_neg (by omega)]

theorem orL_drop {xs : List Int} {i : Nat} (h : i < xs.length) : orL (xs.drop i) = if xs[i] = 0 then orL (xs.drop (i + 1)) else xs[i] := by
  rw [List.drop_eq_getElem_cons h, orL]
theorem or_ok (xs : List Int) (hx : xs.length ≤ 1000) : AFn Tryz.prog 45 [.own 0 xs.length 0 xs.length] [.live 3 1 (numsE .i64 xs)] (fun v rs => v = .int .i64 (orL xs) ∧ rs = [.live 3 1 (numsE .i64 xs)]) := by
  refine afn Tryz.func45 a45_ok (by simp [a45]) ?_
  simp only [go_sem, Nat.reduceAdd, Nat.reduceSub, Nat.reduceMul, Nat.reduceEqDiff, Nat.reduceLT, Nat.reduceLeDiff, Nat.reduceBEq, reduceIte, reduceCtorEq, Int.reduceToNat, Int.reduceLE, Int.reduceLT, Int.reduceBEq, Int.reduceBNe, a45, a45r0, a45r1, a45r2, a45r3, a45r4, a45r5, a45r6, a45r7, a45r8]
  refine avc_loop (fun env rows => ∃ i : Nat, i ≤ xs.length ∧ orL xs = orL (xs.drop i) ∧ env = [(3, .int .i64 0), (6, .own 0 xs.length 0 xs.length), (7, .int .i64 xs.length), (8, .int .i64 i)] ∧ rows = [.live 3 1 (numsE .i64 xs)])
    (fun env _ => match slot env 8 with | .int _ j => (xs.length - j).toNat | _ => 0) ?_ ?_
  · exact Cl.here ⟨0, by omega, rfl, rfl, rfl⟩
  · rintro env rows ⟨i, hi, hor, rfl, rfl⟩
    have hw : IntKind.i64.wrap ((i : Int) + 1) = ((i + 1 : Nat) : Int) := by rw [wrap_i64 (by omega) (by omega)]; omega
    simp only [go_sem, Nat.reduceAdd, Nat.reduceSub, Nat.reduceMul, Nat.reduceEqDiff, Nat.reduceLT, Nat.reduceLeDiff, Nat.reduceBEq, reduceIte, reduceCtorEq, Int.reduceToNat, Int.reduceLE, Int.reduceLT, Int.reduceBEq, Int.reduceBNe, a45, a45r0, a45r1, a45r2, a45r3, a45r4, a45r5, a45r6, a45r7, a45r8]
    refine condC_intro ?_ ?_ <;> intro hg2 <;> simp only [decide_eq_true_eq, decide_eq_false_iff_not, beq_iff_eq, beq_eq_false_iff_ne, bne_iff_ne, bne_eq_false_iff_eq, Bool.not_eq_true', Bool.not_eq_false', Int.not_lt, Int.not_le, ne_eq, Bool.and_eq_true, Bool.or_eq_true, Bool.or_eq_false_iff, Bool.and_eq_false_iff] at hg2 <;> simp only [go_sem, Nat.reduceAdd, Nat.reduceSub, Nat.reduceMul, Nat.reduceEqDiff, Nat.reduceLT, Nat.reduceLeDiff, Nat.reduceBEq, reduceIte, reduceCtorEq, Int.reduceToNat, Int.reduceLE, Int.reduceLT, Int.reduceBEq, Int.reduceBNe, a45, a45r0, a45r1, a45r2, a45r3, a45r4, a45r5, a45r6, a45r7, a45r8]
    · have hlt : i < xs.length := by omega
      have hget : (numsE .i64 xs).getD i [] = [.int .i64 xs[i]] := by rw [numsE_getD hlt, List.getD_eq_getElem?_getD, List.getElem?_eq_getElem hlt, Option.getD_some]
      rw [orL_drop hlt] at hor
      refine ⟨by omega, by omega, ?_⟩
      simp only [Int.toNat_natCast, hget]
      simp only [go_sem, Nat.reduceAdd, Nat.reduceSub, Nat.reduceMul, Nat.reduceEqDiff, Nat.reduceLT, Nat.reduceLeDiff, Nat.reduceBEq, reduceIte, reduceCtorEq, Int.reduceToNat, Int.reduceLE, Int.reduceLT, Int.reduceBEq, Int.reduceBNe]
      refine condC_intro ?_ ?_ <;> intro hg3 <;> simp only [decide_eq_true_eq, decide_eq_false_iff_not, beq_iff_eq, beq_eq_false_iff_ne, bne_iff_ne, bne_eq_false_iff_eq, Bool.not_eq_true', Bool.not_eq_false', Int.not_lt, Int.not_le, ne_eq, Bool.and_eq_true, Bool.or_eq_true, Bool.or_eq_false_iff, Bool.and_eq_false_iff] at hg3 <;> simp only [go_sem, Nat.reduceAdd, Nat.reduceSub, Nat.reduceMul, Nat.reduceEqDiff, Nat.reduceLT, Nat.reduceLeDiff, Nat.reduceBEq, reduceIte, reduceCtorEq, Int.reduceToNat, Int.reduceLE, Int.reduceLT, Int.reduceBEq, Int.reduceBNe, a45, a45r0, a45r1, a45r2, a45r3, a45r4, a45r5, a45r6, a45r7, a45r8, hw]
      · exact Cl.here ⟨by rw [hor, if_neg hg3]; rfl, rfl⟩
      · rw [if_pos hg3] at hor
        refine Cl.here ⟨⟨i + 1, by omega, hor, rfl, rfl⟩, ?_⟩
        simp only [go_sem, Nat.reduceAdd, Nat.reduceSub, Nat.reduceMul, Nat.reduceEqDiff, Nat.reduceLT, Nat.reduceLeDiff, Nat.reduceBEq, reduceIte, reduceCtorEq, Int.reduceToNat, Int.reduceLE, Int.reduceLT, Int.reduceBEq, Int.reduceBNe]
        omega
    · obtain rfl : i = xs.length := by omega
      rw [List.drop_length] at hor
      exact Cl.here ⟨by rw [hor]; rfl, rfl⟩

def cmpK (a b : Ky) : Int := orL [cmpI a.t b.t, cmpI a.s b.s]
def cmpE (a b : Ev) : Int := orL [cmpK ⟨a.kt, a.ks⟩ ⟨b.kt, b.ks⟩, cmpI a.emp b.emp, cmpI a.time b.time, cmpI a.kind b.kind, cmpK ⟨a.tt, a.ts⟩ ⟨b.tt, b.ts⟩]
def cmpS (a b : Stamp) : Int := orL [cmpI a.time b.time, cmpK ⟨a.kt, a.ks⟩ ⟨b.kt, b.ks⟩]

theorem cmpP_ok (a b : Spn) : AFn Tryz.prog 41 [.agg (Cel.c a), .agg (Cel.c b)] [] (fun v rs => v = .int .i64 (cmpI a.fr b.fr) ∧ rs = []) := by
  refine afn Tryz.func41 a41_ok (by simp [a41]) ?_
  simp only [go_sem, Nat.reduceAdd, Nat.reduceSub, Nat.reduceMul, Nat.reduceEqDiff, Nat.reduceLT, Nat.reduceLeDiff, Nat.reduceBEq, reduceIte, reduceCtorEq, Int.reduceToNat, Int.reduceLE, Int.reduceLT, Int.reduceBEq, Int.reduceBNe, a41, a41r0, a41r1, cel_spn]
  refine callC_det (cmp_ok _ _) rfl rfl ?_
  simp only [go_sem, Nat.reduceAdd, Nat.reduceSub, Nat.reduceMul, Nat.reduceEqDiff, Nat.reduceLT, Nat.reduceLeDiff, Nat.reduceBEq, reduceIte, reduceCtorEq, Int.reduceToNat, Int.reduceLE, Int.reduceLT, Int.reduceBEq, Int.reduceBNe]
  exact Cl.fin rfl ⟨rfl, rfl⟩

theorem cmpI_neg {a b : Int} : cmpI a b < 0 ↔ a < b := by
  unfold cmpI; split
  · simp_all
  · split <;> simp_all
theorem cmpI_zero {a b : Int} : cmpI a b = 0 ↔ a = b := by
  unfold cmpI; split
  · simp; omega
  · split
    · simp; omega
    · simp; omega
theorem cmpK_neg {a b : Ky} : cmpK a b < 0 ↔ a.t < b.t ∨ (a.t = b.t ∧ a.s < b.s) := by
  unfold cmpK
  simp only [orL]
  by_cases h : cmpI a.t b.t = 0
  · rw [if_pos h]
    have := cmpI_zero.1 h
    by_cases h2 : cmpI a.s b.s = 0
    · rw [if_pos h2]; have := cmpI_zero.1 h2; omega
    · rw [if_neg h2, cmpI_neg]; omega
  · rw [if_neg h, cmpI_neg]
    have : ¬ a.t = b.t := fun e => h (cmpI_zero.2 e)
    omega
theorem cmpK_zero {a b : Ky} : cmpK a b = 0 ↔ a.t = b.t ∧ a.s = b.s := by
  unfold cmpK
  simp only [orL]
  by_cases h : cmpI a.t b.t = 0
  · rw [if_pos h]
    have := cmpI_zero.1 h
    by_cases h2 : cmpI a.s b.s = 0
    · rw [if_pos h2]; have := cmpI_zero.1 h2; simp; omega
    · rw [if_neg h2]
      have : ¬ a.s = b.s := fun e => h2 (cmpI_zero.2 e)
      simp only [h2, false_iff]; omega
  · rw [if_neg h]
    have : ¬ a.t = b.t := fun e => h (cmpI_zero.2 e)
    simp only [h, false_iff]; omega
/-- a before b -/
def kLt (a b : Ky) : Prop := a.t < b.t ∨ (a.t = b.t ∧ a.s < b.s)
def eLt (a b : Ev) : Prop := a.kt < b.kt ∨ (a.kt = b.kt ∧ (a.ks < b.ks ∨ (a.ks = b.ks ∧ (a.emp < b.emp ∨ (a.emp = b.emp ∧ (a.time < b.time ∨ (a.time = b.time ∧ (a.kind < b.kind ∨ (a.kind = b.kind ∧ (a.tt < b.tt ∨ (a.tt = b.tt ∧ a.ts < b.ts)))))))))))
def sLt (a b : Stamp) : Prop := a.time < b.time ∨ (a.time = b.time ∧ (a.kt < b.kt ∨ (a.kt = b.kt ∧ a.ks < b.ks)))
theorem orL_nil : orL [] = 0 := rfl
theorem orL_cons_neg {x : Int} {xs : List Int} : orL (x :: xs) < 0 ↔ x < 0 ∨ (x = 0 ∧ orL xs < 0) := by
  rw [orL]; split <;> omega
theorem cmpE_neg {a b : Ev} : cmpE a b < 0 ↔ eLt a b := by
  unfold cmpE
  simp only [orL_cons_neg, cmpK_neg, cmpK_zero, cmpI_neg, cmpI_zero, orL_nil, eLt]
  omega
theorem cmpS_neg {a b : Stamp} : cmpS a b < 0 ↔ sLt a b := by
  unfold cmpS
  simp only [orL_cons_neg, cmpK_neg, cmpK_zero, cmpI_neg, cmpI_zero, orL_nil, sLt]
  omega
theorem swo_of {α : Type} {cf : α → α → Int} {R : α → α → Prop} (h : ∀ a b, cf a b < 0 ↔ R a b) (h1 : ∀ a, ¬ R a a) (h2 : ∀ a b c, R a b → R b c → R a c) (h3 : ∀ a b c, ¬ R a b → ¬ R b c → ¬ R a c) : SWO (ltOf cf) := by
  refine ⟨fun a => ?_, fun a b c => ?_, fun a b c => ?_⟩
  · simp only [ltOf, decide_eq_false_iff_not, h]; exact h1 a
  · simp only [ltOf, decide_eq_true_eq, h]; exact h2 a b c
  · simp only [ltOf, decide_eq_false_iff_not, h]; exact h3 a b c
theorem swoE : SWO (ltOf cmpE) := swo_of (fun a b => cmpE_neg) (fun a => by unfold eLt; omega) (fun a b c => by unfold eLt; omega) (fun a b c => by unfold eLt; omega)
theorem swoS : SWO (ltOf cmpS) := swo_of (fun a b => cmpS_neg) (fun a => by unfold sLt; omega) (fun a b c => by unfold sLt; omega) (fun a b c => by unfold sLt; omega)
theorem swoP : SWO (ltOf fun a b : Spn => cmpI a.fr b.fr) := swo_of (R := fun a b => a.fr < b.fr) (fun a b => cmpI_neg) (fun a => by omega) (fun a b c => by omega) (fun a b c => by omega)

instance : Ltl Ev := ⟨fun _ => rfl⟩
instance : Ltl Stamp := ⟨fun _ => rfl⟩
instance : Ltl Spn := ⟨fun _ => rfl⟩
instance : Inhabited Ev := ⟨⟨0, 0, 0, 0, 0, 0, 0⟩⟩
instance : Inhabited Stamp := ⟨⟨0, 0, 0, 0⟩⟩
instance : Inhabited Spn := ⟨⟨0, 0, 0⟩⟩

theorem sortP_ok (l : List Spn) (hl : l.length < 4611686018427387904) : AFn Tryz.prog 40 [.own 0 l.length 0 l.length, .fn 41 []] [.live 76 3 (els l)]
    (fun v rs => v = .tup [] ∧ ∃ l' : List Spn, l'.Perm l ∧ l'.Pairwise (fun x y => x.fr ≤ y.fr) ∧ rs = [.live 76 3 (els l')]) := by
  refine (AFn.sortFunc (α := Spn) (T := 76) laysSp rfl Tryz.isAgg76 Tryz.sizeOf76 (fun a b => cmpI a.fr b.fr) swoP cmpP_ok (enters_of Tryz.func41 (by kernel_rfl) rfl) l hl).mono ?_
  rintro v rs ⟨rfl, l', h1, h2, rfl⟩
  exact ⟨rfl, l', h1, h2.imp fun {x y} h => by rw [cmpI_neg] at h; omega, rfl⟩

end Go.Proofs.YtaloobgfgehhdaaGreat
