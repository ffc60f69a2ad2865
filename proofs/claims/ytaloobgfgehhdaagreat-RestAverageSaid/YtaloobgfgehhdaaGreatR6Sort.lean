/- Rest: how blocks, breaches and intervals are compared; sorting them. -/
import Derived.Test.YtaloobgfgehhdaaGreatR5Cmp
set_option linter.unusedSimpArgs false
set_option linter.unusedVariables false
set_option linter.unusedSectionVars false
namespace Go.Proofs.YtaloobgfgehhdaaGreat
open Go Go.Abs
open Go.Sort (SWO)
set_option linter.unusedSimpArgs false
set_option linter.unusedVariables false

structure Bk where
  day : Int
  fr : Int
  to : Int
def Bk.cells (e : Bk) : List AVal := [.int .i64 e.day, .int .i64 e.fr, .int .i64 e.to]
instance : Cel Bk := ⟨Bk.cells, 3, fun _ => rfl, fun _ => rfl, fun _ => rfl⟩
instance : Flt Bk := ⟨fun _ => rfl⟩
theorem cel_bk (e : Bk) : Cel.c e = [.int .i64 e.day, .int .i64 e.fr, .int .i64 e.to] := rfl
theorem cel_bk_sz : Cel.sz Bk = 3 := rfl
theorem cel_bk_take (e : Bk) : List.take 3 (Cel.c e) = Cel.c e := rfl
attribute [go_sem] cel_bk_sz cel_bk_take
theorem Bk.ext' {a b : Bk} (h0 : a.day = b.day) (h1 : a.fr = b.fr) (h2 : a.to = b.to) : a = b := by
  cases a; cases b; simp_all

structure Br where
  kind : Int
  day : Int
  min : Int
def Br.cells (e : Br) : List AVal := [.int .i64 e.kind, .int .i64 e.day, .int .i64 e.min]
instance : Cel Br := ⟨Br.cells, 3, fun _ => rfl, fun _ => rfl, fun _ => rfl⟩
instance : Flt Br := ⟨fun _ => rfl⟩
theorem cel_br (e : Br) : Cel.c e = [.int .i64 e.kind, .int .i64 e.day, .int .i64 e.min] := rfl
theorem cel_br_sz : Cel.sz Br = 3 := rfl
theorem cel_br_take (e : Br) : List.take 3 (Cel.c e) = Cel.c e := rfl
attribute [go_sem] cel_br_sz cel_br_take
theorem Br.ext' {a b : Br} (h0 : a.kind = b.kind) (h1 : a.day = b.day) (h2 : a.min = b.min) : a = b := by
  cases a; cases b; simp_all

theorem bk_snoc {l : List Bk} {a b c : Int} : els l ++ [[.int .i64 a, .int .i64 b, .int .i64 c]] = els (l ++ [⟨a, b, c⟩]) := els_snoc (x := Bk.mk a b c)
theorem br_snoc {l : List Br} {a b c : Int} : els l ++ [[.int .i64 a, .int .i64 b, .int .i64 c]] = els (l ++ [⟨a, b, c⟩]) := els_snoc (x := Br.mk a b c)
instance : Ltl Bk := ⟨fun _ => rfl⟩
instance : Ltl Br := ⟨fun _ => rfl⟩
instance : Ltl Iv := ⟨fun _ => rfl⟩
instance : Inhabited Bk := ⟨⟨0, 0, 0⟩⟩
instance : Inhabited Br := ⟨⟨0, 0, 0⟩⟩
instance : Inhabited Iv := ⟨⟨0, 0⟩⟩
def bLt (a b : Bk) : Prop := a.fr < b.fr ∨ (a.fr = b.fr ∧ a.day < b.day)
def cmpB (a b : Bk) : Int := orL [cmpI a.fr b.fr, cmpI a.day b.day]
theorem cmpB_neg {a b : Bk} : cmpB a b < 0 ↔ bLt a b := by
  unfold cmpB
  simp only [orL_cons_neg, cmpI_neg, cmpI_zero, orL_nil, bLt]
  omega
theorem cmpB_ok (a b : Bk) : AFn Tryz.prog 44 [.agg (Cel.c a), .agg (Cel.c b)] [] (fun v rs => v = .int .i64 (cmpB a b) ∧ rs = []) := by
  refine afn Tryz.func44 a44_ok (by simp [a44]) ?_
  simp only [go_sem, Nat.reduceAdd, Nat.reduceSub, Nat.reduceMul, Nat.reduceEqDiff, Nat.reduceLT, Nat.reduceLeDiff, Nat.reduceBEq, reduceIte, reduceCtorEq, Int.reduceToNat, Int.reduceLE, Int.reduceLT, Int.reduceBEq, Int.reduceBNe, a44, a44r0, a44r1, cel_bk]
  refine callD_det (cmp_ok _ _) rfl rfl ?_
  simp only [go_sem, Nat.reduceAdd, Nat.reduceSub, Nat.reduceMul, Nat.reduceEqDiff, Nat.reduceLT, Nat.reduceLeDiff, Nat.reduceBEq, reduceIte, reduceCtorEq, Int.reduceToNat, Int.reduceLE, Int.reduceLT, Int.reduceBEq, Int.reduceBNe]
  refine callD_det (cmp_ok _ _) rfl rfl ?_
  simp only [go_sem, Nat.reduceAdd, Nat.reduceSub, Nat.reduceMul, Nat.reduceEqDiff, Nat.reduceLT, Nat.reduceLeDiff, Nat.reduceBEq, reduceIte, reduceCtorEq, Int.reduceToNat, Int.reduceLE, Int.reduceLT, Int.reduceBEq, Int.reduceBNe]
  (refine callD_of [2] [] (by simp only [go_sem, Nat.reduceAdd, Nat.reduceSub, Nat.reduceMul, Nat.reduceEqDiff, Nat.reduceLT, Nat.reduceLeDiff, Nat.reduceBEq, reduceIte, reduceCtorEq, Int.reduceToNat, Int.reduceLE, Int.reduceLT, Int.reduceBEq, Int.reduceBNe]) (by decide) (by simp only [go_sem, Nat.reduceAdd, Nat.reduceSub, Nat.reduceMul, Nat.reduceEqDiff, Nat.reduceLT, Nat.reduceLeDiff, Nat.reduceBEq, reduceIte, reduceCtorEq, Int.reduceToNat, Int.reduceLE, Int.reduceLT, Int.reduceBEq, Int.reduceBNe] <;> rfl) (by simp only [go_sem, Nat.reduceAdd, Nat.reduceSub, Nat.reduceMul, Nat.reduceEqDiff, Nat.reduceLT, Nat.reduceLeDiff, Nat.reduceBEq, reduceIte, reduceCtorEq, Int.reduceToNat, Int.reduceLE, Int.reduceLT, Int.reduceBEq, Int.reduceBNe] <;> rfl) (or_ok [cmpI a.fr b.fr, cmpI a.day b.day] (by simp)) ?_; rintro _ _ ⟨rfl, rfl⟩; refine ⟨.inl rfl, ?_⟩; simp only [go_sem, Nat.reduceAdd, Nat.reduceSub, Nat.reduceMul, Nat.reduceEqDiff, Nat.reduceLT, Nat.reduceLeDiff, Nat.reduceBEq, reduceIte, reduceCtorEq, Int.reduceToNat, Int.reduceLE, Int.reduceLT, Int.reduceBEq, Int.reduceBNe])
  exact Cl.fin rfl ⟨rfl, rfl⟩
theorem cmpR_ok (a b : Br) : AFn Tryz.prog 30 [.agg (Cel.c a), .agg (Cel.c b)] [] (fun v rs => v = .int .i64 (cmpI a.day b.day) ∧ rs = []) := by
  refine afn Tryz.func30 a30_ok (by simp [a30]) ?_
  simp only [go_sem, Nat.reduceAdd, Nat.reduceSub, Nat.reduceMul, Nat.reduceEqDiff, Nat.reduceLT, Nat.reduceLeDiff, Nat.reduceBEq, reduceIte, reduceCtorEq, Int.reduceToNat, Int.reduceLE, Int.reduceLT, Int.reduceBEq, Int.reduceBNe, a30, a30r0, a30r1, cel_br]
  refine callC_det (cmp_ok _ _) rfl rfl ?_
  simp only [go_sem, Nat.reduceAdd, Nat.reduceSub, Nat.reduceMul, Nat.reduceEqDiff, Nat.reduceLT, Nat.reduceLeDiff, Nat.reduceBEq, reduceIte, reduceCtorEq, Int.reduceToNat, Int.reduceLE, Int.reduceLT, Int.reduceBEq, Int.reduceBNe]
  exact Cl.fin rfl ⟨rfl, rfl⟩
theorem cmpV_ok (a b : Iv) : AFn Tryz.prog 34 [.agg (Cel.c a), .agg (Cel.c b)] [] (fun v rs => v = .int .i64 (cmpI a.fr b.fr) ∧ rs = []) := by
  refine afn Tryz.func34 a34_ok (by simp [a34]) ?_
  simp only [go_sem, Nat.reduceAdd, Nat.reduceSub, Nat.reduceMul, Nat.reduceEqDiff, Nat.reduceLT, Nat.reduceLeDiff, Nat.reduceBEq, reduceIte, reduceCtorEq, Int.reduceToNat, Int.reduceLE, Int.reduceLT, Int.reduceBEq, Int.reduceBNe, a34, a34r0, a34r1, cel_iv]
  refine callC_det (cmp_ok _ _) rfl rfl ?_
  simp only [go_sem, Nat.reduceAdd, Nat.reduceSub, Nat.reduceMul, Nat.reduceEqDiff, Nat.reduceLT, Nat.reduceLeDiff, Nat.reduceBEq, reduceIte, reduceCtorEq, Int.reduceToNat, Int.reduceLE, Int.reduceLT, Int.reduceBEq, Int.reduceBNe]
  exact Cl.fin rfl ⟨rfl, rfl⟩
theorem swoB : SWO (ltOf cmpB) := swo_of (fun a b => cmpB_neg) (fun a => by unfold bLt; omega) (fun a b c => by unfold bLt; omega) (fun a b c => by unfold bLt; omega)
theorem swoR : SWO (ltOf fun a b : Br => cmpI a.day b.day) := swo_of (R := fun a b => a.day < b.day) (fun a b => cmpI_neg) (fun a => by omega) (fun a b c => by omega) (fun a b c => by omega)
theorem swoV : SWO (ltOf fun a b : Iv => cmpI a.fr b.fr) := swo_of (R := fun a b => a.fr < b.fr) (fun a b => cmpI_neg) (fun a => by omega) (fun a b c => by omega) (fun a b c => by omega)
theorem sortB_ok (l : List Bk) (hl : l.length < 4611686018427387904) : AFn Tryz.prog 43 [.own 0 l.length 0 l.length, .fn 44 []] [.live 85 3 (els l)]
    (fun v rs => v = .tup [] ∧ ∃ l' : List Bk, l'.Perm l ∧ l'.Pairwise (fun x y => ¬ bLt y x) ∧ rs = [.live 85 3 (els l')]) := by
  refine (AFn.sortFunc (α := Bk) (T := 85) laysBk rfl Tryz.isAgg85 Tryz.sizeOf85 cmpB swoB cmpB_ok (enters_of Tryz.func44 (by kernel_rfl) rfl) l hl).mono ?_
  rintro v rs ⟨rfl, l', h1, h2, rfl⟩
  exact ⟨rfl, l', h1, h2.imp fun {x y} h e => h (cmpB_neg.2 e), rfl⟩
theorem sortR_ok (l : List Br) (hl : l.length < 4611686018427387904) : AFn Tryz.prog 29 [.own 0 l.length 0 l.length, .fn 30 []] [.live 40 3 (els l)]
    (fun v rs => v = .tup [] ∧ ∃ l' : List Br, l'.Perm l ∧ rs = [.live 40 3 (els l')]) := by
  refine (AFn.sortFunc (α := Br) (T := 40) laysBr rfl Tryz.isAgg40 Tryz.sizeOf40 (fun a b => cmpI a.day b.day) swoR cmpR_ok (enters_of Tryz.func30 (by kernel_rfl) rfl) l hl).mono ?_
  rintro v rs ⟨rfl, l', h1, h2, rfl⟩
  exact ⟨rfl, l', h1, rfl⟩
theorem sortV_ok (l : List Iv) (hl : l.length < 4611686018427387904) : AFn Tryz.prog 33 [.own 0 l.length 0 l.length, .fn 34 []] [.live 53 2 (els l)]
    (fun v rs => v = .tup [] ∧ ∃ l' : List Iv, l'.Perm l ∧ l'.Pairwise (fun x y => x.fr ≤ y.fr) ∧ rs = [.live 53 2 (els l')]) := by
  refine (AFn.sortFunc (α := Iv) (T := 53) laysIv rfl Tryz.isAgg53 Tryz.sizeOf53 (fun a b => cmpI a.fr b.fr) swoV cmpV_ok (enters_of Tryz.func34 (by kernel_rfl) rfl) l hl).mono ?_
  rintro v rs ⟨rfl, l', h1, h2, rfl⟩
  exact ⟨rfl, l', h1, h2.imp fun {x y} h => by rw [cmpI_neg] at h; omega, rfl⟩

end Go.Proofs.YtaloobgfgehhdaaGreat
