/- Rest: the examples; made works; RestMonotone. -/
import Derived.Test.YtaloobgfgehhdaaGreatR6Rst5
import Derived.Test.YtaloobgfgehhdaaGreatR5Wks
set_option linter.unusedSimpArgs false
set_option linter.unusedVariables false
set_option linter.unusedSectionVars false
namespace Go.Proofs.YtaloobgfgehhdaaGreat
open Go Go.Abs
set_option linter.unusedSimpArgs false
set_option linter.unusedVariables false

theorem mk_sp {ws : List Wk} (h : ws.length ≤ 20) (hg : ∀ w ∈ ws, wkG w) (hd : (flatS ws).Pairwise disj) : spE ws = 0 := by
  refine spE_of (by omega) (fun w hw => by have := (hg w hw).2.1; omega) (fun w hw => ?_) hd ?_
  · obtain ⟨_, _, h3, h4, h5⟩ := hg w hw
    refine ⟨⟨by omega, by omega⟩, fun v hv => ?_⟩
    have := h5 v hv
    unfold ivP
    omega
  · have : ∀ ws : List Wk, (∀ w ∈ ws, wkG w) → sumS (flatS ws) ≤ 960 * ws.length := by
      intro ws
      induction ws with
      | nil => intro _; simp [flatS, sumS]
      | cons w ws ih =>
        intro h
        have h1 := ih fun x hx => h x (List.mem_cons_of_mem _ hx)
        obtain ⟨_, h2, _, _, h5⟩ := h w List.mem_cons_self
        have h3 : sumS (flatW w) ≤ 480 * w.iv.length := by
          unfold flatW
          generalize w.iv = iv at h5
          clear h1 h2
          induction iv with
          | nil => simp [sumS]
          | cons v iv ih2 =>
            have a := ih2 fun x hx => h5 x (List.mem_cons_of_mem _ hx)
            have b := h5 v List.mem_cons_self
            simp only [List.map_cons, sumS, List.length_cons]
            omega
        have h4 : flatS (w :: ws) = flatW w ++ flatS ws := rfl
        rw [h4, sumS_append, List.length_cons]
        omega
    have := this ws hg
    omega

def rx1 : RR := ⟨660, 0, 0, 0⟩
def rx2 : RR := ⟨0, 0, 100, 1⟩
def zx : Zn := ⟨0, []⟩
def wx : List Wk := [⟨4, [⟨6660, 7080⟩]⟩, ⟨5, [⟨7500, 7600⟩]⟩]
theorem wx_ok : spE wx = 0 := by
  refine spE_of (by decide) (by simp [wx]) ?_ (by simp [wx, flatS, flatW, disj]) (by simp [wx, flatS, flatW, sumS])
  intro w hw
  simp only [wx, List.mem_cons, List.not_mem_nil, or_false] at hw
  rcases hw with rfl | rfl
  · exact ⟨by decide, by simp [ivP]⟩
  · exact ⟨by decide, by simp [ivP]⟩
theorem bx_ok : IsBlk wx [⟨4, 6660, 7080⟩, ⟨5, 7500, 7600⟩] := by
  refine ⟨List.Perm.of_eq (by kernel_rfl), ?_⟩
  simp [bLt]
theorem sane1_ok : AFn Tryz.prog 10 [.agg [.int .i64 0, .nils], .agg rx1.c, .pure 2 (els wx), .int .i64 0, .int .i64 10] [] (fun v rs => v = .tup [.own 0 1 0 1, .int .i64 0] ∧ rs = [.live 40 3 (els [Br.mk 1 5 420])]) := by
  refine ((checkD_ok zx rx1 wx 0 10 ⟨by decide, by simp [rrP, rx1], wx_ok, by omega, by omega, by omega, by omega⟩ (by decide) rfl rfl).le (by simp [leL, le, Zn.v, zx, els, RR.c])).mono ?_
  rintro v rs ⟨B, D, hB, hD, rfl, rfl⟩
  obtain rfl := hB.uniq bx_ok
  have h1 : dly rx1.daily 0 10 true 0 [⟨4, 6660, 7080⟩, ⟨5, 7500, 7600⟩] = [⟨1, 5, 420⟩] := by kernel_rfl
  rw [h1] at hD
  obtain rfl := List.perm_singleton.1 hD
  exact ⟨rfl, rfl⟩
theorem sane2_ok : AFn Tryz.prog 10 [.agg [.int .i64 0, .nils], .agg rx2.c, .pure 2 (els wx), .int .i64 4, .int .i64 10] [] (fun v rs => v = .tup [.own 0 1 0 1, .int .i64 0] ∧ rs = [.live 40 3 (els [Br.mk 3 4 520])]) := by
  refine ((checkA_ok zx rx2 wx 4 10 ⟨by decide, by simp [rrP, rx2], wx_ok, by omega, by omega, by omega, by omega⟩ rfl rfl (by decide) rfl).le (by simp [leL, le, Zn.v, zx, els, RR.c])).mono ?_
  rintro v rs ⟨W, hW, rfl, rfl⟩
  have h1 : (avs wx (mds 4 10)).filter (brGt rx2.average) = [⟨3, 4, 520⟩] := by kernel_rfl
  rw [h1] at hW
  subst hW
  exact ⟨rfl, rfl⟩
theorem validRx_ok : AFn Tryz.prog 16 [.agg [.int .i64 0, .int .i64 0, .int .i64 0, .int .i64 1]] [] (fun v rs => v = .int .i64 1 ∧ rs = []) := by
  refine afn Tryz.func16 a16_ok (by simp [a16]) ?_
  have h1 : ¬ ((0 : Int) < 0) := by omega
  have h2 : ((false : Bool) == true) = false := rfl
  simp only [go_sem, Nat.reduceAdd, Nat.reduceSub, Nat.reduceMul, Nat.reduceEqDiff, Nat.reduceLT, Nat.reduceLeDiff, Nat.reduceBEq, reduceIte, reduceCtorEq, Int.reduceToNat, Int.reduceLE, Int.reduceLT, Int.reduceBEq, Int.reduceBNe, a16, a16r0, a16r1, a16r2, a16r3, h1, h2, gt_iff_lt]
  exact Cl.fin rfl ⟨rfl, rfl⟩
theorem saneR_ok : AFn Tryz.prog 11 [] [] (fun v rs => v = .bool true ∧ rs = []) := by
  refine afnW Tryz.func11 a11_ok (by simp [a11]) ?_
  have e1 := sane1_ok
  have e2 := sane2_ok
  unfold rx1 RR.c at e1
  unfold rx2 RR.c at e2
  simp only [go_sem, Nat.reduceAdd, Nat.reduceSub, Nat.reduceMul, Nat.reduceEqDiff, Nat.reduceLT, Nat.reduceLeDiff, Nat.reduceBEq, reduceIte, reduceCtorEq, Int.reduceToNat, Int.reduceLE, Int.reduceLT, Int.reduceBEq, Int.reduceBNe, a11, a11r0, a11r1, a11r2, a11r3, a11r4]
  (refine Cl.here ?_; simp only [go_sem, Nat.reduceAdd, Nat.reduceSub, Nat.reduceMul, Nat.reduceEqDiff, Nat.reduceLT, Nat.reduceLeDiff, Nat.reduceBEq, reduceIte, reduceCtorEq, Int.reduceToNat, Int.reduceLE, Int.reduceLT, Int.reduceBEq, Int.reduceBNe])
  (refine Cl.frz [some 2] [ 0, 1] rfl rfl (by simp only [go_sem, Nat.reduceAdd, Nat.reduceSub, Nat.reduceMul, Nat.reduceEqDiff, Nat.reduceLT, Nat.reduceLeDiff, Nat.reduceBEq, reduceIte, reduceCtorEq, Int.reduceToNat, Int.reduceLE, Int.reduceLT, Int.reduceBEq, Int.reduceBNe] <;> rfl) ?_; simp only [go_sem, Nat.reduceAdd, Nat.reduceSub, Nat.reduceMul, Nat.reduceEqDiff, Nat.reduceLT, Nat.reduceLeDiff, Nat.reduceBEq, reduceIte, reduceCtorEq, Int.reduceToNat, Int.reduceLE, Int.reduceLT, Int.reduceBEq, Int.reduceBNe])
  (refine Cl.frz [] [ 0] rfl rfl (by simp only [go_sem, Nat.reduceAdd, Nat.reduceSub, Nat.reduceMul, Nat.reduceEqDiff, Nat.reduceLT, Nat.reduceLeDiff, Nat.reduceBEq, reduceIte, reduceCtorEq, Int.reduceToNat, Int.reduceLE, Int.reduceLT, Int.reduceBEq, Int.reduceBNe] <;> rfl) ?_; simp only [go_sem, Nat.reduceAdd, Nat.reduceSub, Nat.reduceMul, Nat.reduceEqDiff, Nat.reduceLT, Nat.reduceLeDiff, Nat.reduceBEq, reduceIte, reduceCtorEq, Int.reduceToNat, Int.reduceLE, Int.reduceLT, Int.reduceBEq, Int.reduceBNe])
  simp only [rx1, rx2] at e1 e2
  (refine Cl.here ?_; simp only [go_sem, Nat.reduceAdd, Nat.reduceSub, Nat.reduceMul, Nat.reduceEqDiff, Nat.reduceLT, Nat.reduceLeDiff, Nat.reduceBEq, reduceIte, reduceCtorEq, Int.reduceToNat, Int.reduceLE, Int.reduceLT, Int.reduceBEq, Int.reduceBNe])
  (refine callC_of [] [] (by simp) rfl (bindL_clean _ (by first | rfl | simp only [go_sem, Nat.reduceAdd, Nat.reduceSub, Nat.reduceMul, Nat.reduceEqDiff, Nat.reduceLT, Nat.reduceLeDiff, Nat.reduceBEq, reduceIte, reduceCtorEq, Int.reduceToNat, Int.reduceLE, Int.reduceLT, Int.reduceBEq, Int.reduceBNe])) (e1) ?_; rintro _ _ ⟨rfl, rfl⟩; refine ⟨.inl rfl, ?_⟩; simp only [go_sem, Nat.reduceAdd, Nat.reduceSub, Nat.reduceMul, Nat.reduceEqDiff, Nat.reduceLT, Nat.reduceLeDiff, Nat.reduceBEq, reduceIte, reduceCtorEq, Int.reduceToNat, Int.reduceLE, Int.reduceLT, Int.reduceBEq, Int.reduceBNe])
  (repeat (first | (refine Cl.here ?_; simp only [go_sem, Nat.reduceAdd, Nat.reduceSub, Nat.reduceMul, Nat.reduceEqDiff, Nat.reduceLT, Nat.reduceLeDiff, Nat.reduceBEq, reduceIte, reduceCtorEq, Int.reduceToNat, Int.reduceLE, Int.reduceLT, Int.reduceBEq, Int.reduceBNe]) | simp only [go_sem, Nat.reduceAdd, Nat.reduceSub, Nat.reduceMul, Nat.reduceEqDiff, Nat.reduceLT, Nat.reduceLeDiff, Nat.reduceBEq, reduceIte, reduceCtorEq, Int.reduceToNat, Int.reduceLE, Int.reduceLT, Int.reduceBEq, Int.reduceBNe]))
  (refine callC_of [] [] (by simp) rfl (bindL_clean _ (by first | rfl | simp only [go_sem, Nat.reduceAdd, Nat.reduceSub, Nat.reduceMul, Nat.reduceEqDiff, Nat.reduceLT, Nat.reduceLeDiff, Nat.reduceBEq, reduceIte, reduceCtorEq, Int.reduceToNat, Int.reduceLE, Int.reduceLT, Int.reduceBEq, Int.reduceBNe])) (e2) ?_; rintro _ _ ⟨rfl, rfl⟩; refine ⟨.inl rfl, ?_⟩; simp only [go_sem, Nat.reduceAdd, Nat.reduceSub, Nat.reduceMul, Nat.reduceEqDiff, Nat.reduceLT, Nat.reduceLeDiff, Nat.reduceBEq, reduceIte, reduceCtorEq, Int.reduceToNat, Int.reduceLE, Int.reduceLT, Int.reduceBEq, Int.reduceBNe])
  have hbl : ∀ x : Br, els [x] = [[.int .i64 x.kind, .int .i64 x.day, .int .i64 x.min]] := fun x => rfl
  (repeat (first | (refine Cl.here ?_; simp only [go_sem, Nat.reduceAdd, Nat.reduceSub, Nat.reduceMul, Nat.reduceEqDiff, Nat.reduceLT, Nat.reduceLeDiff, Nat.reduceBEq, reduceIte, reduceCtorEq, Int.reduceToNat, Int.reduceLE, Int.reduceLT, Int.reduceBEq, Int.reduceBNe, hbl, eqCells, bne_self_eq_false, Bool.bne_false]) | simp only [go_sem, Nat.reduceAdd, Nat.reduceSub, Nat.reduceMul, Nat.reduceEqDiff, Nat.reduceLT, Nat.reduceLeDiff, Nat.reduceBEq, reduceIte, reduceCtorEq, Int.reduceToNat, Int.reduceLE, Int.reduceLT, Int.reduceBEq, Int.reduceBNe, hbl, eqCells, bne_self_eq_false, Bool.bne_false]))
  refine callC_det validRx_ok rfl rfl ?_
  (repeat (first | (refine Cl.here ?_; simp only [go_sem, Nat.reduceAdd, Nat.reduceSub, Nat.reduceMul, Nat.reduceEqDiff, Nat.reduceLT, Nat.reduceLeDiff, Nat.reduceBEq, reduceIte, reduceCtorEq, Int.reduceToNat, Int.reduceLE, Int.reduceLT, Int.reduceBEq, Int.reduceBNe]) | simp only [go_sem, Nat.reduceAdd, Nat.reduceSub, Nat.reduceMul, Nat.reduceEqDiff, Nat.reduceLT, Nat.reduceLeDiff, Nat.reduceBEq, reduceIte, reduceCtorEq, Int.reduceToNat, Int.reduceLE, Int.reduceLT, Int.reduceBEq, Int.reduceBNe]))
  exact Cl.fin rfl ⟨rfl, rfl⟩

end Go.Proofs.YtaloobgfgehhdaaGreat
