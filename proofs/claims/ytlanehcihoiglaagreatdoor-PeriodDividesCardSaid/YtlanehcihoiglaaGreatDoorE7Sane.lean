/- Periods: the division of amounts; the examples of the chapter; made calendars and days. -/
import Derived.Test.YtlanehcihoiglaaGreatDoorE7Wts
import Derived.Test.YtlanehcihoiglaaGreatDoorE3THol
set_option linter.unusedSimpArgs false
set_option linter.unusedVariables false
set_option linter.unusedSectionVars false
namespace Go.Proofs.YtlanehcihoiglaaGreatDoor
open Go Go.Abs
set_option linter.unusedSimpArgs false
set_option linter.unusedVariables false

def divQ (t : Int) (ws : List Int) (v : AVal) (rs : List Row) : Prop :=
  (ws.sum = 0 ∧ v = .tup [.nils, .int .i64 5] ∧ rs = []) ∨ (0 < ws.sum ∧ ∃ S : List Int, S.Perm (idxL ws.length) ∧ S.Pairwise (lx (restL t ws.sum ws)) ∧ v = .tup [.own 0 ws.length 0 ws.length, .int .i64 0] ∧ rs = [.live 3 1 (numsE .i64 (incs (partL t ws.sum ws) (S.take (missL t ws.sum ws).toNat)))])
theorem wL_bd {k a n : Int} {cs : List Int} {m : Int} {hs : List Hol} (h : wE k a n cs m hs = 0) : (∀ w ∈ wL k a n cs m hs, 0 ≤ w ∧ w ≤ 60) ∧ 0 < (wL k a n cs m hs).length ∧ (wL k a n cs m hs).length = cs.length + 1 := by
  unfold wE at h
  split at h
  · rename_i hc; exact absurd h hc
  split at h
  · cases h
  split at h
  · cases h
  split at h
  · cases h
  rename_i h1 h2 h3 h4
  have h1' : calE k a = 0 := Classical.not_not.1 h1
  have h2' := Classical.not_not.1 h2
  obtain ⟨b0, b1, b2, b3⟩ := sp_bd h1' h2'
  unfold wL
  obtain ⟨L, hL⟩ := Option.ne_none_iff_exists'.1 h4
  rw [hL, Option.getD_some]
  obtain ⟨p1, p2, p3⟩ := parts_in b1 hL
  refine ⟨fun w hw => ?_, by rw [List.length_map]; exact p3, ?_⟩
  · obtain ⟨p, hp, rfl⟩ := List.mem_map.1 hw
    exact wtP_bd h b0 (p1 p hp) b2 b3
  · rw [List.length_map]
    clear p1 p2 p3 h h4 b0 b1 b2 b3
    generalize (spP k a n).2 = to at hL
    generalize (spP k a n).1 = f at hL
    induction cs generalizing f L with
    | nil => simp only [partsO, Option.some.injEq] at hL; subst hL; rfl
    | cons c cs ih =>
      rw [partsO] at hL
      split at hL
      · cases hL
      · rw [Option.map_eq_some_iff] at hL
        obtain ⟨L', h1, rfl⟩ := hL
        rw [List.length_cons, ih _ _ h1, List.length_cons]
theorem Divide_ok (t k a n : Int) (cs : List Int) (m : Int) (hs : List Hol) (ht : 0 ≤ t) (ht1 : t ≤ 1000000000) (hn : -9223372036854775808 ≤ n) (hn2 : n ≤ 9223372036854775807) (hcl : cs.length ≤ 18) (hl : hs.length ≤ 9223372036854775806) (he : wE k a n cs m hs = 0) :
    AFn Tryz.prog 26 [.int .i64 t, .agg [.int .i64 k, .int .i64 a], .int .i64 n, .pure 1 (numsE .i64 cs), .int .i64 m, .pure 6 (els hs)] [] (divQ t (wL k a n cs m hs)) := by
  refine afnW Tryz.func26 a26_ok (by simp [a26]) ?_
  obtain ⟨w1, w2, w3⟩ := wL_bd he
  simp only [go_sem,a26,a26r0,a26r1,a26r2,a26r3,a26r4]
  (repeat (first | (refine Cl.here ?_; simp only [go_sem]) | simp only [go_sem]))
  refine callC_of [] [] (by simp) rfl (bindL_clean _ (by first | rfl | simp only [go_sem])) (Weights_ok k a n cs m hs hn hn2 (by omega) hl) ?_
  rintro _ _ (⟨h, _⟩ | ⟨_, rfl, rfl⟩)
  · exact absurd he h
  refine ⟨.inl rfl, ?_⟩
  generalize wL k a n cs m hs = W at *
  simp only [go_sem]
  (refine Cl.frz [] [ 1] rfl rfl (by simp only [go_sem] <;> rfl) ?_; simp only [go_sem])
  (repeat (first | (refine Cl.here ?_; simp only [go_sem,bne_self_eq_false]) | simp only [go_sem,bne_self_eq_false]))
  refine callC_of [] [] (by simp) rfl (bindL_clean _ (by first | rfl | simp only [go_sem])) (allocate_ok t W w2 (by omega) ht ht1 (fun w hw => by have := w1 w hw; omega)) ?_
  rintro _ _ (⟨h, rfl, rfl⟩ | ⟨h, S, hS, hSp, rfl, rfl⟩)
  · refine ⟨.inl rfl, ?_⟩
    (repeat (first | (refine Cl.here ?_; simp only [go_sem]) | simp only [go_sem]))
    exact Cl.here (.inl ⟨h, rfl, rfl⟩)
  · refine ⟨.inl rfl, ?_⟩
    (repeat (first | (refine Cl.here ?_; simp only [go_sem]) | simp only [go_sem]))
    exact Cl.here (.inr ⟨h, S, hS, hSp, rfl, rfl⟩)

theorem lx_uniq {R S T : List Int} (h : S.Perm T) (hS : S.Pairwise (lx R)) (hT : T.Pairwise (lx R)) : S = T :=
  List.Perm.eq_of_pairwise (fun a b _ _ h1 h2 => (lx_asymm h1 h2).elim) hS hT h

theorem tdayB_ok (l : List Int) (hl : TapeOk l) : TapeFn Tryz.prog 44 7 [] l (fun v => ∃ x : Int, v = .int .i64 x ∧ okD x) := by
  intro at_ h0 h1
  refine afn Tryz.func7 a7_ok (by simp [a7]) ?_
  simp only [go_sem,a7,a7r0,a7r1]
  (refine callC_tape (next_ok l hl 40 (by omega)) rfl rfl (by omega) (by omega) ?_; rintro _ at_ _ _ ⟨ x1,rfl,_,_⟩; simp only [go_sem])
  (refine callC_tape (next_ok l hl 730 (by omega)) rfl rfl (by omega) (by omega) ?_; rintro _ at_ _ _ ⟨ x2,rfl,_,_⟩; simp only [go_sem])
  (refine callC_tape (next_ok l hl 3 (by omega)) rfl rfl (by omega) (by omega) ?_; rintro _ at_ _ _ ⟨ x3,rfl,_,_⟩; simp only [go_sem])
  (refine callC_tape (next_ok l hl 84006 (by omega)) rfl rfl (by omega) (by omega) ?_; rintro _ at_ _ _ ⟨ x4,rfl,_,_⟩; simp only [go_sem])
  rw [wrap_i64 (x := 20454 + x1) (by omega) (by omega), wrap_i64 (x := 20454 + x2) (by omega) (by omega), wrap_i64 (x := 20485 + x3) (by omega) (by omega), wrap_i64 (x := 20485 + x3 - 1) (by omega) (by omega)]
  (refine callC_pick [20454 + x1,20454 + x2,20485 + x3 - 1,x4,0,84005] (pick_ok l hl _ (by simp) (by simp)) rfl rfl rfl rfl rfl (by decide) (by omega) (by omega) ?_; rintro _ at_ _ _ ⟨x,hmem,rfl⟩; simp only [List.mem_cons,List.not_mem_nil,or_false] at hmem; simp only [go_sem])
  exact Cl.tape rfl (by omega) (by omega) ⟨x, rfl, by omega, by omega⟩
theorem tcal_ok (l : List Int) (hl : TapeOk l) (wild : Bool) : TapeFn Tryz.prog 44 5 [.bool wild] l (fun v => ∃ k a : Int, v = .agg [.int .i64 k, .int .i64 a] ∧ (wild = false → calE k a = 0)) := by
  intro at_ h0 h1
  refine afn Tryz.func5 a5_ok (by simp [a5]) ?_
  simp only [go_sem,a5,a5r0,a5r1,a5r2,a5r3,a5r4,a5r5,a5r6,a5r7,a5r8,a5r9]
  (refine callC_tape (next_ok l hl 4 (by omega)) rfl rfl (by omega) (by omega) ?_; rintro _ at_ _ _ ⟨ k,rfl,_,_⟩; simp only [go_sem])
  have hend : ∀ (k a at_ : Int) (rows : List Row), 0 ≤ at_ → at_ ≤ l.length → (wild = false → calE k a = 0) → True := fun _ _ _ _ _ _ _ => trivial
  clear hend
  by_cases k2 : k = 2
  · subst k2
    simp only [go_sem]
    (refine callC_tape (next_ok l hl 14 (by omega)) rfl rfl (by omega) (by omega) ?_; rintro _ at_ _ _ ⟨ x,rfl,_,_⟩; simp only [go_sem])
    have hc : calE 2 x = 0 := by unfold calE; rw [if_neg (by omega), if_pos rfl, if_pos (by omega)]
    cases wild
    · simp only [go_sem,a5,a5r0,a5r1,a5r2,a5r3,a5r4,a5r5,a5r6,a5r7,a5r8,a5r9]
      exact Cl.tape rfl (by omega) (by omega) ⟨2, x, rfl, fun _ => hc⟩
    · simp only [go_sem,a5,a5r0,a5r1,a5r2,a5r3,a5r4,a5r5,a5r6,a5r7,a5r8,a5r9]
      (refine callC_tape (next_ok l hl 8 (by omega)) rfl rfl (by omega) (by omega) ?_; rintro _ at_ _ _ ⟨ y,rfl,_,_⟩; simp only [go_sem])
      by_cases y7 : y = 7
      · subst y7
        simp only [go_sem]
        (refine callC_tape (next_ok l hl 6 (by omega)) rfl rfl (by omega) (by omega) ?_; rintro _ at_ _ _ ⟨ p,rfl,_,_⟩; simp only [go_sem])
        rw [wrap_i64 (x := p - 1) (by omega) (by omega)]
        (refine callC_pick [14,7,-1,1] (pick_ok l hl _ (by simp) (by simp)) rfl rfl rfl rfl rfl (by decide) (by omega) (by omega) ?_; rintro _ at_ _ _ ⟨q,hmem,rfl⟩; simp only [List.mem_cons,List.not_mem_nil,or_false] at hmem; simp only [go_sem])
        exact Cl.tape rfl (by omega) (by omega) ⟨_, _, rfl, fun h => by cases h⟩
      · have e7 : (y == 7) = false := by simp [y7]
        simp only [go_sem,e7]
        exact Cl.tape rfl (by omega) (by omega) ⟨_, _, rfl, fun h => by cases h⟩
  have e2 : (k == 2) = false := by simp [k2]
  by_cases k3 : k = 3
  · subst k3
    simp only [go_sem]
    (refine callC_tape (next_ok l hl 7 (by omega)) rfl rfl (by omega) (by omega) ?_; rintro _ at_ _ _ ⟨ x,rfl,_,_⟩; simp only [go_sem])
    have hc : calE 3 x = 0 := by unfold calE; rw [if_neg (by omega), if_neg (by omega), if_pos rfl, if_pos (by omega)]
    cases wild
    · simp only [go_sem,a5,a5r0,a5r1,a5r2,a5r3,a5r4,a5r5,a5r6,a5r7,a5r8,a5r9]
      exact Cl.tape rfl (by omega) (by omega) ⟨3, x, rfl, fun _ => hc⟩
    · simp only [go_sem,a5,a5r0,a5r1,a5r2,a5r3,a5r4,a5r5,a5r6,a5r7,a5r8,a5r9]
      (refine callC_tape (next_ok l hl 8 (by omega)) rfl rfl (by omega) (by omega) ?_; rintro _ at_ _ _ ⟨ y,rfl,_,_⟩; simp only [go_sem])
      by_cases y7 : y = 7
      · subst y7
        simp only [go_sem]
        (refine callC_tape (next_ok l hl 6 (by omega)) rfl rfl (by omega) (by omega) ?_; rintro _ at_ _ _ ⟨ p,rfl,_,_⟩; simp only [go_sem])
        rw [wrap_i64 (x := p - 1) (by omega) (by omega)]
        (refine callC_pick [14,7,-1,1] (pick_ok l hl _ (by simp) (by simp)) rfl rfl rfl rfl rfl (by decide) (by omega) (by omega) ?_; rintro _ at_ _ _ ⟨q,hmem,rfl⟩; simp only [List.mem_cons,List.not_mem_nil,or_false] at hmem; simp only [go_sem])
        exact Cl.tape rfl (by omega) (by omega) ⟨_, _, rfl, fun h => by cases h⟩
      · have e7 : (y == 7) = false := by simp [y7]
        simp only [go_sem,e7]
        exact Cl.tape rfl (by omega) (by omega) ⟨_, _, rfl, fun h => by cases h⟩
  have e3 : (k == 3) = false := by simp [k3]
  have hc : calE k 0 = 0 := by unfold calE; rw [if_pos (by omega), if_pos rfl]
  simp only [go_sem,e2,e3]
  cases wild
  · simp only [go_sem,a5,a5r0,a5r1,a5r2,a5r3,a5r4,a5r5,a5r6,a5r7,a5r8,a5r9]
    exact Cl.tape rfl (by omega) (by omega) ⟨k, 0, rfl, fun _ => hc⟩
  · simp only [go_sem,a5,a5r0,a5r1,a5r2,a5r3,a5r4,a5r5,a5r6,a5r7,a5r8,a5r9]
    have hdone : True := trivial
    · skip
      (refine callC_tape (next_ok l hl 8 (by omega)) rfl rfl (by omega) (by omega) ?_; rintro _ at_ _ _ ⟨ y,rfl,_,_⟩; simp only [go_sem])
      by_cases y7 : y = 7
      · subst y7
        simp only [go_sem]
        (refine callC_tape (next_ok l hl 6 (by omega)) rfl rfl (by omega) (by omega) ?_; rintro _ at_ _ _ ⟨ p,rfl,_,_⟩; simp only [go_sem])
        rw [wrap_i64 (x := p - 1) (by omega) (by omega)]
        (refine callC_pick [14,7,-1,1] (pick_ok l hl _ (by simp) (by simp)) rfl rfl rfl rfl rfl (by decide) (by omega) (by omega) ?_; rintro _ at_ _ _ ⟨q,hmem,rfl⟩; simp only [List.mem_cons,List.not_mem_nil,or_false] at hmem; simp only [go_sem])
        exact Cl.tape rfl (by omega) (by omega) ⟨_, _, rfl, fun h => by cases h⟩
      · have e7 : (y == 7) = false := by simp [y7]
        simp only [go_sem,e7]
        exact Cl.tape rfl (by omega) (by omega) ⟨_, _, rfl, fun h => by cases h⟩

set_option maxRecDepth 100000 in
theorem sane_ok : AFn Tryz.prog 13 [] [] (fun v rs => v = .bool true ∧ rs = []) := by
  refine afnW Tryz.func13 a13_ok (by simp [a13]) ?_
  have e1 := Span_ok 2 4 1 (by omega) (by omega)
  rw [if_neg (show ¬ calE 2 4 ≠ 0 by decide), if_pos (show (0 : Int) ≤ 1 ∧ 1 < cntP 2 4 by exact ⟨by omega, by decide⟩), show (spP 2 4 1).1 = 4 from rfl, show (spP 2 4 1).2 = 17 from rfl] at e1
  have e2 : AFn Tryz.prog 22 [.agg [.int .i64 0, .int .i64 0], .int .i64 673, .pure 1 [[.int .i64 20499]], .int .i64 2, .nils] [] (fun v rs => v = .tup [.own 0 2 0 2, .int .i64 0] ∧ rs = [.live 3 1 [[.int .i64 14], [.int .i64 16]]]) := by
    refine ((Weights_ok 0 0 673 [20499] 2 [] (by omega) (by omega) (by decide) (by decide)).le (by simp [leL, le, els, numsE])).mono ?_
    have hz : wE 0 0 673 [20499] 2 [] = 0 := by kernel_rfl
    have hw : wL 0 0 673 [20499] 2 [] = [14, 16] := by kernel_rfl
    rintro v rs (⟨h, _⟩ | ⟨_, rfl, rfl⟩)
    · exact absurd hz h
    · rw [hw]; exact ⟨rfl, rfl⟩
  have e3 : AFn Tryz.prog 26 [.int .i64 100, .agg [.int .i64 0, .int .i64 0], .int .i64 675, .pure 1 [[.int .i64 20554]], .int .i64 0, .nils] [] (fun v rs => v = .tup [.own 0 2 0 2, .int .i64 0] ∧ rs = [.live 3 1 [[.int .i64 33], [.int .i64 67]]]) := by
    have hz : wE 0 0 675 [20554] 0 [] = 0 := by kernel_rfl
    have hw : wL 0 0 675 [20554] 0 [] = [10, 20] := by kernel_rfl
    refine ((Divide_ok 100 0 0 675 [20554] 0 [] (by omega) (by omega) (by omega) (by omega) (by decide) (by decide) hz).le (by simp [leL, le, els, numsE])).mono ?_
    rw [hw]
    rintro v rs (⟨h, _⟩ | ⟨_, S, hS, hSp, rfl, rfl⟩)
    · exact absurd h (by decide)
    · have hS1 : S = [1, 0] := by
        refine lx_uniq (hS.trans ?_) hSp ?_
        · exact List.Perm.swap 1 0 []
        · refine List.pairwise_cons.2 ⟨fun b hb => ?_, List.pairwise_singleton _ _⟩
          rw [List.mem_singleton] at hb
          subst hb
          exact .inl (by decide)
      subst hS1
      have hr : incs (partL 100 [10, 20].sum [10, 20]) (List.take (missL 100 [10, 20].sum [10, 20]).toNat [1, 0]) = [33, 67] := by kernel_rfl
      rw [hr]
      exact ⟨rfl, rfl⟩
  have e4 := Of_ok 2 4 17
  rw [if_neg (show ¬ calE 2 4 ≠ 0 by decide), if_pos (show okD 17 from ⟨by omega, by omega⟩), show ofP 2 4 17 = 1 from rfl] at e4
  have e5 := Count_ok 0 0
  rw [show cntP 0 0 = 2760 from by kernel_rfl] at e5
  simp only [go_sem,a13,a13r0,a13r1,a13r2,a13r3,a13r4,a13r5,a13r6]
  (repeat (first | (refine Cl.here ?_; simp only [go_sem]) | simp only [go_sem]))
  refine callC_det e1 rfl rfl ?_
  (repeat (first | (refine Cl.here ?_; simp only [go_sem]) | simp only [go_sem]))
  refine callC_of [] [2] (by decide) rfl (by simp only [go_sem] <;> rfl) e2 ?_
  rintro _ _ ⟨rfl, rfl⟩
  refine ⟨.inr ⟨rfl, rfl⟩, ?_⟩
  (repeat (first | (refine Cl.here ?_; simp only [go_sem]) | simp only [go_sem]))
  refine callC_of [] [4] (by decide) rfl (by simp only [go_sem] <;> rfl) e3 ?_
  rintro _ _ ⟨rfl, rfl⟩
  refine ⟨.inr ⟨rfl, rfl⟩, ?_⟩
  (repeat (first | (refine Cl.here ?_; simp only [go_sem]) | simp only [go_sem]))
  refine callC_det e4 rfl rfl ?_
  (repeat (first | (refine Cl.here ?_; simp only [go_sem,eqCells]) | simp only [go_sem,eqCells]))
  refine callC_det e5 rfl rfl ?_
  (repeat (first | (refine Cl.here ?_; simp only [go_sem]) | simp only [go_sem]))
  exact Cl.fin rfl ⟨rfl, rfl⟩

end Go.Proofs.YtlanehcihoiglaaGreatDoor
