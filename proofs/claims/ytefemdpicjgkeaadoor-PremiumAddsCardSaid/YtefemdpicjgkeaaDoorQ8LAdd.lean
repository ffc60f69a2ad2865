/- PremiumAdds: the walk. -/
import Derived.Test.YtefemdpicjgkeaaDoorQ8LCnt
set_option linter.unusedSimpArgs false
set_option linter.unusedVariables false
set_option linter.unusedSectionVars false
namespace Go.Proofs.YtefemdpicjgkeaaDoor
open Go Go.Abs
set_option linter.unusedSimpArgs false
set_option linter.unusedVariables false

theorem sameP_ok (L : List Pm) (hl : L.length ≤ 9223372036854775806) : AFn Tryd.prog 20 [.pure 3 (els L), .pure 3 (els L)] [] (fun v rs => v = .bool true ∧ rs = []) := by
  refine afn Tryd.func20 a20_ok (by simp [a20]) ?_
  simp only [go_sem,Nat.reduceAdd,Nat.reduceSub,Nat.reduceMul,Nat.reduceEqDiff,Nat.reduceLT,Nat.reduceLeDiff,Nat.reduceBEq,reduceIte,reduceCtorEq,Int.reduceToNat,Int.reduceLE,Int.reduceLT,Int.reduceBEq,Int.reduceBNe,a20,a20r0,a20r1,a20r2,a20r3,a20r4,a20r5,a20r6,a20r7,a20r8,bne_self_eq_false]
  refine avc_loop (fun env rows => ∃ i : Nat, i ≤ L.length ∧ env = [(0, .pure 3 (els L)), (1, .pure 3 (els L)), (5, .int .i64 i)] ∧ rows = [])
    (fun env _ => match slot env 5 with | .int _ j => (L.length - j).toNat | _ => 0) ?_ ?_
  · exact Cl.here ⟨0, by omega, rfl, rfl⟩
  · rintro env rows ⟨i, hi, rfl, rfl⟩
    have hw : IntKind.i64.wrap ((i : Int) + 1) = ((i + 1 : Nat) : Int) := by rw [wrap_i64 (by omega) (by omega)]; omega
    simp only [go_sem,Nat.reduceAdd,Nat.reduceSub,Nat.reduceMul,Nat.reduceEqDiff,Nat.reduceLT,Nat.reduceLeDiff,Nat.reduceBEq,reduceIte,reduceCtorEq,Int.reduceToNat,Int.reduceLE,Int.reduceLT,Int.reduceBEq,Int.reduceBNe,a20,a20r0,a20r1,a20r2,a20r3,a20r4,a20r5,a20r6,a20r7,a20r8]
    refine condC_intro ?_ ?_ <;> intro hg2 <;> simp only [decide_eq_true_eq,decide_eq_false_iff_not,beq_iff_eq,beq_eq_false_iff_ne,bne_iff_ne,bne_eq_false_iff_eq,Bool.not_eq_true',Bool.not_eq_false',Int.not_lt,Int.not_le,ne_eq,Bool.and_eq_true,Bool.or_eq_true,Bool.or_eq_false_iff,Bool.and_eq_false_iff] at hg2 <;> simp only [go_sem,Nat.reduceAdd,Nat.reduceSub,Nat.reduceMul,Nat.reduceEqDiff,Nat.reduceLT,Nat.reduceLeDiff,Nat.reduceBEq,reduceIte,reduceCtorEq,Int.reduceToNat,Int.reduceLE,Int.reduceLT,Int.reduceBEq,Int.reduceBNe,a20,a20r0,a20r1,a20r2,a20r3,a20r4,a20r5,a20r6,a20r7,a20r8]
    · have hlt : i < L.length := by omega
      have hgm : (els L).getD i [] = [.int .i64 L[i].day, .str L[i].name, .int .i64 L[i].min] := by rw [els_getD hlt, cel_pm]
      generalize L[i] = m at hgm
      simp only [Int.toNat_natCast, hgm]
      simp only [go_sem,Nat.reduceAdd,Nat.reduceSub,Nat.reduceMul,Nat.reduceEqDiff,Nat.reduceLT,Nat.reduceLeDiff,Nat.reduceBEq,reduceIte,reduceCtorEq,Int.reduceToNat,Int.reduceLE,Int.reduceLT,Int.reduceBEq,Int.reduceBNe,bne_self_eq_false,beq_self_eq_true,hw]
      refine ⟨by omega, by omega, by omega, by omega, ?_⟩
      refine Cl.here ⟨⟨i + 1, by omega, rfl, rfl⟩, ?_⟩
      simp only [go_sem,Nat.reduceAdd,Nat.reduceSub,Nat.reduceMul,Nat.reduceEqDiff,Nat.reduceLT,Nat.reduceLeDiff,Nat.reduceBEq,reduceIte,reduceCtorEq,Int.reduceToNat,Int.reduceLE,Int.reduceLT,Int.reduceBEq,Int.reduceBNe]
      omega
    · exact Cl.fin rfl ⟨rfl, rfl⟩

set_option maxHeartbeats 4000000 in
theorem premiumAdds (l : List Int) (hl : TapeOk l) (a0 : Int) : AFn Tryd.prog 6 [.pure 1 (numsE .i64 l), .int .i64 a0] [] (fun v _ => v = .bool true) := by
  refine afnW Tryd.func6 a6_ok (by simp [a6]) ?_
  simp only [go_sem,Nat.reduceAdd,Nat.reduceSub,Nat.reduceMul,Nat.reduceEqDiff,Nat.reduceLT,Nat.reduceLeDiff,Nat.reduceBEq,reduceIte,reduceCtorEq,Int.reduceToNat,Int.reduceLE,Int.reduceLT,Int.reduceBEq,Int.reduceBNe,a6,a6r0,a6r1,a6r2,a6r3,a6r4,a6r5,a6r6,a6r7,a6r8,a6r9,a6r10,a6r11]
  (repeat (first | (refine Cl.here ?_; simp only [go_sem,Nat.reduceAdd,Nat.reduceSub,Nat.reduceMul,Nat.reduceEqDiff,Nat.reduceLT,Nat.reduceLeDiff,Nat.reduceBEq,reduceIte,reduceCtorEq,Int.reduceToNat,Int.reduceLE,Int.reduceLT,Int.reduceBEq,Int.reduceBNe]) | simp only [go_sem,Nat.reduceAdd,Nat.reduceSub,Nat.reduceMul,Nat.reduceEqDiff,Nat.reduceLT,Nat.reduceLeDiff,Nat.reduceBEq,reduceIte,reduceCtorEq,Int.reduceToNat,Int.reduceLE,Int.reduceLT,Int.reduceBEq,Int.reduceBNe]))
  (refine callC_of [] [] (by simp) rfl (bindL_clean _ (by first | rfl | simp only [go_sem,Nat.reduceAdd,Nat.reduceSub,Nat.reduceMul,Nat.reduceEqDiff,Nat.reduceLT,Nat.reduceLeDiff,Nat.reduceBEq,reduceIte,reduceCtorEq,Int.reduceToNat,Int.reduceLE,Int.reduceLT,Int.reduceBEq,Int.reduceBNe])) (new_ok l) ?_; rintro _ _ ⟨rfl,rfl⟩; refine ⟨.inl rfl,?_⟩; simp only [go_sem,Nat.reduceAdd,Nat.reduceSub,Nat.reduceMul,Nat.reduceEqDiff,Nat.reduceLT,Nat.reduceLeDiff,Nat.reduceBEq,reduceIte,reduceCtorEq,Int.reduceToNat,Int.reduceLE,Int.reduceLT,Int.reduceBEq,Int.reduceBNe])
  (repeat (first | (refine Cl.here ?_; simp only [go_sem,Nat.reduceAdd,Nat.reduceSub,Nat.reduceMul,Nat.reduceEqDiff,Nat.reduceLT,Nat.reduceLeDiff,Nat.reduceBEq,reduceIte,reduceCtorEq,Int.reduceToNat,Int.reduceLE,Int.reduceLT,Int.reduceBEq,Int.reduceBNe]) | simp only [go_sem,Nat.reduceAdd,Nat.reduceSub,Nat.reduceMul,Nat.reduceEqDiff,Nat.reduceLT,Nat.reduceLeDiff,Nat.reduceBEq,reduceIte,reduceCtorEq,Int.reduceToNat,Int.reduceLE,Int.reduceLT,Int.reduceBEq,Int.reduceBNe]))
  (refine callC_of [0] [] (by decide) (by simp only [go_sem,Nat.reduceAdd,Nat.reduceSub,Nat.reduceMul,Nat.reduceEqDiff,Nat.reduceLT,Nat.reduceLeDiff,Nat.reduceBEq,reduceIte,reduceCtorEq,Int.reduceToNat,Int.reduceLE,Int.reduceLT,Int.reduceBEq,Int.reduceBNe] <;> rfl) (by simp only [go_sem,Nat.reduceAdd,Nat.reduceSub,Nat.reduceMul,Nat.reduceEqDiff,Nat.reduceLT,Nat.reduceLeDiff,Nat.reduceBEq,reduceIte,reduceCtorEq,Int.reduceToNat,Int.reduceLE,Int.reduceLT,Int.reduceBEq,Int.reduceBNe] <;> rfl) (zone_ok l hl 0 (by omega) (by omega)) ?_; rintro _ _ ⟨at1,z,rfl,rfl,h0,h1,hz,hzl⟩; refine ⟨.inl rfl,?_⟩; simp only [go_sem,Nat.reduceAdd,Nat.reduceSub,Nat.reduceMul,Nat.reduceEqDiff,Nat.reduceLT,Nat.reduceLeDiff,Nat.reduceBEq,reduceIte,reduceCtorEq,Int.reduceToNat,Int.reduceLE,Int.reduceLT,Int.reduceBEq,Int.reduceBNe])
  simp only [go_sem,Nat.reduceAdd,Nat.reduceSub,Nat.reduceMul,Nat.reduceEqDiff,Nat.reduceLT,Nat.reduceLeDiff,Nat.reduceBEq,reduceIte,reduceCtorEq,Int.reduceToNat,Int.reduceLE,Int.reduceLT,Int.reduceBEq,Int.reduceBNe,tp,Zn.v]
  (refine callC_of [0] [] (by decide) (by simp only [go_sem,Nat.reduceAdd,Nat.reduceSub,Nat.reduceMul,Nat.reduceEqDiff,Nat.reduceLT,Nat.reduceLeDiff,Nat.reduceBEq,reduceIte,reduceCtorEq,Int.reduceToNat,Int.reduceLE,Int.reduceLT,Int.reduceBEq,Int.reduceBNe] <;> rfl) (by simp only [go_sem,Nat.reduceAdd,Nat.reduceSub,Nat.reduceMul,Nat.reduceEqDiff,Nat.reduceLT,Nat.reduceLeDiff,Nat.reduceBEq,reduceIte,reduceCtorEq,Int.reduceToNat,Int.reduceLE,Int.reduceLT,Int.reduceBEq,Int.reduceBNe] <;> rfl) (tHol_ok l hl false at1 h0 h1) ?_; rintro _ _ ⟨at2,hs,h0,h1,hhl,hhv,rfl,rfl⟩; refine ⟨.inl rfl,?_⟩; simp only [go_sem,Nat.reduceAdd,Nat.reduceSub,Nat.reduceMul,Nat.reduceEqDiff,Nat.reduceLT,Nat.reduceLeDiff,Nat.reduceBEq,reduceIte,reduceCtorEq,Int.reduceToNat,Int.reduceLE,Int.reduceLT,Int.reduceBEq,Int.reduceBNe])
  (refine callC_of [0] [] (by decide) (by simp only [go_sem,Nat.reduceAdd,Nat.reduceSub,Nat.reduceMul,Nat.reduceEqDiff,Nat.reduceLT,Nat.reduceLeDiff,Nat.reduceBEq,reduceIte,reduceCtorEq,Int.reduceToNat,Int.reduceLE,Int.reduceLT,Int.reduceBEq,Int.reduceBNe] <;> rfl) (by simp only [go_sem,Nat.reduceAdd,Nat.reduceSub,Nat.reduceMul,Nat.reduceEqDiff,Nat.reduceLT,Nat.reduceLeDiff,Nat.reduceBEq,reduceIte,reduceCtorEq,Int.reduceToNat,Int.reduceLE,Int.reduceLT,Int.reduceBEq,Int.reduceBNe] <;> rfl) (windows_ok l hl false at2 h0 h1) ?_; rintro _ _ ⟨at3,ws,rfl,rfl,h0,h1,hwl,hws⟩; refine ⟨.inl rfl,?_⟩; simp only [go_sem,Nat.reduceAdd,Nat.reduceSub,Nat.reduceMul,Nat.reduceEqDiff,Nat.reduceLT,Nat.reduceLeDiff,Nat.reduceBEq,reduceIte,reduceCtorEq,Int.reduceToNat,Int.reduceLE,Int.reduceLT,Int.reduceBEq,Int.reduceBNe])
  have hws := hws rfl
  simp only [go_sem,Nat.reduceAdd,Nat.reduceSub,Nat.reduceMul,Nat.reduceEqDiff,Nat.reduceLT,Nat.reduceLeDiff,Nat.reduceBEq,reduceIte,reduceCtorEq,Int.reduceToNat,Int.reduceLE,Int.reduceLT,Int.reduceBEq,Int.reduceBNe,tp]
  (refine Cl.frz [some 0,some 3] [ 1,2] rfl rfl (by simp only [go_sem,Nat.reduceAdd,Nat.reduceSub,Nat.reduceMul,Nat.reduceEqDiff,Nat.reduceLT,Nat.reduceLeDiff,Nat.reduceBEq,reduceIte,reduceCtorEq,Int.reduceToNat,Int.reduceLE,Int.reduceLT,Int.reduceBEq,Int.reduceBNe] <;> rfl) ?_; simp only [go_sem,Nat.reduceAdd,Nat.reduceSub,Nat.reduceMul,Nat.reduceEqDiff,Nat.reduceLT,Nat.reduceLeDiff,Nat.reduceBEq,reduceIte,reduceCtorEq,Int.reduceToNat,Int.reduceLE,Int.reduceLT,Int.reduceBEq,Int.reduceBNe])
  have hhok := hhv rfl
  have hvp : validP hs = 0 := validP_mk' (by omega) hhok
  have hvl : vldE z hs ws = 0 := by unfold vldE; rw [if_pos hz, if_pos hvp, if_neg (by omega), if_pos hws]
  (refine Cl.here ?_; simp only [go_sem,Nat.reduceAdd,Nat.reduceSub,Nat.reduceMul,Nat.reduceEqDiff,Nat.reduceLT,Nat.reduceLeDiff,Nat.reduceBEq,reduceIte,reduceCtorEq,Int.reduceToNat,Int.reduceLE,Int.reduceLT,Int.reduceBEq,Int.reduceBNe])
  refine callC_tape (near_ok l hl) rfl rfl h0 h1 ?_
  rintro _ at4 h0 h1 ⟨x, rfl, hx0, hx1⟩
  simp only [go_sem,Nat.reduceAdd,Nat.reduceSub,Nat.reduceMul,Nat.reduceEqDiff,Nat.reduceLT,Nat.reduceLeDiff,Nat.reduceBEq,reduceIte,reduceCtorEq,Int.reduceToNat,Int.reduceLE,Int.reduceLT,Int.reduceBEq,Int.reduceBNe]
  (refine Cl.tr [some 1] [] rfl rfl (by simp only [go_sem,Nat.reduceAdd,Nat.reduceSub,Nat.reduceMul,Nat.reduceEqDiff,Nat.reduceLT,Nat.reduceLeDiff,Nat.reduceBEq,reduceIte,reduceCtorEq,Int.reduceToNat,Int.reduceLE,Int.reduceLT,Int.reduceBEq,Int.reduceBNe] <;> rfl) ?_; simp only [go_sem,Nat.reduceAdd,Nat.reduceSub,Nat.reduceMul,Nat.reduceEqDiff,Nat.reduceLT,Nat.reduceLeDiff,Nat.reduceBEq,reduceIte,reduceCtorEq,Int.reduceToNat,Int.reduceLE,Int.reduceLT,Int.reduceBEq,Int.reduceBNe])
  (refine Cl.here ?_; simp only [go_sem,Nat.reduceAdd,Nat.reduceSub,Nat.reduceMul,Nat.reduceEqDiff,Nat.reduceLT,Nat.reduceLeDiff,Nat.reduceBEq,reduceIte,reduceCtorEq,Int.reduceToNat,Int.reduceLE,Int.reduceLT,Int.reduceBEq,Int.reduceBNe])
  have hw1 : IntKind.i64.wrap (x + 300) = x + 300 := wrap_i64 (by omega) (by omega)
  have hw2 : IntKind.i64.wrap (x + 1) = x + 1 := wrap_i64 (by omega) (by omega)
  have hm := mod_bounds (v := a0) (n := 299) (by omega)
  simp only [go_sem,Nat.reduceAdd,Nat.reduceSub,Nat.reduceMul,Nat.reduceEqDiff,Nat.reduceLT,Nat.reduceLeDiff,Nat.reduceBEq,reduceIte,reduceCtorEq,Int.reduceToNat,Int.reduceLE,Int.reduceLT,Int.reduceBEq,Int.reduceBNe,hw1]
  (refine Cl.here ?_; simp only [go_sem,Nat.reduceAdd,Nat.reduceSub,Nat.reduceMul,Nat.reduceEqDiff,Nat.reduceLT,Nat.reduceLeDiff,Nat.reduceBEq,reduceIte,reduceCtorEq,Int.reduceToNat,Int.reduceLE,Int.reduceLT,Int.reduceBEq,Int.reduceBNe])
  simp only [go_sem,Nat.reduceAdd,Nat.reduceSub,Nat.reduceMul,Nat.reduceEqDiff,Nat.reduceLT,Nat.reduceLeDiff,Nat.reduceBEq,reduceIte,reduceCtorEq,Int.reduceToNat,Int.reduceLE,Int.reduceLT,Int.reduceBEq,Int.reduceBNe,hw2]
  refine callC_det (mod_ok a0 299 (by omega) (by omega)) rfl rfl ?_
  generalize mod a0 299 = y at hm ⊢
  have hw3 : IntKind.i64.wrap (x + 1 + y) = x + 1 + y := wrap_i64 (by omega) (by omega)
  simp only [go_sem,Nat.reduceAdd,Nat.reduceSub,Nat.reduceMul,Nat.reduceEqDiff,Nat.reduceLT,Nat.reduceLeDiff,Nat.reduceBEq,reduceIte,reduceCtorEq,Int.reduceToNat,Int.reduceLE,Int.reduceLT,Int.reduceBEq,Int.reduceBNe,hw3]
  have hcut1 : x < x + 1 + y := by omega
  have hcut2 : x + 1 + y < x + 300 := by omega
  generalize x + 1 + y = c at hcut1 hcut2 ⊢
  clear hw1 hw2 hw3
  (refine Cl.here ?_; simp only [go_sem,Nat.reduceAdd,Nat.reduceSub,Nat.reduceMul,Nat.reduceEqDiff,Nat.reduceLT,Nat.reduceLeDiff,Nat.reduceBEq,reduceIte,reduceCtorEq,Int.reduceToNat,Int.reduceLE,Int.reduceLT,Int.reduceBEq,Int.reduceBNe])
  (refine Cl.here ?_; simp only [go_sem,Nat.reduceAdd,Nat.reduceSub,Nat.reduceMul,Nat.reduceEqDiff,Nat.reduceLT,Nat.reduceLeDiff,Nat.reduceBEq,reduceIte,reduceCtorEq,Int.reduceToNat,Int.reduceLE,Int.reduceLT,Int.reduceBEq,Int.reduceBNe])
  (refine Cl.here ?_; simp only [go_sem,Nat.reduceAdd,Nat.reduceSub,Nat.reduceMul,Nat.reduceEqDiff,Nat.reduceLT,Nat.reduceLeDiff,Nat.reduceBEq,reduceIte,reduceCtorEq,Int.reduceToNat,Int.reduceLE,Int.reduceLT,Int.reduceBEq,Int.reduceBNe])
  have hp1 : pcE [⟨20454, x, x + 300, ⟨#[120]⟩⟩] = 0 := by
    unfold pcE
    rw [if_neg (by simp), if_pos (by intro p hp; rw [List.mem_singleton] at hp; subst hp; unfold pcOk; simp only; omega), if_neg (by simp [pcSum]; omega)]
  have hp2 : pcE [⟨20454, x, c, ⟨#[120]⟩⟩, ⟨20454, c, x + 300, ⟨#[120]⟩⟩] = 0 := by
    unfold pcE
    rw [if_neg (by simp), if_pos (by intro p hp; simp only [List.mem_cons, List.not_mem_nil, or_false] at hp; rcases hp with rfl | rfl <;> (unfold pcOk; simp only; omega)), if_neg (by simp [pcSum]; omega)]
  have hM1 := Mark_ok z hs (by omega) ws (by omega) [⟨20454, x, x + 300, ⟨#[120]⟩⟩] (by simp)
  have hM2 := Mark_ok z hs (by omega) ws (by omega) [⟨20454, x, c, ⟨#[120]⟩⟩, ⟨20454, c, x + 300, ⟨#[120]⟩⟩] (by simp)
  rw [markL_cut (by omega) (by omega)] at hM2
  have e1 : markE z hs ws [⟨20454, x, x + 300, ⟨#[120]⟩⟩] = 0 := by unfold markE; rw [if_pos hvl, hp1]
  have e2 : markE z hs ws [⟨20454, x, c, ⟨#[120]⟩⟩, ⟨20454, c, x + 300, ⟨#[120]⟩⟩] = 0 := by unfold markE; rw [if_pos hvl, hp2]
  simp only [e1, e2, if_true] at hM1 hM2
  generalize hL : markL z hs ws [⟨20454, x, x + 300, ⟨#[120]⟩⟩] = L at hM1 hM2
  refine callC_of [] [4] (by decide) rfl (by simp only [go_sem,Nat.reduceAdd,Nat.reduceSub,Nat.reduceMul,Nat.reduceEqDiff,Nat.reduceLT,Nat.reduceLeDiff,Nat.reduceBEq,reduceIte,reduceCtorEq,Int.reduceToNat,Int.reduceLE,Int.reduceLT,Int.reduceBEq,Int.reduceBNe] <;> rfl) hM1 ?_
  rintro _ _ ⟨rfl, rfl⟩
  refine ⟨.inr ⟨by first | rfl | simp only [go_sem,Nat.reduceAdd,Nat.reduceSub,Nat.reduceMul,Nat.reduceEqDiff,Nat.reduceLT,Nat.reduceLeDiff,Nat.reduceBEq,reduceIte,reduceCtorEq,Int.reduceToNat,Int.reduceLE,Int.reduceLT,Int.reduceBEq,Int.reduceBNe],by first | rfl | simp only [go_sem,Nat.reduceAdd,Nat.reduceSub,Nat.reduceMul,Nat.reduceEqDiff,Nat.reduceLT,Nat.reduceLeDiff,Nat.reduceBEq,reduceIte,reduceCtorEq,Int.reduceToNat,Int.reduceLE,Int.reduceLT,Int.reduceBEq,Int.reduceBNe]⟩,?_⟩
  simp only [go_sem,Nat.reduceAdd,Nat.reduceSub,Nat.reduceMul,Nat.reduceEqDiff,Nat.reduceLT,Nat.reduceLeDiff,Nat.reduceBEq,reduceIte,reduceCtorEq,Int.reduceToNat,Int.reduceLE,Int.reduceLT,Int.reduceBEq,Int.reduceBNe]
  (refine Cl.frz [some 0,some 1,some 2,some 3] [ 5] rfl rfl (by simp only [go_sem,Nat.reduceAdd,Nat.reduceSub,Nat.reduceMul,Nat.reduceEqDiff,Nat.reduceLT,Nat.reduceLeDiff,Nat.reduceBEq,reduceIte,reduceCtorEq,Int.reduceToNat,Int.reduceLE,Int.reduceLT,Int.reduceBEq,Int.reduceBNe] <;> rfl) ?_; simp only [go_sem,Nat.reduceAdd,Nat.reduceSub,Nat.reduceMul,Nat.reduceEqDiff,Nat.reduceLT,Nat.reduceLeDiff,Nat.reduceBEq,reduceIte,reduceCtorEq,Int.reduceToNat,Int.reduceLE,Int.reduceLT,Int.reduceBEq,Int.reduceBNe])
  (refine Cl.here ?_; simp only [go_sem,Nat.reduceAdd,Nat.reduceSub,Nat.reduceMul,Nat.reduceEqDiff,Nat.reduceLT,Nat.reduceLeDiff,Nat.reduceBEq,reduceIte,reduceCtorEq,Int.reduceToNat,Int.reduceLE,Int.reduceLT,Int.reduceBEq,Int.reduceBNe])
  refine callC_of [] [4] (by decide) rfl (by simp only [go_sem,Nat.reduceAdd,Nat.reduceSub,Nat.reduceMul,Nat.reduceEqDiff,Nat.reduceLT,Nat.reduceLeDiff,Nat.reduceBEq,reduceIte,reduceCtorEq,Int.reduceToNat,Int.reduceLE,Int.reduceLT,Int.reduceBEq,Int.reduceBNe] <;> rfl) hM2 ?_
  rintro _ _ ⟨rfl, rfl⟩
  refine ⟨.inr ⟨by first | rfl | simp only [go_sem,Nat.reduceAdd,Nat.reduceSub,Nat.reduceMul,Nat.reduceEqDiff,Nat.reduceLT,Nat.reduceLeDiff,Nat.reduceBEq,reduceIte,reduceCtorEq,Int.reduceToNat,Int.reduceLE,Int.reduceLT,Int.reduceBEq,Int.reduceBNe],by first | rfl | simp only [go_sem,Nat.reduceAdd,Nat.reduceSub,Nat.reduceMul,Nat.reduceEqDiff,Nat.reduceLT,Nat.reduceLeDiff,Nat.reduceBEq,reduceIte,reduceCtorEq,Int.reduceToNat,Int.reduceLE,Int.reduceLT,Int.reduceBEq,Int.reduceBNe]⟩,?_⟩
  simp only [go_sem,Nat.reduceAdd,Nat.reduceSub,Nat.reduceMul,Nat.reduceEqDiff,Nat.reduceLT,Nat.reduceLeDiff,Nat.reduceBEq,reduceIte,reduceCtorEq,Int.reduceToNat,Int.reduceLE,Int.reduceLT,Int.reduceBEq,Int.reduceBNe]
  (refine Cl.frz [some 0,some 1] [ 5] rfl rfl (by simp only [go_sem,Nat.reduceAdd,Nat.reduceSub,Nat.reduceMul,Nat.reduceEqDiff,Nat.reduceLT,Nat.reduceLeDiff,Nat.reduceBEq,reduceIte,reduceCtorEq,Int.reduceToNat,Int.reduceLE,Int.reduceLT,Int.reduceBEq,Int.reduceBNe] <;> rfl) ?_; simp only [go_sem,Nat.reduceAdd,Nat.reduceSub,Nat.reduceMul,Nat.reduceEqDiff,Nat.reduceLT,Nat.reduceLeDiff,Nat.reduceBEq,reduceIte,reduceCtorEq,Int.reduceToNat,Int.reduceLE,Int.reduceLT,Int.reduceBEq,Int.reduceBNe])
  (refine Cl.here ?_; simp only [go_sem,Nat.reduceAdd,Nat.reduceSub,Nat.reduceMul,Nat.reduceEqDiff,Nat.reduceLT,Nat.reduceLeDiff,Nat.reduceBEq,reduceIte,reduceCtorEq,Int.reduceToNat,Int.reduceLE,Int.reduceLT,Int.reduceBEq,Int.reduceBNe])
  have hnev : ∀ t, covT z hs ⟨⟨#[110, 101, 118, 101, 114]⟩, ⟨#[97]⟩, 1000, 0, 1440, 0, 0⟩ t = false := fun t => by
    unfold covT covP bitP
    simp
  have hwsn : winsP (ws ++ [⟨⟨#[110, 101, 118, 101, 114]⟩, ⟨#[97]⟩, 1000, 0, 1440, 0, 0⟩]) = true := by
    have : winP ⟨⟨#[110, 101, 118, 101, 114]⟩, ⟨#[97]⟩, 1000, 0, 1440, 0, 0⟩ = true := by
      unfold winP
      rw [show nameP ⟨#[110, 101, 118, 101, 114]⟩ = true by decide, show nameP ⟨#[97]⟩ = true by decide]
      simp
    unfold winsP at *
    rw [List.all_append, hws]
    simp [this]
  have hvl2 : vldE z hs (ws ++ [⟨⟨#[110, 101, 118, 101, 114]⟩, ⟨#[97]⟩, 1000, 0, 1440, 0, 0⟩]) = 0 := by unfold vldE; rw [if_pos hz, if_pos hvp, if_neg (by simp; omega), if_pos hwsn]
  have e3 : markE z hs (ws ++ [⟨⟨#[110, 101, 118, 101, 114]⟩, ⟨#[97]⟩, 1000, 0, 1440, 0, 0⟩]) [⟨20454, x, x + 300, ⟨#[120]⟩⟩] = 0 := by unfold markE; rw [if_pos hvl2, hp1]
  have hM3 := Mark_ok z hs (by omega) (ws ++ [⟨⟨#[110, 101, 118, 101, 114]⟩, ⟨#[97]⟩, 1000, 0, 1440, 0, 0⟩]) (by simp; omega) [⟨20454, x, x + 300, ⟨#[120]⟩⟩] (by simp)
  rw [e3, markL_app hnev, hL] at hM3
  simp only [if_true] at hM3
  refine ⟨by omega, by omega, ?_⟩
  have hwn : els ws ++ [[AVal.str ⟨#[110, 101, 118, 101, 114]⟩, .str ⟨#[97]⟩, .int .i64 1000, .int .i64 0, .int .i64 1440, .int .i64 0, .int .i64 0]] = els (ws ++ [⟨⟨#[110, 101, 118, 101, 114]⟩, ⟨#[97]⟩, 1000, 0, 1440, 0, 0⟩]) := win_snoc2
  rw [hwn]
  have hwl2 : ws.length + 1 = (ws ++ [(⟨⟨#[110, 101, 118, 101, 114]⟩, ⟨#[97]⟩, 1000, 0, 1440, 0, 0⟩ : Win)]).length := by simp
  rw [hwl2]
  refine callD_of [] [4,3] (by simp only [go_sem,Nat.reduceAdd,Nat.reduceSub,Nat.reduceMul,Nat.reduceEqDiff,Nat.reduceLT,Nat.reduceLeDiff,Nat.reduceBEq,reduceIte,reduceCtorEq,Int.reduceToNat,Int.reduceLE,Int.reduceLT,Int.reduceBEq,Int.reduceBNe]) (by decide) rfl (by simp only [go_sem,Nat.reduceAdd,Nat.reduceSub,Nat.reduceMul,Nat.reduceEqDiff,Nat.reduceLT,Nat.reduceLeDiff,Nat.reduceBEq,reduceIte,reduceCtorEq,Int.reduceToNat,Int.reduceLE,Int.reduceLT,Int.reduceBEq,Int.reduceBNe] <;> rfl) hM3 ?_
  rintro _ _ ⟨rfl, rfl⟩
  refine ⟨.inr ⟨by first | rfl | simp only [go_sem,Nat.reduceAdd,Nat.reduceSub,Nat.reduceMul,Nat.reduceEqDiff,Nat.reduceLT,Nat.reduceLeDiff,Nat.reduceBEq,reduceIte,reduceCtorEq,Int.reduceToNat,Int.reduceLE,Int.reduceLT,Int.reduceBEq,Int.reduceBNe],by first | rfl | simp only [go_sem,Nat.reduceAdd,Nat.reduceSub,Nat.reduceMul,Nat.reduceEqDiff,Nat.reduceLT,Nat.reduceLeDiff,Nat.reduceBEq,reduceIte,reduceCtorEq,Int.reduceToNat,Int.reduceLE,Int.reduceLT,Int.reduceBEq,Int.reduceBNe]⟩,?_⟩
  simp only [go_sem,Nat.reduceAdd,Nat.reduceSub,Nat.reduceMul,Nat.reduceEqDiff,Nat.reduceLT,Nat.reduceLeDiff,Nat.reduceBEq,reduceIte,reduceCtorEq,Int.reduceToNat,Int.reduceLE,Int.reduceLT,Int.reduceBEq,Int.reduceBNe]
  have hLl : L.length ≤ 3 := by
    rw [← hL]
    unfold markL
    rw [show daysK [⟨20454, x, x + 300, ⟨#[120]⟩⟩] = [20454] from rfl, show srt [20454] = [20454] by simp [srt], List.flatMap_cons, List.flatMap_nil, List.append_nil]
    have := dayL_length z hs ws [⟨20454, x, x + 300, ⟨#[120]⟩⟩] 20454 ws.length
    omega
  (refine Cl.frz [some 0] [ 5] rfl rfl (by simp only [go_sem,Nat.reduceAdd,Nat.reduceSub,Nat.reduceMul,Nat.reduceEqDiff,Nat.reduceLT,Nat.reduceLeDiff,Nat.reduceBEq,reduceIte,reduceCtorEq,Int.reduceToNat,Int.reduceLE,Int.reduceLT,Int.reduceBEq,Int.reduceBNe] <;> rfl) ?_; simp only [go_sem,Nat.reduceAdd,Nat.reduceSub,Nat.reduceMul,Nat.reduceEqDiff,Nat.reduceLT,Nat.reduceLeDiff,Nat.reduceBEq,reduceIte,reduceCtorEq,Int.reduceToNat,Int.reduceLE,Int.reduceLT,Int.reduceBEq,Int.reduceBNe])
  (refine Cl.here ?_; simp only [go_sem,Nat.reduceAdd,Nat.reduceSub,Nat.reduceMul,Nat.reduceEqDiff,Nat.reduceLT,Nat.reduceLeDiff,Nat.reduceBEq,reduceIte,reduceCtorEq,Int.reduceToNat,Int.reduceLE,Int.reduceLT,Int.reduceBEq,Int.reduceBNe])
  refine callC_det (sameP_ok L (by omega)) rfl rfl ?_
  simp only [go_sem,Nat.reduceAdd,Nat.reduceSub,Nat.reduceMul,Nat.reduceEqDiff,Nat.reduceLT,Nat.reduceLeDiff,Nat.reduceBEq,reduceIte,reduceCtorEq,Int.reduceToNat,Int.reduceLE,Int.reduceLT,Int.reduceBEq,Int.reduceBNe]
  refine callC_det (sameP_ok L (by omega)) rfl rfl ?_
  simp only [go_sem,Nat.reduceAdd,Nat.reduceSub,Nat.reduceMul,Nat.reduceEqDiff,Nat.reduceLT,Nat.reduceLeDiff,Nat.reduceBEq,reduceIte,reduceCtorEq,Int.reduceToNat,Int.reduceLE,Int.reduceLT,Int.reduceBEq,Int.reduceBNe]
  refine callC_det sane_ok rfl rfl ?_
  simp only [go_sem,Nat.reduceAdd,Nat.reduceSub,Nat.reduceMul,Nat.reduceEqDiff,Nat.reduceLT,Nat.reduceLeDiff,Nat.reduceBEq,reduceIte,reduceCtorEq,Int.reduceToNat,Int.reduceLE,Int.reduceLT,Int.reduceBEq,Int.reduceBNe]
  refine Cl.here ?_
  simp only [go_sem,Nat.reduceAdd,Nat.reduceSub,Nat.reduceMul,Nat.reduceEqDiff,Nat.reduceLT,Nat.reduceLeDiff,Nat.reduceBEq,reduceIte,reduceCtorEq,Int.reduceToNat,Int.reduceLE,Int.reduceLT,Int.reduceBEq,Int.reduceBNe]
  exact Cl.fin rfl rfl

end Go.Proofs.YtefemdpicjgkeaaDoor
