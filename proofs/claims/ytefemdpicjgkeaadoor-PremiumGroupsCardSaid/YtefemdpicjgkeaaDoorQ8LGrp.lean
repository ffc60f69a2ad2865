/- PremiumGroups: the walk. -/
import Derived.Test.YtefemdpicjgkeaaDoorQ8LCnt
import Derived.Test.YtefemdpicjgkeaaDoorQ8Ref
set_option linter.unusedSimpArgs false
set_option linter.unusedVariables false
set_option linter.unusedSectionVars false
namespace Go.Proofs.YtefemdpicjgkeaaDoor
open Go Go.Abs
set_option linter.unusedSimpArgs false
set_option linter.unusedVariables false

/-- one, if any of n windows covers an instant -/
def anyK (z : Zn) (h : List Hol) (ws : List Win) (n : Nat) (t : Int) : Int := if someC z h ws t n then 1 else 0
theorem anyK_bd (z : Zn) (h : List Hol) (ws : List Win) (n : Nat) (t : Int) : 0 ≤ anyK z h ws n t ∧ anyK z h ws n t ≤ 1 := by unfold anyK; split <;> omega

set_option maxHeartbeats 4000000 in
theorem premiumGroups (l : List Int) (hl : TapeOk l) : AFn Tryd.prog 5 [.pure 1 (numsE .i64 l)] [] (fun v _ => v = .bool true) := by
  refine afnW Tryd.func5 a5_ok (by simp [a5]) ?_
  simp only [go_sem,Nat.reduceAdd,Nat.reduceSub,Nat.reduceMul,Nat.reduceEqDiff,Nat.reduceLT,Nat.reduceLeDiff,Nat.reduceBEq,reduceIte,reduceCtorEq,Int.reduceToNat,Int.reduceLE,Int.reduceLT,Int.reduceBEq,Int.reduceBNe,a5,a5r0,a5r1,a5r2,a5r3,a5r4,a5r5,a5r6,a5r7,a5r8,a5r9,a5r10,a5r11,a5r12,a5r13,a5r14,a5r15,a5r16,a5r17,a5r18,a5r19,a5r20,a5r21,a5r22,a5r23,a5r24,a5r25,a5r26,a5r27,a5r28]
  (repeat (first | (refine Cl.here ?_; simp only [go_sem,Nat.reduceAdd,Nat.reduceSub,Nat.reduceMul,Nat.reduceEqDiff,Nat.reduceLT,Nat.reduceLeDiff,Nat.reduceBEq,reduceIte,reduceCtorEq,Int.reduceToNat,Int.reduceLE,Int.reduceLT,Int.reduceBEq,Int.reduceBNe]) | simp only [go_sem,Nat.reduceAdd,Nat.reduceSub,Nat.reduceMul,Nat.reduceEqDiff,Nat.reduceLT,Nat.reduceLeDiff,Nat.reduceBEq,reduceIte,reduceCtorEq,Int.reduceToNat,Int.reduceLE,Int.reduceLT,Int.reduceBEq,Int.reduceBNe]))
  (refine callC_of [] [] (by simp) rfl (bindL_clean _ (by first | rfl | simp only [go_sem,Nat.reduceAdd,Nat.reduceSub,Nat.reduceMul,Nat.reduceEqDiff,Nat.reduceLT,Nat.reduceLeDiff,Nat.reduceBEq,reduceIte,reduceCtorEq,Int.reduceToNat,Int.reduceLE,Int.reduceLT,Int.reduceBEq,Int.reduceBNe])) (new_ok l) ?_; rintro _ _ ⟨rfl,rfl⟩; refine ⟨.inl rfl,?_⟩; simp only [go_sem,Nat.reduceAdd,Nat.reduceSub,Nat.reduceMul,Nat.reduceEqDiff,Nat.reduceLT,Nat.reduceLeDiff,Nat.reduceBEq,reduceIte,reduceCtorEq,Int.reduceToNat,Int.reduceLE,Int.reduceLT,Int.reduceBEq,Int.reduceBNe])
  (repeat (first | (refine Cl.here ?_; simp only [go_sem,Nat.reduceAdd,Nat.reduceSub,Nat.reduceMul,Nat.reduceEqDiff,Nat.reduceLT,Nat.reduceLeDiff,Nat.reduceBEq,reduceIte,reduceCtorEq,Int.reduceToNat,Int.reduceLE,Int.reduceLT,Int.reduceBEq,Int.reduceBNe]) | simp only [go_sem,Nat.reduceAdd,Nat.reduceSub,Nat.reduceMul,Nat.reduceEqDiff,Nat.reduceLT,Nat.reduceLeDiff,Nat.reduceBEq,reduceIte,reduceCtorEq,Int.reduceToNat,Int.reduceLE,Int.reduceLT,Int.reduceBEq,Int.reduceBNe]))
  (refine callC_of [0] [] (by decide) (by simp only [go_sem,Nat.reduceAdd,Nat.reduceSub,Nat.reduceMul,Nat.reduceEqDiff,Nat.reduceLT,Nat.reduceLeDiff,Nat.reduceBEq,reduceIte,reduceCtorEq,Int.reduceToNat,Int.reduceLE,Int.reduceLT,Int.reduceBEq,Int.reduceBNe] <;> rfl) (by simp only [go_sem,Nat.reduceAdd,Nat.reduceSub,Nat.reduceMul,Nat.reduceEqDiff,Nat.reduceLT,Nat.reduceLeDiff,Nat.reduceBEq,reduceIte,reduceCtorEq,Int.reduceToNat,Int.reduceLE,Int.reduceLT,Int.reduceBEq,Int.reduceBNe] <;> rfl) (zone_ok l hl 0 (by omega) (by omega)) ?_; rintro _ _ ⟨at1,z,rfl,rfl,h0,h1,hz,hzl⟩; refine ⟨.inl rfl,?_⟩; simp only [go_sem,Nat.reduceAdd,Nat.reduceSub,Nat.reduceMul,Nat.reduceEqDiff,Nat.reduceLT,Nat.reduceLeDiff,Nat.reduceBEq,reduceIte,reduceCtorEq,Int.reduceToNat,Int.reduceLE,Int.reduceLT,Int.reduceBEq,Int.reduceBNe])
  simp only [go_sem,Nat.reduceAdd,Nat.reduceSub,Nat.reduceMul,Nat.reduceEqDiff,Nat.reduceLT,Nat.reduceLeDiff,Nat.reduceBEq,reduceIte,reduceCtorEq,Int.reduceToNat,Int.reduceLE,Int.reduceLT,Int.reduceBEq,Int.reduceBNe,tp,Zn.v]
  (refine callC_of [0] [] (by decide) (by simp only [go_sem,Nat.reduceAdd,Nat.reduceSub,Nat.reduceMul,Nat.reduceEqDiff,Nat.reduceLT,Nat.reduceLeDiff,Nat.reduceBEq,reduceIte,reduceCtorEq,Int.reduceToNat,Int.reduceLE,Int.reduceLT,Int.reduceBEq,Int.reduceBNe] <;> rfl) (by simp only [go_sem,Nat.reduceAdd,Nat.reduceSub,Nat.reduceMul,Nat.reduceEqDiff,Nat.reduceLT,Nat.reduceLeDiff,Nat.reduceBEq,reduceIte,reduceCtorEq,Int.reduceToNat,Int.reduceLE,Int.reduceLT,Int.reduceBEq,Int.reduceBNe] <;> rfl) (tHol_ok l hl false at1 h0 h1) ?_; rintro _ _ ⟨at2,hs,h0,h1,hhl,hhv,rfl,rfl⟩; refine ⟨.inl rfl,?_⟩; simp only [go_sem,Nat.reduceAdd,Nat.reduceSub,Nat.reduceMul,Nat.reduceEqDiff,Nat.reduceLT,Nat.reduceLeDiff,Nat.reduceBEq,reduceIte,reduceCtorEq,Int.reduceToNat,Int.reduceLE,Int.reduceLT,Int.reduceBEq,Int.reduceBNe])
  (refine callC_of [0] [] (by decide) (by simp only [go_sem,Nat.reduceAdd,Nat.reduceSub,Nat.reduceMul,Nat.reduceEqDiff,Nat.reduceLT,Nat.reduceLeDiff,Nat.reduceBEq,reduceIte,reduceCtorEq,Int.reduceToNat,Int.reduceLE,Int.reduceLT,Int.reduceBEq,Int.reduceBNe] <;> rfl) (by simp only [go_sem,Nat.reduceAdd,Nat.reduceSub,Nat.reduceMul,Nat.reduceEqDiff,Nat.reduceLT,Nat.reduceLeDiff,Nat.reduceBEq,reduceIte,reduceCtorEq,Int.reduceToNat,Int.reduceLE,Int.reduceLT,Int.reduceBEq,Int.reduceBNe] <;> rfl) (windows_ok l hl false at2 h0 h1) ?_; rintro _ _ ⟨at3,ws,rfl,rfl,h0,h1,hwl,hws⟩; refine ⟨.inl rfl,?_⟩; simp only [go_sem,Nat.reduceAdd,Nat.reduceSub,Nat.reduceMul,Nat.reduceEqDiff,Nat.reduceLT,Nat.reduceLeDiff,Nat.reduceBEq,reduceIte,reduceCtorEq,Int.reduceToNat,Int.reduceLE,Int.reduceLT,Int.reduceBEq,Int.reduceBNe])
  simp only [go_sem,Nat.reduceAdd,Nat.reduceSub,Nat.reduceMul,Nat.reduceEqDiff,Nat.reduceLT,Nat.reduceLeDiff,Nat.reduceBEq,reduceIte,reduceCtorEq,Int.reduceToNat,Int.reduceLE,Int.reduceLT,Int.reduceBEq,Int.reduceBNe,tp]
  (refine callC_of [0] [] (by decide) (by simp only [go_sem,Nat.reduceAdd,Nat.reduceSub,Nat.reduceMul,Nat.reduceEqDiff,Nat.reduceLT,Nat.reduceLeDiff,Nat.reduceBEq,reduceIte,reduceCtorEq,Int.reduceToNat,Int.reduceLE,Int.reduceLT,Int.reduceBEq,Int.reduceBNe] <;> rfl) (by simp only [go_sem,Nat.reduceAdd,Nat.reduceSub,Nat.reduceMul,Nat.reduceEqDiff,Nat.reduceLT,Nat.reduceLeDiff,Nat.reduceBEq,reduceIte,reduceCtorEq,Int.reduceToNat,Int.reduceLE,Int.reduceLT,Int.reduceBEq,Int.reduceBNe] <;> rfl) (pieces_ok l hl 3 (by omega) (by omega) at3 h0 h1) ?_; rintro _ _ ⟨at4,ps,rfl,rfl,h0,h1,hpl,hps⟩; refine ⟨.inl rfl,?_⟩; simp only [go_sem,Nat.reduceAdd,Nat.reduceSub,Nat.reduceMul,Nat.reduceEqDiff,Nat.reduceLT,Nat.reduceLeDiff,Nat.reduceBEq,reduceIte,reduceCtorEq,Int.reduceToNat,Int.reduceLE,Int.reduceLT,Int.reduceBEq,Int.reduceBNe])
  have hws := hws rfl
  simp only [go_sem,Nat.reduceAdd,Nat.reduceSub,Nat.reduceMul,Nat.reduceEqDiff,Nat.reduceLT,Nat.reduceLeDiff,Nat.reduceBEq,reduceIte,reduceCtorEq,Int.reduceToNat,Int.reduceLE,Int.reduceLT,Int.reduceBEq,Int.reduceBNe,tp]
  (refine Cl.frz [some 4,some 2] [ 1,3] rfl rfl (by simp only [go_sem,Nat.reduceAdd,Nat.reduceSub,Nat.reduceMul,Nat.reduceEqDiff,Nat.reduceLT,Nat.reduceLeDiff,Nat.reduceBEq,reduceIte,reduceCtorEq,Int.reduceToNat,Int.reduceLE,Int.reduceLT,Int.reduceBEq,Int.reduceBNe] <;> rfl) ?_; simp only [go_sem,Nat.reduceAdd,Nat.reduceSub,Nat.reduceMul,Nat.reduceEqDiff,Nat.reduceLT,Nat.reduceLeDiff,Nat.reduceBEq,reduceIte,reduceCtorEq,Int.reduceToNat,Int.reduceLE,Int.reduceLT,Int.reduceBEq,Int.reduceBNe])
  (refine Cl.here ?_; simp only [go_sem,Nat.reduceAdd,Nat.reduceSub,Nat.reduceMul,Nat.reduceEqDiff,Nat.reduceLT,Nat.reduceLeDiff,Nat.reduceBEq,reduceIte,reduceCtorEq,Int.reduceToNat,Int.reduceLE,Int.reduceLT,Int.reduceBEq,Int.reduceBNe])
  (refine Cl.here ?_; simp only [go_sem,Nat.reduceAdd,Nat.reduceSub,Nat.reduceMul,Nat.reduceEqDiff,Nat.reduceLT,Nat.reduceLeDiff,Nat.reduceBEq,reduceIte,reduceCtorEq,Int.reduceToNat,Int.reduceLE,Int.reduceLT,Int.reduceBEq,Int.reduceBNe])
  have hWl : ws.length ≤ 3 := hwl
  refine avcW_loop (fun env rows => ∃ (i : Nat), i ≤ ws.length ∧ env = [(4, .ref 0 1 0 0), (5, .pure 6 (els hs)), (6, .own 1 ws.length 0 ws.length), (7, .pure 4 (els ps)), (8, .int .i64 i)] ∧ rows = [.live 38 2 [[.int .i64 z.off, .pure 2 (els z.ch)]], .live 25 7 (els (wsI ⟨#[97]⟩ ws i))])
    (fun env _ => match slot env 8 with | .int _ j => (ws.length - j).toNat | _ => 0) ?_ ?_
  · exact Cl.here ⟨0, by omega, rfl, by simp [wsI]⟩
  · rintro env rows ⟨i, hi, rfl, rfl⟩
    have hwi : IntKind.i64.wrap ((i : Int) + 1) = ((i + 1 : Nat) : Int) := by rw [wrap_i64 (by omega) (by omega)]; omega
    simp only [go_sem,Nat.reduceAdd,Nat.reduceSub,Nat.reduceMul,Nat.reduceEqDiff,Nat.reduceLT,Nat.reduceLeDiff,Nat.reduceBEq,reduceIte,reduceCtorEq,Int.reduceToNat,Int.reduceLE,Int.reduceLT,Int.reduceBEq,Int.reduceBNe,a5,a5r0,a5r1,a5r2,a5r3,a5r4,a5r5,a5r6,a5r7,a5r8,a5r9,a5r10,a5r11,a5r12,a5r13,a5r14,a5r15,a5r16,a5r17,a5r18,a5r19,a5r20,a5r21,a5r22,a5r23,a5r24,a5r25,a5r26,a5r27,a5r28]
    (refine Cl.here ?_; simp only [go_sem,Nat.reduceAdd,Nat.reduceSub,Nat.reduceMul,Nat.reduceEqDiff,Nat.reduceLT,Nat.reduceLeDiff,Nat.reduceBEq,reduceIte,reduceCtorEq,Int.reduceToNat,Int.reduceLE,Int.reduceLT,Int.reduceBEq,Int.reduceBNe])
    refine condW_intro ?_ ?_ <;> intro hg <;> simp only [decide_eq_true_eq,decide_eq_false_iff_not,beq_iff_eq,beq_eq_false_iff_ne,bne_iff_ne,bne_eq_false_iff_eq,Bool.not_eq_true',Bool.not_eq_false',Int.not_lt,Int.not_le,ne_eq,Bool.and_eq_true,Bool.or_eq_true,Bool.or_eq_false_iff,Bool.and_eq_false_iff] at hg <;> simp only [go_sem,Nat.reduceAdd,Nat.reduceSub,Nat.reduceMul,Nat.reduceEqDiff,Nat.reduceLT,Nat.reduceLeDiff,Nat.reduceBEq,reduceIte,reduceCtorEq,Int.reduceToNat,Int.reduceLE,Int.reduceLT,Int.reduceBEq,Int.reduceBNe,a5,a5r0,a5r1,a5r2,a5r3,a5r4,a5r5,a5r6,a5r7,a5r8,a5r9,a5r10,a5r11,a5r12,a5r13,a5r14,a5r15,a5r16,a5r17,a5r18,a5r19,a5r20,a5r21,a5r22,a5r23,a5r24,a5r25,a5r26,a5r27,a5r28]
    · have hlt : i < ws.length := by omega
      have i0 : (0 : Int) ≤ i := by omega
      (refine Cl.here ?_; simp only [go_sem,Nat.reduceAdd,Nat.reduceSub,Nat.reduceMul,Nat.reduceEqDiff,Nat.reduceLT,Nat.reduceLeDiff,Nat.reduceBEq,reduceIte,reduceCtorEq,Int.reduceToNat,Int.reduceLE,Int.reduceLT,Int.reduceBEq,Int.reduceBNe])
      have hWi := wsI_length ⟨#[97]⟩ ws i
      refine ⟨by omega, i0, by omega, by omega, ?_⟩
      try simp only [Int.toNat_natCast]
      (refine Cl.here ?_; simp only [go_sem,Nat.reduceAdd,Nat.reduceSub,Nat.reduceMul,Nat.reduceEqDiff,Nat.reduceLT,Nat.reduceLeDiff,Nat.reduceBEq,reduceIte,reduceCtorEq,Int.reduceToNat,Int.reduceLE,Int.reduceLT,Int.reduceBEq,Int.reduceBNe])
      rw [hwi, wsI_set hlt]
      refine Cl.here ⟨⟨i + 1, by omega, rfl, rfl⟩, ?_⟩
      simp only [go_sem,Nat.reduceAdd,Nat.reduceSub,Nat.reduceMul,Nat.reduceEqDiff,Nat.reduceLT,Nat.reduceLeDiff,Nat.reduceBEq,reduceIte,reduceCtorEq,Int.reduceToNat,Int.reduceLE,Int.reduceLT,Int.reduceBEq,Int.reduceBNe]
      omega
    · obtain rfl : i = ws.length := by omega
      obtain ⟨W, hW⟩ : ∃ W, W = wsI ⟨#[97]⟩ ws ws.length := ⟨_, rfl⟩
      have hW2 : W = ws.map (sg ⟨#[97]⟩) := by rw [hW, wsI, List.take_length, List.drop_length]; simp
      have hWn : W.length = ws.length := by rw [hW2]; simp
      rw [← hW, ← hWn]
      (refine Cl.frz [some 0] [ 1] rfl rfl (by simp only [go_sem,Nat.reduceAdd,Nat.reduceSub,Nat.reduceMul,Nat.reduceEqDiff,Nat.reduceLT,Nat.reduceLeDiff,Nat.reduceBEq,reduceIte,reduceCtorEq,Int.reduceToNat,Int.reduceLE,Int.reduceLT,Int.reduceBEq,Int.reduceBNe] <;> rfl) ?_; simp only [go_sem,Nat.reduceAdd,Nat.reduceSub,Nat.reduceMul,Nat.reduceEqDiff,Nat.reduceLT,Nat.reduceLeDiff,Nat.reduceBEq,reduceIte,reduceCtorEq,Int.reduceToNat,Int.reduceLE,Int.reduceLT,Int.reduceBEq,Int.reduceBNe])
      refine Cl.here (avcW_of _ ?_)
      simp only [go_sem,Nat.reduceAdd,Nat.reduceSub,Nat.reduceMul,Nat.reduceEqDiff,Nat.reduceLT,Nat.reduceLeDiff,Nat.reduceBEq,reduceIte,reduceCtorEq,Int.reduceToNat,Int.reduceLE,Int.reduceLT,Int.reduceBEq,Int.reduceBNe]
      have hWok : winsP W = true := by
        rw [hW2]
        unfold winsP at *
        rw [List.all_eq_true] at *
        intro w hw
        obtain ⟨x, hx, rfl⟩ := List.mem_map.1 hw
        have := hws x hx
        unfold winP at *
        simp only [Bool.and_eq_true, sg] at *
        exact ⟨⟨this.1.1, by rw [show nameP ⟨#[97]⟩ = true by decide, Bool.or_true]⟩, this.2⟩
      have hWg : ∀ w ∈ W, w.group = ⟨#[97]⟩ := by
        rw [hW2]
        intro w hw
        obtain ⟨x, hx, rfl⟩ := List.mem_map.1 hw
        rfl
      have hW3 : W.length ≤ 3 := by omega
      clear hW hW2 hWn hws
      have hhok := hhv rfl
      have hvp : validP hs = 0 := validP_mk' (by omega) hhok
      have hvl : vldE z hs W = 0 := by unfold vldE; rw [if_pos hz, if_pos hvp, if_neg (by omega), if_pos hWok]
      have hv1 : ∀ w ∈ W, vldE z hs [w] = 0 := fun w hw => by
        have : winsP [w] = true := by
          unfold winsP at *
          rw [List.all_eq_true] at hWok
          simp [hWok w hw]
        unfold vldE; rw [if_pos hz, if_pos hvp, if_neg (by simp), if_pos this]
      have hpe := pcE_made (by omega) hps
      have hM := Mark_ok z hs (by omega) W (by omega) ps (by omega)
      have hme : markE z hs W ps = 0 := by unfold markE; rw [if_pos hvl, hpe]
      simp only [hme, if_true] at hM
      refine callC_of [] [] (by decide) rfl rfl hM ?_
      rintro _ _ ⟨rfl, rfl⟩
      refine ⟨.inl rfl, ?_⟩
      simp only [go_sem,Nat.reduceAdd,Nat.reduceSub,Nat.reduceMul,Nat.reduceEqDiff,Nat.reduceLT,Nat.reduceLeDiff,Nat.reduceBEq,reduceIte,reduceCtorEq,Int.reduceToNat,Int.reduceLE,Int.reduceLT,Int.reduceBEq,Int.reduceBNe]
      have hkb := fun t => anyK_bd z hs W W.length t
      have hkb3 : ∀ t, 0 ≤ anyK z hs W W.length t ∧ anyK z hs W W.length t ≤ 3 := fun t => ⟨(hkb t).1, by have := (hkb t).2; omega⟩
      have hpos := fun m (hm : m ∈ markL z hs W ps) => markL_pos hm
      have htot : pmSum (markL z hs W ps) = spnS (anyK z hs W W.length) ps := by
        rw [markL_sum fun p hp => (hps p hp).1]
        unfold spnS
        congr 1
        refine List.map_congr_left fun p _ => spn_ext fun i _ => wonK_one hWg (by kernel_rfl) _
      have hSb := spnS_bd hkb3 hps
      generalize markL z hs W ps = M at hpos htot ⊢
      refine avc_loop (fun env rows => ∃ (i : Nat), i ≤ ps.length ∧ env = [(4, .ref 0 1 0 0), (5, .pure 6 (els hs)), (6, .pure 7 (els W)), (7, .pure 4 (els ps)), (9, .own 1 M.length 0 M.length), (11, .int .i64 (spnS (anyK z hs W W.length) (ps.take i))), (12, .int .i64 i)] ∧ rows = [.live 38 2 [[.int .i64 z.off, .pure 2 (els z.ch)]], .live 52 3 (els M)])
        (fun env _ => match slot env 12 with | .int _ j => (ps.length - j).toNat | _ => 0) ?_ ?_
      · exact Cl.here ⟨0, by omega, rfl, rfl⟩
      · rintro env rows ⟨i, hi, rfl, rfl⟩
        have hwi : IntKind.i64.wrap ((i : Int) + 1) = ((i + 1 : Nat) : Int) := by rw [wrap_i64 (by omega) (by omega)]; omega
        simp only [go_sem,Nat.reduceAdd,Nat.reduceSub,Nat.reduceMul,Nat.reduceEqDiff,Nat.reduceLT,Nat.reduceLeDiff,Nat.reduceBEq,reduceIte,reduceCtorEq,Int.reduceToNat,Int.reduceLE,Int.reduceLT,Int.reduceBEq,Int.reduceBNe,a5,a5r0,a5r1,a5r2,a5r3,a5r4,a5r5,a5r6,a5r7,a5r8,a5r9,a5r10,a5r11,a5r12,a5r13,a5r14,a5r15,a5r16,a5r17,a5r18,a5r19,a5r20,a5r21,a5r22,a5r23,a5r24,a5r25,a5r26,a5r27,a5r28]
        refine condC_intro ?_ ?_ <;> intro hg <;> simp only [decide_eq_true_eq,decide_eq_false_iff_not,beq_iff_eq,beq_eq_false_iff_ne,bne_iff_ne,bne_eq_false_iff_eq,Bool.not_eq_true',Bool.not_eq_false',Int.not_lt,Int.not_le,ne_eq,Bool.and_eq_true,Bool.or_eq_true,Bool.or_eq_false_iff,Bool.and_eq_false_iff] at hg <;> simp only [go_sem,Nat.reduceAdd,Nat.reduceSub,Nat.reduceMul,Nat.reduceEqDiff,Nat.reduceLT,Nat.reduceLeDiff,Nat.reduceBEq,reduceIte,reduceCtorEq,Int.reduceToNat,Int.reduceLE,Int.reduceLT,Int.reduceBEq,Int.reduceBNe,a5,a5r0,a5r1,a5r2,a5r3,a5r4,a5r5,a5r6,a5r7,a5r8,a5r9,a5r10,a5r11,a5r12,a5r13,a5r14,a5r15,a5r16,a5r17,a5r18,a5r19,a5r20,a5r21,a5r22,a5r23,a5r24,a5r25,a5r26,a5r27,a5r28]
        · have hlt : i < ps.length := by omega
          obtain ⟨hpo, hpl2⟩ := hps _ (List.getElem_mem hlt)
          unfold pcOk at hpo
          have htk := spnS_take (f := anyK z hs W W.length) hlt
          have hS0 := spnS_bd (ps := ps.take i) hkb3 fun p hp => hps p (List.mem_of_mem_take hp)
          rw [List.length_take] at hS0
          have hgp : (els ps).getD i [] = [.int .i64 ps[i].day, .int .i64 ps[i].fr, .int .i64 ps[i].to, .str ps[i].band] := by rw [els_getD hlt, cel_pc]
          have i0 : (0 : Int) ≤ i := by omega
          have i1 : (i : Int) < ps.length := by omega
          generalize ps[i] = p at hpo hpl2 htk hgp
          generalize spnS (anyK z hs W W.length) (ps.take i) = S0 at hS0 htk ⊢
          have hpn : (pcN p : Int) = p.to - p.fr := by unfold pcN; omega
          have hsb := fun k => spn_bd (f := anyK z hs W W.length) (fr := p.fr) (B := 3) (k := k) fun i _ => hkb3 _
          simp only [go_sem,Nat.reduceAdd,Nat.reduceSub,Nat.reduceMul,Nat.reduceEqDiff,Nat.reduceLT,Nat.reduceLeDiff,Nat.reduceBEq,reduceIte,reduceCtorEq,Int.reduceToNat,Int.reduceLE,Int.reduceLT,Int.reduceBEq,Int.reduceBNe,Int.toNat_natCast,hgp,i0,i1]
          refine avc_loop (fun env rows => ∃ (k : Nat), k ≤ pcN p ∧ env = [(4, .ref 0 1 0 0), (5, .pure 6 (els hs)), (6, .pure 7 (els W)), (7, .pure 4 (els ps)), (9, .own 1 M.length 0 M.length), (11, .int .i64 (S0 + spn (anyK z hs W W.length) p.fr k)), (12, .int .i64 i), (13, .int .i64 (p.fr + k))] ∧ rows = [.live 38 2 [[.int .i64 z.off, .pure 2 (els z.ch)]], .live 52 3 (els M)])
            (fun env _ => match slot env 13 with | .int _ t => (p.to - t).toNat | _ => 0) ?_ ?_
          · exact Cl.here ⟨0, by omega, by simp [spn], rfl⟩
          · rintro env rows ⟨k, hk, rfl, rfl⟩
            simp only [go_sem,Nat.reduceAdd,Nat.reduceSub,Nat.reduceMul,Nat.reduceEqDiff,Nat.reduceLT,Nat.reduceLeDiff,Nat.reduceBEq,reduceIte,reduceCtorEq,Int.reduceToNat,Int.reduceLE,Int.reduceLT,Int.reduceBEq,Int.reduceBNe,a5,a5r0,a5r1,a5r2,a5r3,a5r4,a5r5,a5r6,a5r7,a5r8,a5r9,a5r10,a5r11,a5r12,a5r13,a5r14,a5r15,a5r16,a5r17,a5r18,a5r19,a5r20,a5r21,a5r22,a5r23,a5r24,a5r25,a5r26,a5r27,a5r28,Int.toNat_natCast,hgp,i0,i1]
            refine condC_intro ?_ ?_ <;> intro hg3 <;> simp only [decide_eq_true_eq,decide_eq_false_iff_not,beq_iff_eq,beq_eq_false_iff_ne,bne_iff_ne,bne_eq_false_iff_eq,Bool.not_eq_true',Bool.not_eq_false',Int.not_lt,Int.not_le,ne_eq,Bool.and_eq_true,Bool.or_eq_true,Bool.or_eq_false_iff,Bool.and_eq_false_iff] at hg3 <;> simp only [go_sem,Nat.reduceAdd,Nat.reduceSub,Nat.reduceMul,Nat.reduceEqDiff,Nat.reduceLT,Nat.reduceLeDiff,Nat.reduceBEq,reduceIte,reduceCtorEq,Int.reduceToNat,Int.reduceLE,Int.reduceLT,Int.reduceBEq,Int.reduceBNe,a5,a5r0,a5r1,a5r2,a5r3,a5r4,a5r5,a5r6,a5r7,a5r8,a5r9,a5r10,a5r11,a5r12,a5r13,a5r14,a5r15,a5r16,a5r17,a5r18,a5r19,a5r20,a5r21,a5r22,a5r23,a5r24,a5r25,a5r26,a5r27,a5r28]
            · have hkl : k < pcN p := by omega
              have hsk := hsb k
              have hs1 : spn (anyK z hs W W.length) p.fr (k + 1) = spn (anyK z hs W W.length) p.fr k + anyK z hs W W.length (p.fr + k) := rfl
              generalize htt : p.fr + (k : Int) = t at hg3 hs1 ⊢
              have hw15 : IntKind.i64.wrap (t + 1) = p.fr + ((k + 1 : Nat) : Int) := by rw [wrap_i64 (by omega) (by omega)]; omega
              have hCP : ∀ j (hj : j < W.length), CovP z hs W[j] t = covT z hs (gw W j) t := fun j hj => by
                unfold CovP
                rw [hv1 _ (List.getElem_mem hj), gw_get hj]
                simp; omega
              have hSk : 0 ≤ S0 + spn (anyK z hs W W.length) p.fr k ∧ S0 + spn (anyK z hs W W.length) p.fr k ≤ 10000 := by omega
              have hE : S0 + spn (anyK z hs W W.length) p.fr (k + 1) = S0 + spn (anyK z hs W W.length) p.fr k + anyK z hs W W.length t := by omega
              generalize S0 + spn (anyK z hs W W.length) p.fr k = S1 at hSk hE ⊢
              refine avc_loop (fun env rows => ∃ (j : Nat), j ≤ W.length ∧ env = [(4, .ref 0 1 0 0), (5, .pure 6 (els hs)), (6, .pure 7 (els W)), (7, .pure 4 (els ps)), (9, .own 1 M.length 0 M.length), (11, .int .i64 S1), (12, .int .i64 i), (13, .int .i64 t), (14, .bool (someC z hs W t j)), (15, .int .i64 j)] ∧ rows = [.live 38 2 [[.int .i64 z.off, .pure 2 (els z.ch)]], .live 52 3 (els M)])
                (fun env _ => match slot env 15 with | .int _ j => (W.length - j).toNat | _ => 0) ?_ ?_
              · exact Cl.here ⟨0, by omega, rfl, rfl⟩
              · rintro env rows ⟨j, hj, rfl, rfl⟩
                have hwj : IntKind.i64.wrap ((j : Int) + 1) = ((j + 1 : Nat) : Int) := by rw [wrap_i64 (by omega) (by omega)]; omega
                simp only [go_sem,Nat.reduceAdd,Nat.reduceSub,Nat.reduceMul,Nat.reduceEqDiff,Nat.reduceLT,Nat.reduceLeDiff,Nat.reduceBEq,reduceIte,reduceCtorEq,Int.reduceToNat,Int.reduceLE,Int.reduceLT,Int.reduceBEq,Int.reduceBNe,a5,a5r0,a5r1,a5r2,a5r3,a5r4,a5r5,a5r6,a5r7,a5r8,a5r9,a5r10,a5r11,a5r12,a5r13,a5r14,a5r15,a5r16,a5r17,a5r18,a5r19,a5r20,a5r21,a5r22,a5r23,a5r24,a5r25,a5r26,a5r27,a5r28]
                refine condC_intro ?_ ?_ <;> intro hg4 <;> simp only [decide_eq_true_eq,decide_eq_false_iff_not,beq_iff_eq,beq_eq_false_iff_ne,bne_iff_ne,bne_eq_false_iff_eq,Bool.not_eq_true',Bool.not_eq_false',Int.not_lt,Int.not_le,ne_eq,Bool.and_eq_true,Bool.or_eq_true,Bool.or_eq_false_iff,Bool.and_eq_false_iff] at hg4 <;> simp only [go_sem,Nat.reduceAdd,Nat.reduceSub,Nat.reduceMul,Nat.reduceEqDiff,Nat.reduceLT,Nat.reduceLeDiff,Nat.reduceBEq,reduceIte,reduceCtorEq,Int.reduceToNat,Int.reduceLE,Int.reduceLT,Int.reduceBEq,Int.reduceBNe,a5,a5r0,a5r1,a5r2,a5r3,a5r4,a5r5,a5r6,a5r7,a5r8,a5r9,a5r10,a5r11,a5r12,a5r13,a5r14,a5r15,a5r16,a5r17,a5r18,a5r19,a5r20,a5r21,a5r22,a5r23,a5r24,a5r25,a5r26,a5r27,a5r28]
                · have hjl : j < W.length := by omega
                  have hc := hCP j hjl
                  have hss := someC_succ z hs W t j
                  cases hsc : someC z hs W t j
                  · rw [hsc, Bool.false_or] at hss
                    simp only [go_sem,Nat.reduceAdd,Nat.reduceSub,Nat.reduceMul,Nat.reduceEqDiff,Nat.reduceLT,Nat.reduceLeDiff,Nat.reduceBEq,reduceIte,reduceCtorEq,Int.reduceToNat,Int.reduceLE,Int.reduceLT,Int.reduceBEq,Int.reduceBNe,a5,a5r0,a5r1,a5r2,a5r3,a5r4,a5r5,a5r6,a5r7,a5r8,a5r9,a5r10,a5r11,a5r12,a5r13,a5r14,a5r15,a5r16,a5r17,a5r18,a5r19,a5r20,a5r21,a5r22,a5r23,a5r24,a5r25,a5r26,a5r27,a5r28]
                    refine ⟨by omega, by omega, ?_⟩
                    try simp only [Int.toNat_natCast]
                    rw [els_getD hjl]
                    have hC := rCovers_ok z hs (by omega) W[j] t
                    rw [hc] at hC
                    unfold Zn.v at hC
                    rw [cel_win] at hC
                    simp only [go_sem,Nat.reduceAdd,Nat.reduceSub,Nat.reduceMul,Nat.reduceEqDiff,Nat.reduceLT,Nat.reduceLeDiff,Nat.reduceBEq,reduceIte,reduceCtorEq,Int.reduceToNat,Int.reduceLE,Int.reduceLT,Int.reduceBEq,Int.reduceBNe,cel_win]
                    refine callD_det hC rfl rfl ?_
                    simp only [go_sem,Nat.reduceAdd,Nat.reduceSub,Nat.reduceMul,Nat.reduceEqDiff,Nat.reduceLT,Nat.reduceLeDiff,Nat.reduceBEq,reduceIte,reduceCtorEq,Int.reduceToNat,Int.reduceLE,Int.reduceLT,Int.reduceBEq,Int.reduceBNe,hwj]
                    refine Cl.here ⟨⟨j + 1, by omega, by rw [hss], rfl⟩, ?_⟩
                    simp only [go_sem,Nat.reduceAdd,Nat.reduceSub,Nat.reduceMul,Nat.reduceEqDiff,Nat.reduceLT,Nat.reduceLeDiff,Nat.reduceBEq,reduceIte,reduceCtorEq,Int.reduceToNat,Int.reduceLE,Int.reduceLT,Int.reduceBEq,Int.reduceBNe]
                    omega
                  · rw [hsc, Bool.true_or] at hss
                    simp only [go_sem,Nat.reduceAdd,Nat.reduceSub,Nat.reduceMul,Nat.reduceEqDiff,Nat.reduceLT,Nat.reduceLeDiff,Nat.reduceBEq,reduceIte,reduceCtorEq,Int.reduceToNat,Int.reduceLE,Int.reduceLT,Int.reduceBEq,Int.reduceBNe,a5,a5r0,a5r1,a5r2,a5r3,a5r4,a5r5,a5r6,a5r7,a5r8,a5r9,a5r10,a5r11,a5r12,a5r13,a5r14,a5r15,a5r16,a5r17,a5r18,a5r19,a5r20,a5r21,a5r22,a5r23,a5r24,a5r25,a5r26,a5r27,a5r28,hwj]
                    refine Cl.here ⟨⟨j + 1, by omega, by rw [hss], rfl⟩, ?_⟩
                    simp only [go_sem,Nat.reduceAdd,Nat.reduceSub,Nat.reduceMul,Nat.reduceEqDiff,Nat.reduceLT,Nat.reduceLeDiff,Nat.reduceBEq,reduceIte,reduceCtorEq,Int.reduceToNat,Int.reduceLE,Int.reduceLT,Int.reduceBEq,Int.reduceBNe]
                    omega
                · obtain rfl : j = W.length := by omega
                  have hak : anyK z hs W W.length t = if someC z hs W t W.length then 1 else 0 := rfl
                  cases hsc : someC z hs W t W.length
                  · rw [hsc, if_neg (by simp)] at hak
                    simp only [go_sem,Nat.reduceAdd,Nat.reduceSub,Nat.reduceMul,Nat.reduceEqDiff,Nat.reduceLT,Nat.reduceLeDiff,Nat.reduceBEq,reduceIte,reduceCtorEq,Int.reduceToNat,Int.reduceLE,Int.reduceLT,Int.reduceBEq,Int.reduceBNe,hw15]
                    refine Cl.here ⟨⟨k + 1, by omega, by rw [hE, hak, Int.add_zero], rfl⟩, ?_⟩
                    simp only [go_sem,Nat.reduceAdd,Nat.reduceSub,Nat.reduceMul,Nat.reduceEqDiff,Nat.reduceLT,Nat.reduceLeDiff,Nat.reduceBEq,reduceIte,reduceCtorEq,Int.reduceToNat,Int.reduceLE,Int.reduceLT,Int.reduceBEq,Int.reduceBNe]
                    omega
                  · rw [hsc, if_pos rfl] at hak
                    have hwS : IntKind.i64.wrap (S1 + 1) = S0 + spn (anyK z hs W W.length) p.fr (k + 1) := by rw [wrap_i64 (by omega) (by omega)]; omega
                    simp only [go_sem,Nat.reduceAdd,Nat.reduceSub,Nat.reduceMul,Nat.reduceEqDiff,Nat.reduceLT,Nat.reduceLeDiff,Nat.reduceBEq,reduceIte,reduceCtorEq,Int.reduceToNat,Int.reduceLE,Int.reduceLT,Int.reduceBEq,Int.reduceBNe,hw15,hwS]
                    refine Cl.here ⟨⟨k + 1, by omega, rfl, rfl⟩, ?_⟩
                    simp only [go_sem,Nat.reduceAdd,Nat.reduceSub,Nat.reduceMul,Nat.reduceEqDiff,Nat.reduceLT,Nat.reduceLeDiff,Nat.reduceBEq,reduceIte,reduceCtorEq,Int.reduceToNat,Int.reduceLE,Int.reduceLT,Int.reduceBEq,Int.reduceBNe]
                    omega
            · obtain rfl : k = pcN p := by omega
              rw [hwi]
              refine Cl.here ⟨⟨i + 1, by omega, by rw [htk], rfl⟩, ?_⟩
              simp only [go_sem,Nat.reduceAdd,Nat.reduceSub,Nat.reduceMul,Nat.reduceEqDiff,Nat.reduceLT,Nat.reduceLeDiff,Nat.reduceBEq,reduceIte,reduceCtorEq,Int.reduceToNat,Int.reduceLE,Int.reduceLT,Int.reduceBEq,Int.reduceBNe]
              omega
        · obtain rfl : i = ps.length := by omega
          rw [List.take_length, ← htot]
          rw [← htot] at hSb
          have hML := pmSum_len hpos
          refine avc_loop (fun env rows => ∃ (i : Nat), i ≤ M.length ∧ pmSum (M.drop i) ≤ 10000 ∧ env = [(9, .own 0 M.length 0 M.length), (11, .int .i64 (pmSum (M.drop i))), (16, .int .i64 i)] ∧ rows = [.live 52 3 (els M)])
            (fun env _ => match slot env 16 with | .int _ j => (M.length - j).toNat | _ => 0) ?_ ?_
          · (refine Cl.tr [some 1] [] rfl rfl (by simp only [go_sem,Nat.reduceAdd,Nat.reduceSub,Nat.reduceMul,Nat.reduceEqDiff,Nat.reduceLT,Nat.reduceLeDiff,Nat.reduceBEq,reduceIte,reduceCtorEq,Int.reduceToNat,Int.reduceLE,Int.reduceLT,Int.reduceBEq,Int.reduceBNe] <;> rfl) ?_; simp only [go_sem,Nat.reduceAdd,Nat.reduceSub,Nat.reduceMul,Nat.reduceEqDiff,Nat.reduceLT,Nat.reduceLeDiff,Nat.reduceBEq,reduceIte,reduceCtorEq,Int.reduceToNat,Int.reduceLE,Int.reduceLT,Int.reduceBEq,Int.reduceBNe])
            exact Cl.here ⟨0, by omega, by rw [List.drop_zero]; omega, rfl, rfl⟩
          · rintro env rows ⟨i, hi, hb, rfl, rfl⟩
            have hwi : IntKind.i64.wrap ((i : Int) + 1) = ((i + 1 : Nat) : Int) := by rw [wrap_i64 (by omega) (by omega)]; omega
            simp only [go_sem,Nat.reduceAdd,Nat.reduceSub,Nat.reduceMul,Nat.reduceEqDiff,Nat.reduceLT,Nat.reduceLeDiff,Nat.reduceBEq,reduceIte,reduceCtorEq,Int.reduceToNat,Int.reduceLE,Int.reduceLT,Int.reduceBEq,Int.reduceBNe,a5,a5r0,a5r1,a5r2,a5r3,a5r4,a5r5,a5r6,a5r7,a5r8,a5r9,a5r10,a5r11,a5r12,a5r13,a5r14,a5r15,a5r16,a5r17,a5r18,a5r19,a5r20,a5r21,a5r22,a5r23,a5r24,a5r25,a5r26,a5r27,a5r28]
            refine condC_intro ?_ ?_ <;> intro hg <;> simp only [decide_eq_true_eq,decide_eq_false_iff_not,beq_iff_eq,beq_eq_false_iff_ne,bne_iff_ne,bne_eq_false_iff_eq,Bool.not_eq_true',Bool.not_eq_false',Int.not_lt,Int.not_le,ne_eq,Bool.and_eq_true,Bool.or_eq_true,Bool.or_eq_false_iff,Bool.and_eq_false_iff] at hg <;> simp only [go_sem,Nat.reduceAdd,Nat.reduceSub,Nat.reduceMul,Nat.reduceEqDiff,Nat.reduceLT,Nat.reduceLeDiff,Nat.reduceBEq,reduceIte,reduceCtorEq,Int.reduceToNat,Int.reduceLE,Int.reduceLT,Int.reduceBEq,Int.reduceBNe,a5,a5r0,a5r1,a5r2,a5r3,a5r4,a5r5,a5r6,a5r7,a5r8,a5r9,a5r10,a5r11,a5r12,a5r13,a5r14,a5r15,a5r16,a5r17,a5r18,a5r19,a5r20,a5r21,a5r22,a5r23,a5r24,a5r25,a5r26,a5r27,a5r28]
            · have hlt : i < M.length := by omega
              have hdr := pmSum_drop hlt
              have hm1 := hpos _ (List.getElem_mem hlt)
              have hnn := pmSum_nn (M := M.drop (i + 1)) fun m hm => hpos m (List.mem_of_mem_drop hm)
              have hgm : (els M).getD i [] = [.int .i64 M[i].day, .str M[i].name, .int .i64 M[i].min] := by rw [els_getD hlt, cel_pm]
              have i0 : (0 : Int) ≤ i := by omega
              have i1 : (i : Int) < M.length := by omega
              generalize M[i] = m at hdr hm1 hgm
              refine ⟨i0, i1, ?_⟩
              try simp only [Int.toNat_natCast]
              rw [hgm]
              have n1 : ¬ m.min < 1 := by omega
              have hwm : IntKind.i64.wrap (pmSum (M.drop i) - m.min) = pmSum (M.drop (i + 1)) := by rw [wrap_i64 (by omega) (by omega)]; omega
              simp only [go_sem,Nat.reduceAdd,Nat.reduceSub,Nat.reduceMul,Nat.reduceEqDiff,Nat.reduceLT,Nat.reduceLeDiff,Nat.reduceBEq,reduceIte,reduceCtorEq,Int.reduceToNat,Int.reduceLE,Int.reduceLT,Int.reduceBEq,Int.reduceBNe,Int.toNat_natCast,hgm,i0,i1,hwm,hwi]
              refine Cl.here ⟨⟨i + 1, by omega, by omega, rfl, rfl⟩, ?_⟩
              simp only [go_sem,Nat.reduceAdd,Nat.reduceSub,Nat.reduceMul,Nat.reduceEqDiff,Nat.reduceLT,Nat.reduceLeDiff,Nat.reduceBEq,reduceIte,reduceCtorEq,Int.reduceToNat,Int.reduceLE,Int.reduceLT,Int.reduceBEq,Int.reduceBNe]
              omega
            · obtain rfl : i = M.length := by omega
              rw [List.drop_length, show pmSum [] = 0 from rfl]
              simp only [go_sem,Nat.reduceAdd,Nat.reduceSub,Nat.reduceMul,Nat.reduceEqDiff,Nat.reduceLT,Nat.reduceLeDiff,Nat.reduceBEq,reduceIte,reduceCtorEq,Int.reduceToNat,Int.reduceLE,Int.reduceLT,Int.reduceBEq,Int.reduceBNe]
              refine callC_det sane_ok rfl rfl ?_
              simp only [go_sem,Nat.reduceAdd,Nat.reduceSub,Nat.reduceMul,Nat.reduceEqDiff,Nat.reduceLT,Nat.reduceLeDiff,Nat.reduceBEq,reduceIte,reduceCtorEq,Int.reduceToNat,Int.reduceLE,Int.reduceLT,Int.reduceBEq,Int.reduceBNe]
              exact Cl.fin rfl rfl

end Go.Proofs.YtefemdpicjgkeaaDoor
