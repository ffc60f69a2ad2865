/- PremiumMarks: the walk. -/
import Derived.Test.YtefemdpicjgkeaaGreatDoorZ8Spl
import Derived.Test.YtefemdpicjgkeaaGreatDoorZ8San
import Derived.Test.YtefemdpicjgkeaaGreatDoorZ8RMrk2
set_option linter.unusedSimpArgs false
set_option linter.unusedVariables false
set_option linter.unusedSectionVars false
namespace Go.Proofs.YtefemdpicjgkeaaGreatDoor
open Go Go.Abs
set_option linter.unusedSimpArgs false
set_option linter.unusedVariables false

theorem sameP_ok (L : List Pm) (hl : L.length ≤ 9223372036854775806) : AFn Tryz.prog 14 [.pure 3 (els L), .pure 3 (els L)] [] (fun v rs => v = .bool true ∧ rs = []) := by
  refine afn Tryz.func14 a14_ok (by simp [a14]) ?_
  simp only [go_sem,a14,a14r0,a14r1,a14r2,a14r3,a14r4,a14r5,a14r6,a14r7,a14r8,bne_self_eq_false]
  refine avc_loop (fun env rows => ∃ i : Nat, i ≤ L.length ∧ env = [(0, .pure 3 (els L)), (1, .pure 3 (els L)), (5, .int .i64 i)] ∧ rows = [])
    (fun env _ => match slot env 5 with | .int _ j => (L.length - j).toNat | _ => 0) ?_ ?_
  · exact Cl.here ⟨0, by omega, rfl, rfl⟩
  · rintro env rows ⟨i, hi, rfl, rfl⟩
    have hw : IntKind.i64.wrap ((i : Int) + 1) = ((i + 1 : Nat) : Int) := by rw [wrap_i64 (by omega) (by omega)]; omega
    simp only [go_sem,a14,a14r0,a14r1,a14r2,a14r3,a14r4,a14r5,a14r6,a14r7,a14r8]
    refine condC_intro ?_ ?_ <;> intro hg2 <;> simp only [decide_eq_true_eq,decide_eq_false_iff_not,beq_iff_eq,beq_eq_false_iff_ne,bne_iff_ne,bne_eq_false_iff_eq,Bool.not_eq_true',Bool.not_eq_false',Int.not_lt,Int.not_le,ne_eq,Bool.and_eq_true,Bool.or_eq_true,Bool.or_eq_false_iff,Bool.and_eq_false_iff] at hg2 <;> simp only [go_sem,a14,a14r0,a14r1,a14r2,a14r3,a14r4,a14r5,a14r6,a14r7,a14r8]
    · have hlt : i < L.length := by omega
      have hgm : (els L).getD i [] = [.int .i64 L[i].day, .str L[i].name, .int .i64 L[i].min] := by rw [els_getD hlt, cel_pm]
      generalize L[i] = m at hgm
      simp only [Int.toNat_natCast, hgm]
      simp only [go_sem,bne_self_eq_false,beq_self_eq_true,hw]
      refine ⟨by omega, by omega, by omega, by omega, ?_⟩
      refine Cl.here ⟨⟨i + 1, by omega, rfl, rfl⟩, ?_⟩
      simp only [go_sem]
      omega
    · exact Cl.fin rfl ⟨rfl, rfl⟩

theorem sameN_ok : AFn Tryz.prog 14 [.nils, .nils] [] (fun v rs => v = .bool true ∧ rs = []) := (sameP_ok [] (by simp)).le (by simp [leL, le, els])

set_option maxHeartbeats 4000000 in
theorem premiumMarks (l : List Int) (hl : TapeOk l) : AFn Tryz.prog 3 [.pure 1 (numsE .i64 l)] [] (fun v _ => v = .bool true) := by
  refine afnW Tryz.func3 a3_ok (by simp [a3]) ?_
  simp only [go_sem,a3,a3r0,a3r1,a3r2,a3r3,a3r4,a3r5,a3r6,a3r7,a3r8,a3r9,a3r10,a3r11,a3r12]
  (repeat (first | (refine Cl.here ?_; simp only [go_sem]) | simp only [go_sem]))
  (refine callC_of [] [] (by simp) rfl (bindL_clean _ (by first | rfl | simp only [go_sem])) (new_ok l) ?_; rintro _ _ ⟨rfl,rfl⟩; refine ⟨.inl rfl,?_⟩; simp only [go_sem])
  (refine Cl.here ?_; simp only [go_sem])
  (refine Cl.here ?_; simp only [go_sem])
  unfold tp
  refine avcW_loop (fun env rows => ∃ (a : Int) (i : Nat), i ≤ 2 ∧ 0 ≤ a ∧ a ≤ l.length ∧ env = [(3, .ref 0 1 0 0), (4, .int .i64 i)] ∧ rows = [tapeRow 47 l a])
    (fun env _ => match slot env 4 with | .int _ j => (2 - j).toNat | _ => 0) ?_ ?_
  · exact Cl.here ⟨0, 0, by omega, by omega, by omega, rfl, rfl⟩
  · rintro env rows ⟨at0, i, hi, h0, h1, rfl, rfl⟩
    have hwi : IntKind.i64.wrap ((i : Int) + 1) = ((i + 1 : Nat) : Int) := by rw [wrap_i64 (by omega) (by omega)]; omega
    simp only [go_sem,a3,a3r0,a3r1,a3r2,a3r3,a3r4,a3r5,a3r6,a3r7,a3r8,a3r9,a3r10,a3r11,a3r12]
    (refine Cl.here ?_; simp only [go_sem])
    refine condW_intro ?_ ?_ <;> intro hg <;> simp only [decide_eq_true_eq,decide_eq_false_iff_not,beq_iff_eq,beq_eq_false_iff_ne,bne_iff_ne,bne_eq_false_iff_eq,Bool.not_eq_true',Bool.not_eq_false',Int.not_lt,Int.not_le,ne_eq,Bool.and_eq_true,Bool.or_eq_true,Bool.or_eq_false_iff,Bool.and_eq_false_iff] at hg <;> simp only [go_sem,a3,a3r0,a3r1,a3r2,a3r3,a3r4,a3r5,a3r6,a3r7,a3r8,a3r9,a3r10,a3r11,a3r12]
    · (refine Cl.here ?_; simp only [go_sem])
      (refine callC_of [0] [] (by decide) (by simp only [go_sem] <;> rfl) (by simp only [go_sem] <;> rfl) (zone_ok l hl at0 h0 h1) ?_; rintro _ _ ⟨at1,z,rfl,rfl,h0,h1,hz,hzl⟩; refine ⟨.inl rfl,?_⟩; simp only [go_sem])
      simp only [go_sem,tp,Zn.v]
      (refine callC_of [0] [] (by decide) (by simp only [go_sem] <;> rfl) (by simp only [go_sem] <;> rfl) (tHol_ok l hl true at1 h0 h1) ?_; rintro _ _ ⟨at2,hs,h0,h1,hhl,hhv,rfl,rfl⟩; refine ⟨.inl rfl,?_⟩; simp only [go_sem])
      (refine callC_of [0] [] (by decide) (by simp only [go_sem] <;> rfl) (by simp only [go_sem] <;> rfl) (windows_ok l hl true at2 h0 h1) ?_; rintro _ _ ⟨at3,ws,rfl,rfl,h0,h1,hwl,hws⟩; refine ⟨.inl rfl,?_⟩; simp only [go_sem])
      simp only [go_sem,tp]
      (refine callC_of [0] [] (by decide) (by simp only [go_sem] <;> rfl) (by simp only [go_sem] <;> rfl) (pieces_ok l hl 4 (by omega) (by omega) at3 h0 h1) ?_; rintro _ _ ⟨at4,ps,rfl,rfl,h0,h1,hpl,hps⟩; refine ⟨.inl rfl,?_⟩; simp only [go_sem])
      simp only [go_sem,tp]
      (refine callC_of [0,3] [] (by decide) (by simp only [go_sem] <;> rfl) (by simp only [go_sem] <;> rfl) (spoil_ok l hl ps hpl at4 h0 h1) ?_; rintro _ _ ⟨at5,qs,rfl,rfl,h0,h1,hql⟩; refine ⟨.inl rfl,?_⟩; simp only [go_sem])
      simp only [go_sem,tp]
      (refine Cl.frz [some 0,some 4] [ 1,2,3] rfl rfl (by simp only [go_sem] <;> rfl) ?_; simp only [go_sem])
      (refine Cl.here ?_; simp only [go_sem])
      (refine callC_tape (next_ok l hl 10 (by omega)) rfl rfl (by omega) (by omega) ?_; rintro _ at_ _ _ ⟨ q,rfl,_,_⟩; simp only [go_sem])
      (refine Cl.here ?_; simp only [go_sem])
      refine condW_cut (fun env rows => ∃ (a : Int) (y : Zn), y.ch.length ≤ 4 ∧ 0 ≤ a ∧ a ≤ l.length ∧ slot env 3 = .ref 0 1 0 0 ∧ slot env 4 = .int .i64 i ∧ slot env 5 = .ref 1 1 0 0 ∧ slot env 6 = .pure 6 (els hs) ∧ slot env 7 = .pure 7 (els ws) ∧ slot env 8 = .pure 4 (els qs) ∧ rows = [tapeRow 47 l a, .live 27 2 [[.int .i64 y.off, .pure 2 (els y.ch)]]]) ?_ ?_ ?_
      · intro hq
        simp only [go_sem,a3,a3r0,a3r1,a3r2,a3r3,a3r4,a3r5,a3r6,a3r7,a3r8,a3r9,a3r10,a3r11,a3r12]
        (refine callC_of [0] [] (by decide) (by simp only [go_sem] <;> rfl) (by simp only [go_sem] <;> rfl) (spoilZone_ok l hl z hzl at_ (by omega) (by omega)) ?_; rintro _ _ ⟨at6,y,rfl,rfl,h2,h3,hyl⟩; refine ⟨.inl rfl,?_⟩; simp only [go_sem])
        simp only [go_sem,tp,Zn.v]
        exact ⟨at6, y, hyl, h2, h3, rfl⟩
      · intro hq
        simp only [go_sem,a3,a3r0,a3r1,a3r2,a3r3,a3r4,a3r5,a3r6,a3r7,a3r8,a3r9,a3r10,a3r11,a3r12]
        exact ⟨at_, z, by omega, by omega, by omega, rfl⟩
      · rintro env _ ⟨a, y, hyl, ha0, ha1, s3, s4, s5, s6, s7, s8, rfl⟩
        refine Cl.here ?_
        simp only [go_sem,a3,a3r0,a3r1,a3r2,a3r3,a3r4,a3r5,a3r6,a3r7,a3r8,a3r9,a3r10,a3r11,a3r12,s3,s4,s5,s6,s7,s8]
        have hM := Mark_ok y hs (by omega) ws (by omega) qs (by omega)
        have hR := rMark_ok y hs (by omega) ws (by omega) qs (by omega)
        have hV := PValid_ok y hs (by omega) ws (by omega)
        have hW := rPValid_ok y hs (by omega) ws (by omega)
        by_cases hE : markE y hs ws qs = 0
        · simp only [hE, if_true] at hM hR
          have hLl : (markL y hs ws qs).length ≤ 9223372036854775806 := by
            have h2 := preL_length (z := y) (h := hs) (ws := ws) (ps := qs) (Nat.le_refl (srt (daysK qs)).length)
            have h3 : (preL y hs ws qs (srt (daysK qs)).length) = markL y hs ws qs := by unfold markL preL; rw [List.take_length]
            rw [h3] at h2
            have h4 := daysK_length qs
            have h5 := srt_length (daysK qs)
            have : (srt (daysK qs)).length * ws.length ≤ 4 * 3 := Nat.mul_le_mul (by omega) hwl
            omega
          generalize markL y hs ws qs = L at hM hR hLl
          refine callC_of [] [] (by decide) rfl (bindL_clean _ (by first | rfl | simp only [go_sem])) hM ?_
          rintro _ _ ⟨rfl, rfl⟩
          refine ⟨.inl rfl, ?_⟩
          simp only [go_sem,s3,s4,s5,s6,s7,s8]
          clear s3 s4 s5 s6 s7 s8 env
          (refine Cl.frz [some 0,some 1] [ 2] rfl rfl (by simp only [go_sem] <;> rfl) ?_; simp only [go_sem])
          (refine Cl.here ?_; simp only [go_sem])
          refine callC_of [] [] (by decide) rfl (bindL_clean _ (by first | rfl | simp only [go_sem])) hR ?_
          rintro _ _ ⟨rfl, rfl⟩
          refine ⟨.inl rfl, ?_⟩
          simp only [go_sem]
          (refine Cl.frz [some 0,some 1] [ 2] rfl rfl (by simp only [go_sem] <;> rfl) ?_; simp only [go_sem])
          (refine Cl.here ?_; simp only [go_sem])
          refine callD_det (sameP_ok L hLl) rfl rfl ?_
          simp only [go_sem]
          refine callD_det hV rfl rfl ?_
          simp only [go_sem]
          refine callD_det hW rfl rfl ?_
          simp only [go_sem,bne_self_eq_false]
          (refine Cl.here ?_; simp only [go_sem])
          (refine Cl.here ?_; simp only [go_sem])
          rw [hwi]
          (refine Cl.tr [some 0] [] rfl rfl (by simp only [go_sem] <;> rfl) ?_; simp only [go_sem])
          refine Cl.here ⟨⟨a, i + 1, by omega, ha0, ha1, rfl, rfl⟩, ?_⟩
          simp only [go_sem]
          omega
        · simp only [hE, if_false] at hM hR
          refine callC_of [] [] (by decide) rfl (bindL_clean _ (by first | rfl | simp only [go_sem])) hM ?_
          rintro _ _ ⟨rfl, rfl⟩
          refine ⟨.inl rfl, ?_⟩
          simp only [go_sem,s3,s4,s5,s6,s7,s8]
          clear s3 s4 s5 s6 s7 s8 env
          (refine Cl.here ?_; simp only [go_sem])
          refine callC_of [] [] (by decide) rfl (bindL_clean _ (by first | rfl | simp only [go_sem])) hR ?_
          rintro _ _ ⟨rfl, rfl⟩
          refine ⟨.inl rfl, ?_⟩
          simp only [go_sem]
          (refine Cl.here ?_; simp only [go_sem])
          refine callD_det sameN_ok rfl rfl ?_
          simp only [go_sem,bne_self_eq_false]
          refine callD_det hV rfl rfl ?_
          simp only [go_sem]
          refine callD_det hW rfl rfl ?_
          simp only [go_sem,bne_self_eq_false]
          (refine Cl.here ?_; simp only [go_sem])
          (refine Cl.here ?_; simp only [go_sem])
          rw [hwi]
          (refine Cl.tr [some 0] [] rfl rfl (by simp only [go_sem] <;> rfl) ?_; simp only [go_sem])
          refine Cl.here ⟨⟨a, i + 1, by omega, ha0, ha1, rfl, rfl⟩, ?_⟩
          simp only [go_sem]
          omega
    · (refine Cl.here ?_; simp only [go_sem])
      refine callC_det sane_ok rfl rfl ?_
      simp only [go_sem]
      refine Cl.here ?_
      simp only [go_sem]
      exact Cl.fin rfl rfl

end Go.Proofs.YtefemdpicjgkeaaGreatDoor
