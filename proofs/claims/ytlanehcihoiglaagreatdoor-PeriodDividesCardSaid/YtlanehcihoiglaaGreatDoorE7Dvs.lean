/- The program and the reference divide alike. -/
import Derived.Test.YtlanehcihoiglaaGreatDoorE7RDiv
set_option linter.unusedSimpArgs false
set_option linter.unusedVariables false
set_option linter.unusedSectionVars false
namespace Go.Proofs.YtlanehcihoiglaaGreatDoor
open Go Go.Abs
set_option linter.unusedSimpArgs false
set_option linter.unusedVariables false

theorem AFn.det_of {P : Program} {f : FuncId} {args : List AVal} {rows : List Row} {Q : AVal → List Row → Prop} {v : AVal} {rs : List Row} (h : AFn P f args rows Q) (hq : ∀ x r, Q x r → x = v ∧ r = rs) : AFn P f args rows (fun x r => x = v ∧ r = rs) := h.mono hq

theorem divides_err (t k a n : Int) (cs : List Int) (m : Int) (hs : List Hol) (hn : -9223372036854775808 ≤ n) (hn2 : n ≤ 9223372036854775807) (hcl : cs.length ≤ 1000) (hl : hs.length ≤ 1024) (he : ¬ wE k a n cs m hs = 0) :
    AFn Tryz.prog 11 [.int .i64 t, .agg [.int .i64 k, .int .i64 a], .int .i64 n, .pure 1 (numsE .i64 cs), .int .i64 m, .pure 6 (els hs)] [] (fun v rs => v = .bool true ∧ rs = []) := by
  have hp : porE k a n cs m hs = wE k a n cs m hs := by unfold porE; rw [if_pos he]
  have hd : divE t k a n cs m hs = wE k a n cs m hs := by unfold divE; rw [if_pos he]
  have c1 := AFn.det_of (v := .tup [.nils, .int .i64 (wE k a n cs m hs)]) (rs := []) (Weights_ok k a n cs m hs hn hn2 (by omega) (by omega)) (fun x r hq => by
    rcases hq with h | h
    · exact h.2
    · exact absurd h.1 he)
  have c2 := AFn.det_of (v := .tup [.nils, .int .i64 (wE k a n cs m hs)]) (rs := []) (rWeights_ok k a n cs m hs hn hn2 hcl hl) (fun x r hq => by
    rcases hq with h | h
    · exact h.2
    · exact absurd h.1 he)
  have c3 := AFn.det_of (v := .tup [.nils, .int .i64 (wE k a n cs m hs)]) (rs := []) (PortionsG_ok k a n cs m hs hn hn2 hcl hl) (fun x r hq => by
    unfold porQ at hq
    rw [hp] at hq
    rcases hq with h | h
    · exact h.2
    · exact absurd h.1 he)
  have c4 := AFn.det_of (v := .tup [.nils, .int .i64 (wE k a n cs m hs)]) (rs := []) (rPortions_ok k a n cs m hs hn hn2 hcl hl) (fun x r hq => by
    unfold porQ at hq
    rw [hp] at hq
    rcases hq with h | h
    · exact h.2
    · exact absurd h.1 he)
  have c5 := AFn.det_of (v := .tup [.nils, .int .i64 (wE k a n cs m hs)]) (rs := []) (DivideG_ok t k a n cs m hs hn hn2 hcl hl) (fun x r hq => by
    unfold divR at hq
    rw [hd] at hq
    rcases hq with h | h
    · exact h.2
    · exact absurd h.1 he)
  have c6 := AFn.det_of (v := .tup [.nils, .int .i64 (wE k a n cs m hs)]) (rs := []) (rDivide_ok t k a n cs m hs hn hn2 hcl hl) (fun x r hq => by
    unfold divR at hq
    rw [hd] at hq
    rcases hq with h | h
    · exact h.2
    · exact absurd h.1 he)
  generalize wE k a n cs m hs = E at *
  refine afn Tryz.func11 a11_ok (by simp [a11]) ?_
  simp only [go_sem,a11,a11r0,a11r1,a11r2,a11r3,a11r4,a11r5,a11r6,a11r7,a11r8,a11r9,a11r10,a11r11,a11r12,a11r13,a11r14]
  refine callC_det c1 rfl rfl ?_
  simp only [go_sem,a11,a11r0,a11r1,a11r2,a11r3,a11r4,a11r5,a11r6,a11r7,a11r8,a11r9,a11r10,a11r11,a11r12,a11r13,a11r14]
  refine callC_det c2 rfl rfl ?_
  simp only [go_sem,a11,a11r0,a11r1,a11r2,a11r3,a11r4,a11r5,a11r6,a11r7,a11r8,a11r9,a11r10,a11r11,a11r12,a11r13,a11r14]
  refine callC_det c3 rfl rfl ?_
  simp only [go_sem,a11,a11r0,a11r1,a11r2,a11r3,a11r4,a11r5,a11r6,a11r7,a11r8,a11r9,a11r10,a11r11,a11r12,a11r13,a11r14]
  refine callC_det c4 rfl rfl ?_
  simp only [go_sem,a11,a11r0,a11r1,a11r2,a11r3,a11r4,a11r5,a11r6,a11r7,a11r8,a11r9,a11r10,a11r11,a11r12,a11r13,a11r14]
  refine callC_det c5 rfl rfl ?_
  simp only [go_sem,a11,a11r0,a11r1,a11r2,a11r3,a11r4,a11r5,a11r6,a11r7,a11r8,a11r9,a11r10,a11r11,a11r12,a11r13,a11r14]
  refine callC_det c6 rfl rfl ?_
  simp only [go_sem,a11,a11r0,a11r1,a11r2,a11r3,a11r4,a11r5,a11r6,a11r7,a11r8,a11r9,a11r10,a11r11,a11r12,a11r13,a11r14,bne_self_eq_false]
  refine avc_loop (fun env rows => slot env 13 = .nils ∧ slot env 25 = .int .i64 0 ∧ ∃ r, rows = r) (fun env _ => 0) ?_ ?_
  · exact Cl.here ⟨rfl, rfl, _, rfl⟩
  rintro env rows ⟨s13, s25, r, rfl⟩
  simp only [go_sem,a11,a11r0,a11r1,a11r2,a11r3,a11r4,a11r5,a11r6,a11r7,a11r8,a11r9,a11r10,a11r11,a11r12,a11r13,a11r14,s13,s25]
  first
    | exact Cl.fin rfl ⟨rfl, rfl⟩
    | ((refine Cl.tr [] [] rfl rfl (by simp only [go_sem] <;> rfl) ?_; simp only [go_sem]); exact Cl.here ⟨rfl,rfl⟩)

set_option maxHeartbeats 2000000 in
theorem divides_good (t k a n : Int) (cs : List Int) (m : Int) (hs : List Hol) (hn : -9223372036854775808 ≤ n) (hn2 : n ≤ 9223372036854775807) (hcl : cs.length ≤ 1000) (hl : hs.length ≤ 1024) (he : wE k a n cs m hs = 0) :
    AFn Tryz.prog 11 [.int .i64 t, .agg [.int .i64 k, .int .i64 a], .int .i64 n, .pure 1 (numsE .i64 cs), .int .i64 m, .pure 6 (els hs)] [] (fun v rs => v = .bool true ∧ rs = []) := by
  have c1 := AFn.det_of (v := .tup [.own 0 (wL k a n cs m hs).length 0 (wL k a n cs m hs).length, .int .i64 0]) (rs := [.live 3 1 (numsE .i64 (wL k a n cs m hs))]) (Weights_ok k a n cs m hs hn hn2 (by omega) (by omega)) (fun x r hq => by
    rcases hq with h | h
    · exact absurd he h.1
    · exact h.2)
  have c2 := AFn.det_of (v := .tup [.own 0 (wL k a n cs m hs).length 0 (wL k a n cs m hs).length, .int .i64 0]) (rs := [.live 3 1 (numsE .i64 (wL k a n cs m hs))]) (rWeights_ok k a n cs m hs hn hn2 hcl hl) (fun x r hq => by
    rcases hq with h | h
    · exact absurd he h.1
    · exact h.2)
  have c3 := PortionsG_ok k a n cs m hs hn hn2 hcl hl
  have c4 := rPortions_ok k a n cs m hs hn hn2 hcl hl
  have c5 := DivideG_ok t k a n cs m hs hn hn2 hcl hl
  have c6 := rDivide_ok t k a n cs m hs hn hn2 hcl hl
  unfold porQ at c3 c4
  unfold divR at c5 c6
  have hPl := porL_len (k := k) (a := a) (n := n) (cs := cs) (m := m) (hs := hs)
  have hDl := raloL_len (t := t) (ws := wL k a n cs m hs)
  have hWl := wL_len he
  generalize raloL t (wL k a n cs m hs) = D at *
  generalize porL k a n cs m hs = P at *
  generalize wL k a n cs m hs = W at *
  generalize porE k a n cs m hs = pE at *
  generalize divE t k a n cs m hs = dE at *
  rw [← hDl] at c5 c6
  have hlp : ((P.length : Int) != P.length) = false := by simp
  have gW : ∀ i, i < W.length → (numsE .i64 W).getD i [] = [.int .i64 (W.getD i 0)] := fun i h => numsE_getD h
  have gD : ∀ i, i < W.length → (numsE .i64 D).getD i [] = [.int .i64 (D.getD i 0)] := fun i h => numsE_getD (by omega)
  have gP : ∀ i, i < P.length → ∃ q1 q2 : Int, (els P).getD i [] = [.int .i64 q1, .int .i64 q2] := fun i h => ⟨P[i].num, P[i].den, by rw [els_getD h, cel_rt]⟩
  refine afnW Tryz.func11 a11_ok (by simp [a11]) ?_
  simp only [go_sem,a11,a11r0,a11r1,a11r2,a11r3,a11r4,a11r5,a11r6,a11r7,a11r8,a11r9,a11r10,a11r11,a11r12,a11r13,a11r14]
  (repeat (first | (refine Cl.here ?_; simp only [go_sem]) | simp only [go_sem]))
  refine callC_of [] [] (by simp) rfl (bindL_clean _ (by first | rfl | simp only [go_sem])) c1 ?_
  rintro _ _ ⟨rfl, rfl⟩
  refine ⟨.inl rfl, ?_⟩
  simp only [go_sem]
  (refine Cl.frz [some 0] [ 1] rfl rfl (by simp only [go_sem] <;> rfl) ?_; simp only [go_sem])
  (repeat (first | (refine Cl.here ?_; simp only [go_sem]) | simp only [go_sem]))
  refine callC_of [] [] (by simp) rfl (bindL_clean _ (by first | rfl | simp only [go_sem])) c2 ?_
  rintro _ _ ⟨rfl, rfl⟩
  refine ⟨.inl rfl, ?_⟩
  simp only [go_sem]
  (refine Cl.frz [some 0] [ 1] rfl rfl (by simp only [go_sem] <;> rfl) ?_; simp only [go_sem])
  (repeat (first | (refine Cl.here ?_; simp only [go_sem]) | simp only [go_sem]))
  by_cases hpE : pE = 0
  · subst hpE
    refine callC_of [] [] (by simp) rfl (bindL_clean _ (by first | rfl | simp only [go_sem])) c3 ?_
    rintro _ _ (⟨h, _⟩ | ⟨_, rfl, rfl⟩)
    · exact absurd rfl h
    refine ⟨.inl rfl, ?_⟩
    simp only [go_sem]
    (refine Cl.frz [some 0] [ 1] rfl rfl (by simp only [go_sem] <;> rfl) ?_; simp only [go_sem])
    (repeat (first | (refine Cl.here ?_; simp only [go_sem]) | simp only [go_sem]))
    refine callC_of [] [] (by simp) rfl (bindL_clean _ (by first | rfl | simp only [go_sem])) c4 ?_
    rintro _ _ (⟨h, _⟩ | ⟨_, rfl, rfl⟩)
    · exact absurd rfl h
    refine ⟨.inl rfl, ?_⟩
    simp only [go_sem]
    (refine Cl.frz [some 0] [ 1] rfl rfl (by simp only [go_sem] <;> rfl) ?_; simp only [go_sem])
    (repeat (first | (refine Cl.here ?_; simp only [go_sem]) | simp only [go_sem]))
    by_cases hdE : dE = 0
    · subst hdE
      refine callC_of [] [] (by simp) rfl (bindL_clean _ (by first | rfl | simp only [go_sem])) c5 ?_
      rintro _ _ (⟨h, _⟩ | ⟨_, rfl, rfl⟩)
      · exact absurd rfl h
      refine ⟨.inl rfl, ?_⟩
      simp only [go_sem]
      (refine Cl.frz [some 0] [ 1] rfl rfl (by simp only [go_sem] <;> rfl) ?_; simp only [go_sem])
      (repeat (first | (refine Cl.here ?_; simp only [go_sem]) | simp only [go_sem]))
      refine callC_of [] [] (by simp) rfl (bindL_clean _ (by first | rfl | simp only [go_sem])) c6 ?_
      rintro _ _ (⟨h, _⟩ | ⟨_, rfl, rfl⟩)
      · exact absurd rfl h
      refine ⟨.inl rfl, ?_⟩
      simp only [go_sem]
      (refine Cl.frz [] [ 1] rfl rfl (by simp only [go_sem] <;> rfl) ?_; simp only [go_sem])
      (repeat (first | (refine Cl.here ?_; simp only [go_sem,bne_self_eq_false]) | simp only [go_sem,bne_self_eq_false]))
      refine avcW_loop (fun env rows => ∃ i : Nat, i ≤ W.length ∧ slot env 13 = .pure 1 (numsE .i64 W) ∧ slot env 15 = .pure 1 (numsE .i64 W) ∧ slot env 17 = .pure 2 (els P) ∧ slot env 19 = .pure 2 (els P) ∧ slot env 21 = .pure 1 (numsE .i64 D) ∧ slot env 23 = .pure 1 (numsE .i64 D) ∧ slot env 25 = .int .i64 i ∧ rows = [])
        (fun env _ => match slot env 25 with | .int _ j => (W.length - j).toNat | _ => 0) ?_ ?_
      · exact Cl.here ⟨0, by omega, rfl, rfl, rfl, rfl, rfl, rfl, rfl, rfl⟩
      rintro env rows ⟨i, hi, s13, s15, s17, s19, s21, s23, s25, rfl⟩
      have hw1 : IntKind.i64.wrap ((i : Int) + 1) = ((i + 1 : Nat) : Int) := by rw [wrap_i64 (by omega) (by omega)]; omega
      have hi0 : (0 : Int) ≤ i := by omega
      simp only [go_sem,a11,a11r0,a11r1,a11r2,a11r3,a11r4,a11r5,a11r6,a11r7,a11r8,a11r9,a11r10,a11r11,a11r12,a11r13,a11r14,s13,s15,s17,s19,s21,s23,s25]
      (refine Cl.here ?_; simp only [go_sem])
      refine condW_intro ?_ ?_ <;> intro hg2 <;> simp only [decide_eq_true_eq,decide_eq_false_iff_not,beq_iff_eq,beq_eq_false_iff_ne,bne_iff_ne,bne_eq_false_iff_eq,Bool.not_eq_true',Bool.not_eq_false',Int.not_lt,Int.not_le,ne_eq,Bool.and_eq_true,Bool.or_eq_true,Bool.or_eq_false_iff,Bool.and_eq_false_iff] at hg2 <;> simp only [go_sem,a11,a11r0,a11r1,a11r2,a11r3,a11r4,a11r5,a11r6,a11r7,a11r8,a11r9,a11r10,a11r11,a11r12,a11r13,a11r14]
      · have hlt : i < W.length := by omega
        have hg2b : (i : Int) < W.length := hg2
        have g1 := gW i hlt
        have hp1 : (i : Int) < P.length := by omega
        obtain ⟨q1, q2, gp⟩ := gP i (by omega)
        have hec : eqCells [.int .i64 q1, .int .i64 q2] [.int .i64 q1, .int .i64 q2] = true := by simp [eqCells]
        have hd1 : (i : Int) < D.length := by omega
        have g3 := gD i hlt
        (repeat (first | (refine Cl.here ?_; simp only [go_sem,hi0,hg2b,Int.toNat_natCast,g1,hp1,hd1,bne_self_eq_false,s13,s15,s17,s19,s21,s23,s25,hw1,gp,hec,Bool.bne_true,Bool.not_true,g3]) | simp only [go_sem,hi0,hg2b,Int.toNat_natCast,g1,hp1,hd1,bne_self_eq_false,s13,s15,s17,s19,s21,s23,s25,hw1,gp,hec,Bool.bne_true,Bool.not_true,g3]))
        exact ⟨⟨i + 1, by omega, by first | rfl | simp⟩, by omega⟩
      · (repeat (first | (refine Cl.here ?_; simp only [go_sem]) | simp only [go_sem]))
        exact Cl.fin rfl ⟨rfl, rfl⟩
    · skip
      refine callC_of [] [] (by simp) rfl (bindL_clean _ (by first | rfl | simp only [go_sem])) c5 ?_
      rintro _ _ (⟨_, rfl, rfl⟩ | ⟨h, _⟩)
      rotate_left
      · first | exact absurd h hpE | exact absurd h hdE
      refine ⟨.inl rfl, ?_⟩
      (repeat (first | (refine Cl.here ?_; simp only [go_sem]) | simp only [go_sem]))
      refine callC_of [] [] (by simp) rfl (bindL_clean _ (by first | rfl | simp only [go_sem])) c6 ?_
      rintro _ _ (⟨_, rfl, rfl⟩ | ⟨h, _⟩)
      rotate_left
      · first | exact absurd h hpE | exact absurd h hdE
      refine ⟨.inl rfl, ?_⟩
      simp only [go_sem]
      (refine Cl.tr [] [] rfl rfl (by simp only [go_sem] <;> rfl) ?_; simp only [go_sem])
      (repeat (first | (refine Cl.here ?_; simp only [go_sem,bne_self_eq_false]) | simp only [go_sem,bne_self_eq_false]))
      refine avcW_loop (fun env rows => ∃ i : Nat, i ≤ W.length ∧ slot env 13 = .pure 1 (numsE .i64 W) ∧ slot env 15 = .pure 1 (numsE .i64 W) ∧ slot env 17 = .pure 2 (els P) ∧ slot env 19 = .pure 2 (els P) ∧ slot env 21 = .nils ∧ slot env 23 = .nils ∧ slot env 25 = .int .i64 i ∧ rows = [])
        (fun env _ => match slot env 25 with | .int _ j => (W.length - j).toNat | _ => 0) ?_ ?_
      · exact Cl.here ⟨0, by omega, rfl, rfl, rfl, rfl, rfl, rfl, rfl, rfl⟩
      rintro env rows ⟨i, hi, s13, s15, s17, s19, s21, s23, s25, rfl⟩
      have hw1 : IntKind.i64.wrap ((i : Int) + 1) = ((i + 1 : Nat) : Int) := by rw [wrap_i64 (by omega) (by omega)]; omega
      have hi0 : (0 : Int) ≤ i := by omega
      simp only [go_sem,a11,a11r0,a11r1,a11r2,a11r3,a11r4,a11r5,a11r6,a11r7,a11r8,a11r9,a11r10,a11r11,a11r12,a11r13,a11r14,s13,s15,s17,s19,s21,s23,s25]
      (refine Cl.here ?_; simp only [go_sem])
      refine condW_intro ?_ ?_ <;> intro hg2 <;> simp only [decide_eq_true_eq,decide_eq_false_iff_not,beq_iff_eq,beq_eq_false_iff_ne,bne_iff_ne,bne_eq_false_iff_eq,Bool.not_eq_true',Bool.not_eq_false',Int.not_lt,Int.not_le,ne_eq,Bool.and_eq_true,Bool.or_eq_true,Bool.or_eq_false_iff,Bool.and_eq_false_iff] at hg2 <;> simp only [go_sem,a11,a11r0,a11r1,a11r2,a11r3,a11r4,a11r5,a11r6,a11r7,a11r8,a11r9,a11r10,a11r11,a11r12,a11r13,a11r14]
      · have hlt : i < W.length := by omega
        have hg2b : (i : Int) < W.length := hg2
        have g1 := gW i hlt
        have hp1 : (i : Int) < P.length := by omega
        obtain ⟨q1, q2, gp⟩ := gP i (by omega)
        have hec : eqCells [.int .i64 q1, .int .i64 q2] [.int .i64 q1, .int .i64 q2] = true := by simp [eqCells]
        have hd1 : ¬ (i : Int) < 0 := by omega
        (repeat (first | (refine Cl.here ?_; simp only [go_sem,hi0,hg2b,Int.toNat_natCast,g1,hp1,hd1,bne_self_eq_false,s13,s15,s17,s19,s21,s23,s25,hw1,gp,hec,Bool.bne_true,Bool.not_true]) | simp only [go_sem,hi0,hg2b,Int.toNat_natCast,g1,hp1,hd1,bne_self_eq_false,s13,s15,s17,s19,s21,s23,s25,hw1,gp,hec,Bool.bne_true,Bool.not_true]))
        exact ⟨⟨i + 1, by omega, by first | rfl | simp⟩, by omega⟩
      · (repeat (first | (refine Cl.here ?_; simp only [go_sem]) | simp only [go_sem]))
        exact Cl.fin rfl ⟨rfl, rfl⟩
  · skip
    refine callC_of [] [] (by simp) rfl (bindL_clean _ (by first | rfl | simp only [go_sem])) c3 ?_
    rintro _ _ (⟨_, rfl, rfl⟩ | ⟨h, _⟩)
    rotate_left
    · first | exact absurd h hpE | exact absurd h hdE
    refine ⟨.inl rfl, ?_⟩
    (repeat (first | (refine Cl.here ?_; simp only [go_sem]) | simp only [go_sem]))
    refine callC_of [] [] (by simp) rfl (bindL_clean _ (by first | rfl | simp only [go_sem])) c4 ?_
    rintro _ _ (⟨_, rfl, rfl⟩ | ⟨h, _⟩)
    rotate_left
    · first | exact absurd h hpE | exact absurd h hdE
    refine ⟨.inl rfl, ?_⟩
    (repeat (first | (refine Cl.here ?_; simp only [go_sem]) | simp only [go_sem]))
    by_cases hdE : dE = 0
    · subst hdE
      refine callC_of [] [] (by simp) rfl (bindL_clean _ (by first | rfl | simp only [go_sem])) c5 ?_
      rintro _ _ (⟨h, _⟩ | ⟨_, rfl, rfl⟩)
      · exact absurd rfl h
      refine ⟨.inl rfl, ?_⟩
      simp only [go_sem]
      (refine Cl.frz [some 0] [ 1] rfl rfl (by simp only [go_sem] <;> rfl) ?_; simp only [go_sem])
      (repeat (first | (refine Cl.here ?_; simp only [go_sem]) | simp only [go_sem]))
      refine callC_of [] [] (by simp) rfl (bindL_clean _ (by first | rfl | simp only [go_sem])) c6 ?_
      rintro _ _ (⟨h, _⟩ | ⟨_, rfl, rfl⟩)
      · exact absurd rfl h
      refine ⟨.inl rfl, ?_⟩
      simp only [go_sem]
      (refine Cl.frz [] [ 1] rfl rfl (by simp only [go_sem] <;> rfl) ?_; simp only [go_sem])
      (repeat (first | (refine Cl.here ?_; simp only [go_sem,bne_self_eq_false]) | simp only [go_sem,bne_self_eq_false]))
      refine avcW_loop (fun env rows => ∃ i : Nat, i ≤ W.length ∧ slot env 13 = .pure 1 (numsE .i64 W) ∧ slot env 15 = .pure 1 (numsE .i64 W) ∧ slot env 17 = .nils ∧ slot env 19 = .nils ∧ slot env 21 = .pure 1 (numsE .i64 D) ∧ slot env 23 = .pure 1 (numsE .i64 D) ∧ slot env 25 = .int .i64 i ∧ rows = [])
        (fun env _ => match slot env 25 with | .int _ j => (W.length - j).toNat | _ => 0) ?_ ?_
      · exact Cl.here ⟨0, by omega, rfl, rfl, rfl, rfl, rfl, rfl, rfl, rfl⟩
      rintro env rows ⟨i, hi, s13, s15, s17, s19, s21, s23, s25, rfl⟩
      have hw1 : IntKind.i64.wrap ((i : Int) + 1) = ((i + 1 : Nat) : Int) := by rw [wrap_i64 (by omega) (by omega)]; omega
      have hi0 : (0 : Int) ≤ i := by omega
      simp only [go_sem,a11,a11r0,a11r1,a11r2,a11r3,a11r4,a11r5,a11r6,a11r7,a11r8,a11r9,a11r10,a11r11,a11r12,a11r13,a11r14,s13,s15,s17,s19,s21,s23,s25]
      (refine Cl.here ?_; simp only [go_sem])
      refine condW_intro ?_ ?_ <;> intro hg2 <;> simp only [decide_eq_true_eq,decide_eq_false_iff_not,beq_iff_eq,beq_eq_false_iff_ne,bne_iff_ne,bne_eq_false_iff_eq,Bool.not_eq_true',Bool.not_eq_false',Int.not_lt,Int.not_le,ne_eq,Bool.and_eq_true,Bool.or_eq_true,Bool.or_eq_false_iff,Bool.and_eq_false_iff] at hg2 <;> simp only [go_sem,a11,a11r0,a11r1,a11r2,a11r3,a11r4,a11r5,a11r6,a11r7,a11r8,a11r9,a11r10,a11r11,a11r12,a11r13,a11r14]
      · have hlt : i < W.length := by omega
        have hg2b : (i : Int) < W.length := hg2
        have g1 := gW i hlt
        have hp1 : ¬ (i : Int) < 0 := by omega
        have hd1 : (i : Int) < D.length := by omega
        have g3 := gD i hlt
        (repeat (first | (refine Cl.here ?_; simp only [go_sem,hi0,hg2b,Int.toNat_natCast,g1,hp1,hd1,bne_self_eq_false,s13,s15,s17,s19,s21,s23,s25,hw1,g3]) | simp only [go_sem,hi0,hg2b,Int.toNat_natCast,g1,hp1,hd1,bne_self_eq_false,s13,s15,s17,s19,s21,s23,s25,hw1,g3]))
        exact ⟨⟨i + 1, by omega, by first | rfl | simp⟩, by omega⟩
      · (repeat (first | (refine Cl.here ?_; simp only [go_sem]) | simp only [go_sem]))
        exact Cl.fin rfl ⟨rfl, rfl⟩
    · skip
      refine callC_of [] [] (by simp) rfl (bindL_clean _ (by first | rfl | simp only [go_sem])) c5 ?_
      rintro _ _ (⟨_, rfl, rfl⟩ | ⟨h, _⟩)
      rotate_left
      · first | exact absurd h hpE | exact absurd h hdE
      refine ⟨.inl rfl, ?_⟩
      (repeat (first | (refine Cl.here ?_; simp only [go_sem]) | simp only [go_sem]))
      refine callC_of [] [] (by simp) rfl (bindL_clean _ (by first | rfl | simp only [go_sem])) c6 ?_
      rintro _ _ (⟨_, rfl, rfl⟩ | ⟨h, _⟩)
      rotate_left
      · first | exact absurd h hpE | exact absurd h hdE
      refine ⟨.inl rfl, ?_⟩
      simp only [go_sem]
      (refine Cl.tr [] [] rfl rfl (by simp only [go_sem] <;> rfl) ?_; simp only [go_sem])
      (repeat (first | (refine Cl.here ?_; simp only [go_sem,bne_self_eq_false]) | simp only [go_sem,bne_self_eq_false]))
      refine avcW_loop (fun env rows => ∃ i : Nat, i ≤ W.length ∧ slot env 13 = .pure 1 (numsE .i64 W) ∧ slot env 15 = .pure 1 (numsE .i64 W) ∧ slot env 17 = .nils ∧ slot env 19 = .nils ∧ slot env 21 = .nils ∧ slot env 23 = .nils ∧ slot env 25 = .int .i64 i ∧ rows = [])
        (fun env _ => match slot env 25 with | .int _ j => (W.length - j).toNat | _ => 0) ?_ ?_
      · exact Cl.here ⟨0, by omega, rfl, rfl, rfl, rfl, rfl, rfl, rfl, rfl⟩
      rintro env rows ⟨i, hi, s13, s15, s17, s19, s21, s23, s25, rfl⟩
      have hw1 : IntKind.i64.wrap ((i : Int) + 1) = ((i + 1 : Nat) : Int) := by rw [wrap_i64 (by omega) (by omega)]; omega
      have hi0 : (0 : Int) ≤ i := by omega
      simp only [go_sem,a11,a11r0,a11r1,a11r2,a11r3,a11r4,a11r5,a11r6,a11r7,a11r8,a11r9,a11r10,a11r11,a11r12,a11r13,a11r14,s13,s15,s17,s19,s21,s23,s25]
      (refine Cl.here ?_; simp only [go_sem])
      refine condW_intro ?_ ?_ <;> intro hg2 <;> simp only [decide_eq_true_eq,decide_eq_false_iff_not,beq_iff_eq,beq_eq_false_iff_ne,bne_iff_ne,bne_eq_false_iff_eq,Bool.not_eq_true',Bool.not_eq_false',Int.not_lt,Int.not_le,ne_eq,Bool.and_eq_true,Bool.or_eq_true,Bool.or_eq_false_iff,Bool.and_eq_false_iff] at hg2 <;> simp only [go_sem,a11,a11r0,a11r1,a11r2,a11r3,a11r4,a11r5,a11r6,a11r7,a11r8,a11r9,a11r10,a11r11,a11r12,a11r13,a11r14]
      · have hlt : i < W.length := by omega
        have hg2b : (i : Int) < W.length := hg2
        have g1 := gW i hlt
        have hp1 : ¬ (i : Int) < 0 := by omega
        have hd1 : ¬ (i : Int) < 0 := by omega
        (repeat (first | (refine Cl.here ?_; simp only [go_sem,hi0,hg2b,Int.toNat_natCast,g1,hp1,hd1,bne_self_eq_false,s13,s15,s17,s19,s21,s23,s25,hw1]) | simp only [go_sem,hi0,hg2b,Int.toNat_natCast,g1,hp1,hd1,bne_self_eq_false,s13,s15,s17,s19,s21,s23,s25,hw1]))
        exact ⟨⟨i + 1, by omega, by first | rfl | simp⟩, by omega⟩
      · (repeat (first | (refine Cl.here ?_; simp only [go_sem]) | simp only [go_sem]))
        exact Cl.fin rfl ⟨rfl, rfl⟩

end Go.Proofs.YtlanehcihoiglaaGreatDoor
