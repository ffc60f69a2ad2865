/- The law PeriodDivides. -/
import Derived.Test.YtlanehcihoiglaaGreatDoorE7Cut
import Derived.Test.YtlanehcihoiglaaGreatDoorE7Sane
set_option linter.unusedSimpArgs false
set_option linter.unusedVariables false
set_option linter.unusedSectionVars false
namespace Go.Proofs.YtlanehcihoiglaaGreatDoor
open Go Go.Abs
set_option linter.unusedSimpArgs false
set_option linter.unusedVariables false

set_option maxHeartbeats 4000000 in
theorem periodDivides (l : List Int) (hl : TapeOk l) (am : Int) (cs0 : List Int) (hs0 : List Hol) : AFn Tryz.prog 3 [.pure 1 (numsE .i64 l), .int .i64 am, .pure 1 (numsE .i64 cs0), .pure 6 (els hs0)] [] (fun v _ => v = .bool true) := by
  refine afnW Tryz.func3 a3_ok (by simp [a3]) ?_
  simp only [go_sem,a3,a3r0,a3r1,a3r2,a3r3,a3r4,a3r5,a3r6,a3r7,a3r8,a3r9,a3r10,a3r11,a3r12,a3r13]
  (repeat (first | (refine Cl.here ?_; simp only [go_sem]) | simp only [go_sem]))
  (refine callC_of [] [] (by simp) rfl (bindL_clean _ (by first | rfl | simp only [go_sem])) (new_ok l) ?_; rintro _ _ ⟨rfl,rfl⟩; refine ⟨.inl rfl,?_⟩; simp only [go_sem])
  unfold tp
  (repeat (first | (refine Cl.here ?_; simp only [go_sem]) | simp only [go_sem]))
  refine avcW_loop (fun env rows => ∃ (at_ : Int) (i : Nat), 0 ≤ at_ ∧ at_ ≤ l.length ∧ i ≤ 3 ∧ env = [(1, .int .i64 am), (2, .pure 1 (numsE .i64 cs0)), (3, .pure 6 (els hs0)), (9, .ref 0 1 0 0), (10, .int .i64 i)] ∧ rows = [tapeRow 44 l at_])
    (fun env _ => match slot env 10 with | .int _ j => (3 - j).toNat | _ => 0) ?_ ?_
  · exact Cl.here ⟨0, 0, by omega, by omega, by omega, rfl, rfl⟩
  rintro env rows ⟨at_, i, h0, h1, hi, rfl, rfl⟩
  have hw1 : IntKind.i64.wrap ((i : Int) + 1) = ((i + 1 : Nat) : Int) := by rw [wrap_i64 (by omega) (by omega)]; omega
  simp only [go_sem,a3,a3r0,a3r1,a3r2,a3r3,a3r4,a3r5,a3r6,a3r7,a3r8,a3r9,a3r10,a3r11,a3r12,a3r13]
  (refine Cl.here ?_; simp only [go_sem])
  refine condW_intro ?_ ?_ <;> intro hg1 <;> simp only [decide_eq_true_eq,decide_eq_false_iff_not,beq_iff_eq,beq_eq_false_iff_ne,bne_iff_ne,bne_eq_false_iff_eq,Bool.not_eq_true',Bool.not_eq_false',Int.not_lt,Int.not_le,ne_eq,Bool.and_eq_true,Bool.or_eq_true,Bool.or_eq_false_iff,Bool.and_eq_false_iff] at hg1 <;> simp only [go_sem,a3,a3r0,a3r1,a3r2,a3r3,a3r4,a3r5,a3r6,a3r7,a3r8,a3r9,a3r10,a3r11,a3r12,a3r13]
  · (repeat (first | (refine Cl.here ?_; simp only [go_sem]) | simp only [go_sem]))
    refine callC_tape (tcal_ok l hl true) rfl rfl h0 h1 ?_
    rintro _ at1 h0 h1 ⟨k, a, rfl, _⟩
    (repeat (first | (refine Cl.here ?_; simp only [go_sem]) | simp only [go_sem]))
    refine callD_tape (tdayB_ok l hl) (by simp only [go_sem]) rfl rfl h0 h1 ?_
    rintro _ at2 h0 h1 ⟨x, rfl, hx⟩
    simp only [go_sem]
    have hO : ∃ n e : Int, 0 ≤ n ∧ n ≤ 84020 ∧ AFn Tryz.prog 6 [.agg [.int .i64 k, .int .i64 a], .int .i64 x] [] (fun v rs => v = .tup [.int .i64 n, .int .i64 e] ∧ rs = []) := by
      have hO := rOf_ok k a x
      by_cases hc : calE k a = 0
      · rw [if_neg (fun e => e hc), if_pos hx] at hO
        have hb := ofP_bd hc hx
        exact ⟨_, _, hb.1, hb.2, hO⟩
      · rw [if_pos hc] at hO
        exact ⟨0, calE k a, by omega, by omega, hO⟩
    obtain ⟨n, e, hn0, hn1, hO⟩ := hO
    refine callD_det hO rfl rfl ?_
    have hS : ∃ f t e : Int, 0 ≤ f ∧ f ≤ 84005 ∧ AFn Tryz.prog 8 [.agg [.int .i64 k, .int .i64 a], .int .i64 n] [] (fun v rs => v = .tup [.agg [.int .i64 f, .int .i64 t], .int .i64 e] ∧ rs = []) := by
      have hS := rSpan_ok k a n (by omega) (by omega)
      by_cases hc : calE k a = 0
      · rw [if_neg (fun e => e hc)] at hS
        by_cases hn : 0 ≤ n ∧ n < cntP k a
        · rw [if_pos hn] at hS
          obtain ⟨b0, b1, b2, b3⟩ := sp_bd hc hn
          exact ⟨_, _, _, b0, by omega, hS⟩
        · rw [if_neg hn] at hS
          exact ⟨0, 0, _, by omega, by omega, hS⟩
      · rw [if_pos hc] at hS
        exact ⟨0, 0, _, by omega, by omega, hS⟩
    obtain ⟨f, t, e2, hf0, hf1, hS⟩ := hS
    (repeat (first | (refine Cl.here ?_; simp only [go_sem]) | simp only [go_sem]))
    refine callC_det hS rfl rfl ?_
    (repeat (first | (refine Cl.here ?_; simp only [go_sem]) | simp only [go_sem]))
    (refine callC_of [0] [] (by decide) (by simp only [go_sem] <;> rfl) (by simp only [go_sem] <;> rfl) (cuts_ok l hl f t at2 hf0 hf1 h0 h1) ?_; rintro _ _ ⟨at3,cs1,h0,h1,hcl,rfl,rfl⟩; refine ⟨.inl rfl,?_⟩; simp only [go_sem])
    (refine callC_of [0] [] (by decide) (by simp only [go_sem] <;> rfl) (by simp only [go_sem] <;> rfl) (tHol_ok l hl true at3 h0 h1) ?_; rintro _ _ ⟨at4,hs1,h0,h1,hhl,hv,rfl,rfl⟩; refine ⟨.inl rfl,?_⟩; simp only [go_sem])
    (refine Cl.frz [some 0,some 1] [ 3,4] rfl rfl (by simp only [go_sem] <;> rfl) ?_; simp only [go_sem])
    refine Cl.here (avcW_seq_cut (fun env rows => ∃ (X : List Int) (H : List Hol), X.length ≤ 40 ∧ H.length ≤ 6 ∧ norm [1, 2, 3, 9, 10, 11, 12, 16, 17] env = [(1, .int .i64 am), (2, .pure 1 (numsE .i64 cs0)), (3, .pure 6 (els hs0)), (9, .ref 0 1 0 0), (10, .int .i64 i), (11, .ref 1 1 0 0), (12, .int .i64 n), (16, .pure 1 (numsE .i64 X)), (17, .pure 6 (els H))] ∧ rows = [tapeRow 44 l at4, .live 27 2 [[.int .i64 k, .int .i64 a]]]) ?_ ?_)
    · simp only [go_sem]
      by_cases h2 : (i : Int) = 2
      · have hb : ((i : Int) == 2) = true := by simp [h2]
        by_cases hcc : (cs0.length : Int) ≤ 40
        · by_cases hhh : (hs0.length : Int) ≤ 6
          · simp only [go_sem,hb,hcc,hhh]
            repeat (refine Cl.here ?_; simp only [go_sem])
            exact ⟨cs0, hs0, by omega, by omega, by first | rfl | exact ⟨rfl, rfl⟩⟩
          · simp only [go_sem,hb,hcc,hhh]
            repeat (refine Cl.here ?_; simp only [go_sem])
            exact ⟨cs1, hs1, by omega, by omega, by first | rfl | exact ⟨rfl, rfl⟩⟩
        · simp only [go_sem,hb,hcc]
          repeat (refine Cl.here ?_; simp only [go_sem])
          exact ⟨cs1, hs1, by omega, by omega, by first | rfl | exact ⟨rfl, rfl⟩⟩
      · have hb : ((i : Int) == 2) = false := by simp [h2]
        simp only [go_sem,hb]
        repeat (refine Cl.here ?_; simp only [go_sem])
        exact ⟨cs1, hs1, by omega, by omega, by first | rfl | exact ⟨rfl, rfl⟩⟩
    rintro env rows ⟨X, H, hX, hH, hnm, rfl⟩
    refine Cl.norm [1, 2, 3, 9, 10, 11, 12, 16, 17] ?_
    rw [hnm]
    (refine Cl.here ?_; simp only [go_sem])
    (refine callD_pick [100,31,-7,am,0] (pick_ok l hl _ (by simp) (by simp)) (by simp only [go_sem]) rfl rfl rfl rfl rfl (by decide) (by omega) (by omega) ?_; rintro _ at_ _ _ ⟨u,hmem,rfl⟩; simp only [List.mem_cons,List.not_mem_nil,or_false] at hmem; simp only [go_sem])
    clear hmem
    (refine callD_pick [0,1,2,0,1,2,3,-1] (pick_ok l hl _ (by simp) (by simp)) (by simp only [go_sem]) rfl rfl rfl rfl rfl (by decide) (by omega) (by omega) ?_; rintro _ at_ _ _ ⟨m,hmem,rfl⟩; simp only [List.mem_cons,List.not_mem_nil,or_false] at hmem; simp only [go_sem])
    clear hmem
    refine callD_det (divides_ok u k a n X m H (by omega) (by omega) (by omega) (by omega)) rfl rfl ?_
    simp only [go_sem]
    (refine Cl.tr [some 0] [] rfl rfl (by simp only [go_sem] <;> rfl) ?_; simp only [go_sem])
    (repeat (first | (refine Cl.here ?_; simp only [go_sem,hw1]) | simp only [go_sem,hw1]))
    exact ⟨⟨at_, i + 1, by omega, by omega, by omega, rfl, rfl⟩, by omega⟩
  · (repeat (first | (refine Cl.here ?_; simp only [go_sem]) | simp only [go_sem]))
    refine callC_det sane_ok rfl rfl ?_
    (repeat (first | (refine Cl.here ?_; simp only [go_sem]) | simp only [go_sem]))
    exact Cl.fin rfl rfl

theorem got_bool {P : Program} {m : Nat} {t : TypeId} {cs : List AVal} (hu : P.underlying t = some .bool) (h : Got P (m + 1) t cs) : ∃ b, cs = [.bool b] := by
  rw [Got, hu] at h
  exact h
set_option maxRecDepth 4000 in
theorem got_hol {m : Nat} {cs : List AVal} (h : Got Tryz.prog (m + 2) 53 cs) : ∃ e : Hol, cs = Cel.c e ∧ True := by
  obtain ⟨hl, hf⟩ := got_struct (m := m + 1) Tryz.underlying53 h
  have hc : Tryz.prog.cellsOf 53 = 6 := by kernel_rfl
  have hci : Tryz.prog.cellsOf 3 = 1 := by kernel_rfl
  have hcb : Tryz.prog.cellsOf 4 = 1 := by kernel_rfl
  rw [hc] at hl
  obtain ⟨c0, l0, rfl, hl0⟩ := list_cons hl
  obtain ⟨c1, l1, rfl, hl1⟩ := list_cons hl0
  obtain ⟨c2, l2, rfl, hl2⟩ := list_cons hl1
  obtain ⟨c3, l3, rfl, hl3⟩ := list_cons hl2
  obtain ⟨c4, l4, rfl, hl4⟩ := list_cons hl3
  obtain ⟨c5, l5, rfl, hl5⟩ := list_cons hl4
  obtain rfl := list_nil hl5
  simp only [List.mem_cons, List.not_mem_nil, or_false, forall_eq_or_imp, forall_eq, hci, hcb] at hf
  simp only [List.drop_zero, List.drop_succ_cons, List.take_succ_cons, List.take_zero] at hf
  obtain ⟨f0, f1, f2, f3, f4, f5⟩ := hf
  obtain ⟨n0, e0, _⟩ := got_int (m := m) Tryz.underlying3 f0
  obtain ⟨n1, e1, _⟩ := got_int (m := m) Tryz.underlying3 f1
  obtain ⟨n2, e2, _⟩ := got_int (m := m) Tryz.underlying3 f2
  obtain ⟨n3, e3, _⟩ := got_int (m := m) Tryz.underlying3 f3
  obtain ⟨n4, e4, _⟩ := got_int (m := m) Tryz.underlying3 f4
  obtain ⟨b5, e5⟩ := got_bool (m := m) Tryz.underlying4 f5
  simp at e0 e1 e2 e3 e4 e5
  subst e0 e1 e2 e3 e4 e5
  exact ⟨⟨n0, n1, n2, n3, n4, b5⟩, rfl, trivial⟩
set_option maxRecDepth 100000 in
theorem gotV_hols {m : Nat} {a : AVal} (h : GotV Tryz.prog (m + 3) 23 a) : ∃ l : List Hol, a = .pure 6 (els l) := by
  obtain ⟨l, rfl, hl, _⟩ := gotV_els (m := m + 2) Tryz.underlying23 (fun _ h => got_hol (m := m) h) (by kernel_rfl) h
  exact ⟨l, rfl⟩

end Go.Proofs.YtlanehcihoiglaaGreatDoor
