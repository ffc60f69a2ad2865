/- slices.SortStableFunc: at most 39 elements. -/
import Derived.Test.YtlanehcihoiglaaGreatDoorE7Sym3
set_option linter.unusedSimpArgs false
set_option linter.unusedVariables false
set_option linter.unusedSectionVars false
namespace Go.Proofs.YtlanehcihoiglaaGreatDoor
open Go Go.Abs
set_option linter.unusedSimpArgs false
set_option linter.unusedVariables false

theorem stable2_ok (R D : List Int) (h0 : 20 ≤ D.length) (hl : D.length ≤ 39) (hr : ∀ x ∈ D, 0 ≤ x ∧ x < R.length) (hinc : D.Pairwise (· < ·)) :
    AFn Tryz.prog 88 [.own 0 D.length 0 D.length, .int .i64 D.length, .fn 77 [.ref 1 1 0 0]] [.live 3 1 (numsE .i64 D), rRow R]
      (fun v rs => v = .tup [] ∧ ∃ S : List Int, S.Perm D ∧ S.Pairwise (lx R) ∧ rs = [.live 3 1 (numsE .i64 S), rRow R]) := by
  refine afn Tryz.func88 a88_ok (by simp [a88]) ?_
  have hp := List.pairwise_iff_getElem.1 hinc
  have hsplit : D = D.take 20 ++ D.drop 20 := (List.take_append_drop _ _).symm
  have hxy : ∀ x ∈ D.take 20, ∀ y ∈ D.drop 20, x < y := by
    have := hinc
    rw [hsplit, List.pairwise_append] at this
    exact this.2.2
  have hins := insertion_ok R D 0 20 (by omega) (by omega) (by omega) hr (fun p q hp2 hpq hq => hp p q _ _ hpq)
  simp only [List.take_zero, List.drop_zero, List.nil_append, Nat.sub_zero] at hins
  simp only [go_sem,a88,a88r0,a88r1,a88r2,a88r3,a88r4,a88r5,a88r6,a88r7,a88r8,a88r9,a88r10,a88r11,a88r12,a88r13,a88r14,a88r15,a88r16]
  refine avc_loop (fun env rows => (∃ (T : List Int), ((∃ b : Int, b = 20 ∧ T = D ∧ env = [(0, .own 0 D.length 0 D.length), (1, .int .i64 D.length), (2, .fn 77 [.ref 1 1 0 0]), (6, .int .i64 20), (7, .int .i64 0), (8, .int .i64 b)]) ∨ (∃ S1 : List Int, ∃ b : Int, b = 40 ∧ T = S1 ++ D.drop 20 ∧ S1.Perm (D.take 20) ∧ S1.Pairwise (lx R) ∧ env = [(0, .own 0 D.length 0 D.length), (1, .int .i64 D.length), (2, .fn 77 [.ref 1 1 0 0]), (6, .int .i64 20), (7, .int .i64 20), (8, .int .i64 b)])) ∧ rows = [.live 3 1 (numsE .i64 T), rRow R]))
    (fun env _ => match slot env 8 with | .int _ b => (60 - b).toNat | _ => 0) ?_ ?_
  · exact Cl.here ⟨D, .inl ⟨20, rfl, rfl, rfl⟩, rfl⟩
  rintro env rows ⟨T, (⟨b, hb, rfl, rfl⟩ | ⟨S1, b, hb, rfl, hS1, hS1p, rfl⟩), rfl⟩
  · have hn : b ≤ (T.length : Int) := by omega
    have hw : IntKind.i64.wrap (b + 20) = 40 := by rw [hb]; rfl
    simp only [go_sem,a88,a88r0,a88r1,a88r2,a88r3,a88r4,a88r5,a88r6,a88r7,a88r8,a88r9,a88r10,a88r11,a88r12,a88r13,a88r14,a88r15,a88r16,hn]
    rw [hb]
    refine callC_of [0,1] [] (by decide) (by simp only [go_sem,bind_rRow] <;> rfl) (by simp only [go_sem] <;> rfl) hins ?_
    rintro _ _ ⟨rfl, S, hS, hSp, rfl⟩
    refine ⟨.inl rfl, ?_⟩
    simp only [go_sem,ren_rRow]
    rw [show IntKind.i64.wrap (20 + 20) = 40 from rfl]
    refine Cl.here ⟨⟨_, .inr ⟨S, 40, rfl, rfl, hS, hSp, rfl⟩, rfl⟩, ?_⟩
    simp only [go_sem]
    omega
  · have hn : ¬ b ≤ (D.length : Int) := by omega
    have hS1l : S1.length = 20 := by rw [hS1.length_eq, List.length_take]; omega
    have hTl : (S1 ++ D.drop 20).length = D.length := by rw [List.length_append, List.length_drop]; omega
    have hins2 := insertion_ok R (S1 ++ D.drop 20) 20 D.length (by omega) (by omega) (by omega) (fun x hx => by
      rcases List.mem_append.1 hx with hx | hx
      · exact hr x (List.mem_of_mem_take (hS1.mem_iff.1 hx))
      · exact hr x (List.mem_of_mem_drop hx)) (fun p q hp2 hpq hq => by
      rw [List.getElem_append_right (by omega), List.getElem_append_right (by omega), List.getElem_drop, List.getElem_drop]
      exact hp _ _ _ _ (by omega))
    rw [hTl] at hins2
    have e1 : (S1 ++ D.drop 20).take 20 = S1 := by rw [← hS1l, List.take_left']; rfl
    have e2 : (S1 ++ D.drop 20).drop 20 = D.drop 20 := by
      have := List.drop_left' (l₁ := S1) (l₂ := D.drop 20) hS1l
      exact this
    rw [e1, e2, show (S1 ++ D.drop 20).drop D.length = [] from List.drop_eq_nil_of_le (by omega), List.take_of_length_le (by rw [List.length_drop]; omega)] at hins2
    simp only [go_sem,a88,a88r0,a88r1,a88r2,a88r3,a88r4,a88r5,a88r6,a88r7,a88r8,a88r9,a88r10,a88r11,a88r12,a88r13,a88r14,a88r15,a88r16,hn]
    refine callC_of [0,1] [] (by decide) (by simp only [go_sem,bind_rRow] <;> rfl) (by simp only [go_sem] <;> rfl) hins2 ?_
    rintro _ _ ⟨rfl, S2, hS2, hS2p, rfl⟩
    refine ⟨.inl rfl, ?_⟩
    rw [List.append_nil]
    simp only [go_sem,ren_rRow]
    have hS12 : (S1 ++ S2).Perm D := by
      refine (hS1.append hS2).trans ?_
      rw [List.take_append_drop]
    have hS2l : S2.length = D.length - 20 := by rw [hS2.length_eq, List.length_drop]
    refine avc_loop (fun env rows => ∃ (bs : Int) (T : List Int), T.Perm D ∧ ((bs = 20 ∧ T = S1 ++ S2) ∨ (bs = 40 ∧ T.Pairwise (lx R))) ∧ env = [(0, .own 0 D.length 0 D.length), (1, .int .i64 D.length), (2, .fn 77 [.ref 1 1 0 0]), (6, .int .i64 bs)] ∧ rows = [.live 3 1 (numsE .i64 T), rRow R])
      (fun env _ => match slot env 6 with | .int _ b => (60 - b).toNat | _ => 0) ?_ ?_
    · exact Cl.here ⟨20, S1 ++ S2, hS12, .inl ⟨rfl, rfl⟩, rfl, rfl⟩
    rintro env rows ⟨bs, T, hT, hbs, rfl, rfl⟩
    by_cases hlt : bs < (D.length : Int)
    · obtain ⟨hb9, rfl⟩ : bs = 20 ∧ T = S1 ++ S2 := by
        rcases hbs with h | h
        · exact h
        · omega
      have hw1 : IntKind.i64.wrap (2 * bs) = 40 := by rw [hb9]; rfl
      have hw2 : IntKind.i64.wrap (0 + bs) = 20 := by rw [hb9]; rfl
      have hw3 : IntKind.i64.wrap (bs * 2) = 40 := by rw [hb9]; rfl
      simp only [go_sem,a88,a88r0,a88r1,a88r2,a88r3,a88r4,a88r5,a88r6,a88r7,a88r8,a88r9,a88r10,a88r11,a88r12,a88r13,a88r14,a88r15,a88r16,hlt,hw1]
      refine avc_loop (fun env rows => ∃ b : Int, b = 40 ∧ env = [(0, .own 0 D.length 0 D.length), (1, .int .i64 D.length), (2, .fn 77 [.ref 1 1 0 0]), (6, .int .i64 bs), (7, .int .i64 0), (8, .int .i64 b)] ∧ rows = [.live 3 1 (numsE .i64 (S1 ++ S2)), rRow R]) (fun _ _ => 0) ?_ ?_
      · exact Cl.here ⟨40, rfl, rfl, rfl⟩
      rintro env rows ⟨b, hb, rfl, rfl⟩
      have hn2 : ¬ b ≤ (D.length : Int) := by omega
      have hn3 : (20 : Int) < (D.length : Int) := by omega
      simp only [go_sem,a88,a88r0,a88r1,a88r2,a88r3,a88r4,a88r5,a88r6,a88r7,a88r8,a88r9,a88r10,a88r11,a88r12,a88r13,a88r14,a88r15,a88r16,hn2,hw2,hn3]
      have hM := symMerge_all R (D.length + 1) [] S1 S2 [] D.length (by omega) (by omega) (by omega) (by simp; omega) (by omega) hS1p hS2p
        (fun x hx y hy => hxy x (hS1.mem_iff.1 hx) y (hS2.mem_iff.1 hy)) (fun z hz => hr z (List.mem_of_mem_take (hS1.mem_iff.1 hz))) (fun z hz => hr z (List.mem_of_mem_drop (hS2.mem_iff.1 hz)))
      simp only [List.length_nil, Nat.zero_add, hS1l, hS2l, show 20 + (D.length - 20) = D.length by omega, List.nil_append, List.append_nil] at hM
      refine callC_of [0,1] [] (by decide) (by simp only [go_sem,bind_rRow] <;> rfl) (by simp only [go_sem] <;> rfl) hM ?_
      rintro _ _ ⟨rfl, S, hS, hSp, rfl⟩
      refine ⟨.inl rfl, ?_⟩
      simp only [go_sem,ren_rRow,hw3]
      refine Cl.here ⟨⟨40, S, hS.trans hS12, .inr ⟨rfl, hSp⟩, rfl, rfl⟩, ?_⟩
      simp only [go_sem]
      omega
    · simp only [go_sem,a88,a88r0,a88r1,a88r2,a88r3,a88r4,a88r5,a88r6,a88r7,a88r8,a88r9,a88r10,a88r11,a88r12,a88r13,a88r14,a88r15,a88r16,hlt]
      rcases hbs with ⟨hb2, rfl⟩ | ⟨hb2, hTp⟩
      · have : S2 = [] := List.length_eq_zero_iff.1 (by omega)
        subst this
        rw [List.append_nil] at hT ⊢
        exact Cl.here ⟨rfl, S1, hT, hS1p, rfl⟩
      · exact Cl.here ⟨rfl, T, hT, hTp, rfl⟩
theorem sortStable2_ok (R D : List Int) (h0 : 0 < D.length) (hl : D.length ≤ 39) (hr : ∀ x ∈ D, 0 ≤ x ∧ x < R.length) (hinc : D.Pairwise (· < ·)) :
    AFn Tryz.prog 76 [.own 0 D.length 0 D.length, .fn 77 [.ref 1 1 0 0]] [.live 3 1 (numsE .i64 D), rRow R]
      (fun v rs => v = .tup [] ∧ ∃ S : List Int, S.Perm D ∧ S.Pairwise (lx R) ∧ rs = [.live 3 1 (numsE .i64 S), rRow R]) := by
  rcases Nat.lt_or_ge D.length 20 with h | h
  · exact sortStable_ok R D h0 (by omega) hr hinc
  refine afn Tryz.func76 a76_ok (by simp [a76]) ?_
  simp only [go_sem,a76,a76r0]
  refine callC_of [0,1] [] (by decide) (by simp only [go_sem,bind_rRow] <;> rfl) (by simp only [go_sem] <;> rfl) (stable2_ok R D h hl hr hinc) ?_
  rintro _ _ ⟨rfl, S, hS, hSp, rfl⟩
  refine ⟨.inl rfl, ?_⟩
  simp only [go_sem,ren_rRow]
  exact Cl.here ⟨rfl, S, hS, hSp, rfl⟩

end Go.Proofs.YtlanehcihoiglaaGreatDoor
