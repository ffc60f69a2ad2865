/- Made pieces (UNDER WAY: does not build yet). -/
import Derived.Test.YtefemdpicjgkeaaGreatDoorZ8Tap
set_option linter.unusedSimpArgs false
set_option linter.unusedVariables false
set_option linter.unusedSectionVars false
namespace Go.Proofs.YtefemdpicjgkeaaGreatDoor
open Go Go.Abs
set_option linter.unusedSimpArgs false
set_option linter.unusedVariables false

theorem pc_snoc2 {l : List Pc} {d f t : Int} {b : ByteArray} : els l ++ [[.int .i64 d, .int .i64 f, .int .i64 t, .str b]] = els (l ++ [⟨d, f, t, b⟩]) := els_snoc (x := Pc.mk d f t b)
theorem pieces_ok (l : List Int) (hl : TapeOk l) (n : Int) (hn0 : 0 ≤ n) (hn1 : n ≤ 4) (at_ : Int) (h0 : 0 ≤ at_) (h1 : at_ ≤ l.length) : AFn Tryz.prog 9 [.ref 0 1 0 0, .int .i64 n] [tp l at_]
    (fun v rs => ∃ (a : Int) (ps : List Pc), v = .own 1 ps.length 0 ps.length ∧ rs = [tp l a, .live 59 4 (els ps)] ∧ 0 ≤ a ∧ a ≤ l.length ∧ ps.length ≤ 4 ∧ ∀ p ∈ ps, pcOk p ∧ p.to - p.fr ≤ 240) := by
  refine afnW Tryz.func9 a9_ok (by simp [a9]) ?_
  simp only [go_sem,a9,a9r0,a9r1,a9r2,a9r3,a9r4,a9r5,a9r6,a9r7,a9r8,a9r9,tp]
  (refine Cl.here ?_; simp only [go_sem])
  (refine Cl.here ?_; simp only [go_sem])
  (refine callC_pick [0,1000,-100] (pick_ok l hl _ (by simp) (by simp)) rfl rfl rfl rfl rfl (by decide) (by omega) (by omega) ?_; rintro _ at_ _ _ ⟨t0,hmem,rfl⟩; simp only [List.mem_cons,List.not_mem_nil,or_false] at hmem; simp only [go_sem])
  have ht0 : -100 ≤ t0 ∧ t0 ≤ 1000 := by omega
  clear hmem
  rw [wrap_i64 (x := 29453760 + t0) (by omega) (by omega)]
  (refine Cl.here ?_; simp only [go_sem])
  rw [wrap_i64 (x := n + 1) (by omega) (by omega)]
  (refine callC_tape (next_ok l hl (n + 1) (by omega)) rfl rfl (by omega) (by omega) ?_; rintro _ at_ _ _ ⟨ k,rfl,_,_⟩; simp only [go_sem])
  (refine Cl.here ?_; simp only [go_sem])
  refine avcW_loop (fun env rows => ∃ (a : Int) (ps : List Pc) (j t : Int), env = [(0, .ref 0 1 0 0), (5, .own 1 ps.length 0 ps.length), (6, .int .i64 t), (7, .int .i64 j)] ∧ rows = [tapeRow 47 l a, .live 59 4 (els ps)] ∧ 0 ≤ a ∧ a ≤ l.length ∧ 0 ≤ j ∧ ps.length + j ≤ 4 ∧ (∀ p ∈ ps, pcOk p ∧ p.to - p.fr ≤ 240) ∧ 29453000 ≤ t ∧ t + 1500 * j ≤ 29470000)
    (fun env _ => match slot env 7 with | .int _ j => j.toNat | _ => 0) ?_ ?_
  · (refine Cl.ghost 5  59  4 rfl (Cl.norm [ 0,5,6,7] ?_); simp only [go_sem])
    (refine Cl.tr [some 0,some 2] [] rfl rfl (by simp only [go_sem] <;> rfl) ?_; simp only [go_sem])
    exact Cl.here ⟨at_, [], k, 29453760 + t0, rfl, rfl, by omega, by omega, by omega, by simp; omega, by simp, by omega, by omega⟩
  · rintro env rows ⟨at_, ps, j, t, rfl, rfl, _, _, _, hl1, hps, ht1, ht2⟩
    simp only [go_sem,a9,a9r0,a9r1,a9r2,a9r3,a9r4,a9r5,a9r6,a9r7,a9r8,a9r9]
    (refine Cl.here ?_; simp only [go_sem])
    refine condW_intro ?_ ?_ <;> intro hg <;> simp only [decide_eq_true_eq,decide_eq_false_iff_not,beq_iff_eq,beq_eq_false_iff_ne,bne_iff_ne,bne_eq_false_iff_eq,Bool.not_eq_true',Bool.not_eq_false',Int.not_lt,Int.not_le,ne_eq,Bool.and_eq_true,Bool.or_eq_true,Bool.or_eq_false_iff,Bool.and_eq_false_iff] at hg <;> simp only [go_sem,a9,a9r0,a9r1,a9r2,a9r3,a9r4,a9r5,a9r6,a9r7,a9r8,a9r9]
    · (refine Cl.here ?_; simp only [go_sem])
      (refine callC_pick [60,1,240] (pick_ok l hl _ (by simp) (by simp)) rfl rfl rfl rfl rfl (by decide) (by omega) (by omega) ?_; rintro _ at_ _ _ ⟨x,hmem,rfl⟩; simp only [List.mem_cons,List.not_mem_nil,or_false] at hmem; simp only [go_sem])
      have hx : 1 ≤ x ∧ x ≤ 240 := by omega
      clear hmem
      (refine Cl.here ?_; simp only [go_sem])
      have hq : t.tdiv 1440 = t / 1440 := Int.tdiv_eq_ediv_of_nonneg (by omega)
      rw [hq, wrap_i64 (x := t / 1440) (by omega) (by omega), wrap_i64 (x := t + x) (by omega) (by omega)]
      refine ⟨by omega, ?_⟩
      (refine callC_tape (next_ok l hl 2 (by omega)) rfl rfl (by omega) (by omega) ?_; rintro _ at_ _ _ ⟨ b,rfl,_,_⟩; simp only [go_sem])
      have hband : ∃ s, ([[AVal.str ⟨#[110, 111, 114, 109, 97, 108]⟩], [.str ⟨#[111, 116, 49]⟩]] : List (List AVal)).getD b.toNat [] = [.str s] := by
        rcases (show b = 0 ∨ b = 1 by omega) with rfl | rfl
        · exact ⟨_, rfl⟩
        · exact ⟨_, rfl⟩
      obtain ⟨s, hs⟩ := hband
      refine ⟨by omega, by omega, ?_⟩
      rw [hs]
      simp only [go_sem]
      refine ⟨by omega, ?_⟩
      rw [pc_snoc2]
      (refine Cl.here ?_; simp only [go_sem])
      (refine callC_pick [0,300,1200] (pick_ok l hl _ (by simp) (by simp)) rfl rfl rfl rfl rfl (by decide) (by omega) (by omega) ?_; rintro _ at_ _ _ ⟨y,hmem,rfl⟩; simp only [List.mem_cons,List.not_mem_nil,or_false] at hmem; simp only [go_sem])
      have hy : 0 ≤ y ∧ y ≤ 1200 := by omega
      clear hmem
      rw [wrap_i64 (x := x + y) (by omega) (by omega), wrap_i64 (x := t + (x + y)) (by omega) (by omega)]
      (refine Cl.here ?_; simp only [go_sem])
      rw [wrap_i64 (x := j - 1) (by omega) (by omega)]
      (refine Cl.tr [some 0,some 1] [] rfl rfl (by simp only [go_sem] <;> rfl) ?_; simp only [go_sem])
      refine Cl.here ⟨⟨at_, ps ++ [⟨t / 1440, t, t + x, s⟩], j - 1, t + (x + y), by simp, by simp, by omega, by omega, by omega, by simp; omega, ?_, by omega, by omega⟩, ?_⟩
      · intro p hp
        rcases List.mem_append.1 hp with hp | hp
        · exact hps p hp
        · rw [List.mem_singleton] at hp; subst hp
          unfold pcOk
          simp only; omega
      · simp only [go_sem]
        omega
    · (refine Cl.here ?_; simp only [go_sem])
      (refine Cl.here ?_; simp only [go_sem])
      (refine Cl.tr [some 0,some 1] [] rfl rfl (by simp only [go_sem] <;> rfl) ?_; simp only [go_sem])
      exact Cl.here ⟨at_, ps, rfl, rfl, by omega, by omega, by omega, hps⟩

end Go.Proofs.YtefemdpicjgkeaaGreatDoor
