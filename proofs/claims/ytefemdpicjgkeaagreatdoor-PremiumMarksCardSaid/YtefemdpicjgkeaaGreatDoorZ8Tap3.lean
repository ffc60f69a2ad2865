/- Made windows. -/
import Derived.Test.YtefemdpicjgkeaaGreatDoorZ8Tap2
set_option linter.unusedSimpArgs false
set_option linter.unusedVariables false
set_option linter.unusedSectionVars false
namespace Go.Proofs.YtefemdpicjgkeaaGreatDoor
open Go Go.Abs
set_option linter.unusedSimpArgs false
set_option linter.unusedVariables false

theorem win_snoc2 {l : List Win} {n g : ByteArray} {r f t w d : Int} : els l ++ [[.str n, .str g, .int .i64 r, .int .i64 f, .int .i64 t, .int .i64 w, .int .i64 d]] = els (l ++ [⟨n, g, r, f, t, w, d⟩]) := els_snoc (x := Win.mk n g r f t w d)
theorem windows_ok (l : List Int) (hl : TapeOk l) (wild : Bool) (at_ : Int) (h0 : 0 ≤ at_) (h1 : at_ ≤ l.length) : AFn Tryz.prog 7 [.ref 0 1 0 0, .bool wild] [tp l at_]
    (fun v rs => ∃ (a : Int) (ws : List Win), v = .own 1 ws.length 0 ws.length ∧ rs = [tp l a, .live 55 7 (els ws)] ∧ 0 ≤ a ∧ a ≤ l.length ∧ ws.length ≤ 3 ∧ (wild = false → winsP ws = true)) := by
  refine afnW Tryz.func7 a7_ok (by simp [a7]) ?_
  simp only [go_sem,a7,a7r0,a7r1,a7r2,a7r3,a7r4,a7r5,a7r6,a7r7,a7r8,a7r9,tp]
  (refine Cl.here ?_; simp only [go_sem])
  (refine Cl.here ?_; simp only [go_sem])
  (refine callC_tape (next_ok l hl 4 (by omega)) rfl rfl (by omega) (by omega) ?_; rintro _ at_ _ _ ⟨ k,rfl,_,_⟩; simp only [go_sem])
  (refine Cl.here ?_; simp only [go_sem])
  refine avcW_loop (fun env rows => ∃ (a : Int) (ws : List Win) (j : Int), env = [(0, .ref 0 1 0 0), (1, .bool wild), (5, .own 1 ws.length 0 ws.length), (6, .int .i64 j)] ∧ rows = [tapeRow 47 l a, .live 55 7 (els ws)] ∧ 0 ≤ a ∧ a ≤ l.length ∧ 0 ≤ j ∧ ws.length + j ≤ 3 ∧ (wild = false → winsP ws = true))
    (fun env _ => match slot env 6 with | .int _ j => j.toNat | _ => 0) ?_ ?_
  · (refine Cl.ghost 5  55  7 rfl (Cl.norm [ 0,1,5,6] ?_); simp only [go_sem])
    (refine Cl.tr [some 0,some 1] [] rfl rfl (by simp only [go_sem] <;> rfl) ?_; simp only [go_sem])
    exact Cl.here ⟨at_, [], k, rfl, rfl, by omega, by omega, by omega, by simp; omega, fun _ => rfl⟩
  · rintro env rows ⟨at_, ws, j, rfl, rfl, _, _, _, hl1, hws⟩
    simp only [go_sem,a7,a7r0,a7r1,a7r2,a7r3,a7r4,a7r5,a7r6,a7r7,a7r8,a7r9]
    (refine Cl.here ?_; simp only [go_sem])
    refine condW_intro ?_ ?_ <;> intro hg <;> simp only [decide_eq_true_eq,decide_eq_false_iff_not,beq_iff_eq,beq_eq_false_iff_ne,bne_iff_ne,bne_eq_false_iff_eq,Bool.not_eq_true',Bool.not_eq_false',Int.not_lt,Int.not_le,ne_eq,Bool.and_eq_true,Bool.or_eq_true,Bool.or_eq_false_iff,Bool.and_eq_false_iff] at hg <;> simp only [go_sem,a7,a7r0,a7r1,a7r2,a7r3,a7r4,a7r5,a7r6,a7r7,a7r8,a7r9]
    · (refine Cl.here ?_; simp only [go_sem])
      have hname : ∀ a : Int, 0 ≤ a → a < 4 → ∃ s, ([[AVal.str ⟨#[110, 105, 103, 104, 116]⟩], [.str ⟨#[108, 97, 116, 101]⟩], [.str ⟨#[115, 117, 110, 100, 97, 121]⟩], [.str ⟨#[104, 111, 108, 105, 100, 97, 121]⟩]] : List (List AVal)).getD a.toNat [] = [.str s] ∧ nameP s = true := by
        intro a ha0 ha1
        rcases (show a = 0 ∨ a = 1 ∨ a = 2 ∨ a = 3 by omega) with rfl | rfl | rfl | rfl
        · exact ⟨_, rfl, by decide⟩
        · exact ⟨_, rfl, by decide⟩
        · exact ⟨_, rfl, by decide⟩
        · exact ⟨_, rfl, by decide⟩
      have hgrp : ∀ a : Int, 0 ≤ a → a < 4 → ∃ s, ([[AVal.str ⟨#[]⟩], [.str ⟨#[97]⟩], [.str ⟨#[97]⟩], [.str ⟨#[98]⟩]] : List (List AVal)).getD a.toNat [] = [.str s] ∧ (sEq s ⟨#[]⟩ || nameP s) = true := by
        intro a ha0 ha1
        rcases (show a = 0 ∨ a = 1 ∨ a = 2 ∨ a = 3 by omega) with rfl | rfl | rfl | rfl
        · exact ⟨_, rfl, by rw [sEq_refl]; rfl⟩
        · exact ⟨_, rfl, by rw [show nameP ⟨#[97]⟩ = true by decide]; simp⟩
        · exact ⟨_, rfl, by rw [show nameP ⟨#[97]⟩ = true by decide]; simp⟩
        · exact ⟨_, rfl, by rw [show nameP ⟨#[98]⟩ = true by decide]; simp⟩
      (refine callD_tape (next_ok l hl 4 (by omega)) (by simp only [go_sem]) rfl rfl (by omega) (by omega) ?_; rintro _ at_ _ _ ⟨ a1,rfl,_,_⟩; simp only [go_sem])
      obtain ⟨n, hn, hnp⟩ := hname a1 (by omega) (by omega)
      refine ⟨by omega, by omega, ?_⟩
      rw [hn]
      simp only [go_sem]
      (refine callD_tape (next_ok l hl 4 (by omega)) (by simp only [go_sem]) rfl rfl (by omega) (by omega) ?_; rintro _ at_ _ _ ⟨ a2,rfl,_,_⟩; simp only [go_sem])
      obtain ⟨g, hgg, hgp⟩ := hgrp a2 (by omega) (by omega)
      refine ⟨by omega, by omega, ?_⟩
      rw [hgg]
      simp only [go_sem]
      (refine callD_tape (next_ok l hl 3 (by omega)) (by simp only [go_sem]) rfl rfl (by omega) (by omega) ?_; rintro _ at_ _ _ ⟨ r,rfl,_,_⟩; simp only [go_sem])
      (refine callD_pick [1320,0,1080,360] (pick_ok l hl _ (by simp) (by simp)) (by simp only [go_sem]) rfl rfl rfl rfl rfl (by decide) (by omega) (by omega) ?_; rintro _ at_ _ _ ⟨f,hmem,rfl⟩; simp only [List.mem_cons,List.not_mem_nil,or_false] at hmem; simp only [go_sem])
      have hf : 0 ≤ f ∧ f < 1440 := by omega
      clear hmem
      (refine callD_pick [360,1440,0,1380,1080] (pick_ok l hl _ (by simp) (by simp)) (by simp only [go_sem]) rfl rfl rfl rfl rfl (by decide) (by omega) (by omega) ?_; rintro _ at_ _ _ ⟨t,hmem,rfl⟩; simp only [List.mem_cons,List.not_mem_nil,or_false] at hmem; simp only [go_sem])
      have ht : 0 ≤ t ∧ t ≤ 1440 := by omega
      clear hmem
      (refine callD_pick [127,64,31,8,0] (pick_ok l hl _ (by simp) (by simp)) (by simp only [go_sem]) rfl rfl rfl rfl rfl (by decide) (by omega) (by omega) ?_; rintro _ at_ _ _ ⟨w,hmem,rfl⟩; simp only [List.mem_cons,List.not_mem_nil,or_false] at hmem; simp only [go_sem])
      have hw : 0 ≤ w ∧ w ≤ 127 := by omega
      clear hmem
      (refine callD_tape (next_ok l hl 3 (by omega)) (by simp only [go_sem]) rfl rfl (by omega) (by omega) ?_; rintro _ at_ _ _ ⟨ d,rfl,_,_⟩; simp only [go_sem])
      have hwin : winsP (ws ++ [⟨n, g, r, f, t, w, d⟩]) = winsP ws := by
        have h2 : (0 ≤ r ∧ r ≤ 1000 ∧ 0 ≤ f ∧ f < 1440 ∧ 0 ≤ t ∧ t ≤ 1440 ∧ 0 ≤ w ∧ w ≤ 127 ∧ 0 ≤ d ∧ d ≤ 2) := by omega
        have h3 : winP ⟨n, g, r, f, t, w, d⟩ = true := by
          unfold winP noG
          simp only [hnp, hgp, Bool.true_and]
          exact decide_eq_true h2
        simp [winsP, h3]
      have hwj : IntKind.i64.wrap (j - 1) = j - 1 := wrap_i64 (by omega) (by omega)
      have hlen : ws.length < 3 := by omega
      (refine Cl.tr [some 0,some 1,some 7] [] rfl rfl (by simp only [go_sem] <;> rfl) ?_; simp only [go_sem])
      (refine Cl.here ?_; simp only [go_sem])
      cases wild with
      | false =>
        simp only [go_sem,a7,a7r0,a7r1,a7r2,a7r3,a7r4,a7r5,a7r6,a7r7,a7r8,a7r9]
        (refine Cl.here ?_; simp only [go_sem])
        (refine Cl.here ?_; simp only [go_sem])
        refine ⟨by omega, ?_⟩
        rw [win_snoc2]
        (refine Cl.here ?_; simp only [go_sem])
        rw [hwj]
        (refine Cl.tr [some 0,some 1] [] rfl rfl (by simp only [go_sem] <;> rfl) ?_; simp only [go_sem])
        refine Cl.here ⟨⟨at_, ws ++ [⟨n, g, r, f, t, w, d⟩], j - 1, by simp, by simp, by omega, by omega, by omega, by simp; omega, fun _ => by rw [hwin]; exact hws rfl⟩, ?_⟩
        simp only [go_sem]
        omega
      | true =>
        simp only [go_sem,a7,a7r0,a7r1,a7r2,a7r3,a7r4,a7r5,a7r6,a7r7,a7r8,a7r9]
        (refine callC_tape (next_ok l hl 12 (by omega)) rfl rfl (by omega) (by omega) ?_; rintro _ at_ _ _ ⟨ q,rfl,_,_⟩; simp only [go_sem])
        (refine Cl.here ?_; simp only [go_sem])
        by_cases hq : q = 11
        · have hq' : (q == 11) = true := beq_iff_eq.2 hq
          simp only [go_sem,hq',hq]
          (refine callC_pick [1440,-1,5] (pick_ok l hl _ (by simp) (by simp)) rfl rfl rfl rfl rfl (by decide) (by omega) (by omega) ?_; rintro _ at_ _ _ ⟨f2,hmem,rfl⟩; simp only [List.mem_cons,List.not_mem_nil,or_false] at hmem; simp only [go_sem])
          clear hmem
          (refine callC_pick [128,127] (pick_ok l hl _ (by simp) (by simp)) rfl rfl rfl rfl rfl (by decide) (by omega) (by omega) ?_; rintro _ at_ _ _ ⟨w2,hmem,rfl⟩; simp only [List.mem_cons,List.not_mem_nil,or_false] at hmem; simp only [go_sem])
          clear hmem
          (refine Cl.here ?_; simp only [go_sem])
          refine ⟨by omega, ?_⟩
          rw [win_snoc2]
          (refine Cl.here ?_; simp only [go_sem])
          rw [hwj]
          (refine Cl.tr [some 0,some 1] [] rfl rfl (by simp only [go_sem] <;> rfl) ?_; simp only [go_sem])
          refine Cl.here ⟨⟨at_, ws ++ [⟨n, g, r, f2, t, w2, d⟩], j - 1, by simp, by simp, by omega, by omega, by omega, by simp; omega, fun e => by cases e⟩, ?_⟩
          simp only [go_sem]
          omega
        · have hq' : (q == 11) = false := beq_eq_false_iff_ne.2 hq
          simp only [go_sem,hq',hq]
          (refine Cl.here ?_; simp only [go_sem])
          refine ⟨by omega, ?_⟩
          rw [win_snoc2]
          (refine Cl.here ?_; simp only [go_sem])
          rw [hwj]
          (refine Cl.tr [some 0,some 1] [] rfl rfl (by simp only [go_sem] <;> rfl) ?_; simp only [go_sem])
          refine Cl.here ⟨⟨at_, ws ++ [⟨n, g, r, f, t, w, d⟩], j - 1, by simp, by simp, by omega, by omega, by omega, by simp; omega, fun e => by cases e⟩, ?_⟩
          simp only [go_sem]
          omega
    · (refine Cl.here ?_; simp only [go_sem])
      (refine Cl.here ?_; simp only [go_sem])
      (refine Cl.tr [some 0,some 1] [] rfl rfl (by simp only [go_sem] <;> rfl) ?_; simp only [go_sem])
      exact Cl.here ⟨at_, ws, rfl, rfl, by omega, by omega, by omega, hws⟩

end Go.Proofs.YtefemdpicjgkeaaGreatDoor
