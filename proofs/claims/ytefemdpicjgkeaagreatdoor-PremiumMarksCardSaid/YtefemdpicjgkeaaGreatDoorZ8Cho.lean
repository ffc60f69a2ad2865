/- Which windows count, of those that cover. -/
import Derived.Test.YtefemdpicjgkeaaGreatDoorZ8Bit
set_option linter.unusedSimpArgs false
set_option linter.unusedVariables false
set_option linter.unusedSectionVars false
namespace Go.Proofs.YtefemdpicjgkeaaGreatDoor
open Go Go.Abs
set_option linter.unusedSimpArgs false
set_option linter.unusedVariables false

theorem mapS_getD {l : List (ByteArray × Nat)} {i : Nat} (h : i < l.length) {d : AVal × AVal} : (mapS l).getD i d = (.str l[i].1, .int .i64 l[i].2) := by
  rw [List.getD_eq_getElem?_getD, List.getElem?_eq_getElem (by rw [mapS_length]; exact h)]
  simp [mapS]
def grpN (ws : List Win) (N : Nat) (i : Nat) : Nat := numOf (fun j => N.testBit j && noG (gw ws j)) i
def wonN (ws : List Win) (N : Nat) : Nat := numOf (wonB ws N.testBit) ws.length
theorem won_eq {ws : List Win} {N R : Nat} {l : List (ByteArray × Nat)} (hR : ∀ j, R.testBit j = ((grpN ws N ws.length).testBit j || l.any fun p => p.2 == j))
    (ha : apart l) (hb : ∀ g, bestOk ws N.testBit g ws.length (lookS l g)) : R = wonN ws N := by
  apply Nat.eq_of_testBit_eq
  intro j
  rw [hR, wonN, numOf_bit, grpN, numOf_bit]
  have h := best_end ha hb j
  have h2 : (l.any fun p => p.2 == j) = (decide (j < ws.length) && N.testBit j && !(noG (gw ws j)) && (List.range ws.length).all fun k => !(N.testBit k && beats ws k j)) := by
    rw [Bool.eq_iff_iff, List.any_eq_true]
    simp only [beq_iff_eq]
    rw [h]
    simp only [Bool.and_eq_true, decide_eq_true_eq, Bool.not_eq_true', and_assoc]
  rw [h2]
  unfold wonB
  generalize (List.range ws.length).all (fun k => !(N.testBit k && beats ws k j)) = A
  cases decide (j < ws.length) <;> cases N.testBit j <;> cases noG (gw ws j) <;> cases A <;> rfl

theorem choose_ok (ws : List Win) (hn : ws.length ≤ 16) (N : Nat) (hN : N < 65536) : AFn Tryz.prog 37 [.pure 7 (els ws), .int .i64 N] [] (fun v rs => v = .int .i64 (wonN ws N) ∧ rs = []) := by
  refine afn Tryz.func37 a37_ok (by simp [a37]) ?_
  simp only [go_sem,a37,a37r0,a37r1,a37r2,a37r3,a37r4,a37r5,a37r6,a37r7,a37r8,a37r9,a37r10,a37r11,a37r12,a37r13,a37r14,a37r15,a37r16,a37r17]
  refine avc_loop (fun env rows => ∃ (i : Nat) (M : List (ByteArray × Nat)), i ≤ ws.length ∧ apart M ∧ (∀ g, bestOk ws N.testBit g i (lookS M g)) ∧ env = [(0, .pure 7 (els ws)), (1, .int .i64 N), (5, .int .i64 (grpN ws N i)), (6, .mref 0), (14, .pure 7 (els ws)), (15, .int .i64 ws.length), (16, .int .i64 i)] ∧ rows = [.obj (.map false [.str] (mapS M))])
    (fun env _ => match slot env 16 with | .int _ j => (ws.length - j).toNat | _ => 0) ?_ ?_
  · exact Cl.here ⟨0, [], by omega, List.Pairwise.nil, fun g k hk => by omega, rfl, rfl⟩
  · rintro env rows ⟨i, M, hi, hap, hbo, rfl, rfl⟩
    have hw : IntKind.i64.wrap ((i : Int) + 1) = ((i + 1 : Nat) : Int) := by rw [wrap_i64 (by omega) (by omega)]; omega
    have hR := numOf_small (fun j => N.testBit j && noG (gw ws j)) (n := i) (by omega)
    have hRs : grpN ws N (i + 1) = if (N.testBit i && noG (gw ws i)) = true then grpN ws N i ||| 2 ^ i else grpN ws N i := rfl
    rw [show numOf (fun j => N.testBit j && noG (gw ws j)) i = grpN ws N i from rfl] at hR
    simp only [go_sem,a37,a37r0,a37r1,a37r2,a37r3,a37r4,a37r5,a37r6,a37r7,a37r8,a37r9,a37r10,a37r11,a37r12,a37r13,a37r14,a37r15,a37r16,a37r17]
    refine condC_intro ?_ ?_ <;> intro hg2 <;> simp only [decide_eq_true_eq,decide_eq_false_iff_not,beq_iff_eq,beq_eq_false_iff_ne,bne_iff_ne,bne_eq_false_iff_eq,Bool.not_eq_true',Bool.not_eq_false',Int.not_lt,Int.not_le,ne_eq,Bool.and_eq_true,Bool.or_eq_true,Bool.or_eq_false_iff,Bool.and_eq_false_iff] at hg2 <;> simp only [go_sem,a37,a37r0,a37r1,a37r2,a37r3,a37r4,a37r5,a37r6,a37r7,a37r8,a37r9,a37r10,a37r11,a37r12,a37r13,a37r14,a37r15,a37r16,a37r17]
    · have hlt : i < ws.length := by omega
      refine ⟨by omega, by omega, ?_⟩
      try simp only [Int.toNat_natCast]
      rw [els_getD hlt]
      have hbit := bitI hN (show i < 16 by omega)
      have hsh := orI (N := grpN ws N i) (i := i) hR (by omega)
      have hgw := gw_get hlt
      generalize ws[i] = w at hgw ⊢
      have hi0 : (0 : Int) ≤ i := by omega
      cases hc : N.testBit i
      · rw [hc] at hbit hRs
        simp only [Bool.false_eq_true, if_false, Bool.false_and] at hbit hRs
        simp only [go_sem,a37,a37r0,a37r1,a37r2,a37r3,a37r4,a37r5,a37r6,a37r7,a37r8,a37r9,a37r10,a37r11,a37r12,a37r13,a37r14,a37r15,a37r16,a37r17,cel_win,hi0,hbit,Int.toNat_natCast,hw]
        (refine Cl.tr [some 0] [] rfl rfl (by simp only [go_sem] <;> rfl) ?_; simp only [go_sem])
        refine Cl.here ⟨⟨i + 1, M, by omega, hap, fun g => bestOk_skip (hbo g) (fun h => ?_), by rw [hRs], rfl⟩, ?_⟩
        · have := h.1; rw [hc] at this; cases this
        · simp only [go_sem]
          omega
      · rw [hc] at hbit hRs
        simp only [if_true, Bool.true_and] at hbit hRs
        simp only [go_sem,a37,a37r0,a37r1,a37r2,a37r3,a37r4,a37r5,a37r6,a37r7,a37r8,a37r9,a37r10,a37r11,a37r12,a37r13,a37r14,a37r15,a37r16,a37r17,cel_win,hi0,hbit,Int.toNat_natCast,hw]
        have hnE : (w.group.toList == ({ data := #[] } : ByteArray).toList) = noG w := rfl
        rw [hnE]
        rw [hgw] at hRs
        cases hng : noG w
        rotate_left
        · rw [hng] at hRs
          simp only [if_true] at hRs
          simp only [go_sem,a37,a37r0,a37r1,a37r2,a37r3,a37r4,a37r5,a37r6,a37r7,a37r8,a37r9,a37r10,a37r11,a37r12,a37r13,a37r14,a37r15,a37r16,a37r17,hi0,hsh,Int.toNat_natCast,hw]
          (refine Cl.tr [some 0] [] rfl rfl (by simp only [go_sem] <;> rfl) ?_; simp only [go_sem])
          refine Cl.here ⟨⟨i + 1, M, by omega, hap, fun g => bestOk_skip (hbo g) (fun h => ?_), by rw [hRs], rfl⟩, ?_⟩
          · have := h.2.1; rw [hgw, hng] at this; cases this
          · simp only [go_sem]
            omega
        rw [hng] at hRs
        simp only [Bool.false_eq_true, if_false] at hRs
        have hcw : ∀ g, cand ws N.testBit g i ↔ sEq g w.group = true := fun g => by
          have := cand_group (ws := ws) (c := N.testBit) (g := g) hc (by rw [hgw]; exact hng)
          rwa [hgw] at this
        have hput : kput (.str w.group) (.int .i64 i) (mapS M) = mapS (putS w.group i M) := kput_mapS
        have fin : (∀ j, lookS M w.group = some j → (gw ws j).rank < w.rank) → ∀ g, bestOk ws N.testBit g (i + 1) (lookS (putS w.group i M) g) := by
          intro hr g
          rw [lookS_put]
          cases hg : sEq g w.group
          · rw [if_neg (by simp)]
            exact bestOk_skip (hbo g) (fun h => by have := (hcw g).1 h; rw [hg] at this; cases this)
          · rw [if_pos rfl]
            have h1 := hbo g
            have h2 : lookS M g = lookS M w.group := by
              unfold lookS
              congr 2
              funext p
              exact sEq_left hg
            refine bestOk_take h1 ((hcw g).2 hg) (fun j hj => ?_)
            rw [hgw]
            exact hr j (by rw [← h2]; exact hj)
        cases hlk : lookS M w.group with
        | none =>
          simp only [go_sem,a37,a37r0,a37r1,a37r2,a37r3,a37r4,a37r5,a37r6,a37r7,a37r8,a37r9,a37r10,a37r11,a37r12,a37r13,a37r14,a37r15,a37r16,a37r17,hlk,Option.map_none,hput,hw]
          (refine Cl.tr [some 0] [] rfl rfl (by simp only [go_sem] <;> rfl) ?_; simp only [go_sem])
          refine Cl.here ⟨⟨i + 1, putS w.group i M, by omega, apart_put hap, fin (fun j hj => by rw [hlk] at hj; cases hj), by rw [hRs], rfl⟩, ?_⟩
          simp only [go_sem]
          omega
        | some j =>
          have hbj := hbo w.group
          rw [hlk] at hbj
          have hjl : j < ws.length := by have := hbj.1; omega
          have hgj := gw_get hjl
          have j0 : (0 : Int) ≤ j := by omega
          have j1 : (j : Int) < ws.length := by omega
          have hel : (els ws).getD j [] = Cel.c (gw ws j) := by rw [hgj]; exact els_getD hjl
          simp only [go_sem,a37,a37r0,a37r1,a37r2,a37r3,a37r4,a37r5,a37r6,a37r7,a37r8,a37r9,a37r10,a37r11,a37r12,a37r13,a37r14,a37r15,a37r16,a37r17,hlk,Option.map_some,j0,j1,Int.toNat_natCast,hel,cel_win]
          by_cases hr : (gw ws j).rank < w.rank
          · have hr' : w.rank > (gw ws j).rank := hr
            simp only [go_sem,a37,a37r0,a37r1,a37r2,a37r3,a37r4,a37r5,a37r6,a37r7,a37r8,a37r9,a37r10,a37r11,a37r12,a37r13,a37r14,a37r15,a37r16,a37r17,hr',hput,hw]
            (refine Cl.tr [some 0] [] rfl rfl (by simp only [go_sem] <;> rfl) ?_; simp only [go_sem])
            refine Cl.here ⟨⟨i + 1, putS w.group i M, by omega, apart_put hap, fin (fun j' hj => by have hj2 := hj; rw [hlk] at hj2; obtain rfl : j = j' := (by simpa using hj2); exact hr), by rw [hRs], rfl⟩, ?_⟩
            simp only [go_sem]
            omega
          · have hr' : ¬ w.rank > (gw ws j).rank := hr
            simp only [go_sem,a37,a37r0,a37r1,a37r2,a37r3,a37r4,a37r5,a37r6,a37r7,a37r8,a37r9,a37r10,a37r11,a37r12,a37r13,a37r14,a37r15,a37r16,a37r17,hr',hw]
            (refine Cl.tr [some 0] [] rfl rfl (by simp only [go_sem] <;> rfl) ?_; simp only [go_sem])
            refine Cl.here ⟨⟨i + 1, M, by omega, hap, fun g => ?_, by rw [hRs], rfl⟩, ?_⟩
            · cases hg : sEq g w.group
              · exact bestOk_skip (hbo g) (fun h => by have := (hcw g).1 h; rw [hg] at this; cases this)
              · have h2 : lookS M g = lookS M w.group := by
                  unfold lookS
                  congr 2
                  funext p
                  exact sEq_left hg
                have h1 := hbo g
                rw [h2, hlk] at h1 ⊢
                exact bestOk_keep h1 (by rw [hgw]; exact hr)
            · simp only [go_sem]
              omega
    · obtain rfl : i = ws.length := by omega
      have hval : ∀ p ∈ M, p.2 < 16 := fun p hp => by
        have := hbo p.1
        rw [lookS_mem hap p hp] at this
        have := this.1
        omega
      refine avc_loop (fun env rows => ∃ (seen : List Nat) (R : Nat), seen.Nodup ∧ (∀ s ∈ seen, s < M.length) ∧ R < 65536 ∧ (∀ j, R.testBit j = ((grpN ws N ws.length).testBit j || seen.any fun s => (M.getD s (⟨#[]⟩, 0)).2 == j)) ∧ env = [(5, .int .i64 R), (58, .itref 1 0)] ∧ rows = [.obj (.map false [.str] (mapS M)), .obj (.iter M.length seen)])
        (fun _ rows => match rows with | [_, .obj (.iter n s)] => n - s.length | _ => 0) ?_ ?_
      · exact Cl.here ⟨[], grpN ws N ws.length, by simp, by simp, hR, fun j => by simp, rfl, by rw [mapS_length]⟩
      · rintro env rows ⟨seen, R, hnd1, hsn, hRl, hRb, rfl, rfl⟩
        simp only [go_sem,a37,a37r0,a37r1,a37r2,a37r3,a37r4,a37r5,a37r6,a37r7,a37r8,a37r9,a37r10,a37r11,a37r12,a37r13,a37r14,a37r15,a37r16,a37r17]
        unfold nextC evNext
        simp only [List.getElem?_cons_zero, List.getElem?_cons_succ]
        refine ⟨(mapS_length M).symm, by decide, fun hall => ?_, fun j hj hjs => ?_⟩
        · have hfin : R = wonN ws N := by
            refine won_eq (l := M) (fun j => ?_) hap hbo
            rw [hRb]
            congr 1
            rw [Bool.eq_iff_iff, List.any_eq_true, List.any_eq_true]
            simp only [beq_iff_eq]
            constructor
            · rintro ⟨s, hs, h⟩
              have hsl := hsn s hs
              refine ⟨M[s], List.getElem_mem hsl, ?_⟩
              rw [← h]; simp [hsl]
            · rintro ⟨p, hp, h⟩
              obtain ⟨s, hs, rfl⟩ := List.getElem_of_mem hp
              exact ⟨s, hall s hs, by rw [← h]; simp [hs]⟩
          simp only [go_sem,a37,a37r0,a37r1,a37r2,a37r3,a37r4,a37r5,a37r6,a37r7,a37r8,a37r9,a37r10,a37r11,a37r12,a37r13,a37r14,a37r15,a37r16,a37r17]
          rw [hfin]
          exact Cl.fin rfl ⟨rfl, rfl⟩
        · have hlast : (seen ++ [j]).getLastD 0 = j := by simp
          have hj' : j < M.length := hj
          have hget := mapS_getD hj' (d := (.junk, .junk))
          have hv := hval _ (List.getElem_mem hj')
          have hn2 : (seen ++ [j]).Nodup := by
            rw [List.nodup_append]
            exact ⟨hnd1, by simp, fun a ha b hb => by rw [List.mem_singleton] at hb; subst hb; exact fun e => hjs (e ▸ ha)⟩
          have hsn2 : ∀ s ∈ seen ++ [j], s < M.length := fun x hx => by
            rcases List.mem_append.1 hx with hx | hx
            · exact hsn x hx
            · rw [List.mem_singleton] at hx; subst hx; exact hj'
          have hsl : (seen ++ [j]).length ≤ M.length := by
            have := hn2.length_le_of_subset (l₂ := List.range M.length) (fun x hx => List.mem_range.2 (hsn2 x hx))
            simpa using this
          rw [List.length_append, List.length_singleton] at hsl
          have hor := orI (N := R) (i := M[j].2) hRl hv
          have v0 : (0 : Int) ≤ M[j].2 := by omega
          have hR2 : ∀ k, (R ||| 2 ^ M[j].2).testBit k = ((grpN ws N ws.length).testBit k || (seen ++ [j]).any fun s => (M.getD s (⟨#[]⟩, 0)).2 == k) := by
            intro k
            rw [Nat.testBit_or, hRb, List.any_append, Nat.testBit_two_pow, Bool.or_assoc]
            congr 2
            rw [Bool.eq_iff_iff]
            simp [hj']
          have hR3 := or_bit hRl hv
          simp only [go_sem,a37,a37r0,a37r1,a37r2,a37r3,a37r4,a37r5,a37r6,a37r7,a37r8,a37r9,a37r10,a37r11,a37r12,a37r13,a37r14,a37r15,a37r16,a37r17,hlast,hget,hor,v0,Int.toNat_natCast]
          refine ⟨(mapS_length M).symm, by simp, hj', ?_⟩
          refine Cl.here ⟨⟨seen ++ [j], R ||| 2 ^ M[j].2, hn2, hsn2, hR3, hR2, rfl, rfl⟩, ?_⟩
          simp
          omega

end Go.Proofs.YtefemdpicjgkeaaGreatDoor
