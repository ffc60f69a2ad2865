/- Spoiled pieces and zones. -/
import Derived.Test.YtefemdpicjgkeaaGreatDoorZ8Tap3
set_option linter.unusedSimpArgs false
set_option linter.unusedVariables false
set_option linter.unusedSectionVars false
namespace Go.Proofs.YtefemdpicjgkeaaGreatDoor
open Go Go.Abs
set_option linter.unusedSimpArgs false
set_option linter.unusedVariables false

theorem spoil_ok (l : List Int) (hl : TapeOk l) (ps : List Pc) (hp : ps.length ≤ 4) (at_ : Int) (h0 : 0 ≤ at_) (h1 : at_ ≤ l.length) : AFn Tryz.prog 8 [.ref 0 1 0 0, .own 1 ps.length 0 ps.length] [tp l at_, .live 59 4 (els ps)]
    (fun v rs => ∃ (a : Int) (qs : List Pc), v = .own 1 qs.length 0 qs.length ∧ rs = [tp l a, .live 59 4 (els qs)] ∧ 0 ≤ a ∧ a ≤ l.length ∧ qs.length ≤ 4) := by
  refine afn Tryz.func8 a8_ok (by simp [a8]) ?_
  simp only [go_sem,a8,a8r0,a8r1,a8r2,a8r3,a8r4,tp]
  by_cases hz : ps.length = 0
  · have hz' : ((ps.length : Int) == 0) = true := beq_iff_eq.2 (by omega)
    simp only [go_sem,hz']
    exact Cl.here ⟨at_, ps, rfl, rfl, h0, h1, hp⟩
  have hz' : ((ps.length : Int) == 0) = false := beq_eq_false_iff_ne.2 (by omega)
  simp only [go_sem,hz']
  (refine callC_tape (next_ok l hl 8 (by omega)) rfl rfl (by omega) (by omega) ?_; rintro _ at_ _ _ ⟨ x,rfl,_,_⟩; simp only [go_sem])
  by_cases hx : x < 7
  · simp only [go_sem,hx]
    exact Cl.here ⟨at_, ps, rfl, rfl, by omega, by omega, hp⟩
  have hpos : (0 : Int) < ps.length := by omega
  simp only [go_sem,hx]
  (refine callC_pick [20454,-1,84006] (pick_ok l hl _ (by simp) (by simp)) rfl rfl rfl rfl rfl (by decide) (by omega) (by omega) ?_; rintro _ at_ _ _ ⟨d,hmem,rfl⟩; simp only [List.mem_cons,List.not_mem_nil,or_false] at hmem; simp only [go_sem])
  clear hmem
  (refine callC_pick [5,-1,0] (pick_ok l hl _ (by simp) (by simp)) rfl rfl rfl rfl rfl (by decide) (by omega) (by omega) ?_; rintro _ at_ _ _ ⟨f,hmem,rfl⟩; simp only [List.mem_cons,List.not_mem_nil,or_false] at hmem; simp only [go_sem])
  clear hmem
  (refine callC_pick [5,120968641,100001] (pick_ok l hl _ (by simp) (by simp)) rfl rfl rfl rfl rfl (by decide) (by omega) (by omega) ?_; rintro _ at_ _ _ ⟨t,hmem,rfl⟩; simp only [List.mem_cons,List.not_mem_nil,or_false] at hmem; simp only [go_sem])
  clear hmem
  simp only [go_sem,hpos]
  have hset : (els ps).set 0 (AVal.int .i64 d :: .int .i64 f :: .int .i64 t :: .str ⟨#[]⟩ :: List.drop 4 ((els ps).getD 0 [])) = els (ps.set 0 ⟨d, f, t, ⟨#[]⟩⟩) := by
    rw [els_getD (by omega), cel_pc, ← els_set]; rfl
  rw [hset]
  (refine Cl.tr [some 0,some 1] [] rfl rfl (by simp only [go_sem] <;> rfl) ?_; simp only [go_sem])
  exact Cl.here ⟨at_, ps.set 0 ⟨d, f, t, ⟨#[]⟩⟩, by rw [List.length_set]; rfl, rfl, by omega, by omega, by simpa using hp⟩

theorem spoilZone_ok (l : List Int) (hl : TapeOk l) (z : Zn) (hzl : z.ch.length ≤ 3) (at_ : Int) (h0 : 0 ≤ at_) (h1 : at_ ≤ l.length) : AFn Tryz.prog 11 [.ref 0 1 0 0, z.v] [tp l at_]
    (fun v rs => ∃ (a : Int) (y : Zn), v = y.v ∧ rs = [tp l a] ∧ 0 ≤ a ∧ a ≤ l.length ∧ y.ch.length ≤ 4) := by
  refine afnW Tryz.func11 a11_ok (by simp [a11]) ?_
  simp only [go_sem,a11,a11r0,a11r1,a11r2,a11r3,a11r4,a11r5,a11r6,a11r7,a11r8,a11r9,a11r10,a11r11,a11r12,a11r13,tp,Zn.v]
  (refine Cl.here ?_; simp only [go_sem])
  refine ⟨by omega, ?_⟩
  (refine Cl.here ?_; simp only [go_sem])
  (refine callC_tape (next_ok l hl 4 (by omega)) rfl rfl (by omega) (by omega) ?_; rintro _ at_ _ _ ⟨ x,rfl,_,_⟩; simp only [go_sem])
  (refine Cl.here ?_; simp only [go_sem])
  have hx4 : x = 0 ∨ x = 1 ∨ x = 2 ∨ x = 3 := by omega
  rcases hx4 with hx | hx | hx | hx
  · have e0 : (x == 0) = true := by rw [hx]; rfl
    (refine Cl.here ?_; simp only [go_sem])
    simp only [go_sem,e0]
    (refine callC_pick [841,-841] (pick_ok l hl _ (by simp) (by simp)) rfl rfl rfl rfl rfl (by decide) (by omega) (by omega) ?_; rintro _ at_ _ _ ⟨o,hmem,rfl⟩; simp only [List.mem_cons,List.not_mem_nil,or_false] at hmem; simp only [go_sem])
    clear hmem
    (refine Cl.here ?_; simp only [go_sem])
    (refine Cl.frz [some 0,some 1,some 2] [ 3] rfl rfl (by simp only [go_sem] <;> rfl) ?_; simp only [go_sem])
    (refine Cl.here ?_; simp only [go_sem])
    (refine Cl.here ?_; simp only [go_sem])
    (refine Cl.tr [some 0] [] rfl rfl (by simp only [go_sem] <;> rfl) ?_; simp only [go_sem])
    exact Cl.here ⟨at_, ⟨o, z.ch⟩, rfl, rfl, by omega, by omega, by simp only; omega⟩
  · have e0 : (x == 0) = false := by rw [hx]; rfl
    have e1 : (x == 1) = true := by rw [hx]; rfl
    (refine Cl.here ?_; simp only [go_sem])
    simp only [go_sem,e0]
    (refine Cl.here ?_; simp only [go_sem])
    simp only [go_sem,e1]
    (refine callC_pick [-1,120968640,0] (pick_ok l hl _ (by simp) (by simp)) rfl rfl rfl rfl rfl (by decide) (by omega) (by omega) ?_; rintro _ at_ _ _ ⟨o,hmem,rfl⟩; simp only [List.mem_cons,List.not_mem_nil,or_false] at hmem; simp only [go_sem])
    clear hmem
    refine ⟨by omega, ?_⟩
    rw [ch_snoc]
    (refine Cl.here ?_; simp only [go_sem])
    rw [show z.ch.length + 1 = (z.ch ++ [(⟨o, 60⟩ : Ch)]).length by simp]
    (refine Cl.frz [some 0,some 1,some 2] [ 3] rfl rfl (by simp only [go_sem] <;> rfl) ?_; simp only [go_sem])
    (refine Cl.here ?_; simp only [go_sem])
    (refine Cl.here ?_; simp only [go_sem])
    (refine Cl.tr [some 0] [] rfl rfl (by simp only [go_sem] <;> rfl) ?_; simp only [go_sem])
    exact Cl.here ⟨at_, ⟨z.off, z.ch ++ [⟨o, 60⟩]⟩, rfl, rfl, by omega, by omega, by simp; omega⟩
  · have e0 : (x == 0) = false := by rw [hx]; rfl
    have e1 : (x == 1) = false := by rw [hx]; rfl
    have e2 : (x == 2) = true := by rw [hx]; rfl
    (refine Cl.here ?_; simp only [go_sem])
    simp only [go_sem,e0]
    (refine Cl.here ?_; simp only [go_sem])
    simp only [go_sem,e1]
    (refine Cl.here ?_; simp only [go_sem])
    simp only [go_sem,e2]
    by_cases hc : (0 : Int) < z.ch.length
    · have hlt : z.ch.length - 1 < z.ch.length := by omega
      have hw : IntKind.i64.wrap ((z.ch.length : Int) - 1) = ((z.ch.length - 1 : Nat) : Int) := by rw [wrap_i64 (by omega) (by omega)]; omega
      have k0 : (0 : Int) ≤ ((z.ch.length - 1 : Nat) : Int) := by omega
      have k1 : ((z.ch.length - 1 : Nat) : Int) < z.ch.length := by omega
      have hg : (els z.ch).getD (z.ch.length - 1) [] = [.int .i64 z.ch[z.ch.length - 1].at_, .int .i64 z.ch[z.ch.length - 1].off] := by rw [els_getD hlt, cel_ch]
      generalize z.ch[z.ch.length - 1] = c at hg
      simp only [go_sem,hc]
      (refine Cl.here ?_; simp only [go_sem])
      simp only [go_sem,hw,k0,k1,Int.toNat_natCast,hg]
      refine ⟨by omega, ?_⟩
      rw [ch_snoc]
      (refine Cl.here ?_; simp only [go_sem])
      rw [show z.ch.length + 1 = (z.ch ++ [c]).length by simp]
      (refine Cl.frz [some 0,some 1,some 2] [ 3] rfl rfl (by simp only [go_sem] <;> rfl) ?_; simp only [go_sem])
      (refine Cl.here ?_; simp only [go_sem])
      (refine Cl.here ?_; simp only [go_sem])
      (refine Cl.tr [some 0] [] rfl rfl (by simp only [go_sem] <;> rfl) ?_; simp only [go_sem])
      exact Cl.here ⟨at_, ⟨z.off, z.ch ++ [c]⟩, rfl, rfl, by omega, by omega, by simp; omega⟩
    · simp only [go_sem,hc]
      (refine Cl.here ?_; simp only [go_sem])
      (refine Cl.here ?_; simp only [go_sem])
      (refine Cl.frz [some 0,some 1,some 2] [ 3] rfl rfl (by simp only [go_sem] <;> rfl) ?_; simp only [go_sem])
      (refine Cl.here ?_; simp only [go_sem])
      (refine Cl.here ?_; simp only [go_sem])
      (refine Cl.tr [some 0] [] rfl rfl (by simp only [go_sem] <;> rfl) ?_; simp only [go_sem])
      exact Cl.here ⟨at_, ⟨z.off, z.ch⟩, rfl, rfl, by omega, by omega, by simp only; omega⟩
  · have e0 : (x == 0) = false := by rw [hx]; rfl
    have e1 : (x == 1) = false := by rw [hx]; rfl
    have e2 : (x == 2) = false := by rw [hx]; rfl
    (refine Cl.here ?_; simp only [go_sem])
    simp only [go_sem,e0]
    (refine Cl.here ?_; simp only [go_sem])
    simp only [go_sem,e1]
    (refine Cl.here ?_; simp only [go_sem])
    simp only [go_sem,e2]
    by_cases hc : (0 : Int) < z.ch.length
    · have hset : (els z.ch).set 0 (List.take 1 ((els z.ch).getD 0 []) ++ [.int .i64 1000] ++ List.drop 2 ((els z.ch).getD 0 [])) = els (z.ch.set 0 ⟨(z.ch[0]'(by omega)).at_, 1000⟩) := by
        rw [els_getD (by omega), cel_ch, ← els_set]; rfl
      simp only [go_sem,hc]
      (refine Cl.here ?_; simp only [go_sem])
      simp only [go_sem,hc]
      (refine Cl.here ?_; simp only [go_sem])
      obtain ⟨cs, hcs⟩ : ∃ cs, cs = z.ch.set 0 ⟨(z.ch[0]'(by omega)).at_, 1000⟩ := ⟨_, rfl⟩
      have hcl : cs.length = z.ch.length := by rw [hcs]; simp
      rw [hset, ← hcs, ← hcl]
      (refine Cl.frz [some 0,some 1,some 2] [ 3] rfl rfl (by simp only [go_sem] <;> rfl) ?_; simp only [go_sem])
      (refine Cl.here ?_; simp only [go_sem])
      (refine Cl.here ?_; simp only [go_sem])
      (refine Cl.tr [some 0] [] rfl rfl (by simp only [go_sem] <;> rfl) ?_; simp only [go_sem])
      exact Cl.here ⟨at_, ⟨z.off, cs⟩, rfl, rfl, by omega, by omega, by simp only; omega⟩
    · simp only [go_sem,hc]
      (refine Cl.here ?_; simp only [go_sem])
      (refine Cl.here ?_; simp only [go_sem])
      (refine Cl.frz [some 0,some 1,some 2] [ 3] rfl rfl (by simp only [go_sem] <;> rfl) ?_; simp only [go_sem])
      (refine Cl.here ?_; simp only [go_sem])
      (refine Cl.here ?_; simp only [go_sem])
      (refine Cl.tr [some 0] [] rfl rfl (by simp only [go_sem] <;> rfl) ?_; simp only [go_sem])
      exact Cl.here ⟨at_, ⟨z.off, z.ch⟩, rfl, rfl, by omega, by omega, by simp only; omega⟩

end Go.Proofs.YtefemdpicjgkeaaGreatDoor
