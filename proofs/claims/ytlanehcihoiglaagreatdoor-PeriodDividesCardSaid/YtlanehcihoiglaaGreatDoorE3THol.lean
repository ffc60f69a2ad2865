/- Rules for holidays that a tape chooses. -/
import Derived.Test.YtlanehcihoiglaaGreatDoorE3Tape
set_option linter.unusedSimpArgs false
set_option linter.unusedVariables false
set_option linter.unusedSectionVars false
namespace Go.Proofs.YtlanehcihoiglaaGreatDoor
open Go Go.Abs
set_option linter.unusedSimpArgs false

def allR : List Hol := [⟨0, 1, 1, 0, 0, false⟩, ⟨0, 12, 25, 0, 0, true⟩, ⟨0, 2, 29, 0, 0, false⟩, ⟨1, 0, 0, 0, 1, false⟩, ⟨1, 0, 0, 0, -2, false⟩, ⟨1, 0, 0, 0, -100, false⟩, ⟨2, 11, 4, 3, 0, false⟩, ⟨2, 1, -1, 0, 0, false⟩, ⟨2, 1, 1, 5, 0, true⟩, ⟨2, 12, 5, 3, 7, false⟩, ⟨2, 1, 1, 4, -7, false⟩]
theorem allR_valid : validL allR = true := by decide
theorem validL_snoc {l : List Hol} {h : Hol} (hl : validL l = true) (hh : ruleP h = true) : validL (l ++ [h]) = true := by
  unfold validL at *
  rw [List.all_append, hl]
  simp [hh]
theorem els_allR : els allR = [[.int .i64 0, .int .i64 1, .int .i64 1, .int .i64 0, .int .i64 0, .bool false], [.int .i64 0, .int .i64 12, .int .i64 25, .int .i64 0, .int .i64 0, .bool true], [.int .i64 0, .int .i64 2, .int .i64 29, .int .i64 0, .int .i64 0, .bool false],
  [.int .i64 1, .int .i64 0, .int .i64 0, .int .i64 0, .int .i64 1, .bool false], [.int .i64 1, .int .i64 0, .int .i64 0, .int .i64 0, .int .i64 (-2), .bool false], [.int .i64 1, .int .i64 0, .int .i64 0, .int .i64 0, .int .i64 (-100), .bool false],
  [.int .i64 2, .int .i64 11, .int .i64 4, .int .i64 3, .int .i64 0, .bool false], [.int .i64 2, .int .i64 1, .int .i64 (-1), .int .i64 0, .int .i64 0, .bool false], [.int .i64 2, .int .i64 1, .int .i64 1, .int .i64 5, .int .i64 0, .bool true],
  [.int .i64 2, .int .i64 12, .int .i64 5, .int .i64 3, .int .i64 7, .bool false], [.int .i64 2, .int .i64 1, .int .i64 1, .int .i64 4, .int .i64 (-7), .bool false]] := rfl

def okW (wild : Bool) (r : List Hol) : Prop := wild = false → validL r = true
theorem tHol_ok (l : List Int) (hl : TapeOk l) (wild : Bool) (at_ : Int) (h0 : 0 ≤ at_) (h1 : at_ ≤ l.length) : AFn Tryz.prog 10 [.ref 0 1 0 0, .bool wild] [tapeRow 44 l at_]
    (fun v rs => ∃ (a : Int) (r : List Hol), 0 ≤ a ∧ a ≤ l.length ∧ r.length ≤ 4 ∧ okW wild r ∧ v = .own 1 r.length 0 r.length ∧ rs = [tapeRow 44 l a, .live 53 6 (els r)]) := by
  refine afn Tryz.func10 a10_ok (by simp [a10]) ?_
  simp only [go_sem,a10,a10r0,a10r1,a10r2,a10r3,a10r4,a10r5,a10r6,a10r7,a10r8,a10r9]
  rw [← els_allR]
  (refine callC_tape (next_ok l hl 4 (by omega)) rfl rfl (by omega) (by omega) ?_; rintro _ at_ _ _ ⟨ x,rfl,_,_⟩; simp only [go_sem])
  refine avc_loop (fun env rows => ∃ (a : Int) (j : Nat) (r : List Hol), 0 ≤ a ∧ a ≤ l.length ∧ r.length + j ≤ 3 ∧ validL r = true ∧ env = [(0, .ref 0 1 0 0), (1, .bool wild), (5, .own 1 11 0 11), (6, .own 2 r.length 0 r.length), (7, .int .i64 j)] ∧ rows = [tapeRow 44 l a, .live 53 6 (els allR), .live 53 6 (els r)])
    (fun env _ => match slot env 7 with | .int _ j => j.toNat | _ => 0) ?_ ?_
  · (refine Cl.ghost 6  53  6 rfl (Cl.norm [ 0,1,5,6,7] ?_); simp only [go_sem])
    refine Cl.here ⟨at_, x.toNat, [], by omega, by omega, by simp; omega, rfl, ?_, rfl⟩
    rw [show ((x.toNat : Nat) : Int) = x from by omega]
    rfl
  · rintro env rows ⟨at_, j, r, h0, h1, hr, hv, rfl, rfl⟩
    simp only [go_sem,a10,a10r0,a10r1,a10r2,a10r3,a10r4,a10r5,a10r6,a10r7,a10r8,a10r9]
    refine condC_intro ?_ ?_ <;> intro hg1 <;> simp only [decide_eq_true_eq,decide_eq_false_iff_not,beq_iff_eq,beq_eq_false_iff_ne,bne_iff_ne,bne_eq_false_iff_eq,Bool.not_eq_true',Bool.not_eq_false',Int.not_lt,Int.not_le,ne_eq,Bool.and_eq_true,Bool.or_eq_true,Bool.or_eq_false_iff,Bool.and_eq_false_iff] at hg1 <;> simp only [go_sem,a10,a10r0,a10r1,a10r2,a10r3,a10r4,a10r5,a10r6,a10r7,a10r8,a10r9]
    · (refine callC_tape (next_ok l hl 11 (by omega)) rfl rfl (by omega) (by omega) ?_; rintro _ at_ _ _ ⟨ q,rfl,_,_⟩; simp only [go_sem])
      have hq : q.toNat < allR.length := by show q.toNat < 11; omega
      rw [els_getD hq]
      have hrq := validL_get allR_valid hq
      generalize allR[q.toNat] = hh at hrq ⊢
      have hwj : IntKind.i64.wrap ((j : Int) - 1) = ((j - 1 : Nat) : Int) := by rw [wrap_i64 (by omega) (by omega)]; omega
      refine ⟨rfl, by omega, by omega, rfl, ?_⟩
      simp only [go_sem,cel_hol_take,cel_hol_len,cel_hol_one]
      refine ⟨by omega, ?_⟩
      simp only [go_sem,hwj]
      (refine Cl.tr [some 0,some 1,some 2] [] rfl rfl (by simp only [go_sem] <;> rfl) ?_; simp only [go_sem])
      refine Cl.here ⟨⟨at_, j - 1, r ++ [hh], by omega, by omega, by simp; omega, validL_snoc hv hrq, ?_, rfl⟩, ?_⟩
      · simp
      · simp only [go_sem]
        omega
    · have hend : ∀ (at_ : Int) (r : List Hol) (rows : List Row), 0 ≤ at_ → at_ ≤ l.length → r.length ≤ 4 → okW wild r →
          Cl 1 (finK fun v rs => ∃ (a : Int) (r : List Hol), 0 ≤ a ∧ a ≤ l.length ∧ r.length ≤ 4 ∧ okW wild r ∧ v = .own 1 r.length 0 r.length ∧ rs = [tapeRow 44 l a, .live 53 6 (els r)]) [(0, .own 2 r.length 0 r.length)] (tapeRow 44 l at_ :: .live 53 6 (els allR) :: .live 53 6 (els r) :: rows) := by
        intro at_ r rows h0 h1 hr hv
        (refine Cl.tr [some 0,some 2] [] rfl rfl (by simp only [go_sem] <;> rfl) ?_; simp only [go_sem])
        exact Cl.here ⟨at_, r, h0, h1, hr, hv, rfl, rfl⟩
      cases wild
      · simp only [go_sem]
        exact hend at_ r [] (by omega) (by omega) (by omega) (fun _ => hv)
      · simp only [go_sem]
        (refine callC_tape (next_ok l hl 6 (by omega)) rfl rfl (by omega) (by omega) ?_; rintro _ at_ _ _ ⟨ q,rfl,_,_⟩; simp only [go_sem])
        refine condC_intro ?_ ?_ <;> intro hg2 <;> simp only [decide_eq_true_eq,decide_eq_false_iff_not,beq_iff_eq,beq_eq_false_iff_ne,bne_iff_ne,bne_eq_false_iff_eq,Bool.not_eq_true',Bool.not_eq_false',Int.not_lt,Int.not_le,ne_eq,Bool.and_eq_true,Bool.or_eq_true,Bool.or_eq_false_iff,Bool.and_eq_false_iff] at hg2 <;> simp only [go_sem,a10,a10r0,a10r1,a10r2,a10r3,a10r4,a10r5,a10r6,a10r7,a10r8,a10r9]
        · (refine callC_tape (next_ok l hl 4 (by omega)) rfl rfl (by omega) (by omega) ?_; rintro _ at_ _ _ ⟨ k1,rfl,_,_⟩; simp only [go_sem])
          (refine callC_tape (next_ok l hl 14 (by omega)) rfl rfl (by omega) (by omega) ?_; rintro _ at_ _ _ ⟨ k2,rfl,_,_⟩; simp only [go_sem])
          (refine callC_pick [0,6,31,-1] (pick_ok l hl _ (by simp) (by simp)) rfl rfl rfl rfl rfl (by decide) (by omega) (by omega) ?_; rintro _ at_ _ _ ⟨k3,hmem,rfl⟩; simp only [List.mem_cons,List.not_mem_nil,or_false] at hmem; simp only [go_sem])
          (refine callC_tape (next_ok l hl 8 (by omega)) rfl rfl (by omega) (by omega) ?_; rintro _ at_ _ _ ⟨ k4,rfl,_,_⟩; simp only [go_sem])
          (refine callC_pick [0,8,101] (pick_ok l hl _ (by simp) (by simp)) rfl rfl rfl rfl rfl (by decide) (by omega) (by omega) ?_; rintro _ at_ _ _ ⟨k5,hmem,rfl⟩; simp only [List.mem_cons,List.not_mem_nil,or_false] at hmem; simp only [go_sem])
          refine ⟨by omega, ?_⟩
          have he := hend at_ (r ++ [⟨k1, k2, k3, k4, k5, false⟩]) [.live 3 1 [[.int .i64 0], [.int .i64 6], [.int .i64 31], [.int .i64 (-1)]], .live 3 1 [[.int .i64 0], [.int .i64 8], [.int .i64 101]], .live 53 6 [[.int .i64 k1, .int .i64 k2, .int .i64 k3, .int .i64 k4, .int .i64 k5, .bool false]]] (by omega) (by omega) (by simp; omega) (fun h => by cases h)
          rw [← els_snoc, List.length_append] at he
          exact he
        · exact hend at_ r [] (by omega) (by omega) (by omega) (fun h => by cases h)

end Go.Proofs.YtlanehcihoiglaaGreatDoor
