/- Made cuts. -/
import Derived.Test.YtlanehcihoiglaaGreatDoorE7Dvs
set_option linter.unusedSimpArgs false
set_option linter.unusedVariables false
set_option linter.unusedSectionVars false
namespace Go.Proofs.YtlanehcihoiglaaGreatDoor
open Go Go.Abs
set_option linter.unusedSimpArgs false
set_option linter.unusedVariables false

theorem divides_ok (t k a n : Int) (cs : List Int) (m : Int) (hs : List Hol) (hn : -9223372036854775808 ≤ n) (hn2 : n ≤ 9223372036854775807) (hcl : cs.length ≤ 1000) (hl : hs.length ≤ 1024) :
    AFn Tryz.prog 11 [.int .i64 t, .agg [.int .i64 k, .int .i64 a], .int .i64 n, .pure 1 (numsE .i64 cs), .int .i64 m, .pure 6 (els hs)] [] (fun v rs => v = .bool true ∧ rs = []) := by
  by_cases he : wE k a n cs m hs = 0
  · exact divides_good t k a n cs m hs hn hn2 hcl hl he
  · exact divides_err t k a n cs m hs hn hn2 hcl hl he

theorem cuts_ok (l : List Int) (hl : TapeOk l) (f t at_ : Int) (hf : 0 ≤ f) (hf1 : f ≤ 84005) (h0 : 0 ≤ at_) (h1 : at_ ≤ l.length) : AFn Tryz.prog 9 [.ref 0 1 0 0, .agg [.int .i64 f, .int .i64 t]] [tapeRow 44 l at_]
    (fun v rs => ∃ (a : Int) (r : List Int), 0 ≤ a ∧ a ≤ l.length ∧ r.length ≤ 4 ∧ v = .own 1 r.length 0 r.length ∧ rs = [tapeRow 44 l a, .live 3 1 (numsE .i64 r)]) := by
  refine afn Tryz.func9 a9_ok (by simp [a9]) ?_
  simp only [go_sem,a9,a9r0,a9r1,a9r2,a9r3,a9r4,a9r5,a9r6,a9r7,a9r8,a9r9,a9r10,a9r11]
  (refine callC_tape (next_ok l hl 4 (by omega)) rfl rfl (by omega) (by omega) ?_; rintro _ at_ _ _ ⟨ x,rfl,_,_⟩; simp only [go_sem])
  refine avc_loop (fun env rows => ∃ (a y : Int) (j : Nat) (r : List Int), 0 ≤ a ∧ a ≤ l.length ∧ r.length + j ≤ 3 ∧ f ≤ y ∧ y + 8 * j ≤ f + 24 ∧ env = [(0, .ref 0 1 0 0), (3, .ref 1 1 0 0), (5, .own 2 r.length 0 r.length), (6, .int .i64 y), (7, .int .i64 j)] ∧ rows = [tapeRow 44 l a, .live 34 2 [[.int .i64 f, .int .i64 t]], .live 3 1 (numsE .i64 r)])
    (fun env _ => match slot env 7 with | .int _ j => j.toNat | _ => 0) ?_ ?_
  · (refine Cl.ghost 5  3  1 rfl (Cl.norm [ 0,3,5,6,7] ?_); simp only [go_sem])
    refine Cl.here ⟨at_, f, x.toNat, [], by omega, by omega, by simp; omega, by omega, by omega, ?_, rfl⟩
    rw [show ((x.toNat : Nat) : Int) = x from by omega]
    rfl
  rintro env rows ⟨at_, y, j, r, h0, h1, hr, hy0, hy1, rfl, rfl⟩
  have hw1 : IntKind.i64.wrap ((j : Int) - 1) = ((j - 1 : Nat) : Int) ∨ j = 0 := by
    rcases Nat.eq_zero_or_pos j with h | h
    · exact .inr h
    · left; rw [wrap_i64 (by omega) (by omega)]; omega
  simp only [go_sem,a9,a9r0,a9r1,a9r2,a9r3,a9r4,a9r5,a9r6,a9r7,a9r8,a9r9,a9r10,a9r11]
  refine condC_intro ?_ ?_ <;> intro hg2 <;> simp only [decide_eq_true_eq,decide_eq_false_iff_not,beq_iff_eq,beq_eq_false_iff_ne,bne_iff_ne,bne_eq_false_iff_eq,Bool.not_eq_true',Bool.not_eq_false',Int.not_lt,Int.not_le,ne_eq,Bool.and_eq_true,Bool.or_eq_true,Bool.or_eq_false_iff,Bool.and_eq_false_iff] at hg2 <;> simp only [go_sem,a9,a9r0,a9r1,a9r2,a9r3,a9r4,a9r5,a9r6,a9r7,a9r8,a9r9,a9r10,a9r11]
  · have hj : 0 < j := by omega
    have hw1 : IntKind.i64.wrap ((j : Int) - 1) = ((j - 1 : Nat) : Int) := by rw [wrap_i64 (by omega) (by omega)]; omega
    (refine callC_tape (next_ok l hl 8 (by omega)) rfl rfl (by omega) (by omega) ?_; rintro _ at_ _ _ ⟨ z,rfl,_,_⟩; simp only [go_sem])
    have hw2 : IntKind.i64.wrap (1 + z) = 1 + z := wrap_i64 (by omega) (by omega)
    have hw3 : IntKind.i64.wrap (y + (1 + z)) = y + (1 + z) := wrap_i64 (by omega) (by omega)
    simp only [go_sem,hw2,hw3]
    refine grdC_cut (fun env rows => ∃ (a : Int) (b : Bool), 0 ≤ a ∧ a ≤ l.length ∧ slot env 0 = .ref 0 1 0 0 ∧ slot env 3 = .ref 1 1 0 0 ∧ slot env 5 = .own 2 r.length 0 r.length ∧ slot env 6 = .int .i64 (y + (1 + z)) ∧ slot env 7 = .int .i64 j ∧ slot env 29 = .bool b ∧ rows = [tapeRow 44 l a, .live 34 2 [[.int .i64 f, .int .i64 t]], .live 3 1 (numsE .i64 r)]) ?_ ?_ ?_
    · intro hg
      simp only [go_sem,hg]
      exact ⟨at_, true, by omega, by omega, by first | exact ⟨rfl, rfl⟩ | simp⟩
    · intro hg
      simp only [go_sem,hg]
      (refine callC_tape (next_ok l hl 8 (by omega)) rfl rfl (by omega) (by omega) ?_; rintro _ at_ _ _ ⟨ w,rfl,_,_⟩; simp only [go_sem])
      exact ⟨at_, (w == 7), by omega, by omega, by first | exact ⟨rfl, rfl⟩ | simp⟩
    rintro env rows ⟨at_, b, h0, h1, s0, s3, s5, s6, s7, s29, rfl⟩
    cases b
    · simp only [go_sem,a9,a9r0,a9r1,a9r2,a9r3,a9r4,a9r5,a9r6,a9r7,a9r8,a9r9,a9r10,a9r11,s0,s3,s5,s6,s7,s29,hw1]
      refine Cl.here ⟨⟨at_, y + (1 + z), j - 1, r, by omega, by omega, by omega, by omega, by omega, rfl, rfl⟩, ?_⟩
      simp only [go_sem]
      omega
    · simp only [go_sem,a9,a9r0,a9r1,a9r2,a9r3,a9r4,a9r5,a9r6,a9r7,a9r8,a9r9,a9r10,a9r11,s0,s3,s5,s6,s7,s29,hw1]
      refine ⟨by omega, ?_⟩
      (refine Cl.tr [some 0,some 1,some 2] [] rfl rfl (by simp only [go_sem] <;> rfl) ?_; simp only [go_sem])
      refine Cl.here ⟨⟨at_, y + (1 + z), j - 1, r ++ [y + (1 + z)], by omega, by omega, by simp; omega, by omega, by omega, by simp, rfl⟩, ?_⟩
      simp only [go_sem]
      omega
  · obtain rfl : j = 0 := by omega
    (refine callC_tape (next_ok l hl 10 (by omega)) rfl rfl (by omega) (by omega) ?_; rintro _ at_ _ _ ⟨ w,rfl,_,_⟩; simp only [go_sem])
    by_cases hw9 : w = 9
    · have hb : (w == 9) = true := by simp [hw9]
      simp only [go_sem,a9,a9r0,a9r1,a9r2,a9r3,a9r4,a9r5,a9r6,a9r7,a9r8,a9r9,a9r10,a9r11,hb]
      (refine callC_pick [f,y,0] (pick_ok l hl _ (by simp) (by simp)) rfl rfl rfl rfl rfl (by decide) (by omega) (by omega) ?_; rintro _ at_ _ _ ⟨u,hmem,rfl⟩; simp only [List.mem_cons,List.not_mem_nil,or_false] at hmem; simp only [go_sem])
      refine ⟨by omega, ?_⟩
      (refine Cl.tr [some 0,some 2] [] rfl rfl (by simp only [go_sem] <;> rfl) ?_; simp only [go_sem])
      exact Cl.here ⟨at_, r ++ [u], by omega, by omega, by simp; omega, by simp [slot], rfl⟩
    · have hb : (w == 9) = false := by simp [hw9]
      simp only [go_sem,a9,a9r0,a9r1,a9r2,a9r3,a9r4,a9r5,a9r6,a9r7,a9r8,a9r9,a9r10,a9r11,hb]
      (refine Cl.tr [some 0,some 2] [] rfl rfl (by simp only [go_sem] <;> rfl) ?_; simp only [go_sem])
      exact Cl.here ⟨at_, r, by omega, by omega, by omega, rfl, rfl⟩

end Go.Proofs.YtlanehcihoiglaaGreatDoor
