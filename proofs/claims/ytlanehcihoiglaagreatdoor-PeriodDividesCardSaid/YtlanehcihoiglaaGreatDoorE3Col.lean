/- The holidays of years. -/
import Derived.Test.YtlanehcihoiglaaGreatDoorE3HPl
set_option linter.unusedSimpArgs false
set_option linter.unusedVariables false
set_option linter.unusedSectionVars false
namespace Go.Proofs.YtlanehcihoiglaaGreatDoor
open Go Go.Abs
open Go.RowKit (Below)
set_option linter.unusedSimpArgs false

theorem yr_take {l : List Hol} {y : Int} {i : Nat} (h : i < l.length) : yr (l.take (i + 1)) y = yr (l.take i) y ++ (namO l[i] y).toList := by
  unfold yr
  rw [List.take_add_one, List.filterMap_append, List.getElem?_eq_getElem h]
  congr 1
theorem validL_get {l : List Hol} (h : validL l = true) {i : Nat} (hi : i < l.length) : ruleP l[i] = true := List.all_eq_true.1 h _ (List.getElem_mem hi)

theorem cel_hol_take (h : Hol) : List.take 6 (Cel.c h) = Cel.c h := rfl
theorem cel_hol_len (h : Hol) : (Cel.c h).length = 6 := rfl
theorem cel_hol_one (h : Hol) : (Cel.c h).all Abs.one = true := rfl
theorem collect_ok (l : List Hol) (a b : Int) (hl : l.length ≤ 1024) (hv : validL l = true) (ha : 1970 ≤ a) (hb : b ≤ 2199) : AFn Tryz.prog 56 [.pure 6 (els l), .int .i64 a, .int .i64 b] [] (fun v rs => v = .pure 1 (numsE .i64 (colP l a b)) ∧ rs = []) := by
  refine afnW Tryz.func56 a56_ok (by simp [a56]) ?_
  simp only [go_sem,a56,a56r0,a56r1,a56r2,a56r3,a56r4,a56r5,a56r6,a56r7,a56r8,a56r9,a56r10,a56r11,a56r12,a56r13]
  repeat (refine Cl.here ?_; simp only [go_sem])
  refine avcW_loop (fun env rows => ∃ n : Nat, (a + n ≤ b + 1 ∨ n = 0) ∧ n ≤ 230 ∧ env = [(0, .pure 6 (els l)), (2, .int .i64 b), (7, .own 0 (uptoY l a n).length 0 (uptoY l a n).length), (8, .int .i64 (a + n))] ∧ rows = [.live 3 1 (numsE .i64 (uptoY l a n))])
    (fun env _ => match slot env 8 with | .int _ j => (2300 - j).toNat | _ => 0) ?_ ?_
  · (refine Cl.ghost 7  3  1 rfl (Cl.norm [ 0,2,7,8] ?_); simp only [go_sem])
    exact Cl.here ⟨0, .inr rfl, by omega, by simp [uptoY], rfl⟩
  · rintro env rows ⟨n, hn, hn2, rfl, rfl⟩
    have hlen := uptoY_length l a n
    have hlen2 : (uptoY l a n).length ≤ 235520 := by
      have : n * l.length ≤ 230 * 1024 := Nat.mul_le_mul hn2 hl
      omega
    simp only [go_sem,a56,a56r0,a56r1,a56r2,a56r3,a56r4,a56r5,a56r6,a56r7,a56r8,a56r9,a56r10,a56r11,a56r12,a56r13]
    repeat (refine Cl.here ?_; simp only [go_sem])
    refine condW_intro ?_ ?_ <;> intro hg1 <;> simp only [decide_eq_true_eq,decide_eq_false_iff_not,beq_iff_eq,beq_eq_false_iff_ne,bne_iff_ne,bne_eq_false_iff_eq,Bool.not_eq_true',Bool.not_eq_false',Int.not_lt,Int.not_le,ne_eq,Bool.and_eq_true,Bool.or_eq_true,Bool.or_eq_false_iff,Bool.and_eq_false_iff] at hg1 <;> simp only [go_sem,a56,a56r0,a56r1,a56r2,a56r3,a56r4,a56r5,a56r6,a56r7,a56r8,a56r9,a56r10,a56r11,a56r12,a56r13]
    · repeat (refine Cl.here ?_; simp only [go_sem])
      have hn3 : n < 230 := by omega
      refine avcW_loop (fun env rows => ∃ i : Nat, i ≤ l.length ∧ env = [(0, .pure 6 (els l)), (2, .int .i64 b), (7, .own 0 (uptoY l a n ++ yr (l.take i) (a + n)).length 0 (uptoY l a n ++ yr (l.take i) (a + n)).length), (8, .int .i64 (a + n)), (19, .pure 6 (els l)), (20, .int .i64 l.length), (21, .int .i64 i)] ∧ rows = [.live 3 1 (numsE .i64 (uptoY l a n ++ yr (l.take i) (a + n)))])
        (fun env _ => match slot env 21 with | .int _ j => (l.length - j).toNat | _ => 0) ?_ ?_
      · exact Cl.here ⟨0, by omega, by simp [yr], by simp [yr]⟩
      · rintro env rows ⟨i, hi, rfl, rfl⟩
        have hyl : (uptoY l a n ++ yr (l.take i) (a + n)).length ≤ 236544 := by
          have := yr_length (l.take i) (a + n)
          rw [List.length_take] at this
          rw [List.length_append]
          omega
        simp only [go_sem,a56,a56r0,a56r1,a56r2,a56r3,a56r4,a56r5,a56r6,a56r7,a56r8,a56r9,a56r10,a56r11,a56r12,a56r13]
        repeat (refine Cl.here ?_; simp only [go_sem])
        refine condW_intro ?_ ?_ <;> intro hg2 <;> simp only [decide_eq_true_eq,decide_eq_false_iff_not,beq_iff_eq,beq_eq_false_iff_ne,bne_iff_ne,bne_eq_false_iff_eq,Bool.not_eq_true',Bool.not_eq_false',Int.not_lt,Int.not_le,ne_eq,Bool.and_eq_true,Bool.or_eq_true,Bool.or_eq_false_iff,Bool.and_eq_false_iff] at hg2 <;> simp only [go_sem,a56,a56r0,a56r1,a56r2,a56r3,a56r4,a56r5,a56r6,a56r7,a56r8,a56r9,a56r10,a56r11,a56r12,a56r13]
        · have hlt : i < l.length := by omega
          repeat (refine Cl.here ?_; simp only [go_sem])
          have hr := validL_get hv hlt
          have hyr := yr_take (y := a + n) hlt
          have hw : IntKind.i64.wrap ((i : Int) + 1) = ((i + 1 : Nat) : Int) := by rw [wrap_i64 (by omega) (by omega)]; omega
          simp only [els_getD hlt]
          generalize l[i] = hh at hr hyr ⊢
          refine ⟨by omega, by omega, by rw [cel_hol_len]; decide, rfl, rfl, ?_⟩
          simp only [go_sem,cel_hol_take]
          refine Cl.here ?_
          simp only [go_sem,cel_hol_take,cel_hol_len,cel_hol_one]
          refine callC_det (named_ok hh (a + n) hr ⟨by omega, by omega⟩) rfl (by cases namO hh (a + n) <;> rfl) ?_
          rcases hno : namO hh (a + n) with _ | d
          · rw [nmV]
            rw [hno] at hyr
            simp only [go_sem]
            (refine Cl.tr [some 0] [] rfl rfl (by simp only [go_sem] <;> rfl) ?_; simp only [go_sem])
            repeat (refine Cl.here ?_; simp only [go_sem])
            rw [Option.toList_none, List.append_nil] at hyr
            exact ⟨⟨i + 1, by omega, by rw [hyr, hw], by rw [hyr]⟩, by rw [hw]; omega⟩
          · rw [nmV]
            rw [hno, Option.toList_some] at hyr
            simp only [go_sem]
            (refine Cl.tr [some 0] [] rfl rfl (by simp only [go_sem] <;> rfl) ?_; simp only [go_sem])
            (refine Cl.here ?_; simp only [go_sem])
            (refine Cl.here ?_; simp only [go_sem])
            refine ⟨by omega, ?_⟩
            (refine Cl.tr [some 0] [] rfl rfl (by simp only [go_sem] <;> rfl) ?_; simp only [go_sem])
            repeat (refine Cl.here ?_; simp only [go_sem])
            refine ⟨⟨i + 1, by omega, ?_, ?_⟩, by rw [hw]; omega⟩
            · rw [hyr, hw]; simp [Nat.add_assoc]
            · rw [hyr, ← List.append_assoc]; try rfl
        · have hil : i = l.length := by omega
          subst hil
          rw [List.take_length, ← uptoY_succ] at *
          repeat (refine Cl.here ?_; simp only [go_sem])
          have hw : IntKind.i64.wrap (a + (n : Int) + 1) = a + ((n + 1 : Nat) : Int) := by rw [wrap_i64 (by omega) (by omega)]; omega
          exact ⟨⟨n + 1, .inl (by omega), by omega, by rw [hw], rfl⟩, by rw [hw]; omega⟩
    · repeat (refine Cl.here ?_; simp only [go_sem])
      have hnn : n = (b + 1 - a).toNat := by omega
      have hcol : colP l a b = Lib.compact (srt (uptoY l a n)) := by rw [colP, uq, hnn]
      rw [hcol]
      have hsl := srt_length (uptoY l a n)
      have hso := sortN_ok (uptoY l a n) (by omega)
      have hco := compactN_ok (srt (uptoY l a n)) (by omega)
      have hcl := compact_le (srt (uptoY l a n))
      rw [hsl] at hco hcl
      generalize uptoY l a n = zs at *
      generalize srt zs = ys at *
      generalize Lib.compact ys = xs at *
      (refine callC_of [0] [] (by decide) (by simp only [go_sem] <;> rfl) (by simp only [go_sem] <;> rfl) (hso) ?_; rintro _ _ ⟨rfl,rfl⟩; refine ⟨.inl rfl,?_⟩; simp only [go_sem])
      repeat (refine Cl.here ?_; simp only [go_sem])
      (refine callC_of [0] [] (by decide) (by simp only [go_sem] <;> rfl) (by simp only [go_sem] <;> rfl) (hco) ?_; rintro _ _ ⟨rfl,rfl⟩; refine ⟨.inl rfl,?_⟩; simp only [go_sem])
      have hl2 : zs.length = (numsE .i64 (xs ++ List.replicate (zs.length - xs.length) 0)).length := by rw [numsE_length, List.length_append, List.length_replicate]; omega
      have hws : ((numsE .i64 (xs ++ List.replicate (zs.length - xs.length) 0)).drop 0).take xs.length = numsE .i64 xs := by rw [List.drop_zero, numsE_take, List.take_left]
      have hcl2 : cleanE (numsE .i64 (xs ++ List.replicate (zs.length - xs.length) 0)) = true := numsE_clean
      generalize numsE .i64 (xs ++ List.replicate (zs.length - xs.length) 0) = ws at *
      refine Cl.frz [] [0] rfl rfl (by simp only [go_sem] <;> rfl) ?_
      have hbv : bindV [.live 3 1 ws] [] [0] (.own 0 zs.length 0 xs.length) = .pure 1 (numsE .i64 xs) := by
        rw [bindV_frzP (by rfl) (by rfl) (by rfl) hl2 (by omega) hcl2, hws]
      simp only [List.map_cons, List.map_nil, hbv]
      (refine Cl.here ?_; simp only [go_sem])
      exact Cl.here ⟨rfl, rfl⟩

theorem validP_zero {l : List Hol} (h : validP l = 0) : l.length ≤ 1024 ∧ validL l = true := by
  unfold validP at h
  split at h
  · omega
  · split at h
    · exact ⟨by omega, by assumption⟩
    · omega
end Go.Proofs.YtlanehcihoiglaaGreatDoor
