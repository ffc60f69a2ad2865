/- Working days. -/
import Derived.Test.YtlanehcihoiglaaGreatDoorE3Col
set_option linter.unusedSimpArgs false
set_option linter.unusedVariables false
set_option linter.unusedSectionVars false
namespace Go.Proofs.YtlanehcihoiglaaGreatDoor
open Go Go.Abs
open Go.RowKit (Below)
set_option linter.unusedSimpArgs false

def wkB (d : Int) : Int := (d + 3) / 7 * 5 + min ((d + 3) % 7) 5
theorem wkB_ok (d : Int) (h0 : 0 ≤ d) (h1 : d ≤ 100000) : AFn Tryz.prog 54 [.int .i64 d] [] (fun v rs => v = .int .i64 (wkB d) ∧ rs = []) := by
  refine afn Tryz.func54 a54_ok (by simp [a54]) ?_
  simp only [go_sem,a54,a54r0,a54r1,a54r2]
  rw [wrap_i64 (x := d + 3) (by omega) (by omega), Int.tdiv_eq_ediv_of_nonneg (by omega), Int.tmod_eq_emod_of_nonneg (by omega), wrap_i64 (x := (d + 3) / 7) (by omega) (by omega), wrap_i64 (x := (d + 3) / 7 * 5) (by omega) (by omega), wrap_i64 (by omega) (by omega)]
  exact ⟨by decide, by decide, Cl.fin rfl ⟨rfl, rfl⟩⟩

def inR (a b d : Int) : Bool := decide (a ≤ d ∧ d ≤ b ∧ wdP d < 5)
def wkN (l : List Hol) (a b : Int) : Int := wkB (b + 1) - wkB a - (((colP l (max (yearP a - 1) 1970) (min (yearP b + 1) 2199)).filter (inR a b)).length : Int)
def workP (l : List Hol) (a b : Int) : Int × Int :=
  if validP l = 0 then (if okD a ∧ okD b then (if b < a then (0, 0) else (wkN l a b, 0)) else (0, 2)) else (0, validP l)
theorem wkB_bd {d : Int} (h0 : 0 ≤ d) (h1 : d ≤ 100000) : 0 ≤ wkB d ∧ wkB d ≤ 100000 := by unfold wkB; omega
theorem col_okD {l : List Hol} {a b d : Int} (h : d ∈ colP l a b) : 0 ≤ d ∧ d ≤ 84005 := by
  obtain ⟨y, _, _, h, _, hn⟩ := col_mem.1 h
  rw [namO, Option.filter_eq_some_iff] at hn
  have := of_decide_eq_true hn.2
  exact this
theorem colP_length (l : List Hol) (a b : Int) (hl : l.length ≤ 1024) (ha : 1970 ≤ a) (hb : b ≤ 2199) : (colP l a b).length ≤ 235520 := by
  unfold colP uq
  have h1 := compact_le (srt (uptoY l a (b + 1 - a).toNat))
  rw [srt_length] at h1
  have h2 := uptoY_length l a (b + 1 - a).toNat
  have h3 : (b + 1 - a).toNat * l.length ≤ 230 * 1024 := Nat.mul_le_mul (by omega) hl
  omega
theorem Workdays_ok (l : List Hol) (hl : l.length ≤ 9223372036854775806) (a b : Int) : AFn Tryz.prog 38 [.pure 6 (els l), .int .i64 a, .int .i64 b] [] (fun v rs => v = .tup [.int .i64 (workP l a b).1, .int .i64 (workP l a b).2] ∧ rs = []) := by
  refine afn Tryz.func38 a38_ok (by simp [a38]) ?_
  simp only [go_sem,a38,a38r0,a38r1,a38r2,a38r3,a38r4,a38r5,a38r6,a38r7,a38r8,a38r9,a38r10,a38r11,a38r12,a38r13,a38r14,a38r15,a38r16]
  refine callC_det (Valid_ok l hl) rfl rfl ?_
  simp only [go_sem]
  refine condC_intro ?_ ?_ <;> intro hv <;> simp only [decide_eq_true_eq,decide_eq_false_iff_not,beq_iff_eq,beq_eq_false_iff_ne,bne_iff_ne,bne_eq_false_iff_eq,Bool.not_eq_true',Bool.not_eq_false',Int.not_lt,Int.not_le,ne_eq,Bool.and_eq_true,Bool.or_eq_true,Bool.or_eq_false_iff,Bool.and_eq_false_iff] at hv <;> simp only [go_sem,a38,a38r0,a38r1,a38r2,a38r3,a38r4,a38r5,a38r6,a38r7,a38r8,a38r9,a38r10,a38r11,a38r12,a38r13,a38r14,a38r15,a38r16]
  · exact Cl.fin rfl ⟨by rw [workP, if_neg hv], rfl⟩
  rw [workP, if_pos hv]
  obtain ⟨hl2, hvl⟩ := validP_zero hv
  refine callC_det (valid_ok a) rfl rfl ?_
  simp only [go_sem]
  by_cases ha : 0 ≤ a ∧ a ≤ 84005
  rotate_left
  · rw [if_neg (fun h => ha h.1)]
    simp only [go_sem,ha]
    exact Cl.fin rfl ⟨rfl, rfl⟩
  simp only [go_sem,ha]
  refine callC_det (valid_ok b) rfl rfl ?_
  by_cases hb : 0 ≤ b ∧ b ≤ 84005
  rotate_left
  · rw [if_neg (fun h => hb h.2)]
    simp only [go_sem,hb]
    exact Cl.fin rfl ⟨rfl, rfl⟩
  rw [if_pos ⟨ha, hb⟩]
  simp only [go_sem,hb]
  refine condC_intro ?_ ?_ <;> intro hba <;> simp only [decide_eq_true_eq,decide_eq_false_iff_not,beq_iff_eq,beq_eq_false_iff_ne,bne_iff_ne,bne_eq_false_iff_eq,Bool.not_eq_true',Bool.not_eq_false',Int.not_lt,Int.not_le,ne_eq,Bool.and_eq_true,Bool.or_eq_true,Bool.or_eq_false_iff,Bool.and_eq_false_iff] at hba <;> simp only [go_sem,a38,a38r0,a38r1,a38r2,a38r3,a38r4,a38r5,a38r6,a38r7,a38r8,a38r9,a38r10,a38r11,a38r12,a38r13,a38r14,a38r15,a38r16]
  · exact Cl.fin rfl ⟨by rw [if_pos hba], rfl⟩
  rw [if_neg (by omega)]
  rw [wrap_i64 (x := b + 1) (by omega) (by omega)]
  refine callC_det (wkB_ok (b + 1) (by omega) (by omega)) rfl rfl ?_
  simp only [go_sem]
  refine callC_det (wkB_ok a (by omega) (by omega)) rfl rfl ?_
  simp only [go_sem]
  have hwb := wkB_bd (d := b + 1) (by omega) (by omega)
  have hwa := wkB_bd (d := a) (by omega) (by omega)
  rw [wrap_i64 (x := wkB (b + 1) - wkB a) (by omega) (by omega)]
  obtain ⟨W, hW⟩ : ∃ W, W = wkB (b + 1) - wkB a := ⟨_, rfl⟩
  rw [← hW]
  have hya := year_ok (d := a) (by omega) (by omega)
  have hyb := year_ok (d := b) (by omega) (by omega)
  have hma := year_max (d := a) (by omega) (by omega)
  have hmb := year_max (d := b) (by omega) (by omega)
  refine callC_det (yearOf_ok a (by omega) (by omega)) rfl rfl ?_
  simp only [go_sem]
  rw [wrap_i64 (x := yearP a - 1) (by omega) (by omega)]
  refine callC_det (yearOf_ok b (by omega) (by omega)) rfl rfl ?_
  simp only [go_sem]
  rw [wrap_i64 (x := yearP b + 1) (by omega) (by omega)]
  refine callC_det (collect_ok l (max (yearP a - 1) 1970) (min (yearP b + 1) 2199) hl2 hvl (by omega) (by omega)) rfl rfl ?_
  have hcl := colP_length l (max (yearP a - 1) 1970) (min (yearP b + 1) 2199) hl2 (by omega) (by omega)
  have hcd : ∀ d ∈ colP l (max (yearP a - 1) 1970) (min (yearP b + 1) 2199), 0 ≤ d ∧ d ≤ 84005 := fun d hd => col_okD hd
  have hN : wkN l a b = W - (((colP l (max (yearP a - 1) 1970) (min (yearP b + 1) 2199)).filter (inR a b)).length : Int) := by rw [wkN, hW]
  rw [hN]
  generalize colP l (max (yearP a - 1) 1970) (min (yearP b + 1) 2199) = cs at hcl hcd ⊢
  clear hN hya hyb hma hmb hv hvl
  simp only [go_sem]
  have hcnt : ∀ i : Nat, (((cs.take i).filter (inR a b)).length : Int) ≤ 235520 := by
    intro i
    have h1 := List.length_filter_le (inR a b) (cs.take i)
    rw [List.length_take] at h1
    omega
  refine avc_loop (fun env rows => ∃ i : Nat, i ≤ cs.length ∧ env = [(1, .int .i64 a), (2, .int .i64 b), (9, .int .i64 (W - (((cs.take i).filter (inR a b)).length : Int))), (47, .pure 1 (numsE .i64 cs)), (48, .int .i64 cs.length), (49, .int .i64 i)] ∧ rows = [])
    (fun env _ => match slot env 49 with | .int _ j => (cs.length - j).toNat | _ => 0) ?_ ?_
  · refine Cl.here ⟨0, by omega, ?_, rfl⟩
    simp [numsE_length]
  · rintro env rows ⟨i, hi, rfl, rfl⟩
    have hci := hcnt i
    have hci1 := hcnt (i + 1)
    simp only [go_sem,a38,a38r0,a38r1,a38r2,a38r3,a38r4,a38r5,a38r6,a38r7,a38r8,a38r9,a38r10,a38r11,a38r12,a38r13,a38r14,a38r15,a38r16]
    refine condC_intro ?_ ?_ <;> intro hg2 <;> simp only [decide_eq_true_eq,decide_eq_false_iff_not,beq_iff_eq,beq_eq_false_iff_ne,bne_iff_ne,bne_eq_false_iff_eq,Bool.not_eq_true',Bool.not_eq_false',Int.not_lt,Int.not_le,ne_eq,Bool.and_eq_true,Bool.or_eq_true,Bool.or_eq_false_iff,Bool.and_eq_false_iff] at hg2 <;> simp only [go_sem,a38,a38r0,a38r1,a38r2,a38r3,a38r4,a38r5,a38r6,a38r7,a38r8,a38r9,a38r10,a38r11,a38r12,a38r13,a38r14,a38r15,a38r16]
    · have hlt : i < cs.length := by omega
      have hw : IntKind.i64.wrap ((i : Int) + 1) = ((i + 1 : Nat) : Int) := by rw [wrap_i64 (by omega) (by omega)]; omega
      have hd := hcd cs[i] (List.getElem_mem hlt)
      have htk : ((cs.take (i + 1)).filter (inR a b)).length = ((cs.take i).filter (inR a b)).length + (if inR a b cs[i] = true then 1 else 0) := by
        rw [List.take_add_one, List.getElem?_eq_getElem hlt, Option.toList_some, List.filter_append, List.length_append]
        congr 1
        by_cases h : inR a b cs[i] = true
        · rw [if_pos h, List.filter_cons_of_pos h]; rfl
        · rw [if_neg h, List.filter_cons_of_neg h]; rfl
      refine ⟨by omega, by omega, ?_⟩
      try simp only [Int.toNat_natCast]
      rw [numsE_getD hlt, List.getD_eq_getElem?_getD, List.getElem?_eq_getElem hlt, Option.getD_some]
      rw [htk] at hci1
      generalize ((cs.take i).filter (inR a b)).length = m at *
      have hend : ∀ {k : Int}, k = W - (((cs.take (i + 1)).filter (inR a b)).length : Int) → (∃ i_1 : Nat, i_1 ≤ cs.length ∧ ([(1, .int .i64 a), (2, .int .i64 b), (9, .int .i64 k), (47, .pure 1 (numsE .i64 cs)), (48, .int .i64 cs.length), (49, .int .i64 ((i + 1 : Nat) : Int))] : Env) = [(1, .int .i64 a), (2, .int .i64 b), (9, .int .i64 (W - (((cs.take i_1).filter (inR a b)).length : Int))), (47, .pure 1 (numsE .i64 cs)), (48, .int .i64 cs.length), (49, .int .i64 i_1)] ∧ ([] : List Row) = []) := by
        rintro k rfl
        exact ⟨i + 1, by omega, rfl, rfl⟩
      by_cases h1 : a ≤ cs[i]
      · by_cases h2 : cs[i] ≤ b
        · simp only [go_sem,h1,h2]
          refine callC_det (weekday_ok cs[i] (by omega) (by omega)) rfl rfl ?_
          simp only [go_sem]
          refine condC_intro ?_ ?_ <;> intro hg3 <;> simp only [decide_eq_true_eq,decide_eq_false_iff_not,beq_iff_eq,beq_eq_false_iff_ne,bne_iff_ne,bne_eq_false_iff_eq,Bool.not_eq_true',Bool.not_eq_false',Int.not_lt,Int.not_le,ne_eq,Bool.and_eq_true,Bool.or_eq_true,Bool.or_eq_false_iff,Bool.and_eq_false_iff] at hg3 <;> simp only [go_sem,a38,a38r0,a38r1,a38r2,a38r3,a38r4,a38r5,a38r6,a38r7,a38r8,a38r9,a38r10,a38r11,a38r12,a38r13,a38r14,a38r15,a38r16,hw]
          · have hin : inR a b cs[i] = true := by simp [inR, h1, h2, hg3]
            rw [if_pos hin] at htk hci1
            rw [wrap_i64 (by omega) (by omega)]
            exact Cl.here ⟨hend (by omega),by simp only [go_sem]; omega⟩
          · have hin : ¬ inR a b cs[i] = true := by simp only [inR, decide_eq_true_eq]; omega
            rw [if_neg hin] at htk
            exact Cl.here ⟨hend (by omega),by simp only [go_sem]; omega⟩
        · have hin : ¬ inR a b cs[i] = true := by simp only [inR, decide_eq_true_eq]; omega
          rw [if_neg hin] at htk
          simp only [go_sem,h1,h2,hw]
          exact Cl.here ⟨hend (by omega),by simp only [go_sem]; omega⟩
      · have hin : ¬ inR a b cs[i] = true := by simp only [inR, decide_eq_true_eq]; omega
        rw [if_neg hin] at htk
        simp only [go_sem,h1,hw]
        exact Cl.here ⟨hend (by omega),by simp only [go_sem]; omega⟩
    · have hkk : i = cs.length := by omega
      subst hkk
      rw [List.take_length]
      exact Cl.fin rfl ⟨rfl, rfl⟩

end Go.Proofs.YtlanehcihoiglaaGreatDoor
