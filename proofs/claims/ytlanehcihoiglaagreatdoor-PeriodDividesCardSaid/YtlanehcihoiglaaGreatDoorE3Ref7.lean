/- The reference: working days, day by day. Two equal lists. -/
import Derived.Test.YtlanehcihoiglaaGreatDoorE3Ref6
set_option linter.unusedSimpArgs false
set_option linter.unusedVariables false
set_option linter.unusedSectionVars false
namespace Go.Proofs.YtlanehcihoiglaaGreatDoor
open Go Go.Abs
open Go.RowKit (Below)
set_option linter.unusedSimpArgs false
set_option linter.unusedVariables false

theorem rn_hit {h : Hol} {y d : Int} : ((namO h y).isSome = true ∧ rnX h y = d) ↔ namO h y = some d := by
  unfold rnX namO
  rcases hx : nmD h y with _ | x
  · simp
  · rw [Option.filter_some, Option.getD_some]
    split
    · simp
    · simp

theorem rIsHoliday_ok (l : List Hol) (hl : l.length ≤ 1024) (hv : validL l = true) (d : Int) : AFn Tryz.prog 74 [.pure 6 (els l), .int .i64 d] [] (fun v rs => v = .bool (decide (d ∈ allH l)) ∧ rs = []) := by
  refine afn Tryz.func74 a74_ok (by simp [a74]) ?_
  have hD := rDate_ok d
  simp only [go_sem,a74,a74r0,a74r1,a74r2,a74r3,a74r4,a74r5,a74r6,a74r7,a74r8,a74r9,a74r10,a74r11]
  by_cases hd : okD d
  rotate_left
  · rw [if_neg hd] at hD
    refine callC_det hD rfl rfl ?_
    have hno : decide (d ∈ allH l) = false := by
      rw [decide_eq_false_iff_not]
      intro hm
      exact hd (col_okD hm)
    rw [hno]
    simp only [go_sem]
    refine avc_loop (fun env rows => env = [(0, .pure 6 (els l)), (1, .int .i64 d), (5, .int .i64 0), (8, .bool false), (9, .int .i64 0)] ∧ rows = []) (fun _ _ => 0) ?_ ?_
    · exact Cl.here ⟨rfl, rfl⟩
    · rintro env rows ⟨rfl, rfl⟩
      simp only [go_sem,a74,a74r0,a74r1,a74r2,a74r3,a74r4,a74r5,a74r6,a74r7,a74r8,a74r9,a74r10,a74r11]
      exact Cl.fin rfl ⟨rfl, rfl⟩
  rw [if_pos hd] at hD
  refine callC_det hD rfl rfl ?_
  have hy := year_ok (d := d) hd.1 (by have := hd.2; omega)
  have hym := year_max hd.1 hd.2
  have hmem : d ∈ allH l ↔ ∃ h, h ∈ l ∧ ∃ y, max (yearP d - 1) 1970 ≤ y ∧ y ≤ min (yearP d + 1) 2199 ∧ namO h y = some d := by
    rw [allH, col_mem]
    constructor
    · rintro ⟨y, h1, h2, h, hh, hn⟩
      obtain ⟨_, n1, n2⟩ := nam_near (List.all_eq_true.1 hv _ hh) ⟨h1, h2⟩ hn
      exact ⟨h, hh, y, by omega, by omega, hn⟩
    · rintro ⟨h, hh, y, h1, h2, hn⟩
      exact ⟨y, by omega, by omega, h, hh, hn⟩
  generalize yearP d = Y at hy hym hmem ⊢
  generalize (dateM d).1 = M
  generalize (dateM d).2 + 1 = R
  simp only [go_sem]
  refine avc_loop (fun env rows => ∃ i : Nat, i ≤ l.length ∧ (∀ j (hj : j < i) (hl : j < l.length) (y : Int), max (Y - 1) 1970 ≤ y → y ≤ min (Y + 1) 2199 → namO l[j] y ≠ some d) ∧ env = [(0, .pure 6 (els l)), (1, .int .i64 d), (5, .int .i64 Y), (8, .bool true), (9, .int .i64 i)] ∧ rows = [])
    (fun env _ => match slot env 9 with | .int _ j => (l.length - j).toNat | _ => 0) ?_ ?_
  · exact Cl.here ⟨0, by omega, fun j hj => by omega, rfl, rfl⟩
  · rintro env rows ⟨i, hi, hno, rfl, rfl⟩
    have hw : IntKind.i64.wrap ((i : Int) + 1) = ((i + 1 : Nat) : Int) := by rw [wrap_i64 (by omega) (by omega)]; omega
    simp only [go_sem,a74,a74r0,a74r1,a74r2,a74r3,a74r4,a74r5,a74r6,a74r7,a74r8,a74r9,a74r10,a74r11]
    refine condC_intro ?_ ?_ <;> intro hg2 <;> simp only [decide_eq_true_eq,decide_eq_false_iff_not,beq_iff_eq,beq_eq_false_iff_ne,bne_iff_ne,bne_eq_false_iff_eq,Bool.not_eq_true',Bool.not_eq_false',Int.not_lt,Int.not_le,ne_eq,Bool.and_eq_true,Bool.or_eq_true,Bool.or_eq_false_iff,Bool.and_eq_false_iff] at hg2 <;> simp only [go_sem,a74,a74r0,a74r1,a74r2,a74r3,a74r4,a74r5,a74r6,a74r7,a74r8,a74r9,a74r10,a74r11]
    · have hlt : i < l.length := by omega
      have hr := validL_get hv hlt
      rw [wrap_i64 (x := Y - 1) (by omega) (by omega)]
      refine avc_loop (fun env rows => ∃ n : Nat, max (Y - 1) 1970 + n ≤ min (Y + 1) 2199 + 1 ∧ (∀ y : Int, max (Y - 1) 1970 ≤ y → y < max (Y - 1) 1970 + n → namO l[i] y ≠ some d) ∧ env = [(0, .pure 6 (els l)), (1, .int .i64 d), (5, .int .i64 Y), (8, .bool true), (9, .int .i64 i), (10, .int .i64 (max (Y - 1) 1970 + n))] ∧ rows = [])
        (fun env _ => match slot env 10 with | .int _ j => (3000 - j).toNat | _ => 0) ?_ ?_
      · exact Cl.here ⟨0, by omega, fun y h1 h2 => by omega, by simp, rfl⟩
      · rintro env rows ⟨n, hn, hno2, rfl, rfl⟩
        have hwn : IntKind.i64.wrap (max (Y - 1) 1970 + (n : Int) + 1) = max (Y - 1) 1970 + ((n + 1 : Nat) : Int) := by rw [wrap_i64 (by omega) (by omega)]; omega
        simp only [go_sem,a74,a74r0,a74r1,a74r2,a74r3,a74r4,a74r5,a74r6,a74r7,a74r8,a74r9,a74r10,a74r11]
        rw [wrap_i64 (x := Y + 1) (by omega) (by omega)]
        refine condC_intro ?_ ?_ <;> intro hg3 <;> simp only [decide_eq_true_eq,decide_eq_false_iff_not,beq_iff_eq,beq_eq_false_iff_ne,bne_iff_ne,bne_eq_false_iff_eq,Bool.not_eq_true',Bool.not_eq_false',Int.not_lt,Int.not_le,ne_eq,Bool.and_eq_true,Bool.or_eq_true,Bool.or_eq_false_iff,Bool.and_eq_false_iff] at hg3 <;> simp only [go_sem,a74,a74r0,a74r1,a74r2,a74r3,a74r4,a74r5,a74r6,a74r7,a74r8,a74r9,a74r10,a74r11]
        · refine ⟨by omega, by omega, ?_⟩
          try simp only [Int.toNat_natCast]
          rw [els_getD hlt]
          have hmi : l[i] ∈ l := List.getElem_mem hlt
          simp only [go_sem,cel_hol_take,cel_hol_len,cel_hol_one]
          refine callC_det (rnamed_ok l[i] (max (Y - 1) 1970 + n) hr ⟨by omega, by omega⟩) rfl rfl ?_
          have hhit := rn_hit (h := l[i]) (y := max (Y - 1) 1970 + n) (d := d)
          rw [rnV]
          by_cases hin : namO l[i] (max (Y - 1) 1970 + n) = some d
          · obtain ⟨e1, e2⟩ := hhit.2 hin
            rw [e1, e2]
            simp only [go_sem]
            refine Cl.fin rfl ⟨?_, rfl⟩
            rw [decide_eq_true (hmem.2 ⟨l[i], hmi, _, by omega, by omega, hin⟩)]
          · have hstep : ∀ y : Int, max (Y - 1) 1970 ≤ y → y < max (Y - 1) 1970 + ((n + 1 : Nat) : Int) → namO l[i] y ≠ some d := by
              intro y h1 h2
              by_cases hy2 : y = max (Y - 1) 1970 + n
              · subst hy2; exact hin
              · exact hno2 y h1 (by omega)
            rcases hs : (namO l[i] (max (Y - 1) 1970 + n)).isSome with _ | _
            · simp only [go_sem,hwn]
              refine Cl.here ⟨⟨n + 1, by omega, hstep, rfl, rfl⟩, ?_⟩
              simp only [go_sem]
              omega
            · have hne : ¬ rnX l[i] (max (Y - 1) 1970 + n) = d := fun e => hin (hhit.1 ⟨hs, e⟩)
              have hne2 : (rnX l[i] (max (Y - 1) 1970 + n) == d) = false := by simpa using hne
              simp only [go_sem,hne2,hwn]
              refine Cl.here ⟨⟨n + 1, by omega, hstep, rfl, rfl⟩, ?_⟩
              simp only [go_sem]
              omega
        · simp only [go_sem,hw]
          refine Cl.here ⟨⟨i + 1, by omega, fun j hj hl y h1 h2 => ?_, rfl, rfl⟩, ?_⟩
          · by_cases hji : j = i
            · subst hji; exact hno2 y h1 (by omega)
            · exact hno j (by omega) hl y h1 h2
          · simp only [go_sem]
            omega
    · refine Cl.fin rfl ⟨?_, rfl⟩
      rw [decide_eq_false]
      rw [hmem]
      rintro ⟨h, hh, y, h1, h2, hn⟩
      obtain ⟨j, hj, rfl⟩ := List.getElem_of_mem hh
      exact hno j (by omega) hj y h1 h2 hn

theorem rIsWorkday_ok (l : List Hol) (hl : l.length ≤ 1024) (hv : validL l = true) (d : Int) (hd : okD d) : AFn Tryz.prog 59 [.pure 6 (els l), .int .i64 d] [] (fun v rs => v = .bool (isWk (allH l) d) ∧ rs = []) := by
  refine afn Tryz.func59 a59_ok (by simp [a59]) ?_
  obtain ⟨hd0, hd1⟩ := hd
  simp only [go_sem,a59,a59r0,a59r1]
  refine callC_det (rShown_ok d (by omega) (by omega)) rfl rfl ?_
  simp only [go_sem]
  by_cases hw : wdP d < 5
  · simp only [go_sem,hw]
    refine callC_det (rIsHoliday_ok l hl hv d) rfl rfl ?_
    simp only [go_sem]
    exact Cl.fin rfl ⟨by simp [isWk, hw], rfl⟩
  · simp only [go_sem,hw]
    exact Cl.fin rfl ⟨by simp [isWk, hw], rfl⟩

end Go.Proofs.YtlanehcihoiglaaGreatDoor
