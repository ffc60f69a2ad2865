/- The reference: zones, names, windows and what is covered. -/
import Derived.Test.YtefemdpicjgkeaaGreatDoorZ8Mrk
import Derived.Test.YtefemdpicjgkeaaGreatDoorZ3Ref7
set_option linter.unusedSimpArgs false
set_option linter.unusedVariables false
set_option linter.unusedSectionVars false
namespace Go.Proofs.YtefemdpicjgkeaaGreatDoor
open Go Go.Abs
set_option linter.unusedSimpArgs false
set_option linter.unusedVariables false

theorem isInst_ok (t : Int) : AFn Tryz.prog 48 [.int .i64 t] [] (fun v rs => v = .bool (decide (0 ≤ t ∧ t ≤ 120968639)) ∧ rs = []) := by
  refine afn Tryz.func48 a48_ok (by simp [a48]) ?_
  simp only [go_sem,a48,a48r0,a48r1]
  repeat' (first | (refine grdC_intro ?_ ?_ <;> intro hg <;> (have hp := hg; try simp only [decide_eq_true_eq,decide_eq_false_iff_not,beq_iff_eq,beq_eq_false_iff_ne,bne_iff_ne,bne_eq_false_iff_eq,Bool.not_eq_true',Bool.not_eq_false',Int.not_lt,Int.not_le,ne_eq,Bool.and_eq_true,Bool.or_eq_true,Bool.or_eq_false_iff,Bool.and_eq_false_iff] at hp) <;> (first | omega | (simp only [go_sem,hg,a48,a48r0,a48r1]; clear hg))) | (refine grdD_intro ?_ ?_ <;> intro hg <;> (have hp := hg; try simp only [decide_eq_true_eq,decide_eq_false_iff_not,beq_iff_eq,beq_eq_false_iff_ne,bne_iff_ne,bne_eq_false_iff_eq,Bool.not_eq_true',Bool.not_eq_false',Int.not_lt,Int.not_le,ne_eq,Bool.and_eq_true,Bool.or_eq_true,Bool.or_eq_false_iff,Bool.and_eq_false_iff] at hp) <;> (first | omega | (simp only [go_sem,hg,a48,a48r0,a48r1]; clear hg))) | (refine condC_intro ?_ ?_ <;> intro hg <;> (have hp := hg; try simp only [decide_eq_true_eq,decide_eq_false_iff_not,beq_iff_eq,beq_eq_false_iff_ne,bne_iff_ne,bne_eq_false_iff_eq,Bool.not_eq_true',Bool.not_eq_false',Int.not_lt,Int.not_le,ne_eq,Bool.and_eq_true,Bool.or_eq_true,Bool.or_eq_false_iff,Bool.and_eq_false_iff] at hp) <;> (first | omega | (simp only [go_sem,hg,a48,a48r0,a48r1]; clear hg))) | (refine condW_intro ?_ ?_ <;> intro hg <;> (have hp := hg; try simp only [decide_eq_true_eq,decide_eq_false_iff_not,beq_iff_eq,beq_eq_false_iff_ne,bne_iff_ne,bne_eq_false_iff_eq,Bool.not_eq_true',Bool.not_eq_false',Int.not_lt,Int.not_le,ne_eq,Bool.and_eq_true,Bool.or_eq_true,Bool.or_eq_false_iff,Bool.and_eq_false_iff] at hp) <;> (first | omega | (simp only [go_sem,hg,a48,a48r0,a48r1]; clear hg))))
  all_goals (refine Cl.fin rfl ⟨congrArg AVal.bool ?_, rfl⟩; rw [Bool.eq_iff_iff]; simp only [decide_eq_true_eq, decide_eq_false_iff_not, beq_iff_eq, beq_eq_false_iff_ne, bne_iff_ne, bne_eq_false_iff_eq, Bool.not_eq_true', Bool.not_eq_false', Int.not_lt, Int.not_le, ne_eq, Bool.and_eq_true, Bool.or_eq_true, Bool.or_eq_false_iff, Bool.and_eq_false_iff, Bool.false_eq_true, false_iff, true_iff, iff_true, iff_false, and_true, true_and] at *; omega)
theorem isOff_ok (o : Int) : AFn Tryz.prog 47 [.int .i64 o] [] (fun v rs => v = .bool (decide (offP o)) ∧ rs = []) := by
  refine afn Tryz.func47 a47_ok (by simp [a47]) ?_
  simp only [go_sem,a47,a47r0,a47r1]
  repeat' (first | (refine grdC_intro ?_ ?_ <;> intro hg <;> (have hp := hg; try simp only [decide_eq_true_eq,decide_eq_false_iff_not,beq_iff_eq,beq_eq_false_iff_ne,bne_iff_ne,bne_eq_false_iff_eq,Bool.not_eq_true',Bool.not_eq_false',Int.not_lt,Int.not_le,ne_eq,Bool.and_eq_true,Bool.or_eq_true,Bool.or_eq_false_iff,Bool.and_eq_false_iff] at hp) <;> (first | omega | (simp only [go_sem,hg,a47,a47r0,a47r1]; clear hg))) | (refine grdD_intro ?_ ?_ <;> intro hg <;> (have hp := hg; try simp only [decide_eq_true_eq,decide_eq_false_iff_not,beq_iff_eq,beq_eq_false_iff_ne,bne_iff_ne,bne_eq_false_iff_eq,Bool.not_eq_true',Bool.not_eq_false',Int.not_lt,Int.not_le,ne_eq,Bool.and_eq_true,Bool.or_eq_true,Bool.or_eq_false_iff,Bool.and_eq_false_iff] at hp) <;> (first | omega | (simp only [go_sem,hg,a47,a47r0,a47r1]; clear hg))) | (refine condC_intro ?_ ?_ <;> intro hg <;> (have hp := hg; try simp only [decide_eq_true_eq,decide_eq_false_iff_not,beq_iff_eq,beq_eq_false_iff_ne,bne_iff_ne,bne_eq_false_iff_eq,Bool.not_eq_true',Bool.not_eq_false',Int.not_lt,Int.not_le,ne_eq,Bool.and_eq_true,Bool.or_eq_true,Bool.or_eq_false_iff,Bool.and_eq_false_iff] at hp) <;> (first | omega | (simp only [go_sem,hg,a47,a47r0,a47r1]; clear hg))) | (refine condW_intro ?_ ?_ <;> intro hg <;> (have hp := hg; try simp only [decide_eq_true_eq,decide_eq_false_iff_not,beq_iff_eq,beq_eq_false_iff_ne,bne_iff_ne,bne_eq_false_iff_eq,Bool.not_eq_true',Bool.not_eq_false',Int.not_lt,Int.not_le,ne_eq,Bool.and_eq_true,Bool.or_eq_true,Bool.or_eq_false_iff,Bool.and_eq_false_iff] at hp) <;> (first | omega | (simp only [go_sem,hg,a47,a47r0,a47r1]; clear hg))))
  all_goals ((refine Cl.fin rfl ⟨congrArg AVal.bool ?_, rfl⟩; rw [Bool.eq_iff_iff]; simp only [decide_eq_true_eq, decide_eq_false_iff_not, beq_iff_eq, beq_eq_false_iff_ne, bne_iff_ne, bne_eq_false_iff_eq, Bool.not_eq_true', Bool.not_eq_false', Int.not_lt, Int.not_le, ne_eq, Bool.and_eq_true, Bool.or_eq_true, Bool.or_eq_false_iff, Bool.and_eq_false_iff, Bool.false_eq_true, false_iff, true_iff, iff_true, iff_false, and_true, true_and] at *; try simp only [offP] at *; omega))
theorem rZValid_ok (z : Zn) : AFn Tryz.prog 29 [z.v] [] (fun v rs => v = .int .i64 (vZ z) ∧ rs = []) := by
  refine afn Tryz.func29 a29_ok (by simp [a29]) ?_
  unfold vZ
  simp only [go_sem,a29,a29r0,a29r1,a29r2,a29r3,a29r4,a29r5,a29r6,a29r7,a29r8,a29r9,a29r10,a29r11,a29r12,a29r13,Zn.v]
  by_cases h1 : (z.ch.length : Int) > 64
  · simp only [go_sem,h1]
    exact Cl.fin rfl ⟨by rw [if_pos (by omega)], rfl⟩
  simp only [go_sem,h1]
  rw [if_neg (by omega)]
  refine callC_det (isOff_ok _) rfl rfl ?_
  by_cases h2 : offP z.off
  rotate_left
  · simp only [go_sem,h2]
    exact Cl.fin rfl ⟨rfl, rfl⟩
  simp only [go_sem,h2]
  refine avc_loop (fun env rows => ∃ (i : Nat) (p : Int), i ≤ z.ch.length ∧ chE (-1) z.ch = chE p (z.ch.drop i) ∧ (i = 0 → p = -1) ∧ (∀ j (h : j < z.ch.length), i = j + 1 → p = z.ch[j].at_) ∧ env = [(1, .ref 0 1 0 0), (3, .int .i64 i)] ∧ rows = [.live 27 2 [[.int .i64 z.off, .pure 2 (els z.ch)]]])
    (fun env _ => match slot env 3 with | .int _ j => (z.ch.length - j).toNat | _ => 0) ?_ ?_
  · exact Cl.here ⟨0, -1, by omega, rfl, fun _ => rfl, fun j _ h => by omega, rfl, rfl⟩
  · rintro env rows ⟨i, p, hi, hd, hp0, hp1, rfl, rfl⟩
    have hw : IntKind.i64.wrap ((i : Int) + 1) = ((i + 1 : Nat) : Int) := by rw [wrap_i64 (by omega) (by omega)]; omega
    simp only [go_sem,a29,a29r0,a29r1,a29r2,a29r3,a29r4,a29r5,a29r6,a29r7,a29r8,a29r9,a29r10,a29r11,a29r12,a29r13]
    refine condC_intro ?_ ?_ <;> intro hg2 <;> simp only [decide_eq_true_eq,decide_eq_false_iff_not,beq_iff_eq,beq_eq_false_iff_ne,bne_iff_ne,bne_eq_false_iff_eq,Bool.not_eq_true',Bool.not_eq_false',Int.not_lt,Int.not_le,ne_eq,Bool.and_eq_true,Bool.or_eq_true,Bool.or_eq_false_iff,Bool.and_eq_false_iff] at hg2 <;> simp only [go_sem,a29,a29r0,a29r1,a29r2,a29r3,a29r4,a29r5,a29r6,a29r7,a29r8,a29r9,a29r10,a29r11,a29r12,a29r13]
    · have hlt : i < z.ch.length := by omega
      refine ⟨by omega, by omega, ?_⟩
      try simp only [Int.toNat_natCast]
      rw [chE_drop hlt] at hd
      have hnx : ∀ j (h : j < z.ch.length), i + 1 = j + 1 → z.ch[i].at_ = z.ch[j].at_ := by intro j h hj; obtain rfl : i = j := (by omega); rfl
      rw [els_getD hlt]
      generalize z.ch[i] = c at hd hnx ⊢
      simp only [go_sem,cel_ch]
      refine callC_det (isInst_ok _) rfl rfl ?_
      by_cases h3 : 0 ≤ c.at_ ∧ c.at_ ≤ 120968639
      rotate_left
      · simp only [go_sem,h3]
        exact Cl.fin rfl ⟨by rw [hd, if_pos (fun h => h3 ⟨h.1, h.2.1⟩)], rfl⟩
      simp only [go_sem,h3]
      refine callC_det (isOff_ok _) rfl rfl ?_
      by_cases h5 : offP c.off
      rotate_left
      · simp only [go_sem,h5]
        exact Cl.fin rfl ⟨by rw [hd, if_pos (fun h => h5 h.2.2)], rfl⟩
      simp only [go_sem,h5]
      rw [if_neg (by simp only [h5, and_true]; omega)] at hd
      cases i with
      | zero =>
        simp only [go_sem,Int.natCast_zero,Int.lt_irrefl,gt_iff_lt]
        obtain rfl := hp0 rfl
        rw [if_neg (by omega)] at hd
        simp only [go_sem,Int.natCast_zero] at hw
        (refine Cl.tr [some 0] [] rfl rfl (by simp only [go_sem] <;> rfl) ?_; simp only [go_sem])
        refine Cl.here ⟨⟨1, c.at_, by omega, hd, fun h => by omega, fun j h hj => hnx j h hj, rfl, rfl⟩, ?_⟩
        simp only [go_sem]
        omega
      | succ k =>
        have hk : k < z.ch.length := by omega
        obtain rfl := hp1 k hk rfl
        have hpos : ((k + 1 : Nat) : Int) > 0 := by omega
        have hwk : IntKind.i64.wrap (((k + 1 : Nat) : Int) - 1) = (k : Int) := by rw [wrap_i64 (by omega) (by omega)]; omega
        simp only [go_sem,hpos,hwk]
        refine ⟨by omega, by omega, ?_⟩
        try simp only [Int.toNat_natCast]
        rw [els_getD hk]
        simp only [go_sem,cel_ch]
        by_cases h6 : c.at_ ≤ z.ch[k].at_
        · rw [if_pos h6] at hd
          simp only [go_sem,h6]
          exact Cl.fin rfl ⟨by rw [hd], rfl⟩
        · rw [if_neg h6] at hd
          simp only [go_sem,h6,hw]
          (refine Cl.tr [some 0] [] rfl rfl (by simp only [go_sem] <;> rfl) ?_; simp only [go_sem])
          refine Cl.here ⟨⟨k + 1 + 1, c.at_, by omega, hd, fun h => by omega, fun j h hj => hnx j h hj, rfl, rfl⟩, ?_⟩
          simp only [go_sem]
          omega
    · obtain rfl : i = z.ch.length := by omega
      refine Cl.fin rfl ⟨?_, rfl⟩
      rw [hd, List.drop_length]; rfl
theorem rShift_ok (z : Zn) (hz : vZ z = 0) (t : Int) : AFn Tryz.prog 42 [z.v, .int .i64 t] [] (fun v rs => v = .int .i64 (shZ z t) ∧ rs = []) := by
  have hk := vZ_ok hz
  have hlen := hk.len
  refine afn Tryz.func42 a42_ok (by simp [a42]) ?_
  simp only [go_sem,a42,a42r0,a42r1,a42r2,a42r3,a42r4,a42r5,a42r6,Zn.v]
  refine avc_loop (fun env rows => ∃ (i : Nat), i ≤ z.ch.length ∧ shZ z t = shF t z.off (z.ch.take i) ∧ env = [(1, .int .i64 t), (2, .ref 0 1 0 0), (5, .int .i64 ((i : Int) - 1))] ∧ rows = [.live 27 2 [[.int .i64 z.off, .pure 2 (els z.ch)]]])
    (fun env _ => match slot env 5 with | .int _ j => (j + 1).toNat | _ => 0) ?_ ?_
  · have hw : IntKind.i64.wrap ((z.ch.length : Int) - 1) = (z.ch.length : Int) - 1 := wrap_i64 (by omega) (by omega)
    simp only [go_sem,hw]
    exact Cl.here ⟨z.ch.length, by omega, by rw [List.take_length]; rfl, rfl, rfl⟩
  · rintro env rows ⟨i, hi, hs, rfl, rfl⟩
    simp only [go_sem,a42,a42r0,a42r1,a42r2,a42r3,a42r4,a42r5,a42r6]
    refine condC_intro ?_ ?_ <;> intro hg2 <;> simp only [decide_eq_true_eq,decide_eq_false_iff_not,beq_iff_eq,beq_eq_false_iff_ne,bne_iff_ne,bne_eq_false_iff_eq,Bool.not_eq_true',Bool.not_eq_false',Int.not_lt,Int.not_le,ne_eq,Bool.and_eq_true,Bool.or_eq_true,Bool.or_eq_false_iff,Bool.and_eq_false_iff] at hg2 <;> simp only [go_sem,a42,a42r0,a42r1,a42r2,a42r3,a42r4,a42r5,a42r6]
    · obtain ⟨k, rfl⟩ : ∃ k, i = k + 1 := ⟨i - 1, by omega⟩
      have hlt : k < z.ch.length := by omega
      have hc : ((k + 1 : Nat) : Int) - 1 = (k : Int) := by omega
      rw [hc]
      rw [shF_take hlt] at hs
      refine ⟨by omega, by omega, ?_⟩
      try simp only [Int.toNat_natCast]
      rw [els_getD hlt]
      simp only [go_sem,cel_ch]
      by_cases h3 : z.ch[k].at_ ≤ t
      · rw [if_pos h3] at hs
        simp only [go_sem,h3]
        refine ⟨by omega, by omega, ?_⟩
        try simp only [Int.toNat_natCast]
        rw [els_getD hlt]
        simp only [go_sem,cel_ch]
        exact Cl.fin rfl ⟨by rw [hs], rfl⟩
      · rw [if_neg h3] at hs
        have hw : IntKind.i64.wrap ((k : Int) - 1) = (k : Int) - 1 := wrap_i64 (by omega) (by omega)
        simp only [go_sem,h3,hw]
        refine Cl.here ⟨⟨k, by omega, hs, rfl, rfl⟩, ?_⟩
        simp only [go_sem]
        omega
    · obtain rfl : i = 0 := by omega
      refine Cl.fin rfl ⟨?_, rfl⟩
      rw [hs]; rfl

/-- a day is a holiday for the program if it is one for the reference -/
theorem holP_eq {h : List Hol} (hv : validL h = true) (d : Int) : holP h d = decide (d ∈ allH h) := by
  have key : d ∈ allH h ↔ ∃ y, 1970 ≤ y ∧ y ≤ 2199 ∧ ∃ x, x ∈ h ∧ namO x y = some d := by rw [allH, col_mem]
  have hy : ∀ y, d ∈ yrL h y ↔ okY y ∧ ∃ x, x ∈ h ∧ namO x y = some d := fun y => by
    unfold yrL
    by_cases ho : okY y
    · rw [if_pos ho, col_mem]
      constructor
      · rintro ⟨y', h1, h2, x, hx, hn⟩
        obtain rfl : y' = y := by omega
        exact ⟨ho, x, hx, hn⟩
      · rintro ⟨_, x, hx, hn⟩
        exact ⟨y, by omega, by omega, x, hx, hn⟩
    · rw [if_neg ho]
      simp [ho]
  unfold holP
  rw [Bool.eq_iff_iff]
  simp only [Bool.and_eq_true, Bool.or_eq_true, decide_eq_true_eq, hy, key]
  constructor
  · rintro ⟨hd, (⟨ho, x, hx, hn⟩ | ⟨ho, x, hx, hn⟩) | ⟨ho, x, hx, hn⟩⟩ <;> exact ⟨_, ho.1, ho.2, x, hx, hn⟩
  · rintro ⟨y, h1, h2, x, hx, hn⟩
    obtain ⟨hd, n1, n2⟩ := nam_near (List.all_eq_true.1 hv _ hx) ⟨h1, h2⟩ hn
    refine ⟨hd, ?_⟩
    have hc : y = yearP d - 1 ∨ y = yearP d ∨ y = yearP d + 1 := by omega
    rcases hc with rfl | rfl | rfl
    · exact .inl (.inl ⟨⟨h1, h2⟩, x, hx, hn⟩)
    · exact .inl (.inr ⟨⟨h1, h2⟩, x, hx, hn⟩)
    · exact .inr ⟨⟨h1, h2⟩, x, hx, hn⟩

theorem shown_ok (m : Int) (h0 : -1440 ≤ m) (h1 : m ≤ 1000000000) : AFn Tryz.prog 41 [.int .i64 m] [] (fun v rs => v = .tup [.int .i64 (m / 1440), .int .i64 (m % 1440)] ∧ rs = []) := by
  refine afn Tryz.func41 a41_ok (by simp [a41]) ?_
  have e1 : (m + 1440).tdiv 1440 = m / 1440 + 1 := by rw [Int.tdiv_eq_ediv_of_nonneg (by omega)]; omega
  have w1 : IntKind.i64.wrap (m + 1440) = m + 1440 := wrap_i64 (by omega) (by omega)
  have w2 : IntKind.i64.wrap (m / 1440 + 1) = m / 1440 + 1 := wrap_i64 (by omega) (by omega)
  have w3 : IntKind.i64.wrap (m / 1440 + 1 - 1) = m / 1440 := by rw [wrap_i64 (by omega) (by omega)]; omega
  have w4 : IntKind.i64.wrap (1440 * (m / 1440)) = 1440 * (m / 1440) := wrap_i64 (by omega) (by omega)
  have w5 : IntKind.i64.wrap (m - 1440 * (m / 1440)) = m % 1440 := by rw [wrap_i64 (by omega) (by omega)]; omega
  simp only [go_sem,a41,a41r0,a41r1,a41r2,w1,e1,w2,w3,w4,w5]
  refine ⟨by omega, ?_⟩
  exact Cl.fin rfl ⟨rfl, rfl⟩

theorem rcovers_ok (h : List Hol) (hl : h.length ≤ 1024) (hv : validL h = true) (w : Win) (hw0 : 0 ≤ w.wd) (hw1 : w.wd ≤ 127) (hd0 : 0 ≤ w.dy) (hd2 : w.dy ≤ 2) (day m : Int) (h0 : -1000000 ≤ day) (h1 : day ≤ 1000000) :
    AFn Tryz.prog 43 [.pure 6 (els h), .agg (Cel.c w), .int .i64 day, .int .i64 m] [] (fun v rs => v = .bool (covP w m ((day + 3) % 7) (holP h day)) ∧ rs = []) := by
  have hb := bit_i64 (n := w.wd) (i := ((day + 3) % 7).toNat) hw0 (by omega) (by omega)
  rw [Int.toNat_of_nonneg (by omega)] at hb
  refine afn Tryz.func43 a43_ok (by simp [a43]) ?_
  have hx : ∀ (b : Bool), covP w m ((day + 3) % 7) (holP h day) = b → True := fun _ _ => trivial
  have hS := rShown_ok day h0 h1
  rw [show wdP day = (day + 3) % 7 from rfl] at hS
  have hH := rIsHoliday_ok h hl hv day
  rw [← holP_eq hv] at hH
  have hq0 : 0 ≤ (day + 3) % 7 := by omega
  have hq1 : (day + 3) % 7 ≤ 6 := by omega
  generalize (day + 3) % 7 = q at *
  have hwu : IntKind.u64.wrap q = q := wrap_u64 (by omega) (by omega)
  have hnn : ¬ q < 0 := by omega
  by_cases c1 : w.fr ≤ m <;> by_cases c2 : m < w.to <;> by_cases c3 : w.to ≤ w.fr
  all_goals (simp only [go_sem,a43,a43r0,a43r1,a43r2,a43r3,a43r4,a43r5,a43r6,cel_win,c1,c2,c3])
  all_goals (try (refine Cl.fin rfl ⟨congrArg AVal.bool ?_, rfl⟩; unfold covP; simp [c1, c2, c3]; done))
  all_goals (
    refine callD_det hS rfl rfl ?_
    cases hbt : bitP w.wd q <;> rw [hbt] at hb <;> simp only [Bool.false_eq_true, if_false, if_true] at hb)
  all_goals (simp only [go_sem,a43,a43r0,a43r1,a43r2,a43r3,a43r4,a43r5,a43r6,hwu,hb,hq0,hnn])
  all_goals (try (refine Cl.fin rfl ⟨congrArg AVal.bool ?_, rfl⟩; unfold covP; simp [c1, c2, c3, hbt]; done))
  all_goals (
    rcases (show w.dy = 0 ∨ w.dy = 1 ∨ w.dy = 2 by omega) with hy | hy | hy
    · simp only [go_sem,a43,a43r0,a43r1,a43r2,a43r3,a43r4,a43r5,a43r6,hy]
      refine Cl.fin rfl ⟨congrArg AVal.bool ?_, rfl⟩
      unfold covP; simp [c1, c2, c3, hbt, hy]
    · have e0 : (w.dy == 0) = false := by rw [hy]; rfl
      have e1 : (w.dy == 1) = true := by rw [hy]; rfl
      simp only [go_sem,a43,a43r0,a43r1,a43r2,a43r3,a43r4,a43r5,a43r6,e0,e1]
      refine callD_det hH rfl rfl ?_
      simp only [go_sem]
      refine Cl.fin rfl ⟨congrArg AVal.bool ?_, rfl⟩
      unfold covP; simp [c1, c2, c3, hbt, hy]
    · have e0 : (w.dy == 0) = false := by rw [hy]; rfl
      have e1 : (w.dy == 1) = false := by rw [hy]; rfl
      simp only [go_sem,a43,a43r0,a43r1,a43r2,a43r3,a43r4,a43r5,a43r6,e0,e1]
      refine callD_det hH rfl rfl ?_
      simp only [go_sem]
      refine Cl.fin rfl ⟨congrArg AVal.bool ?_, rfl⟩
      unfold covP; simp [c1, c2, c3, hbt, hy])

theorem rName_ok (s : ByteArray) : AFn Tryz.prog 50 [.str s] [] (fun v rs => v = .bool (nameP s) ∧ rs = []) := by
  refine afn Tryz.func50 a50_ok (by simp [a50]) ?_
  have hb : ((s.data.getD 0 0).toNat : Int) = (byt s 0 : Int) := rfl
  unfold nameP
  simp only [go_sem,a50,a50r0,a50r1,a50r2,a50r3,a50r4,a50r5,a50r6,a50r7,a50r8]
  by_cases h1 : (s.size : Int) = 0
  · have h1' : ((s.size : Int) == 0) = true := beq_iff_eq.2 h1
    simp only [go_sem,h1',h1]
    exact Cl.fin rfl ⟨by rw [show decide (1 ≤ s.size) = false from decide_eq_false (by omega)]; rfl, rfl⟩
  have h1'' : ((s.size : Int) == 0) = false := beq_eq_false_iff_ne.2 h1
  have h1' : (0 : Int) < s.size := by omega
  by_cases h2 : (s.size : Int) > 24
  · simp only [go_sem,h1,h1'',h2]
    exact Cl.fin rfl ⟨by rw [show decide (s.size ≤ 24) = false by simp; omega]; simp, rfl⟩
  simp only [go_sem,h1,h1'',h2,h1',Int.toNat_zero,hb]
  by_cases h3 : (byt s 0 : Int) < 97
  · simp only [go_sem,h3,h1',Int.toNat_zero,hb]
    exact Cl.fin rfl ⟨by rw [show decide (97 ≤ byt s 0) = false by simp; omega]; simp, rfl⟩
  simp only [go_sem,h3,h1',Int.toNat_zero,hb]
  by_cases h4 : (byt s 0 : Int) > 122
  · simp only [go_sem,h4]
    exact Cl.fin rfl ⟨by rw [show decide (byt s 0 ≤ 122) = false by simp; omega]; simp, rfl⟩
  simp only [go_sem,h4]
  have hx : (decide (1 ≤ s.size) && decide (s.size ≤ 24) && decide (97 ≤ byt s 0) && decide (byt s 0 ≤ 122) && allB s s.size) = allB s s.size := by
    rw [show decide (1 ≤ s.size) = true by simp; omega, show decide (s.size ≤ 24) = true by simp; omega, show decide (97 ≤ byt s 0) = true by simp; omega, show decide (byt s 0 ≤ 122) = true by simp; omega]; simp
  rw [hx]
  refine avc_loop (fun env rows => ∃ (i : Nat), i ≤ s.size ∧ allB s i = true ∧ env = [(0, .str s), (3, .int .i64 i)] ∧ rows = [])
    (fun env _ => match slot env 3 with | .int _ j => (s.size - j).toNat | _ => 0) ?_ ?_
  · exact Cl.here ⟨0, by omega, rfl, rfl, rfl⟩
  · rintro env rows ⟨i, hi, hall, rfl, rfl⟩
    have hw : IntKind.i64.wrap ((i : Int) + 1) = ((i + 1 : Nat) : Int) := by rw [wrap_i64 (by omega) (by omega)]; omega
    simp only [go_sem,a50,a50r0,a50r1,a50r2,a50r3,a50r4,a50r5,a50r6,a50r7,a50r8]
    refine condC_intro ?_ ?_ <;> intro hg2 <;> simp only [decide_eq_true_eq,decide_eq_false_iff_not,beq_iff_eq,beq_eq_false_iff_ne,bne_iff_ne,bne_eq_false_iff_eq,Bool.not_eq_true',Bool.not_eq_false',Int.not_lt,Int.not_le,ne_eq,Bool.and_eq_true,Bool.or_eq_true,Bool.or_eq_false_iff,Bool.and_eq_false_iff] at hg2 <;> simp only [go_sem,a50,a50r0,a50r1,a50r2,a50r3,a50r4,a50r5,a50r6,a50r7,a50r8]
    · have hlt : i < s.size := by omega
      have hbi : ((s.data.getD i 0).toNat : Int) = (byt s i : Int) := rfl
      have i1 : (0 : Int) ≤ i := by omega
      have i2 : (i : Int) < s.size := by omega
      have hs := allB_succ s i
      rw [hall, Bool.true_and] at hs
      simp only [go_sem,i1,i2,Int.toNat_natCast,hbi]
      have bad : nbyte (byt s i) = false → allB s s.size = false := allB_no hlt
      by_cases n1 : nbyte (byt s i) = true
      · rw [n1] at hs
        unfold nbyte at n1
        have n2 : ¬ (((byt s i : Int) < 97 ∨ (byt s i : Int) > 122) ∧ ((byt s i : Int) < 48 ∨ (byt s i : Int) > 57) ∧ (byt s i : Int) ≠ 95) := by
          simp only [Bool.or_eq_true, Bool.and_eq_true, decide_eq_true_eq] at n1
          omega
        repeat' (first | (refine grdC_intro ?_ ?_ <;> intro hg <;> (have hp := hg; try simp only [decide_eq_true_eq,decide_eq_false_iff_not,beq_iff_eq,beq_eq_false_iff_ne,bne_iff_ne,bne_eq_false_iff_eq,Bool.not_eq_true',Bool.not_eq_false',Int.not_lt,Int.not_le,ne_eq,Bool.and_eq_true,Bool.or_eq_true,Bool.or_eq_false_iff,Bool.and_eq_false_iff] at hp) <;> (first | omega | (simp only [go_sem,hg,a50,a50r0,a50r1,a50r2,a50r3,a50r4,a50r5,a50r6,a50r7,a50r8,hw,i1,i2,Int.toNat_natCast,hbi]; clear hg))) | (refine grdD_intro ?_ ?_ <;> intro hg <;> (have hp := hg; try simp only [decide_eq_true_eq,decide_eq_false_iff_not,beq_iff_eq,beq_eq_false_iff_ne,bne_iff_ne,bne_eq_false_iff_eq,Bool.not_eq_true',Bool.not_eq_false',Int.not_lt,Int.not_le,ne_eq,Bool.and_eq_true,Bool.or_eq_true,Bool.or_eq_false_iff,Bool.and_eq_false_iff] at hp) <;> (first | omega | (simp only [go_sem,hg,a50,a50r0,a50r1,a50r2,a50r3,a50r4,a50r5,a50r6,a50r7,a50r8,hw,i1,i2,Int.toNat_natCast,hbi]; clear hg))) | (refine condC_intro ?_ ?_ <;> intro hg <;> (have hp := hg; try simp only [decide_eq_true_eq,decide_eq_false_iff_not,beq_iff_eq,beq_eq_false_iff_ne,bne_iff_ne,bne_eq_false_iff_eq,Bool.not_eq_true',Bool.not_eq_false',Int.not_lt,Int.not_le,ne_eq,Bool.and_eq_true,Bool.or_eq_true,Bool.or_eq_false_iff,Bool.and_eq_false_iff] at hp) <;> (first | omega | (simp only [go_sem,hg,a50,a50r0,a50r1,a50r2,a50r3,a50r4,a50r5,a50r6,a50r7,a50r8,hw,i1,i2,Int.toNat_natCast,hbi]; clear hg))) | (refine condW_intro ?_ ?_ <;> intro hg <;> (have hp := hg; try simp only [decide_eq_true_eq,decide_eq_false_iff_not,beq_iff_eq,beq_eq_false_iff_ne,bne_iff_ne,bne_eq_false_iff_eq,Bool.not_eq_true',Bool.not_eq_false',Int.not_lt,Int.not_le,ne_eq,Bool.and_eq_true,Bool.or_eq_true,Bool.or_eq_false_iff,Bool.and_eq_false_iff] at hp) <;> (first | omega | (simp only [go_sem,hg,a50,a50r0,a50r1,a50r2,a50r3,a50r4,a50r5,a50r6,a50r7,a50r8,hw,i1,i2,Int.toNat_natCast,hbi]; clear hg))))
        all_goals (try simp only [decide_eq_true_eq, decide_eq_false_iff_not, beq_iff_eq, beq_eq_false_iff_ne, bne_iff_ne, bne_eq_false_iff_eq, Bool.not_eq_true', Bool.not_eq_false', Int.not_lt, Int.not_le, ne_eq, Bool.and_eq_true, Bool.or_eq_true, Bool.or_eq_false_iff, Bool.and_eq_false_iff] at *)
        all_goals first
          | (exfalso; omega)
          | (refine Cl.here ⟨⟨i + 1,by omega,hs,rfl,rfl⟩,?_⟩; simp only [go_sem]; omega)
      · have n3 := bad (by simpa using n1)
        rw [n3]
        unfold nbyte at n1
        have n2 : ((byt s i : Int) < 97 ∨ (byt s i : Int) > 122) ∧ ((byt s i : Int) < 48 ∨ (byt s i : Int) > 57) ∧ (byt s i : Int) ≠ 95 := by
          simp only [Bool.or_eq_true, Bool.and_eq_true, decide_eq_true_eq] at n1
          omega
        repeat' (first | (refine grdC_intro ?_ ?_ <;> intro hg <;> (have hp := hg; try simp only [decide_eq_true_eq,decide_eq_false_iff_not,beq_iff_eq,beq_eq_false_iff_ne,bne_iff_ne,bne_eq_false_iff_eq,Bool.not_eq_true',Bool.not_eq_false',Int.not_lt,Int.not_le,ne_eq,Bool.and_eq_true,Bool.or_eq_true,Bool.or_eq_false_iff,Bool.and_eq_false_iff] at hp) <;> (first | omega | (simp only [go_sem,hg,a50,a50r0,a50r1,a50r2,a50r3,a50r4,a50r5,a50r6,a50r7,a50r8,hw,i1,i2,Int.toNat_natCast,hbi]; clear hg))) | (refine grdD_intro ?_ ?_ <;> intro hg <;> (have hp := hg; try simp only [decide_eq_true_eq,decide_eq_false_iff_not,beq_iff_eq,beq_eq_false_iff_ne,bne_iff_ne,bne_eq_false_iff_eq,Bool.not_eq_true',Bool.not_eq_false',Int.not_lt,Int.not_le,ne_eq,Bool.and_eq_true,Bool.or_eq_true,Bool.or_eq_false_iff,Bool.and_eq_false_iff] at hp) <;> (first | omega | (simp only [go_sem,hg,a50,a50r0,a50r1,a50r2,a50r3,a50r4,a50r5,a50r6,a50r7,a50r8,hw,i1,i2,Int.toNat_natCast,hbi]; clear hg))) | (refine condC_intro ?_ ?_ <;> intro hg <;> (have hp := hg; try simp only [decide_eq_true_eq,decide_eq_false_iff_not,beq_iff_eq,beq_eq_false_iff_ne,bne_iff_ne,bne_eq_false_iff_eq,Bool.not_eq_true',Bool.not_eq_false',Int.not_lt,Int.not_le,ne_eq,Bool.and_eq_true,Bool.or_eq_true,Bool.or_eq_false_iff,Bool.and_eq_false_iff] at hp) <;> (first | omega | (simp only [go_sem,hg,a50,a50r0,a50r1,a50r2,a50r3,a50r4,a50r5,a50r6,a50r7,a50r8,hw,i1,i2,Int.toNat_natCast,hbi]; clear hg))) | (refine condW_intro ?_ ?_ <;> intro hg <;> (have hp := hg; try simp only [decide_eq_true_eq,decide_eq_false_iff_not,beq_iff_eq,beq_eq_false_iff_ne,bne_iff_ne,bne_eq_false_iff_eq,Bool.not_eq_true',Bool.not_eq_false',Int.not_lt,Int.not_le,ne_eq,Bool.and_eq_true,Bool.or_eq_true,Bool.or_eq_false_iff,Bool.and_eq_false_iff] at hp) <;> (first | omega | (simp only [go_sem,hg,a50,a50r0,a50r1,a50r2,a50r3,a50r4,a50r5,a50r6,a50r7,a50r8,hw,i1,i2,Int.toNat_natCast,hbi]; clear hg))))
        all_goals (try simp only [decide_eq_true_eq, decide_eq_false_iff_not, beq_iff_eq, beq_eq_false_iff_ne, bne_iff_ne, bne_eq_false_iff_eq, Bool.not_eq_true', Bool.not_eq_false', Int.not_lt, Int.not_le, ne_eq, Bool.and_eq_true, Bool.or_eq_true, Bool.or_eq_false_iff, Bool.and_eq_false_iff] at *)
        all_goals first
          | (exfalso; omega)
          | exact Cl.fin rfl ⟨rfl, rfl⟩
    · obtain rfl : i = s.size := by omega
      exact Cl.fin rfl ⟨by rw [hall], rfl⟩

set_option maxHeartbeats 2000000 in
theorem rWindow_ok (w : Win) : AFn Tryz.prog 31 [.agg (Cel.c w)] [] (fun v rs => v = .bool (winP w) ∧ rs = []) := by
  refine afn Tryz.func31 a31_ok (by simp [a31]) ?_
  unfold winP
  simp only [go_sem,a31,a31r0,a31r1,cel_win]
  refine callC_det (rName_ok w.name) rfl rfl ?_
  by_cases h1 : nameP w.name = true
  rotate_left
  · have h1' : nameP w.name = false := by simpa using h1
    rw [h1']
    simp only [go_sem,a31,a31r0,a31r1]
    exact Cl.fin rfl ⟨by simp, rfl⟩
  rw [h1]
  simp only [go_sem,a31,a31r0,a31r1]
  have hE : (w.group.toList == ({ data := #[] } : ByteArray).toList) = noG w := rfl
  rw [hE]
  by_cases hN : (noG w || nameP w.group) = true
  rotate_left
  · have h2 : noG w = false := by
      cases h : noG w
      · rfl
      · rw [h] at hN; simp at hN
    have h3 : nameP w.group = false := by
      cases h : nameP w.group
      · rfl
      · rw [h] at hN; simp at hN
    rw [h2, h3]
    simp only [go_sem,a31,a31r0,a31r1]
    refine callC_det (rName_ok w.group) rfl rfl ?_
    rw [h3]
    simp only [go_sem,a31,a31r0,a31r1]
    exact Cl.fin rfl ⟨rfl, rfl⟩
  rw [hN, Bool.true_and]
  by_cases hok : 0 ≤ w.rank ∧ w.rank ≤ 1000 ∧ 0 ≤ w.fr ∧ w.fr < 1440 ∧ 0 ≤ w.to ∧ w.to ≤ 1440 ∧ 0 ≤ w.wd ∧ w.wd ≤ 127 ∧ 0 ≤ w.dy ∧ w.dy ≤ 2
  · rw [decide_eq_true hok]
    obtain ⟨k1, k2, k3, k4, k5, k6, k7, k8, k9, k10⟩ := hok
    have j1 : w.rank ≥ 0 := k1
    have j3 : w.fr ≥ 0 := k3
    have j5 : w.to ≥ 0 := k5
    have j7 : w.wd ≥ 0 := k7
    have j9 : w.dy ≥ 0 := k9
    have k4' : w.fr ≤ 1439 := by omega
    cases h2 : noG w
    · rw [h2, Bool.false_or] at hN
      simp only [go_sem,a31,a31r0,a31r1]
      refine callC_det (rName_ok w.group) rfl rfl ?_
      rw [hN]
      simp only [go_sem,a31,a31r0,a31r1,j1,k2,j3,k4',j5,k6,j7,k8,j9,k10]
      exact Cl.fin rfl ⟨rfl, rfl⟩
    · simp only [go_sem,a31,a31r0,a31r1,j1,k2,j3,k4',j5,k6,j7,k8,j9,k10]
      exact Cl.fin rfl ⟨rfl, rfl⟩
  · rw [decide_eq_false hok]
    cases h2 : noG w
    · rw [h2, Bool.false_or] at hN
      simp only [go_sem,a31,a31r0,a31r1]
      refine callC_det (rName_ok w.group) rfl rfl ?_
      rw [hN]
      simp only [go_sem,a31,a31r0,a31r1]
      repeat' (first | (refine grdC_intro ?_ ?_ <;> intro hg <;> (have hp := hg; try simp only [decide_eq_true_eq,decide_eq_false_iff_not,beq_iff_eq,beq_eq_false_iff_ne,bne_iff_ne,bne_eq_false_iff_eq,Bool.not_eq_true',Bool.not_eq_false',Int.not_lt,Int.not_le,ne_eq,Bool.and_eq_true,Bool.or_eq_true,Bool.or_eq_false_iff,Bool.and_eq_false_iff] at hp) <;> (first | omega | (simp only [go_sem,hg,a31,a31r0,a31r1]; clear hg))) | (refine grdD_intro ?_ ?_ <;> intro hg <;> (have hp := hg; try simp only [decide_eq_true_eq,decide_eq_false_iff_not,beq_iff_eq,beq_eq_false_iff_ne,bne_iff_ne,bne_eq_false_iff_eq,Bool.not_eq_true',Bool.not_eq_false',Int.not_lt,Int.not_le,ne_eq,Bool.and_eq_true,Bool.or_eq_true,Bool.or_eq_false_iff,Bool.and_eq_false_iff] at hp) <;> (first | omega | (simp only [go_sem,hg,a31,a31r0,a31r1]; clear hg))) | (refine condC_intro ?_ ?_ <;> intro hg <;> (have hp := hg; try simp only [decide_eq_true_eq,decide_eq_false_iff_not,beq_iff_eq,beq_eq_false_iff_ne,bne_iff_ne,bne_eq_false_iff_eq,Bool.not_eq_true',Bool.not_eq_false',Int.not_lt,Int.not_le,ne_eq,Bool.and_eq_true,Bool.or_eq_true,Bool.or_eq_false_iff,Bool.and_eq_false_iff] at hp) <;> (first | omega | (simp only [go_sem,hg,a31,a31r0,a31r1]; clear hg))) | (refine condW_intro ?_ ?_ <;> intro hg <;> (have hp := hg; try simp only [decide_eq_true_eq,decide_eq_false_iff_not,beq_iff_eq,beq_eq_false_iff_ne,bne_iff_ne,bne_eq_false_iff_eq,Bool.not_eq_true',Bool.not_eq_false',Int.not_lt,Int.not_le,ne_eq,Bool.and_eq_true,Bool.or_eq_true,Bool.or_eq_false_iff,Bool.and_eq_false_iff] at hp) <;> (first | omega | (simp only [go_sem,hg,a31,a31r0,a31r1]; clear hg))))
      all_goals (try simp only [decide_eq_true_eq, decide_eq_false_iff_not, beq_iff_eq, beq_eq_false_iff_ne, bne_iff_ne, bne_eq_false_iff_eq, Bool.not_eq_true', Bool.not_eq_false', Int.not_lt, Int.not_le, ne_eq, Bool.and_eq_true, Bool.or_eq_true, Bool.or_eq_false_iff, Bool.and_eq_false_iff] at *)
      all_goals first
        | (exfalso; omega)
        | exact Cl.fin rfl ⟨rfl, rfl⟩
        | exact Cl.fin rfl ⟨congrArg AVal.bool (decide_eq_false (by omega)), rfl⟩
    · simp only [go_sem,a31,a31r0,a31r1]
      repeat' (first | (refine grdC_intro ?_ ?_ <;> intro hg <;> (have hp := hg; try simp only [decide_eq_true_eq,decide_eq_false_iff_not,beq_iff_eq,beq_eq_false_iff_ne,bne_iff_ne,bne_eq_false_iff_eq,Bool.not_eq_true',Bool.not_eq_false',Int.not_lt,Int.not_le,ne_eq,Bool.and_eq_true,Bool.or_eq_true,Bool.or_eq_false_iff,Bool.and_eq_false_iff] at hp) <;> (first | omega | (simp only [go_sem,hg,a31,a31r0,a31r1]; clear hg))) | (refine grdD_intro ?_ ?_ <;> intro hg <;> (have hp := hg; try simp only [decide_eq_true_eq,decide_eq_false_iff_not,beq_iff_eq,beq_eq_false_iff_ne,bne_iff_ne,bne_eq_false_iff_eq,Bool.not_eq_true',Bool.not_eq_false',Int.not_lt,Int.not_le,ne_eq,Bool.and_eq_true,Bool.or_eq_true,Bool.or_eq_false_iff,Bool.and_eq_false_iff] at hp) <;> (first | omega | (simp only [go_sem,hg,a31,a31r0,a31r1]; clear hg))) | (refine condC_intro ?_ ?_ <;> intro hg <;> (have hp := hg; try simp only [decide_eq_true_eq,decide_eq_false_iff_not,beq_iff_eq,beq_eq_false_iff_ne,bne_iff_ne,bne_eq_false_iff_eq,Bool.not_eq_true',Bool.not_eq_false',Int.not_lt,Int.not_le,ne_eq,Bool.and_eq_true,Bool.or_eq_true,Bool.or_eq_false_iff,Bool.and_eq_false_iff] at hp) <;> (first | omega | (simp only [go_sem,hg,a31,a31r0,a31r1]; clear hg))) | (refine condW_intro ?_ ?_ <;> intro hg <;> (have hp := hg; try simp only [decide_eq_true_eq,decide_eq_false_iff_not,beq_iff_eq,beq_eq_false_iff_ne,bne_iff_ne,bne_eq_false_iff_eq,Bool.not_eq_true',Bool.not_eq_false',Int.not_lt,Int.not_le,ne_eq,Bool.and_eq_true,Bool.or_eq_true,Bool.or_eq_false_iff,Bool.and_eq_false_iff] at hp) <;> (first | omega | (simp only [go_sem,hg,a31,a31r0,a31r1]; clear hg))))
      all_goals (try simp only [decide_eq_true_eq, decide_eq_false_iff_not, beq_iff_eq, beq_eq_false_iff_ne, bne_iff_ne, bne_eq_false_iff_eq, Bool.not_eq_true', Bool.not_eq_false', Int.not_lt, Int.not_le, ne_eq, Bool.and_eq_true, Bool.or_eq_true, Bool.or_eq_false_iff, Bool.and_eq_false_iff] at *)
      all_goals first
        | (exfalso; omega)
        | exact Cl.fin rfl ⟨rfl, rfl⟩
        | exact Cl.fin rfl ⟨congrArg AVal.bool (decide_eq_false (by omega)), rfl⟩

theorem rPValid_ok (z : Zn) (h : List Hol) (hl : h.length ≤ 9223372036854775806) (ws : List Win) (hw : ws.length ≤ 1000000) : AFn Tryz.prog 16 [z.v, .pure 6 (els h), .pure 7 (els ws)] [] (fun v rs => v = .int .i64 (vldE z h ws) ∧ rs = []) := by
  refine afn Tryz.func16 a16_ok (by simp [a16]) ?_
  unfold vldE
  simp only [go_sem,a16,a16r0,a16r1,a16r2,a16r3,a16r4,a16r5,a16r6,a16r7,a16r8,a16r9,a16r10,a16r11,a16r12,a16r13,a16r14,Zn.v]
  refine callC_det (rZValid_ok z) rfl rfl ?_
  simp only [go_sem]
  by_cases hz : vZ z = 0
  rotate_left
  · have hz' : (vZ z != 0) = true := by simp [hz]
    simp only [go_sem,hz']
    exact Cl.fin rfl ⟨by rw [if_neg hz], rfl⟩
  rw [hz, if_pos rfl]
  simp only [go_sem]
  refine callC_det (rValid_ok h hl) rfl rfl ?_
  simp only [go_sem]
  by_cases hv : validP h = 0
  rotate_left
  · have hv' : (validP h != 0) = true := by simp [hv]
    simp only [go_sem,hv']
    exact Cl.fin rfl ⟨by rw [if_neg hv], rfl⟩
  rw [hv, if_pos rfl]
  simp only [go_sem]
  by_cases h1 : (ws.length : Int) > 16
  · simp only [go_sem,h1]
    exact Cl.fin rfl ⟨by rw [if_pos (by omega)], rfl⟩
  simp only [go_sem,h1]
  rw [if_neg (by omega)]
  refine avc_loop (fun env rows => ∃ (i : Nat), i ≤ ws.length ∧ winsP ws = winsP (ws.drop i) ∧ env = [(2, .pure 7 (els ws)), (9, .int .i64 i)] ∧ rows = [])
    (fun env _ => match slot env 9 with | .int _ j => (ws.length - j).toNat | _ => 0) ?_ ?_
  · (refine Cl.tr [] [] rfl rfl (by simp only [go_sem] <;> rfl) ?_; simp only [go_sem])
    exact Cl.here ⟨0, by omega, by simp, rfl, rfl⟩
  · rintro env rows ⟨i, hi, hb, rfl, rfl⟩
    simp only [go_sem,a16,a16r0,a16r1,a16r2,a16r3,a16r4,a16r5,a16r6,a16r7,a16r8,a16r9,a16r10,a16r11,a16r12,a16r13,a16r14]
    refine condC_intro ?_ ?_ <;> intro hg2 <;> simp only [decide_eq_true_eq,decide_eq_false_iff_not,beq_iff_eq,beq_eq_false_iff_ne,bne_iff_ne,bne_eq_false_iff_eq,Bool.not_eq_true',Bool.not_eq_false',Int.not_lt,Int.not_le,ne_eq,Bool.and_eq_true,Bool.or_eq_true,Bool.or_eq_false_iff,Bool.and_eq_false_iff] at hg2 <;> simp only [go_sem,a16,a16r0,a16r1,a16r2,a16r3,a16r4,a16r5,a16r6,a16r7,a16r8,a16r9,a16r10,a16r11,a16r12,a16r13,a16r14]
    · have hlt : i < ws.length := by omega
      refine ⟨by omega, by omega, ?_⟩
      try simp only [Int.toNat_natCast]
      rw [els_getD hlt]
      rw [List.drop_eq_getElem_cons hlt, winsP, winsP, List.all_cons] at hb
      generalize ws[i] = p at hb ⊢
      have hw : IntKind.i64.wrap ((i : Int) + 1) = ((i + 1 : Nat) : Int) := by rw [wrap_i64 (by omega) (by omega)]; omega
      simp only [go_sem,a16,a16r0,a16r1,a16r2,a16r3,a16r4,a16r5,a16r6,a16r7,a16r8,a16r9,a16r10,a16r11,a16r12,a16r13,a16r14,cel_win]
      refine callC_det (rWindow_ok p) rfl rfl ?_
      simp only [go_sem]
      cases hp : winP p
      · simp only [go_sem]
        exact Cl.fin rfl ⟨by rw [if_neg (by rw [winsP, hb, hp]; simp)], rfl⟩
      · simp only [go_sem,hw]
        refine Cl.here ⟨⟨i + 1, by omega, ?_, rfl, rfl⟩, ?_⟩
        · rw [winsP, hb, hp, Bool.true_and, winsP]
        · simp only [go_sem]
          omega
    · have hkk : i = ws.length := by omega
      rw [hkk, List.drop_length] at hb
      exact Cl.fin rfl ⟨by rw [hb]; rfl, rfl⟩
theorem winP_dy {w : Win} (h : winP w = true) : 0 ≤ w.dy ∧ w.dy ≤ 2 := by
  unfold winP at h
  simp only [Bool.and_eq_true, decide_eq_true_eq] at h
  omega
end Go.Proofs.YtefemdpicjgkeaaGreatDoor
