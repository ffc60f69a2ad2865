/- TimesheetLimits. -/
import Derived.Test.YtpincjkjoeopkaaGreatDoorF9Abv
import Derived.Test.YtpincjkjoeopkaaGreatDoorF0Tap
import Derived.Test.YtpincjkjoeopkaaGreatDoorF9San
set_option linter.unusedSimpArgs false
set_option linter.unusedVariables false
set_option linter.unusedSectionVars false
namespace Go.Proofs.YtpincjkjoeopkaaGreatDoor
open Go Go.Abs
set_option linter.unusedSimpArgs false
set_option linter.unusedVariables false

theorem rules_ok : AFn Tryz.prog 12 [] [] (fun v rs => v = .agg [.int .i64 0, .nils, .int .i64 900, .int .i64 0, .int .i64 0, .int .i64 0, .int .i64 0, .int .i64 0, .nils, .str ⟨#[110, 111, 114, 109, 97, 108]⟩, .own 0 1 0 1, .nils, .nils, .nils] ∧ rs = [.live 128 2 [[.str ⟨#[111, 116, 49]⟩, .int .i64 480]]]) :=
  run_afn (T := tab) (L := []) 60 [(.agg [.int .i64 0, .nils, .int .i64 900, .int .i64 0, .int .i64 0, .int .i64 0, .int .i64 0, .int .i64 0, .nils, .str ⟨#[110, 111, 114, 109, 97, 108]⟩, .own 0 1 0 1, .nils, .nils, .nils], [.live 128 2 [[.str ⟨#[111, 116, 49]⟩, .int .i64 480]]])] (by kernel_rfl) (by intro o h; rw [List.mem_singleton] at h; subst h; exact ⟨rfl, rfl⟩)

structure Bd where
  n : ByteArray
  a : Int
instance : Cel Bd := ⟨fun a => [.str a.n, .int .i64 a.a], 2, fun _ => rfl, fun _ => rfl, fun _ => rfl⟩
instance : Flt Bd := ⟨fun _ => rfl⟩
def sickB : ByteArray := ⟨#[115, 105, 99, 107]⟩
def limA (i : Int) : Ab := ⟨1, 20454 + i.tmod 50, sickB, i.tmod 5⟩
/-- the absences, k of them, from the greatest on -/
def limL (N : Int) (k : Nat) : List Ab := (List.range k).map fun (j : Nat) => limA (N - (j : Int))
theorem limL_succ (N : Int) (k : Nat) : limL N (k + 1) = limL N k ++ [limA (N - k)] := by
  unfold limL; rw [List.range_succ, List.map_append]; rfl
theorem limL_len (N : Int) (k : Nat) : (limL N k).length = k := by unfold limL; simp

theorem dayWf {a : Ab} (h : abFine a) : (Lit.int .i64 a.day).wf = true := by
  unfold abFine at h
  have h1 : IntKind.i64.min = -9223372036854775808 := rfl
  have h2 : IntKind.i64.max = 9223372036854775807 := rfl
  simp only [Lit.wf, h1, h2]
  simp
  omega
theorem dayRs_bd {pl : List Sf} {emp fr to : Int} {l : List Ab} (hl : l.length ≤ 100000) (hok : ∀ a ∈ l, abOk a) : (dayRs pl emp fr to l (mrkL l)).length ≤ 100000 ∧ ∀ x ∈ dayRs pl emp fr to l (mrkL l), x.ts.length ≤ 1000000 ∧ x.an.length ≤ 1000000 := by
  have h1 := (mrkL_ok (l := l) (i := l.length) (Nat.le_refl _)).1
  rw [List.take_length] at h1
  refine ⟨Nat.le_trans (List.length_filterMap_le _ _) (by omega), fun x hx => ?_⟩
  obtain ⟨d, _, hd⟩ := List.mem_filterMap.1 hx
  unfold dayR at hd
  split at hd
  · cases hd
    have h2 := (misS_bd (pl := pl) (emp := emp) (day := d) hok (i := l.length) (Nat.le_refl _)).1
    rw [List.take_length] at h2
    have h3 : (posT (misS pl emp d l)).length ≤ (misS pl emp d l).length := List.length_filter_le _ _
    exact ⟨by simp only; omega, by simp⟩
  · cases hd
theorem evP (l : List Ab) (hl : l.length ≤ 100000) (hf : ∀ a ∈ l, abFine a ∧ a.name = sickB) (fr to : Int) :
    AFn Tryz.prog 11 [.agg [.int .i64 0, .nils, .int .i64 900, .int .i64 0, .int .i64 0, .int .i64 0, .int .i64 0, .int .i64 0, .nils, .str ⟨#[110, 111, 114, 109, 97, 108]⟩, .own 0 1 0 1, .nils, .nils, .nils], .nils, .nils, .pure 4 (els l), .int .i64 1, .int .i64 fr, .int .i64 to] [.live 128 2 [[.str ⟨#[111, 116, 49]⟩, .int .i64 480]]]
      (fun v rs => (evE l fr to ≠ 0 ∧ v = .tup [.nils, .int .i64 (evE l fr to)] ∨ evE l fr to = 0 ∧ v = .tup [.pure 3 (els (dayRs [] 1 fr to l (mrkL l))), .int .i64 0]) ∧ rs = [.dead]) := by
  have h1 := pEval_ok2 (.int .i64 0) .nils (.int .i64 900) (.int .i64 0) (.int .i64 0) (.int .i64 0) (.int .i64 0) (.int .i64 0) .nils (.str ⟨#[110, 111, 114, 109, 97, 108]⟩) (.pure 2 [[.str ⟨#[111, 116, 49]⟩, .int .i64 480]]) .nils .nils .nils rfl rfl [] (by simp) 1 worksR_ok divR_ok mrkR_ok l hl (fun a ha => vAbs_ok a (hf a ha).1 (by rw [(hf a ha).2]; exact nameSick_ok)) (fun a ha => by have := (hf a ha).1; unfold abFine at this; exact ⟨this.2.2.2.2.1, this.2.2.2.2.2⟩) (fun a ha => ⟨dayWf (hf a ha).1, by rw [(hf a ha).2]; decide⟩) fr to
  have h2 := h1.le (args' := [.agg [.int .i64 0, .nils, .int .i64 900, .int .i64 0, .int .i64 0, .int .i64 0, .int .i64 0, .int .i64 0, .nils, .str ⟨#[110, 111, 114, 109, 97, 108]⟩, .pure 2 [[.str ⟨#[111, 116, 49]⟩, .int .i64 480]], .nils, .nils, .nils], .nils, .nils, .pure 4 (els l), .int .i64 1, .int .i64 fr, .int .i64 to]) (by simp [leL, le, els])
  refine (AFn.give1 (α := Bd) (l := [⟨⟨#[111, 116, 49]⟩, 480⟩]) (T := 128) (sz := 2) (args := [.agg [.int .i64 0, .nils, .int .i64 900, .int .i64 0, .int .i64 0, .int .i64 0, .int .i64 0, .int .i64 0, .nils, .str ⟨#[110, 111, 114, 109, 97, 108]⟩, .own 0 1 0 1, .nils, .nils, .nils], .nils, .nils, .pure 4 (els l), .int .i64 1, .int .i64 fr, .int .i64 to]) ?_ ?_ h2 ?_).mono ?_
  · simp only [bindL, bindV_clean (.pure 4 (els l)) (by simp only [clean, els_clean])]
    try rfl
  · simp only [cleanL, clean, els_clean, Bool.and_self]
  · rintro v rs ⟨h | h, rfl⟩
    · rw [h.2]; exact ⟨rfl, rfl⟩
    · rw [h.2]; exact ⟨by simp only [clean, cleanL, els_clean, Bool.and_self], rfl⟩
  · rintro v rs ⟨⟨h, _⟩, rfl⟩
    exact ⟨h, rfl⟩
theorem evR (l : List Ab) (hl : l.length ≤ 100000) (hf : ∀ a ∈ l, abFine a ∧ a.name = sickB) (fr to : Int) :
    AFn Tryz.prog 13 [.agg [.int .i64 0, .nils, .int .i64 900, .int .i64 0, .int .i64 0, .int .i64 0, .int .i64 0, .int .i64 0, .nils, .str ⟨#[110, 111, 114, 109, 97, 108]⟩, .own 0 1 0 1, .nils, .nils, .nils], .nils, .nils, .pure 4 (els l), .int .i64 1, .int .i64 fr, .int .i64 to] [.live 128 2 [[.str ⟨#[111, 116, 49]⟩, .int .i64 480]]]
      (fun v rs => (evE l fr to ≠ 0 ∧ v = .tup [.nils, .int .i64 (evE l fr to)] ∨ evE l fr to = 0 ∧ v = .tup [.pure 3 (els (dayRs [] 1 fr to l (mrkL l))), .int .i64 0]) ∧ rs = [.dead]) := by
  have h1 := rEval_ok (.int .i64 0) .nils (.int .i64 900) (.int .i64 0) (.int .i64 0) (.int .i64 0) (.int .i64 0) (.int .i64 0) .nils (.str ⟨#[110, 111, 114, 109, 97, 108]⟩) (.pure 2 [[.str ⟨#[111, 116, 49]⟩, .int .i64 480]]) .nils .nils .nils rfl rfl [] (by simp) 1 rWorksR_ok rDivR_ok rMrkR_ok l hl (fun a ha => rvAbs_ok a (hf a ha).1 (by rw [(hf a ha).2]; exact rNameSick_ok)) (fun a ha => by have := (hf a ha).1; unfold abFine at this; exact ⟨this.2.2.2.2.1, this.2.2.2.2.2⟩) fr to
  have h2 := h1.le (args' := [.agg [.int .i64 0, .nils, .int .i64 900, .int .i64 0, .int .i64 0, .int .i64 0, .int .i64 0, .int .i64 0, .nils, .str ⟨#[110, 111, 114, 109, 97, 108]⟩, .pure 2 [[.str ⟨#[111, 116, 49]⟩, .int .i64 480]], .nils, .nils, .nils], .nils, .nils, .pure 4 (els l), .int .i64 1, .int .i64 fr, .int .i64 to]) (by simp [leL, le, els])
  refine (AFn.give1 (α := Bd) (l := [⟨⟨#[111, 116, 49]⟩, 480⟩]) (T := 128) (sz := 2) (args := [.agg [.int .i64 0, .nils, .int .i64 900, .int .i64 0, .int .i64 0, .int .i64 0, .int .i64 0, .int .i64 0, .nils, .str ⟨#[110, 111, 114, 109, 97, 108]⟩, .own 0 1 0 1, .nils, .nils, .nils], .nils, .nils, .pure 4 (els l), .int .i64 1, .int .i64 fr, .int .i64 to]) ?_ ?_ h2 ?_).mono ?_
  · simp only [bindL, bindV_clean (.pure 4 (els l)) (by simp only [clean, els_clean])]
    try rfl
  · simp only [cleanL, clean, els_clean, Bool.and_self]
  · rintro v rs ⟨h | h, rfl⟩
    · rw [h.2]; exact ⟨rfl, rfl⟩
    · rw [h.2]; exact ⟨by simp only [clean, cleanL, els_clean, Bool.and_self], rfl⟩
  · rintro v rs ⟨⟨h, _⟩, rfl⟩
    exact ⟨h, rfl⟩
theorem limLaw (hS : AFn Tryz.prog 15 [] [] (fun v rs => v = .bool true ∧ rs = [])) (n day : Int) : AFn Tryz.prog 3 [.int .i64 n, .int .i64 day] [] (fun v rs => v = .bool true ∧ rs = []) := by
  refine afnW Tryz.func3 a3_ok (by simp [a3, s3]) ?_
  simp only [go_sem,a3,s3]
  repeat (refine Cl.here ?_; simp only [go_sem])
  refine callC_det (mod_ok n 3 (by omega) (by omega)) rfl rfl ?_
  obtain ⟨hm1, hm2⟩ := mod_bd (v := n) (n := 3) (by omega)
  generalize mod n 3 = m at *
  have hw0 : IntKind.i64.wrap (1023 + m) = 1023 + m := wrap_i64 (by omega) (by omega)
  simp only [go_sem,hw0]
  repeat (refine Cl.here ?_; simp only [go_sem])
  obtain ⟨N, hN⟩ : ∃ N, N = 1023 + m := ⟨_, rfl⟩
  rw [← hN]
  refine avcW_loop (fun env rows => ∃ k : Nat, (k : Int) ≤ N ∧ env = [(1, .int .i64 day), (5, .own 0 k 0 k), (6, .int .i64 (N - k))] ∧ rows = [.live 25 4 (els (limL N k))])
    (fun env _ => match slot env 6 with | .int _ j => j.toNat | _ => 0) ?_ ?_
  · (refine Cl.ghost 5  25  4 rfl (Cl.norm [ 1,5,6] ?_); simp only [go_sem])
    exact Cl.here ⟨0, by omega, by simp, rfl⟩
  rintro env rows ⟨k, hk, rfl, rfl⟩
  by_cases hlt : 0 < N - k
  · have h1 : decide (0 < N - (k : Int)) = true := decide_eq_true hlt
    have t1 := Int.tmod_lt_of_pos (N - (k : Int)) (show (0 : Int) < 50 by omega)
    have t2 := Int.tmod_nonneg (a := N - (k : Int)) 50 (by omega)
    have hw1 : IntKind.i64.wrap (20454 + (N - (k : Int)).tmod 50) = 20454 + (N - (k : Int)).tmod 50 := wrap_i64 (by omega) (by omega)
    have hw2 : IntKind.i64.wrap (N - (k : Int) - 1) = N - ((k + 1 : Nat) : Int) := by rw [wrap_i64 (by omega) (by omega)]; omega
    simp only [go_sem,a3,s3,h1,hw1,hw2]
    (refine Cl.here ?_; simp only [go_sem])
    (refine Cl.here ?_; simp only [go_sem])
    refine ⟨by omega, by omega, (limL_len N k).symm, by omega, ?_⟩
    have hsn : els (limL N k) ++ [[.int .i64 1, .int .i64 (20454 + (N - (k : Int)).tmod 50), .str sickB, .int .i64 ((N - (k : Int)).tmod 5)]] = els (limL N (k + 1)) := by
      rw [limL_succ]; exact els_snoc (x := limA (N - k))
    (refine Cl.tr [some 0] [] rfl rfl (by simp only [go_sem] <;> rfl) ?_; simp only [go_sem])
    refine Cl.here ?_
    simp only [go_sem,hw2]
    refine Cl.here ⟨⟨k + 1, by omega, rfl, ?_⟩, ?_⟩
    · rw [hw1, ← hsn]; rfl
    simp only [go_sem]
    omega
  have h1 : decide (0 < N - (k : Int)) = false := decide_eq_false hlt
  obtain rfl : N = k := by omega
  simp only [go_sem,a3,s3,h1]
  repeat (refine Cl.here ?_; simp only [go_sem])
  refine callC_det (mod_ok day 50 (by omega) (by omega)) rfl rfl ?_
  obtain ⟨hd1, hd2⟩ := mod_bd (v := day) (n := 50) (by omega)
  generalize mod day 50 = q at *
  have hwq : IntKind.i64.wrap (20454 + q) = 20454 + q := wrap_i64 (by omega) (by omega)
  simp only [go_sem,hwq]
  obtain ⟨d, hd⟩ : ∃ d, d = 20454 + q := ⟨_, rfl⟩
  rw [← hd]
  have hll := limL_len (k : Int) k
  generalize hl : limL (k : Int) k = l at *
  have hbl : bindV [.live 25 4 (els l)] [] [0] (.own 0 k 0 k) = .pure 4 (els l) := bindV_frz rfl rfl rfl (by rw [els_length, hll]) els_clean
  refine Cl.frz [] [0] rfl rfl (by simp only [go_sem] <;> rfl) ?_
  have htl : List.take k l = l := by rw [← hll, List.take_length]
  simp only [go_sem,hbl,htl,hll,eq_self]
  (refine Cl.here ?_; simp only [go_sem])
  (refine callC_of [] [] (by simp) rfl (bindL_clean _ (by first | rfl | simp only [go_sem])) (rules_ok) ?_; rintro _ _ ⟨rfl,rfl⟩; refine ⟨.inl rfl,?_⟩; simp only [go_sem])
  have hwd : IntKind.i64.wrap (d + 5) = d + 5 := wrap_i64 (by omega) (by omega)
  simp only [go_sem,hwd]
  have hf : ∀ a ∈ l, abFine a ∧ a.name = sickB := by
    rw [← hl]
    intro a ha
    unfold limL at ha
    obtain ⟨j, hj, rfl⟩ := List.mem_map.1 ha
    have hj := List.mem_range.1 hj
    have t1 := Int.tmod_lt_of_pos ((k : Int) - (j : Int)) (show (0 : Int) < 50 by omega)
    have t2 := Int.tmod_nonneg (a := (k : Int) - (j : Int)) 50 (by omega)
    have t3 := Int.tmod_lt_of_pos ((k : Int) - (j : Int)) (show (0 : Int) < 5 by omega)
    have t4 := Int.tmod_nonneg (a := (k : Int) - (j : Int)) 5 (by omega)
    exact ⟨by unfold abFine limA; simp only; omega, rfl⟩
  have hE : evE l d (d + 5) = if 1024 < l.length then 3 else 0 := by
    unfold evE
    rw [if_neg (show ¬ (d < 0 ∨ 84005 < d ∨ d + 5 < 0 ∨ 84005 < d + 5) by omega), if_neg (show ¬ d + 5 < d by omega)]
  have hP := evP l (by omega) hf d (d + 5)
  have hR := evR l (by omega) hf d (d + 5)
  have hB := dayRs_bd (pl := []) (emp := 1) (fr := d) (to := d + 5) (l := l) (by omega) (fun a ha => by have := (hf a ha).1; unfold abFine at this; exact ⟨this.2.2.2.2.1, this.2.2.2.2.2⟩)
  generalize dayRs [] 1 d (d + 5) l (mrkL l) = rsl at *
  generalize evE l d (d + 5) = E at *
  refine callC_of [0] [] (by decide) (by simp only [go_sem] <;> rfl) (by simp only [go_sem,els_clean] <;> rfl) hP ?_
  rintro v rs ⟨hv, rfl⟩
  refine ⟨.inl rfl, ?_⟩
  by_cases hgt : 1024 < l.length
  · rw [if_pos hgt] at hE
    subst hE
    obtain rfl : v = .tup [.nils, .int .i64 3] := by
      rcases hv with h | h
      · exact h.2
      · exact absurd h.1 (by decide)
    simp only [go_sem]
    (refine Cl.tr [] [] rfl rfl (by simp only [go_sem] <;> rfl) ?_; simp only [go_sem])
    (refine Cl.here ?_; simp only [go_sem])
    (refine callC_of [] [] (by simp) rfl (bindL_clean _ (by first | rfl | simp only [go_sem])) (rules_ok) ?_; rintro _ _ ⟨rfl,rfl⟩; refine ⟨.inl rfl,?_⟩; simp only [go_sem])
    simp only [go_sem,hwd]
    refine callC_of [0] [] (by decide) (by simp only [go_sem] <;> rfl) (by simp only [go_sem,els_clean] <;> rfl) hR ?_
    rintro v rs ⟨hv, rfl⟩
    refine ⟨.inl rfl, ?_⟩
    obtain rfl : v = .tup [.nils, .int .i64 3] := by
      rcases hv with h | h
      · exact h.2
      · exact absurd h.1 (by decide)
    have hle : decide ((l.length : Int) ≤ 1024) = false := decide_eq_false (by omega)
    simp only [go_sem]
    refine Cl.here ?_
    simp only [go_sem,els_length,hle]
    refine callC_det (AFn.le (same_ok [] (by simp) (by simp)) (args' := [.nils, .nils]) (by simp [leL, le, els])) rfl rfl ?_
    simp only [go_sem]
    refine callC_det hS rfl rfl ?_
    simp only [go_sem]
    (refine Cl.here ?_; simp only [go_sem])
    exact Cl.fin rfl ⟨rfl, rfl⟩
  · rw [if_neg hgt] at hE
    subst hE
    obtain rfl : v = .tup [.pure 3 (els rsl), .int .i64 0] := by
      rcases hv with h | h
      · exact absurd rfl h.1
      · exact h.2
    simp only [go_sem,els_clean]
    (refine Cl.tr [] [] rfl rfl (by simp only [go_sem] <;> rfl) ?_; simp only [go_sem])
    (refine Cl.here ?_; simp only [go_sem])
    (refine callC_of [] [] (by simp) rfl (bindL_clean _ (by first | rfl | simp only [go_sem])) (rules_ok) ?_; rintro _ _ ⟨rfl,rfl⟩; refine ⟨.inl rfl,?_⟩; simp only [go_sem])
    simp only [go_sem,hwd]
    refine callC_of [0] [] (by decide) (by simp only [go_sem] <;> rfl) (by simp only [go_sem,els_clean] <;> rfl) hR ?_
    rintro v rs ⟨hv, rfl⟩
    refine ⟨.inl rfl, ?_⟩
    obtain rfl : v = .tup [.pure 3 (els rsl), .int .i64 0] := by
      rcases hv with h | h
      · exact absurd rfl h.1
      · exact h.2
    have hle : decide ((l.length : Int) ≤ 1024) = true := decide_eq_true (by omega)
    simp only [go_sem,els_clean]
    refine Cl.here ?_
    simp only [go_sem,els_length,hle]
    refine callC_det (same_ok rsl (by omega) hB.2) rfl rfl ?_
    simp only [go_sem]
    refine callC_det hS rfl rfl ?_
    simp only [go_sem]
    (refine Cl.here ?_; simp only [go_sem])
    exact Cl.fin rfl ⟨rfl, rfl⟩

theorem timesheetLimits (n day : Int) : AFn Tryz.prog 3 [.int .i64 n, .int .i64 day] [] (fun v rs => v = .bool true ∧ rs = []) := limLaw sane_ok n day

end Go.Proofs.YtpincjkjoeopkaaGreatDoor
