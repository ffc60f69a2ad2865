/- Working days in plain words: which years name a day, and that days are counted one by one. -/
import Derived.Test.YtlanehcihoiglaaGreatDoorE3Wk
import Derived.Test.YtlanehcihoiglaaGreatDoorE3Pl
set_option linter.unusedSimpArgs false
set_option linter.unusedVariables false
set_option linter.unusedSectionVars false
namespace Go.Proofs.YtlanehcihoiglaaGreatDoor
open Go Go.Abs

theorem num_in {y m d : Int} (hm1 : 1 ≤ m) (hm2 : m ≤ 12) (h1 : 1 ≤ d) (h2 : d ≤ lenP y m) : beginP y ≤ numP y m d ∧ numP y m d < beginP (y + 1) := by
  obtain ⟨k, rfl⟩ : ∃ k : Nat, m = k := ⟨m.toNat, by omega⟩
  have := date_bounds (y := y) (m := k) (r := d - 1) (by omega) (by omega) (by omega) (by omega)
  unfold numP
  rw [show ((k : Int) - 1).toNat = k - 1 from by omega]
  omega
theorem begin_365 (y : Int) : beginP y + 365 ≤ beginP (y + 1) := by unfold beginP leapsP; omega
theorem mvP_bd (b : Bool) (d : Int) : d ≤ mvP b d ∧ mvP b d ≤ d + 2 := by
  unfold mvP
  have := wdP_bd d
  split <;> omega
theorem nthX_nn {y m w n : Int} (h : n = -1 ∨ 1 ≤ n ∧ n ≤ 5) (hl : 28 ≤ lenP y m) : 0 ≤ nthX y m w n := by
  have : 0 ≤ nthI y m w ∧ nthI y m w ≤ 6 := by unfold nthI; omega
  unfold nthX
  split <;> omega
theorem nmB_near {h : Hol} {y d : Int} (hr : ruleP h = true) (hy : okY y) (hn : nmB h y = some d) : beginP y - 100 ≤ d ∧ d < beginP (y + 1) + 100 := by
  obtain ⟨k, m, e, wd, o, b⟩ := h
  rw [ruleP_iff] at hr
  rcases hr with ⟨rfl, h1, h2, rfl, rfl, h3, h4⟩ | ⟨rfl, h1, h2, rfl, rfl, rfl⟩ | ⟨rfl, h1, h2, h3, h4, h5, h6, h7⟩
  · rw [nmB, if_pos rfl] at hn
    simp only at hn
    split at hn
    · rename_i hl
      simp only [Option.some.injEq] at hn
      have := num_in (y := y) h1 h2 h3 hl
      omega
    · cases hn
  · rw [nmB, if_neg (by simp), if_pos rfl] at hn
    simp only [Option.some.injEq] at hn
    have he := eas_day hy
    unfold dayP easD at he
    split at he
    · rename_i hc
      have := num_in (y := y) hc.2.2.1 hc.2.2.2.1 hc.2.2.2.2.1 hc.2.2.2.2.2
      unfold easD at hn
      omega
    · simp at he
  · rw [nmB, if_neg (by simp), if_neg (by simp)] at hn
    simp only at hn
    split at hn
    · rename_i hl
      simp only [Option.some.injEq] at hn
      have hL := lenP_bd (y := y) h1 h2
      have h0 := nthX_nn (y := y) (m := m) (w := wd) h3 hL.1
      have := num_in (y := y) (m := m) (d := 1 + nthX y m wd e) h1 h2 (by omega) (by omega)
      unfold numP at this hn
      omega
    · cases hn
theorem nam_near {h : Hol} {y d : Int} (hr : ruleP h = true) (hy : okY y) (hn : namO h y = some d) : okD d ∧ y - 1 ≤ yearP d ∧ yearP d ≤ y + 1 := by
  rw [namO, Option.filter_eq_some_iff] at hn
  obtain ⟨hn, hd⟩ := hn
  have hd : okD d := of_decide_eq_true hd
  rw [nmD, Option.map_eq_some_iff] at hn
  obtain ⟨x, hx, rfl⟩ := hn
  have h1 := nmB_near hr hy hx
  have h2 := mvP_bd h.moved x
  generalize mvP h.moved x = d at *
  have h3 := year_ok (d := d) hd.1 (by have := hd.2; omega)
  have e1 := begin_365 (y - 1)
  have e2 := begin_365 (y + 1)
  rw [show y - 1 + 1 = y from by omega] at e1
  refine ⟨hd, ?_, ?_⟩
  · rcases Int.lt_or_le (yearP d) (y - 1) with hlt | hge
    · have := begin_mono (a := yearP d + 1) (b := y - 1) (by omega); omega
    · exact hge
  · rcases Int.lt_or_le (y + 1) (yearP d) with hlt | hge
    · have := begin_mono (a := y + 1 + 1) (b := yearP d) (by omega); omega
    · exact hge

/-- all holidays -/
def allH (l : List Hol) : List Int := colP l 1970 2199
theorem yearP_mono {a b : Int} (ha : okD a) (hb : okD b) (h : a ≤ b) : yearP a ≤ yearP b := by
  have h1 := year_ok (d := a) ha.1 (by have := ha.2; omega)
  have h2 := year_ok (d := b) hb.1 (by have := hb.2; omega)
  rcases Int.lt_or_le (yearP b) (yearP a) with hlt | hge
  · have := begin_mono (a := yearP b + 1) (b := yearP a) (by omega); omega
  · exact hge
theorem col_range {l : List Hol} (hv : validL l = true) {a b : Int} (ha : okD a) (hb : okD b) : (colP l (max (yearP a - 1) 1970) (min (yearP b + 1) 2199)).filter (inR a b) = (allH l).filter (inR a b) := by
  refine strict_unique ((col_strict _ _ _).filter _) ((col_strict _ _ _).filter _) fun d => ?_
  rw [List.mem_filter, List.mem_filter, allH, col_mem, col_mem]
  constructor
  · rintro ⟨⟨y, h1, h2, h, hh, hn⟩, hi⟩
    exact ⟨⟨y, by omega, by omega, h, hh, hn⟩, hi⟩
  · rintro ⟨⟨y, h1, h2, h, hh, hn⟩, hi⟩
    refine ⟨⟨y, ?_, ?_, h, hh, hn⟩, hi⟩
    · have hr := List.all_eq_true.1 hv _ hh
      obtain ⟨hd, n1, n2⟩ := nam_near hr ⟨h1, h2⟩ hn
      have hin : a ≤ d ∧ d ≤ b ∧ wdP d < 5 := of_decide_eq_true hi
      have := yearP_mono ha hd hin.1
      omega
    · have hr := List.all_eq_true.1 hv _ hh
      obtain ⟨hd, n1, n2⟩ := nam_near hr ⟨h1, h2⟩ hn
      have hin : a ≤ d ∧ d ≤ b ∧ wdP d < 5 := of_decide_eq_true hi
      have := yearP_mono hd hb hin.2.1
      omega
theorem allH_strict (l : List Hol) : (allH l).Pairwise (· < ·) := col_strict _ _ _
/-- working days, day by day -/
def isWk (H : List Int) (d : Int) : Bool := decide (wdP d < 5) && !decide (d ∈ H)
def wkC (H : List Int) (a : Int) : Nat → Int
  | 0 => 0
  | n + 1 => wkC H a n + if isWk H (a + n) = true then 1 else 0
theorem wkC_bd (H : List Int) (a : Int) : ∀ n : Nat, 0 ≤ wkC H a n ∧ wkC H a n ≤ n
  | 0 => by simp [wkC]
  | n + 1 => by
    have := wkC_bd H a n
    rw [wkC]
    split <;> omega
theorem wkB_succ (d : Int) : wkB (d + 1) = wkB d + if wdP d < 5 then 1 else 0 := by
  unfold wkB wdP
  split <;> omega
theorem cnt_succ {H : List Int} (hs : H.Pairwise (· < ·)) {a b : Int} (h : a ≤ b + 1) : ((H.filter (inR a (b + 1))).length : Int) = (H.filter (inR a b)).length + if (b + 1) ∈ H ∧ wdP (b + 1) < 5 then 1 else 0 := by
  have key : ∀ H : List Int, H.Pairwise (· < ·) → (H.filter (inR a (b + 1))).length = (H.filter (inR a b)).length + if (b + 1) ∈ H ∧ wdP (b + 1) < 5 then 1 else 0 := by
    intro H
    induction H with
    | nil => intro _; simp
    | cons x t ih =>
      intro hs
      rw [List.pairwise_cons] at hs
      have ih := ih hs.2
      by_cases hx : x = b + 1
      · subst hx
        have hn : (b + 1) ∉ t := fun hm => by have := hs.1 _ hm; omega
        have h1 : inR a b (b + 1) = false := by simp only [inR, decide_eq_false_iff_not]; omega
        rw [if_neg (fun c => hn c.1)] at ih
        have e1 : List.filter (inR a b) ((b + 1) :: t) = List.filter (inR a b) t := List.filter_cons_of_neg (by rw [h1]; simp)
        rw [e1]
        by_cases hw : wdP (b + 1) < 5
        · have h2 : inR a (b + 1) (b + 1) = true := by simp only [inR, decide_eq_true_eq]; omega
          rw [List.filter_cons_of_pos h2, if_pos ⟨by simp, hw⟩]
          simp only [List.length_cons]; omega
        · have h2 : inR a (b + 1) (b + 1) = false := by simp only [inR, decide_eq_false_iff_not]; omega
          have e2 : List.filter (inR a (b + 1)) ((b + 1) :: t) = List.filter (inR a (b + 1)) t := List.filter_cons_of_neg (by rw [h2]; simp)
          rw [e2, if_neg (fun c => hw c.2)]
          omega
      · have h1 : inR a (b + 1) x = inR a b x := by
          unfold inR
          apply decide_eq_decide.2
          constructor
          · rintro ⟨p, q, r⟩; exact ⟨p, by omega, r⟩
          · rintro ⟨p, q, r⟩; exact ⟨p, by omega, r⟩
        have h2 : (b + 1 ∈ x :: t ∧ wdP (b + 1) < 5) ↔ (b + 1 ∈ t ∧ wdP (b + 1) < 5) := by
          rw [List.mem_cons]
          constructor
          · rintro ⟨p | p, q⟩
            · exact absurd p.symm hx
            · exact ⟨p, q⟩
          · rintro ⟨p, q⟩; exact ⟨.inr p, q⟩
        have h3 : (if b + 1 ∈ x :: t ∧ wdP (b + 1) < 5 then 1 else 0) = if b + 1 ∈ t ∧ wdP (b + 1) < 5 then 1 else 0 := by
          by_cases hc : b + 1 ∈ t ∧ wdP (b + 1) < 5
          · rw [if_pos hc, if_pos (h2.2 hc)]
          · rw [if_neg hc, if_neg (fun c => hc (h2.1 c))]
        rw [h3]
        by_cases hi : inR a b x = true
        · rw [List.filter_cons_of_pos hi, List.filter_cons_of_pos (by rw [h1]; exact hi)]
          simp only [List.length_cons]; omega
        · rw [List.filter_cons_of_neg hi, List.filter_cons_of_neg (by rw [h1]; exact hi)]
          exact ih
  have := key H hs
  rw [this]
  push_cast
  split <;> rfl
theorem wkC_eq {H : List Int} (hs : H.Pairwise (· < ·)) (a : Int) : ∀ n : Nat, wkC H a n = wkB (a + n) - wkB a - (H.filter (inR a (a + n - 1))).length
  | 0 => by
    have : H.filter (inR a (a + ((0 : Nat) : Int) - 1)) = [] := by
      rw [List.filter_eq_nil_iff]
      intro x _
      simp only [inR, decide_eq_true_eq]; omega
    rw [this, wkC]
    simp
  | n + 1 => by
    have ih := wkC_eq hs a n
    have h1 := wkB_succ (a + n)
    have h2 := cnt_succ hs (a := a) (b := a + n - 1) (by omega)
    rw [show a + (n : Int) - 1 + 1 = a + n from by omega] at h2
    rw [wkC, show a + ((n + 1 : Nat) : Int) = a + n + 1 from by omega, show a + (n : Int) + 1 - 1 = a + n from by omega, h1, h2, ih]
    unfold isWk
    by_cases hw : wdP (a + n) < 5 <;> by_cases hm : a + (n : Int) ∈ H <;> simp [hw, hm] <;> omega
theorem wkN_eq {l : List Hol} (hv : validL l = true) {a b : Int} (ha : okD a) (hb : okD b) (h : a ≤ b) : wkN l a b = wkC (allH l) a (b + 1 - a).toNat := by
  rw [wkN, col_range hv ha hb, wkC_eq (allH_strict l)]
  rw [show a + ((b + 1 - a).toNat : Int) = b + 1 from by omega, show b + 1 - 1 = b from by omega]
end Go.Proofs.YtlanehcihoiglaaGreatDoor
