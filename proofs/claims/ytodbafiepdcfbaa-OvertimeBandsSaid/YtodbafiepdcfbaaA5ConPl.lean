/- OvertimeConserves in plain words. -/
import Derived.Test.YtodbafiepdcfbaaA5Bnd
set_option linter.unusedSimpArgs false
set_option linter.unusedVariables false
set_option linter.unusedSectionVars false
namespace Go.Proofs.Ytodbafiepdcfbaa
open Go Go.Abs
set_option linter.unusedSimpArgs false
set_option linter.unusedVariables false

/-- minutes in the order of time -/
def incr (ms : List (Int × Int)) : Prop := ms.Pairwise fun a b => a.2 < b.2
def lenP : List Pc → Int
  | [] => 0
  | p :: ps => p.to - p.fr + lenP ps
theorem lenP_append : ∀ (a b : List Pc), lenP (a ++ b) = lenP a + lenP b
  | [], b => by simp [lenP]
  | x :: a, b => by simp only [List.cons_append, lenP, lenP_append a b]; omega
def hasP (n d : Int) (p : Pc) : Bool := decide (p.fr ≤ n ∧ n < p.to ∧ p.day = d)
def isM (n d : Int) (m : Int × Int) : Bool := decide (m.1 = d ∧ m.2 = n)
structure Good (ms : List (Int × Int)) (ps : List Pc) : Prop where
  pos : ∀ p ∈ ps, p.fr < p.to
  ord : ps.Pairwise fun a b => a.to ≤ b.fr
  last : ∀ p ∈ ps, ∃ m ∈ ms, p.to = m.2 + 1
  sum : lenP ps = ms.length
  cnt : ∀ n d, ps.countP (hasP n d) = ms.countP (isM n d)

theorem good_step {ms : List (Int × Int)} {ps : List Pc} {d t : Int} {b : ByteArray} (h : Good ms ps) (ht : ∀ m ∈ ms, m.2 < t) : Good (ms ++ [(d, t)]) (addP ps ⟨d, t, t + 1, b⟩) := by
  have hle : ∀ p ∈ ps, p.to ≤ t := fun p hp => by
    obtain ⟨m, hm, e⟩ := h.last p hp
    have := ht m hm
    omega
  have hm1 : ∀ n d', ([(d, t)] : List (Int × Int)).countP (isM n d') = if d = d' ∧ t = n then 1 else 0 := by
    intro n d'
    rw [List.countP_singleton]
    simp [isM]
  have hnew : Good (ms ++ [(d, t)]) (ps ++ [⟨d, t, t + 1, b⟩]) := by
    refine ⟨fun p hp => ?_, ?_, fun p hp => ?_, ?_, fun n d' => ?_⟩
    · rcases List.mem_append.1 hp with hp | hp
      · exact h.pos p hp
      · rw [List.mem_singleton] at hp; subst hp; simp only; omega
    · rw [List.pairwise_append]
      exact ⟨h.ord, by simp, fun a ha b' hb => by rw [List.mem_singleton] at hb; subst hb; exact hle a ha⟩
    · rcases List.mem_append.1 hp with hp | hp
      · obtain ⟨m, hm, e⟩ := h.last p hp
        exact ⟨m, List.mem_append_left _ hm, e⟩
      · rw [List.mem_singleton] at hp; subst hp
        exact ⟨(d, t), by simp, rfl⟩
    · rw [lenP_append, h.sum]; simp [lenP]; omega
    · rw [List.countP_append, List.countP_append, h.cnt, hm1, List.countP_singleton]
      congr 1
      simp only [hasP, decide_eq_true_eq]
      by_cases hc : d = d' ∧ t = n
      · rw [if_pos hc, if_pos (by omega)]
      · rw [if_neg hc, if_neg (by omega)]
  cases hp : ps.getLast? with
  | none =>
    have e : ps = [] := by simpa using hp
    subst e
    exact hnew
  | some p =>
    by_cases hg : goesOn p ⟨d, t, t + 1, b⟩ = true
    rotate_left
    · rw [addP_off hp hg]; exact hnew
    rw [addP_on hp hg]
    simp only [goesOn, Bool.and_eq_true, decide_eq_true_eq] at hg
    obtain ⟨hd, _, hto⟩ := hg
    have hps : ps = ps.dropLast ++ [p] := by
      have hne : ps ≠ [] := fun e => by rw [e] at hp; cases hp
      have := List.dropLast_concat_getLast hne
      rw [List.getLast?_eq_some_getLast hne] at hp
      rw [← Option.some.inj hp]; exact this.symm
    generalize ps.dropLast = qs at hps ⊢
    subst hps
    have hpp := h.pos p (by simp)
    have hord := h.ord
    rw [List.pairwise_append] at hord
    refine ⟨fun q hq => ?_, ?_, fun q hq => ?_, ?_, fun n d' => ?_⟩
    · rcases List.mem_append.1 hq with hq | hq
      · exact h.pos q (List.mem_append_left _ hq)
      · rw [List.mem_singleton] at hq; subst hq; simp only; omega
    · rw [List.pairwise_append]
      exact ⟨hord.1, by simp, fun a ha b' hb => by rw [List.mem_singleton] at hb; subst hb; exact hord.2.2 a ha p (by simp)⟩
    · rcases List.mem_append.1 hq with hq | hq
      · obtain ⟨m, hm, e⟩ := h.last q (List.mem_append_left _ hq)
        exact ⟨m, List.mem_append_left _ hm, e⟩
      · rw [List.mem_singleton] at hq; subst hq
        exact ⟨(d, t), by simp, rfl⟩
    · have := h.sum
      rw [lenP_append] at this
      simp only [lenP] at this
      rw [lenP_append]
      simp only [lenP, List.length_append, List.length_cons, List.length_nil]
      omega
    · have hc := h.cnt n d'
      rw [List.countP_append, List.countP_singleton] at hc
      rw [List.countP_append, List.countP_append, hm1, ← hc, List.countP_singleton, Nat.add_assoc]
      congr 1
      simp only [hasP, decide_eq_true_eq]
      by_cases c1 : d = d' ∧ t = n
      · rw [if_pos c1, if_pos (by omega), if_neg (by omega)]
      · rw [if_neg c1]
        by_cases c2 : p.fr ≤ n ∧ n < p.to ∧ p.day = d'
        · rw [if_pos c2, if_pos (by omega)]
        · rw [if_neg c2, if_neg (by omega)]

theorem run_good (R : Rl) (ms : List (Int × Int)) (h : incr ms) : Good ms (run R ms).ps := by
  induction ms using list_snoc_ind with
  | h0 => exact ⟨by simp [run], by simp [run], by simp [run], by simp [run, lenP], by simp [run]⟩
  | h1 ms m ih =>
    unfold incr at h ih
    rw [List.pairwise_append] at h
    rw [run_snoc]
    exact good_step (ih h.1) fun x hx => h.2.2 x hx m (by simp)

theorem mem_minsF {d f : Int} {n : Nat} {m : Int × Int} : m ∈ minsF d f n ↔ m.1 = d ∧ f ≤ m.2 ∧ m.2 < f + n := by
  unfold minsF
  rw [List.mem_map]
  constructor
  · rintro ⟨j, hj, rfl⟩
    rw [List.mem_range] at hj
    exact ⟨rfl, by simp only; omega, by simp only; omega⟩
  · rintro ⟨h1, h2, h3⟩
    refine ⟨(m.2 - f).toNat, by rw [List.mem_range]; omega, ?_⟩
    rw [show f + (((m.2 - f).toNat : Nat) : Int) = m.2 from by omega, ← h1]
theorem incr_minsF (d f : Int) : ∀ n, incr (minsF d f n)
  | 0 => by simp [incr, minsF]
  | n + 1 => by
    have := incr_minsF d f n
    unfold incr at *
    rw [minsF_succ, List.pairwise_append]
    refine ⟨this, by simp, fun a ha b hb => ?_⟩
    rw [List.mem_singleton] at hb; subst hb
    have := mem_minsF.1 ha
    simp only; omega
theorem mem_mins {S : List Spn} {m : Int × Int} (hv : ∀ s ∈ S, ivP s.fr s.to) : m ∈ mins S ↔ ∃ s ∈ S, s.day = m.1 ∧ s.fr ≤ m.2 ∧ m.2 < s.to := by
  unfold mins
  rw [List.mem_flatMap]
  constructor
  · rintro ⟨s, hs, h⟩
    have h1 := hv s hs
    unfold ivP at h1
    have := mem_minsF.1 h
    exact ⟨s, hs, by omega, by omega, by omega⟩
  · rintro ⟨s, hs, h1, h2, h3⟩
    exact ⟨s, hs, mem_minsF.2 ⟨by omega, by omega, by omega⟩⟩
theorem incr_mins : ∀ {S : List Spn}, (∀ s ∈ S, ivP s.fr s.to) → asc S → incr (mins S)
  | [], _, _ => by simp [incr, mins]
  | s :: S, hv, ha => by
    unfold asc at ha
    rw [List.pairwise_cons] at ha
    have hv2 : ∀ x ∈ S, ivP x.fr x.to := fun x hx => hv x (List.mem_cons_of_mem _ hx)
    have ih := incr_mins hv2 ha.2
    have hm : mins (s :: S) = minsP s ++ mins S := rfl
    unfold incr at *
    rw [hm, List.pairwise_append]
    refine ⟨incr_minsF _ _ _, ih, fun a hs b hb => ?_⟩
    have h1 := mem_minsF.1 hs
    obtain ⟨x, hx, _, h3, _⟩ := (mem_mins hv2).1 hb
    have h4 := ha.1 x hx
    have h5 := hv s List.mem_cons_self
    unfold ivP at h5
    omega
theorem count_one {n d : Int} : ∀ {ms : List (Int × Int)}, incr ms → (d, n) ∈ ms → ms.countP (isM n d) = 1
  | [], _, h => by simp at h
  | m :: ms, hi, h => by
    unfold incr at hi
    rw [List.pairwise_cons] at hi
    rw [List.countP_cons]
    rcases List.mem_cons.1 h with h | h
    · subst h
      have : ms.countP (isM n d) = 0 := by
        rw [List.countP_eq_zero]
        intro x hx
        have := hi.1 x hx
        simp only [isM, decide_eq_true_eq]
        simp only at this
        omega
      rw [this]
      simp [isM]
    · rw [count_one hi.2 h]
      have := hi.1 _ h
      simp only at this
      have hne : isM n d m = false := by simp only [isM, decide_eq_false_iff_not]; omega
      simp [hne]

theorem mk_sp {ws : List Wk} (h : ws.length ≤ 20) (hg : ∀ w ∈ ws, wkG w) (hd : (flatS ws).Pairwise disj) : spE ws = 0 := by
  refine spE_of (by omega) (fun w hw => by have := (hg w hw).2.1; omega) (fun w hw => ?_) hd ?_
  · obtain ⟨_, _, h3, h4, h5⟩ := hg w hw
    refine ⟨⟨by omega, by omega⟩, fun v hv => ?_⟩
    have := h5 v hv
    unfold ivP
    omega
  · have : ∀ ws : List Wk, (∀ w ∈ ws, wkG w) → sumS (flatS ws) ≤ 960 * ws.length := by
      intro ws
      induction ws with
      | nil => intro _; simp [flatS, sumS]
      | cons w ws ih =>
        intro h
        have h1 := ih fun x hx => h x (List.mem_cons_of_mem _ hx)
        obtain ⟨_, h2, _, _, h5⟩ := h w List.mem_cons_self
        have h3 : sumS (flatW w) ≤ 480 * w.iv.length := by
          unfold flatW
          generalize w.iv = iv at h5
          clear h1 h2
          induction iv with
          | nil => simp [sumS]
          | cons v iv ih2 =>
            have a := ih2 fun x hx => h5 x (List.mem_cons_of_mem _ hx)
            have b := h5 v List.mem_cons_self
            simp only [List.map_cons, sumS, List.length_cons]
            omega
        have h4 : flatS (w :: ws) = flatW w ++ flatS ws := rfl
        rw [h4, sumS_append, List.length_cons]
        omega
    have := this ws hg
    omega
theorem mnI_flat {w : Wk} (h : ∀ v ∈ w.iv, ivP v.fr v.to) : mnI w.iv = sumS (flatW w) := by
  unfold flatW
  generalize w.iv = iv at h
  induction iv with
  | nil => rfl
  | cons v iv ih =>
    simp only [mnI, List.map_cons, sumS]
    rw [if_pos (h v List.mem_cons_self), ih fun x hx => h x (List.mem_cons_of_mem _ hx)]

end Go.Proofs.Ytodbafiepdcfbaa
