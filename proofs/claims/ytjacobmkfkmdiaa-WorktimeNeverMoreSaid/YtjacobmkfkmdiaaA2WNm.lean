/- Working time: counting instants. -/
import Derived.Test.YtjacobmkfkmdiaaA2WPl
import Derived.Test.YtjacobmkfkmdiaaA2LWSnd
set_option linter.unusedSimpArgs false
set_option linter.unusedVariables false
set_option linter.unusedSectionVars false
namespace Go.Proofs.Ytjacobmkfkmdiaa
open Go Go.Abs

def cnt (f : Int → Bool) : Nat → Int
  | 0 => 0
  | n + 1 => cnt f n + (if f n then 1 else 0)
theorem cnt_mono {f g : Int → Bool} (h : ∀ t, f t = true → g t = true) : ∀ n, cnt f n ≤ cnt g n
  | 0 => Int.le_refl _
  | n + 1 => by
    have ih := cnt_mono h n
    rw [cnt, cnt]
    cases hf : f n
    · simp only [Bool.false_eq_true, if_false]; split <;> omega
    · rw [h _ hf]; simp only [if_true]; omega
theorem cnt_congr {f g : Int → Bool} (h : ∀ t, f t = g t) (n : Nat) : cnt f n = cnt g n := by rw [show f = g from funext h]
theorem cnt_or {f g : Int → Bool} (h : ∀ t, f t = true → g t = true → False) : ∀ n, cnt (fun t => f t || g t) n = cnt f n + cnt g n
  | 0 => rfl
  | n + 1 => by
    rw [cnt, cnt, cnt, cnt_or h n]
    cases hf : f n <;> cases hg : g n
    · simp
    · simp; omega
    · simp; omega
    · exact (h _ hf hg).elim
theorem cnt_iv {v : Iv} (h0 : 0 ≤ v.fr) (h1 : v.fr ≤ v.to) : ∀ n : Nat, cnt (inI v) n = max (min v.to n - v.fr) 0
  | 0 => by rw [cnt]; omega
  | n + 1 => by
    rw [cnt, cnt_iv h0 h1 n]
    by_cases h : v.fr ≤ n ∧ (n : Int) < v.to
    · rw [show inI v n = true from decide_eq_true h, if_pos rfl]; omega
    · rw [show inI v n = false from decide_eq_false h, if_neg (by simp)]; omega
theorem cnt_zero {f : Int → Bool} (h : ∀ t, f t = false) : ∀ n, cnt f n = 0
  | 0 => rfl
  | n + 1 => by rw [cnt, cnt_zero h n, h]; simp
theorem ivT_cnt : ∀ {l : List Iv} {e T : Int} {N : Nat}, brOk e T l = true → 0 ≤ e → T ≤ N → cnt (cov l) N = ivT l
  | [], _, _, N, _, _, _ => cnt_zero (fun _ => rfl) N
  | v :: l, e, T, N, h, he, hT => by
    simp only [brOk, ivIn, Bool.and_eq_true, decide_eq_true_eq] at h
    have ih := ivT_cnt (N := N) h.2 (by omega) hT
    have e1 : cnt (cov (v :: l)) N = cnt (fun t => inI v t || cov l t) N := cnt_congr (fun _ => rfl) N
    rw [e1, cnt_or, ih, cnt_iv (by omega) (by omega), ivT]
    · omega
    · intro t h1 h2
      simp only [inI, decide_eq_true_eq] at h1
      rw [cov_low h.2 (by omega)] at h2
      cases h2
theorem J_brOk : ∀ {l : List Iv} {e E : Int}, J l E → (∀ v ∈ l, e ≤ v.fr) → brOk e E l = true
  | [], _, _, _, _ => rfl
  | v :: l, e, E, h, he => by
    obtain ⟨hs, hn, hu⟩ := h
    rw [List.pairwise_cons] at hs
    rw [brOk, Bool.and_eq_true]
    exact ⟨decide_eq_true ⟨he v (by simp), hn v (by simp), hu v (by simp)⟩, J_brOk ⟨hs.2, fun x hx => hn x (by simp [hx]), fun x hx => hu x (by simp [hx])⟩ (fun x hx => by have := hs.1 x hx; omega)⟩

def stays (ps : List Pre) : List Iv := ps.map fun p => ⟨p.fr, p.to⟩
theorem stays_ok : ∀ {ps : List Pre} {e : Int}, presOk e ps = true → brOk e 120968640 (stays ps) = true
  | [], _, _ => rfl
  | p :: ps, e, h => by
    simp only [presOk, preOk, ivIn, Bool.and_eq_true, decide_eq_true_eq] at h
    show (ivIn ⟨p.fr, p.to⟩ e 120968640 && brOk p.to 120968640 (stays ps)) = true
    rw [Bool.and_eq_true]
    exact ⟨decide_eq_true (by simp only; omega), stays_ok h.2⟩
theorem brMin_ivT : ∀ {l : List Iv}, brMin l = ivT l
  | [] => rfl
  | v :: l => by rw [brMin, ivT, brMin_ivT]
def sumP : List Pre → Int
  | [] => 0
  | p :: ps => pmin p + sumP ps
theorem sumP_cnt : ∀ {ps : List Pre} {e : Int} {N : Nat}, presOk e ps = true → 0 ≤ e → 120968640 ≤ N → cnt (fun t => cov (stays ps) t && !cov (brkP ps) t) N = sumP ps
  | [], _, N, _, _, _ => cnt_zero (fun _ => rfl) N
  | p :: ps, e, N, h, he, hN => by
    have h' := h
    simp only [presOk, Bool.and_eq_true] at h
    have hpo : preOk 0 p = true := by
      have := h.1
      simp only [preOk, ivIn, Bool.and_eq_true, decide_eq_true_eq] at this ⊢
      exact ⟨⟨by omega, this.1.2⟩, this.2⟩
    simp only [preOk, ivIn, Bool.and_eq_true, decide_eq_true_eq] at h
    have ih := sumP_cnt (N := N) h.2 (by omega) hN
    have hst := stays_ok h.2
    have hbk := brkP_ok h.2
    have hsplit : ∀ t, (cov (stays (p :: ps)) t && !cov (brkP (p :: ps)) t) = ((inI ⟨p.fr, p.to⟩ t && !cov p.br t) || (cov (stays ps) t && !cov (brkP ps) t)) := by
      intro t
      show ((inI ⟨p.fr, p.to⟩ t || cov (stays ps) t) && !cov (p.br ++ brkP ps) t) = _
      rw [cov_append]
      by_cases ht : t < p.to
      · rw [cov_low hst ht, cov_low hbk ht]; simp
      · have hb : cov p.br t = false := by
          cases hc : cov p.br t
          · rfl
          · obtain ⟨b, hb, h1, h2⟩ := cov_mem.1 hc
            have := brOk_mem h.1.2 b hb
            omega
        rw [show inI ⟨p.fr, p.to⟩ t = false from decide_eq_false (by simp only; omega), hb]; simp
    have hone : cnt (fun t => inI ⟨p.fr, p.to⟩ t && !cov p.br t) N = pmin p := by
      have h1 : cnt (inI ⟨p.fr, p.to⟩) N = cnt (fun t => (inI ⟨p.fr, p.to⟩ t && !cov p.br t) || cov p.br t) N := by
        refine cnt_congr (fun t => ?_) N
        cases hc : cov p.br t
        · simp
        · obtain ⟨b, hb, h1, h2⟩ := cov_mem.1 hc
          have := brOk_mem h.1.2 b hb
          rw [show inI ⟨p.fr, p.to⟩ t = true from decide_eq_true (by simp only; omega)]; rfl
      rw [cnt_or (fun t h1 h2 => by rw [h2] at h1; simp at h1), cnt_iv (by simp only; omega) (by simp only; omega), ivT_cnt (N := N) h.1.2 (by omega) (by omega)] at h1
      rw [pmin, if_pos (pvalid_one.2 hpo), brMin_ivT]
      simp only at h1
      omega
    rw [cnt_congr hsplit, cnt_or, hone, ih, sumP]
    intro t h1 h2
    simp only [inI, Bool.and_eq_true, decide_eq_true_eq] at h1 h2
    rw [cov_low hst (by omega)] at h2
    cases h2.1
theorem work_cnt {r : Rul} (hb : r.brs = []) {pl : Iv} {ps : List Pre} (hp : presOk 0 ps = true) : ivT (workP r pl ps) = cnt (fun t => cov (adjP r pl 0 ps) t && !cov (brkP ps) t) 120968640 := by
  obtain ⟨a, b⟩ := woP_J (r := []) (e := 0) (brkP_ok hp) (adjP_ok (r := r) (pl := pl) (ps := ps) (last := 0)) (by omega) J_nil
  obtain ⟨hwi, _⟩ := woP_in (r := []) (brkP_ok hp) (by omega) (brOk_in (adjP_ok (r := r) (pl := pl) (ps := ps) (last := 0)) (by omega)) (by simp [ivsIn])
  have hw : workP r pl ps = woP (adjP r pl 0 ps) (brkP ps) [] := by
    unfold workP
    simp only
    split
    · rename_i h; rw [List.isEmpty_iff.1 h]
    · rw [hb, enfP]
  rw [hw, ← ivT_cnt (N := 120968640) (J_brOk (e := 0) a (fun v hv => (hwi v hv).1)) (by omega) (by omega)]
  refine cnt_congr (fun t => ?_) _
  rw [b]; simp [cov]

theorem grid_in {g s : Int} {bs : List Br} (hg : 1 ≤ g) {t : Int} : t ≤ gridP ⟨g, 1, s, bs⟩ t false ∧ gridP ⟨g, 1, s, bs⟩ t true ≤ t := by
  have h1 : t / g * g ≤ t := Int.ediv_mul_le _ (by omega)
  have h2 : t < (t / g + 1) * g := Int.lt_ediv_add_one_mul_self _ (by omega)
  rw [Int.add_mul, Int.one_mul] at h2
  simp only [gridP]
  constructor
  · split
    · omega
    · split
      · omega
      · simp; omega
  · split
    · omega
    · split
      · omega
      · simp; omega
theorem grid_out {g s : Int} {bs : List Br} (hg : 1 ≤ g) {t : Int} : gridP ⟨g, 2, s, bs⟩ t false ≤ t ∧ t ≤ gridP ⟨g, 2, s, bs⟩ t true := by
  have h1 : t / g * g ≤ t := Int.ediv_mul_le _ (by omega)
  have h2 : t < (t / g + 1) * g := Int.lt_ediv_add_one_mul_self _ (by omega)
  rw [Int.add_mul, Int.one_mul] at h2
  simp only [gridP]
  constructor
  · split
    · omega
    · split
      · omega
      · simp; omega
  · split
    · omega
    · split
      · omega
      · simp; omega
theorem adj_less {r : Rul} (h1 : ∀ t, t ≤ gridP r t false) (h2 : ∀ t, gridP r t true ≤ t) : ∀ {ps : List Pre} {last t : Int}, cov (adjP r ⟨0, 0⟩ last ps) t = true → cov (stays ps) t = true
  | [], _, t, h => by simp [adjP, cov] at h
  | p :: ps, last, t, h => by
    have ih := adj_less h1 h2 (ps := ps) (last := max last (stayP r ⟨0, 0⟩ last p).to) (t := t)
    show (inI ⟨p.fr, p.to⟩ t || cov (stays ps) t) = true
    rw [Bool.or_eq_true]
    rw [adjP] at h
    split at h
    · rw [cov, Bool.or_eq_true] at h
      rcases h with h | h
      · left
        have a := h1 p.fr
        have b := h2 p.to
        simp only [inI, stayP, decide_eq_true_eq, and_self, not_true_eq_false, false_and, if_false] at h ⊢
        omega
      · exact .inr (ih h)
    · exact .inr (ih h)
theorem adj_more {r : Rul} (h1 : ∀ t, gridP r t false ≤ t) (h2 : ∀ t, t ≤ gridP r t true) : ∀ {ps : List Pre} {last e t : Int}, presOk e ps = true → cov (stays ps) t = true → cov (adjP r ⟨0, 0⟩ last ps) t = true ∨ t < last
  | [], _, _, t, _, h => by simp [stays, cov] at h
  | p :: ps, last, e, t, hp, h => by
    simp only [presOk, preOk, ivIn, Bool.and_eq_true, decide_eq_true_eq] at hp
    have ih := adj_more h1 h2 (ps := ps) (last := max last (stayP r ⟨0, 0⟩ last p).to) (t := t) hp.2
    have hst := stays_ok hp.2
    have hs : stayP r ⟨0, 0⟩ last p = ⟨max (gridP r p.fr false) last, min (gridP r p.to true) 120968640⟩ := by simp [stayP]
    have a := h1 p.fr
    have b := h2 p.to
    by_cases htl : t < last
    · exact .inr htl
    left
    have h' : (inI ⟨p.fr, p.to⟩ t || cov (stays ps) t) = true := h
    rw [Bool.or_eq_true] at h'
    rw [hs] at ih
    simp only at ih
    rw [adjP, hs]
    simp only
    have key : t < min (gridP r p.to true) 120968640 → p.fr ≤ t → cov (if max (gridP r p.fr false) last < min (gridP r p.to true) 120968640 then ⟨max (gridP r p.fr false) last, min (gridP r p.to true) 120968640⟩ :: adjP r ⟨0, 0⟩ (max last (min (gridP r p.to true) 120968640)) ps else adjP r ⟨0, 0⟩ (max last (min (gridP r p.to true) 120968640)) ps) t = true := by
      intro ha hb
      rw [if_pos (by omega), cov, Bool.or_eq_true]
      exact .inl (decide_eq_true (by simp only; omega))
    rcases h' with h' | h'
    · simp only [inI, decide_eq_true_eq] at h'
      exact key (by omega) (by omega)
    · have hge : p.to ≤ t := by
        by_cases hlt : t < p.to
        · rw [cov_low hst hlt] at h'; cases h'
        · omega
      rcases ih h' with h3 | h3
      · split
        · rw [cov, h3, Bool.or_true]
        · exact h3
      · exact key (by omega) (by omega)

theorem never_more {g : Int} (hg : 1 ≤ g) {ps : List Pre} (hp : presOk 0 ps = true) :
    ivT (workP ⟨g, 1, 0, []⟩ ⟨0, 0⟩ ps) ≤ sumP ps ∧ sumP ps ≤ ivT (workP ⟨g, 2, 0, []⟩ ⟨0, 0⟩ ps) ∧ ivT (workP ⟨0, 0, 0, []⟩ ⟨0, 0⟩ ps) = sumP ps := by
  have hin : ∀ {r : Rul}, r.brs = [] → (∀ t, t ≤ gridP r t false) → (∀ t, gridP r t true ≤ t) → ivT (workP r ⟨0, 0⟩ ps) ≤ sumP ps := by
    intro r hb h1 h2
    rw [work_cnt hb hp, ← sumP_cnt (N := 120968640) hp (by omega) (by omega)]
    refine cnt_mono (fun t h => ?_) _
    simp only [Bool.and_eq_true] at h ⊢
    exact ⟨adj_less h1 h2 h.1, h.2⟩
  have hout : ∀ {r : Rul}, r.brs = [] → (∀ t, gridP r t false ≤ t) → (∀ t, t ≤ gridP r t true) → sumP ps ≤ ivT (workP r ⟨0, 0⟩ ps) := by
    intro r hb h1 h2
    rw [work_cnt hb hp, ← sumP_cnt (N := 120968640) hp (by omega) (by omega)]
    refine cnt_mono (fun t h => ?_) _
    simp only [Bool.and_eq_true] at h ⊢
    refine ⟨?_, h.2⟩
    rcases adj_more h1 h2 (last := 0) hp h.1 with h' | h'
    · exact h'
    · rw [cov_low (stays_ok hp) h'] at h
      cases h.1
  have hz : ∀ t e, gridP ⟨0, 0, 0, []⟩ t e = t := fun t e => by simp [gridP]
  refine ⟨hin rfl (fun t => (grid_in hg).1) (fun t => (grid_in hg).2), hout rfl (fun t => (grid_out hg).1) (fun t => (grid_out hg).2), ?_⟩
  have a := hin (r := ⟨0, 0, 0, []⟩) rfl (fun t => by rw [hz]; omega) (fun t => by rw [hz]; omega)
  have b := hout (r := ⟨0, 0, 0, []⟩) rfl (fun t => by rw [hz]; omega) (fun t => by rw [hz]; omega)
  omega

theorem joinP_length {l : List Iv} {v : Iv} : (joinP l v).length ≤ l.length + 1 := by
  by_cases hn : v.to ≤ v.fr
  · rw [joinP_none hn]; omega
  · rcases List.eq_nil_or_concat l with rfl | ⟨l', u, rfl⟩
    · rw [joinP_nil (by omega)]; simp
    · rw [List.concat_eq_append, joinP_snoc (by omega)]
      split <;> simp
theorem wInner_length : ∀ {os : List Iv} {v : Iv} {r : List Iv}, (wInner os v r).length ≤ r.length + os.length + 1
  | [], v, r => joinP_length
  | o :: os, v, r => by
    rw [wInner]
    split
    · have h1 := wInner_length (os := os) (v := ⟨o.to, v.to⟩) (r := joinP r ⟨v.fr, o.fr⟩)
      have h2 := joinP_length (l := r) (v := ⟨v.fr, o.fr⟩)
      rw [List.length_cons]; omega
    · have h2 := joinP_length (l := r) (v := v)
      rw [List.length_cons]; omega
theorem skipO_length : ∀ {os : List Iv} {f : Int}, (skipO f os).length ≤ os.length
  | [], _ => Nat.le_refl _
  | o :: os, f => by
    rw [skipO]
    split
    · have := skipO_length (os := os) (f := f); rw [List.length_cons]; omega
    · exact Nat.le_refl _
theorem woP_length : ∀ {l os r : List Iv} {k : Nat}, os.length ≤ k → (woP l os r).length ≤ r.length + l.length * (k + 1)
  | [], os, r, k, _ => by simp [woP]
  | v :: l, os, r, k, h => by
    have h0 := skipO_length (os := os) (f := v.fr)
    have h1 := wInner_length (os := skipO v.fr os) (v := v) (r := r)
    have h2 := woP_length (l := l) (os := skipO v.fr os) (r := wInner (skipO v.fr os) v r) (k := k) (by omega)
    rw [woP, List.length_cons, Nat.add_mul]; omega
theorem adjP_length {r : Rul} {pl : Iv} : ∀ {ps : List Pre} {last : Int}, (adjP r pl last ps).length ≤ ps.length
  | [], _ => Nat.le_refl _
  | p :: ps, last => by
    have ih := adjP_length (r := r) (pl := pl) (ps := ps) (last := max last (stayP r pl last p).to)
    rw [adjP]
    split <;> simp only [List.length_cons] <;> omega
theorem brkP_length : ∀ {ps : List Pre}, (∀ p ∈ ps, p.br.length ≤ 2) → (brkP ps).length ≤ 2 * ps.length
  | [], _ => by simp [brkP]
  | p :: ps, h => by
    have ih := brkP_length (ps := ps) (fun q hq => h q (by simp [hq]))
    have hp := h p (by simp)
    show (p.br ++ brkP ps).length ≤ _
    rw [List.length_append, List.length_cons]; omega
theorem workP_length {r : Rul} (hb : r.brs = []) {pl : Iv} {ps : List Pre} (hl : ps.length ≤ 3) (hbr : ∀ p ∈ ps, p.br.length ≤ 2) : (workP r pl ps).length ≤ 100 := by
  have h1 := brkP_length hbr
  have h2 := adjP_length (r := r) (pl := pl) (ps := ps) (last := 0)
  have h3 := woP_length (l := adjP r pl 0 ps) (os := brkP ps) (r := []) (k := 6) (by omega)
  have hw : (workP r pl ps).length ≤ (woP (adjP r pl 0 ps) (brkP ps) []).length := by
    unfold workP
    simp only
    split
    · simp
    · rw [hb, enfP]; exact Nat.le_refl _
  simp only [List.length_nil] at h3
  omega
theorem minP_ivT : ∀ {l : List Iv}, ivsIn l → minP l = ivT l
  | [], _ => rfl
  | v :: l, h => by
    have hv := h v (by simp)
    rw [minP, ivT, show ivIn v 0 120968640 = true from decide_eq_true hv, if_pos rfl, minP_ivT (fun x hx => h x (by simp [hx]))]
theorem pmin_bd {p : Pre} : 0 ≤ pmin p ∧ pmin p ≤ 120968640 := by
  rw [pmin]
  split
  · rename_i h
    have hv := pvalid_one.1 h
    simp only [preOk, ivIn, Bool.and_eq_true, decide_eq_true_eq] at hv
    have := brMin_bd hv.2 (by omega)
    omega
  · omega
theorem sumP_snoc : ∀ {ps : List Pre} {p : Pre}, sumP (ps ++ [p]) = sumP ps + pmin p
  | [], p => by simp [sumP]
  | q :: ps, p => by rw [List.cons_append, sumP, sumP, sumP_snoc]; omega
theorem sumP_bd : ∀ {ps : List Pre}, 0 ≤ sumP ps ∧ sumP ps ≤ 120968640 * ps.length
  | [] => by simp [sumP]
  | p :: ps => by
    have h1 := sumP_bd (ps := ps)
    have h2 := pmin_bd (p := p)
    rw [sumP, List.length_cons]; omega

end Go.Proofs.Ytjacobmkfkmdiaa
