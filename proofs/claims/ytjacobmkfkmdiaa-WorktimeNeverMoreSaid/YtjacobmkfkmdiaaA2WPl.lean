/- Working time, instant by instant. -/
import Derived.Test.YtjacobmkfkmdiaaA2Wc5
set_option linter.unusedSimpArgs false
set_option linter.unusedVariables false
set_option linter.unusedSectionVars false
namespace Go.Proofs.Ytjacobmkfkmdiaa
open Go Go.Abs

def inI (v : Iv) (t : Int) : Bool := decide (v.fr ≤ t ∧ t < v.to)
def cov : List Iv → Int → Bool
  | [], _ => false
  | v :: l, t => inI v t || cov l t
theorem cov_append : ∀ {l r : List Iv} {t : Int}, cov (l ++ r) t = (cov l t || cov r t)
  | [], _, _ => by simp [cov]
  | v :: l, r, t => by rw [List.cons_append, cov, cov, cov_append, Bool.or_assoc]
theorem cov_mem : ∀ {l : List Iv} {t : Int}, cov l t = true ↔ ∃ v ∈ l, v.fr ≤ t ∧ t < v.to
  | [], t => by simp [cov]
  | v :: l, t => by
    rw [cov, Bool.or_eq_true, cov_mem, inI, decide_eq_true_eq]
    constructor
    · rintro (h | ⟨x, hx, h⟩)
      · exact ⟨v, by simp, h⟩
      · exact ⟨x, by simp [hx], h⟩
    · rintro ⟨x, hx, h⟩
      rcases List.mem_cons.1 hx with rfl | hx
      · exact .inl h
      · exact .inr ⟨x, hx, h⟩
theorem cov_low {l : List Iv} {e t T : Int} (h : brOk e T l = true) (ht : t < e) : cov l t = false := by
  cases hc : cov l t
  · rfl
  · obtain ⟨v, hv, h1, h2⟩ := cov_mem.1 hc
    have := brOk_mem h v hv
    omega
/-- intervals in order that do not touch, up to e -/
structure J (l : List Iv) (e : Int) : Prop where
  sep : l.Pairwise fun u v => u.to < v.fr
  ne : ∀ v ∈ l, v.fr < v.to
  up : ∀ v ∈ l, v.to ≤ e
theorem J.mono {l : List Iv} {e e' : Int} (h : J l e) (he : e ≤ e') : J l e' := ⟨h.sep, h.ne, fun v hv => Int.le_trans (h.up v hv) he⟩
theorem J_nil {e : Int} : J [] e := ⟨List.Pairwise.nil, by simp, by simp⟩
theorem joinP_J {l : List Iv} {e : Int} {v : Iv} (h : J l e) (hv : e ≤ v.fr) : J (joinP l v) (max e v.to) ∧ ∀ t, cov (joinP l v) t = (cov l t || inI v t) := by
  by_cases hn : v.to ≤ v.fr
  · rw [joinP_none hn]
    refine ⟨h.mono (by omega), fun t => ?_⟩
    rw [inI, decide_eq_false (by omega), Bool.or_false]
  · rcases List.eq_nil_or_concat l with rfl | ⟨l', u, rfl⟩
    · rw [joinP_nil (by omega)]
      exact ⟨⟨by simp, by simp; omega, by simp; omega⟩, fun t => by simp [cov]⟩
    · rw [List.concat_eq_append] at h ⊢
      rw [joinP_snoc (by omega)]
      obtain ⟨hs, hne, hup⟩ := h
      rw [List.pairwise_append] at hs
      obtain ⟨hs1, _, hs3⟩ := hs
      have hu1 := hne u (by simp)
      have hu2 := hup u (by simp)
      split
      · rename_i he
        refine ⟨⟨?_, ?_, ?_⟩, fun t => ?_⟩
        · rw [List.pairwise_append]
          refine ⟨hs1, by simp, fun a ha b hb => ?_⟩
          simp only [List.mem_singleton] at hb
          subst hb
          exact hs3 a ha u (by simp)
        · intro x hx
          simp only [List.mem_append, List.mem_singleton] at hx
          rcases hx with hx | rfl
          · exact hne x (by simp [hx])
          · simp only; omega
        · intro x hx
          simp only [List.mem_append, List.mem_singleton] at hx
          rcases hx with hx | rfl
          · have := hup x (by simp [hx]); omega
          · simp only; omega
        · rw [cov_append, cov_append, Bool.or_assoc]
          congr 1
          simp only [cov, inI, Bool.or_false]
          rw [Bool.eq_iff_iff]
          simp only [Bool.or_eq_true, decide_eq_true_eq]
          omega
      · rename_i he
        refine ⟨⟨?_, ?_, ?_⟩, fun t => ?_⟩
        · rw [List.pairwise_append, List.pairwise_append]
          refine ⟨⟨hs1, by simp, hs3⟩, by simp, fun a ha b hb => ?_⟩
          simp only [List.mem_singleton] at hb
          subst hb
          simp only [List.mem_append, List.mem_singleton] at ha
          rcases ha with ha | rfl
          · have := hs3 a ha u (by simp); omega
          · omega
        · intro x hx
          simp only [List.mem_append, List.mem_singleton] at hx
          rcases hx with (hx | rfl) | rfl
          · exact hne x (by simp [hx])
          · exact hu1
          · omega
        · intro x hx
          simp only [List.mem_append, List.mem_singleton] at hx
          rcases hx with (hx | rfl) | rfl
          · have := hup x (by simp [hx]); omega
          · omega
          · omega
        · rw [cov_append]
          simp [cov]
theorem wInner_J : ∀ {os : List Iv} {e' T e E : Int} {v : Iv} {r : List Iv}, brOk e' T os = true → (∀ o ∈ os, v.fr < o.to) → J r e → e ≤ v.fr → e ≤ E → v.to ≤ E →
    J (wInner os v r) E ∧ ∀ t, cov (wInner os v r) t = (cov r t || (inI v t && !cov os t))
  | [], e', T, e, E, v, r, _, _, hr, h1, h2, h3 => by
    rw [wInner]
    obtain ⟨a, b⟩ := joinP_J hr h1
    exact ⟨a.mono (by omega), fun t => by rw [b]; simp [cov]⟩
  | o :: os, e', T, e, E, v, r, hb, ho, hr, h1, h2, h3 => by
    simp only [brOk, ivIn, Bool.and_eq_true, decide_eq_true_eq] at hb
    have ho1 := ho o (by simp)
    rw [wInner]
    split
    · rename_i hlt
      obtain ⟨a, b⟩ := joinP_J (v := ⟨v.fr, o.fr⟩) hr h1
      obtain ⟨c, d⟩ := wInner_J (e := max e o.fr) (E := E) (v := ⟨o.to, v.to⟩) hb.2 (fun x hx => by have := brOk_mem hb.2 x hx; simp only; omega) a (by simp only; omega) (by omega) (by simp only; omega)
      refine ⟨c, fun t => ?_⟩
      rw [d, b, Bool.or_assoc]
      congr 1
      by_cases ht : t < o.to
      · rw [cov, cov_low hb.2 ht, Bool.or_false, Bool.not_false, Bool.and_true, Bool.eq_iff_iff]
        simp only [inI, Bool.or_eq_true, Bool.and_eq_true, Bool.not_eq_true', decide_eq_true_eq, decide_eq_false_iff_not]
        omega
      · rw [cov, show inI o t = false from decide_eq_false (by omega), Bool.false_or, show inI ⟨v.fr, o.fr⟩ t = false from decide_eq_false (by simp only; omega), Bool.false_or]
        congr 1
        rw [Bool.eq_iff_iff]
        simp only [inI, decide_eq_true_eq]
        omega
    · rename_i hlt
      obtain ⟨a, b⟩ := joinP_J hr h1
      refine ⟨a.mono (by omega), fun t => ?_⟩
      rw [b]
      congr 1
      cases hi : inI v t
      · rfl
      · simp only [inI, decide_eq_true_eq] at hi
        rw [cov, cov_low hb.2 (by omega), show inI o t = false from decide_eq_false (by omega)]; rfl
theorem skipO_cov : ∀ {os : List Iv} {f t : Int}, f ≤ t → cov (skipO f os) t = cov os t
  | [], _, _, _ => rfl
  | o :: os, f, t, h => by
    rw [skipO]
    split
    · rw [skipO_cov h, cov, show inI o t = false from decide_eq_false (by omega), Bool.false_or]
    · rfl
theorem woP_J : ∀ {l os r : List Iv} {e e' T T' : Int}, brOk e' T os = true → brOk e T' l = true → e ≤ T' → J r e →
    J (woP l os r) T' ∧ ∀ t, cov (woP l os r) t = (cov r t || (cov l t && !cov os t))
  | [], os, r, e, e', T, T', _, _, hT, hr => ⟨hr.mono hT, fun t => by simp [woP, cov]⟩
  | v :: l, os, r, e, e', T, T', ho, hl, hT, hr => by
    simp only [brOk, ivIn, Bool.and_eq_true, decide_eq_true_eq] at hl
    obtain ⟨h1, h2⟩ := skipO_ok (f := v.fr) ho
    obtain ⟨a, b⟩ := wInner_J (E := v.to) h1 h2 hr hl.1.1 (by omega) (by omega)
    obtain ⟨c, d⟩ := woP_J h1 hl.2 (by omega) a
    rw [woP]
    refine ⟨c, fun t => ?_⟩
    rw [d, b, cov, Bool.or_assoc]
    congr 1
    by_cases ht : v.fr ≤ t
    · rw [skipO_cov ht, Bool.and_or_distrib_right]
    · rw [show inI v t = false from decide_eq_false (by omega), cov_low hl.2 (by omega)]; rfl
theorem cutP_J : ∀ {l r : List Iv} {a k e : Int}, 0 ≤ k → l.Pairwise (fun u v => u.to < v.fr) → (∀ v ∈ l, v.fr < v.to) → (∀ v ∈ l, e ≤ v.fr) → J r e →
    (∃ E, J (cutP l a k r) E) ∧ ∀ t, cov (cutP l a k r) t = true → cov r t = true ∨ cov l t = true
  | [], r, a, k, e, _, _, _, _, hr => ⟨⟨e, hr⟩, fun t h => .inl h⟩
  | v :: l, r, a, k, e, hk, hs, hne, he, hr => by
    rw [List.pairwise_cons] at hs
    have hv := hne v (by simp)
    have hve := he v (by simp)
    obtain ⟨a1, b1⟩ := joinP_J (v := ⟨v.fr, v.fr + min (max a 0) (v.to - v.fr)⟩) hr hve
    obtain ⟨a2, b2⟩ := joinP_J (v := ⟨v.fr + min (max (a + k) 0) (v.to - v.fr), v.to⟩) a1 (by simp only; omega)
    obtain ⟨c, d⟩ := cutP_J (a := a - (v.to - v.fr)) (e := v.to) hk hs.2 (fun x hx => hne x (by simp [hx])) (fun x hx => by have := hs.1 x hx; omega) (a2.mono (by simp only; omega))
    rw [cutP]
    refine ⟨c, fun t h => ?_⟩
    rcases d t h with h | h
    · rw [b2, b1, Bool.or_eq_true, Bool.or_eq_true] at h
      rw [cov]
      simp only [inI, decide_eq_true_eq, Bool.or_eq_true] at h ⊢
      rcases h with (h | h) | h
      · exact .inl h
      · exact .inr (.inl (by omega))
      · exact .inr (.inl (by omega))
    · exact .inr (by rw [cov, h, Bool.or_true])
theorem enfP_J : ∀ {bs : List Br} {k a m : Int} {w : List Iv}, brsOk a m bs = true → (∃ E, J w E) → (∃ E, J (enfP bs k w) E) ∧ ∀ t, cov (enfP bs k w) t = true → cov w t = true
  | [], k, a, m, w, _, h => ⟨h, fun t h => h⟩
  | b :: bs, k, a, m, w, hb, h => by
    simp only [brsOk, Bool.and_eq_true] at hb
    rw [enfP]
    split
    · exact enfP_J hb.2 h
    · rename_i hc
      obtain ⟨E, hE⟩ := h
      have hlow : ∃ e, ∀ v ∈ w, e ≤ v.fr := by
        clear hE hc
        induction w with
        | nil => exact ⟨0, by simp⟩
        | cons x l ih =>
          obtain ⟨e, he⟩ := ih
          refine ⟨min e x.fr, fun v hv => ?_⟩
          rcases List.mem_cons.1 hv with rfl | hv
          · omega
          · have := he v hv; omega
      obtain ⟨e, he⟩ := hlow
      obtain ⟨c, d⟩ := cutP_J (a := b.after) (k := min (b.minutes - k) (ivT w - b.after)) (by omega) hE.sep hE.ne he (J_nil (e := e))
      obtain ⟨f, g⟩ := enfP_J (k := k + min (b.minutes - k) (ivT w - b.after)) hb.2 c
      refine ⟨f, fun t h => ?_⟩
      rcases d t (g t h) with h | h
      · simp [cov] at h
      · exact h

theorem workP_sound {r : Rul} {pl : Iv} {ps : List Pre} (hbo : brsOk (-1) 0 r.brs = true) (hp : presOk 0 ps = true) :
    (∃ E, J (workP r pl ps) E) ∧ ∀ x ∈ workP r pl ps, ∀ p ∈ ps, ∀ b ∈ p.br, ¬ (b.fr < x.to ∧ x.fr < b.to) := by
  obtain ⟨a, b⟩ := woP_J (r := []) (e := 0) (brkP_ok hp) (adjP_ok (r := r) (pl := pl) (ps := ps) (last := 0)) (by omega) J_nil
  have hw : (∃ E, J (workP r pl ps) E) ∧ ∀ t, cov (workP r pl ps) t = true → cov (woP (adjP r pl 0 ps) (brkP ps) []) t = true := by
    unfold workP
    simp only
    split
    · exact ⟨⟨0, J_nil⟩, fun t h => by simp [cov] at h⟩
    · exact enfP_J hbo ⟨_, a⟩
  refine ⟨hw.1, fun x hx p hpm q hq hov => ?_⟩
  obtain ⟨E, hE⟩ := hw.1
  have hxn := hE.ne x hx
  have hqb : q ∈ brkP ps := List.mem_flatMap.2 ⟨p, hpm, hq⟩
  have hqn := brOk_mem (brkP_ok hp) q hqb
  have h1 : cov (workP r pl ps) (max x.fr q.fr) = true := cov_mem.2 ⟨x, hx, by omega, by omega⟩
  have h2 := hw.2 _ h1
  rw [b] at h2
  have h3 : cov (brkP ps) (max x.fr q.fr) = true := cov_mem.2 ⟨q, hqb, by omega, by omega⟩
  rw [h3] at h2
  simp [cov] at h2

end Go.Proofs.Ytjacobmkfkmdiaa
