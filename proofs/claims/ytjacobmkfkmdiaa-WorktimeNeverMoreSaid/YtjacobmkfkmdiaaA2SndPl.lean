/- What Pair answers: presences are valid, and their ends are stamps. -/
import Derived.Test.YtjacobmkfkmdiaaA2Snd
set_option linter.unusedSimpArgs false
set_option linter.unusedVariables false
set_option linter.unusedSectionVars false
namespace Go.Proofs.Ytjacobmkfkmdiaa
open Go Go.Abs

def endB : Int → List Iv → Int
  | e, [] => e
  | _, b :: r => endB b.to r
theorem endB_snoc : ∀ {l : List Iv} {e : Int} {b : Iv}, endB e (l ++ [b]) = b.to
  | [], _, _ => rfl
  | x :: r, _, b => by rw [List.cons_append, endB, endB_snoc]
theorem brOk_up : ∀ {l : List Iv} {e t t' : Int}, brOk e t l = true → t ≤ t' → brOk e t' l = true
  | [], _, _, _, _, _ => rfl
  | b :: r, e, t, t', h, ht => by
    simp only [brOk, ivIn, Bool.and_eq_true, decide_eq_true_eq] at h ⊢
    exact ⟨by omega, brOk_up h.2 ht⟩
theorem brOk_snoc : ∀ {l : List Iv} {e t : Int} {b : Iv}, brOk e t l = true → endB e l ≤ b.fr → b.fr < b.to → b.to ≤ t → brOk e t (l ++ [b]) = true
  | [], e, t, b, _, h1, h2, h3 => by
    simp only [endB] at h1
    simp only [List.nil_append, brOk, ivIn, Bool.and_true, decide_eq_true_eq]; omega
  | x :: r, e, t, b, h, h1, h2, h3 => by
    simp only [brOk, Bool.and_eq_true] at h
    simp only [List.cons_append, brOk, Bool.and_eq_true]
    exact ⟨h.1, brOk_snoc h.2 h1 h2 h3⟩
def endP : Int → List Pre → Int
  | e, [] => e
  | _, p :: r => endP p.to r
theorem endP_snoc : ∀ {l : List Pre} {e : Int} {p : Pre}, endP e (l ++ [p]) = p.to
  | [], _, _ => rfl
  | x :: r, _, p => by rw [List.cons_append, endP, endP_snoc]
theorem presOk_snoc : ∀ {l : List Pre} {e : Int} {p : Pre}, presOk e l = true → preOk (endP e l) p = true → presOk e (l ++ [p]) = true
  | [], e, p, _, h => by simp only [List.nil_append, presOk, Bool.and_true]; exact h
  | x :: r, e, p, h, h1 => by
    simp only [presOk, Bool.and_eq_true] at h
    simp only [List.cons_append, presOk, Bool.and_eq_true]
    exact ⟨h.1, presOk_snoc h.2 h1⟩

/-- a presence out of stamps -/
structure Good (L : List Stamp) (n : Int) (p : Pre) : Prop where
  len : p.to - p.fr ≤ n
  fr : hasS L p.fr 1 = true
  to : hasS L p.to 2 = true
  br : ∀ b ∈ p.br, hasS L b.fr 3 = true ∧ (hasS L b.to 4 = true ∨ b.to = p.to)
structure SInv (L : List Stamp) (n : Int) (k : Nat) (t : Int) (p : PS) : Prop where
  lon : p.longest = n
  st : p.state = 0 ∨ p.state = 1 ∨ p.state = 2
  t0 : 0 ≤ t
  ok : presOk 0 p.pres = true
  good : ∀ q ∈ p.pres, Good L n q
  fin : endP 0 p.pres ≤ t
  cnt : p.pres.length + p.ans.length + (if p.state = 0 then 0 else 1) ≤ k
  pres : p.state ≠ 0 → endP 0 p.pres ≤ p.begin ∧ p.begin ≤ t ∧ 0 ≤ p.begin ∧ hasS L p.begin 1 = true ∧ brOk p.begin t p.breaks = true ∧ p.breaks.length ≤ k ∧ p.begin ≤ endB p.begin p.breaks ∧ endB p.begin p.breaks ≤ t ∧ ∀ b ∈ p.breaks, hasS L b.fr 3 = true ∧ hasS L b.to 4 = true
  paus : p.state = 2 → endB p.begin p.breaks ≤ p.pause ∧ p.pause ≤ t ∧ hasS L p.pause 3 = true

theorem leave_inv {L : List Stamp} {n : Int} {k : Nat} {t : Int} {p : PS} (hk : k + 1 ≤ 1024) (hlon : p.longest = n) (hok : presOk 0 p.pres = true) (hgood : ∀ q ∈ p.pres, Good L n q) (hcnt : p.pres.length + p.ans.length ≤ k)
    (hfin : endP 0 p.pres ≤ p.begin) (ht : p.begin ≤ t) (ht2 : t ≤ 120968639) (h0 : 0 ≤ p.begin) (hbeg : hasS L p.begin 1 = true) (hto : hasS L t 2 = true) (hbr : brOk p.begin t p.breaks = true) (hbl : p.breaks.length ≤ 1024)
    (hbg : ∀ b ∈ p.breaks, hasS L b.fr 3 = true ∧ (hasS L b.to 4 = true ∨ b.to = t)) : SInv L n (k + 1) t (p.leave t) := by
  unfold PS.leave PS.out
  split
  · exact ⟨hlon, .inl rfl, by omega, hok, hgood, by show endP 0 p.pres ≤ t; omega, by simp [PS.report]; omega, fun h => (h rfl).elim, fun h => by simp at h⟩
  · split
    · refine ⟨hlon, .inl rfl, by omega, ?_, ?_, ?_, by simp; omega, fun h => (h rfl).elim, fun h => by simp at h⟩
      · refine presOk_snoc hok ?_
        simp only [preOk, ivIn, Bool.and_eq_true, decide_eq_true_eq]
        exact ⟨⟨by omega, hbl⟩, hbr⟩
      · intro q hq
        simp only [List.mem_append, List.mem_singleton] at hq
        rcases hq with hq | rfl
        · exact hgood q hq
        · exact ⟨by simp only; omega, hbeg, hto, hbg⟩
      · show endP 0 (p.pres ++ [_]) ≤ t
        rw [endP_snoc]; exact Int.le_refl _
    · exact ⟨hlon, .inl rfl, by omega, hok, hgood, by show endP 0 p.pres ≤ t; omega, by simp; omega, fun h => (h rfl).elim, fun h => by simp at h⟩

theorem hasS_mem {L : List Stamp} {s : Stamp} (h : s ∈ L) : hasS L s.time s.kind = true := by
  simp only [hasS, List.any_eq_true, Bool.and_eq_true, decide_eq_true_eq]
  exact ⟨s, h, rfl, rfl⟩

theorem read_inv {L : List Stamp} {n : Int} {k : Nat} {t : Int} {p : PS} (h : SInv L n k t p) (hk : k + 1 ≤ 1024) {s : Stamp} (hs : s ∈ L) (ht : t ≤ s.time) (ht2 : s.time ≤ 120968639) (hkd : 1 ≤ s.kind ∧ s.kind ≤ 4) : SInv L n (k + 1) s.time (p.read s) := by
  have hm := hasS_mem hs
  obtain ⟨longest, state, begin, pause, breaks, pres, ans⟩ := p
  obtain ⟨hlon, hst, ht0, hok, hgood, hfin, hcnt, hpres, hpaus⟩ := h
  simp only at hlon hst hok hgood hfin hcnt hpres hpaus
  unfold PS.read
  rcases hst with rfl | rfl | rfl
  · simp only [if_true] at hcnt
    simp only [if_true]
    split
    · rename_i hk1
      rw [hk1] at hm
      exact ⟨hlon, .inr (.inl rfl), by omega, hok, hgood, by show endP 0 pres ≤ s.time; omega, by simp [PS.enter]; omega,
        fun _ => ⟨by show endP 0 pres ≤ s.time; omega, Int.le_refl _, by show 0 ≤ s.time; omega, hm, rfl, by simp [PS.enter], by simp [PS.enter, endB], by simp [PS.enter, endB], by simp [PS.enter]⟩, fun h => by simp [PS.enter] at h⟩
    · exact ⟨hlon, .inl rfl, by omega, hok, hgood, by show endP 0 pres ≤ s.time; omega, by simp [PS.report]; omega, fun h => (h rfl).elim, fun h => by simp [PS.report] at h⟩
  · obtain ⟨a1, a2, a3, a4, a5, a6, a7, a8, a9⟩ := hpres (by decide)
    have hc : pres.length + ans.length + 1 ≤ k := by simpa using hcnt
    simp only [show ¬ ((1 : Int) = 0) by decide, if_false, if_true]
    split
    · rename_i hk1
      rw [hk1] at hm
      exact ⟨hlon, .inr (.inl rfl), by omega, hok, hgood, by show endP 0 pres ≤ s.time; omega, by simp [PS.enter, PS.report]; omega,
        fun _ => ⟨by show endP 0 pres ≤ s.time; omega, Int.le_refl _, by show 0 ≤ s.time; omega, hm, rfl, by simp [PS.enter], by simp [PS.enter, endB], by simp [PS.enter, endB], by simp [PS.enter]⟩, fun h => by simp [PS.enter, PS.report] at h⟩
    · split
      · rename_i hk2
        rw [hk2] at hm
        exact leave_inv hk hlon hok hgood (by simp only; omega) a1 (by simp only; omega) ht2 a3 a4 hm (brOk_up a5 ht) (by simp only; omega) (fun b hb => ⟨(a9 b hb).1, .inl (a9 b hb).2⟩)
      · split
        · rename_i hk3
          rw [hk3] at hm
          exact ⟨hlon, .inr (.inr rfl), by omega, hok, hgood, by show endP 0 pres ≤ s.time; omega, by simp; omega,
            fun _ => ⟨a1, by simp only; omega, a3, a4, brOk_up a5 ht, by simp only; omega, a7, by simp only; omega, a9⟩, fun _ => ⟨by simp only; omega, Int.le_refl _, hm⟩⟩
        · exact ⟨hlon, .inr (.inl rfl), by omega, hok, hgood, by show endP 0 pres ≤ s.time; omega, by simp [PS.report]; omega,
            fun _ => ⟨a1, by simp only [PS.report]; omega, a3, a4, brOk_up a5 ht, by simp only [PS.report]; omega, a7, by simp only [PS.report]; omega, a9⟩, fun h => by simp [PS.report] at h⟩
  · obtain ⟨a1, a2, a3, a4, a5, a6, a7, a8, a9⟩ := hpres (by decide)
    obtain ⟨b1, b2, b3⟩ := hpaus rfl
    have hc : pres.length + ans.length + 1 ≤ k := by simpa using hcnt
    simp only [show ¬ ((2 : Int) = 0) by decide, show ¬ ((2 : Int) = 1) by decide, if_false]
    split
    · rename_i hk1
      rw [hk1] at hm
      exact ⟨hlon, .inr (.inl rfl), by omega, hok, hgood, by show endP 0 pres ≤ s.time; omega, by simp [PS.enter, PS.report]; omega,
        fun _ => ⟨by show endP 0 pres ≤ s.time; omega, Int.le_refl _, by show 0 ≤ s.time; omega, hm, rfl, by simp [PS.enter], by simp [PS.enter, endB], by simp [PS.enter, endB], by simp [PS.enter]⟩, fun h => by simp [PS.enter, PS.report] at h⟩
    · split
      · rename_i hk2
        rw [hk2] at hm
        unfold PS.resume PS.report
        simp only
        split
        · refine leave_inv hk hlon hok hgood (by simp only [List.length_append, List.length_cons, List.length_nil]; omega) a1 (by simp only; omega) ht2 a3 a4 hm (brOk_snoc (brOk_up a5 ht) (by simp only; omega) (by simp only; omega) (by simp only; omega)) (by simp only [List.length_append, List.length_cons, List.length_nil]; omega) (fun b hb => ?_)
          simp only [List.mem_append, List.mem_singleton] at hb
          rcases hb with hb | rfl
          · exact ⟨(a9 b hb).1, .inl (a9 b hb).2⟩
          · exact ⟨b3, .inr rfl⟩
        · exact leave_inv hk hlon hok hgood (by simp only [List.length_append, List.length_cons, List.length_nil]; omega) a1 (by simp only; omega) ht2 a3 a4 hm (brOk_up a5 ht) (by simp only; omega) (fun b hb => ⟨(a9 b hb).1, .inl (a9 b hb).2⟩)
      · split
        · rename_i hk3
          rw [hk3] at hm
          exact ⟨hlon, .inr (.inr rfl), by omega, hok, hgood, by show endP 0 pres ≤ s.time; omega, by simp [PS.report]; omega,
            fun _ => ⟨a1, by simp only [PS.report]; omega, a3, a4, brOk_up a5 ht, by simp only [PS.report]; omega, a7, by simp only [PS.report]; omega, a9⟩, fun _ => ⟨by simp only [PS.report]; omega, Int.le_refl _, hm⟩⟩
        · have hk4 : s.kind = 4 := by omega
          rw [hk4] at hm
          unfold PS.resume
          simp only
          split
          · refine ⟨hlon, .inr (.inl rfl), by omega, hok, hgood, by show endP 0 pres ≤ s.time; omega, by simp; omega,
              fun _ => ⟨a1, by simp only; omega, a3, a4, brOk_snoc (brOk_up a5 ht) (by simp only; omega) (by simp only; omega) (by simp only; omega), by simp only [List.length_append, List.length_cons, List.length_nil]; omega, by simp only [endB_snoc]; omega, by simp only [endB_snoc]; omega, fun b hb => ?_⟩, fun h => by simp at h⟩
            simp only [List.mem_append, List.mem_singleton] at hb
            rcases hb with hb | rfl
            · exact a9 b hb
            · exact ⟨b3, hm⟩
          · exact ⟨hlon, .inr (.inl rfl), by omega, hok, hgood, by show endP 0 pres ≤ s.time; omega, by simp; omega,
              fun _ => ⟨a1, by simp only; omega, a3, a4, brOk_up a5 ht, by simp only; omega, a7, by simp only; omega, a9⟩, fun h => by simp at h⟩

theorem run_inv {L : List Stamp} {n : Int} : ∀ {l : List Stamp} {k : Nat} {t : Int} {p : PS}, SInv L n k t p → (∀ s ∈ l, s ∈ L) → sOk t l = true → k + l.length ≤ 1024 → SInv L n (k + l.length) (lastT t l) (l.foldl PS.read p)
  | [], _, _, _, h, _, _, _ => h
  | s :: r, k, t, p, h, hL, hs, hk => by
    simp only [sOk, Bool.and_eq_true, decide_eq_true_eq] at hs
    simp only [List.length_cons] at hk ⊢
    have := run_inv (l := r) (read_inv h (by omega) (hL s (by simp)) (by omega) (by omega) ⟨by omega, by omega⟩) (fun x hx => hL x (by simp [hx])) hs.2 (by omega)
    rw [show k + (r.length + 1) = k + 1 + r.length from by omega]
    exact this

theorem sound_pl {L : List Stamp} {n : Int} (hL : sOk 0 L = true) (hlen : L.length ≤ 1024) (hn : 1 ≤ n) (hn' : n ≤ 10080) :
    pcheck L n = 0 ∧ pvalid (pairP L n) = 0 ∧ (∀ p ∈ pairP L n, Good L n p) ∧ (pairP L n).length + (pairA L n).length ≤ L.length := by
  have hc : pcheck L n = 0 := by rw [pcheck, if_neg (by omega), if_neg (by omega), if_pos hL]
  have h := run_inv (L := L) (n := n) (l := L) (k := 0) (t := 0) (p := pstart n) ⟨rfl, .inl rfl, by omega, rfl, by simp [pstart], by simp [pstart, endP], by simp [pstart], fun h => (h rfl).elim, fun h => by simp [pstart] at h⟩ (fun _ h => h) hL (by omega)
  have e1 : (prun L n).fin.pres = (prun L n).pres := by unfold PS.fin; split <;> rfl
  have hcnt := h.cnt
  have e0 : L.foldl PS.read (pstart n) = prun L n := rfl
  rw [e0] at h hcnt
  have e2 : (prun L n).pres.length + (prun L n).fin.ans.length ≤ L.length := by
    unfold PS.fin
    split
    · rename_i hz; rw [if_pos hz] at hcnt; omega
    · rename_i hz; rw [if_neg hz] at hcnt; simp [PS.report]; omega
  refine ⟨hc, ?_, ?_, ?_⟩
  · rw [pairP, if_pos hc, e1, pvalid, if_neg (by omega), if_pos h.ok]
  · rw [pairP, if_pos hc, e1]; exact h.good
  · rw [pairP, if_pos hc, pairA, if_pos hc, e1]; exact e2

end Go.Proofs.Ytjacobmkfkmdiaa
