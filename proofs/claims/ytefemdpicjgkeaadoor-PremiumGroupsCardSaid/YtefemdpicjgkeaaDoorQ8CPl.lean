/- Sums of premiums, in plain words. -/
import Derived.Test.YtefemdpicjgkeaaDoorQ8Mrk
set_option linter.unusedSimpArgs false
set_option linter.unusedVariables false
set_option linter.unusedSectionVars false
namespace Go.Proofs.YtefemdpicjgkeaaDoor
open Go Go.Abs
set_option linter.unusedSimpArgs false
set_option linter.unusedVariables false

def sumJ (f : Nat → Int) : Nat → Int
  | 0 => 0
  | n + 1 => sumJ f n + f n
theorem sumJ_add (f g : Nat → Int) : ∀ n, sumJ (fun j => f j + g j) n = sumJ f n + sumJ g n
  | 0 => rfl
  | n + 1 => by rw [sumJ, sumJ, sumJ, sumJ_add f g n]; omega
theorem sumJ_ext {f g : Nat → Int} : ∀ {n : Nat}, (∀ j, j < n → f j = g j) → sumJ f n = sumJ g n
  | 0, _ => rfl
  | n + 1, h => by rw [sumJ, sumJ, sumJ_ext (n := n) (fun j hj => h j (by omega)), h n (by omega)]
theorem sumJ_zero {f : Nat → Int} {n : Nat} (h : ∀ j, j < n → f j = 0) : sumJ f n = 0 := by
  induction n with
  | zero => rfl
  | succ n ih => rw [sumJ, ih (fun j hj => h j (by omega)), h n (by omega)]; rfl
theorem sumJ_one {f : Nat → Int} {n i : Nat} (hi : i < n) (h1 : f i = 1) (h : ∀ j, j < n → j ≠ i → f j = 0) : sumJ f n = 1 := by
  induction n with
  | zero => omega
  | succ n ih =>
    rw [sumJ]
    rcases Nat.lt_or_ge i n with hin | hin
    · rw [ih hin (fun j hj hji => h j (by omega) hji), h n (by omega) (by omega)]; rfl
    · obtain rfl : i = n := by omega
      rw [sumJ_zero (fun j hj => h j (by omega) (by omega)), h1]; rfl
def pmSum (l : List Pm) : Int := (l.map (·.min)).sum
theorem pmSum_append (a b : List Pm) : pmSum (a ++ b) = pmSum a + pmSum b := by simp [pmSum]
theorem pmSum_flat (f : Int → List Pm) : ∀ K : List Int, pmSum (K.flatMap f) = (K.map fun d => pmSum (f d)).sum
  | [] => rfl
  | d :: K => by rw [List.flatMap_cons, pmSum_append, pmSum_flat f K, List.map_cons, List.sum_cons]
theorem dayL_sum {z : Zn} {h : List Hol} {ws : List Win} {ps : List Pc} {d : Int} (hps : ∀ p ∈ ps, pcOk p) : ∀ {n : Nat}, n ≤ ws.length → pmSum (dayL z h ws ps d n) = sumJ (totP z h ws ps d) n
  | 0, _ => rfl
  | n + 1, hn => by
    have ih := dayL_sum (z := z) (h := h) (ws := ws) (d := d) hps (n := n) (by omega)
    have hb := (totP_bd (z := z) (h := h) (ws := ws) (d := d) (j := n) hps).1
    rw [dayL, pmSum_append, ih, sumJ]
    have hm : mn z h ws ps d n = totP z h ws ps d n := by unfold mn; rw [if_pos (by omega)]
    rw [hm]
    by_cases h0 : 0 < totP z h ws ps d n
    · rw [if_pos h0]; simp [pmSum]
    · rw [if_neg h0]; simp only [pmSum, List.map_nil, List.sum_nil]; omega
theorem dayL_pos {z : Zn} {h : List Hol} {ws : List Win} {ps : List Pc} {d : Int} : ∀ {n : Nat} {m : Pm}, m ∈ dayL z h ws ps d n → 1 ≤ m.min
  | 0, m, hm => by simp [dayL] at hm
  | n + 1, m, hm => by
    rw [dayL, List.mem_append] at hm
    rcases hm with hm | hm
    · exact dayL_pos hm
    · split at hm
      · rw [List.mem_singleton] at hm; subst hm; simp only; omega
      · simp at hm
theorem markL_pos {z : Zn} {h : List Hol} {ws : List Win} {ps : List Pc} {m : Pm} (hm : m ∈ markL z h ws ps) : 1 ≤ m.min := by
  unfold markL at hm
  rw [List.mem_flatMap] at hm
  obtain ⟨d, _, hm⟩ := hm
  exact dayL_pos hm
theorem sum_pick (k c : Int) : ∀ {K : List Int}, K.Nodup → (K.map fun d => if k = d then c else 0).sum = if k ∈ K then c else 0
  | [], _ => by simp
  | d :: K, hK => by
    rw [List.nodup_cons] at hK
    rw [List.map_cons, List.sum_cons, sum_pick k c hK.2]
    by_cases hd : k = d
    · subst hd
      rw [if_pos rfl, if_neg hK.1, if_pos List.mem_cons_self]; omega
    · rw [if_neg hd]
      by_cases hm : k ∈ K
      · rw [if_pos hm, if_pos (List.mem_cons_of_mem _ hm)]; omega
      · rw [if_neg hm, if_neg (by simp [hd, hm])]; rfl
theorem sum_map_add (f g : Int → Int) : ∀ K : List Int, (K.map fun d => f d + g d).sum = (K.map f).sum + (K.map g).sum
  | [] => rfl
  | d :: K => by rw [List.map_cons, List.sum_cons, List.map_cons, List.sum_cons, List.map_cons, List.sum_cons, sum_map_add f g K]; omega
theorem tot_swap {z : Zn} {h : List Hol} {ws : List Win} {n : Nat} {K : List Int} (hK : K.Nodup) : ∀ {ps : List Pc}, (∀ p ∈ ps, p.day ∈ K) →
    (K.map fun d => sumJ (totP z h ws ps d) n).sum = (ps.map fun p => sumJ (fun j => cntP z h ws p.fr j (pcN p)) n).sum
  | [], _ => by
    have : ∀ d, sumJ (totP z h ws [] d) n = 0 := fun d => sumJ_zero fun j _ => rfl
    simp only [this]
    induction K with
    | nil => rfl
    | cons d K ih =>
      rw [List.nodup_cons] at hK
      rw [List.map_cons, List.sum_cons, ih hK.2 (fun p hp => by simp at hp)]; rfl
  | p :: ps, hp => by
    have ih := tot_swap (z := z) (h := h) (ws := ws) (n := n) hK (ps := ps) fun q hq => hp q (List.mem_cons_of_mem _ hq)
    have hs : ∀ d, sumJ (totP z h ws (p :: ps) d) n = (if p.day = d then sumJ (fun j => cntP z h ws p.fr j (pcN p)) n else 0) + sumJ (totP z h ws ps d) n := by
      intro d
      have : ∀ j, totP z h ws (p :: ps) d j = (if p.day = d then cntP z h ws p.fr j (pcN p) else 0) + totP z h ws ps d j := fun j => by
        unfold totP; rw [List.map_cons, List.sum_cons]
      rw [sumJ_ext (fun j _ => this j), sumJ_add]
      split
      · rfl
      · rw [sumJ_zero (fun _ _ => rfl)]
    rw [List.map_cons, List.sum_cons, ← ih]
    simp only [hs]
    rw [sum_map_add, sum_pick _ _ hK, if_pos (hp p List.mem_cons_self)]
/-- how many windows count at an instant -/
def wonK (z : Zn) (h : List Hol) (ws : List Win) (t : Int) : Int := sumJ (fun j => if wonT z h ws t j then 1 else 0) ws.length
/-- the sum of k instants -/
def spn (f : Int → Int) (fr : Int) : Nat → Int
  | 0 => 0
  | k + 1 => spn f fr k + f (fr + k)
theorem cnt_swap (z : Zn) (h : List Hol) (ws : List Win) (fr : Int) : ∀ k : Nat, sumJ (fun j => cntP z h ws fr j k) ws.length = spn (wonK z h ws) fr k
  | 0 => sumJ_zero fun _ _ => rfl
  | k + 1 => by
    have : ∀ j, cntP z h ws fr j (k + 1) = cntP z h ws fr j k + if wonT z h ws (fr + k) j then 1 else 0 := fun j => by rw [cntP]
    rw [sumJ_ext (fun j _ => this j), sumJ_add, cnt_swap z h ws fr k, spn]; rfl
theorem spn_ext {f g : Int → Int} {fr : Int} : ∀ {k : Nat}, (∀ i : Nat, i < k → f (fr + i) = g (fr + i)) → spn f fr k = spn g fr k
  | 0, _ => rfl
  | k + 1, h => by rw [spn, spn, spn_ext (k := k) (fun i hi => h i (by omega)), h k (by omega)]
theorem spn_bd {f : Int → Int} {fr B : Int} : ∀ {k : Nat}, (∀ i : Nat, i < k → 0 ≤ f (fr + i) ∧ f (fr + i) ≤ B) → 0 ≤ spn f fr k ∧ spn f fr k ≤ B * k
  | 0, _ => by simp [spn]
  | k + 1, h => by
    have h1 := spn_bd (k := k) (fun i hi => h i (by omega))
    have h2 := h k (by omega)
    have h3 : B * ((k + 1 : Nat) : Int) = B * k + B := by rw [Int.natCast_add, Int.mul_add]; simp
    rw [spn]; omega
/-- the sum of the premiums is the sum of the instants at which windows count -/
theorem markL_sum {z : Zn} {h : List Hol} {ws : List Win} {ps : List Pc} (hps : ∀ p ∈ ps, pcOk p) : pmSum (markL z h ws ps) = (ps.map fun p => spn (wonK z h ws) p.fr (pcN p)).sum := by
  unfold markL
  rw [pmSum_flat]
  have h1 : ∀ d, pmSum (dayL z h ws ps d ws.length) = sumJ (totP z h ws ps d) ws.length := fun d => dayL_sum hps (Nat.le_refl _)
  simp only [h1]
  have hnd : (srt (daysK ps)).Nodup := by
    unfold srt
    exact (List.mergeSort_perm _ _).nodup_iff.2 (daysK_nodup ps)
  rw [tot_swap hnd (fun p hp => (srt_mem _ _).2 (daysK_mem.2 ⟨p, hp, rfl⟩))]
  simp only [cnt_swap]

/-- one group: one window counts if any covers -/
def someC (z : Zn) (h : List Hol) (ws : List Win) (t : Int) (n : Nat) : Bool := (List.range n).any fun j => covT z h (gw ws j) t
theorem someC_succ (z : Zn) (h : List Hol) (ws : List Win) (t : Int) (n : Nat) : someC z h ws t (n + 1) = (someC z h ws t n || covT z h (gw ws n) t) := by
  unfold someC
  rw [List.range_succ, List.any_append]; simp
theorem best_of (r : Nat → Int) (c : Nat → Bool) : ∀ n : Nat, (∀ k, k < n → c k = false) ∨ ∃ i, i < n ∧ c i = true ∧ ∀ k, k < n → c k = true → ¬ (r i < r k ∨ r k = r i ∧ k < i)
  | 0 => .inl fun k hk => by omega
  | n + 1 => by
    by_cases hc : c n = true
    · refine .inr ?_
      rcases best_of r c n with h | ⟨i, hi, hci, h⟩
      · refine ⟨n, by omega, hc, fun k hk hck => ?_⟩
        rcases Nat.lt_or_ge k n with hkn | hkn
        · rw [h k hkn] at hck; cases hck
        · obtain rfl : k = n := by omega
          omega
      · by_cases hr : r i < r n
        · refine ⟨n, by omega, hc, fun k hk hck => ?_⟩
          rcases Nat.lt_or_ge k n with hkn | hkn
          · have := h k hkn hck; omega
          · obtain rfl : k = n := by omega
            omega
        · refine ⟨i, by omega, hci, fun k hk hck => ?_⟩
          rcases Nat.lt_or_ge k n with hkn | hkn
          · exact h k hkn hck
          · obtain rfl : k = n := by omega
            omega
    · rcases best_of r c n with h | ⟨i, hi, hci, h⟩
      · refine .inl fun k hk => ?_
        rcases Nat.lt_or_ge k n with hkn | hkn
        · exact h k hkn
        · obtain rfl : k = n := by omega
          simpa using hc
      · refine .inr ⟨i, by omega, hci, fun k hk hck => ?_⟩
        rcases Nat.lt_or_ge k n with hkn | hkn
        · exact h k hkn hck
        · obtain rfl : k = n := by omega
          exact absurd hck hc
theorem wonK_one {z : Zn} {h : List Hol} {ws : List Win} {g : ByteArray} (hg : ∀ w ∈ ws, w.group = g) (hne : noG ⟨g, g, 0, 0, 0, 0, 0⟩ = false) (t : Int) : wonK z h ws t = if someC z h ws t ws.length then 1 else 0 := by
  have hgg : ∀ j, j < ws.length → (gw ws j).group = g := fun j hj => by rw [gw_get hj]; exact hg _ (List.getElem_mem hj)
  have hW : ∀ j, j < ws.length → (wonT z h ws t j = true ↔ covT z h (gw ws j) t = true ∧ ∀ k, k < ws.length → covT z h (gw ws k) t = true → ¬ ((gw ws j).rank < (gw ws k).rank ∨ (gw ws k).rank = (gw ws j).rank ∧ k < j)) := fun j hj => by
    have hn : noG (gw ws j) = false := by unfold noG at *; rw [hgg j hj]; exact hne
    unfold wonT wonN covN
    rw [numOf_bit]
    unfold wonB
    rw [numOf_bit, hn]
    simp only [hj, decide_true, Bool.true_and, Bool.false_or, Bool.and_eq_true, List.all_eq_true, List.mem_range]
    constructor
    · rintro ⟨h1, h2⟩
      refine ⟨h1, fun k hk hck hb => ?_⟩
      have := h2 k hk
      rw [numOf_bit] at this
      unfold beats at this
      rw [hgg j hj, hgg k hk, sEq_refl] at this
      simp only [hk, hck, decide_true, Bool.true_and] at this
      rcases hb with hb | ⟨hb, hb2⟩
      · simp [hb] at this
      · simp [hb, hb2] at this
    · rintro ⟨h1, h2⟩
      refine ⟨h1, fun k hk => ?_⟩
      rw [numOf_bit]
      unfold beats
      rw [hgg j hj, hgg k hk, sEq_refl]
      cases hck : covT z h (gw ws k) t
      · simp
      · have := h2 k hk hck
        simp only [hk, decide_true, Bool.true_and, Bool.not_eq_true', Bool.or_eq_false_iff, Bool.and_eq_false_iff, decide_eq_false_iff_not]
        omega
  unfold wonK
  rcases best_of (fun j => (gw ws j).rank) (fun j => covT z h (gw ws j) t) ws.length with hb | ⟨i, hi, hci, hb⟩
  · have h1 : someC z h ws t ws.length = false := by
      unfold someC
      rw [List.any_eq_false]
      intro j hj
      rw [List.mem_range] at hj
      simp [hb j hj]
    rw [h1]
    refine sumJ_zero fun j hj => ?_
    rw [if_neg]
    intro hw
    have := ((hW j hj).1 hw).1
    rw [hb j hj] at this; cases this
  · have h1 : someC z h ws t ws.length = true := by
      unfold someC
      rw [List.any_eq_true]
      exact ⟨i, List.mem_range.2 hi, hci⟩
    rw [h1]
    refine sumJ_one hi (by rw [if_pos ((hW i hi).2 ⟨hci, hb⟩)]) fun j hj hji => ?_
    rw [if_neg]
    intro hw
    obtain ⟨k1, k2⟩ := (hW j hj).1 hw
    have a1 := k2 i hi hci
    have a2 := hb j hj k1
    omega

end Go.Proofs.YtefemdpicjgkeaaDoor
