/- The reference: the weights of days. -/
import Derived.Test.YtlanehcihoiglaaGreatDoorE7Wts
import Derived.Test.YtlanehcihoiglaaGreatDoorE7Sane
import Derived.Test.YtlanehcihoiglaaGreatDoorE3Ref7
set_option linter.unusedSimpArgs false
set_option linter.unusedVariables false
set_option linter.unusedSectionVars false
namespace Go.Proofs.YtlanehcihoiglaaGreatDoor
open Go Go.Abs
set_option linter.unusedSimpArgs false
set_option linter.unusedVariables false

/-- the numbers f 0, f 1 .. -/
def cnts (f : Nat → Int) (n : Nat) : List Int := (List.range n).map f
theorem cnts_length (f : Nat → Int) (n : Nat) : (cnts f n).length = n := by simp [cnts]
theorem cnts_get {f : Nat → Int} {n i : Nat} (h : i < n) : (numsE .i64 (cnts f n)).getD i [] = [.int .i64 (f i)] := by
  rw [numsE_getD (by simpa [cnts] using h), List.getD_eq_getElem?_getD]; simp [cnts, h]
theorem cnts_set {f : Nat → Int} {n i : Nat} {v : Int} : (numsE .i64 (cnts f n)).set i [.int .i64 v] = numsE .i64 (cnts (fun j => if j = i then v else f j) n) := by
  apply List.ext_getElem?
  intro k
  rw [List.getElem?_set]
  by_cases hk : i = k
  · subst hk
    simp only [cnts, numsE, if_true]
    by_cases h : i < n <;> simp [h]
  · rw [if_neg hk]
    by_cases h : k < n <;> simp [cnts, numsE, h, Ne.symm hk]
theorem cnts_ext {f g : Nat → Int} {n : Nat} (h : ∀ j, j < n → f j = g j) : cnts f n = cnts g n := by
  unfold cnts
  exact List.map_congr_left fun j hj => h j (List.mem_range.1 hj)
theorem cnts_rep (n : Nat) : List.replicate n [AVal.int .i64 0] = numsE .i64 (cnts (fun _ => 0) n) := by
  apply List.ext_getElem?
  intro k
  by_cases h : k < n <;> simp [cnts, numsE, h]

/-- sums over days -/
def dsum (f : Int → Int) (a : Int) : Nat → Int
  | 0 => 0
  | n + 1 => dsum f a n + f (a + n)
def dS (f : Int → Int) (a b : Int) : Int := dsum f a (b - a).toNat
theorem dS_zero {f : Int → Int} {a b : Int} (h : b ≤ a) : dS f a b = 0 := by unfold dS; rw [show (b - a).toNat = 0 by omega]; rfl
theorem dS_succ {f : Int → Int} {a b : Int} (h : a ≤ b) : dS f a (b + 1) = dS f a b + f b := by
  unfold dS
  rw [show (b + 1 - a).toNat = (b - a).toNat + 1 by omega, dsum, show a + ((b - a).toNat : Int) = b by omega]
/-- the weight of a day -/
def dW (m : Int) (hs : List Hol) (d : Int) : Int := if m = 0 then 1 else if m = 1 then (if isWk (allH hs) d then 1 else 0) else if (dateM d).2 + 1 = lengthP (monthP d) then 31 - lengthP (monthP d) else 1
/-- where the parts begin -/
def bnd (f to : Int) (cs : List Int) (j : Nat) : Int := (f :: (cs ++ [to + 1])).getD j 0
theorem bnd_zero {f to : Int} {cs : List Int} : bnd f to cs 0 = f := rfl
theorem bnd_cut {f to : Int} {cs : List Int} {j : Nat} (h : j < cs.length) : bnd f to cs (j + 1) = cs[j] := by
  unfold bnd
  rw [List.getD_cons_succ, List.getD_eq_getElem?_getD, List.getElem?_append_left h, List.getElem?_eq_getElem h]; rfl
theorem bnd_last {f to : Int} {cs : List Int} : bnd f to cs (cs.length + 1) = to + 1 := by
  unfold bnd
  rw [List.getD_cons_succ, List.getD_eq_getElem?_getD, List.getElem?_append_right (by omega)]; simp
theorem parts_bnd {to : Int} : ∀ {cs : List Int} {f : Int} {L : List Rg}, f ≤ to → partsO to f cs = some L → L = (List.range (cs.length + 1)).map (fun j => ⟨bnd f to cs j, bnd f to cs (j + 1) - 1⟩) ∧ ∀ j, j ≤ cs.length → bnd f to cs j < bnd f to cs (j + 1)
  | [], f, L, h, e => by
    simp only [partsO, Option.some.injEq] at e
    subst e
    refine ⟨by simp [bnd], fun j hj => ?_⟩
    obtain rfl : j = 0 := by simpa using hj
    simp [bnd]; omega
  | c :: cs, f, L, h, e => by
    rw [partsO] at e
    split at e
    · cases e
    rename_i hc
    rw [Option.map_eq_some_iff] at e
    obtain ⟨L', h1, rfl⟩ := e
    obtain ⟨i1, i2⟩ := parts_bnd (cs := cs) (f := c) (by omega) h1
    refine ⟨?_, fun j hj => ?_⟩
    · rw [i1, List.length_cons, List.range_succ_eq_map (n := cs.length + 1), List.map_cons, List.map_map]
      rfl
    · cases j with
      | zero => show f < bnd c to cs 0; rw [bnd_zero]; omega
      | succ j => exact i2 j (by simpa using hj)
theorem bnd_mono {f to : Int} {cs : List Int} (h : ∀ j, j ≤ cs.length → bnd f to cs j < bnd f to cs (j + 1)) {i : Nat} : ∀ {j : Nat}, i < j → j ≤ cs.length + 1 → bnd f to cs i < bnd f to cs j
  | j + 1, hij, hj => by
    have h1 := h j (by omega)
    rcases Nat.lt_or_ge i j with h2 | h2
    · have := bnd_mono h h2 (by omega); omega
    · rw [show i = j by omega]; exact h1
/-- what the days before d give -/
def pw (F : Int → Int) (f to : Int) (cs : List Int) (d : Int) (j : Nat) : Int := dS F (bnd f to cs j) (min d (bnd f to cs (j + 1)))
theorem pw_zero {F : Int → Int} {f to : Int} {cs : List Int} (h : ∀ j, j ≤ cs.length → bnd f to cs j < bnd f to cs (j + 1)) {j : Nat} (hj : j ≤ cs.length) : pw F f to cs f j = 0 := by
  unfold pw
  refine dS_zero ?_
  rcases Nat.eq_zero_or_pos j with rfl | h0
  · rw [bnd_zero]; omega
  · have := bnd_mono h h0 (by omega)
    rw [bnd_zero] at this
    omega
theorem pw_succ {F : Int → Int} {f to : Int} {cs : List Int} (h : ∀ j, j ≤ cs.length → bnd f to cs j < bnd f to cs (j + 1)) {p j : Nat} {d : Int} (hp : p ≤ cs.length) (hj : j ≤ cs.length) (h1 : bnd f to cs p ≤ d) (h2 : d < bnd f to cs (p + 1)) :
    pw F f to cs (d + 1) j = if j = p then pw F f to cs d p + F d else pw F f to cs d j := by
  by_cases hjp : j = p
  · subst hjp
    rw [if_pos rfl]
    unfold pw
    rw [show min (d + 1) (bnd f to cs (j + 1)) = d + 1 by omega, show min d (bnd f to cs (j + 1)) = d by omega, dS_succ h1]
  rw [if_neg hjp]
  unfold pw
  rcases Nat.lt_or_ge j p with hl | hl
  · have : bnd f to cs (j + 1) ≤ bnd f to cs p := by
      rcases Nat.lt_or_ge (j + 1) p with h3 | h3
      · have := bnd_mono h h3 (by omega); omega
      · rw [show j + 1 = p by omega]; exact Int.le_refl _
    rw [show min (d + 1) (bnd f to cs (j + 1)) = min d (bnd f to cs (j + 1)) by omega]
  · have : bnd f to cs (p + 1) ≤ bnd f to cs j := by
      rcases Nat.lt_or_ge (p + 1) j with h3 | h3
      · have := bnd_mono h h3 (by omega); omega
      · rw [show p + 1 = j by omega]; exact Int.le_refl _
    rw [dS_zero (by omega), dS_zero (by omega)]
theorem pw_last {F : Int → Int} {f to : Int} {cs : List Int} (h : ∀ j, j ≤ cs.length → bnd f to cs j < bnd f to cs (j + 1)) {j : Nat} (hj : j ≤ cs.length) : pw F f to cs (to + 1) j = dS F (bnd f to cs j) (bnd f to cs (j + 1)) := by
  unfold pw
  have : bnd f to cs (j + 1) ≤ to + 1 := by
    rcases Nat.lt_or_ge j cs.length with h1 | h1
    · have := bnd_mono h (i := j + 1) (j := cs.length + 1) (by omega) (by omega); rw [bnd_last] at this; omega
    · rw [show j = cs.length by omega, bnd_last]; omega
  rw [show min (to + 1) (bnd f to cs (j + 1)) = bnd f to cs (j + 1) by omega]

/-- the weight of a part, day by day -/
theorem dsum_one (a : Int) (hs : List Hol) : ∀ n : Nat, dsum (dW 0 hs) a n = n
  | 0 => rfl
  | n + 1 => by rw [dsum, dsum_one a hs n, dW, if_pos rfl]; omega
theorem dsum_wk (a : Int) (hs : List Hol) : ∀ n : Nat, dsum (dW 1 hs) a n = wkC (allH hs) a n
  | 0 => rfl
  | n + 1 => by rw [dsum, dsum_wk a hs n, dW, if_neg (by omega), if_pos rfl, wkC]
theorem dsum_thirty {F : Int → Int} {a st q : Int} : ∀ n : Nat, a + n ≤ st + 1 → (∀ x, a ≤ x → x < a + n → F x = if x = st then q + 1 else 1) → dsum F a n = n + if 0 < n ∧ a + n = st + 1 then q else 0
  | 0, _, _ => by simp [dsum]
  | n + 1, hn, h => by
    rw [dsum, dsum_thirty n (by omega) (fun x h1 h2 => h x h1 (by omega)), h (a + n) (by omega) (by omega), if_neg (by omega)]
    by_cases he : a + n = st
    · rw [if_pos he, if_pos (by omega)]; omega
    · rw [if_neg he, if_neg (by omega)]; omega
theorem wt_day {k a n m : Int} {hs : List Hol} {x y : Int} (hc : calE k a = 0) (hn : 0 ≤ n ∧ n < cntP k a) (hm : m = 0 ∨ m = 1 ∨ (m = 2 ∧ k = 0)) (hv : validP hs = 0) (h1 : (spP k a n).1 ≤ x) (h2 : x ≤ y) (h3 : y ≤ (spP k a n).2) :
    dS (dW m hs) x (y + 1) = wtP m hs (spP k a n) ⟨x, y⟩ := by
  obtain ⟨b0, b1, b2, b3⟩ := sp_bd hc hn
  unfold dS
  rcases hm with rfl | rfl | ⟨rfl, rfl⟩
  · rw [dsum_one, wtP, if_neg (by omega), if_neg (by omega)]
    simp only
    omega
  · rw [dsum_wk, wtP, if_pos rfl]
    have ha : okD x := ⟨by omega, by omega⟩
    have hb : okD y := ⟨by omega, by omega⟩
    simp only
    rw [workP_ok hv ha hb h2, wkN_eq (validP_zero hv).2 ha hb h2]
  · have hk := cnt_kind hc
    rw [if_pos rfl] at hk
    have hok : okM n := ⟨by omega, by omega⟩
    have hsp : spP 0 a n = (firstP n, firstP n + lengthP n - 1) := by unfold spP; rw [if_pos rfl]
    rw [hsp] at h1 h3 b0 b1 b2 b3 ⊢
    simp only at h1 h3 b0 b1 b2 b3
    rw [dsum_thirty (st := firstP n + lengthP n - 1) (q := 30 - lengthP n) _ (by omega) (fun z z1 z2 => ?_)]
    · have e2 : wtP 2 hs (firstP n, firstP n + lengthP n - 1) ⟨x, y⟩ = if y = firstP n + lengthP n - 1 then y - x + 1 + (30 - (firstP n + lengthP n - 1 - firstP n + 1)) else y - x + 1 := by
        unfold wtP
        rw [if_neg (by omega)]
        simp only [true_and]
      rw [e2]
      by_cases he : y = firstP n + lengthP n - 1
      · rw [if_pos (show 0 < (y + 1 - x).toNat ∧ x + ((y + 1 - x).toNat : Int) = firstP n + lengthP n - 1 + 1 by omega), if_pos he]; omega
      · rw [if_neg (show ¬ (0 < (y + 1 - x).toNat ∧ x + ((y + 1 - x).toNat : Int) = firstP n + lengthP n - 1 + 1) by omega), if_neg he]; omega
    · have hd := month_day (k := n) (r := z - firstP n) hok (by omega) (by omega)
      rw [show firstP n + (z - firstP n) = z by omega] at hd
      unfold dW
      rw [if_neg (by omega), if_neg (by omega), hd.2.1, hd.2.2]
      by_cases he : z = firstP n + lengthP n - 1
      · rw [if_pos he, if_pos (by omega)]; omega
      · rw [if_neg he, if_neg (by omega)]
/-- the weights of the parts are those of their days -/
theorem wL_days {k a n m : Int} {cs : List Int} {hs : List Hol} {L : List Rg} (hc : calE k a = 0) (hn : 0 ≤ n ∧ n < cntP k a) (hm : m = 0 ∨ m = 1 ∨ (m = 2 ∧ k = 0)) (hv : validP hs = 0) (hL : partsO (spP k a n).2 (spP k a n).1 cs = some L) :
    cnts (pw (dW m hs) (spP k a n).1 (spP k a n).2 cs ((spP k a n).2 + 1)) (cs.length + 1) = wL k a n cs m hs := by
  obtain ⟨b0, b1, b2, b3⟩ := sp_bd hc hn
  obtain ⟨h1, h2⟩ := parts_bnd b1 hL
  unfold wL cnts
  rw [hL, Option.getD_some, h1, List.map_map]
  refine List.map_congr_left fun j hj => ?_
  rw [List.mem_range] at hj
  rw [pw_last h2 (by omega)]
  have g1 : (spP k a n).1 ≤ bnd (spP k a n).1 (spP k a n).2 cs j := by
    rcases Nat.eq_zero_or_pos j with rfl | h0
    · rw [bnd_zero]; exact Int.le_refl _
    · have := bnd_mono h2 h0 (by omega)
      rw [bnd_zero] at this
      omega
  have g2 := h2 j (by omega)
  have g3 : bnd (spP k a n).1 (spP k a n).2 cs (j + 1) ≤ (spP k a n).2 + 1 := by
    rcases Nat.lt_or_ge j cs.length with h1 | h1
    · have := bnd_mono h2 (i := j + 1) (j := cs.length + 1) (by omega) (by omega); rw [bnd_last] at this; omega
    · rw [show j = cs.length by omega, bnd_last]; omega
  have := wt_day hc hn hm hv (x := bnd (spP k a n).1 (spP k a n).2 cs j) (y := bnd (spP k a n).1 (spP k a n).2 cs (j + 1) - 1) g1 (by omega) (by omega)
  rw [Int.sub_add_cancel] at this
  exact this
theorem dW_bd {m : Int} {hs : List Hol} {d : Int} (hd : okD d) : 0 ≤ dW m hs d ∧ dW m hs d ≤ 31 := by
  have hb := mon_bd hd
  have hf := first_bd hb.2.2.2.2.1
  unfold dW
  split
  · omega
  split
  · split <;> omega
  split <;> omega
theorem dsum_bd {F : Int → Int} {a : Int} : ∀ n : Nat, (∀ x, a ≤ x → x < a + n → 0 ≤ F x ∧ F x ≤ 31) → 0 ≤ dsum F a n ∧ dsum F a n ≤ 31 * n
  | 0, _ => by simp [dsum]
  | n + 1, h => by
    have h1 := dsum_bd n (fun x h1 h2 => h x h1 (by omega))
    have h2 := h (a + n) (by omega) (by omega)
    rw [dsum]
    omega
theorem pw_bd {m : Int} {hs : List Hol} {f to : Int} {cs : List Int} {d : Int} {p : Nat} (h0 : 0 ≤ f) (h1 : f ≤ bnd f to cs p) (h2 : d ≤ 84006) : 0 ≤ pw (dW m hs) f to cs d p ∧ pw (dW m hs) f to cs d p ≤ 31 * 90000 := by
  unfold pw dS
  have := dsum_bd (F := dW m hs) (a := bnd f to cs p) (min d (bnd f to cs (p + 1)) - bnd f to cs p).toNat (fun x g1 g2 => dW_bd ⟨by omega, by omega⟩)
  omega

end Go.Proofs.YtlanehcihoiglaaGreatDoor
