/- Sets of windows as numbers. -/
import Derived.Test.YtefemdpicjgkeaaGreatDoorZ8Val
set_option linter.unusedSimpArgs false
set_option linter.unusedVariables false
set_option linter.unusedSectionVars false
namespace Go.Proofs.YtefemdpicjgkeaaGreatDoor
open Go Go.Abs
set_option linter.unusedSimpArgs false
set_option linter.unusedVariables false

/-- the number whose bits below n are f -/
def numOf (f : Nat → Bool) : Nat → Nat
  | 0 => 0
  | n + 1 => if f n then numOf f n ||| 2 ^ n else numOf f n
theorem numOf_bit (f : Nat → Bool) (j : Nat) : ∀ n, (numOf f n).testBit j = (decide (j < n) && f j)
  | 0 => by simp [numOf]
  | n + 1 => by
    have ih := numOf_bit f j n
    rw [numOf]
    by_cases hj : j = n
    · subst hj
      have h0 : (decide (j < j) && f j) = false := by simp
      split
      · rename_i h; simp [Nat.testBit_or, ih, h, Nat.testBit_two_pow]
      · rename_i h; simp [ih, h]
    · have h1 : decide (j < n + 1) = decide (j < n) := by simp; omega
      split
      · rw [Nat.testBit_or, ih, h1, Nat.testBit_two_pow, show decide (n = j) = false by simp; omega, Bool.or_false]
      · rw [ih, h1]
theorem numOf_lt (f : Nat → Bool) : ∀ n, numOf f n < 2 ^ n
  | 0 => by simp [numOf]
  | n + 1 => by
    have ih := numOf_lt f n
    rw [numOf]
    split
    · exact Nat.or_lt_two_pow (Nat.lt_of_lt_of_le ih (Nat.pow_le_pow_right (by omega) (by omega))) (Nat.pow_lt_pow_right (by omega) (by omega))
    · exact Nat.lt_of_lt_of_le ih (Nat.pow_le_pow_right (by omega) (by omega))
theorem numOf_small (f : Nat → Bool) {n : Nat} (hn : n ≤ 16) : numOf f n < 65536 := Nat.lt_of_lt_of_le (numOf_lt f n) (Nat.pow_le_pow_right (n := 2) (by omega) hn)
/-- one more -/
theorem or_bit {N i : Nat} (h : N < 65536) (hi : i < 16) : N ||| 2 ^ i < 65536 := Nat.or_lt_two_pow (n := 16) h (Nat.pow_lt_pow_right (a := 2) (by omega) hi)
theorem orI {N i : Nat} (h : N < 65536) (hi : i < 16) : bor .i64 (N : Int) (bshl .i64 1 i) = ((N ||| 2 ^ i : Nat) : Int) := by
  have h2 : (2 : Nat) ^ i < 65536 := Nat.lt_of_lt_of_le (Nat.pow_lt_pow_right (a := 2) (by omega) hi) (Nat.le_refl (2 ^ 16))
  generalize hg : (2 : Nat) ^ i = X at h2
  rw [shl_i64 (by omega), show (1 : Int) * 2 ^ i = ((2 ^ i : Nat) : Int) by simp, hg, wrap_i64 (by omega) (by omega), or_i64 (by omega) (by omega)]
theorem bitI {N i : Nat} (h : N < 65536) (hi : i < 16) : band .i64 (bshr .i64 (N : Int) i) 1 = if N.testBit i then 1 else 0 := by
  have := bit_i64 (n := (N : Int)) (i := i) (by omega) (by omega) (by omega)
  rw [this]; unfold bitP
  rw [Int.toNat_natCast, Int.toNat_natCast]

theorem sEq_iff {a b : ByteArray} : sEq a b = true ↔ a.toList = b.toList := by unfold sEq; simp
theorem sEq_refl (a : ByteArray) : sEq a a = true := sEq_iff.2 rfl
theorem sEq_symm {a b : ByteArray} (h : sEq a b = true) : sEq b a = true := sEq_iff.2 (sEq_iff.1 h).symm
theorem sEq_trans {a b c : ByteArray} (h : sEq a b = true) (k : sEq b c = true) : sEq a c = true := sEq_iff.2 ((sEq_iff.1 h).trans (sEq_iff.1 k))
theorem sEq_comm (a b : ByteArray) : sEq a b = sEq b a := by
  rw [Bool.eq_iff_iff]; exact ⟨sEq_symm, sEq_symm⟩
theorem sEq_left {a b c : ByteArray} (h : sEq a b = true) : sEq a c = sEq b c := by
  rw [Bool.eq_iff_iff]; exact ⟨fun k => sEq_trans (sEq_symm h) k, fun k => sEq_trans h k⟩

def w0 : Win := ⟨⟨#[]⟩, ⟨#[]⟩, 0, 0, 0, 0, 0⟩
def gw (ws : List Win) (i : Nat) : Win := (ws[i]?).getD w0
theorem gw_get {ws : List Win} {i : Nat} (h : i < ws.length) : gw ws i = ws[i] := by simp [gw, h]
/-- does the window k come before the window i of its group? -/
def beats (ws : List Win) (k i : Nat) : Bool :=
  sEq (gw ws k).group (gw ws i).group && (decide ((gw ws i).rank < (gw ws k).rank) || (decide ((gw ws k).rank = (gw ws i).rank) && decide (k < i)))
/-- of a set of windows that cover, does this one count? -/
def wonB (ws : List Win) (c : Nat → Bool) (i : Nat) : Bool := c i && (noG (gw ws i) || (List.range ws.length).all fun k => !(c k && beats ws k i))

/-- maps from texts to numbers -/
def mapS (l : List (ByteArray × Nat)) : List (AVal × AVal) := l.map fun p => (.str p.1, .int .i64 p.2)
def lookS (l : List (ByteArray × Nat)) (g : ByteArray) : Option Nat := (l.find? fun p => sEq g p.1).map (·.2)
def putS (g : ByteArray) (v : Nat) : List (ByteArray × Nat) → List (ByteArray × Nat)
  | [] => [(g, v)]
  | p :: ps => if sEq g p.1 then (g, v) :: ps else p :: putS g v ps
theorem mapS_length (l : List (ByteArray × Nat)) : (mapS l).length = l.length := by simp [mapS]
theorem mapS_clean : ∀ (l : List (ByteArray × Nat)), cleanM (mapS l) = true
  | [] => _root_.id rfl
  | p :: l => by
    have := mapS_clean l
    simp only [cleanM, mapS, List.map_map, Bool.and_eq_true] at this ⊢
    simp only [List.map_cons, cleanL, Function.comp_apply, clean, Bool.true_and]
    exact this
theorem kfind_mapS {g : ByteArray} : ∀ {l : List (ByteArray × Nat)}, kfind (.str g) (mapS l) = (lookS l g).map fun v => .int .i64 v
  | [] => _root_.id rfl
  | p :: l => by
    have ih := kfind_mapS (g := g) (l := l)
    unfold mapS lookS at *
    rw [List.map_cons, kfind, List.find?_cons]
    have : isKey (.str g) (.str p.1) = sEq g p.1 := by simp [isKey, acells, eqCells, sEq]
    simp only [this]
    cases hk : sEq g p.1
    · simpa using ih
    · rfl
theorem kput_mapS {g : ByteArray} {v : Nat} : ∀ {l : List (ByteArray × Nat)}, kput (.str g) (.int .i64 v) (mapS l) = mapS (putS g v l)
  | [] => _root_.id rfl
  | p :: l => by
    have ih := kput_mapS (g := g) (v := v) (l := l)
    unfold mapS at *
    rw [List.map_cons, kput, putS]
    have : isKey (.str g) (.str p.1) = sEq g p.1 := by simp [isKey, acells, eqCells, sEq]
    simp only [this]
    cases hk : sEq g p.1
    · simp only [Bool.false_eq_true, if_false, List.map_cons, ih]
    · rfl
theorem lookS_put {g h : ByteArray} {v : Nat} : ∀ {l : List (ByteArray × Nat)}, lookS (putS g v l) h = if sEq h g then some v else lookS l h
  | [] => by
    unfold lookS putS
    cases hh : sEq h g <;> simp [hh]
  | p :: l => by
    have ih := lookS_put (g := g) (h := h) (v := v) (l := l)
    unfold lookS at *
    rw [putS]
    cases hk : sEq g p.1
    · simp only [Bool.false_eq_true, if_false, List.find?_cons]
      cases hk' : sEq h p.1
      · exact ih
      · have : sEq h g = false := by
          cases e : sEq h g
          · rfl
          · rw [← sEq_left e, hk'] at hk; cases hk
        simp [this]
    · simp only [if_true, List.find?_cons]
      cases hh : sEq h g
      · have : sEq h p.1 = false := by
          cases e : sEq h p.1
          · rfl
          · have := sEq_trans e (sEq_symm hk)
            rw [hh] at this; cases this
        simp [this]
      · simp
def apart (l : List (ByteArray × Nat)) : Prop := l.Pairwise fun p q => sEq p.1 q.1 = false
theorem mem_putS {g : ByteArray} {v : Nat} {q : ByteArray × Nat} : ∀ {l : List (ByteArray × Nat)}, q ∈ putS g v l → q = (g, v) ∨ q ∈ l
  | [], h => by simpa [putS] using h
  | p :: l, h => by
    rw [putS] at h
    split at h
    · rcases List.mem_cons.1 h with h | h
      · exact .inl h
      · exact .inr (List.mem_cons_of_mem _ h)
    · rcases List.mem_cons.1 h with h | h
      · exact .inr (by rw [h]; exact List.mem_cons_self)
      · rcases mem_putS h with h | h
        · exact .inl h
        · exact .inr (List.mem_cons_of_mem _ h)
theorem apart_put {g : ByteArray} {v : Nat} : ∀ {l : List (ByteArray × Nat)}, apart l → apart (putS g v l)
  | [], _ => by simp [putS, apart]
  | p :: l, h => by
    unfold apart at h ⊢
    rw [List.pairwise_cons] at h
    rw [putS]
    split
    · rename_i hk
      rw [List.pairwise_cons]
      exact ⟨fun q hq => by rw [sEq_left hk]; exact h.1 q hq, h.2⟩
    · rename_i hk
      rw [List.pairwise_cons]
      refine ⟨fun q hq => ?_, apart_put h.2⟩
      rcases mem_putS hq with rfl | hq
      · rw [sEq_comm]; simpa using hk
      · exact h.1 q hq
theorem lookS_mem : ∀ {l : List (ByteArray × Nat)}, apart l → ∀ p ∈ l, lookS l p.1 = some p.2
  | [], _, p, hp => by simp at hp
  | q :: l, h, p, hp => by
    unfold apart at h
    rw [List.pairwise_cons] at h
    unfold lookS
    rw [List.find?_cons]
    rcases List.mem_cons.1 hp with rfl | hp
    · rw [sEq_refl]; rfl
    · have := h.1 p hp
      rw [sEq_comm] at this
      rw [this]
      exact lookS_mem h.2 p hp
theorem lookS_some {l : List (ByteArray × Nat)} {g : ByteArray} {v : Nat} (h : lookS l g = some v) : ∃ p ∈ l, p.2 = v := by
  unfold lookS at h
  cases hf : l.find? fun p => sEq g p.1 with
  | none => rw [hf] at h; cases h
  | some p =>
    rw [hf] at h
    exact ⟨p, List.mem_of_find?_eq_some hf, by simpa using h⟩
attribute [go_sem] mapS_clean kfind_mapS

/-- a window of the group that covers -/
def cand (ws : List Win) (c : Nat → Bool) (g : ByteArray) (k : Nat) : Prop := c k = true ∧ noG (gw ws k) = false ∧ sEq g (gw ws k).group = true
/-- the first of the greatest rank among the first i windows of a group -/
def bestOk (ws : List Win) (c : Nat → Bool) (g : ByteArray) (i : Nat) : Option Nat → Prop
  | none => ∀ k, k < i → ¬ cand ws c g k
  | some j => j < i ∧ cand ws c g j ∧ ∀ k, k < i → cand ws c g k → (gw ws k).rank < (gw ws j).rank ∨ ((gw ws k).rank = (gw ws j).rank ∧ j ≤ k)
theorem bestOk_skip {ws : List Win} {c : Nat → Bool} {g : ByteArray} {i : Nat} {o : Option Nat} (h : bestOk ws c g i o) (hn : ¬ cand ws c g i) : bestOk ws c g (i + 1) o := by
  cases o with
  | none =>
    intro k hk hc
    by_cases e : k = i
    · subst e; exact hn hc
    · exact h k (by omega) hc
  | some j =>
    obtain ⟨h1, h2, h3⟩ := h
    refine ⟨by omega, h2, fun k hk hc => ?_⟩
    by_cases e : k = i
    · subst e; exact absurd hc hn
    · exact h3 k (by omega) hc
theorem cand_group {ws : List Win} {c : Nat → Bool} {g : ByteArray} {i : Nat} (h : c i = true) (hn : noG (gw ws i) = false) : cand ws c g i ↔ sEq g (gw ws i).group = true := ⟨fun k => k.2.2, fun k => ⟨h, hn, k⟩⟩
theorem bestOk_take {ws : List Win} {c : Nat → Bool} {g : ByteArray} {i : Nat} {o : Option Nat} (h : bestOk ws c g i o) (hc : cand ws c g i) (hr : ∀ j, o = some j → (gw ws j).rank < (gw ws i).rank) : bestOk ws c g (i + 1) (some i) := by
  refine ⟨by omega, hc, fun k hk hck => ?_⟩
  by_cases e : k = i
  · subst e; exact .inr ⟨rfl, Nat.le_refl _⟩
  · cases o with
    | none => exact absurd hck (h k (by omega))
    | some j =>
      have h1 := h.2.2 k (by omega) hck
      have h2 := hr j rfl
      omega
theorem bestOk_keep {ws : List Win} {c : Nat → Bool} {g : ByteArray} {i j : Nat} (h : bestOk ws c g i (some j)) (hr : ¬ (gw ws j).rank < (gw ws i).rank) : bestOk ws c g (i + 1) (some j) := by
  obtain ⟨h1, h2, h3⟩ := h
  refine ⟨by omega, h2, fun k hk hck => ?_⟩
  by_cases e : k = i
  · subst e; omega
  · exact h3 k (by omega) hck
/-- what the map holds at the end are the windows of groups that count -/
theorem best_end {ws : List Win} {c : Nat → Bool} {l : List (ByteArray × Nat)} (ha : apart l) (hb : ∀ g, bestOk ws c g ws.length (lookS l g)) (j : Nat) :
    (∃ p ∈ l, p.2 = j) ↔ (j < ws.length ∧ c j = true ∧ noG (gw ws j) = false ∧ ((List.range ws.length).all fun k => !(c k && beats ws k j)) = true) := by
  rw [List.all_eq_true]
  constructor
  · rintro ⟨p, hp, rfl⟩
    have h1 := hb p.1
    rw [lookS_mem ha p hp] at h1
    obtain ⟨h2, ⟨h3, h4, h5⟩, h6⟩ := h1
    refine ⟨h2, h3, h4, fun k hk => ?_⟩
    rw [List.mem_range] at hk
    cases hck : c k
    · rfl
    · cases hbt : beats ws k p.2
      · rfl
      · unfold beats at hbt
        simp only [Bool.and_eq_true, Bool.or_eq_true, decide_eq_true_eq] at hbt
        have hn : noG (gw ws k) = false := by
          rw [← h4]; unfold noG; exact sEq_left hbt.1
        have := h6 k hk ⟨hck, hn, sEq_trans h5 (sEq_symm hbt.1)⟩
        omega
  · rintro ⟨h1, h2, h3, h4⟩
    have hc : cand ws c (gw ws j).group j := ⟨h2, h3, sEq_refl _⟩
    have h5 := hb (gw ws j).group
    cases ho : lookS l (gw ws j).group with
    | none => rw [ho] at h5; exact absurd hc (h5 j h1)
    | some i =>
      rw [ho] at h5
      obtain ⟨k1, ⟨k2, k3, k4⟩, k5⟩ := h5
      have h6 := k5 j h1 hc
      have h7 := h4 i (List.mem_range.2 k1)
      rw [k2, Bool.true_and] at h7
      have h8 : beats ws i j = false := by simpa using h7
      unfold beats at h8
      rw [sEq_symm k4, Bool.true_and] at h8
      simp only [Bool.or_eq_false_iff, Bool.and_eq_false_iff, decide_eq_false_iff_not] at h8
      obtain rfl : i = j := by omega
      exact lookS_some ho

end Go.Proofs.YtefemdpicjgkeaaGreatDoor
