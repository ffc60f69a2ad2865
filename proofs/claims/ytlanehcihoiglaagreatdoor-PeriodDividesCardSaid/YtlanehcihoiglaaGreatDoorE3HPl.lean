/- Holidays in plain words: strictly ascending lists. -/
import Derived.Test.YtlanehcihoiglaaGreatDoorE3Nam
set_option linter.unusedSimpArgs false
set_option linter.unusedVariables false
set_option linter.unusedSectionVars false
namespace Go.Proofs.YtlanehcihoiglaaGreatDoor
open Go Go.Abs

theorem strict_unique : ∀ {a b : List Int}, a.Pairwise (· < ·) → b.Pairwise (· < ·) → (∀ x, x ∈ a ↔ x ∈ b) → a = b
  | [], [], _, _, _ => rfl
  | [], y :: b, _, _, h => by have := (h y).2 (by simp); simp at this
  | x :: a, [], _, _, h => by have := (h x).1 (by simp); simp at this
  | x :: a, y :: b, ha, hb, h => by
    rw [List.pairwise_cons] at ha hb
    have hxy : x = y := by
      have h1 := (h x).1 (by simp)
      have h2 := (h y).2 (by simp)
      rw [List.mem_cons] at h1 h2
      rcases h1 with h1 | h1
      · exact h1
      · rcases h2 with h2 | h2
        · exact h2.symm
        · have := hb.1 x h1
          have := ha.1 y h2
          omega
    subst hxy
    congr 1
    refine strict_unique ha.2 hb.2 fun z => ?_
    have h3 := h z
    simp only [List.mem_cons] at h3
    constructor
    · intro hz
      rcases h3.1 (.inr hz) with h4 | h4
      · have := ha.1 z hz; omega
      · exact h4
    · intro hz
      rcases h3.2 (.inr hz) with h4 | h4
      · have := hb.1 z hz; omega
      · exact h4

theorem compact_up {d : Array Int} (hs : ∀ i j, i ≤ j → j < d.size → d[i]! ≤ d[j]!) : ∀ m, m ≤ d.size → (Lib.compactUpTo d m).Pairwise (· < ·) ∧ ∀ x, x ∈ Lib.compactUpTo d m ↔ ∃ j, j < m ∧ d[j]! = x
  | 0, _ => by simp [Lib.compactUpTo]
  | m + 1, hm => by
    obtain ⟨h1, h2⟩ := compact_up hs m (by omega)
    rw [Lib.compactUpTo_succ]
    by_cases hk : Lib.keeps d m = true
    · rw [if_pos hk]
      refine ⟨?_, fun x => ?_⟩
      · rw [List.pairwise_append]
        refine ⟨h1, by simp, fun a ha b hb => ?_⟩
        rw [List.mem_singleton] at hb
        subst hb
        obtain ⟨j, hj, rfl⟩ := (h2 a).1 ha
        have e1 := hs j (m - 1) (by omega) (by omega)
        have e2 := hs (m - 1) m (by omega) (by omega)
        simp only [Lib.keeps, decide_eq_true_eq] at hk
        rcases hk with hk | hk
        · omega
        · omega
      · rw [List.mem_append, h2, List.mem_singleton]
        constructor
        · rintro (⟨j, hj, rfl⟩ | rfl)
          · exact ⟨j, by omega, rfl⟩
          · exact ⟨m, by omega, rfl⟩
        · rintro ⟨j, hj, rfl⟩
          by_cases hjm : j = m
          · right; rw [hjm]
          · left; exact ⟨j, by omega, rfl⟩
    · rw [if_neg hk, List.append_nil]
      refine ⟨h1, fun x => ?_⟩
      rw [h2]
      simp only [Lib.keeps, decide_eq_true_eq, not_or, Decidable.not_not] at hk
      constructor
      · rintro ⟨j, hj, rfl⟩
        exact ⟨j, by omega, rfl⟩
      · rintro ⟨j, hj, rfl⟩
        by_cases hjm : j = m
        · exact ⟨m - 1, by omega, by rw [hjm]; exact hk.2.symm⟩
        · exact ⟨j, by omega, rfl⟩

theorem srt_sorted (zs : List Int) : (srt zs).Pairwise (· ≤ ·) := by
  have := List.pairwise_mergeSort (le := fun x y : Int => decide (x ≤ y)) (by simp; omega) (by simp; omega) zs
  unfold srt
  exact this.imp (by simp)
theorem srt_mem (zs : List Int) (x : Int) : x ∈ srt zs ↔ x ∈ zs := by unfold srt; exact List.mem_mergeSort
def uq (zs : List Int) : List Int := Lib.compact (srt zs)
theorem uq_spec (zs : List Int) : (uq zs).Pairwise (· < ·) ∧ ∀ x, x ∈ uq zs ↔ x ∈ zs := by
  have hs : ∀ i j, i ≤ j → j < (srt zs).toArray.size → (srt zs).toArray[i]! ≤ (srt zs).toArray[j]! := by
    intro i j hij hj
    have hj' : j < (srt zs).length := by simpa using hj
    have hi' : i < (srt zs).length := by omega
    rw [getElem!_pos _ i (by simpa using hi'), getElem!_pos _ j (by simpa using hj')]
    simp only [List.getElem_toArray]
    rcases Nat.eq_or_lt_of_le hij with rfl | hlt
    · omega
    · exact List.pairwise_iff_getElem.1 (srt_sorted zs) i j hi' hj' hlt
  obtain ⟨h1, h2⟩ := compact_up hs (srt zs).length (by simp)
  refine ⟨h1, fun x => ?_⟩
  unfold uq Lib.compact
  rw [h2, ← srt_mem zs x, List.mem_iff_getElem]
  constructor
  · rintro ⟨j, hj, rfl⟩
    exact ⟨j, hj, by rw [getElem!_pos _ j (by simpa using hj)]; simp⟩
  · rintro ⟨j, hj, rfl⟩
    exact ⟨j, hj, by rw [getElem!_pos _ j (by simpa using hj)]; simp⟩

def yr (l : List Hol) (y : Int) : List Int := l.filterMap fun h => namO h y
def uptoY (l : List Hol) (a : Int) (n : Nat) : List Int := (List.range n).flatMap fun (i : Nat) => yr l (a + (i : Int))
theorem uptoY_succ (l : List Hol) (a : Int) (n : Nat) : uptoY l a (n + 1) = uptoY l a n ++ yr l (a + n) := by
  unfold uptoY
  rw [List.range_succ, List.flatMap_append]
  simp
theorem yr_length (l : List Hol) (y : Int) : (yr l y).length ≤ l.length := List.length_filterMap_le _ _
theorem uptoY_length (l : List Hol) (a : Int) : ∀ n, (uptoY l a n).length ≤ n * l.length
  | 0 => by simp [uptoY]
  | n + 1 => by
    rw [uptoY_succ, List.length_append, Nat.add_mul, Nat.one_mul]
    have := uptoY_length l a n
    have := yr_length l (a + n)
    omega
def colP (l : List Hol) (a b : Int) : List Int := uq (uptoY l a (b + 1 - a).toNat)
theorem col_mem {l : List Hol} {a b d : Int} : d ∈ colP l a b ↔ ∃ y, a ≤ y ∧ y ≤ b ∧ ∃ h, h ∈ l ∧ namO h y = some d := by
  unfold colP
  rw [(uq_spec _).2]
  unfold uptoY yr
  simp only [List.mem_flatMap, List.mem_range, List.mem_filterMap]
  constructor
  · rintro ⟨i, hi, h, hh, hn⟩
    exact ⟨a + i, by omega, by omega, h, hh, hn⟩
  · rintro ⟨y, h1, h2, h, hh, hn⟩
    refine ⟨(y - a).toNat, by omega, h, hh, ?_⟩
    rw [show a + ((y - a).toNat : Int) = y from by omega]
    exact hn
theorem col_strict (l : List Hol) (a b : Int) : (colP l a b).Pairwise (· < ·) := (uq_spec _).1

/- the reference: a day is put into its place, unless it is there -/
end Go.Proofs.YtlanehcihoiglaaGreatDoor
