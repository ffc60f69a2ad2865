/- The reference: an amount divided by weights. -/
import Derived.Test.YtlanehcihoiglaaGreatDoorE7Rnd2
set_option linter.unusedSimpArgs false
set_option linter.unusedVariables false
set_option linter.unusedSectionVars false
namespace Go.Proofs.YtlanehcihoiglaaGreatDoor
open Go Go.Abs
set_option linter.unusedSimpArgs false
set_option linter.unusedVariables false

/-- the first of the greatest among the first n -/
def bst (R : List Int) : Nat → Nat
  | 0 => 0
  | n + 1 => if R.getD (bst R n) 0 < R.getD n 0 then n else bst R n
theorem bst_lt {R : List Int} : ∀ {n : Nat}, 0 < n → bst R n < n
  | 1, _ => by simp [bst]
  | n + 2, _ => by
    have := bst_lt (R := R) (n := n + 1) (by omega)
    rw [bst]
    split <;> omega
theorem bst_eq {R : List Int} {b : Nat} : ∀ {n : Nat}, b < n → (∀ j, j < b → R.getD j 0 < R.getD b 0) → (∀ j, b ≤ j → j < n → R.getD j 0 ≤ R.getD b 0) → bst R n = b
  | n + 1, hb, h1, h2 => by
    rw [bst]
    rcases Nat.lt_or_ge b n with h | h
    · rw [bst_eq h h1 (fun j hj hn => h2 j hj (by omega)), if_neg (by have := h2 n (by omega) (by omega); omega)]
    · obtain rfl : b = n := by omega
      cases b with
      | zero => simp [bst]
      | succ m => rw [if_pos (h1 _ (bst_lt (by omega)))]
/-- the rests and the places after k rounds -/
def pkR (R : List Int) : Nat → List Int
  | 0 => R
  | k + 1 => (pkR R k).set (bst (pkR R k) R.length) (-1)
def pks (R : List Int) : Nat → List Int
  | 0 => []
  | k + 1 => pks R k ++ [((bst (pkR R k) R.length : Nat) : Int)]
theorem pkR_len {R : List Int} : ∀ {k : Nat}, (pkR R k).length = R.length
  | 0 => rfl
  | k + 1 => by rw [pkR, List.length_set, pkR_len]
theorem pks_len {R : List Int} : ∀ {k : Nat}, (pks R k).length = k
  | 0 => rfl
  | k + 1 => by rw [pks, List.length_append, pks_len]; rfl
theorem pks_eq {R S : List Int} (h0 : ∀ x ∈ R, 0 ≤ x) (hS : S.Perm (idxL R.length)) (hp : S.Pairwise (lx R)) : ∀ k, k ≤ R.length → pks R k = S.take k ∧ ∀ j, j < R.length → (pkR R k).getD j 0 = if (j : Int) ∈ S.take k then -1 else R.getD j 0
  | 0, _ => ⟨by simp [pks], fun j hj => by simp [pkR]⟩
  | k + 1, hk => by
    obtain ⟨h1, h2⟩ := pks_eq h0 hS hp k (by omega)
    have hSl : S.length = R.length := by rw [hS.length_eq]; simp [idxL]
    have hSm : ∀ x, x ∈ S ↔ 0 ≤ x ∧ x < R.length := fun x => by
      rw [hS.mem_iff]
      unfold idxL
      rw [List.mem_map]
      constructor
      · rintro ⟨j, hj, rfl⟩; rw [List.mem_range] at hj; omega
      · rintro ⟨g1, g2⟩; exact ⟨x.toNat, List.mem_range.2 (by omega), by omega⟩
    have hks : k < S.length := by omega
    have hx := (hSm S[k]).1 (List.getElem_mem _)
    have hnd : S.Nodup := by
      refine hS.nodup_iff.2 ?_
      unfold idxL
      rw [List.nodup_iff_pairwise_ne, List.pairwise_map]
      exact List.pairwise_lt_range.imp fun h => by omega
    obtain ⟨b, hb⟩ : ∃ b : Nat, S[k] = b := ⟨S[k].toNat, by omega⟩
    have hsplit : S = S.take k ++ S[k] :: S.drop (k + 1) := by rw [← List.drop_eq_getElem_cons hks, List.take_append_drop]
    have hbk : (b : Int) ∉ S.take k := by
      rw [hsplit] at hnd
      have := (List.nodup_append.1 hnd).2.2
      intro hm
      exact this _ hm _ (by rw [hb]; exact List.mem_cons_self) rfl
    have hfol : ∀ y ∈ S.drop (k + 1), lx R b y := by
      rw [hsplit, List.pairwise_append, List.pairwise_cons, hb] at hp
      exact hp.2.1.1
    have hval := h2 b (by omega)
    rw [if_neg hbk] at hval
    have hRb : 0 ≤ R.getD b 0 := by
      rw [List.getD_eq_getElem?_getD, List.getElem?_eq_getElem (by omega), Option.getD_some]
      exact h0 _ (List.getElem_mem _)
    have hoth : ∀ j, j < R.length → j ≠ b → (pkR R k).getD j 0 < R.getD b 0 ∨ ((pkR R k).getD j 0 = R.getD b 0 ∧ b < j) := by
      intro j hj hne
      rw [h2 j hj]
      split
      · left; omega
      · rename_i hnm
        have hjS : (j : Int) ∈ S := (hSm j).2 ⟨by omega, by omega⟩
        rw [hsplit] at hjS
        rcases List.mem_append.1 hjS with h | h
        · exact absurd h hnm
        · rw [hb] at h
          rcases List.mem_cons.1 h with h | h
          · exact absurd (by omega) hne
          · have := hfol _ h
            unfold lx rst at this
            simp only [Int.toNat_natCast] at this
            omega
    have hbst : bst (pkR R k) R.length = b := by
      refine bst_eq (by omega) (fun j hj => ?_) (fun j hj hn => ?_)
      · rw [hval]
        rcases hoth j (by omega) (by omega) with h | h
        · exact h
        · omega
      · rw [hval]
        by_cases hjb : j = b
        · rw [hjb, hval]; exact Int.le_refl _
        · rcases hoth j hn hjb with h | h <;> omega
    have htk : S.take (k + 1) = S.take k ++ [(b : Int)] := by rw [List.take_succ_eq_append_getElem hks, hb]
    refine ⟨by rw [pks, h1, hbst, htk], fun j hj => ?_⟩
    rw [pkR, hbst, htk, List.getD_eq_getElem?_getD, List.getElem?_set]
    by_cases hjb : b = j
    · subst hjb
      rw [if_pos rfl, if_pos (by rw [pkR_len]; omega), if_pos (by simp)]
      rfl
    · rw [if_neg hjb, ← List.getD_eq_getElem?_getD, h2 j hj]
      have : (j : Int) ∈ S.take k ++ [(b : Int)] ↔ (j : Int) ∈ S.take k := by
        rw [List.mem_append, List.mem_singleton]
        constructor
        · rintro (h | h)
          · exact h
          · omega
        · exact .inl
      simp only [this]
/-- the amounts of the reference -/
def raloL (t : Int) (ws : List Int) : List Int := if t < 0 then (incs (partL (tAbs t) ws.sum ws) (pks (restL (tAbs t) ws.sum ws) (missL (tAbs t) ws.sum ws).toNat)).map (- ·) else incs (partL (tAbs t) ws.sum ws) (pks (restL (tAbs t) ws.sum ws) (missL (tAbs t) ws.sum ws).toNat)
theorem raloL_eq {t : Int} {ws S : List Int} (hn : 0 < ws.length) (hs : 0 < ws.sum) (h : isS t ws S) : raloL t ws = aloL t ws S := by
  have hR : (restL (tAbs t) ws.sum ws).length = ws.length := by simp [restL]
  have hm := miss_bd (t := tAbs t) (ws := ws) rfl hs hn
  have := (pks_eq (R := restL (tAbs t) ws.sum ws) (S := S) (fun x hx => by
    unfold restL at hx
    obtain ⟨w, hw, rfl⟩ := List.mem_map.1 hx
    exact Int.emod_nonneg _ (by omega)) (by rw [hR]; exact h.1) h.2 (missL (tAbs t) ws.sum ws).toNat (by omega)).1
  unfold raloL aloL
  rw [this]

end Go.Proofs.YtlanehcihoiglaaGreatDoor
