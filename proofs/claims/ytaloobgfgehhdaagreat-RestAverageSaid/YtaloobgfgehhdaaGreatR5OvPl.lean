/- Overtime in plain words: the division, minute by minute. -/
import Derived.Test.YtaloobgfgehhdaaGreatR5Ov3
set_option linter.unusedSimpArgs false
set_option linter.unusedVariables false
set_option linter.unusedSectionVars false
namespace Go.Proofs.YtaloobgfgehhdaaGreat
open Go Go.Abs
set_option linter.unusedSimpArgs false
set_option linter.unusedVariables false

theorem putI_putI {k v v' : Int} : ∀ {D : List (Int × Int)}, putI k v (putI k v' D) = putI k v D
  | [] => by simp [putI]
  | p :: D => by
    rw [putI]
    by_cases h : (k == p.1) = true
    · rw [if_pos h, putI, putI, if_pos h]; simp
    · rw [if_neg h, putI, if_neg h, putI_putI, putI, if_neg h]

theorem fnd_add : ∀ {l : List Bd} (k : Nat) {n j : Int}, 0 ≤ j → j < (fnd k l n).2 → (fnd k l (n + j)).1 = (fnd k l n).1
  | [], k, n, j, _, _ => rfl
  | b :: bs, k, n, j, h0, h1 => by
    rw [fnd] at h1 ⊢
    rw [fnd]
    by_cases h : n < b.after
    · rw [if_pos h] at h1 ⊢
      simp only at h1
      rw [if_pos (by omega)]
    · rw [if_neg h] at h1 ⊢
      rw [if_neg (by omega)]
      exact fnd_add (k + 1) h0 h1

/-- the state of a division -/
structure Ost where
  D : List (Int × Int)
  W : List (Int × Int)
  ps : List Pc
/-- the band of the next minute of a day, and whether it is a regular one -/
def bandOf (R : Rl) (D W : List (Int × Int)) (day : Int) : ByteArray × Bool :=
  if 0 ≤ (fnd 0 R.dy (lk D day)).1 then (bnm R.dy (fnd 0 R.dy (lk D day)).1, false)
  else (if 0 ≤ (fnd 0 R.wk (lk W (mon day))).1 then bnm R.wk (fnd 0 R.wk (lk W (mon day))).1 else R.nm, true)
/-- one minute -/
def stepM (R : Rl) (s : Ost) (m : Int × Int) : Ost :=
  ⟨putI m.1 (lk s.D m.1 + 1) s.D, if (bandOf R s.D s.W m.1).2 then putI (mon m.1) (lk s.W (mon m.1) + 1) s.W else s.W, addP s.ps ⟨m.1, m.2, m.2 + 1, (bandOf R s.D s.W m.1).1⟩⟩
def run (R : Rl) (ms : List (Int × Int)) : Ost := ms.foldl (stepM R) ⟨[], [], []⟩
def minsF (day fr : Int) (n : Nat) : List (Int × Int) := (List.range n).map fun (j : Nat) => (day, fr + j)
def minsP (s : Spn) : List (Int × Int) := minsF s.day s.fr (s.to - s.fr).toNat
def mins (S : List Spn) : List (Int × Int) := S.flatMap minsP
theorem minsF_succ (day fr : Int) (n : Nat) : minsF day fr (n + 1) = minsF day fr n ++ [(day, fr + n)] := by
  unfold minsF; rw [List.range_succ, List.map_append]; rfl
theorem minsF_add (day fr : Int) (n : Nat) : ∀ m, minsF day fr (n + m) = minsF day fr n ++ minsF day (fr + n) m
  | 0 => by simp [minsF]
  | m + 1 => by rw [← Nat.add_assoc, minsF_succ, minsF_add day fr n m, minsF_succ, List.append_assoc, show fr + ((n + m : Nat) : Int) = fr + (n : Int) + (m : Int) from by omega]
theorem minsF_length (day fr : Int) (n : Nat) : (minsF day fr n).length = n := by simp [minsF]

theorem sEq_refl (a : ByteArray) : sEq a a = true := by simp [sEq]
theorem addP_on {ps : List Pc} {p q : Pc} (hp : ps.getLast? = some p) (h : goesOn p q = true) : addP ps q = ps.dropLast ++ [{ p with to := q.to }] := by
  unfold addP; rw [hp]; simp only; rw [if_pos h]
theorem addP_off {ps : List Pc} {p q : Pc} (hp : ps.getLast? = some p) (h : ¬ goesOn p q = true) : addP ps q = ps ++ [q] := by
  unfold addP; rw [hp]; simp only; rw [if_neg h]
theorem addP_addP {ps : List Pc} {q q' : Pc} (h1 : q.day = q'.day) (h2 : q.band = q'.band) (h3 : q.to = q'.fr) : addP (addP ps q) q' = addP ps { q with to := q'.to } := by
  obtain ⟨d, f, t, b⟩ := q
  obtain ⟨d', f', t', b'⟩ := q'
  simp only at h1 h2 h3
  subst h1; subst h2; subst h3
  have key : ∀ (xs : List Pc) (p : Pc), p.day = d → sEq p.band b = true → p.to = t → addP (xs ++ [p]) ⟨d, t, t', b⟩ = xs ++ [{ p with to := t' }] := by
    intro xs p h1 h2 h3
    unfold addP
    simp only [List.getLast?_append, List.getLast?_singleton, Option.some_or, goesOn, h1, h2, h3, decide_true, Bool.and_self, if_true, List.dropLast_concat]
  cases hp : ps.getLast? with
  | none =>
    have e : ps = [] := by simpa using hp
    subst e
    exact key [] ⟨d, f, t, b⟩ rfl (sEq_refl b) rfl
  | some p =>
    by_cases hg : goesOn p ⟨d, f, t, b⟩ = true
    · have hg' : goesOn p ⟨d, f, t', b⟩ = true := hg
      rw [addP_on hp hg, addP_on hp hg']
      simp only [goesOn, Bool.and_eq_true, decide_eq_true_eq] at hg
      exact key ps.dropLast { p with to := t } hg.1 hg.2.1 rfl
    · have hg' : ¬ goesOn p ⟨d, f, t', b⟩ = true := hg
      rw [addP_off hp hg, addP_off hp hg']
      exact key ps ⟨d, f, t, b⟩ rfl (sEq_refl b) rfl

/-- several minutes at once -/
theorem chunk (R : Rl) (D W : List (Int × Int)) (ps : List Pc) (day most fr : Int) (n : Nat) (h1 : 1 ≤ n) (hn : (n : Int) ≤ (nxt R D W day most).2.1) :
    (minsF day fr n).foldl (stepM R) ⟨D, W, ps⟩ = ⟨putI day (lk D day + n) D, if (bandOf R D W day).2 then putI (mon day) (lk W (mon day) + n) W else W, addP ps ⟨day, fr, fr + n, (nxt R D W day most).1⟩⟩ := by
  have hb : (nxt R D W day most).1 = (bandOf R D W day).1 := by
    unfold nxt bandOf
    simp only
    split <;> rfl
  have hd : (n : Int) ≤ (fnd 0 R.dy (lk D day)).2 := by
    unfold nxt at hn
    simp only at hn
    split at hn
    · simp only at hn; omega
    · simp only at hn; omega
  have hwk : (bandOf R D W day).2 = true → (n : Int) ≤ (fnd 0 R.wk (lk W (mon day))).2 := by
    unfold nxt at hn
    unfold bandOf
    simp only at hn
    split
    · intro h; cases h
    · rename_i h
      rw [if_neg h] at hn
      simp only at hn
      intro _
      omega
  rw [hb]
  clear hb hn
  have hband : ∀ j : Nat, j < n → ∀ D' W', lk D' day = lk D day + j → ((bandOf R D W day).2 = true → lk W' (mon day) = lk W (mon day) + j) → bandOf R D' W' day = bandOf R D W day := by
    intro j hj D' W' hD' hW'
    have e1 := fnd_add (l := R.dy) 0 (n := lk D day) (j := j) (by omega) (by omega)
    unfold bandOf at *
    rw [hD', e1]
    by_cases h : 0 ≤ (fnd 0 R.dy (lk D day)).1
    · rw [if_pos h, if_pos h]
    · rw [if_neg h] at hW' hwk ⊢
      have e2 := fnd_add (l := R.wk) 0 (n := lk W (mon day)) (j := j) (by omega) (by have := hwk rfl; omega)
      rw [if_neg h, hW' rfl, e2]
  induction n with
  | zero => omega
  | succ m ih =>
    rw [minsF_succ, List.foldl_append]
    by_cases hm : m = 0
    · subst hm
      simp only [minsF, List.range_zero, List.map_nil, List.foldl_nil, List.foldl_cons]
      unfold stepM
      simp
    · rw [ih (by omega) (by omega) (fun h => by have := hwk h; omega) (fun j hj => hband j (by omega))]
      simp only [List.foldl_cons, List.foldl_nil]
      have hbm := hband m (by omega) (putI day (lk D day + m) D) (if (bandOf R D W day).2 = true then putI (mon day) (lk W (mon day) + m) W else W) (by rw [lk_put, if_pos rfl]) (fun h => by rw [if_pos h, lk_put, if_pos rfl])
      unfold stepM
      simp only
      rw [hbm, lk_put, if_pos rfl, putI_putI, addP_addP (q := ⟨day, fr, fr + m, _⟩) (q' := ⟨day, fr + m, fr + m + 1, _⟩) rfl rfl rfl]
      congr 1
      · congr 1; omega
      · split
        · rw [lk_put, if_pos rfl, putI_putI]; congr 1; omega
        · rfl
      · congr 2; simp only; omega

theorem nxt_state (R : Rl) (D W : List (Int × Int)) (day most : Int) : (nxt R D W day most).2.2.1 = putI day (lk D day + (nxt R D W day most).2.1) D ∧ (nxt R D W day most).2.2.2 = if (bandOf R D W day).2 then putI (mon day) (lk W (mon day) + (nxt R D W day most).2.1) W else W := by
  unfold nxt bandOf
  simp only
  by_cases h : 0 ≤ (fnd 0 R.dy (lk D day)).1
  · rw [if_pos h, if_pos h]; simp
  · rw [if_neg h, if_neg h]; simp

theorem nxt_bd {R : Rl} (hR : RlOk R) {D W : List (Int × Int)} {day most : Int} (hD : 0 ≤ lk D day) (hW : 0 ≤ lk W (mon day)) (hm : 1 ≤ most) : 1 ≤ (nxt R D W day most).2.1 ∧ (nxt R D W day most).2.1 ≤ most := by
  have h1 := fnd_bd 0 hR.bd hD
  have h2 := fnd_bd 0 hR.bw hW
  unfold nxt
  simp only
  split
  · simp only; omega
  · simp only; omega

theorem addP_length (ps : List Pc) (q : Pc) : (addP ps q).length ≤ ps.length + 1 := by
  unfold addP
  split
  · split
    · simp; try omega
    · simp
  · simp
theorem run_snoc (R : Rl) (ms : List (Int × Int)) (m : Int × Int) : run R (ms ++ [m]) = stepM R (run R ms) m := by
  unfold run; rw [List.foldl_append]; rfl
theorem run_app (R : Rl) (ms ns : List (Int × Int)) : run R (ms ++ ns) = ns.foldl (stepM R) (run R ms) := by
  unfold run; rw [List.foldl_append]
theorem list_snoc_ind {α : Type} {P : List α → Prop} (h0 : P []) (h1 : ∀ l x, P l → P (l ++ [x])) (l : List α) : P l := by
  have : ∀ n (l : List α), l.length = n → P l := by
    intro n
    induction n with
    | zero => intro l hl; rw [List.length_eq_zero_iff.1 hl]; exact h0
    | succ n ih =>
      intro l hl
      have hne : l ≠ [] := fun e => by rw [e] at hl; simp at hl
      rw [← List.dropLast_concat_getLast hne]
      exact h1 _ _ (ih _ (by rw [List.length_dropLast]; omega))
  exact this l.length l rfl
theorem run_bd (R : Rl) (ms : List (Int × Int)) : (∀ k, 0 ≤ lk (run R ms).D k ∧ lk (run R ms).D k ≤ ms.length) ∧ (∀ k, 0 ≤ lk (run R ms).W k ∧ lk (run R ms).W k ≤ ms.length) ∧ (run R ms).ps.length ≤ ms.length := by
  induction ms using list_snoc_ind with
  | h0 => exact ⟨fun k => by simp [run, lk, Abs.look], fun k => by simp [run, lk, Abs.look], by simp [run]⟩
  | h1 ms m ih =>
    obtain ⟨h1, h2, h3⟩ := ih
    rw [run_snoc, List.length_append]
    unfold stepM
    refine ⟨fun k => ?_, fun k => ?_, ?_⟩
    · simp only [lk_put]
      have a := h1 k
      have b := h1 m.1
      split <;> simp <;> omega
    · simp only
      have a := h2 k
      have b := h2 (mon m.1)
      split
      · rw [lk_put]
        split <;> simp <;> omega
      · simp; omega
    · simp only
      have := addP_length (run R ms).ps ⟨m.1, m.2, m.2 + 1, (bandOf R (run R ms).D (run R ms).W m.1).1⟩
      simp
      omega
theorem mins_take {S : List Spn} {i : Nat} (h : i < S.length) : mins (S.take (i + 1)) = mins (S.take i) ++ minsP S[i] := by
  unfold mins
  rw [List.take_add_one, List.getElem?_eq_getElem h, Option.toList_some, List.flatMap_append]
  simp
theorem mins_length : ∀ {S : List Spn}, (∀ s ∈ S, ivP s.fr s.to) → ((mins S).length : Int) = sumS S
  | [], _ => rfl
  | s :: S, h => by
    have h1 := mins_length (S := S) fun x hx => h x (List.mem_cons_of_mem _ hx)
    have h2 := h s List.mem_cons_self
    have : mins (s :: S) = minsP s ++ mins S := rfl
    unfold ivP at h2
    rw [this, List.length_append, minsP, minsF_length, sumS]
    omega

end Go.Proofs.YtaloobgfgehhdaaGreat
