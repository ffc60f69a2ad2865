/- Overtime: the minutes of each band of a day. -/
import Derived.Test.YtaloobgfgehhdaaGreatR5Ov4
set_option linter.unusedSimpArgs false
set_option linter.unusedVariables false
set_option linter.unusedSectionVars false
namespace Go.Proofs.YtaloobgfgehhdaaGreat
open Go Go.Abs
set_option linter.unusedSimpArgs false
set_option linter.unusedVariables false

def addT (b : ByteArray) (m : Int) : List Tm → List Tm
  | [] => [⟨b, m⟩]
  | t :: ts => if sEq t.name b then ⟨t.name, t.min + m⟩ :: ts else t :: addT b m ts
def totP (day : Int) (p : Pc) : Prop := p.day = day ∧ ivP p.fr p.to
instance (day : Int) (p : Pc) : Decidable (totP day p) := inferInstanceAs (Decidable (p.day = day ∧ ivP p.fr p.to))
def tot (day : Int) (acc : List Tm) (p : Pc) : List Tm := if totP day p then addT p.band (p.to - p.fr) acc else acc
def totals (l : List Pc) (day : Int) : List Tm := (l.take 4096).foldl (tot day) []
def idxT (b : ByteArray) : List Tm → Option Nat
  | [] => none
  | t :: ts => if sEq t.name b then some 0 else (idxT b ts).map (· + 1)
def placesOf : Nat → List Tm → List (AVal × AVal)
  | _, [] => []
  | k, t :: ts => (.str t.name, .int .i64 (k : Nat)) :: placesOf (k + 1) ts
theorem sEq_comm (a b : ByteArray) : sEq a b = sEq b a := by unfold sEq; rw [Bool.beq_comm]
theorem isKey_str (a b : ByteArray) : isKey (.str a) (.str b) = sEq b a := by
  rw [sEq_comm]
  unfold isKey acells eqCells sEq
  simp [eqCells]
theorem kfind_places (b : ByteArray) : ∀ (k : Nat) (acc : List Tm), kfind (.str b) (placesOf k acc) = (idxT b acc).map fun i => .int .i64 ((k + i : Nat) : Int)
  | _, [] => rfl
  | k, t :: ts => by
    rw [placesOf, kfind, isKey_str, idxT]
    by_cases h : sEq t.name b = true
    · rw [if_pos h, if_pos h]; simp
    · rw [if_neg h, if_neg h, kfind_places b (k + 1) ts]
      cases idxT b ts with
      | none => rfl
      | some i => simp; omega
theorem kput_places (b : ByteArray) (m : Int) : ∀ (k : Nat) (acc : List Tm), idxT b acc = none → kput (.str b) (.int .i64 ((k + acc.length : Nat) : Int)) (placesOf k acc) = placesOf k (acc ++ [⟨b, m⟩])
  | k, [], _ => by simp [placesOf, kput]
  | k, t :: ts, h => by
    rw [idxT] at h
    by_cases h1 : sEq t.name b = true
    · rw [if_pos h1] at h; cases h
    · rw [if_neg h1] at h
      have h2 : idxT b ts = none := by cases hh : idxT b ts with
        | none => rfl
        | some i => rw [hh] at h; simp at h
      have ih := kput_places b m (k + 1) ts h2
      rw [placesOf, kput, isKey_str, if_neg h1, List.cons_append, placesOf, ← ih]
      congr 4
      simp only [List.length_cons]
      omega
theorem addT_none {b : ByteArray} {m : Int} : ∀ {acc : List Tm}, idxT b acc = none → addT b m acc = acc ++ [⟨b, m⟩]
  | [], _ => rfl
  | t :: ts, h => by
    rw [idxT] at h
    by_cases h1 : sEq t.name b = true
    · rw [if_pos h1] at h; cases h
    · rw [if_neg h1] at h
      have h2 : idxT b ts = none := by cases hh : idxT b ts with
        | none => rfl
        | some i => rw [hh] at h; simp at h
      rw [addT, if_neg h1, addT_none h2, List.cons_append]
theorem addT_some {b : ByteArray} {m : Int} : ∀ {acc : List Tm} {i : Nat}, idxT b acc = some i → ∃ h : i < acc.length, addT b m acc = acc.set i ⟨acc[i].name, acc[i].min + m⟩
  | [], _, h => by cases h
  | t :: ts, i, h => by
    rw [idxT] at h
    by_cases h1 : sEq t.name b = true
    · rw [if_pos h1] at h
      cases h
      exact ⟨by simp, by rw [addT, if_pos h1]; rfl⟩
    · rw [if_neg h1] at h
      cases hh : idxT b ts with
      | none => rw [hh] at h; cases h
      | some j =>
        rw [hh] at h
        simp at h
        subst h
        obtain ⟨h2, h3⟩ := addT_some (m := m) hh
        exact ⟨by simp; omega, by rw [addT, if_neg h1, h3]; rfl⟩
theorem places_set : ∀ (k : Nat) (acc : List Tm) (i : Nat) (h : i < acc.length) (m : Int), placesOf k (acc.set i ⟨acc[i].name, m⟩) = placesOf k acc
  | _, [], i, h, _ => by simp at h
  | k, t :: ts, 0, _, m => rfl
  | k, t :: ts, i + 1, h, m => by
    have := places_set (k + 1) ts i (by simpa using h) m
    simp only [List.getElem_cons_succ, List.set_cons_succ, placesOf, this]
theorem tots_take {l : List Pc} {day : Int} {i : Nat} (h : i < l.length) : (l.take (i + 1)).foldl (tot day) [] = tot day ((l.take i).foldl (tot day) []) l[i] := by
  rw [List.take_add_one, List.getElem?_eq_getElem h, Option.toList_some, List.foldl_append]; rfl
theorem addT_bd {b : ByteArray} {m B : Int} (h0 : 0 ≤ m) : ∀ {acc : List Tm}, 0 ≤ B → (∀ t ∈ acc, 0 ≤ t.min ∧ t.min ≤ B) → ∀ t ∈ addT b m acc, 0 ≤ t.min ∧ t.min ≤ B + m
  | [], hB, _, t, ht => by
    simp only [addT, List.mem_singleton] at ht
    subst ht; simp only; omega
  | x :: acc, hB, h, t, ht => by
    rw [addT] at ht
    have hx := h x List.mem_cons_self
    split at ht
    · rcases List.mem_cons.1 ht with rfl | ht
      · simp only; omega
      · have := h t (List.mem_cons_of_mem _ ht); omega
    · rcases List.mem_cons.1 ht with rfl | ht
      · omega
      · exact addT_bd h0 hB (fun y hy => h y (List.mem_cons_of_mem _ hy)) t ht
theorem tots_bd (l : List Pc) (day : Int) : ∀ i, i ≤ l.length → (∀ t ∈ (l.take i).foldl (tot day) [], 0 ≤ t.min ∧ t.min ≤ 120968640 * i) ∧ ((l.take i).foldl (tot day) []).length ≤ i
  | 0, _ => by simp
  | i + 1, h => by
    obtain ⟨h1, h2⟩ := tots_bd l day i (by omega)
    rw [tots_take (by omega)]
    rw [tot]
    split
    · rename_i hp
      obtain ⟨_, hp⟩ := hp
      unfold ivP at hp
      refine ⟨fun t ht => ?_, ?_⟩
      · have := addT_bd (b := l[i].band) (m := l[i].to - l[i].fr) (B := 120968640 * i) (by omega) (by omega) h1 t ht
        omega
      · cases hx : idxT l[i].band ((l.take i).foldl (tot day) []) with
        | none => rw [addT_none hx, List.length_append]; simp; omega
        | some j => obtain ⟨_, e⟩ := addT_some (m := l[i].to - l[i].fr) hx; rw [e, List.length_set]; omega
    · exact ⟨fun t ht => by have := h1 t ht; omega, by omega⟩
theorem cleanM_places : ∀ (k : Nat) (acc : List Tm), cleanM (placesOf k acc) = true
  | _, [] => rfl
  | k, t :: ts => by
    have := cleanM_places (k + 1) ts
    simp only [cleanM, placesOf, List.map_cons, cleanL, clean, Bool.true_and] at this ⊢
    exact this

end Go.Proofs.YtaloobgfgehhdaaGreat
