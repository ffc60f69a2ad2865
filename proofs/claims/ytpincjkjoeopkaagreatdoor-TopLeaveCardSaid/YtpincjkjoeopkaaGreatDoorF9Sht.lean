/- The sheet: results of days in a map, their lists in rows of their own, wherever these lie. -/
import Derived.Test.YtpincjkjoeopkaaGreatDoorF3Gen
import Derived.Test.YtpincjkjoeopkaaGreatDoorAbsMg
import Derived.Test.YtpincjkjoeopkaaGreatDoorB4Forms
set_option linter.unusedSimpArgs false
set_option linter.unusedVariables false
set_option linter.unusedSectionVars false
namespace Go.Proofs.YtpincjkjoeopkaaGreatDoor
open Go Go.Abs
set_option linter.unusedSimpArgs false
set_option linter.unusedVariables false

theorem app_some {α : Type} {l t : List α} {i : Nat} {x : α} (h : l[i]? = some x) : (l ++ t)[i]? = some x := by
  rw [List.getElem?_append_left (List.getElem?_eq_some_iff.1 h).1, h]
theorem app_at {α : Type} {l t : List α} {k : Nat} : (l ++ t)[l.length + k]? = t[k]? := by
  rw [List.getElem?_append_right (by omega)]; simp
theorem app_at0 {α : Type} {l t : List α} : (l ++ t)[l.length]? = t[0]? := by
  rw [List.getElem?_append_right (by omega)]; simp
theorem app_set {α : Type} {l t : List α} {k : Nat} {x : α} : (l ++ t).set (l.length + k) x = l ++ t.set k x := by
  rw [List.set_append_right _ _ (by omega)]; simp
theorem app_set0 {α : Type} {l t : List α} {x : α} : (l ++ t).set l.length x = l ++ t.set 0 x := by
  rw [List.set_append_right _ _ (by omega)]; simp
theorem app_setL {α : Type} {l t : List α} {k : Nat} {x y : α} (h : l[k]? = some y) : (l ++ t).set k x = l.set k x ++ t := List.set_append_left _ _ (List.getElem?_eq_some_iff.1 h).1

def mapF (f : Int → AVal) (ks : List Int) : List (AVal × AVal) := ks.map fun k => (.int .i64 k, f k)
def addK (k : Int) (ks : List Int) : List Int := if k ∈ ks then ks else ks ++ [k]
theorem kfind_mapF {f : Int → AVal} {k : Int} : ∀ {l : List Int}, kfind (.int .i64 k) (mapF f l) = if k ∈ l then some (f k) else none
  | [] => by simp [mapF, kfind]
  | p :: l => by
    have ih := kfind_mapF (f := f) (k := k) (l := l)
    unfold mapF at *
    rw [List.map_cons, kfind]
    have : isKey (.int .i64 k) (.int .i64 p) = (k == p) := by simp [isKey, acells, eqCells]
    simp only [this]
    by_cases hk : k = p
    · subst hk; simp
    · simp only [beq_iff_eq, hk, if_false, ih, List.mem_cons, false_or]
theorem kput_mapG {f g : Int → AVal} {k : Int} (hfg : ∀ x, x ≠ k → f x = g x) : ∀ {l : List Int}, l.Nodup → kput (.int .i64 k) (g k) (mapF f l) = mapF g (addK k l)
  | [], _ => by simp [mapF, kput, addK]
  | p :: l, hl => by
    rw [List.nodup_cons] at hl
    have ih := kput_mapG hfg hl.2
    unfold mapF addK at *
    rw [List.map_cons, kput]
    have : isKey (.int .i64 k) (.int .i64 p) = (k == p) := by simp [isKey, acells, eqCells]
    simp only [this]
    by_cases hk : k = p
    · subst hk
      simp
      exact fun a ha => hfg a (fun e => hl.1 (e ▸ ha))
    · simp only [beq_iff_eq, hk, if_false, ih, List.mem_cons, false_or]
      split <;> simp [hfg p (fun e => hk e.symm)]
theorem addK_mem {k x : Int} {ks : List Int} : x ∈ addK k ks ↔ x = k ∨ x ∈ ks := by
  unfold addK
  split
  · constructor
    · exact .inr
    · rintro (rfl | h)
      · assumption
      · exact h
  · rw [List.mem_append, List.mem_singleton]; exact Or.comm
theorem addK_nodup {k : Int} {ks : List Int} (h : ks.Nodup) : (addK k ks).Nodup := by
  unfold addK
  split
  · exact h
  · rename_i hk
    rw [List.nodup_append]
    exact ⟨h, by simp, fun a ha b hb => by rw [List.mem_singleton] at hb; subst hb; exact fun e => hk (e ▸ ha)⟩

def shT (k : Bool) : TypeId := if k then 132 else 78
def shV (X : Int → Bool → Nat) (V : Int → Bool → List (List AVal)) (d : Int) (k : Bool) : AVal := if (V d k).length = 0 then .nils else .own (X d k) (V d k).length 0 (V d k).length
def shD (X : Int → Bool → Nat) (V : Int → Bool → List (List AVal)) (d : Int) : AVal := .agg [.int .i64 d, shV X V d false, shV X V d true]
/-- V: of each day its times (false) and anomalies (true); ks: the days of the map -/
structure ShX (rows : List Row) (s m : Nat) (fr to : Int) (ks : List Int) (V : Int → Bool → List (List AVal)) (X : Int → Bool → Nat) : Prop where
  all : inAll rows
  s : rows[s]? = some (.live 118 3 [[.int .i64 fr, .int .i64 to, .mref m]])
  m : rows[m]? = some (.obj (.map false [.int .i64] (mapF (shD X V) ks)))
  nd : ks.Nodup
  out : ∀ d k, V d k ≠ [] → d ∈ ks
  cl : ∀ d k, cleanE (V d k) = true
  x : ∀ d k, V d k ≠ [] → rows[X d k]? = some (.live (shT k) 2 (V d k))
  inj : ∀ d k d' k', V d k ≠ [] → V d' k' ≠ [] → X d k = X d' k' → d = d' ∧ k = k'
def shAdd (V : Int → Bool → List (List AVal)) (d : Int) (k : Bool) (c : List AVal) (d' : Int) (k' : Bool) : List (List AVal) := if d' = d ∧ k' = k then V d k ++ [c] else V d' k'
def shPut (X : Int → Bool → Nat) (d : Int) (k : Bool) (q : Nat) (d' : Int) (k' : Bool) : Nat := if d' = d ∧ k' = k then q else X d' k'

theorem inAll_app {rows t : List Row} (h : inAll rows) (ht : ∀ row ∈ t, inRow (rows.length + t.length) row = true) : inAll (rows ++ t) := by
  intro r row hr
  rw [List.length_append]
  rw [List.getElem?_append] at hr
  split at hr
  · exact inRow_mono (by omega) (h r row hr)
  · exact ht _ (List.mem_of_getElem? hr)
theorem inAll_set {rows : List Row} (h : inAll rows) {k : Nat} {y : Row} (hy : inRow rows.length y = true) : inAll (rows.set k y) := by
  intro r row hr
  rw [List.length_set]
  rw [List.getElem?_set] at hr
  split at hr
  · split at hr
    · cases hr; exact hy
    · cases hr
  · exact h r row hr
theorem inM_map {n : Nat} {f : Int → AVal} : ∀ {l : List Int}, (∀ d ∈ l, inV n (f d) = true) → inM n (mapF f l) = true
  | [], _ => rfl
  | d :: l, h => by
    show (inV n (.int .i64 d) && inV n (f d) && inM n (mapF f l)) = true
    rw [h d List.mem_cons_self, inM_map fun x hx => h x (List.mem_cons_of_mem _ hx)]; rfl
theorem shV_in {n : Nat} {X : Int → Bool → Nat} {V : Int → Bool → List (List AVal)} (h : ∀ d k, V d k ≠ [] → X d k < n) (d : Int) (k : Bool) : inV n (shV X V d k) = true := by
  unfold shV
  split
  · rfl
  · rename_i hv
    simp only [inV, decide_eq_true_eq]
    exact h d k fun e => hv (by rw [e]; rfl)
theorem shD_in {n : Nat} {X : Int → Bool → Nat} {V : Int → Bool → List (List AVal)} (h : ∀ d k, V d k ≠ [] → X d k < n) (d : Int) : inV n (shD X V d) = true := by
  unfold shD
  simp only [inV, inL, shV_in h, Bool.and_self]
theorem row_lt {rows : List Row} {i : Nat} {x : Row} (h : rows[i]? = some x) : i < rows.length := (List.getElem?_eq_some_iff.1 h).1
/-- one more element: W are the rows then -/
theorem ShX.app {rows W : List Row} {s m : Nat} {fr to : Int} {ks : List Int} {V : Int → Bool → List (List AVal)} {X : Int → Bool → Nat} (h : ShX rows s m fr to ks V X) (d : Int) (k : Bool) (c : List AVal) (hc : cleanL c = true) (q : Nat)
    (hq : V d k ≠ [] → q = X d k) (hq0 : V d k = [] → rows.length ≤ q)
    (hW : inAll W) (hm : W[m]? = some (.obj (.map false [.int .i64] (mapF (shD (shPut X d k q) (shAdd V d k c)) (addK d ks)))))
    (hn : W[q]? = some (.live (shT k) 2 (V d k ++ [c]))) (ho : ∀ r row, rows[r]? = some row → r ≠ m → r ≠ q → W[r]? = some row) :
    ShX W s m fr to (addK d ks) (shAdd V d k c) (shPut X d k q) := by
  have hms : s ≠ m := fun e => by have h1 := h.s; rw [e, h.m] at h1; cases h1
  have hqs : s ≠ q := fun e => by
    by_cases hv : V d k = []
    · have := hq0 hv; have := row_lt h.s; omega
    · have h1 := h.s; rw [e, hq hv, h.x d k hv] at h1
      simp only [Option.some.injEq, Row.live.injEq] at h1
      have := h1.2.1; omega
  have hX : ∀ d' k', V d' k' ≠ [] → ¬ (d' = d ∧ k' = k) → X d' k' ≠ m ∧ X d' k' ≠ q := fun d' k' hv hne => by
    have h1 := h.x d' k' hv
    refine ⟨fun e => (by rw [e, h.m] at h1; cases h1), fun e => ?_⟩
    by_cases hv0 : V d k = []
    · have := hq0 hv0; have := row_lt h1; omega
    · exact hne (h.inj d' k' d k hv hv0 (e.trans (hq hv0)))
  refine ⟨hW, ho s _ h.s hms hqs, hm, addK_nodup h.nd, fun d' k' hv => ?_, fun d' k' => ?_, fun d' k' hv => ?_, fun d1 k1 d2 k2 h1 h2 he => ?_⟩
  · unfold shAdd at hv
    rw [addK_mem]
    split at hv
    · rename_i e; exact .inl e.1
    · exact .inr (h.out d' k' hv)
  · unfold shAdd
    split
    · rw [cleanE_append, h.cl]; simp [cleanE, hc]
    · exact h.cl d' k'
  · unfold shAdd shPut at *
    by_cases e : d' = d ∧ k' = k
    · rw [if_pos e, if_pos e, e.2]; exact hn
    · rw [if_neg e] at hv ⊢
      rw [if_neg e]
      obtain ⟨a, b⟩ := hX d' k' hv e
      exact ho _ _ (h.x d' k' hv) a b
  · unfold shAdd at h1 h2
    unfold shPut at he
    by_cases e1 : d1 = d ∧ k1 = k <;> by_cases e2 : d2 = d ∧ k2 = k
    · exact ⟨e1.1.trans e2.1.symm, e1.2.trans e2.2.symm⟩
    · rw [if_neg e2] at h2
      rw [if_pos e1, if_neg e2] at he
      exact absurd he.symm (hX d2 k2 h2 e2).2
    · rw [if_neg e1] at h1
      rw [if_neg e1, if_pos e2] at he
      exact absurd he (hX d1 k1 h1 e1).2
    · rw [if_neg e1] at h1
      rw [if_neg e2] at h2
      rw [if_neg e1, if_neg e2] at he
      exact h.inj _ _ _ _ h1 h2 he
/-- what happens to other rows -/
def ShF (rows W : List Row) (m : Nat) : Prop := rows.length ≤ W.length ∧ ∀ r row, rows[r]? = some row → r ≠ m → (∀ k vals, row ≠ .live (shT k) 2 vals) → W[r]? = some row
theorem ShF.refl {rows : List Row} {m : Nat} : ShF rows rows m := ⟨Nat.le_refl _, fun _ _ h _ _ => h⟩
theorem ShF.trans {a b c : List Row} {m : Nat} (h : ShF a b m) (k : ShF b c m) : ShF a c m := ⟨Nat.le_trans h.1 k.1, fun r row h1 h2 h3 => k.2 r row (h.2 r row h1 h2 h3) h2 h3⟩

end Go.Proofs.YtpincjkjoeopkaaGreatDoor
