/- Regions that draw their order: one order stands for all. -/
import Derived.Test.YtjacobmkfkmdiaaAbs22
set_option linter.unusedSimpArgs false
set_option linter.unusedVariables false
set_option linter.unusedSectionVars false
namespace Go.Abs
section
variable {P : Program} {base : Nat} {ops : Array Oper} {ds : List DOp} {anc : List (List Nat)}

/-- with an operation all that come before it are listed -/
def Down (anc : List (List Nat)) (listed : Array Bool) : Prop := ∀ j, listed.getD j false = true → ∀ i ∈ anc.getD j [], listed.getD i false = true

/-- 'anc': some of the operations that come before -/
def AncOk (ops : Array Oper) (anc : List (List Nat)) : Prop := ∀ j o, ops[j]? = some o → ∀ i ∈ anc.getD j [], ∃ e ∈ o.after, Region.binds .any e = true ∧ (e.on = i ∨ i ∈ anc.getD e.on [])

theorem ready_anc (ha : AncOk ops anc) {listed : Array Bool} (hd : Down anc listed) {j : Nat} (hj : j ∈ Region.ready .any ops listed) : ∀ i ∈ anc.getD j [], listed.getD i false = true := by
  intro i hi
  obtain ⟨_, o, ho, hall⟩ := mem_ready.1 hj
  obtain ⟨e, he, hb, h⟩ := ha j o ho i hi
  have := hall e he hb
  rcases h with rfl | h
  · exact this
  · exact hd _ this i h

theorem getD_true_of {listed : Array Bool} {i : Nat} (h : listed.getD i true = false) : listed.getD i false = false := by
  rcases Nat.lt_or_ge i listed.size with h' | h'
  · simp [h'] at h ⊢; exact h
  · simp [Array.getElem?_eq_none h']

theorem getD_set_self {listed : Array Bool} {i : Nat} (h : listed.getD i true = false) : (listed.setIfInBounds i true).getD i false = true := by
  rcases Nat.lt_or_ge i listed.size with h' | h'
  · simp [h']
  · simp [Array.getElem?_eq_none h'] at h

theorem down_set (ha : AncOk ops anc) {listed : Array Bool} (hd : Down anc listed) {j : Nat} (hj : j ∈ Region.ready .any ops listed) : Down anc (listed.setIfInBounds j true) := by
  intro k hk i hi
  by_cases hkj : j = k
  · subst hkj
    exact getD_set_true (ready_anc ha hd hj i hi)
  · rw [getD_set_ne false hkj] at hk
    exact getD_set_true (hd k hk i hi)

theorem anyT_tk {K : Rho → List Row → Prop} : ∀ (fuel : Nat) (listed : Array Bool) (tk tk1 : Tk) (ρ : Rho) (rows : List Row), (∀ e ∈ tk, e ∈ tk1) → anyT P base ops ds fuel listed tk1 K ρ rows → anyT P base ops ds fuel listed tk K ρ rows
  | 0, _, _, _, _, _, _, h => h
  | fuel + 1, _, tk, tk1, _, _, ht, h => ⟨h.1, fun i hi => step_mono ht (h.2 i hi) fun ρ' rows' h' => anyT_tk fuel _ tk tk1 ρ' rows' ht h'⟩

theorem ext_sub {i : Nat} {d : DOp} {ρ : Rho} {tk : Tk} : ∀ e ∈ tk, e ∈ ext base i d ρ tk := by
  intro e he
  unfold ext
  split
  · split
    · exact List.mem_cons_of_mem _ he
    · split
      · exact he
      · exact List.mem_append_right _ he
  · exact he

theorem easy_out {d : DOp} (he : d.easy = true) {tk : Tk} {ρ : Rho} {rows : List Row} {K : Rho → List Row → Prop} (h : stepT P base d tk ρ rows K) : ∃ ρ' rows', K ρ' rows' := by
  unfold stepT at h
  split at h
  · unfold runT at h
    split at h
    · obtain ⟨v, y, g, _⟩ := evR_out h.2; exact ⟨_, _, g⟩
    · rename_i hq
      have hnE : isE d.io.op = false := by simpa [DOp.easy, hq] using he
      split at h
      · rename_i f hop; rw [hop] at hnE; simp [isE] at hnE
      · obtain ⟨v, a, g, _⟩ := ev_det _ _ _ _ h.2; exact ⟨_, _, g⟩
  · exact ⟨_, _, h⟩
  · exact h.elim

/-- i and j: ordered, or free of each other -/
def PairOk (ds : List DOp) (anc : List (List Nat)) (i j : Nat) : Prop :=
  i ∈ anc.getD j [] ∨ j ∈ anc.getD i [] ∨ (Apart (ds.getD i default).io (ds.getD j default).io ∧ i ∈ (ds.getD j default).un)

theorem take (ha : AncOk ops anc) {i : Nat} (he : (ds.getD i default).easy = true) (hp : ∀ j, j < ops.size → j ≠ i → PairOk ds anc i j) {K : Rho → List Row → Prop} : ∀ (fuel : Nat) (listed : Array Bool) (tk : Tk) (ρ : Rho) (rows : List Row),
    Down anc listed → i ∈ Region.ready .any ops listed → stepT P base (ds.getD i default) tk ρ rows (anyT P base ops ds fuel (listed.setIfInBounds i true) (ext base i (ds.getD i default) ρ tk) K) →
    anyT P base ops ds (fuel + 1) listed tk K ρ rows := by
  intro fuel
  induction fuel with
  | zero =>
    intro listed tk ρ rows hd hr h
    refine ⟨fun h0 => (by rw [h0] at hr; cases hr), fun j hj => ?_⟩
    by_cases hji : j = i
    · subst hji
      exact step_mono (fun _ h => h) h fun ρ' rows' h' => anyT_tk 0 _ tk _ ρ' rows' ext_sub h'
    · have hj' := ready_mono hj hji
      obtain ⟨ρ', rows', g⟩ := easy_out he h
      rw [g.1] at hj'
      cases hj'
  | succ fuel ih =>
    intro listed tk ρ rows hd hr h
    refine ⟨fun h0 => (by rw [h0] at hr; cases hr), fun j hj => ?_⟩
    by_cases hji : j = i
    · subst hji
      exact step_mono (fun _ h => h) h fun ρ' rows' h' => anyT_tk _ _ tk _ ρ' rows' ext_sub h'
    · have hlt : j < ops.size := by
        obtain ⟨_, o, ho, _⟩ := mem_ready.1 hj
        exact (Array.getElem?_eq_some_iff.1 ho).1
      rcases hp j hlt hji with h1 | h1 | ⟨h1, h2⟩
      · have := ready_anc ha hd hj i h1
        rw [getD_true_of (mem_ready.1 hr).1] at this; cases this
      · have := ready_anc ha hd hr j h1
        rw [getD_true_of (mem_ready.1 hj).1] at this; cases this
      · have hc := commute (P := P) (base := base) he h1 h2 (step_mono (fun _ h => h) h fun ρ1 rows1 h' => h'.2 j (ready_mono hj hji))
        refine step_mono (fun _ h => h) hc fun ρ1 rows1 ⟨g1, g2⟩ => ?_
        refine ih (listed.setIfInBounds j true) tk ρ1 rows1 (down_set ha hd hj) (ready_mono hr (Ne.symm hji)) ?_
        rw [g1, Array.setIfInBounds_comm _ _ hji]
        exact g2

/-- an order that may stand for all -/
def canon (ops : Array Oper) (ds : List DOp) : Array Bool → List Nat → Bool
  | listed, [] => Region.ready .any ops listed == []
  | listed, i :: is => (Region.ready .any ops listed).contains i && ((ds.getD i default).easy || Region.ready .any ops listed == [i]) && canon ops ds (listed.setIfInBounds i true) is

theorem anyT_done {K : Rho → List Row → Prop} {listed : Array Bool} (h : Region.ready .any ops listed = []) {tk : Tk} {ρ : Rho} {rows : List Row} (hk : K ρ rows) : ∀ fuel, anyT P base ops ds fuel listed tk K ρ rows
  | 0 => ⟨h, hk⟩
  | _ + 1 => ⟨fun _ => hk, by rw [h]; simp⟩

theorem canon_any (ha : AncOk ops anc) (hp : ∀ i j, i < ops.size → j < ops.size → j ≠ i → (ds.getD i default).easy = true → PairOk ds anc i j) {K : Rho → List Row → Prop} : ∀ (order : List Nat) (listed : Array Bool) (tk : Tk) (ρ : Rho) (rows : List Row) (fuel : Nat),
    canon ops ds listed order = true → Down anc listed → order.length ≤ fuel → drawF P base ds order tk K ρ rows → anyT P base ops ds fuel listed tk K ρ rows
  | [], listed, tk, ρ, rows, fuel, hc, hd, hl, h => by
    simp [canon] at hc
    exact anyT_done hc h fuel
  | i :: is, listed, tk, ρ, rows, 0, hc, hd, hl, h => by simp at hl
  | i :: is, listed, tk, ρ, rows, fuel + 1, hc, hd, hl, h => by
    simp only [canon, Bool.and_eq_true, Bool.or_eq_true, beq_iff_eq, List.contains_iff_mem] at hc
    obtain ⟨⟨h1, h2⟩, h3⟩ := hc
    have hlt : i < ops.size := by
      obtain ⟨_, o, ho, _⟩ := mem_ready.1 h1
      exact (Array.getElem?_eq_some_iff.1 ho).1
    have ih := fun tk ρ rows => canon_any ha hp is (listed.setIfInBounds i true) tk ρ rows fuel h3 (down_set ha hd h1) (by simpa using hl) (K := K)
    rcases h2 with h2 | h2
    · exact take ha h2 (fun j hj hji => hp i j hlt hj hji h2) fuel listed tk ρ rows hd h1 (step_mono (fun _ h => h) h fun ρ' rows' h' => ih _ ρ' rows' h')
    · refine ⟨fun h0 => (by rw [h0] at h2; cases h2), fun j hj => ?_⟩
      rw [h2] at hj
      simp at hj
      subst hj
      exact step_mono (fun _ h => h) h fun ρ' rows' h' => anyT_tk _ _ tk _ ρ' rows' ext_sub (ih _ ρ' rows' h')

end
end Go.Abs
