/- Regions that draw their order: definitions, and that each step is sound. -/
import Derived.Test.YtjacobmkfkmdiaaAbs18
set_option linter.unusedSimpArgs false
set_option linter.unusedVariables false
set_option linter.unusedSectionVars false
namespace Go.Abs

abbrev Rho := Nat → AVal
abbrev Tk := List (Nat × Nat × Bool)

def upd (ρ : Rho) (d : Option Nat) (v : AVal) : Rho :=
  match d with
  | some d => fun t => if d = t then v else ρ t
  | none => ρ

def Opd.evF (ρ : Rho) : Opd → AVal
  | .t s => ρ s
  | .c v => v

theorem slot_put (env : Env) (d : Option Nat) (v : AVal) : slot (put env d v) = upd (slot env) d v := by
  cases d with
  | none => rfl
  | some d => funext t; simp [put, slot, upd]

theorem evF_slot (env : Env) (x : Opd) : x.evF (slot env) = x.ev env := by cases x <;> rfl

/-- an operation of a region that draws: 'res': the number of its reserved row; 'un': the operations whose order with it is open -/
structure DOp where
  io : IOp
  res : Option Nat
  un : List Nat
  deriving Inhabited

def rowOf : AVal → List Nat
  | .own r _ _ _ => [r]
  | .ref r _ _ _ => [r]
  | _ => []

/-- rows that an operation writes -/
def tW : AOp → List AVal → List Nat
  | .store _, x :: _ => rowOf x
  | .append .., x :: _ => rowOf x
  | .frz, x :: _ => rowOf x
  | _, _ => []
/-- rows that an operation reads -/
def tR : AOp → List AVal → List Nat
  | .load1, x :: _ => rowOf x
  | .loadA _, x :: _ => rowOf x
  | .indexAddr _, x :: _ => rowOf x
  | .slice .., x :: _ => rowOf x
  | .b2s, x :: _ => rowOf x
  | .append .., [_, y] => rowOf y
  | _, _ => []

/-- operations that change rows, or make new ones at the end -/
def isE : AOp → Bool
  | .store _ | .append .. | .frz | .call _ | .mkslice .. | .alloc .. | .box .. | .bslice .. => true
  | _ => false

/-- nothing that was taken first is touched -/
def okTk (un : List Nat) (tk : Tk) (W R : List Nat) : Prop := ∀ i r w, (i, r, w) ∈ tk → i ∈ un → r ∉ W ∧ (w = true → r ∉ R)

/-- an operation that makes memory, at a reserved row -/
def evR (op : AOp) (args : List AVal) (k : Nat) (rows : List Row) (K : AVal → List Row → Prop) : Prop :=
  match op, args with
  | .alloc e zero, [] => rows[k]? = some (.live e zero.length []) ∧ K (.ref k 1 0 0) (rows.set k (.live e zero.length [zero]))
  | .box e sz, [x] => ((acells x).length = sz ∧ (acells x).all one = true) ∧ rows[k]? = some (.live e sz []) ∧ K (.ref k 1 0 0) (rows.set k (.live e sz [acells x]))
  | .bslice e sz zero len idx, vs =>
    match fillE (List.replicate len zero) sz idx vs with
    | some es => ((vs.all fun v => (acells v).all one) = true ∧ 0 < len) ∧ rows[k]? = some (.live e sz []) ∧ K (.own k len 0 len) (rows.set k (.live e sz es))
    | none => False
  | _, _ => False

def callT (P : Program) (f : FuncId) (args : List AVal) (un : List Nat) (tk : Tk) (rows : List Row) (K : AVal → List Row → Prop) : Prop :=
  ∃ (sel vw : List Nat) (srows : List Row), okTk un tk sel vw ∧ sel.Nodup ∧ getRows rows vw (sel.map some) (sel.map some) = some srows ∧
    AFn P f (bindL rows (sel.map some) vw args) srows fun v rs => (vw = [] ∨ (flat v = true ∧ (rs.all flatRow) = true)) ∧ K (renV (back rows.length sel) v) (mergeR rows sel (rs.map (renRow (back rows.length sel))))

def runT (P : Program) (base : Nat) (d : DOp) (tk : Tk) (ρ : Rho) (rows : List Row) (K : Rho → List Row → Prop) : Prop :=
  match d.res with
  | some q => okTk d.un tk [base + q] [] ∧ evR d.io.op (d.io.args.map (Opd.evF ρ)) (base + q) rows fun v rows' => K (upd ρ d.io.dst v) rows'
  | none =>
    match d.io.op with
    | .call f => callT P f (d.io.args.map (Opd.evF ρ)) d.un tk rows fun v rows' => K (upd ρ d.io.dst v) rows'
    | op => okTk d.un tk (tW op (d.io.args.map (Opd.evF ρ))) (tR op (d.io.args.map (Opd.evF ρ))) ∧ ev op (d.io.args.map (Opd.evF ρ)) rows fun v rows' => K (upd ρ d.io.dst v) rows'

/-- does the guard let it run? -/
def lets (g : Option (Nat × Bool)) (ρ : Rho) : Option Bool :=
  match g with
  | none => some true
  | some (s, want) =>
    match ρ s with
    | .bool b => some (b == want)
    | .tup [] => some false
    | _ => none

def stepT (P : Program) (base : Nat) (d : DOp) (tk : Tk) (ρ : Rho) (rows : List Row) (K : Rho → List Row → Prop) : Prop :=
  match lets d.io.guard ρ with
  | some true => runT P base d tk ρ rows K
  | some false => K (upd ρ d.io.dst (.tup [])) rows
  | none => False

/-- what an operation that was taken first must find unchanged -/
def ext (base i : Nat) (d : DOp) (ρ : Rho) (tk : Tk) : Tk :=
  if lets d.io.guard ρ = some true then
    match d.res with
    | some q => (i, base + q, true) :: tk
    | none => if isE d.io.op then tk else (tR d.io.op (d.io.args.map (Opd.evF ρ))).map (fun r => (i, r, false)) ++ tk
  else tk

/-- in the order of a list -/
def drawF (P : Program) (base : Nat) (ds : List DOp) : List Nat → Tk → (Rho → List Row → Prop) → Rho → List Row → Prop
  | [], _, K, ρ, rows => K ρ rows
  | i :: is, tk, K, ρ, rows => stepT P base (ds.getD i default) tk ρ rows (drawF P base ds is (ext base i (ds.getD i default) ρ tk) K)

/-- in whatever order -/
def anyT (P : Program) (base : Nat) (ops : Array Oper) (ds : List DOp) : Nat → Array Bool → Tk → (Rho → List Row → Prop) → Rho → List Row → Prop
  | 0, listed, _, K, ρ, rows => Region.ready .any ops listed = [] ∧ K ρ rows
  | fuel + 1, listed, tk, K, ρ, rows => (Region.ready .any ops listed = [] → K ρ rows) ∧
      ∀ i ∈ Region.ready .any ops listed, stepT P base (ds.getD i default) tk ρ rows (anyT P base ops ds fuel (listed.setIfInBounds i true) tk K)

/-! each operation other than a call: what it does to the rows -/

inductive Eff where
  | none
  | set (r : Nat) (x : Row)
  | push (x : Row)

def Eff.ap : Eff → List Row → List Row
  | .none, rows => rows
  | .set r x, rows => rows.set r x
  | .push x, rows => rows ++ [x]

/-- F gives one answer, and F looks at no rows but those of W and R -/
def Det (W R : List Nat) (pure : Bool) (F : List Row → (AVal → List Row → Prop) → Prop) : Prop :=
  ∀ rows K, F rows K → ∃ (v : AVal) (a : Eff), K v (a.ap rows) ∧ (pure = true → a = .none) ∧ (∀ r x, a = .set r x → r ∈ W) ∧ (∀ r, r ∈ W ∨ r ∈ R → r < rows.length) ∧
    ∀ rows2 K', (∀ x, a = .push x → rows2.length = rows.length) → (∀ r, r ∈ W ∨ r ∈ R → rows2[r]? = rows[r]?) → K' v (a.ap rows2) → F rows2 K'

theorem det_pure {F : List Row → (AVal → List Row → Prop) → Prop} {b : Bool} (h : ∀ rows K, F rows K → ∃ v, K v rows ∧ ∀ rows2 K', K' v rows2 → F rows2 K') : Det [] [] b F := by
  intro rows K hf
  obtain ⟨v, h1, h2⟩ := h rows K hf
  exact ⟨v, .none, h1, fun _ => rfl, fun r x e => (by cases e), fun r hr => (by simp at hr), fun rows2 K' _ _ hk => h2 rows2 K' hk⟩

theorem det_read {F : List Row → (AVal → List Row → Prop) → Prop} {R : List Nat} {b : Bool} (h : ∀ rows K, F rows K → ∃ v, K v rows ∧ (∀ r ∈ R, r < rows.length) ∧ ∀ rows2 K', (∀ r ∈ R, rows2[r]? = rows[r]?) → K' v rows2 → F rows2 K') : Det [] R b F := by
  intro rows K hf
  obtain ⟨v, h1, h3, h2⟩ := h rows K hf
  exact ⟨v, .none, h1, fun _ => rfl, fun r x e => (by cases e), fun r hr => h3 r (by simpa using hr), fun rows2 K' _ hr hk => h2 rows2 K' (fun r hr' => hr r (.inr hr')) hk⟩

theorem lt_of_row {rows : List Row} {r : Nat} {x : Row} (h : rows[r]? = some x) : r < rows.length := (List.getElem?_eq_some_iff.1 h).1

theorem det_load1 (x : AVal) : Det [] (rowOf x) true (fun rows K => evLoad1 rows x fun v => K v rows) := by
  refine det_read fun rows K h => ?_
  simp only [evLoad1] at h
  split at h
  · split at h
    · rename_i hr
      refine ⟨_, h.2.2, fun r' hr' => ?_, fun rows2 K' he hk => ?_⟩
      · simp [rowOf] at hr'; subst hr'; exact lt_of_row hr
      · simp only [evLoad1, (he _ (List.mem_singleton_self _)).trans hr]; exact ⟨h.1, h.2.1, hk⟩
    · exact h.elim
  · exact ⟨_, h.2, by simp [rowOf], fun rows2 K' _ hk => ⟨h.1, hk⟩⟩
  · exact h.elim

theorem det_loadA (n : Nat) (x : AVal) : Det [] (rowOf x) true (fun rows K => evLoadA rows n x fun v => K v rows) := by
  refine det_read fun rows K h => ?_
  simp only [evLoadA] at h
  split at h
  · split at h
    · rename_i hr
      refine ⟨_, h.2.2, fun r' hr' => ?_, fun rows2 K' he hk => ?_⟩
      · simp [rowOf] at hr'; subst hr'; exact lt_of_row hr
      · simp only [evLoadA, (he _ (List.mem_singleton_self _)).trans hr]; exact ⟨h.1, h.2.1, hk⟩
    · exact h.elim
  · exact ⟨_, h.2, by simp [rowOf], fun rows2 K' _ hk => ⟨h.1, hk⟩⟩
  · exact h.elim

theorem det_indexAddr (n : Nat) (x y : AVal) : Det [] (rowOf x) true (fun rows K => evIndexAddr rows n x y fun v => K v rows) := by
  refine det_read fun rows K h => ?_
  simp only [evIndexAddr] at h
  split at h
  · exact ⟨_, h.2.2.2, by simp [rowOf], fun rows2 K' _ hk => ⟨h.1, h.2.1, h.2.2.1, hk⟩⟩
  · split at h
    · rename_i hr
      refine ⟨_, h.2.2.2.2, fun r' hr' => ?_, fun rows2 K' he hk => ?_⟩
      · simp [rowOf] at hr'; subst hr'; exact lt_of_row hr
      · simp only [evIndexAddr, (he _ (List.mem_singleton_self _)).trans hr]; exact ⟨h.1, h.2.1, h.2.2.1, h.2.2.2.1, hk⟩
    · exact h.elim
  · exact h.elim

theorem det_slice (lo hi : Option AVal) (n : Nat) (x : AVal) : Det [] (rowOf x) true (fun rows K => evSlice rows lo hi n x fun v => K v rows) := by
  refine det_read fun rows K h => ?_
  simp only [evSlice] at h
  split at h
  · exact h.elim
  · rename_i l hl
    split at h
    · rename_i a b ha hb
      obtain ⟨h1, h2, h3, h⟩ := h
      split at h
      · exact ⟨_, h.2, by simp [rowOf], fun rows2 K' _ hk => by simp only [evSlice, hl, ha, hb]; exact ⟨h1, h2, h3, h.1, hk⟩⟩
      · exact ⟨_, h, by simp [rowOf], fun rows2 K' _ hk => by simp only [evSlice, hl, ha, hb]; exact ⟨h1, h2, h3, hk⟩⟩
      · split at h
        · rename_i hr
          refine ⟨_, h.2.2, fun r' hr' => ?_, fun rows2 K' he hk => ?_⟩
          · simp [rowOf] at hr'; subst hr'; exact lt_of_row hr
          · simp only [evSlice, hl, ha, hb, (he _ (List.mem_singleton_self _)).trans hr]; exact ⟨h1, h2, h3, h.1, h.2.1, hk⟩
        · exact h.elim
      · exact h.elim
    · exact h.elim

theorem det_sliceS (lo hi : Option AVal) (x : AVal) : Det [] [] true (fun rows K => evSliceS lo hi x fun v => K v rows) := by
  refine det_pure fun rows K h => ?_
  simp only [evSliceS] at h
  split at h
  · split at h
    · rename_i ha hb
      exact ⟨_, h.2.2.2, fun rows2 K' hk => by simp only [evSliceS, ha, hb]; exact ⟨h.1, h.2.1, h.2.2.1, hk⟩⟩
    · exact h.elim
  · exact h.elim

theorem det_bin (op : BinOp) (x y : AVal) : Det [] [] true (fun rows K => evBin op x y fun v => K v rows) := by
  refine det_pure fun rows K h => ?_
  simp only [evBin] at h
  split at h
  · split at h <;> first
      | exact h.elim
      | exact ⟨_, h.2, fun rows2 K' hk => ⟨h.1, hk⟩⟩
      | exact ⟨_, h.2.2, fun rows2 K' hk => ⟨h.1, h.2.1, hk⟩⟩
  · split at h <;> first
      | exact h.elim
      | exact ⟨_, h, fun rows2 K' hk => hk⟩
      | exact ⟨_, h.2, fun rows2 K' hk => ⟨h.1, hk⟩⟩
  · exact h.elim

theorem det_store (n : Nat) (x y : AVal) : Det (rowOf x) [] false (fun rows K => evStore rows n x y fun rows => K (.tup []) rows) := by
  intro rows K h
  simp only [evStore] at h
  split at h
  · split at h
    · rename_i hr
      refine ⟨_, .set _ _, h.2.2.2.2, fun e => (by cases e), fun r x e => ?_, fun r' hr' => ?_, fun rows2 K' _ he hk => ?_⟩
      · cases e; simp [rowOf]
      · simp [rowOf] at hr'; subst hr'; exact lt_of_row hr
      · simp only [evStore, (he _ (.inl (List.mem_singleton_self _))).trans hr]; exact ⟨h.1, h.2.1, h.2.2.1, h.2.2.2.1, hk⟩
    · exact h.elim
  · exact h.elim

theorem elems_same {rows rows2 : List Row} {sz : Nat} {y : AVal} (he : ∀ r ∈ rowOf y, rows2[r]? = rows[r]?) : elems? rows2 sz y = elems? rows sz y := by
  cases y <;> simp [elems?, rowOf] at he ⊢
  rw [he]

theorem elems_lt {rows : List Row} {sz : Nat} {y : AVal} {ys : List (List AVal)} (h : elems? rows sz y = some ys) : ∀ r ∈ rowOf y, r < rows.length := by
  intro r hr
  cases y <;> simp [rowOf] at hr <;> subst hr <;> simp only [elems?] at h
  · split at h
    · exact lt_of_row ‹_›
    · cases h
  · cases h

theorem det_append (e : TypeId) (sz bytes : Nat) (x y : AVal) : Det (rowOf x) (rowOf y) false (fun rows K => evAppend rows e sz bytes x y K) := by
  intro rows K h
  simp only [evAppend] at h
  split at h
  · exact h.elim
  · rename_i ys hys
    have hlt := elems_lt hys
    split at h
    · refine ⟨_, .push _, h.2, fun e => (by cases e), fun r x e => (by cases e), fun r hr => ?_, fun rows2 K' hl he hk => ?_⟩
      · exact hlt r (by simpa [rowOf] using hr)
      · simp only [evAppend, elems_same (fun r hr => he r (.inr hr)), hys, hl _ rfl]; exact ⟨h.1, hk⟩
    · split at h
      · rename_i hr
        obtain ⟨h1, h2, h3, h4, h5, h6, h⟩ := h
        refine ⟨_, .set _ _, h, fun e => (by cases e), fun r x e => ?_, fun r' hr' => ?_, fun rows2 K' _ he hk => ?_⟩
        · cases e; simp [rowOf]
        · rcases hr' with hr' | hr'
          · simp [rowOf] at hr'; subst hr'; exact lt_of_row hr
          · exact hlt _ hr'
        · simp only [evAppend, elems_same (fun r hr => he r (.inr hr)), hys, (he _ (.inl (List.mem_singleton_self _))).trans hr]; exact ⟨h1, h2, h3, h4, h5, h6, hk⟩
      · exact h.elim
    · exact h.elim

theorem det_b2s (x : AVal) : Det [] (rowOf x) true (fun rows K => evB2s rows x fun v => K v rows) := by
  refine det_read fun rows K h => ?_
  simp only [evB2s] at h
  split at h
  · exact h.elim
  · rename_i ys hys
    split at h
    · rename_i ns hns
      refine ⟨_, h, elems_lt hys, fun rows2 K' he hk => ?_⟩
      simp only [evB2s, elems_same he, hys, hns]
      exact hk
    · exact h.elim

theorem det_frz (x : AVal) : Det (rowOf x) [] false (fun rows K => evFrz rows x K) := by
  intro rows K h
  simp only [evFrz] at h
  split at h
  · split at h
    · rename_i hr
      refine ⟨_, .set _ _, h.2.2.2.2.2, fun e => (by cases e), fun r x e => ?_, fun r' hr' => ?_, fun rows2 K' _ he hk => ?_⟩
      · cases e; simp [rowOf]
      · simp [rowOf] at hr'; subst hr'; exact lt_of_row hr
      · simp only [evFrz, (he _ (.inl (List.mem_singleton_self _))).trans hr]; exact ⟨h.1, h.2.1, h.2.2.1, h.2.2.2.1, h.2.2.2.2.1, hk⟩
    · exact h.elim
  · exact h.elim

theorem det_push {F : List Row → (AVal → List Row → Prop) → Prop} {b : Bool} (hb : b = false) (h : ∀ rows K, F rows K → ∃ v x, K v (rows ++ [x]) ∧ ∀ rows2 K', rows2.length = rows.length → K' v (rows2 ++ [x]) → F rows2 K') : Det [] [] b F := by
  intro rows K hf
  obtain ⟨v, x, h1, h2⟩ := h rows K hf
  exact ⟨v, .push x, h1, fun e => (by rw [hb] at e; cases e), fun r x e => (by cases e), fun r hr => (by simp at hr), fun rows2 K' hl _ hk => h2 rows2 K' (hl x rfl) hk⟩

theorem Det.weak {W' R' : List Nat} {b : Bool} {F : List Row → (AVal → List Row → Prop) → Prop} (h : Det [] [] b F) (hW : W' = []) (hR : R' = []) : Det W' R' b F := by subst hW; subst hR; exact h

theorem det_false {W R : List Nat} {b : Bool} {F : List Row → (AVal → List Row → Prop) → Prop} (h : ∀ rows K, ¬ F rows K) : Det W R b F := fun rows K hf => absurd hf (h rows K)

theorem ev_det (op : AOp) (args : List AVal) : Det (tW op args) (tR op args) (!isE op) (ev op args) := by
  unfold ev
  split
  case h_3 => exact det_push rfl fun rows K h => ⟨_, _, h, fun rows2 K' hl hk => by rw [hl]; exact hk⟩
  case h_4 => exact det_push rfl fun rows K h => ⟨_, _, h.2.2, fun rows2 K' hl hk => by rw [hl]; exact ⟨h.1, h.2.1, hk⟩⟩
  case h_5 =>
    refine Det.weak ?_ (by rfl) (by rfl)
    refine det_pure fun rows K h => ?_
    split at h
    · exact ⟨_, h.2, fun rows2 K' hk => ⟨h.1, hk⟩⟩
    · exact h.elim
  case h_6 =>
    refine Det.weak ?_ (by rfl) (by rfl)
    refine det_push rfl fun rows K h => ?_
    split at h
    · exact ⟨_, _, h.2, fun rows2 K' hl hk => by rw [hl]; exact ⟨h.1, hk⟩⟩
    · exact h.elim
  case h_8 => exact det_push rfl fun rows K h => ⟨_, _, h.2.2.2.2, fun rows2 K' hl hk => by rw [hl]; exact ⟨h.1, h.2.1, h.2.2.1, h.2.2.2.1, hk⟩⟩
  case h_9 => exact det_load1 _
  case h_10 => exact det_loadA _ _
  case h_11 => exact det_store _ _ _
  case h_14 => exact det_bin _ _ _
  case h_20 =>
    refine det_pure fun rows K h => ?_
    simp only [evFieldAddr] at h
    split at h
    · exact ⟨_, h, fun rows2 K' hk => hk⟩
    · exact ⟨_, h, fun rows2 K' hk => hk⟩
    · exact h.elim
  case h_23 => exact det_indexAddr _ _ _
  case h_25 => exact det_slice _ _ _ _
  case h_26 => exact det_slice _ _ _ _
  case h_27 => exact det_slice _ _ _ _
  case h_28 => exact det_slice _ _ _ _
  case h_29 => exact det_sliceS _ _ _
  case h_30 => exact det_sliceS _ _ _
  case h_31 => exact det_sliceS _ _ _
  case h_32 => exact det_sliceS _ _ _
  case h_34 =>
    refine det_pure fun rows K h => ?_
    split at h
    · exact ⟨_, h, fun rows2 K' hk => hk⟩
    · exact h.elim
  case h_35 => exact det_append _ _ _ _ _
  case h_38 => exact det_b2s _
  case h_39 => exact det_frz _
  case h_40 => exact det_false fun rows K h => h
  all_goals first
    | exact det_pure fun rows K h => ⟨_, h, fun rows2 K' hk => hk⟩
    | exact det_pure fun rows K h => ⟨_, h.2, fun rows2 K' hk => ⟨h.1, hk⟩⟩
    | exact det_pure fun rows K h => ⟨_, h.2.2, fun rows2 K' hk => ⟨h.1, h.2.1, hk⟩⟩

theorem evR_out {op : AOp} {args : List AVal} {k : Nat} {rows : List Row} {K : AVal → List Row → Prop} (h : evR op args k rows K) :
    ∃ (v : AVal) (y : Row), K v (rows.set k y) ∧ k < rows.length ∧ ∀ rows2 (K' : AVal → List Row → Prop), rows2[k]? = rows[k]? → K' v (rows2.set k y) → evR op args k rows2 K' := by
  have fin : ∀ {x y : Row} {v : AVal}, rows[k]? = some x → K v (rows.set k y) → (∀ rows2 (K' : AVal → List Row → Prop), rows2[k]? = some x → K' v (rows2.set k y) → evR op args k rows2 K') →
      ∃ (v : AVal) (y : Row), K v (rows.set k y) ∧ k < rows.length ∧ ∀ rows2 (K' : AVal → List Row → Prop), rows2[k]? = rows[k]? → K' v (rows2.set k y) → evR op args k rows2 K' := by
    intro x y v h1 h2 h3
    exact ⟨v, y, h2, lt_of_row h1, fun rows2 K' he hk => h3 rows2 K' (he.trans h1) hk⟩
  unfold evR at h
  split at h
  · exact fin h.1 h.2 fun rows2 K' h1 h2 => ⟨h1, h2⟩
  · exact fin h.2.1 h.2.2 fun rows2 K' h1 h2 => ⟨h.1, h1, h2⟩
  · rename_i e sz zero1 len idx _
    split at h
    · rename_i es hes
      refine fin h.2.1 h.2.2 fun rows2 K' h1 h2 => ?_
      simp only [evR, hes]
      exact ⟨h.1, h1, h2⟩
    · exact h.elim
  · exact h.elim

theorem evR_det (op : AOp) (args : List AVal) (k : Nat) : Det [k] [] false (fun rows K => evR op args k rows K) := by
  intro rows K h
  obtain ⟨v, y, h1, h2, h3⟩ := evR_out h
  refine ⟨v, .set k y, h1, fun e => (by cases e), fun r x e => ?_, fun r hr => ?_, fun rows2 K' _ he hk => ?_⟩
  · cases e; simp
  · simp at hr; subst hr; exact h2
  · exact h3 rows2 K' (he k (by simp)) hk

theorem tW_easy {op : AOp} {args : List AVal} (h : isE op = false) : tW op args = [] := by
  cases op <;> first | rfl | (simp [isE] at h)

theorem Det.mono {W R : List Nat} {b : Bool} {F : List Row → (AVal → List Row → Prop) → Prop} (h : Det W R b F) {rows : List Row} {K K' : AVal → List Row → Prop} (hf : F rows K) (hk : ∀ v rs, K v rs → K' v rs) : F rows K' := by
  obtain ⟨v, a, h1, _, _, _, h5⟩ := h _ _ hf
  exact h5 rows K' (fun _ _ => rfl) (fun _ _ => rfl) (hk _ _ h1)

theorem okTk.mono {un : List Nat} {tk tk1 : Tk} {W R : List Nat} (ht : ∀ e ∈ tk, e ∈ tk1) (h : okTk un tk1 W R) : okTk un tk W R := fun j r w hm hj => h j r w (ht _ hm) hj

theorem step_mono {P : Program} {base : Nat} {d : DOp} {tk tk1 : Tk} (ht : ∀ e ∈ tk, e ∈ tk1) {ρ : Rho} {rows : List Row} {K K' : Rho → List Row → Prop} (h : stepT P base d tk1 ρ rows K) (hk : ∀ ρ' rows', K ρ' rows' → K' ρ' rows') : stepT P base d tk ρ rows K' := by
  unfold stepT at h ⊢
  split
  · rename_i hl
    rw [hl] at h
    simp only at h
    unfold runT at h ⊢
    split
    · rename_i q hq
      rw [hq] at h
      exact ⟨h.1.mono ht, (evR_det _ _ _).mono h.2 fun v rs hh => hk _ _ hh⟩
    · rename_i hq
      rw [hq] at h
      simp only at h
      split
      · rename_i f hop
        rw [hop] at h
        simp only at h
        obtain ⟨sel, vw, srows, g1, g2, g3, g4⟩ := h
        exact ⟨sel, vw, srows, g1.mono ht, g2, g3, g4.mono fun v rs hh => ⟨hh.1, hk _ _ hh.2⟩⟩
      · rename_i op hop
        split at h
        · rename_i f hf; exact absurd hf (hop f)
        · exact ⟨h.1.mono ht, (ev_det _ _).mono h.2 fun v rs hh => hk _ _ hh⟩
  · rename_i hl
    rw [hl] at h
    exact hk _ _ h
  · rename_i hl
    rw [hl] at h
    exact h

end Go.Abs
