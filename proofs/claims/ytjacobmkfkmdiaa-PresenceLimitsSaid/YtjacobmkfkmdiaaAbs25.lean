/- Regions that draw their order: on lists of slots, and how they are made from the program's text. -/
import Derived.Test.YtjacobmkfkmdiaaAbs24
set_option linter.unusedSimpArgs false
set_option linter.unusedVariables false
set_option linter.unusedSectionVars false
namespace Go.Abs

def tkOf (i : Nat) : List Nat → Tk → Tk
  | [], tk => tk
  | r :: rs, tk => (i, r, false) :: tkOf i rs tk

theorem tkOf_eq (i : Nat) (tk : Tk) : ∀ rs, tkOf i rs tk = rs.map (fun r => (i, r, false)) ++ tk
  | [] => rfl
  | r :: rs => by simp [tkOf, tkOf_eq i tk rs]

def runD (P : Program) (base i : Nat) (d : DOp) (tk : Tk) (env : Env) (rows : List Row) (K : Tk → Env → List Row → Prop) : Prop :=
  match d.res with
  | some q => okTk d.un tk [base + q] [] ∧ evR d.io.op (d.io.args.map (Opd.ev env)) (base + q) rows fun v rows' => K ((i, base + q, true) :: tk) (put env d.io.dst v) rows'
  | none =>
    match d.io.op with
    | .call f => callT P f (d.io.args.map (Opd.ev env)) d.un tk rows fun v rows' => K tk (put env d.io.dst v) rows'
    | op => okTk d.un tk (tW op (d.io.args.map (Opd.ev env))) (tR op (d.io.args.map (Opd.ev env))) ∧
        ev op (d.io.args.map (Opd.ev env)) rows fun v rows' => K (if isE op then tk else tkOf i (tR op (d.io.args.map (Opd.ev env))) tk) (put env d.io.dst v) rows'

/-- an operation under a guard's value -/
def grdD (P : Program) (base : Nat) (v : AVal) (want : Bool) (i : Nat) (d : DOp) (tk : Tk) (env : Env) (rows : List Row) (K : Tk → Env → List Row → Prop) : Prop :=
  match v with
  | .bool b => gK b want (runD P base i d tk env rows K) (K tk (put env d.io.dst (.tup [])) rows)
  | .tup [] => K tk (put env d.io.dst (.tup [])) rows
  | _ => False

def drawK (P : Program) (base : Nat) : List (Nat × DOp) → List Nat → (Env → List Row → Prop) → Tk → Env → List Row → Prop
  | [], live, K, _, env, rows => K (live.map fun s => (s, slot env s)) rows
  | (i, d) :: ds, live, K, tk, env, rows =>
    match d.io.guard with
    | none => runD P base i d tk env rows (drawK P base ds live K)
    | some (s, want) => grdD P base (slot env s) want i d tk env rows (drawK P base ds live K)

theorem runD_T {P : Program} {base i : Nat} {d : DOp} {tk : Tk} {env : Env} {rows : List Row} {K : Tk → Env → List Row → Prop} {K' : Rho → List Row → Prop} (hl : lets d.io.guard (slot env) = some true)
    (hK : ∀ env' rows', K (ext base i d (slot env) tk) env' rows' → K' (slot env') rows') (hr : runD P base i d tk env rows K) : runT P base d tk (slot env) rows K' := by
  have hargs : d.io.args.map (Opd.evF (slot env)) = d.io.args.map (Opd.ev env) := List.map_congr_left fun x _ => evF_slot env x
  unfold runD at hr
  unfold runT
  rw [hargs]
  cases hq : d.res with
  | some q =>
    rw [hq] at hr
    have he : ext base i d (slot env) tk = (i, base + q, true) :: tk := by simp [ext, hl, hq]
    rw [he] at hK
    refine ⟨hr.1, (evR_det _ _ _).mono hr.2 fun v rs hk => ?_⟩
    rw [← slot_put]
    exact hK _ _ hk
  | none =>
    rw [hq] at hr
    simp only at hr ⊢
    split
    · rename_i f hop
      rw [hop] at hr
      simp only at hr
      have he : ext base i d (slot env) tk = tk := by simp [ext, hl, hq, hop, isE]
      rw [he] at hK
      obtain ⟨sel, vw, srows, g1, g2, g3, g4⟩ := hr
      refine ⟨sel, vw, srows, g1, g2, g3, g4.mono fun v rs hk => ⟨hk.1, ?_⟩⟩
      show K' (upd (slot env) d.io.dst _) _
      rw [← slot_put]
      exact hK _ _ hk.2
    · rename_i op hop
      have he : ext base i d (slot env) tk = if isE d.io.op then tk else tkOf i (tR d.io.op (d.io.args.map (Opd.ev env))) tk := by
        simp only [ext, hl, hq, hargs, tkOf_eq, if_true]
      rw [he] at hK
      split at hr
      · rename_i f hf; exact absurd hf (hop f)
      refine ⟨hr.1, (ev_det _ _).mono hr.2 fun v rs hk => ?_⟩
      rw [← slot_put]
      exact hK _ _ hk

theorem drawK_F {P : Program} {base : Nat} {ds : List DOp} {live : List Nat} {K : Env → List Row → Prop} : ∀ (order : List Nat) (tk : Tk) (env : Env) (rows : List Row),
    drawK P base (order.map fun i => (i, ds.getD i default)) live K tk env rows → drawF P base ds order tk (fun ρ rows => K (live.map fun s => (s, ρ s)) rows) (slot env) rows
  | [], tk, env, rows, h => h
  | i :: is, tk, env, rows, h => by
    have ih := drawK_F (P := P) (base := base) (ds := ds) (live := live) (K := K) is
    rw [drawF]
    simp only [List.map_cons, drawK] at h
    unfold stepT
    have skip : lets (ds.getD i default).io.guard (slot env) = some false → drawK P base (is.map fun i => (i, ds.getD i default)) live K tk (put env (ds.getD i default).io.dst (.tup [])) rows →
        drawF P base ds is (ext base i (ds.getD i default) (slot env) tk) (fun ρ rows => K (live.map fun s => (s, ρ s)) rows) (upd (slot env) (ds.getD i default).io.dst (.tup [])) rows := by
      intro hl hk
      have he : ext base i (ds.getD i default) (slot env) tk = tk := by unfold ext; rw [hl]; simp
      rw [he, ← slot_put]
      exact ih _ _ _ hk
    split at h
    · rename_i hg
      have hl : lets (ds.getD i default).io.guard (slot env) = some true := by rw [hg]; rfl
      rw [hl]
      exact runD_T hl (fun env' rows' hk => ih _ _ _ hk) h
    · rename_i s want hg
      unfold grdD at h
      split at h
      · rename_i b hb
        have hl : lets (ds.getD i default).io.guard (slot env) = some (b == want) := by rw [hg]; simp [lets, hb]
        unfold gK at h
        split at h
        · rename_i hbw
          have hl' : lets (ds.getD i default).io.guard (slot env) = some true := by rw [hl]; simp [hbw]
          rw [hl']
          exact runD_T hl' (fun env' rows' hk => ih _ _ _ hk) h
        · rename_i hbw
          have hl' : lets (ds.getD i default).io.guard (slot env) = some false := by rw [hl]; simp [hbw]
          rw [hl']
          exact skip hl' h
      · rename_i hb
        have hl' : lets (ds.getD i default).io.guard (slot env) = some false := by rw [hg]; simp [lets, hb]
        rw [hl']
        exact skip hl' h
      · exact h.elim

/-! made from the program's text -/

/-- what a region needs besides its operations: the slots kept behind it; where it draws: for each operation some that come before it, and an order -/
structure Info where
  live : List Nat
  anc : List (List Nat)
  order : List Nat
  deriving Inhabited

def apartB (x y : IOp) : Bool :=
  (match x.dst with | some d => !(looks y).contains d | none => true) && (match y.dst with | some d => !(looks x).contains d | none => true) &&
  (match x.dst, y.dst with | some d, some e => d != e | _, _ => true)

theorem apartB_spec {x y : IOp} (h : apartB x y = true) : Apart x y := by
  simp only [apartB, Bool.and_eq_true] at h
  refine ⟨fun d hd => ?_, fun d hd => ?_, fun d hd hd' => ?_⟩
  · rw [hd] at h; simpa using h.1.1
  · rw [hd] at h; simpa using h.1.2
  · rw [hd, hd'] at h; simp at h

/-- the row that an operation fills -/
def resT : AOp → Option (TypeId × Nat)
  | .alloc e z => some (e, z.length)
  | .box e sz => some (e, sz)
  | .bslice e sz _ len _ => if len = 0 then none else some (e, sz)
  | _ => none

def unOf (anc : List (List Nat)) (n j : Nat) : List Nat :=
  (List.range n).filter fun i => i != j && !((anc.getD j []).contains i) && !((anc.getD i []).contains j)

def mkD (anc : List (List Nat)) (n : Nat) : Nat → Nat → List IOp → List DOp
  | _, _, [] => []
  | j, q, io :: ios =>
    match resT io.op with
    | some _ => ⟨io, some q, unOf anc n j⟩ :: mkD anc n (j + 1) (q + 1) ios
    | none => ⟨io, none, unOf anc n j⟩ :: mkD anc n (j + 1) q ios

theorem mkD_io {anc : List (List Nat)} {n : Nat} : ∀ (ios : List IOp) (j q k : Nat) (io : IOp), ios[k]? = some io → ((mkD anc n j q ios).getD k default).io = io
  | [], _, _, _, _, h => by simp at h
  | x :: ios, j, q, k, io, h => by
    rw [mkD]
    cases k with
    | zero => simp at h; subst h; split <;> simp
    | succ k =>
      simp at h
      split
      · simpa using mkD_io ios (j + 1) (q + 1) k io h
      · simpa using mkD_io ios (j + 1) q k io h

def ancB (ops : Array Oper) (anc : List (List Nat)) : Nat → List Oper → Bool
  | _, [] => true
  | j, o :: os => (anc.getD j []).all (fun i => o.after.toList.any fun e => Region.binds .any e && (e.on == i || (anc.getD e.on []).contains i)) && ancB ops anc (j + 1) os

theorem ancB_spec {ops : Array Oper} {anc : List (List Nat)} : ∀ (os : List Oper) (j : Nat), ancB ops anc j os = true → ∀ k o, os[k]? = some o → ∀ i ∈ anc.getD (j + k) [], ∃ e ∈ o.after, Region.binds .any e = true ∧ (e.on = i ∨ i ∈ anc.getD e.on [])
  | [], j, _, k, o, h => by simp at h
  | x :: os, j, hb, k, o, h => by
    simp only [ancB, Bool.and_eq_true] at hb
    cases k with
    | zero =>
      simp at h; subst h
      intro i hi
      have := List.all_eq_true.1 hb.1 i hi
      obtain ⟨e, he, h2⟩ := List.any_eq_true.1 this
      simp only [Bool.and_eq_true, Bool.or_eq_true, beq_iff_eq, List.contains_iff_mem] at h2
      exact ⟨e, by simpa using he, h2.1, h2.2⟩
    | succ k =>
      have := ancB_spec os (j + 1) hb.2 k o (by simpa using h)
      rw [show j + (k + 1) = j + 1 + k by omega]
      exact this

def pairB (ds : List DOp) (anc : List (List Nat)) (n : Nat) : Bool :=
  (List.range n).all fun i => !(ds.getD i default).easy || (List.range n).all fun j =>
    j == i || (anc.getD j []).contains i || (anc.getD i []).contains j || ((ds.getD j default).un.contains i && apartB (ds.getD i default).io (ds.getD j default).io)

theorem pairB_spec {ds : List DOp} {anc : List (List Nat)} {n : Nat} (h : pairB ds anc n = true) : ∀ i j, i < n → j < n → j ≠ i → (ds.getD i default).easy = true → PairOk ds anc i j := by
  intro i j hi hj hne he
  have h1 := List.all_eq_true.1 h i (List.mem_range.2 hi)
  rw [he] at h1
  simp only [Bool.not_true, Bool.false_or] at h1
  have h2 := List.all_eq_true.1 h1 j (List.mem_range.2 hj)
  simp only [Bool.or_eq_true, beq_iff_eq, hne, false_or, Bool.and_eq_true, List.contains_iff_mem] at h2
  rcases h2 with (h2 | h2) | h2
  · exact .inl h2
  · exact .inr (.inl h2)
  · exact .inr (.inr ⟨apartB_spec h2.2, h2.1⟩)

end Go.Abs
