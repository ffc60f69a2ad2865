/- Operations on slots. -/
import Derived.Test.YtjacobmkfkmdiaaAbs17
set_option linter.unusedSimpArgs false
set_option linter.unusedVariables false
set_option linter.unusedSectionVars false
namespace Go.Abs

inductive Opd where
  | t (s : Nat)
  | c (v : AVal)
  deriving Inhabited

def Opd.ev (env : Env) : Opd → AVal
  | .t s => slot env s
  | .c v => v

/-- an operation on slots; the guard: a slot, and what must be there -/
structure IOp where
  dst : Option Nat
  op : AOp
  args : List Opd
  guard : Option (Nat × Bool)
  deriving Inhabited

def put (env : Env) (dst : Option Nat) (v : AVal) : Env :=
  match dst with
  | some d => (d, v) :: env
  | none => env

/-- the operation itself -/
def runK (P : Program) (o : IOp) (env : Env) (rows : List Row) (K : Env → List Row → Prop) : Prop :=
  match o.op with
  | .call f => callK P f (o.args.map (Opd.ev env)) rows fun v rows' => K (put env o.dst v) rows'
  | op => ev op (o.args.map (Opd.ev env)) rows fun v rows' => K (put env o.dst v) rows'

/-- what is done under a guard, and else -/
def gK (b want : Bool) (A B : Prop) : Prop := if b = want then A else B

def stepK (P : Program) (o : IOp) (env : Env) (rows : List Row) (K : Env → List Row → Prop) : Prop :=
  match o.guard with
  | none => runK P o env rows K
  | some (s, want) =>
    match slot env s with
    | .bool b => gK b want (runK P o env rows K) (K (put env o.dst (.tup [])) rows)
    | .tup [] => K (put env o.dst (.tup [])) rows
    | _ => False

def listK (P : Program) : List IOp → (Env → List Row → Prop) → Env → List Row → Prop
  | [], K, env, rows => K env rows
  | o :: os, K, env, rows => stepK P o env rows (listK P os K)

def compileOpd : Operand → Option Opd
  | .tmp t => some (.t t)
  | .const v => (absV v).map .c
  | _ => none

def compileOpds : List Operand → Option (List Opd)
  | [] => some []
  | x :: xs =>
    match compileOpd x, compileOpds xs with
    | some y, some ys => some (y :: ys)
    | _, _ => none

def dstOk (dst : Option Nat) (n : Nat) : Bool :=
  match dst with
  | some d => decide (d < n)
  | none => true

/-- n: how many slots there are -/
def compileI (P : Program) (n : Nat) (ops : Array Oper) (o : Oper) : Option IOp :=
  match compileOp P o with
  | some (op, xs) =>
    match compileOpds xs with
    | some args =>
      if dstOk o.dst n then
        match o.guard with
        | none => some ⟨o.dst, op, args, none⟩
        | some (j, want) =>
          match (ops[j]?).bind (·.dst) with
          | some s => if s < n then some ⟨o.dst, op, args, some (s, want)⟩ else none
          | none => none
      else none
    | none => none
  | none => none

structure Fits (P : Program) (n : Nat) (ops : Array Oper) (o : Oper) (io : IOp) : Prop where
  op : ∃ xs, compileOp P o = some (io.op, xs) ∧ compileOpds xs = some io.args
  dst : io.dst = o.dst ∧ ∀ d, o.dst = some d → d < n
  guard : (o.guard = none ∧ io.guard = none) ∨ ∃ j want s, o.guard = some (j, want) ∧ (ops[j]?).bind (·.dst) = some s ∧ s < n ∧ io.guard = some (s, want)

theorem compileI_fits {P : Program} {n : Nat} {ops : Array Oper} {o : Oper} {io : IOp} (h : compileI P n ops o = some io) : Fits P n ops o io := by
  unfold compileI at h
  split at h
  · rename_i op xs hop
    split at h
    · rename_i args hargs
      split at h
      · rename_i hd
        have hd' : ∀ d, o.dst = some d → d < n := by
          intro d he
          rw [he] at hd
          simpa [dstOk] using hd
        split at h
        · rename_i hg
          simp at h; subst h
          exact ⟨⟨xs, hop, hargs⟩, ⟨rfl, hd'⟩, .inl ⟨hg, rfl⟩⟩
        · rename_i j want hg
          split at h
          · rename_i s hs
            split at h
            · rename_i hlt
              simp at h; subst h
              exact ⟨⟨xs, hop, hargs⟩, ⟨rfl, hd'⟩, .inr ⟨j, want, s, hg, hs, hlt, rfl⟩⟩
            · cases h
          · cases h
      · cases h
    · cases h
  · cases h

section
variable {P : Program} {n n0 : Nat} {C0 : Ctx} {ops : Array Oper}

theorem opd_rep {env : Env} {C : Ctx} {a : Act} (hs : Sim n env C a) {x : Operand} {y : Opd} (h : compileOpd x = some y) : Rep C (y.ev env) (a.eval x) := by
  cases x with
  | tmp t => simp [compileOpd] at h; subst h; exact hs.slots t
  | const v =>
    simp only [compileOpd] at h
    cases hv : absV v with
    | none => rw [hv] at h; simp at h
    | some b => rw [hv] at h; simp at h; subst h; exact (absV_rep hv).1
  | global g => simp [compileOpd] at h
  | func f => simp [compileOpd] at h

theorem opds_rep {env : Env} {C : Ctx} {a : Act} (hs : Sim n env C a) : ∀ {xs : List Operand} {ys : List Opd}, compileOpds xs = some ys → RepL C (ys.map (Opd.ev env)) (xs.map a.eval)
  | [], ys, h => by simp [compileOpds] at h; subst h; simp [RepL]
  | x :: xs, ys, h => by
    simp only [compileOpds] at h
    split at h
    · rename_i y zs hy hz
      simp at h; subst h
      rw [List.map_cons, List.map_cons, RepL]
      exact ⟨_, _, rfl, opd_rep hs hy, opds_rep hs hz⟩
    · cases h

theorem sim_put {env : Env} {C C' : Ctx} {a : Act} (hs : Sim n env C a) (hok : Ok C') (he : Ext C C') {dst : Option Nat} (hd : ∀ d, dst = some d → d < n) {v : AVal} {cv : Value} (hv : Rep C' v cv) :
    Sim n (put env dst v) C' (a.put dst cv) := by
  cases dst with
  | none => exact ⟨hok, hs.size, hs.defers, fun t => Rep.ext he _ _ (hs.slots t)⟩
  | some d =>
    have hdn := hd d rfl
    refine ⟨hok, by simp [Act.put, hs.size], hs.defers, fun t => ?_⟩
    simp only [put, slot, Act.put]
    split
    · rename_i hdt
      subst hdt
      have : d < a.tmps.size := by rw [hs.size]; exact hdn
      simpa [Array.getD, this] using hv
    · rename_i hdt
      have := Rep.ext he _ _ (hs.slots t)
      rw [show (a.tmps.setIfInBounds d cv).getD t undef = a.tmps.getD t undef from ?_]
      · exact this
      · simp [Array.getElem?_setIfInBounds_ne hdt]

/-- what holds of the model's states where K holds of the abstract ones -/
def Holds (n n0 : Nat) (C0 : Ctx) (K : Env → List Row → Prop) (a : Act) (w : World) : Prop := ∃ env C, C.w = w ∧ Sim n env C a ∧ Later n0 C0 C ∧ K env C.rows

theorem call_form {o : Oper} {f : FuncId} {xs : List Operand} (h : compileOp P o = some (.call f, xs)) :
    ∃ args ats fn, o.op = .call { callee := .value (.func f), args := args, argTypes := ats } ∧ xs = args.toList ∧ P.funcs[f]? = some fn ∧ (fn.body.isSome && fn.name != "runtime.NumGoroutine") = true := by
  obtain ⟨dst, op, type, pos, after, guard⟩ := o
  unfold compileOp at h
  simp only at h
  split at h
  case h_26 =>
    rename_i f' args ats
    split at h
    · rename_i fn hfn
      split at h
      · rename_i hb
        simp at h
        obtain ⟨rfl, rfl⟩ := h
        exact ⟨args, ats, fn, rfl, rfl, hfn, hb⟩
      · cases h
    · cases h
  all_goals (repeat' (split at h)) <;> simp at h

theorem run_call {a : Act} {o : Oper} {f : FuncId} {xs : List Operand} (h : compileOp P o = some (.call f, xs)) (w : World) : (execOp a.eval o).run P w = .ok (.enter f (xs.map a.eval).toArray) w := by
  obtain ⟨args, ats, fn, ho, rfl, hfn, hb⟩ := call_form h
  simp only [Bool.and_eq_true, bne_iff_ne, ne_eq] at hb
  have hbody : fn.body.isNone = false := by rw [Option.isNone_eq_false_iff]; exact hb.1
  have hname : (fn.name == "runtime.NumGoroutine") = false := beq_eq_false_iff_ne.2 hb.2
  have hargs : args.map a.eval = (args.toList.map a.eval).toArray := Array.ext' (by simp)
  unfold execOp
  simp only [ho, resolve, Deferred.ofValue, Act.eval, Sem.run_bind, Sem.run_pure, Result.andThen_ok, invoke, callFunc, run_program, hfn, hname, hbody, Bool.false_eq_true, if_false]
  simp [hargs]

/-- one operation -/
theorem step_sound {env : Env} {C : Ctx} {a : Act} {i : Nat} {o : Oper} {io : IOp} (hi : ops[i]? = some o) (hf : Fits P n ops o io) (hs : Sim n env C a) (hl : Later n0 C0 C)
    {K : Env → List Row → Prop} {Kc : Act → World → Prop} {Q : Exit → Act → World → Prop} (hK : ∀ a w, Holds n n0 C0 K a w → Kc a w) (h : stepK P io env C.rows K) : wpOp P ops Q i Kc a C.w := by
  obtain ⟨⟨xs, hop, hargs⟩, ⟨hdst, hdn⟩, hg⟩ := hf
  have hrep := opds_rep hs hargs
  have hdn' : ∀ d, io.dst = some d → d < n := by rw [hdst]; exact hdn
  have skip : K (put env io.dst (.tup [])) C.rows → Kc (a.put o.dst undef) C.w := by
    intro hk
    refine hK _ _ ⟨_, C, rfl, ?_, hl, hk⟩
    rw [← hdst]
    exact sim_put hs hs.ok (Ext.refl C) hdn' (by rw [Rep]; exact ⟨#[], rfl, by simp [RepL]⟩)
  have run : runK P io env C.rows K → o.wp P a C.w Kc Q := by
    intro hr
    unfold runK at hr
    unfold Oper.wp
    split at hr
    · rename_i f hfo
      rw [hfo] at hop
      rw [run_call hop, Oper.upon_enter]
      refine (call_sound hs.ok hrep hr).mono ?_
      rintro e w' ⟨cv, v, C', rfl, rfl, h1, h2, h3, h4⟩
      refine hK _ _ ⟨_, C', rfl, ?_, hl.trans h3 hl.len, h4⟩
      rw [← hdst]
      exact sim_put hs h2 h3.ext hdn' h1
    · rename_i hnc
      obtain ⟨nx, cv, v, C', h1, h2, h3, h4, h5, h6⟩ := ev_sound hop (fun f hf => hnc f hf) hs.ok a.eval hrep hr
      rw [h1]
      have : Kc (a.put o.dst cv) C'.w := by
        refine hK _ _ ⟨_, C', rfl, ?_, hl.trans h5 hl.len, h6⟩
        rw [← hdst]
        exact sim_put hs h4 h5.ext hdn' h3
      rcases h2 with rfl | ⟨rfl, rfl⟩
      · exact this
      · exact this
  unfold wpOp
  rw [hi]
  simp only
  rcases hg with ⟨g1, g2⟩ | ⟨j, want, s, g1, g2, g3, g4⟩
  · have hw : Region.wanted o (yielded ops a.tmps) = true := by simp [Region.wanted, g1]
    rw [if_pos hw]
    simp only [stepK, g2] at h
    exact .inl (run h)
  · simp only [stepK, g4] at h
    have hslot := hs.slots s
    have hsz : s < a.tmps.size := by rw [hs.size]; exact g3
    have hy : ∀ v, a.tmps.getD s undef = v → yielded ops a.tmps j = (match v with | .bool b => some b | _ => none) := by
      intro v hv
      have h1 : a.tmps[s]? = some v := by
        rw [Array.getElem?_eq_getElem hsz]
        simpa [Array.getD, hsz] using hv
      unfold yielded
      rw [g2]
      simp only [Option.bind_some, h1]
      cases v <;> rfl
    split at h
    · rename_i b hb
      rw [hb, Rep] at hslot
      have hy' := hy _ hslot
      simp only at hy'
      unfold gK at h
      split at h
      · rename_i hbw
        have hw : Region.wanted o (yielded ops a.tmps) = true := by simp [Region.wanted, g1, hy', hbw]
        rw [if_pos hw]
        exact .inl (run h)
      · rename_i hbw
        have hw : ¬ Region.wanted o (yielded ops a.tmps) = true := by simp [Region.wanted, g1, hy', hbw]
        rw [if_neg hw]
        exact skip h
    · rename_i hb
      rw [hb, Rep] at hslot
      obtain ⟨vs, hv, _⟩ := hslot
      have hy' := hy _ hv
      simp only at hy'
      have hw : ¬ Region.wanted o (yielded ops a.tmps) = true := by simp [Region.wanted, g1, hy']
      rw [if_neg hw]
      exact skip h
    · exact h.elim

/-- operations, one behind the other -/
theorem list_sound {K : Env → List Row → Prop} {Q : Exit → Act → World → Prop} (hQ : ∀ a w, Holds n n0 C0 K a w → Q .normal a w) : ∀ (l : List Nat) (ios : List IOp),
    ios.length = l.length → (∀ k (hk : k < l.length), ∃ o io, ops[l[k]]? = some o ∧ ios[k]? = some io ∧ Fits P n ops o io) → ∀ a w, Holds n n0 C0 (listK P ios K) a w → wpOps P ops Q l a w
  | [], ios, hl, _, a, w, h => by
    have : ios = [] := List.eq_nil_of_length_eq_zero (by simpa using hl)
    subst this
    exact hQ a w h
  | i :: l, [], hl, _, a, w, h => by simp at hl
  | i :: l, io :: ios, hl, hf, a, w, h => by
    obtain ⟨o, io', h1, h2, h3⟩ := hf 0 (by simp)
    simp at h1 h2
    subst h2
    obtain ⟨env, C, rfl, hs, hlat, hk⟩ := h
    rw [wpOps_cons]
    refine step_sound h1 h3 hs hlat ?_ hk
    intro a' w' h'
    exact list_sound hQ l ios (by simpa using hl) (fun k hk' => hf (k + 1) (by simpa using hk')) a' w' h'

end
end Go.Abs
