/- Abs18, Abs19, Abs22, Abs23, Abs24, Abs25, Abs20, Abs21 joined. -/
import Derived.Test.YtpincjkjoeopkaaGreatDoorAbsMb
set_option linter.unusedSimpArgs false
set_option linter.unusedVariables false
set_option linter.unusedSectionVars false
section
/- Operations on slots. -/
namespace Go.Abs
variable [Glb]

inductive Opd where
  | t (s : Nat)
  | c (v : AVal)
  deriving Inhabited

def Opd.ev (env : Env) : Opd → AVal
  | .t s => slot env s
  | .c v => v

/-- an operation on slots; the guard: a slot, and what must be there -/
structure IOp where
  dst : Option Nat
  op : AOp
  args : List Opd
  guard : Option (Nat × Bool)
  deriving Inhabited

def put (env : Env) (dst : Option Nat) (v : AVal) : Env :=
  match dst with
  | some d => (d, v) :: env
  | none => env

/-- a function with a text -/
def fnOk (P : Program) (f : FuncId) : Prop := ∃ fn, P.funcs[f]? = some fn ∧ (fn.body.isSome && fn.name != "runtime.NumGoroutine") = true

/-- a call of a function value -/
def callV (P : Program) (vs : List AVal) (rows : List Row) (K : AVal → List Row → Prop) : Prop :=
  match vs with
  | .fn f cs :: xs => fnOk P f ∧ callK P f (xs ++ cs) rows K
  | _ => False

/-- the operation itself -/
def runK (P : Program) (o : IOp) (env : Env) (rows : List Row) (K : Env → List Row → Prop) : Prop :=
  match o.op with
  | .call f => callK P f (o.args.map (Opd.ev env)) rows fun v rows' => K (put env o.dst v) rows'
  | .next =>
    match o.args.map (Opd.ev env) with
    | [x] => evNext rows x fun v rows' => K (put env o.dst v) rows'
    | _ => False
  | .callv => callV P (o.args.map (Opd.ev env)) rows fun v rows' => K (put env o.dst v) rows'
  | op => ev op (o.args.map (Opd.ev env)) rows fun v rows' => K (put env o.dst v) rows'

/-- what is done under a guard, and else -/
def gK (b want : Bool) (A B : Prop) : Prop := if b = want then A else B

def stepK (P : Program) (o : IOp) (env : Env) (rows : List Row) (K : Env → List Row → Prop) : Prop :=
  match o.guard with
  | none => runK P o env rows K
  | some (s, want) =>
    match slot env s with
    | .bool b => gK b want (runK P o env rows K) (K (put env o.dst (.tup [])) rows)
    | .tup [] => K (put env o.dst (.tup [])) rows
    | _ => False

def listK (P : Program) : List IOp → (Env → List Row → Prop) → Env → List Row → Prop
  | [], K, env, rows => K env rows
  | o :: os, K, env, rows => stepK P o env rows (listK P os K)

def compileOpd : Operand → Option Opd
  | .tmp t => some (.t t)
  | .const v => (absV v).map .c
  | .func f => some (.c (.fn f []))
  | _ => none

def compileOpds : List Operand → Option (List Opd)
  | [] => some []
  | x :: xs =>
    match compileOpd x, compileOpds xs with
    | some y, some ys => some (y :: ys)
    | _, _ => none

def dstOk (dst : Option Nat) (n : Nat) : Bool :=
  match dst with
  | some d => decide (d < n)
  | none => true

/-- an operation that is not covered: no road may come to it (ev says False) -/
def badI (n : Nat) (ops : Array Oper) (o : Oper) : Option IOp :=
  if dstOk o.dst n then
    match o.guard with
    | none => some ⟨o.dst, .mv, [], none⟩
    | some (j, want) =>
      match (ops[j]?).bind (·.dst) with
      | some s => if s < n then some ⟨o.dst, .mv, [], some (s, want)⟩ else none
      | none => none
  else none

/-- n: how many slots there are -/
def compileI (P : Program) (n : Nat) (ops : Array Oper) (o : Oper) : Option IOp :=
  match compileOp P o with
  | some (op, xs) =>
    match compileOpds xs with
    | some args =>
      if dstOk o.dst n then
        match o.guard with
        | none => some ⟨o.dst, op, args, none⟩
        | some (j, want) =>
          match (ops[j]?).bind (·.dst) with
          | some s => if s < n then some ⟨o.dst, op, args, some (s, want)⟩ else none
          | none => none
      else none
    | none => badI n ops o
  | none => badI n ops o

structure Fits (P : Program) (n : Nat) (ops : Array Oper) (o : Oper) (io : IOp) : Prop where
  op : (∃ xs, compileOp P o = some (io.op, xs) ∧ compileOpds xs = some io.args) ∨ (io.op = .mv ∧ io.args = [])
  dst : io.dst = o.dst ∧ ∀ d, o.dst = some d → d < n
  guard : (o.guard = none ∧ io.guard = none) ∨ ∃ j want s, o.guard = some (j, want) ∧ (ops[j]?).bind (·.dst) = some s ∧ s < n ∧ io.guard = some (s, want)

theorem badI_fits {P : Program} {n : Nat} {ops : Array Oper} {o : Oper} {io : IOp} (h : badI n ops o = some io) : Fits P n ops o io := by
  unfold badI at h
  split at h
  · rename_i hd
    have hd' : ∀ d, o.dst = some d → d < n := by
      intro d he
      rw [he] at hd
      simpa [dstOk] using hd
    split at h
    · rename_i hg
      simp at h; subst h
      exact ⟨.inr ⟨rfl, rfl⟩, ⟨rfl, hd'⟩, .inl ⟨hg, rfl⟩⟩
    · rename_i j want hg
      split at h
      · rename_i s hs
        split at h
        · rename_i hlt
          simp at h; subst h
          exact ⟨.inr ⟨rfl, rfl⟩, ⟨rfl, hd'⟩, .inr ⟨j, want, s, hg, hs, hlt, rfl⟩⟩
        · cases h
      · cases h
  · cases h

theorem compileI_fits {P : Program} {n : Nat} {ops : Array Oper} {o : Oper} {io : IOp} (h : compileI P n ops o = some io) : Fits P n ops o io := by
  unfold compileI at h
  split at h
  · rename_i op xs hop
    split at h
    · rename_i args hargs
      split at h
      · rename_i hd
        have hd' : ∀ d, o.dst = some d → d < n := by
          intro d he
          rw [he] at hd
          simpa [dstOk] using hd
        split at h
        · rename_i hg
          simp at h; subst h
          exact ⟨.inl ⟨xs, hop, hargs⟩, ⟨rfl, hd'⟩, .inl ⟨hg, rfl⟩⟩
        · rename_i j want hg
          split at h
          · rename_i s hs
            split at h
            · rename_i hlt
              simp at h; subst h
              exact ⟨.inl ⟨xs, hop, hargs⟩, ⟨rfl, hd'⟩, .inr ⟨j, want, s, hg, hs, hlt, rfl⟩⟩
            · cases h
          · cases h
      · cases h
    · exact badI_fits h
  · exact badI_fits h

section
variable {P : Program} {n n0 : Nat} {C0 : Ctx} [GO C0] {ops : Array Oper}

theorem opd_rep {env : Env} {C : Ctx} {a : Act} (hs : Sim n env C a) {x : Operand} {y : Opd} (h : compileOpd x = some y) : Rep C (y.ev env) (a.eval x) := by
  cases x with
  | tmp t => simp [compileOpd] at h; subst h; exact hs.slots t
  | const v =>
    simp only [compileOpd] at h
    cases hv : absV v with
    | none => rw [hv] at h; simp at h
    | some b => rw [hv] at h; simp at h; subst h; exact (absV_rep hv).1
  | global g => simp [compileOpd] at h
  | func f =>
    simp [compileOpd] at h; subst h
    simp only [Opd.ev]
    rw [Rep]
    exact ⟨#[], rfl, by simp [RepL]⟩

theorem opds_rep {env : Env} {C : Ctx} {a : Act} (hs : Sim n env C a) : ∀ {xs : List Operand} {ys : List Opd}, compileOpds xs = some ys → RepL C (ys.map (Opd.ev env)) (xs.map a.eval)
  | [], ys, h => by simp [compileOpds] at h; subst h; simp [RepL]
  | x :: xs, ys, h => by
    simp only [compileOpds] at h
    split at h
    · rename_i y zs hy hz
      simp at h; subst h
      rw [List.map_cons, List.map_cons, RepL]
      exact ⟨_, _, rfl, opd_rep hs hy, opds_rep hs hz⟩
    · cases h

theorem sim_put {env : Env} {C C' : Ctx} {a : Act} (hs : Sim n env C a) (hok : Ok C') (he : Ext C C') {dst : Option Nat} (hd : ∀ d, dst = some d → d < n) {v : AVal} {cv : Value} (hv : Rep C' v cv) :
    Sim n (put env dst v) C' (a.put dst cv) := by
  cases dst with
  | none => exact ⟨hok, hs.size, hs.defers, fun t => Rep.ext he _ _ (hs.slots t)⟩
  | some d =>
    have hdn := hd d rfl
    refine ⟨hok, by simp [Act.put, hs.size], hs.defers, fun t => ?_⟩
    simp only [put, slot, Act.put]
    split
    · rename_i hdt
      subst hdt
      have : d < a.tmps.size := by rw [hs.size]; exact hdn
      simpa [Array.getD, this] using hv
    · rename_i hdt
      have := Rep.ext he _ _ (hs.slots t)
      rw [show (a.tmps.setIfInBounds d cv).getD t undef = a.tmps.getD t undef from ?_]
      · exact this
      · simp [Array.getElem?_setIfInBounds_ne hdt]

/-- what holds of the model's states where K holds of the abstract ones -/
def Holds (n n0 : Nat) (C0 : Ctx) (K : Env → List Row → Prop) (a : Act) (w : World) : Prop := ∃ env C, C.w = w ∧ Sim n env C a ∧ Later n0 C0 C ∧ K env C.rows

theorem call_form {o : Oper} {f : FuncId} {xs : List Operand} (h : compileOp P o = some (.call f, xs)) :
    ∃ args ats fn, o.op = .call { callee := .value (.func f), args := args, argTypes := ats } ∧ xs = args.toList ∧ P.funcs[f]? = some fn ∧ (fn.body.isSome && fn.name != "runtime.NumGoroutine") = true := by
  obtain ⟨dst, op, type, pos, after, guard⟩ := o
  unfold compileOp at h
  simp only at h
  split at h
  case h_26 =>
    rename_i f' args ats
    split at h
    · rename_i fn hfn
      split at h
      · rename_i hb
        simp at h
        obtain ⟨rfl, rfl⟩ := h
        exact ⟨args, ats, fn, rfl, rfl, hfn, hb⟩
      · cases h
    · cases h
  all_goals (repeat' (split at h)) <;> simp at h

theorem run_call {a : Act} {o : Oper} {f : FuncId} {xs : List Operand} (h : compileOp P o = some (.call f, xs)) (w : World) : (execOp a.eval o).run P w = .ok (.enter f (xs.map a.eval).toArray) w := by
  obtain ⟨args, ats, fn, ho, rfl, hfn, hb⟩ := call_form h
  simp only [Bool.and_eq_true, bne_iff_ne, ne_eq] at hb
  have hbody : fn.body.isNone = false := by rw [Option.isNone_eq_false_iff]; exact hb.1
  have hname : (fn.name == "runtime.NumGoroutine") = false := beq_eq_false_iff_ne.2 hb.2
  have hargs : args.map a.eval = (args.toList.map a.eval).toArray := Array.ext' (by simp)
  unfold execOp
  simp only [ho, resolve, Deferred.ofValue, Act.eval, Sem.run_bind, Sem.run_pure, Result.andThen_ok, invoke, callFunc, run_program, hfn, hname, hbody, Bool.false_eq_true, if_false]
  simp [hargs]

theorem callv_form {o : Oper} {xs : List Operand} (h : compileOp P o = some (.callv, xs)) :
    ∃ t args ats, o.op = .call { callee := .value (.tmp t), args := args, argTypes := ats } ∧ xs = .tmp t :: args.toList := by
  obtain ⟨dst, op, type, pos, after, guard⟩ := o
  unfold compileOp at h
  simp only at h
  split at h
  all_goals (repeat' (split at h)) <;> simp at h
  exact ⟨_, _, _, rfl, h.symm⟩

theorem run_callv {a : Act} {o : Oper} {xs : List Operand} (h : compileOp P o = some (.callv, xs)) {C : Ctx} {f : FuncId} {cs as : List AVal} (hr : RepL C (.fn f cs :: as) (xs.map a.eval)) (hf : fnOk P f) (w : World) :
    ∃ cargs, RepL C (as ++ cs) cargs ∧ (execOp a.eval o).run P w = .ok (.enter f cargs.toArray) w := by
  obtain ⟨t, args, ats, ho, rfl⟩ := callv_form h
  rw [List.map_cons, RepL] at hr
  obtain ⟨v, rest, he, h1, h2⟩ := hr
  simp only [List.cons.injEq] at he
  obtain ⟨rfl, rfl⟩ := he
  rw [Rep] at h1
  obtain ⟨vs, h1, h3⟩ := h1
  obtain ⟨fn, hfn, hb⟩ := hf
  simp only [Bool.and_eq_true, bne_iff_ne, ne_eq] at hb
  have hbody : fn.body.isNone = false := by rw [Option.isNone_eq_false_iff]; exact hb.1
  have hname : (fn.name == "runtime.NumGoroutine") = false := beq_eq_false_iff_ne.2 hb.2
  refine ⟨args.toList.map a.eval ++ vs.toList, h2.append h3, ?_⟩
  have hargs : #[] ++ args.map a.eval ++ vs = (args.toList.map a.eval ++ vs.toList).toArray := Array.ext' (by simp)
  unfold execOp
  simp only [ho, resolve, Deferred.ofValue, h1, Sem.run_bind, Sem.run_pure, Result.andThen_ok, invoke, callFunc, run_program, hfn, hname, hbody, Bool.false_eq_true, if_false, hargs]

/-- one operation -/
theorem step_sound {env : Env} {C : Ctx} {a : Act} {i : Nat} {o : Oper} {io : IOp} (hi : ops[i]? = some o) (hf : Fits P n ops o io) (hs : Sim n env C a) (hl : Later n0 C0 C)
    {K : Env → List Row → Prop} {Kc : Act → World → Prop} {Q : Exit → Act → World → Prop} (hK : ∀ a w, Holds n n0 C0 K a w → Kc a w) (h : stepK P io env C.rows K) : wpOp P ops Q i Kc a C.w := by
  obtain ⟨hopx, ⟨hdst, hdn⟩, hg⟩ := hf
  have hdn' : ∀ d, io.dst = some d → d < n := by rw [hdst]; exact hdn
  have skip : K (put env io.dst (.tup [])) C.rows → Kc (a.put o.dst undef) C.w := by
    intro hk
    refine hK _ _ ⟨_, C, rfl, ?_, hl, hk⟩
    rw [← hdst]
    exact sim_put hs hs.ok (Ext.refl C) hdn' (by rw [Rep]; exact ⟨#[], rfl, by simp [RepL]⟩)
  have run : runK P io env C.rows K → o.wp P a C.w Kc Q := by
    intro hr
    rcases hopx with ⟨xs, hop, hargs⟩ | ⟨b1, b2⟩
    rotate_left
    · exact (by simp [runK, b1, b2, ev] at hr)
    have hrep := opds_rep hs hargs
    unfold runK at hr
    unfold Oper.wp
    split at hr
    · rename_i f hfo
      rw [hfo] at hop
      rw [run_call hop, Oper.upon_enter]
      refine (call_sound hs.ok ((GO.ok (C := C0)).later hl) hrep hr).mono ?_
      rintro e w' ⟨cv, v, C', rfl, rfl, h1, h2, h3, h4⟩
      refine hK _ _ ⟨_, C', rfl, ?_, hl.trans h3 hl.len, h4⟩
      rw [← hdst]
      exact sim_put hs h2 h3.ext hdn' h1
    · rename_i hfo
      rw [hfo] at hop
      split at hr
      · rename_i x hx
        rw [hx] at hrep
        obtain ⟨nx, cv, v, C', h1, h2, h3, h4, h5, h6⟩ := next_sound hop hs.ok a.eval hrep hr
        rw [h1]
        have : Kc (a.put o.dst cv) C'.w := by
          refine hK _ _ ⟨_, C', rfl, ?_, hl.trans h5 hl.len, h6⟩
          rw [← hdst]
          exact sim_put hs h4 h5.ext hdn' h3
        rcases h2 with rfl | ⟨rfl, rfl⟩
        · exact this
        · exact this
      · exact hr.elim
    · rename_i hfo
      rw [hfo] at hop
      unfold callV at hr
      split at hr
      · rename_i f cs as hx
        rw [hx] at hrep
        obtain ⟨cargs, g1, g2⟩ := run_callv hop hrep hr.1 C.w
        rw [g2, Oper.upon_enter]
        refine (call_sound hs.ok ((GO.ok (C := C0)).later hl) g1 hr.2).mono ?_
        rintro e w' ⟨cv, v, C', rfl, rfl, h1, h2, h3, h4⟩
        refine hK _ _ ⟨_, C', rfl, ?_, hl.trans h3 hl.len, h4⟩
        rw [← hdst]
        exact sim_put hs h2 h3.ext hdn' h1
      · exact hr.elim
    · rename_i hnc _ _
      obtain ⟨nx, cv, v, C', h1, h2, h3, h4, h5, h6⟩ := ev_sound hop (fun f hf => hnc f hf) hs.ok a.eval (fun _ => rfl) hrep hr
      rw [h1]
      have : Kc (a.put o.dst cv) C'.w := by
        refine hK _ _ ⟨_, C', rfl, ?_, hl.trans h5 hl.len, h6⟩
        rw [← hdst]
        exact sim_put hs h4 h5.ext hdn' h3
      rcases h2 with rfl | ⟨rfl, rfl⟩
      · exact this
      · exact this
  unfold wpOp
  rw [hi]
  simp only
  rcases hg with ⟨g1, g2⟩ | ⟨j, want, s, g1, g2, g3, g4⟩
  · have hw : Region.wanted o (yielded ops a.tmps) = true := by simp [Region.wanted, g1]
    rw [if_pos hw]
    simp only [stepK, g2] at h
    exact .inl (run h)
  · simp only [stepK, g4] at h
    have hslot := hs.slots s
    have hsz : s < a.tmps.size := by rw [hs.size]; exact g3
    have hy : ∀ v, a.tmps.getD s undef = v → yielded ops a.tmps j = (match v with | .bool b => some b | _ => none) := by
      intro v hv
      have h1 : a.tmps[s]? = some v := by
        rw [Array.getElem?_eq_getElem hsz]
        simpa [Array.getD, hsz] using hv
      unfold yielded
      rw [g2]
      simp only [Option.bind_some, h1]
      cases v <;> rfl
    split at h
    · rename_i b hb
      rw [hb, Rep] at hslot
      have hy' := hy _ hslot
      simp only at hy'
      unfold gK at h
      split at h
      · rename_i hbw
        have hw : Region.wanted o (yielded ops a.tmps) = true := by simp [Region.wanted, g1, hy', hbw]
        rw [if_pos hw]
        exact .inl (run h)
      · rename_i hbw
        have hw : ¬ Region.wanted o (yielded ops a.tmps) = true := by simp [Region.wanted, g1, hy', hbw]
        rw [if_neg hw]
        exact skip h
    · rename_i hb
      rw [hb, Rep] at hslot
      obtain ⟨vs, hv, _⟩ := hslot
      have hy' := hy _ hv
      simp only at hy'
      have hw : ¬ Region.wanted o (yielded ops a.tmps) = true := by simp [Region.wanted, g1, hy']
      rw [if_neg hw]
      exact skip h
    · exact h.elim

/-- operations, one behind the other -/
theorem list_sound {K : Env → List Row → Prop} {Q : Exit → Act → World → Prop} (hQ : ∀ a w, Holds n n0 C0 K a w → Q .normal a w) : ∀ (l : List Nat) (ios : List IOp),
    ios.length = l.length → (∀ k (hk : k < l.length), ∃ o io, ops[l[k]]? = some o ∧ ios[k]? = some io ∧ Fits P n ops o io) → ∀ a w, Holds n n0 C0 (listK P ios K) a w → wpOps P ops Q l a w
  | [], ios, hl, _, a, w, h => by
    have : ios = [] := List.eq_nil_of_length_eq_zero (by simpa using hl)
    subst this
    exact hQ a w h
  | i :: l, [], hl, _, a, w, h => by simp at hl
  | i :: l, io :: ios, hl, hf, a, w, h => by
    obtain ⟨o, io', h1, h2, h3⟩ := hf 0 (by simp)
    simp at h1 h2
    subst h2
    obtain ⟨env, C, rfl, hs, hlat, hk⟩ := h
    rw [wpOps_cons]
    refine step_sound h1 h3 hs hlat ?_ hk
    intro a' w' h'
    exact list_sound hQ l ios (by simpa using hl) (fun k hk' => hf (k + 1) (by simpa using hk')) a' w' h'

end
end Go.Abs
end

section
/- Regions that draw their order: definitions, and that each step is sound. -/
namespace Go.Abs
variable [Glb]

abbrev Rho := Nat → AVal
abbrev Tk := List (Nat × Nat × Bool)

def upd (ρ : Rho) (d : Option Nat) (v : AVal) : Rho :=
  match d with
  | some d => fun t => if d = t then v else ρ t
  | none => ρ

def Opd.evF (ρ : Rho) : Opd → AVal
  | .t s => ρ s
  | .c v => v

theorem slot_put (env : Env) (d : Option Nat) (v : AVal) : slot (put env d v) = upd (slot env) d v := by
  cases d with
  | none => rfl
  | some d => funext t; simp [put, slot, upd]

theorem evF_slot (env : Env) (x : Opd) : x.evF (slot env) = x.ev env := by cases x <;> rfl

/-- an operation of a region that draws: 'res': the number of its reserved row; 'un': the operations whose order with it is open -/
structure DOp where
  io : IOp
  res : Option Nat
  un : List Nat
  deriving Inhabited

def rowOf : AVal → List Nat
  | .own r _ _ _ => [r]
  | .ref r _ _ _ => [r]
  | .mref r => [r]
  | .itref r m => [r, m]
  | _ => []

/-- rows that an operation writes -/
def tW : AOp → List AVal → List Nat
  | .store _, x :: _ => rowOf x
  | .append .., x :: _ => rowOf x
  | .frz, x :: _ => rowOf x
  | .copy _, x :: _ => rowOf x
  | .clear .., x :: _ => rowOf x
  | .mset .., x :: _ => rowOf x
  | .ment .., x :: _ => rowOf x
  | .estore, x :: _ => rowOf x
  | _, _ => []
/-- rows that an operation reads -/
def tR : AOp → List AVal → List Nat
  | .load1, x :: _ => rowOf x
  | .loadA _, x :: _ => rowOf x
  | .indexAddr _, x :: _ => rowOf x
  | .slice .., x :: _ => rowOf x
  | .b2s, x :: _ => rowOf x
  | .isnil .., x :: _ => rowOf x
  | .append .., [_, y] => rowOf y
  | .copy _, [_, y] => rowOf y
  | .look .., x :: _ => rowOf x
  | .lenM, x :: _ => rowOf x
  | .iter, x :: _ => rowOf x
  | .entry, x :: _ => rowOf x
  | _, _ => []

/-- operations that change rows, or make new ones at the end -/
def isE : AOp → Bool
  | .store _ | .append .. | .frz | .call _ | .callv | .clear .. | .appendZ .. | .mkslice .. | .alloc .. | .box .. | .bslice .. => true
  | .copy _ | .mkmap .. | .mset .. | .ment .. | .estore | .iter | .next => true
  | _ => false

/-- nothing that was taken first is touched -/
def okTk (un : List Nat) (tk : Tk) (W R : List Nat) : Prop := ∀ i r w, (i, r, w) ∈ tk → i ∈ un → r ∉ W ∧ (w = true → r ∉ R)

/-- an operation that makes memory, at a reserved row -/
def evR (op : AOp) (args : List AVal) (k : Nat) (rows : List Row) (K : AVal → List Row → Prop) : Prop :=
  match op, args with
  | .alloc e zero, [] => rows[k]? = some (.live e zero.length []) ∧ K (.ref k 1 0 0) (rows.set k (.live e zero.length [zero]))
  | .box e sz, [x] => ((acells x).length = sz ∧ (acells x).all one = true) ∧ rows[k]? = some (.live e sz []) ∧ K (.ref k 1 0 0) (rows.set k (.live e sz [acells x]))
  | .bslice e sz zero len idx, vs =>
    match fillE (List.replicate len zero) sz idx vs with
    | some es => ((vs.all fun v => (acells v).all one) = true ∧ 0 < len) ∧ rows[k]? = some (.live e sz []) ∧ K (.own k len 0 len) (rows.set k (.live e sz es))
    | none => False
  | .mkslice e sz b zero, [.int _ l, .int _ c] => (0 < l ∧ l ≤ c ∧ c * b ≤ 140737488355328 ∧ c ≤ 140737488355328) ∧ rows[k]? = some (.live e sz []) ∧ K (.own k l.toNat 0 l.toNat) (rows.set k (.live e sz (List.replicate l.toNat zero)))
  | _, _ => False

def callT (P : Program) (f : FuncId) (args : List AVal) (un : List Nat) (tk : Tk) (rows : List Row) (K : AVal → List Row → Prop) : Prop :=
  ∃ (sel vw : List Nat) (srows : List Row), okTk un tk sel vw ∧ sel.Nodup ∧ getRows rows vw (sel.map some) (sel.map some) = some srows ∧
    AFn P f (bindL rows (sel.map some) vw args) srows fun v rs => (vw = [] ∨ (flat v = true ∧ (rs.all flatRow) = true)) ∧ K (renV (back rows.length sel) v) (mergeR rows sel (rs.map (renRow (back rows.length sel))))

def callVT (P : Program) (vs : List AVal) (un : List Nat) (tk : Tk) (rows : List Row) (K : AVal → List Row → Prop) : Prop :=
  match vs with
  | .fn f cs :: xs => fnOk P f ∧ callT P f (xs ++ cs) un tk rows K
  | _ => False

def runT (P : Program) (base : Nat) (d : DOp) (tk : Tk) (ρ : Rho) (rows : List Row) (K : Rho → List Row → Prop) : Prop :=
  match d.res with
  | some q => okTk d.un tk [base + q] [] ∧ evR d.io.op (d.io.args.map (Opd.evF ρ)) (base + q) rows fun v rows' => K (upd ρ d.io.dst v) rows'
  | none =>
    match d.io.op with
    | .call f => callT P f (d.io.args.map (Opd.evF ρ)) d.un tk rows fun v rows' => K (upd ρ d.io.dst v) rows'
    | .callv => callVT P (d.io.args.map (Opd.evF ρ)) d.un tk rows fun v rows' => K (upd ρ d.io.dst v) rows'
    | op => okTk d.un tk (tW op (d.io.args.map (Opd.evF ρ))) (tR op (d.io.args.map (Opd.evF ρ))) ∧ ev op (d.io.args.map (Opd.evF ρ)) rows fun v rows' => K (upd ρ d.io.dst v) rows'

/-- does the guard let it run? -/
def lets (g : Option (Nat × Bool)) (ρ : Rho) : Option Bool :=
  match g with
  | none => some true
  | some (s, want) =>
    match ρ s with
    | .bool b => some (b == want)
    | .tup [] => some false
    | _ => none

def stepT (P : Program) (base : Nat) (d : DOp) (tk : Tk) (ρ : Rho) (rows : List Row) (K : Rho → List Row → Prop) : Prop :=
  match lets d.io.guard ρ with
  | some true => runT P base d tk ρ rows K
  | some false => K (upd ρ d.io.dst (.tup [])) rows
  | none => False

/-- what an operation that was taken first must find unchanged -/
def ext (base i : Nat) (d : DOp) (ρ : Rho) (tk : Tk) : Tk :=
  if lets d.io.guard ρ = some true then
    match d.res with
    | some q => (i, base + q, true) :: tk
    | none => if isE d.io.op then tk else (tR d.io.op (d.io.args.map (Opd.evF ρ))).map (fun r => (i, r, false)) ++ tk
  else tk

/-- in the order of a list -/
def drawF (P : Program) (base : Nat) (ds : List DOp) : List Nat → Tk → (Rho → List Row → Prop) → Rho → List Row → Prop
  | [], _, K, ρ, rows => K ρ rows
  | i :: is, tk, K, ρ, rows => stepT P base (ds.getD i default) tk ρ rows (drawF P base ds is (ext base i (ds.getD i default) ρ tk) K)

/-- in whatever order -/
def anyT (P : Program) (base : Nat) (ops : Array Oper) (ds : List DOp) : Nat → Array Bool → Tk → (Rho → List Row → Prop) → Rho → List Row → Prop
  | 0, listed, _, K, ρ, rows => Region.ready .any ops listed = [] ∧ K ρ rows
  | fuel + 1, listed, tk, K, ρ, rows => (Region.ready .any ops listed = [] → K ρ rows) ∧
      ∀ i ∈ Region.ready .any ops listed, stepT P base (ds.getD i default) tk ρ rows (anyT P base ops ds fuel (listed.setIfInBounds i true) tk K)

/-! each operation other than a call: what it does to the rows -/

inductive Eff where
  | none
  | set (r : Nat) (x : Row)
  | push (x : Row)

def Eff.ap : Eff → List Row → List Row
  | .none, rows => rows
  | .set r x, rows => rows.set r x
  | .push x, rows => rows ++ [x]

/-- F gives one answer, and F looks at no rows but those of W and R -/
def Det (W R : List Nat) (pure : Bool) (F : List Row → (AVal → List Row → Prop) → Prop) : Prop :=
  ∀ rows K, F rows K → ∃ (v : AVal) (a : Eff), K v (a.ap rows) ∧ (pure = true → a = .none) ∧ (∀ r x, a = .set r x → r ∈ W) ∧ (∀ r, r ∈ W ∨ r ∈ R → r < rows.length) ∧
    ∀ rows2 K', (∀ x, a = .push x → rows2.length = rows.length) → (∀ r, r ∈ W ∨ r ∈ R → rows2[r]? = rows[r]?) → K' v (a.ap rows2) → F rows2 K'

theorem det_pure {F : List Row → (AVal → List Row → Prop) → Prop} {b : Bool} (h : ∀ rows K, F rows K → ∃ v, K v rows ∧ ∀ rows2 K', K' v rows2 → F rows2 K') : Det [] [] b F := by
  intro rows K hf
  obtain ⟨v, h1, h2⟩ := h rows K hf
  exact ⟨v, .none, h1, fun _ => rfl, fun r x e => (by cases e), fun r hr => (by simp at hr), fun rows2 K' _ _ hk => h2 rows2 K' hk⟩

theorem det_read {F : List Row → (AVal → List Row → Prop) → Prop} {R : List Nat} {b : Bool} (h : ∀ rows K, F rows K → ∃ v, K v rows ∧ (∀ r ∈ R, r < rows.length) ∧ ∀ rows2 K', (∀ r ∈ R, rows2[r]? = rows[r]?) → K' v rows2 → F rows2 K') : Det [] R b F := by
  intro rows K hf
  obtain ⟨v, h1, h3, h2⟩ := h rows K hf
  exact ⟨v, .none, h1, fun _ => rfl, fun r x e => (by cases e), fun r hr => h3 r (by simpa using hr), fun rows2 K' _ hr hk => h2 rows2 K' (fun r hr' => hr r (.inr hr')) hk⟩

theorem lt_of_row {rows : List Row} {r : Nat} {x : Row} (h : rows[r]? = some x) : r < rows.length := (List.getElem?_eq_some_iff.1 h).1

theorem det_load1 (x : AVal) : Det [] (rowOf x) true (fun rows K => evLoad1 rows x fun v => K v rows) := by
  refine det_read fun rows K h => ?_
  simp only [evLoad1] at h
  split at h
  · split at h
    · rename_i hr
      refine ⟨_, h.2.2, fun r' hr' => ?_, fun rows2 K' he hk => ?_⟩
      · simp [rowOf] at hr'; subst hr'; exact lt_of_row hr
      · simp only [evLoad1, (he _ (List.mem_singleton_self _)).trans hr]; exact ⟨h.1, h.2.1, hk⟩
    · exact h.elim
  · exact ⟨_, h.2, by simp [rowOf], fun rows2 K' _ hk => ⟨h.1, hk⟩⟩
  · exact h.elim

theorem det_loadA (n : Nat) (x : AVal) : Det [] (rowOf x) true (fun rows K => evLoadA rows n x fun v => K v rows) := by
  refine det_read fun rows K h => ?_
  simp only [evLoadA] at h
  split at h
  · split at h
    · rename_i hr
      refine ⟨_, h.2.2, fun r' hr' => ?_, fun rows2 K' he hk => ?_⟩
      · simp [rowOf] at hr'; subst hr'; exact lt_of_row hr
      · simp only [evLoadA, (he _ (List.mem_singleton_self _)).trans hr]; exact ⟨h.1, h.2.1, hk⟩
    · exact h.elim
  · exact ⟨_, h.2, by simp [rowOf], fun rows2 K' _ hk => ⟨h.1, hk⟩⟩
  · exact h.elim

theorem det_indexAddr (n : Nat) (x y : AVal) : Det [] (rowOf x) true (fun rows K => evIndexAddr rows n x y fun v => K v rows) := by
  refine det_read fun rows K h => ?_
  simp only [evIndexAddr] at h
  split at h
  · exact ⟨_, h.2.2.2, by simp [rowOf], fun rows2 K' _ hk => ⟨h.1, h.2.1, h.2.2.1, hk⟩⟩
  · split at h
    · rename_i hr
      refine ⟨_, h.2.2.2.2, fun r' hr' => ?_, fun rows2 K' he hk => ?_⟩
      · simp [rowOf] at hr'; subst hr'; exact lt_of_row hr
      · simp only [evIndexAddr, (he _ (List.mem_singleton_self _)).trans hr]; exact ⟨h.1, h.2.1, h.2.2.1, h.2.2.2.1, hk⟩
    · exact h.elim
  · exact h.elim

theorem det_slice (lo hi : Option AVal) (n : Nat) (x : AVal) : Det [] (rowOf x) true (fun rows K => evSlice rows lo hi n x fun v => K v rows) := by
  refine det_read fun rows K h => ?_
  simp only [evSlice] at h
  split at h
  · exact h.elim
  · rename_i l hl
    split at h
    · rename_i a b ha hb
      obtain ⟨h1, h2, h3, h⟩ := h
      split at h
      · exact ⟨_, h.2, by simp [rowOf], fun rows2 K' _ hk => by simp only [evSlice, hl, ha, hb]; exact ⟨h1, h2, h3, h.1, hk⟩⟩
      · exact ⟨_, h, by simp [rowOf], fun rows2 K' _ hk => by simp only [evSlice, hl, ha, hb]; exact ⟨h1, h2, h3, hk⟩⟩
      · split at h
        · rename_i hr
          refine ⟨_, h.2.2, fun r' hr' => ?_, fun rows2 K' he hk => ?_⟩
          · simp [rowOf] at hr'; subst hr'; exact lt_of_row hr
          · simp only [evSlice, hl, ha, hb, (he _ (List.mem_singleton_self _)).trans hr]; exact ⟨h1, h2, h3, h.1, h.2.1, hk⟩
        · exact h.elim
      · exact h.elim
    · exact h.elim

theorem det_sliceS (lo hi : Option AVal) (x : AVal) : Det [] [] true (fun rows K => evSliceS lo hi x fun v => K v rows) := by
  refine det_pure fun rows K h => ?_
  simp only [evSliceS] at h
  split at h
  · split at h
    · rename_i ha hb
      exact ⟨_, h.2.2.2, fun rows2 K' hk => by simp only [evSliceS, ha, hb]; exact ⟨h.1, h.2.1, h.2.2.1, hk⟩⟩
    · exact h.elim
  · exact h.elim

theorem det_bin (op : BinOp) (x y : AVal) : Det [] [] true (fun rows K => evBin op x y fun v => K v rows) := by
  refine det_pure fun rows K h => ?_
  simp only [evBin] at h
  split at h
  · split at h <;> first
      | exact h.elim
      | exact ⟨_, h.2, fun rows2 K' hk => ⟨h.1, hk⟩⟩
      | exact ⟨_, h.2.2, fun rows2 K' hk => ⟨h.1, h.2.1, hk⟩⟩
  · split at h <;> first
      | exact h.elim
      | exact ⟨_, h, fun rows2 K' hk => hk⟩
      | exact ⟨_, h.2, fun rows2 K' hk => ⟨h.1, hk⟩⟩
  · exact h.elim

theorem det_store (n : Nat) (x y : AVal) : Det (rowOf x) [] false (fun rows K => evStore rows n x y fun rows => K (.tup []) rows) := by
  intro rows K h
  simp only [evStore] at h
  split at h
  · split at h
    · rename_i hr
      refine ⟨_, .set _ _, h.2.2.2.2, fun e => (by cases e), fun r x e => ?_, fun r' hr' => ?_, fun rows2 K' _ he hk => ?_⟩
      · cases e; simp [rowOf]
      · simp [rowOf] at hr'; subst hr'; exact lt_of_row hr
      · simp only [evStore, (he _ (.inl (List.mem_singleton_self _))).trans hr]; exact ⟨h.1, h.2.1, h.2.2.1, h.2.2.2.1, hk⟩
    · exact h.elim
  · exact h.elim

theorem elems_same {rows rows2 : List Row} {sz : Nat} {y : AVal} (he : ∀ r ∈ rowOf y, rows2[r]? = rows[r]?) : elems? rows2 sz y = elems? rows sz y := by
  cases y <;> simp [elems?, rowOf] at he ⊢
  rw [he]

theorem elems_lt {rows : List Row} {sz : Nat} {y : AVal} {ys : List (List AVal)} (h : elems? rows sz y = some ys) : ∀ r ∈ rowOf y, r < rows.length := by
  intro r hr
  cases y <;> simp only [elems?] at h <;> first | (cases h; done) | skip
  all_goals simp [rowOf] at hr
  subst hr
  split at h
  · exact lt_of_row ‹_›
  · cases h

theorem det_append (e : TypeId) (sz bytes : Nat) (x y : AVal) : Det (rowOf x) (rowOf y) false (fun rows K => evAppend rows e sz bytes x y K) := by
  intro rows K h
  simp only [evAppend] at h
  split at h
  · exact h.elim
  · rename_i ys hys
    have hlt := elems_lt hys
    split at h
    · refine ⟨_, .push _, h.2, fun e => (by cases e), fun r x e => (by cases e), fun r hr => ?_, fun rows2 K' hl he hk => ?_⟩
      · exact hlt r (by simpa [rowOf] using hr)
      · simp only [evAppend, elems_same (fun r hr => he r (.inr hr)), hys, hl _ rfl]; exact ⟨h.1, hk⟩
    · split at h
      · rename_i hr
        obtain ⟨h1, h2, h3, h4, h5, h6, h⟩ := h
        refine ⟨_, .set _ _, h, fun e => (by cases e), fun r x e => ?_, fun r' hr' => ?_, fun rows2 K' _ he hk => ?_⟩
        · cases e; simp [rowOf]
        · rcases hr' with hr' | hr'
          · simp [rowOf] at hr'; subst hr'; exact lt_of_row hr
          · exact hlt _ hr'
        · simp only [evAppend, elems_same (fun r hr => he r (.inr hr)), hys, (he _ (.inl (List.mem_singleton_self _))).trans hr]; exact ⟨h1, h2, h3, h4, h5, h6, hk⟩
      · exact h.elim
    · exact h.elim

theorem det_b2s (x : AVal) : Det [] (rowOf x) true (fun rows K => evB2s rows x fun v => K v rows) := by
  refine det_read fun rows K h => ?_
  simp only [evB2s] at h
  split at h
  · exact h.elim
  · rename_i ys hys
    split at h
    · rename_i ns hns
      refine ⟨_, h, elems_lt hys, fun rows2 K' he hk => ?_⟩
      simp only [evB2s, elems_same he, hys, hns]
      exact hk
    · exact h.elim

theorem det_isnil (sz : Nat) (neg : Bool) (x : AVal) : Det [] (rowOf x) true (fun rows K => evIsnil rows sz neg x fun v => K v rows) := by
  refine det_read fun rows K h => ?_
  simp only [evIsnil] at h
  split at h
  · rename_i ys hys
    refine ⟨_, h.2, elems_lt hys, fun rows2 K' he hk => ?_⟩
    simp only [evIsnil, elems_same he, hys]
    exact ⟨h.1, hk⟩
  · exact h.elim

theorem det_frz (x : AVal) : Det (rowOf x) [] false (fun rows K => evFrz rows x K) := by
  intro rows K h
  simp only [evFrz] at h
  split at h
  · split at h
    · rename_i hr
      refine ⟨_, .set _ _, h.2.2.2.2.2, fun e => (by cases e), fun r x e => ?_, fun r' hr' => ?_, fun rows2 K' _ he hk => ?_⟩
      · cases e; simp [rowOf]
      · simp [rowOf] at hr'; subst hr'; exact lt_of_row hr
      · simp only [evFrz, (he _ (.inl (List.mem_singleton_self _))).trans hr]; exact ⟨h.1, h.2.1, h.2.2.1, h.2.2.2.1, h.2.2.2.2.1, hk⟩
    · exact h.elim
  · exact h.elim

theorem det_copy (sz : Nat) (x y : AVal) : Det (rowOf x) (rowOf y) false (fun rows K => evCopy rows sz x y K) := by
  intro rows K h
  simp only [evCopy] at h
  split at h
  · exact h.elim
  · rename_i ys hys
    have hlt := elems_lt hys
    split at h
    · split at h
      · rename_i hr
        obtain ⟨h1, h2, h3, h⟩ := h
        refine ⟨_, .set _ _, h, fun e => (by cases e), fun r x e => ?_, fun r' hr' => ?_, fun rows2 K' _ he hk => ?_⟩
        · cases e; simp [rowOf]
        · rcases hr' with hr' | hr'
          · simp [rowOf] at hr'; subst hr'; exact lt_of_row hr
          · exact hlt _ hr'
        · simp only [evCopy, elems_same (fun r hr => he r (.inr hr)), hys, (he _ (.inl (List.mem_singleton_self _))).trans hr]; exact ⟨h1, h2, h3, hk⟩
      · exact h.elim
    · exact h.elim

theorem ments_same {rows rows2 : List Row} {ag : Bool} {ks : List CK} {x : AVal} (he : ∀ r ∈ rowOf x, rows2[r]? = rows[r]?) : ments rows2 ag ks x = ments rows ag ks x := by
  cases x <;> simp [ments, rowOf] at he ⊢
  rw [he]

theorem det_look (ok ag : Bool) (ks : List CK) (z x k : AVal) : Det [] (rowOf x) true (fun rows K => evLook rows ok ag ks z x k fun v => K v rows) := by
  refine det_read fun rows K h => ?_
  simp only [evLook] at h
  split at h
  · exact h.elim
  · rename_i ents hents
    refine ⟨_, h.2, fun r hr => ?_, fun rows2 K' he hk => ?_⟩
    · cases x <;> simp [rowOf] at hr <;> simp only [ments] at hents <;> first | (cases hents; done) | skip
      subst hr
      split at hents
      · exact lt_of_row ‹_›
      · cases hents
    · simp only [evLook, ments_same he, hents]; exact ⟨h.1, hk⟩

theorem det_mset (ag : Bool) (ks : List CK) (x k v : AVal) : Det (rowOf x) [] false (fun rows K => evMset rows ag ks x k v fun rows => K (.tup []) rows) := by
  intro rows K h
  simp only [evMset] at h
  split at h
  · split at h
    · rename_i hr
      refine ⟨_, .set _ _, h.2.2, fun e => (by cases e), fun r x e => ?_, fun r' hr' => ?_, fun rows2 K' _ he hk => ?_⟩
      · cases e; simp [rowOf]
      · simp [rowOf] at hr'; subst hr'; exact lt_of_row hr
      · simp only [evMset, (he _ (.inl (List.mem_singleton_self _))).trans hr]; exact ⟨h.1, h.2.1, hk⟩
    · exact h.elim
  · exact h.elim

theorem det_ment (ag : Bool) (ks : List CK) (z x k : AVal) : Det (rowOf x) [] false (fun rows K => evMent rows ag ks z x k K) := by
  intro rows K h
  simp only [evMent] at h
  split at h
  · split at h
    · rename_i hr
      refine ⟨_, .set _ _, h.2.2, fun e => (by cases e), fun r x e => ?_, fun r' hr' => ?_, fun rows2 K' _ he hk => ?_⟩
      · cases e; simp [rowOf]
      · simp [rowOf] at hr'; subst hr'; exact lt_of_row hr
      · simp only [evMent, (he _ (.inl (List.mem_singleton_self _))).trans hr]; exact ⟨h.1, h.2.1, hk⟩
    · exact h.elim
  · exact h.elim

theorem det_estore (x i v : AVal) : Det (rowOf x) [] false (fun rows K => evEstore rows x i v fun rows => K (.tup []) rows) := by
  intro rows K h
  simp only [evEstore] at h
  split at h
  · split at h
    · rename_i hr
      refine ⟨_, .set _ _, h.2.2, fun e => (by cases e), fun r x e => ?_, fun r' hr' => ?_, fun rows2 K' _ he hk => ?_⟩
      · cases e; simp [rowOf]
      · simp [rowOf] at hr'; subst hr'; exact lt_of_row hr
      · simp only [evEstore, (he _ (.inl (List.mem_singleton_self _))).trans hr]; exact ⟨h.1, h.2.1, hk⟩
    · exact h.elim
  · exact h.elim

theorem det_iter (x : AVal) : Det [] (rowOf x) false (fun rows K => evIter rows x K) := by
  intro rows K h
  simp only [evIter] at h
  split at h
  · split at h
    · rename_i hr
      refine ⟨_, .push _, h, fun e => (by cases e), fun r x e => (by cases e), fun r' hr' => ?_, fun rows2 K' hl he hk => ?_⟩
      · simp [rowOf] at hr'; subst hr'; exact lt_of_row hr
      · simp only [evIter, (he _ (.inr (List.mem_singleton_self _))).trans hr, hl _ rfl]; exact hk
    · exact h.elim
  · exact h.elim

theorem det_entry (x : AVal) : Det [] (rowOf x) true (fun rows K => evEntry rows x fun v => K v rows) := by
  refine det_read fun rows K h => ?_
  simp only [evEntry] at h
  split at h
  · split at h
    · rename_i hr hm
      refine ⟨_, h.2.2.2, fun r' hr' => ?_, fun rows2 K' he hk => ?_⟩
      · simp [rowOf] at hr'
        rcases hr' with rfl | rfl
        · exact lt_of_row hr
        · exact lt_of_row hm
      · simp only [evEntry, (he _ (List.mem_cons_self)).trans hr, (he _ (List.mem_cons_of_mem _ (List.mem_singleton_self _))).trans hm]; exact ⟨h.1, h.2.1, h.2.2.1, hk⟩
    · exact h.elim
  · exact h.elim

theorem det_clear (sz : Nat) (zero : List AVal) (x : AVal) : Det (rowOf x) [] false (fun rows K => evClear rows sz zero x fun rows => K (.tup []) rows) := by
  intro rows K h
  simp only [evClear] at h
  split at h
  · split at h
    · rename_i hr
      refine ⟨_, .set _ _, h.2.2.2, fun e => (by cases e), fun r x e => ?_, fun r' hr' => ?_, fun rows2 K' hl he hk => ?_⟩
      · cases e; simp [rowOf]
      · simp [rowOf] at hr'; subst hr'; exact lt_of_row hr
      · simp only [evClear, (he _ (.inl (List.mem_singleton_self _))).trans hr]; exact ⟨h.1, h.2.1, h.2.2.1, hk⟩
    · exact h.elim
  · exact h.elim

theorem det_indexArr (len sz : Nat) (x y : AVal) : Det [] [] true (fun rows K => evIndexArr len sz x y fun v => K v rows) := by
  refine det_pure fun rows K h => ?_
  simp only [evIndexArr] at h
  split at h
  · exact ⟨_, h.2.2, fun rows2 K' hk => ⟨h.1, h.2.1, hk⟩⟩
  · exact ⟨_, h.2.2, fun rows2 K' hk => ⟨h.1, h.2.1, hk⟩⟩
  · exact h.elim

theorem det_lenM (r : Nat) : Det [] [r] true (fun rows K => match rows[r]? with | some (.obj (.map _ _ ents)) => K (.int .i64 ents.length) rows | _ => False) := by
  refine det_read fun rows K h => ?_
  split at h
  · rename_i hr
    refine ⟨_, h, fun r' hr' => ?_, fun rows2 K' he hk => ?_⟩
    · simp at hr'; subst hr'; exact lt_of_row hr
    · simp only [(he _ (List.mem_singleton_self _)).trans hr]; exact hk
  · exact h.elim

theorem det_push {F : List Row → (AVal → List Row → Prop) → Prop} {b : Bool} (hb : b = false) (h : ∀ rows K, F rows K → ∃ v x, K v (rows ++ [x]) ∧ ∀ rows2 K', rows2.length = rows.length → K' v (rows2 ++ [x]) → F rows2 K') : Det [] [] b F := by
  intro rows K hf
  obtain ⟨v, x, h1, h2⟩ := h rows K hf
  exact ⟨v, .push x, h1, fun e => (by rw [hb] at e; cases e), fun r x e => (by cases e), fun r hr => (by simp at hr), fun rows2 K' hl _ hk => h2 rows2 K' (hl x rfl) hk⟩

theorem Det.weak {W' R' : List Nat} {b : Bool} {F : List Row → (AVal → List Row → Prop) → Prop} (h : Det [] [] b F) (hW : W' = []) (hR : R' = []) : Det W' R' b F := by subst hW; subst hR; exact h

theorem det_false {W R : List Nat} {b : Bool} {F : List Row → (AVal → List Row → Prop) → Prop} (h : ∀ rows K, ¬ F rows K) : Det W R b F := fun rows K hf => absurd hf (h rows K)

theorem ev_det (op : AOp) (args : List AVal) : Det (tW op args) (tR op args) (!isE op) (ev op args) := by
  unfold ev
  split
  case h_3 => exact det_push rfl fun rows K h => ⟨_, _, h, fun rows2 K' hl hk => by rw [hl]; exact hk⟩
  case h_4 => exact det_push rfl fun rows K h => ⟨_, _, h.2.2, fun rows2 K' hl hk => by rw [hl]; exact ⟨h.1, h.2.1, hk⟩⟩
  case h_5 =>
    refine Det.weak ?_ (by rfl) (by rfl)
    refine det_pure fun rows K h => ?_
    split at h
    · exact ⟨_, h.2, fun rows2 K' hk => ⟨h.1, hk⟩⟩
    · exact h.elim
  case h_6 =>
    refine Det.weak ?_ (by rfl) (by rfl)
    refine det_push rfl fun rows K h => ?_
    split at h
    · exact ⟨_, _, h.2, fun rows2 K' hl hk => by rw [hl]; exact ⟨h.1, hk⟩⟩
    · exact h.elim
  case h_8 => exact det_push rfl fun rows K h => ⟨_, _, h.2.2.2.2, fun rows2 K' hl hk => by rw [hl]; exact ⟨h.1, h.2.1, h.2.2.1, h.2.2.2.1, hk⟩⟩
  case h_9 => exact det_load1 _
  case h_10 => exact det_loadA _ _
  case h_11 => exact det_store _ _ _
  case h_14 => exact det_bin _ _ _
  case h_20 =>
    refine det_pure fun rows K h => ?_
    simp only [evFieldAddr] at h
    split at h
    · exact ⟨_, h, fun rows2 K' hk => hk⟩
    · exact ⟨_, h, fun rows2 K' hk => hk⟩
    · exact h.elim
  case h_23 => exact det_indexAddr _ _ _
  case h_25 => exact det_slice _ _ _ _
  case h_26 => exact det_slice _ _ _ _
  case h_27 => exact det_slice _ _ _ _
  case h_28 => exact det_slice _ _ _ _
  case h_29 => exact det_sliceS _ _ _
  case h_30 => exact det_sliceS _ _ _
  case h_31 => exact det_sliceS _ _ _
  case h_32 => exact det_sliceS _ _ _
  case h_34 =>
    refine det_pure fun rows K h => ?_
    split at h
    · exact ⟨_, h, fun rows2 K' hk => hk⟩
    · exact h.elim
  case h_35 => exact det_append _ _ _ _ _
  case h_38 => exact det_b2s _
  case h_39 => exact det_frz _
  case h_40 => exact det_copy _ _ _
  case h_41 => exact det_indexArr _ _ _ _
  case h_44 => refine Det.weak ?_ (by rfl) (by rfl); exact det_pure fun rows K h => ⟨_, h, fun rows2 K' hk => hk⟩
  case h_45 => exact det_push rfl fun rows K h => ⟨_, _, h, fun rows2 K' hl hk => by rw [hl]; exact hk⟩
  case h_46 => exact det_look _ _ _ _ _ _
  case h_47 => exact det_mset _ _ _ _ _
  case h_48 => exact det_ment _ _ _ _ _
  case h_49 => exact det_estore _ _ _
  case h_50 => exact det_lenM _
  case h_51 => exact det_iter _
  case h_52 => exact det_entry _
  case h_54 => exact det_push rfl fun rows K h => ⟨_, _, h.2.2, fun rows2 K' hl hk => by rw [hl]; exact ⟨h.1, h.2.1, hk⟩⟩
  case h_55 => exact det_clear _ _ _
  case h_56 => exact det_isnil _ _ _
  case h_57 => exact det_false fun rows K h => h
  all_goals first
    | exact det_pure fun rows K h => ⟨_, h, fun rows2 K' hk => hk⟩
    | exact det_pure fun rows K h => ⟨_, h.2, fun rows2 K' hk => ⟨h.1, hk⟩⟩
    | exact det_pure fun rows K h => ⟨_, h.2.2, fun rows2 K' hk => ⟨h.1, h.2.1, hk⟩⟩

theorem evR_out {op : AOp} {args : List AVal} {k : Nat} {rows : List Row} {K : AVal → List Row → Prop} (h : evR op args k rows K) :
    ∃ (v : AVal) (y : Row), K v (rows.set k y) ∧ k < rows.length ∧ ∀ rows2 (K' : AVal → List Row → Prop), rows2[k]? = rows[k]? → K' v (rows2.set k y) → evR op args k rows2 K' := by
  have fin : ∀ {x y : Row} {v : AVal}, rows[k]? = some x → K v (rows.set k y) → (∀ rows2 (K' : AVal → List Row → Prop), rows2[k]? = some x → K' v (rows2.set k y) → evR op args k rows2 K') →
      ∃ (v : AVal) (y : Row), K v (rows.set k y) ∧ k < rows.length ∧ ∀ rows2 (K' : AVal → List Row → Prop), rows2[k]? = rows[k]? → K' v (rows2.set k y) → evR op args k rows2 K' := by
    intro x y v h1 h2 h3
    exact ⟨v, y, h2, lt_of_row h1, fun rows2 K' he hk => h3 rows2 K' (he.trans h1) hk⟩
  unfold evR at h
  split at h
  · exact fin h.1 h.2 fun rows2 K' h1 h2 => ⟨h1, h2⟩
  · exact fin h.2.1 h.2.2 fun rows2 K' h1 h2 => ⟨h.1, h1, h2⟩
  · rename_i e sz zero1 len idx _
    split at h
    · rename_i es hes
      refine fin h.2.1 h.2.2 fun rows2 K' h1 h2 => ?_
      simp only [evR, hes]
      exact ⟨h.1, h1, h2⟩
    · exact h.elim
  · exact fin h.2.1 h.2.2 fun rows2 K' h1 h2 => ⟨h.1, h1, h2⟩
  · exact h.elim

theorem evR_det (op : AOp) (args : List AVal) (k : Nat) : Det [k] [] false (fun rows K => evR op args k rows K) := by
  intro rows K h
  obtain ⟨v, y, h1, h2, h3⟩ := evR_out h
  refine ⟨v, .set k y, h1, fun e => (by cases e), fun r x e => ?_, fun r hr => ?_, fun rows2 K' _ he hk => ?_⟩
  · cases e; simp
  · simp at hr; subst hr; exact h2
  · exact h3 rows2 K' (he k (by simp)) hk

theorem tW_easy {op : AOp} {args : List AVal} (h : isE op = false) : tW op args = [] := by
  cases op <;> first | rfl | (simp [isE] at h)

theorem Det.mono {W R : List Nat} {b : Bool} {F : List Row → (AVal → List Row → Prop) → Prop} (h : Det W R b F) {rows : List Row} {K K' : AVal → List Row → Prop} (hf : F rows K) (hk : ∀ v rs, K v rs → K' v rs) : F rows K' := by
  obtain ⟨v, a, h1, _, _, _, h5⟩ := h _ _ hf
  exact h5 rows K' (fun _ _ => rfl) (fun _ _ => rfl) (hk _ _ h1)

theorem okTk.mono {un : List Nat} {tk tk1 : Tk} {W R : List Nat} (ht : ∀ e ∈ tk, e ∈ tk1) (h : okTk un tk1 W R) : okTk un tk W R := fun j r w hm hj => h j r w (ht _ hm) hj

theorem step_mono {P : Program} {base : Nat} {d : DOp} {tk tk1 : Tk} (ht : ∀ e ∈ tk, e ∈ tk1) {ρ : Rho} {rows : List Row} {K K' : Rho → List Row → Prop} (h : stepT P base d tk1 ρ rows K) (hk : ∀ ρ' rows', K ρ' rows' → K' ρ' rows') : stepT P base d tk ρ rows K' := by
  unfold stepT at h ⊢
  split
  · rename_i hl
    rw [hl] at h
    simp only at h
    unfold runT at h ⊢
    split
    · rename_i q hq
      rw [hq] at h
      exact ⟨h.1.mono ht, (evR_det _ _ _).mono h.2 fun v rs hh => hk _ _ hh⟩
    · rename_i hq
      rw [hq] at h
      simp only at h
      split
      · rename_i f hop
        rw [hop] at h
        simp only at h
        obtain ⟨sel, vw, srows, g1, g2, g3, g4⟩ := h
        exact ⟨sel, vw, srows, g1.mono ht, g2, g3, g4.mono fun v rs hh => ⟨hh.1, hk _ _ hh.2⟩⟩
      · rename_i hop
        rw [hop] at h
        simp only at h
        unfold callVT at h ⊢
        split at h
        · rename_i hx
          obtain ⟨hfn, sel, vw, srows, g1, g2, g3, g4⟩ := h
          exact ⟨hfn, sel, vw, srows, g1.mono ht, g2, g3, g4.mono fun v rs hh => ⟨hh.1, hk _ _ hh.2⟩⟩
        · exact h.elim
      · rename_i op hop hopv
        split at h
        · rename_i f hf; exact absurd hf (hop f)
        · rename_i hf; exact absurd hf hopv
        · exact ⟨h.1.mono ht, (ev_det _ _).mono h.2 fun v rs hh => hk _ _ hh⟩
  · rename_i hl
    rw [hl] at h
    exact hk _ _ h
  · rename_i hl
    rw [hl] at h
    exact h

end Go.Abs
end

section
/- Regions that draw their order: two operations whose order is open. -/
namespace Go.Abs
variable [Glb]

def Eff.stay : Eff → Bool
  | .push _ => false
  | _ => true

theorem ap_swap {a b : Eff} {rows : List Row} (ha : a.stay = true) (h1 : ∀ k y, a = .set k y → k < rows.length) (h2 : ∀ k y r x, a = .set k y → b = .set r x → k ≠ r) : a.ap (b.ap rows) = b.ap (a.ap rows) := by
  cases a with
  | none => rfl
  | push => cases ha
  | set k y =>
    have hk := h1 k y rfl
    cases b with
    | none => rfl
    | push x => simp only [Eff.ap]; rw [List.set_append, if_pos hk]
    | set r x => simp only [Eff.ap]; rw [List.set_comm]; exact fun e => h2 k y r x rfl rfl e.symm

theorem ap_get {a : Eff} {rows : List Row} {r : Nat} (hr : r < rows.length) (h : ∀ k y, a = .set k y → k ≠ r) : (a.ap rows)[r]? = rows[r]? := by
  cases a with
  | none => rfl
  | push x => simp only [Eff.ap]; rw [List.getElem?_append, if_pos hr]
  | set k y => simp only [Eff.ap]; rw [List.getElem?_set, if_neg (h k y rfl)]

theorem ap_len {a : Eff} {rows : List Row} (h : a.stay = true) : (a.ap rows).length = rows.length := by
  cases a with
  | none => rfl
  | push => cases h
  | set k y => simp [Eff.ap]

theorem det_swap {W R : List Nat} {b : Bool} {F : List Row → (AVal → List Row → Prop) → Prop} (h : Det W R b F) {a : Eff} {rows : List Row} {R0 : List Nat} (ha : a.stay = true)
    (hk : ∀ k y, a = .set k y → k < rows.length ∧ k ∉ W ∧ k ∉ R) (hR : ∀ r ∈ R0, r < rows.length ∧ r ∉ W) {K : AVal → List Row → Prop} (hf : F (a.ap rows) K) :
    F rows (fun v rows' => (∀ r ∈ R0, rows'[r]? = rows[r]?) ∧ K v (a.ap rows')) := by
  obtain ⟨v, e, h1, h2, h3, h4, h5⟩ := h _ _ hf
  refine h5 rows _ (fun x _ => (ap_len ha).symm) (fun r hr => ?_) ⟨fun r hr => ?_, ?_⟩
  · have := h4 r hr
    rw [ap_len ha] at this
    refine (ap_get this fun k y he hkr => ?_).symm
    subst hkr
    obtain ⟨_, g1, g2⟩ := hk k y he
    rcases hr with hr | hr
    · exact g1 hr
    · exact g2 hr
  · exact ap_get (hR r hr).1 fun k y he hkr => by subst hkr; exact (hR k hr).2 (h3 k y he)
  · rw [ap_swap ha (fun k y he => (hk k y he).1) (fun k y r x he he' hkr => ?_)]
    · exact h1
    · subst hkr; exact (hk k y he).2.1 (h3 k x he')

mutual
theorem bindV_set {rows : List Row} {k : Nat} {y : Row} (sel : List (Option Nat)) {vw : List Nat} (hk : k ∉ vw) : ∀ (v : AVal), bindV (rows.set k y) sel vw v = bindV rows sel vw v
  | .int .. | .bool _ | .str _ | .nils | .pure .. | .pref .. | .nilp | .junk | .nilm | .mref _ | .itref .. => by simp [bindV]
  | .fn f cs => by rw [bindV, bindV, bindL_set sel hk cs]
  | .agg cs => by rw [bindV, bindV, bindL_set sel hk cs]
  | .tup cs => by rw [bindV, bindV, bindL_set sel hk cs]
  | .own r n off len => by
    rw [bindV, bindV]
    split
    · rfl
    · split
      · rename_i hc
        have : k ≠ r := fun e => hk (by subst e; simpa using hc)
        rw [List.getElem?_set_ne this]
      · rfl
  | .ref r n i off => by
    rw [bindV, bindV]
    split
    · rfl
    · split
      · rename_i hc
        have : k ≠ r := fun e => hk (by subst e; simpa using hc)
        rw [List.getElem?_set_ne this]
      · rfl
theorem bindL_set {rows : List Row} {k : Nat} {y : Row} (sel : List (Option Nat)) {vw : List Nat} (hk : k ∉ vw) : ∀ (vs : List AVal), bindL (rows.set k y) sel vw vs = bindL rows sel vw vs
  | [] => by simp [bindL]
  | v :: vs => by rw [bindL, bindL, bindV_set sel hk v, bindL_set sel hk vs]
end

theorem bindRow_set {rows : List Row} {k : Nat} {y : Row} (sel : List (Option Nat)) {vw : List Nat} (hk : k ∉ vw) (x : Row) : bindRow (rows.set k y) sel vw x = bindRow rows sel vw x := by
  cases x with
  | dead => rfl
  | live e sz vals =>
    simp only [bindRow, bindE]
    have : (bindL (rows.set k y) sel vw) = bindL rows sel vw := funext fun vs => bindL_set sel hk vs
    rw [this]
  | obj o =>
    cases o with
    | map ag ks ents => simp only [bindRow, bindV_set sel hk]
    | iter n seen => rfl

theorem getRows_set {rows : List Row} {k : Nat} {y : Row} (all : List (Option Nat)) {vw : List Nat} (hk : k ∉ vw) : ∀ (sel : List (Option Nat)), some k ∉ sel → getRows (rows.set k y) vw all sel = getRows rows vw all sel
  | [], _ => rfl
  | none :: rs, h => by rw [getRows, getRows, getRows_set all hk rs (fun hm => h (by simp [hm]))]
  | some r :: rs, h => by
    have hne : k ≠ r := fun e => h (by simp [e])
    rw [getRows, getRows, getRows_set all hk rs (fun hm => h (by simp [hm])), List.getElem?_set_ne hne]
    split
    · rename_i x ys h1 h2; simp only [bindRow_set all hk]
    · rfl

theorem mergeR_set {α : Type} : ∀ (sel : List Nat) (xs ys : List α) (k : Nat) (y : α), k < xs.length → k ∉ sel → mergeR (xs.set k y) sel ys = (mergeR xs sel ys).set k y
  | [], xs, ys, k, y, hk, _ => by rw [mergeR, mergeR, List.set_append, if_pos hk]
  | r :: sel, xs, [], k, y, _, _ => by rw [mergeR, mergeR]
  | r :: sel, xs, y' :: ys, k, y, hk, hn => by
    simp at hn
    rw [mergeR, mergeR, List.set_comm _ _ hn.1, mergeR_set sel (xs.set r y') ys k y (by simpa using hk) hn.2]

theorem callT_swap {P : Program} {f : FuncId} {args : List AVal} {un : List Nat} {tk tk1 : Tk} {a : Eff} {rows : List Row} {R0 : List Nat} {i : Nat} (hi : i ∈ un) (ht : ∀ e ∈ tk, e ∈ tk1) (ha : a.stay = true)
    (hk : ∀ k y, a = .set k y → k < rows.length ∧ (i, k, true) ∈ tk1) (hR : ∀ r ∈ R0, r < rows.length ∧ ∃ w, (i, r, w) ∈ tk1) {K : AVal → List Row → Prop} (hf : callT P f args un tk1 (a.ap rows) K) :
    callT P f args un tk rows (fun v rows' => (∀ r ∈ R0, rows'[r]? = rows[r]?) ∧ K v (a.ap rows')) := by
  obtain ⟨sel, vw, srows, h1, h2, h3, h4⟩ := hf
  have hR' : ∀ r ∈ R0, r < rows.length ∧ r ∉ sel := fun r hr => by
    obtain ⟨g1, w, g2⟩ := hR r hr
    exact ⟨g1, (h1 i r w g2 hi).1⟩
  refine ⟨sel, vw, srows, fun j r w hm hj => h1 j r w (ht _ hm) hj, h2, ?_, ?_⟩
  · cases a with
    | none => exact h3
    | push => cases ha
    | set k y =>
      obtain ⟨g1, g2⟩ := hk k y rfl
      have g3 := h1 i k true g2 hi
      simp only [Eff.ap] at h3
      rw [getRows_set _ (g3.2 rfl) _ (by simpa using g3.1)] at h3
      exact h3
  · cases a with
    | none =>
      refine h4.mono fun v rs ⟨q1, q2⟩ => ⟨q1, fun r hr => ?_, q2⟩
      exact mergeR_other _ _ _ _ (hR' r hr).1 (hR' r hr).2
    | push => cases ha
    | set k y =>
      obtain ⟨g1, g2⟩ := hk k y rfl
      have g3 := h1 i k true g2 hi
      simp only [Eff.ap] at h4
      rw [bindL_set _ (g3.2 rfl), List.length_set] at h4
      refine h4.mono fun v rs ⟨q1, q2⟩ => ⟨q1, fun r hr => mergeR_other _ _ _ _ (hR' r hr).1 (hR' r hr).2, ?_⟩
      rw [mergeR_set _ _ _ _ _ g1 g3.1] at q2
      exact q2

/-! slots -/

def looks (o : IOp) : List Nat := (o.args.filterMap fun | .t s => some s | .c _ => none) ++ (match o.guard with | some (s, _) => [s] | none => [])

structure Apart (x y : IOp) : Prop where
  xy : ∀ d, x.dst = some d → d ∉ looks y
  yx : ∀ d, y.dst = some d → d ∉ looks x
  ne : ∀ d, x.dst = some d → y.dst ≠ some d

theorem upd_other {ρ : Rho} {d : Option Nat} {v : AVal} {t : Nat} (h : d ≠ some t) : upd ρ d v t = ρ t := by
  cases d with
  | none => rfl
  | some d => simp only [upd]; rw [if_neg (fun e => h (by rw [e]))]

theorem upd_comm {ρ : Rho} {d e : Option Nat} {u v : AVal} (h : ∀ x, d = some x → e ≠ some x) : upd (upd ρ d u) e v = upd (upd ρ e v) d u := by
  cases d with
  | none => rfl
  | some d =>
    cases e with
    | none => rfl
    | some e =>
      funext t
      have := h d rfl
      simp only [ne_eq, Option.some.injEq] at this
      simp only [upd]
      by_cases h1 : e = t <;> by_cases h2 : d = t <;> simp [h1, h2]
      subst h1; subst h2; exact absurd rfl this

theorem args_upd {o : IOp} {ρ : Rho} {d : Option Nat} {v : AVal} (h : ∀ x, d = some x → x ∉ looks o) : o.args.map (Opd.evF (upd ρ d v)) = o.args.map (Opd.evF ρ) := by
  refine List.map_congr_left fun x hx => ?_
  cases x with
  | c v => rfl
  | t s =>
    refine upd_other fun e => h s e ?_
    exact List.mem_append_left _ (List.mem_filterMap.2 ⟨.t s, hx, rfl⟩)

theorem lets_upd {o : IOp} {ρ : Rho} {d : Option Nat} {v : AVal} (h : ∀ x, d = some x → x ∉ looks o) : lets o.guard (upd ρ d v) = lets o.guard ρ := by
  unfold lets
  cases hg : o.guard with
  | none => rfl
  | some g =>
    obtain ⟨s, want⟩ := g
    simp only
    rw [upd_other fun e => h s e (by simp [looks, hg])]

section
variable {P : Program} {base : Nat}

/-- an operation behind another one, put before it -/
theorem step_swap {dj : DOp} {i : Nat} (hi : i ∈ dj.un) {tk tk1 : Tk} (ht : ∀ e ∈ tk, e ∈ tk1) {a : Eff} (ha : a.stay = true) {rows : List Row} {R0 : List Nat}
    (hk : ∀ k y, a = .set k y → k < rows.length ∧ (i, k, true) ∈ tk1) (hR : ∀ r ∈ R0, r < rows.length ∧ ∃ w, (i, r, w) ∈ tk1) {d : Option Nat} {v : AVal} {ρ : Rho}
    (h1 : ∀ x, d = some x → x ∉ looks dj.io) (h2 : ∀ x, d = some x → dj.io.dst ≠ some x) {K : Rho → List Row → Prop} (hs : stepT P base dj tk1 (upd ρ d v) (a.ap rows) K) :
    stepT P base dj tk ρ rows (fun ρ1 rows1 => (∃ u, ρ1 = upd ρ dj.io.dst u) ∧ (∀ r ∈ R0, rows1[r]? = rows[r]?) ∧ K (upd ρ1 d v) (a.ap rows1)) := by
  have okmono : ∀ {un : List Nat} {W R : List Nat}, okTk un tk1 W R → okTk un tk W R := fun h j r w hm hj => h j r w (ht _ hm) hj
  have swap : ∀ {W R : List Nat} {b : Bool} {F : List Row → (AVal → List Row → Prop) → Prop}, Det W R b F → okTk dj.un tk1 W R → F (a.ap rows) (fun u rows' => K (upd (upd ρ d v) dj.io.dst u) rows') →
      F rows (fun u rows' => (∃ u', upd ρ dj.io.dst u = upd ρ dj.io.dst u') ∧ (∀ r ∈ R0, rows'[r]? = rows[r]?) ∧ K (upd (upd ρ dj.io.dst u) d v) (a.ap rows')) := by
    intro W R b F hd hok hf
    have := det_swap hd (R0 := R0) ha (fun k y he => ?_) (fun r hr => ?_) hf
    · obtain ⟨u, e, g1, _, _, _, g5⟩ := hd _ _ this
      refine g5 rows _ (fun _ _ => rfl) (fun _ _ => rfl) ⟨⟨u, rfl⟩, g1.1, ?_⟩
      rw [upd_comm fun x hx hx' => h2 x hx' hx]
      exact g1.2
    · obtain ⟨g1, g2⟩ := hk k y he
      have := hok i k true g2 hi
      exact ⟨g1, this.1, this.2 rfl⟩
    · obtain ⟨g1, w, g2⟩ := hR r hr
      exact ⟨g1, (hok i r w g2 hi).1⟩
  unfold stepT at hs ⊢
  rw [lets_upd h1] at hs
  split
  · rename_i hl
    rw [hl] at hs
    simp only at hs
    unfold runT at hs ⊢
    rw [args_upd h1] at hs
    split
    · rename_i q hq
      rw [hq] at hs
      simp only at hs
      exact ⟨okmono hs.1, swap (evR_det _ _ _) hs.1 hs.2⟩
    · rename_i hq
      rw [hq] at hs
      simp only at hs
      split
      · rename_i f hop
        rw [hop] at hs
        simp only at hs
        have := callT_swap (R0 := R0) hi ht ha hk hR hs
        obtain ⟨sel, vw, srows, g1, g2, g3, g4⟩ := this
        refine ⟨sel, vw, srows, g1, g2, g3, g4.mono fun u rs ⟨q1, q2, q3⟩ => ⟨q1, ⟨_, rfl⟩, q2, ?_⟩⟩
        rw [upd_comm fun x hx hx' => h2 x hx' hx]
        exact q3
      · rename_i hop
        rw [hop] at hs
        simp only at hs
        unfold callVT at hs ⊢
        split at hs
        · rename_i f cs xs hx
          obtain ⟨hfn, hs⟩ := hs
          have := callT_swap (R0 := R0) hi ht ha hk hR hs
          obtain ⟨sel, vw, srows, g1, g2, g3, g4⟩ := this
          refine ⟨hfn, sel, vw, srows, g1, g2, g3, g4.mono fun u rs ⟨q1, q2, q3⟩ => ⟨q1, ⟨_, rfl⟩, q2, ?_⟩⟩
          rw [upd_comm fun x hx hx' => h2 x hx' hx]
          exact q3
        · exact hs.elim
      · rename_i op hop hopv
        split at hs
        · rename_i f hf; exact absurd hf (hop f)
        · rename_i hf; exact absurd hf hopv
        · exact ⟨okmono hs.1, swap (ev_det _ _) hs.1 hs.2⟩
  · rename_i hl
    rw [hl] at hs
    simp only at hs
    refine ⟨⟨_, rfl⟩, fun r hr => rfl, ?_⟩
    rw [upd_comm fun x hx hx' => h2 x hx' hx]
    exact hs
  · rename_i hl
    rw [hl] at hs
    exact hs

/-- an operation that may be taken first -/
def DOp.easy (d : DOp) : Bool := d.res.isSome || !isE d.io.op

theorem commute {di dj : DOp} {i : Nat} (he : di.easy = true) (hap : Apart di.io dj.io) (hi : i ∈ dj.un) {tk : Tk} {ρ : Rho} {rows : List Row} {K : Rho → List Row → Prop}
    (h : stepT P base di tk ρ rows (fun ρ1 rows1 => stepT P base dj (ext base i di ρ tk) ρ1 rows1 K)) :
    stepT P base dj tk ρ rows (fun ρ1 rows1 => ext base i di ρ1 tk = ext base i di ρ tk ∧ stepT P base di tk ρ1 rows1 K) := by
  have hsame : ∀ u, ext base i di (upd ρ dj.io.dst u) tk = ext base i di ρ tk := fun u => by
    unfold ext
    rw [lets_upd hap.yx, args_upd hap.yx]
  have mono : ∀ {K K' : Rho → List Row → Prop}, stepT P base dj tk ρ rows K → (∀ ρ1 rows1, K ρ1 rows1 → K' ρ1 rows1) → stepT P base dj tk ρ rows K' := fun h hk => step_mono (fun _ h => h) h hk
  unfold stepT at h
  split at h
  · rename_i hl
    unfold runT at h
    split at h
    · rename_i q hq
      obtain ⟨h1, h2⟩ := h
      have hext : ext base i di ρ tk = (i, base + q, true) :: tk := by simp [ext, hl, hq]
      obtain ⟨v, y0, g1, g4, g5⟩ := evR_out h2
      rw [hext] at g1
      have := step_swap (tk := tk) (a := .set (base + q) y0) (R0 := [base + q]) hi (fun e hm => List.mem_cons_of_mem _ hm) rfl (fun k y he => ?_) (fun r hr => ?_) hap.xy hap.ne g1
      · refine mono this fun ρ1 rows1 ⟨⟨u, hu⟩, q2, q3⟩ => ?_
        subst hu
        refine ⟨hsame u, ?_⟩
        simp only [stepT, lets_upd hap.yx, hl, runT, hq, args_upd hap.yx]
        exact ⟨h1, g5 rows1 _ (q2 _ (by simp)) q3⟩
      · cases he
        exact ⟨g4, by simp⟩
      · simp at hr; subst hr
        exact ⟨g4, true, by simp⟩
    · rename_i hq
      have hnE : isE di.io.op = false := by simpa [DOp.easy, hq] using he
      split at h
      · rename_i f hop; rw [hop] at hnE; simp [isE] at hnE
      · rename_i hop; rw [hop] at hnE; simp [isE] at hnE
      · rename_i op hop hopv
        obtain ⟨h1, h2⟩ := h
        have hext : ext base i di ρ tk = (tR di.io.op (di.io.args.map (Opd.evF ρ))).map (fun r => (i, r, false)) ++ tk := by simp [ext, hl, hq, hnE]
        obtain ⟨v, a, g1, g2, g3, g4, g5⟩ := ev_det _ _ _ _ h2
        have ha : a = .none := g2 (by rw [hnE]; rfl)
        subst ha
        rw [hext] at g1
        have := step_swap (tk := tk) (R0 := tR di.io.op (di.io.args.map (Opd.evF ρ))) hi (fun e hm => List.mem_append_right _ hm) rfl (fun k y he => (by cases he)) (fun r hr => ⟨g4 r (.inr hr), false, List.mem_append_left _ (List.mem_map.2 ⟨r, hr, rfl⟩)⟩) hap.xy hap.ne g1
        refine mono this fun ρ1 rows1 ⟨⟨u, hu⟩, q2, q3⟩ => ?_
        subst hu
        refine ⟨hsame u, ?_⟩
        have hW := tW_easy (args := di.io.args.map (Opd.evF ρ)) hnE
        simp only [stepT, lets_upd hap.yx, hl, runT, hq, args_upd hap.yx]
        refine ⟨h1, g5 rows1 _ (fun x hx => (by cases hx)) (fun r hr => ?_) q3⟩
        rcases hr with hr | hr
        · rw [hW] at hr; simp at hr
        · exact q2 r hr
  · rename_i hl
    have hext : ext base i di ρ tk = tk := by simp [ext, hl]
    rw [hext] at h
    have := step_swap (tk := tk) (a := .none) (R0 := []) hi (fun e hm => hm) rfl (fun k y he => (by cases he)) (fun r hr => (by simp at hr)) hap.xy hap.ne h
    refine mono this fun ρ1 rows1 ⟨⟨u, hu⟩, q2, q3⟩ => ?_
    subst hu
    refine ⟨hsame u, ?_⟩
    simp only [stepT, lets_upd hap.yx, hl]
    exact q3
  · exact h.elim

/-! a look at a map and the making of an entry, unordered: the entry that is made has the zero value, which a look would give as well -/
theorem eqCells_symm : ∀ {ks : List CK} {a b : List AVal}, fits ks a → fits ks b → eqCells a b = eqCells b a
  | [], a, b, ha, hb => by cases a <;> cases b <;> simp [fits, eqCells] at *
  | k :: ks, a, b, ha, hb => by
    cases a with
    | nil => cases k <;> simp [fits] at ha
    | cons x a =>
      cases b with
      | nil => cases k <;> simp [fits] at hb
      | cons y b =>
        cases k <;> cases x <;> simp only [fits] at ha <;> cases y <;> simp only [fits] at hb <;> simp only [eqCells]
        · rw [eqCells_symm ha.2 hb.2, Bool.beq_comm]
        · rw [eqCells_symm ha hb, Bool.beq_comm]
        · rw [eqCells_symm ha hb, Bool.beq_comm]
theorem eqCells_congr : ∀ {ks : List CK} {a b c : List AVal}, fits ks a → fits ks b → fits ks c → eqCells a b = true → eqCells c a = eqCells c b
  | [], a, b, c, ha, hb, hc, _ => by cases a <;> cases b <;> cases c <;> simp [fits, eqCells] at *
  | k :: ks, a, b, c, ha, hb, hc, h => by
    cases a with
    | nil => cases k <;> simp [fits] at ha
    | cons x a =>
      cases b with
      | nil => cases k <;> simp [fits] at hb
      | cons y b =>
        cases c with
        | nil => cases k <;> simp [fits] at hc
        | cons z c =>
          cases k <;> cases x <;> simp only [fits] at ha <;> cases y <;> simp only [fits] at hb <;> cases z <;> simp only [fits] at hc <;> simp only [eqCells, Bool.and_eq_true, beq_iff_eq] at h ⊢
          · rw [eqCells_congr ha.2 hb.2 hc.2 h.2, h.1]
          · rw [eqCells_congr ha hb hc h.2, h.1]
          · rw [eqCells_congr ha hb hc h.2, h.1]
theorem isKey_symm {ag : Bool} {ks : List CK} {a b : AVal} (ha : keyFits ag ks a) (hb : keyFits ag ks b) : isKey a b = isKey b a := eqCells_symm ha.2 hb.2
theorem isKey_congr {ag : Bool} {ks : List CK} {a b c : AVal} (ha : keyFits ag ks a) (hb : keyFits ag ks b) (hc : keyFits ag ks c) (h : isKey a b = true) : isKey c a = isKey c b := eqCells_congr ha.2 hb.2 hc.2 h
theorem kfind_kput {ag : Bool} {ks : List CK} {k k' v : AVal} (hk : keyFits ag ks k) (hk' : keyFits ag ks k') : ∀ {ents : List (AVal × AVal)}, entsFit ag ks ents → kfind k (kput k' v ents) = if isKey k k' then some v else kfind k ents
  | [], _ => rfl
  | p :: ps, he => by
    have hp := he p List.mem_cons_self
    have ih := kfind_kput (v := v) hk hk' (ents := ps) fun q hq => he q (List.mem_cons_of_mem _ hq)
    rw [kput]
    split
    · rename_i h1
      rw [kfind, kfind, isKey_congr hk' hp hk h1]
      split <;> rfl
    · rename_i h1
      rw [kfind, kfind, ih]
      by_cases h2 : isKey k p.1 = true
      · rw [if_pos h2, if_pos h2]
        have : isKey k k' = false := by
          cases h3 : isKey k k' with
          | false => rfl
          | true =>
            have := isKey_congr hk hk' hp h3
            rw [isKey_symm hp hk, h2, isKey_symm hp hk'] at this
            exact absurd this.symm h1
        rw [this]; rfl
      · rw [if_neg h2, if_neg h2]
theorem kfind_same {ag : Bool} {ks : List CK} {k k' : AVal} (hk : keyFits ag ks k) (hk' : keyFits ag ks k') (h : isKey k k' = true) : ∀ {ents : List (AVal × AVal)}, entsFit ag ks ents → kfind k ents = kfind k' ents
  | [], _ => rfl
  | p :: ps, he => by
    have hp := he p List.mem_cons_self
    have ih := kfind_same hk hk' h (ents := ps) fun q hq => he q (List.mem_cons_of_mem _ hq)
    have e := isKey_congr hk hk' hp h
    rw [isKey_symm hp hk, isKey_symm hp hk'] at e
    rw [kfind, kfind, e, ih]
theorem look_ment {ag : Bool} {ks : List CK} {k k' z : AVal} {ents : List (AVal × AVal)} (hk : keyFits ag ks k) (hk' : keyFits ag ks k') (he : entsFit ag ks ents) : (kfind k (kput k' ((kfind k' ents).getD z) ents)).getD z = (kfind k ents).getD z := by
  rw [kfind_kput hk hk' he]
  split
  · rename_i h; rw [kfind_same hk hk' h he]; rfl
  · rfl
/-- such a pair -/
def ben (x y : IOp) : Bool :=
  match x.op, x.guard, y.op, y.guard with
  | .look false ag ks (.int q n), none, .ment ag' ks' (.int q' n'), none => decide (ag = ag' ∧ ks = ks' ∧ q = q' ∧ n = n')
  | _, _, _, _ => false
theorem ben_spec {x y : IOp} (h : ben x y = true) : ∃ ag ks z, x.op = .look false ag ks z ∧ x.guard = none ∧ y.op = .ment ag ks z ∧ y.guard = none := by
  unfold ben at h
  split at h
  · rename_i ag ks q n ag' ks' q' n' h1 h2 h3 h4
    obtain ⟨rfl, rfl, rfl, rfl⟩ := of_decide_eq_true h
    exact ⟨_, _, _, h1, h2, h3, h4⟩
  · cases h
theorem commuteB {di dj : DOp} {i : Nat} (hap : Apart di.io dj.io) (hb : ben di.io dj.io = true) (hri : di.res = none) (hrj : dj.res = none) {tk : Tk} {ρ : Rho} {rows : List Row} {K : Rho → List Row → Prop}
    (h : stepT P base di tk ρ rows (fun ρ1 rows1 => stepT P base dj (ext base i di ρ tk) ρ1 rows1 K)) :
    stepT P base dj tk ρ rows (fun ρ1 rows1 => ext base i di ρ1 tk = ext base i di ρ tk ∧ stepT P base di tk ρ1 rows1 K) := by
  obtain ⟨ag, ks, z, o1, g1, o2, g2⟩ := ben_spec hb
  have hsame : ∀ u, ext base i di (upd ρ dj.io.dst u) tk = ext base i di ρ tk := fun u => by
    unfold ext
    rw [lets_upd hap.yx, args_upd hap.yx]
  have hsub : ∀ e ∈ tk, e ∈ ext base i di ρ tk := fun e he => by
    unfold ext
    simp only [lets, g1, if_true, hri, o1, isE]
    exact List.mem_append_right _ he
  simp only [stepT, lets, g1, g2, runT, hri, hrj, o1, o2] at h ⊢
  obtain ⟨h1, h2⟩ := h
  generalize hxs : di.io.args.map (Opd.evF ρ) = xs at h1 h2
  have hsw : ∀ v, dj.io.args.map (Opd.evF (upd ρ di.io.dst v)) = dj.io.args.map (Opd.evF ρ) := fun v => args_upd hap.xy
  have hsw2 : ∀ u, di.io.args.map (Opd.evF (upd ρ dj.io.dst u)) = xs := fun u => by rw [args_upd hap.yx, hxs]
  simp only [hsw] at h2
  match xs, h1, h2 with
  | [x, k], h1, h2 =>
    simp only [ev] at h2
    unfold evLook at h2
    cases hm : ments rows ag ks x with
    | none => rw [hm] at h2; exact h2.elim
    | some ents =>
      rw [hm] at h2
      obtain ⟨hk, h3, h4⟩ := h2
      refine ⟨okTk.mono hsub h3, ?_⟩
      generalize dj.io.args.map (Opd.evF ρ) = ys at h3 h4
      match ys, h4 with
      | [y, k'], h4 =>
        simp only [ev] at h4 ⊢
        unfold evMent at h4 ⊢
        split at h4
        · rename_i r
          split at h4
          · rename_i ag' ks' ents' hr
            obtain ⟨⟨rfl, rfl⟩, ⟨hk', he⟩, h5⟩ := h4
            simp only [hr]
            refine ⟨by simp, ⟨hk', he⟩, hsame _, ?_⟩
            rw [hsw2]
            refine ⟨h1, ?_⟩
            simp only [ev]
            unfold evLook
            have hv : ∃ ents2, ments (rows.set r (.obj (.map ag' ks' (kput k' ((kfind k' ents').getD z) ents')))) ag' ks' x = some ents2 ∧ (kfind k ents2).getD z = (kfind k ents).getD z := by
              cases x with
              | mref r2 =>
                by_cases e : r2 = r
                · subst e
                  simp only [ments, hr, and_self, if_true, Option.some.injEq] at hm
                  subst hm
                  refine ⟨_, ?_, look_ment hk hk' he⟩
                  simp only [ments, List.getElem?_set, if_true, (List.getElem?_eq_some_iff.1 hr).1, and_self]
                · refine ⟨ents, ?_, rfl⟩
                  rw [← hm]
                  simp only [ments, List.getElem?_set, if_neg (fun e' => e e'.symm : ¬ r = r2)]
              | nilm => exact ⟨ents, by rw [← hm]; rfl, rfl⟩
              | _ => simp [ments] at hm
            obtain ⟨ents2, e1, e2⟩ := hv
            rw [e1]
            refine ⟨hk, ?_⟩
            simp only [Bool.false_eq_true, if_false] at h5 ⊢
            rw [e2, upd_comm fun x hx hx' => hap.ne x hx' hx]
            exact h5
          · exact h4.elim
        · exact h4.elim

end
end Go.Abs
end

section
/- Regions that draw their order: one order stands for all. -/
namespace Go.Abs
variable [Glb]
section
variable {P : Program} {base : Nat} {ops : Array Oper} {ds : List DOp} {anc : List (List Nat)}

/-- with an operation all that come before it are listed -/
def Down (anc : List (List Nat)) (listed : Array Bool) : Prop := ∀ j, listed.getD j false = true → ∀ i ∈ anc.getD j [], listed.getD i false = true

/-- 'anc': some of the operations that come before -/
def AncOk (ops : Array Oper) (anc : List (List Nat)) : Prop := ∀ j o, ops[j]? = some o → ∀ i ∈ anc.getD j [], ∃ e ∈ o.after, Region.binds .any e = true ∧ (e.on = i ∨ i ∈ anc.getD e.on [])

theorem ready_anc (ha : AncOk ops anc) {listed : Array Bool} (hd : Down anc listed) {j : Nat} (hj : j ∈ Region.ready .any ops listed) : ∀ i ∈ anc.getD j [], listed.getD i false = true := by
  intro i hi
  obtain ⟨_, o, ho, hall⟩ := mem_ready.1 hj
  obtain ⟨e, he, hb, h⟩ := ha j o ho i hi
  have := hall e he hb
  rcases h with rfl | h
  · exact this
  · exact hd _ this i h

theorem getD_true_of {listed : Array Bool} {i : Nat} (h : listed.getD i true = false) : listed.getD i false = false := by
  rcases Nat.lt_or_ge i listed.size with h' | h'
  · simp [h'] at h ⊢; exact h
  · simp [Array.getElem?_eq_none h']

theorem down_set (ha : AncOk ops anc) {listed : Array Bool} (hd : Down anc listed) {j : Nat} (hj : j ∈ Region.ready .any ops listed) : Down anc (listed.setIfInBounds j true) := by
  intro k hk i hi
  by_cases hkj : j = k
  · subst hkj
    exact getD_set_true (ready_anc ha hd hj i hi)
  · rw [getD_set_ne false hkj] at hk
    exact getD_set_true (hd k hk i hi)

theorem anyT_tk {K : Rho → List Row → Prop} : ∀ (fuel : Nat) (listed : Array Bool) (tk tk1 : Tk) (ρ : Rho) (rows : List Row), (∀ e ∈ tk, e ∈ tk1) → anyT P base ops ds fuel listed tk1 K ρ rows → anyT P base ops ds fuel listed tk K ρ rows
  | 0, _, _, _, _, _, _, h => h
  | fuel + 1, _, tk, tk1, _, _, ht, h => ⟨h.1, fun i hi => step_mono ht (h.2 i hi) fun ρ' rows' h' => anyT_tk fuel _ tk tk1 ρ' rows' ht h'⟩

theorem ext_sub {i : Nat} {d : DOp} {ρ : Rho} {tk : Tk} : ∀ e ∈ tk, e ∈ ext base i d ρ tk := by
  intro e he
  unfold ext
  split
  · split
    · exact List.mem_cons_of_mem _ he
    · split
      · exact he
      · exact List.mem_append_right _ he
  · exact he

theorem easy_out {d : DOp} (he : d.easy = true) {tk : Tk} {ρ : Rho} {rows : List Row} {K : Rho → List Row → Prop} (h : stepT P base d tk ρ rows K) : ∃ ρ' rows', K ρ' rows' := by
  unfold stepT at h
  split at h
  · unfold runT at h
    split at h
    · obtain ⟨v, y, g, _⟩ := evR_out h.2; exact ⟨_, _, g⟩
    · rename_i hq
      have hnE : isE d.io.op = false := by simpa [DOp.easy, hq] using he
      split at h
      · rename_i f hop; rw [hop] at hnE; simp [isE] at hnE
      · rename_i hop; rw [hop] at hnE; simp [isE] at hnE
      · obtain ⟨v, a, g, _⟩ := ev_det _ _ _ _ h.2; exact ⟨_, _, g⟩
  · exact ⟨_, _, h⟩
  · exact h.elim

/-- i and j: ordered, or free of each other -/
def PairOk (ds : List DOp) (anc : List (List Nat)) (i j : Nat) : Prop :=
  i ∈ anc.getD j [] ∨ j ∈ anc.getD i [] ∨ (Apart (ds.getD i default).io (ds.getD j default).io ∧ (i ∈ (ds.getD j default).un ∨ (ben (ds.getD i default).io (ds.getD j default).io = true ∧ (ds.getD i default).res = none ∧ (ds.getD j default).res = none)))

theorem take (ha : AncOk ops anc) {i : Nat} (he : (ds.getD i default).easy = true) (hp : ∀ j, j < ops.size → j ≠ i → PairOk ds anc i j) {K : Rho → List Row → Prop} : ∀ (fuel : Nat) (listed : Array Bool) (tk : Tk) (ρ : Rho) (rows : List Row),
    Down anc listed → i ∈ Region.ready .any ops listed → stepT P base (ds.getD i default) tk ρ rows (anyT P base ops ds fuel (listed.setIfInBounds i true) (ext base i (ds.getD i default) ρ tk) K) →
    anyT P base ops ds (fuel + 1) listed tk K ρ rows := by
  intro fuel
  induction fuel with
  | zero =>
    intro listed tk ρ rows hd hr h
    refine ⟨fun h0 => (by rw [h0] at hr; cases hr), fun j hj => ?_⟩
    by_cases hji : j = i
    · subst hji
      exact step_mono (fun _ h => h) h fun ρ' rows' h' => anyT_tk 0 _ tk _ ρ' rows' ext_sub h'
    · have hj' := ready_mono hj hji
      obtain ⟨ρ', rows', g⟩ := easy_out he h
      rw [g.1] at hj'
      cases hj'
  | succ fuel ih =>
    intro listed tk ρ rows hd hr h
    refine ⟨fun h0 => (by rw [h0] at hr; cases hr), fun j hj => ?_⟩
    by_cases hji : j = i
    · subst hji
      exact step_mono (fun _ h => h) h fun ρ' rows' h' => anyT_tk _ _ tk _ ρ' rows' ext_sub h'
    · have hlt : j < ops.size := by
        obtain ⟨_, o, ho, _⟩ := mem_ready.1 hj
        exact (Array.getElem?_eq_some_iff.1 ho).1
      rcases hp j hlt hji with h1 | h1 | ⟨h1, h2⟩
      · have := ready_anc ha hd hj i h1
        rw [getD_true_of (mem_ready.1 hr).1] at this; cases this
      · have := ready_anc ha hd hr j h1
        rw [getD_true_of (mem_ready.1 hj).1] at this; cases this
      · have hc := (show stepT P base (ds.getD j default) tk ρ rows (fun ρ1 rows1 => ext base i (ds.getD i default) ρ1 tk = ext base i (ds.getD i default) ρ tk ∧ stepT P base (ds.getD i default) tk ρ1 rows1 _) from by
          rcases h2 with h2 | ⟨h2, h3, h4⟩
          · exact commute (P := P) (base := base) he h1 h2 (step_mono (fun _ h => h) h fun ρ1 rows1 h' => h'.2 j (ready_mono hj hji))
          · exact commuteB (P := P) (base := base) h1 h2 h3 h4 (step_mono (fun _ h => h) h fun ρ1 rows1 h' => h'.2 j (ready_mono hj hji)))
        refine step_mono (fun _ h => h) hc fun ρ1 rows1 ⟨g1, g2⟩ => ?_
        refine ih (listed.setIfInBounds j true) tk ρ1 rows1 (down_set ha hd hj) (ready_mono hr (Ne.symm hji)) ?_
        rw [g1, Array.setIfInBounds_comm _ _ hji]
        exact g2

/-- an order that may stand for all -/
def canon (ops : Array Oper) (ds : List DOp) : Array Bool → List Nat → Bool
  | listed, [] => Region.ready .any ops listed == []
  | listed, i :: is => (Region.ready .any ops listed).contains i && ((ds.getD i default).easy || Region.ready .any ops listed == [i]) && canon ops ds (listed.setIfInBounds i true) is

theorem anyT_done {K : Rho → List Row → Prop} {listed : Array Bool} (h : Region.ready .any ops listed = []) {tk : Tk} {ρ : Rho} {rows : List Row} (hk : K ρ rows) : ∀ fuel, anyT P base ops ds fuel listed tk K ρ rows
  | 0 => ⟨h, hk⟩
  | _ + 1 => ⟨fun _ => hk, by rw [h]; simp⟩

theorem canon_any (ha : AncOk ops anc) (hp : ∀ i j, i < ops.size → j < ops.size → j ≠ i → (ds.getD i default).easy = true → PairOk ds anc i j) {K : Rho → List Row → Prop} : ∀ (order : List Nat) (listed : Array Bool) (tk : Tk) (ρ : Rho) (rows : List Row) (fuel : Nat),
    canon ops ds listed order = true → Down anc listed → order.length ≤ fuel → drawF P base ds order tk K ρ rows → anyT P base ops ds fuel listed tk K ρ rows
  | [], listed, tk, ρ, rows, fuel, hc, hd, hl, h => by
    simp [canon] at hc
    exact anyT_done hc h fuel
  | i :: is, listed, tk, ρ, rows, 0, hc, hd, hl, h => by simp at hl
  | i :: is, listed, tk, ρ, rows, fuel + 1, hc, hd, hl, h => by
    simp only [canon, Bool.and_eq_true, Bool.or_eq_true, beq_iff_eq, List.contains_iff_mem] at hc
    obtain ⟨⟨h1, h2⟩, h3⟩ := hc
    have hlt : i < ops.size := by
      obtain ⟨_, o, ho, _⟩ := mem_ready.1 h1
      exact (Array.getElem?_eq_some_iff.1 ho).1
    have ih := fun tk ρ rows => canon_any ha hp is (listed.setIfInBounds i true) tk ρ rows fuel h3 (down_set ha hd h1) (by simpa using hl) (K := K)
    rcases h2 with h2 | h2
    · exact take ha h2 (fun j hj hji => hp i j hlt hj hji h2) fuel listed tk ρ rows hd h1 (step_mono (fun _ h => h) h fun ρ' rows' h' => ih _ ρ' rows' h')
    · refine ⟨fun h0 => (by rw [h0] at h2; cases h2), fun j hj => ?_⟩
      rw [h2] at hj
      simp at hj
      subst hj
      exact step_mono (fun _ h => h) h fun ρ' rows' h' => anyT_tk _ _ tk _ ρ' rows' ext_sub (ih _ ρ' rows' h')

end
end Go.Abs
end

section
/- Regions that draw their order: what holds of the abstract run holds of the model's. -/
namespace Go.Abs
variable [Glb]
section
variable {P : Program} {C : Ctx}

theorem drew_ok (h : Ok C) : Ok { C with w := C.w.drew } ∧ Later C.rows.length C { C with w := C.w.drew } := by
  have later : Later C.rows.length C { C with w := C.w.drew } :=
    ⟨rfl, rfl, rfl, Nat.le_refl _, fun b hb _ => rfl, fun r _ c h => .inl ⟨r, c, h⟩, rfl, rfl, Nat.le_refl _, fun _ _ _ vals _ h => ⟨vals, h, Nat.le_refl _, fun _ => rfl⟩, fun _ o _ h => ⟨o, h, rfl⟩, fun _ => Nat.le_succ _⟩
  refine ⟨⟨h.pm, h.plen, fun r row hr => ?_, h.inj, fun b hb => h.om b hb⟩, later⟩
  exact RowOk.move later.ext rfl rfl (fun b c hb => rfl) (h.rows r row hr)

/-- rows that are filled later -/
def reserved (res : List (TypeId × Nat)) : List Row := res.map fun p => .live p.1 p.2 []

theorem reserve_ok : ∀ (res : List (TypeId × Nat)) (C : Ctx), Ok C → ∃ C', C'.w = C.w ∧ C'.rows = C.rows ++ reserved res ∧ Ok C' ∧ Later C.rows.length C C'
  | [], C, h => ⟨C, rfl, by simp [reserved], h, Later.refl C⟩
  | (e, sz) :: res, C, h => by
    obtain ⟨h1, h2⟩ := push_nil h e sz
    obtain ⟨C', g1, g2, g3, g4⟩ := reserve_ok res _ h1
    refine ⟨C', g1, ?_, g3, h2.trans g4 (by simp)⟩
    rw [g2]; simp [reserved]

theorem fill_row (h : Ok C) {k : Nat} {e : TypeId} {sz : Nat} (hr : C.rows[k]? = some (.live e sz [])) (cap : Nat) (cs : Array Value) (vals : List (List AVal)) (vs : List Value)
    (hs : cs.size = cap * sz) (hm : cap ≤ maxLen) (hv : vals.length ≤ cap) (he : Elems C sz vals vs) (ht : cs.toList.take vs.length = vs) (hpos : 0 < vals.length) :
    Ok ⟨C.rows.set k (.live e sz vals), C.phi.set k (some (C.w.heap.size, cap)), C.om, C.w.alloc (.cells cs e), C.pm⟩ ∧
    Later C.rows.length C ⟨C.rows.set k (.live e sz vals), C.phi.set k (some (C.w.heap.size, cap)), C.om, C.w.alloc (.cells cs e), C.pm⟩ := by
  have hk : k < C.rows.length := lt_of_row hr
  obtain ⟨p, hp⟩ : ∃ p, C.phi[k]? = some p := ⟨_, List.getElem?_eq_getElem (by rw [h.plen]; exact hk)⟩
  refine set_row h hr hp C.w.heap.size cap cs vals vs (C.w.alloc (.cells cs e)) ⟨rfl, rfl, rfl, by simp, fun b hb _ => heap_alloc_old C.w _ hb⟩ (.inr (Nat.le_refl _)) (heap_alloc_new C.w _) hs hm hv he ht (Nat.zero_le _) fun h0 => ?_
  simp at h0; omega

theorem set_ref {rows : List Row} {phi : List (Option (Nat × Nat))} {om : Nat → Prop} {w : World} {e : TypeId} {sz b cap k : Nat} {cells : List AVal} (hl : phi.length = rows.length) (hk : k < rows.length) :
    Rep ⟨rows.set k (.live e sz [cells]), phi.set k (some (b, cap)), om, w, false⟩ (.ref k 1 0 0) (.pointer (some ⟨b, 0, none⟩)) := by
  rw [Rep]
  refine ⟨rfl, ⟨_, rfl⟩, by simpa using hk, fun e' sz' vals h => ?_⟩
  simp only [List.getElem?_set, if_true, hk] at h
  simp at h
  obtain ⟨rfl, rfl, rfl⟩ := h
  exact ⟨by simp, fun _ => ⟨by simp, b, cap, by simp [List.getElem?_set, hl, hk], by simp⟩⟩

theorem set_own {rows : List Row} {phi : List (Option (Nat × Nat))} {om : Nat → Prop} {w : World} {e : TypeId} {sz b cap k : Nat} {vals : List (List AVal)} (hl : phi.length = rows.length) (hk : k < rows.length) (hc : vals.length ≤ cap) :
    Rep ⟨rows.set k (.live e sz vals), phi.set k (some (b, cap)), om, w, false⟩ (.own k vals.length 0 vals.length) (.slice (some ⟨b, 0, none⟩) vals.length cap) := by
  rw [Rep]
  refine ⟨rfl, ⟨_, _, rfl⟩, by simpa using hk, fun e' sz' vals' h => ?_⟩
  simp only [List.getElem?_set, if_true, hk] at h
  simp at h
  obtain ⟨rfl, rfl, rfl⟩ := h
  exact ⟨by simp, fun _ => ⟨by simp, some (b, cap), by simp [List.getElem?_set, hl, hk], ⟨b, 0, none⟩, cap, rfl, hc, rfl, rfl, fun _ => ⟨rfl, rfl⟩, fun _ => by simp⟩⟩

variable {K : AVal → List Row → Prop}

theorem run_allocR (hok : Ok C) {t : TypeId} {z : List AVal} (hz : zeroOf P t = some z) {k : Nat} (hk : C.rows[k]? = some (.live t z.length [])) (h : K (.ref k 1 0 0) (C.rows.set k (.live t z.length [z]))) :
    ∃ cv v C', (Instr.alloc t true (.tuple #[])).run P C.w = .ok cv C'.w ∧ Rep C' v cv ∧ Ok C' ∧ Later C.rows.length C C' ∧ K v C'.rows := by
  obtain ⟨i, zv, hi, hzv, habs, hl, hpos, hsz⟩ := zeroOf_spec hz
  obtain ⟨k1, k2⟩ := absVs_rep (C := C) habs
  have hlen := k1.length
  have hp := fill_row hok hk 1 zv.cells [z] zv.cells.toList (by omega) (by simp [maxLen]) (by simp) (elems_one rfl k1 (ones_rep k1 k2)) List.take_length (by simp)
  refine ⟨.pointer (some ⟨C.w.heap.size, 0, none⟩), _, _, ?_, (hok.pm ▸ set_ref hok.plen (lt_of_row hk)), hp.1, hp.2, h⟩
  simp [Instr.alloc, run_zero hi hzv, newVar, newRow]

theorem run_boxR (hok : Ok C) {t : TypeId} {n : Nat} {x : AVal} {cx : Value} (hx : Rep C x cx) (h1 : (acells x).length = n) (h2 : (acells x).all one = true) {k : Nat} (hk : C.rows[k]? = some (.live t n []))
    (h : K (.ref k 1 0 0) (C.rows.set k (.live t n [acells x]))) :
    ∃ cv v C', (Instr.box t cx).run P C.w = .ok cv C'.w ∧ Rep C' v cv ∧ Ok C' ∧ Later C.rows.length C C' ∧ K v C'.rows := by
  obtain ⟨k1, k2⟩ := cells_rep hx h2
  have hlen := k1.length
  simp only [Array.length_toList] at hlen
  have hp := fill_row hok hk 1 cx.cells [acells x] cx.cells.toList (by omega) (by simp [maxLen]) (by simp) (elems_one h1 k1 k2) List.take_length (by simp)
  refine ⟨.pointer (some ⟨C.w.heap.size, 0, none⟩), _, _, ?_, (hok.pm ▸ set_ref hok.plen (lt_of_row hk)), hp.1, hp.2, h⟩
  simp [Instr.box, newVar, newRow]

theorem run_bsliceR (hok : Ok C) {t e : TypeId} {z : List AVal} {len : Nat} {parts : Array (Nat × Operand)} {ρ : Operand → Value} {vs : List AVal} {es : List (List AVal)}
    (hu : P.underlying t = some (.slice e)) (hz : zeroOf P e = some z) (hlen : len * z.length ≤ 16777216) (hl0 : 0 < len)
    (hr : RepL C vs ((parts.toList.map (·.2)).map ρ)) (hf : fillE (List.replicate len z) z.length (parts.toList.map (·.1)) vs = some es) (h1 : (vs.all fun v => (acells v).all one) = true)
    {k : Nat} (hk : C.rows[k]? = some (.live e z.length [])) (h : K (.own k len 0 len) (C.rows.set k (.live e z.length es))) :
    ∃ cv v C', (Instr.buildSlice t len (parts.map fun (i, x) => (i, ρ x))).run P C.w = .ok cv C'.w ∧ Rep C' v cv ∧ Ok C' ∧ Later C.rows.length C C' ∧ K v C'.rows := by
  obtain ⟨i, zv, hi, hzv, habs, hl, hpos, hsz⟩ := zeroOf_spec hz
  obtain ⟨k1, k2⟩ := absVs_rep (C := C) habs
  have ho := ones_rep k1 k2
  obtain ⟨f1, f2, f3⟩ := fillE_fillC _ vs _ es hf (by intro x hx; rw [List.eq_of_mem_replicate hx])
  rw [List.length_replicate] at f3
  have hz0 : RepL C (List.replicate len z).flatten (List.replicate len zv.cells.toList).flatten ∧ allOne (List.replicate len zv.cells.toList).flatten := by
    clear hf f1 f3 hlen h hl0
    induction len with
    | zero => simp [RepL, allOne]
    | succ n ih =>
      rw [List.replicate_succ, List.replicate_succ, List.flatten_cons, List.flatten_cons]
      refine ⟨k1.append ih.1, fun v hv => ?_⟩
      rcases List.mem_append.1 hv with hv | hv
      · exact ho v hv
      · exact ih.2 v hv
  have hsize : i.size = z.length := hl.symm
  have hinit : ((Array.range (len * i.size)).map (zv.cells[· % zv.cells.size]!)).toList = (List.replicate len zv.cells.toList).flatten := by
    rw [← hsz]; exact zeroRow zv.cells len
  obtain ⟨r, r1, r2, r3⟩ := fill_rep (C := C) (fun j => some (j * z.length, z.length)) (parts.toList.map (·.1)) ((parts.toList.map (·.1)).map fun j => (j * z.length, z.length)) vs _ _ es.flatten
    ((Array.range (len * i.size)).map (zv.cells[· % zv.cells.size]!)) (by rw [← List.filterMap_eq_map]; rfl) (by simp) hr f1 h1 (by rw [hinit]; exact hz0.1)
  have r4 := r3 (by rw [hinit]; exact hz0.2)
  have helems : Elems C z.length es r.toList := ⟨f2, r2, r4⟩
  have hrl := helems.length
  simp only [Array.length_toList] at hrl
  have hlm : len ≤ maxLen := by
    have : len ≤ len * z.length := Nat.le_mul_of_pos_right _ (by omega)
    simp only [maxLen]; omega
  have hp := fill_row hok hk len r es r.toList (by rw [hrl, f3]) hlm (by omega) helems List.take_length (by omega)
  refine ⟨.slice (some ⟨C.w.heap.size, 0, none⟩) len len, .own k len 0 len, _, ?_, ?_, hp.1, hp.2, h⟩
  · have hz2 : (parts.map fun (i, x) => (i, ρ x)).toList = (parts.toList.map (·.1)).zip ((parts.toList.map (·.2)).map ρ) := by
      rw [Array.toList_map]; exact zip_map_pair _ _
    have hso : (sizeOf e).run P C.w = .ok i.size C.w := by simp [sizeOf, typeInfo, hi]
    rw [← hsize] at r1 hlen
    simp only [Instr.buildSlice, Sem.run_bind, run_underlying hu, Result.andThen_ok, hso, Sem.run_ite]
    rw [if_neg (by omega)]
    have h0 : ¬ len * i.size = 0 := by
      intro h0
      rcases Nat.mul_eq_zero.1 h0 with h | h <;> omega
    simp only [h0, if_false, Sem.run_bind, run_zero hi hzv, Sem.run_pure, Result.andThen_ok]
    rw [hz2, r1]
    simp [newRow]
  · have := set_own (rows := C.rows) (phi := C.phi) (om := C.om) (w := C.w.alloc (.cells r e)) (e := e) (sz := z.length) (b := C.w.heap.size) (cap := len) (vals := es) hok.plen (lt_of_row hk) (by omega)
    rw [f3] at this
    rw [hok.pm]
    exact this

theorem run_msliceR (hok : Ok C) {t e : TypeId} {z : List AVal} {by_ : Nat} (hu : P.underlying t = some (.slice e)) (hz : zeroOf P e = some z) (hb : (P.info? e).map (·.bytes) = some by_)
    {k k' : IntKind} {l c : Int} (h1 : 0 < l) (h2 : l ≤ c) (h3 : c * by_ ≤ 140737488355328) (h4 : c ≤ 140737488355328)
    {q : Nat} (hk : C.rows[q]? = some (.live e z.length [])) (h : K (.own q l.toNat 0 l.toNat) (C.rows.set q (.live e z.length (List.replicate l.toNat z)))) :
    ∃ cv v C', (Instr.makeSlice t (.int k l) (.int k' c)).run P C.w = .ok cv C'.w ∧ Rep C' v cv ∧ Ok C' ∧ Later C.rows.length C C' ∧ K v C'.rows := by
  obtain ⟨i, zv, hi, hzv, habs, hl, hpos, hsz⟩ := zeroOf_spec hz
  obtain ⟨k1, k2⟩ := absVs_rep (C := C) habs
  have ho := ones_rep k1 k2
  have hby : i.bytes = by_ := by simpa [hi] using hb
  subst hby
  have hz0 : ∀ n, RepL C (List.replicate n z).flatten (List.replicate n zv.cells.toList).flatten ∧ allOne (List.replicate n zv.cells.toList).flatten := by
    intro n
    induction n with
    | zero => simp [RepL, allOne]
    | succ n ih =>
      rw [List.replicate_succ, List.replicate_succ, List.flatten_cons, List.flatten_cons]
      refine ⟨k1.append ih.1, fun v hv => ?_⟩
      rcases List.mem_append.1 hv with hv | hv
      · exact ho v hv
      · exact ih.2 v hv
  have hinit : ((Array.range (c.toNat * i.size)).map (zv.cells[· % zv.cells.size]!)).toList = (List.replicate c.toNat zv.cells.toList).flatten := by
    rw [← hsz]; exact zeroRow zv.cells c.toNat
  have hcs : ((Array.range (c.toNat * i.size)).map (zv.cells[· % zv.cells.size]!)).size = c.toNat * z.length := by simp [hl]
  have helems : Elems C z.length (List.replicate l.toNat z) (List.replicate l.toNat zv.cells.toList).flatten :=
    ⟨fun x hx => by rw [List.eq_of_mem_replicate hx], (hz0 _).1, (hz0 _).2⟩
  have htake : ((Array.range (c.toNat * i.size)).map (zv.cells[· % zv.cells.size]!)).toList.take (List.replicate l.toNat zv.cells.toList).flatten.length = (List.replicate l.toNat zv.cells.toList).flatten := by
    rw [hinit, show c.toNat = l.toNat + (c.toNat - l.toNat) from by omega, ← List.replicate_append_replicate, List.flatten_append]
    exact List.take_left
  have hp := fill_row hok hk c.toNat _ (List.replicate l.toNat z) _ hcs (by simp only [maxLen]; omega) (by simp; omega) helems htake (by simp; omega)
  refine ⟨.slice (some ⟨C.w.heap.size, 0, none⟩) l.toNat c.toNat, .own q l.toNat 0 l.toNat, _, ?_, ?_, hp.1, hp.2, h⟩
  · have wl : IntKind.i64.wrap l = l := by simp only [IntKind.wrap, IntKind.bits, IntKind.signed]; simp; omega
    have wc : IntKind.i64.wrap c = c := by simp only [IntKind.wrap, IntKind.bits, IntKind.signed]; simp; omega
    have hso : (sizeOf e).run P C.w = .ok i.size C.w := by simp [sizeOf, typeInfo, hi]
    have hti : (typeInfo e).run P C.w = .ok i C.w := by simp [typeInfo, hi]
    have hb2 : (i.bytes : Int) * c ≤ 140737488355328 := by rw [Int.mul_comm]; exact h3
    simp only [Instr.makeSlice, Sem.run_bind, run_underlying hu, Result.andThen_ok, asInt, asIntOf, Sem.run_pure, hti, wl, wc]
    have hcond : ¬ ((decide (c < 0) || decide ((i.bytes : Int) * c > 2 ^ 48) || decide (l < 0) || decide (l > c)) = true) := by
      simp; omega
    rw [if_neg hcond]
    simp only [Sem.run_bind, run_askRoom, Result.andThen_ok, hso, Sem.run_pure, Sem.run_ite]
    have h0 : ¬ c.toNat * i.size = 0 := by
      intro h0
      rcases Nat.mul_eq_zero.1 h0 with h | h <;> omega
    rw [if_neg h0]
    simp [run_zero hi hzv, newRow]
  · have := set_own (rows := C.rows) (phi := C.phi) (om := C.om) (w := C.w.alloc (.cells ((Array.range (c.toNat * i.size)).map (zv.cells[· % zv.cells.size]!)) e)) (e := e) (sz := z.length) (b := C.w.heap.size) (cap := c.toNat) (vals := List.replicate l.toNat z) hok.plen (lt_of_row hk) (by simp; omega)
    rw [List.length_replicate] at this
    rw [hok.pm]
    exact this

theorem evR_sound {o : Oper} {aop : AOp} {xs : List Operand} (hc : compileOp P o = some (aop, xs)) (hok : Ok C) (ρ : Operand → Value) {vals : List AVal}
    (hr : RepL C vals (xs.map ρ)) {k : Nat} (h : evR aop vals k C.rows K) : Runs P C (execOp ρ o) K := by
  obtain ⟨dst, op, type, pos, after, guard⟩ := o
  unfold compileOp at hc
  simp only at hc
  unfold evR at h
  split at h
  · -- alloc
    rename_i e z
    split at hc
    case h_4 =>
      split at hc
      · rename_i t z' hz
        simp at hc; obtain ⟨⟨rfl, rfl⟩, rfl⟩ := hc
        exact Runs.val' (run_allocR hok hz h.1 h.2)
      · cases hc
    all_goals (repeat' (split at hc)) <;> simp at hc
  · -- box
    split at hc
    case h_5 =>
      split at hc
      · rename_i t x n hs
        simp at hc; obtain ⟨⟨rfl, rfl⟩, rfl⟩ := hc
        obtain ⟨a, ha1, ha⟩ := repL1 hr
        simp at ha1; subst ha1
        exact Runs.val' (run_boxR hok ha h.1.1 h.1.2 h.2.1 h.2.2)
      · cases hc
    all_goals (repeat' (split at hc)) <;> simp at hc
  · -- buildSlice
    split at hc
    case h_7 =>
      split at hc
      · rename_i t len parts _ e hu
        split at hc
        · rename_i z hz
          split at hc
          · simp at hc
          split at hc
          · rename_i hl
            simp only [Option.some.injEq, Prod.mk.injEq, AOp.bslice.injEq] at hc; obtain ⟨⟨rfl, rfl, rfl, rfl, rfl⟩, rfl⟩ := hc
            split at h
            · rename_i es hf
              exact Runs.val' (run_bsliceR hok hu hz hl h.1.2 hr hf h.1.1 h.2.1 h.2.2)
            · exact h.elim
          · cases hc
        · cases hc
      · cases hc
    all_goals (repeat' (split at hc)) <;> simp at hc
  · -- makeSlice
    split at hc
    case h_8 =>
      split at hc
      · rename_i t l c e hu
        split at hc
        · rename_i z by_ hz hb
          split at hc
          · cases hc
          simp only [Option.some.injEq, Prod.mk.injEq, AOp.mkslice.injEq] at hc; obtain ⟨⟨rfl, rfl, rfl, rfl⟩, rfl⟩ := hc
          obtain ⟨a, b, hab, ha, hb'⟩ := repL2 hr
          simp only [List.cons.injEq, and_true] at hab
          obtain ⟨rfl, rfl⟩ := hab
          rw [Rep] at ha hb'
          simp only [execOp, ha, hb']
          exact Runs.val' (run_msliceR hok hu hz hb h.1.1 h.1.2.1 h.1.2.2.1 h.1.2.2.2 h.2.1 h.2.2)
        · cases hc
      · cases hc
    all_goals (repeat' (split at hc)) <;> simp at hc
  · exact h.elim

end

structure SimF (n : Nat) (ρ : Rho) (C : Ctx) (a : Act) : Prop where
  ok : Ok C
  size : a.tmps.size = n
  defers : a.defers = []
  slots : ∀ t, Rep C (ρ t) (a.tmps.getD t undef)

section
variable {P : Program} {n n0 base : Nat} {C0 : Ctx} [GO C0] {ops : Array Oper}

theorem opdF_rep {ρ : Rho} {C : Ctx} {a : Act} (hs : SimF n ρ C a) {x : Operand} {y : Opd} (h : compileOpd x = some y) : Rep C (y.evF ρ) (a.eval x) := by
  cases x with
  | tmp t => simp [compileOpd] at h; subst h; exact hs.slots t
  | const v =>
    simp only [compileOpd] at h
    cases hv : absV v with
    | none => rw [hv] at h; simp at h
    | some b => rw [hv] at h; simp at h; subst h; exact (absV_rep hv).1
  | global g => simp [compileOpd] at h
  | func f =>
    simp [compileOpd] at h; subst h
    simp only [Opd.evF]
    rw [Rep]
    exact ⟨#[], rfl, by simp [RepL]⟩

theorem opdsF_rep {ρ : Rho} {C : Ctx} {a : Act} (hs : SimF n ρ C a) : ∀ {xs : List Operand} {ys : List Opd}, compileOpds xs = some ys → RepL C (ys.map (Opd.evF ρ)) (xs.map a.eval)
  | [], ys, h => by simp [compileOpds] at h; subst h; simp [RepL]
  | x :: xs, ys, h => by
    simp only [compileOpds] at h
    split at h
    · rename_i y zs hy hz
      simp at h; subst h
      rw [List.map_cons, List.map_cons, RepL]
      exact ⟨_, _, rfl, opdF_rep hs hy, opdsF_rep hs hz⟩
    · cases h

theorem simF_upd {ρ : Rho} {C C' : Ctx} {a : Act} (hs : SimF n ρ C a) (hok : Ok C') (he : Ext C C') {dst : Option Nat} (hd : ∀ d, dst = some d → d < n) {v : AVal} {cv : Value} (hv : Rep C' v cv) :
    SimF n (upd ρ dst v) C' (a.put dst cv) := by
  cases dst with
  | none => exact ⟨hok, hs.size, hs.defers, fun t => Rep.ext he _ _ (hs.slots t)⟩
  | some d =>
    have hdn := hd d rfl
    refine ⟨hok, by simp [Act.put, hs.size], hs.defers, fun t => ?_⟩
    simp only [upd, Act.put]
    split
    · rename_i hdt
      subst hdt
      have : d < a.tmps.size := by rw [hs.size]; exact hdn
      simpa [Array.getD, this] using hv
    · rename_i hdt
      have := Rep.ext he _ _ (hs.slots t)
      rw [show (a.tmps.setIfInBounds d cv).getD t undef = a.tmps.getD t undef from ?_]
      · exact this
      · simp [Array.getElem?_setIfInBounds_ne hdt]

def HoldsF (n n0 : Nat) (C0 : Ctx) (K : Rho → List Row → Prop) (a : Act) (w : World) : Prop := ∃ ρ C, C.w = w ∧ SimF n ρ C a ∧ Later n0 C0 C ∧ K ρ C.rows

theorem stepF_sound {ρ : Rho} {C : Ctx} {a : Act} {i : Nat} {o : Oper} {d : DOp} {tk : Tk} (hi : ops[i]? = some o) (hf : Fits P n ops o d.io) (hs : SimF n ρ C a) (hl : Later n0 C0 C)
    {K : Rho → List Row → Prop} {Kc : Act → World → Prop} {Q : Exit → Act → World → Prop} (hK : ∀ a w, HoldsF n n0 C0 K a w → Kc a w) (h : stepT P base d tk ρ C.rows K) : wpOp P ops Q i Kc a C.w := by
  obtain ⟨hopx, ⟨hdst, hdn⟩, hg⟩ := hf
  have hdn' : ∀ e, d.io.dst = some e → e < n := by rw [hdst]; exact hdn
  have skip : K (upd ρ d.io.dst (.tup [])) C.rows → Kc (a.put o.dst undef) C.w := by
    intro hk
    refine hK _ _ ⟨_, C, rfl, ?_, hl, hk⟩
    rw [← hdst]
    exact simF_upd hs hs.ok (Ext.refl C) hdn' (by rw [Rep]; exact ⟨#[], rfl, by simp [RepL]⟩)
  have fin : Runs P C (execOp a.eval o) (fun v rows' => K (upd ρ d.io.dst v) rows') → o.wp P a C.w Kc Q := by
    intro hr
    unfold Oper.wp
    obtain ⟨nx, cv, v, C', h1, h2, h3, h4, h5, h6⟩ := hr
    rw [h1]
    have : Kc (a.put o.dst cv) C'.w := by
      refine hK _ _ ⟨_, C', rfl, ?_, hl.trans h5 hl.len, h6⟩
      rw [← hdst]
      exact simF_upd hs h4 h5.ext hdn' h3
    rcases h2 with rfl | ⟨rfl, rfl⟩
    · exact this
    · exact this
  have run : runT P base d tk ρ C.rows K → o.wp P a C.w Kc Q := by
    intro hr
    rcases hopx with ⟨xs, hop, hargs⟩ | ⟨b1, b2⟩
    rotate_left
    · exfalso
      unfold runT at hr
      rw [b1, b2] at hr
      split at hr
      · simp [evR] at hr
      · simp [ev] at hr
    have hrep := opdsF_rep hs hargs
    unfold runT at hr
    split at hr
    · exact fin (evR_sound hop hs.ok a.eval hrep hr.2)
    · split at hr
      · rename_i f hfo
        rw [hfo] at hop
        unfold Oper.wp
        rw [run_call hop, Oper.upon_enter]
        have hr' : callK P f (d.io.args.map (Opd.evF ρ)) C.rows fun v rows' => K (upd ρ d.io.dst v) rows' := by
          obtain ⟨sel, vw, srows, g1, g2, g3, g4⟩ := hr
          exact ⟨sel, vw, srows, g2, g3, g4⟩
        refine (call_sound hs.ok ((GO.ok (C := C0)).later hl) hrep hr').mono ?_
        rintro e w' ⟨cv, v, C', rfl, rfl, h1, h2, h3, h4⟩
        refine hK _ _ ⟨_, C', rfl, ?_, hl.trans h3 hl.len, h4⟩
        rw [← hdst]
        exact simF_upd hs h2 h3.ext hdn' h1
      · rename_i hfo
        rw [hfo] at hop
        unfold callVT at hr
        split at hr
        · rename_i f cs as hx
          rw [hx] at hrep
          obtain ⟨hfn, hr⟩ := hr
          obtain ⟨cargs, g1, g2⟩ := run_callv hop hrep hfn C.w
          unfold Oper.wp
          rw [g2, Oper.upon_enter]
          have hr' : callK P f (as ++ cs) C.rows fun v rows' => K (upd ρ d.io.dst v) rows' := by
            obtain ⟨sel, vw, srows, g1, g2, g3, g4⟩ := hr
            exact ⟨sel, vw, srows, g2, g3, g4⟩
          refine (call_sound hs.ok ((GO.ok (C := C0)).later hl) g1 hr').mono ?_
          rintro e w' ⟨cv, v, C', rfl, rfl, h1, h2, h3, h4⟩
          refine hK _ _ ⟨_, C', rfl, ?_, hl.trans h3 hl.len, h4⟩
          rw [← hdst]
          exact simF_upd hs h2 h3.ext hdn' h1
        · exact hr.elim
      · rename_i hnc _
        exact fin (ev_sound hop (fun f hf => hnc f hf) hs.ok a.eval (fun _ => rfl) hrep hr.2)
  unfold wpOp
  rw [hi]
  simp only
  unfold stepT at h
  rcases hg with ⟨g1, g2⟩ | ⟨j, want, s, g1, g2, g3, g4⟩
  · have hw : Region.wanted o (yielded ops a.tmps) = true := by simp [Region.wanted, g1]
    rw [if_pos hw]
    simp only [g2, lets] at h
    exact .inl (run h)
  · simp only [g4, lets] at h
    have hslot := hs.slots s
    have hsz : s < a.tmps.size := by rw [hs.size]; exact g3
    have hy : ∀ v, a.tmps.getD s undef = v → yielded ops a.tmps j = (match v with | .bool b => some b | _ => none) := by
      intro v hv
      have h1 : a.tmps[s]? = some v := by
        rw [Array.getElem?_eq_getElem hsz]
        simpa [Array.getD, hsz] using hv
      unfold yielded
      rw [g2]
      simp only [Option.bind_some, h1]
      cases v <;> rfl
    cases hb : ρ s with
    | bool b =>
      rw [hb] at h hslot
      rw [Rep] at hslot
      have hy' := hy _ hslot
      simp only at hy' h
      by_cases hbw : b = want
      · have hw : Region.wanted o (yielded ops a.tmps) = true := by simp [Region.wanted, g1, hy', hbw]
        rw [if_pos hw]
        have : (b == want) = true := by simp [hbw]
        rw [this] at h
        exact .inl (run h)
      · have hw : ¬ Region.wanted o (yielded ops a.tmps) = true := by simp [Region.wanted, g1, hy', hbw]
        rw [if_neg hw]
        have : (b == want) = false := by simp [hbw]
        rw [this] at h
        exact skip h
    | tup cs =>
      rw [hb] at h hslot
      cases cs with
      | cons => simp at h
      | nil =>
        rw [Rep] at hslot
        obtain ⟨vs, hv, _⟩ := hslot
        have hy' := hy _ hv
        simp only at hy'
        have hw : ¬ Region.wanted o (yielded ops a.tmps) = true := by simp [Region.wanted, g1, hy']
        rw [if_neg hw]
        exact skip h
    | _ => rw [hb] at h; exact h.elim

theorem any_sound {ds : List DOp} (hf : ∀ i o, ops[i]? = some o → Fits P n ops o (ds.getD i default).io) {K : Rho → List Row → Prop} {Q : Exit → Act → World → Prop} (hQ : ∀ a w, HoldsF n n0 C0 K a w → Q .normal a w) :
    ∀ (fuel : Nat) (listed : Array Bool) (a : Act) (w : World), HoldsF n n0 C0 (anyT P base ops ds fuel listed [] K) a w → wpAny P .any ops Q fuel listed a w
  | 0, listed, a, w, ⟨ρ, C, h1, h2, h3, h4⟩ => ⟨h4.1, hQ a w ⟨ρ, C, h1, h2, h3, h4.2⟩⟩
  | fuel + 1, listed, a, w, ⟨ρ, C, h1, h2, h3, h4⟩ => by
    refine ⟨fun h0 => hQ a w ⟨ρ, C, h1, h2, h3, h4.1 h0⟩, fun i hi => ?_⟩
    obtain ⟨_, o, ho, _⟩ := mem_ready.1 hi
    subst h1
    exact stepF_sound ho (hf i o ho) h2 h3 (fun a w h => any_sound hf hQ fuel _ a w h) (h4.2 i hi)

theorem draw_sound {id : Nat} {ds : List DOp} {anc : List (List Nat)} {order : List Nat} {res : List (TypeId × Nat)} (hm : P.follows .mixedOrders = true)
    (hf : ∀ i o, ops[i]? = some o → Fits P n ops o (ds.getD i default).io) (ha : AncOk ops anc) (hp : ∀ i j, i < ops.size → j < ops.size → j ≠ i → (ds.getD i default).easy = true → PairOk ds anc i j)
    (hc : canon ops ds (Array.replicate ops.size false) order = true) (hlen : order.length ≤ ops.size) {K : Rho → List Row → Prop} {Q : Exit → Act → World → Prop} (hQ : ∀ a w, HoldsF n n0 C0 K a w → Q .normal a w)
    {a : Act} {w : World} (h : HoldsF n n0 C0 (fun ρ rows => drawF P rows.length ds order [] K ρ (rows ++ reserved res)) a w) : (Code.region id ops true).wp P Q a w := by
  obtain ⟨ρ, C, rfl, hs, hl, hk⟩ := h
  obtain ⟨d1, d2⟩ := drew_ok hs.ok
  obtain ⟨C', e1, e2, e3, e4⟩ := reserve_ok res _ d1
  have e2' : C'.rows = C.rows ++ reserved res := e2
  refine wp_region_any hm ?_
  refine any_sound (base := C.rows.length) hf hQ ops.size _ a _ ⟨ρ, C', e1, ⟨e3, hs.size, hs.defers, fun t => Rep.ext e4.ext _ _ (Rep.ext d2.ext _ _ (hs.slots t))⟩, (hl.trans d2 hl.len).trans e4 (hl.trans d2 hl.len).len, ?_⟩
  rw [e2']
  refine canon_any ha hp order _ [] ρ _ ops.size hc (fun j hj => ?_) hlen hk
  simp [Array.getD] at hj

end
end Go.Abs
end

section
/- Regions that draw their order: on lists of slots, and how they are made from the program's text. -/
namespace Go.Abs
variable [Glb]

def tkOf (i : Nat) : List Nat → Tk → Tk
  | [], tk => tk
  | r :: rs, tk => (i, r, false) :: tkOf i rs tk

theorem tkOf_eq (i : Nat) (tk : Tk) : ∀ rs, tkOf i rs tk = rs.map (fun r => (i, r, false)) ++ tk
  | [] => rfl
  | r :: rs => by simp [tkOf, tkOf_eq i tk rs]

def runD (P : Program) (base i : Nat) (d : DOp) (tk : Tk) (env : Env) (rows : List Row) (K : Tk → Env → List Row → Prop) : Prop :=
  match d.res with
  | some q => okTk d.un tk [base + q] [] ∧ evR d.io.op (d.io.args.map (Opd.ev env)) (base + q) rows fun v rows' => K ((i, base + q, true) :: tk) (put env d.io.dst v) rows'
  | none =>
    match d.io.op with
    | .call f => callT P f (d.io.args.map (Opd.ev env)) d.un tk rows fun v rows' => K tk (put env d.io.dst v) rows'
    | .callv => callVT P (d.io.args.map (Opd.ev env)) d.un tk rows fun v rows' => K tk (put env d.io.dst v) rows'
    | op => okTk d.un tk (tW op (d.io.args.map (Opd.ev env))) (tR op (d.io.args.map (Opd.ev env))) ∧
        ev op (d.io.args.map (Opd.ev env)) rows fun v rows' => K (if isE op then tk else tkOf i (tR op (d.io.args.map (Opd.ev env))) tk) (put env d.io.dst v) rows'

/-- an operation under a guard's value -/
def grdD (P : Program) (base : Nat) (v : AVal) (want : Bool) (i : Nat) (d : DOp) (tk : Tk) (env : Env) (rows : List Row) (K : Tk → Env → List Row → Prop) : Prop :=
  match v with
  | .bool b => gK b want (runD P base i d tk env rows K) (K tk (put env d.io.dst (.tup [])) rows)
  | .tup [] => K tk (put env d.io.dst (.tup [])) rows
  | _ => False

def drawK (P : Program) (base : Nat) : List (Nat × DOp) → List Nat → (Env → List Row → Prop) → Tk → Env → List Row → Prop
  | [], live, K, _, env, rows => K (live.map fun s => (s, slot env s)) rows
  | (i, d) :: ds, live, K, tk, env, rows =>
    match d.io.guard with
    | none => runD P base i d tk env rows (drawK P base ds live K)
    | some (s, want) => grdD P base (slot env s) want i d tk env rows (drawK P base ds live K)

theorem runD_T {P : Program} {base i : Nat} {d : DOp} {tk : Tk} {env : Env} {rows : List Row} {K : Tk → Env → List Row → Prop} {K' : Rho → List Row → Prop} (hl : lets d.io.guard (slot env) = some true)
    (hK : ∀ env' rows', K (ext base i d (slot env) tk) env' rows' → K' (slot env') rows') (hr : runD P base i d tk env rows K) : runT P base d tk (slot env) rows K' := by
  have hargs : d.io.args.map (Opd.evF (slot env)) = d.io.args.map (Opd.ev env) := List.map_congr_left fun x _ => evF_slot env x
  unfold runD at hr
  unfold runT
  rw [hargs]
  cases hq : d.res with
  | some q =>
    rw [hq] at hr
    have he : ext base i d (slot env) tk = (i, base + q, true) :: tk := by simp [ext, hl, hq]
    rw [he] at hK
    refine ⟨hr.1, (evR_det _ _ _).mono hr.2 fun v rs hk => ?_⟩
    rw [← slot_put]
    exact hK _ _ hk
  | none =>
    rw [hq] at hr
    simp only at hr ⊢
    split
    · rename_i f hop
      rw [hop] at hr
      simp only at hr
      have he : ext base i d (slot env) tk = tk := by simp [ext, hl, hq, hop, isE]
      rw [he] at hK
      obtain ⟨sel, vw, srows, g1, g2, g3, g4⟩ := hr
      refine ⟨sel, vw, srows, g1, g2, g3, g4.mono fun v rs hk => ⟨hk.1, ?_⟩⟩
      show K' (upd (slot env) d.io.dst _) _
      rw [← slot_put]
      exact hK _ _ hk.2
    · rename_i hop
      rw [hop] at hr
      simp only at hr
      have he : ext base i d (slot env) tk = tk := by simp [ext, hl, hq, hop, isE]
      rw [he] at hK
      unfold callVT at hr ⊢
      split at hr
      · rename_i f cs xs hx
        obtain ⟨hfn, sel, vw, srows, g1, g2, g3, g4⟩ := hr
        refine ⟨hfn, sel, vw, srows, g1, g2, g3, g4.mono fun v rs hk => ⟨hk.1, ?_⟩⟩
        show K' (upd (slot env) d.io.dst _) _
        rw [← slot_put]
        exact hK _ _ hk.2
      · exact hr.elim
    · rename_i op hop hopv
      have he : ext base i d (slot env) tk = if isE d.io.op then tk else tkOf i (tR d.io.op (d.io.args.map (Opd.ev env))) tk := by
        simp only [ext, hl, hq, hargs, tkOf_eq, if_true]
      rw [he] at hK
      split at hr
      · rename_i f hf; exact absurd hf (hop f)
      · rename_i hf; exact absurd hf hopv
      refine ⟨hr.1, (ev_det _ _).mono hr.2 fun v rs hk => ?_⟩
      rw [← slot_put]
      exact hK _ _ hk

theorem drawK_F {P : Program} {base : Nat} {ds : List DOp} {live : List Nat} {K : Env → List Row → Prop} : ∀ (order : List Nat) (tk : Tk) (env : Env) (rows : List Row),
    drawK P base (order.map fun i => (i, ds.getD i default)) live K tk env rows → drawF P base ds order tk (fun ρ rows => K (live.map fun s => (s, ρ s)) rows) (slot env) rows
  | [], tk, env, rows, h => h
  | i :: is, tk, env, rows, h => by
    have ih := drawK_F (P := P) (base := base) (ds := ds) (live := live) (K := K) is
    rw [drawF]
    simp only [List.map_cons, drawK] at h
    unfold stepT
    have skip : lets (ds.getD i default).io.guard (slot env) = some false → drawK P base (is.map fun i => (i, ds.getD i default)) live K tk (put env (ds.getD i default).io.dst (.tup [])) rows →
        drawF P base ds is (ext base i (ds.getD i default) (slot env) tk) (fun ρ rows => K (live.map fun s => (s, ρ s)) rows) (upd (slot env) (ds.getD i default).io.dst (.tup [])) rows := by
      intro hl hk
      have he : ext base i (ds.getD i default) (slot env) tk = tk := by unfold ext; rw [hl]; simp
      rw [he, ← slot_put]
      exact ih _ _ _ hk
    split at h
    · rename_i hg
      have hl : lets (ds.getD i default).io.guard (slot env) = some true := by rw [hg]; rfl
      rw [hl]
      exact runD_T hl (fun env' rows' hk => ih _ _ _ hk) h
    · rename_i s want hg
      unfold grdD at h
      split at h
      · rename_i b hb
        have hl : lets (ds.getD i default).io.guard (slot env) = some (b == want) := by rw [hg]; simp [lets, hb]
        unfold gK at h
        split at h
        · rename_i hbw
          have hl' : lets (ds.getD i default).io.guard (slot env) = some true := by rw [hl]; simp [hbw]
          rw [hl']
          exact runD_T hl' (fun env' rows' hk => ih _ _ _ hk) h
        · rename_i hbw
          have hl' : lets (ds.getD i default).io.guard (slot env) = some false := by rw [hl]; simp [hbw]
          rw [hl']
          exact skip hl' h
      · rename_i hb
        have hl' : lets (ds.getD i default).io.guard (slot env) = some false := by rw [hg]; simp [lets, hb]
        rw [hl']
        exact skip hl' h
      · exact h.elim

/-! made from the program's text -/

/-- what a region needs besides its operations: the slots kept behind it; where it draws: for each operation some that come before it, and an order -/
structure Info where
  live : List Nat
  anc : List (List Nat)
  order : List Nat
  deriving Inhabited

def apartB (x y : IOp) : Bool :=
  (match x.dst with | some d => !(looks y).contains d | none => true) && (match y.dst with | some d => !(looks x).contains d | none => true) &&
  (match x.dst, y.dst with | some d, some e => d != e | _, _ => true)

theorem apartB_spec {x y : IOp} (h : apartB x y = true) : Apart x y := by
  simp only [apartB, Bool.and_eq_true] at h
  refine ⟨fun d hd => ?_, fun d hd => ?_, fun d hd hd' => ?_⟩
  · rw [hd] at h; simpa using h.1.1
  · rw [hd] at h; simpa using h.1.2
  · rw [hd, hd'] at h; simp at h

/-- the row that an operation fills -/
def resT : AOp → Option (TypeId × Nat)
  | .alloc e z => some (e, z.length)
  | .box e sz => some (e, sz)
  | .bslice e sz _ len _ => if len = 0 then none else some (e, sz)
  | _ => none

/-- the same, where a region makes more than one slice -/
def resM : AOp → Option (TypeId × Nat)
  | .mkslice e sz _ _ => some (e, sz)
  | op => resT op

def unOf (anc : List (List Nat)) (n : Nat) (all : List IOp) (j : Nat) : List Nat :=
  (List.range n).filter fun i => i != j && !((anc.getD j []).contains i) && !((anc.getD i []).contains j) && !(ben (all.getD i default) (all.getD j default))

def mkD (rt : AOp → Option (TypeId × Nat)) (anc : List (List Nat)) (n : Nat) (all : List IOp) : Nat → Nat → List IOp → List DOp
  | _, _, [] => []
  | j, q, io :: ios =>
    match rt io.op with
    | some _ => ⟨io, some q, unOf anc n all j⟩ :: mkD rt anc n all (j + 1) (q + 1) ios
    | none => ⟨io, none, unOf anc n all j⟩ :: mkD rt anc n all (j + 1) q ios

theorem mkD_io {rt : AOp → Option (TypeId × Nat)} {anc : List (List Nat)} {n : Nat} {all : List IOp} : ∀ (ios : List IOp) (j q k : Nat) (io : IOp), ios[k]? = some io → ((mkD rt anc n all j q ios).getD k default).io = io
  | [], _, _, _, _, h => by simp at h
  | x :: ios, j, q, k, io, h => by
    rw [mkD]
    cases k with
    | zero => simp at h; subst h; split <;> simp
    | succ k =>
      simp at h
      split
      · simpa using mkD_io ios (j + 1) (q + 1) k io h
      · simpa using mkD_io ios (j + 1) q k io h

def ancB (ops : Array Oper) (anc : List (List Nat)) : Nat → List Oper → Bool
  | _, [] => true
  | j, o :: os => (anc.getD j []).all (fun i => o.after.toList.any fun e => Region.binds .any e && (e.on == i || (anc.getD e.on []).contains i)) && ancB ops anc (j + 1) os

theorem ancB_spec {ops : Array Oper} {anc : List (List Nat)} : ∀ (os : List Oper) (j : Nat), ancB ops anc j os = true → ∀ k o, os[k]? = some o → ∀ i ∈ anc.getD (j + k) [], ∃ e ∈ o.after, Region.binds .any e = true ∧ (e.on = i ∨ i ∈ anc.getD e.on [])
  | [], j, _, k, o, h => by simp at h
  | x :: os, j, hb, k, o, h => by
    simp only [ancB, Bool.and_eq_true] at hb
    cases k with
    | zero =>
      simp at h; subst h
      intro i hi
      have := List.all_eq_true.1 hb.1 i hi
      obtain ⟨e, he, h2⟩ := List.any_eq_true.1 this
      simp only [Bool.and_eq_true, Bool.or_eq_true, beq_iff_eq, List.contains_iff_mem] at h2
      exact ⟨e, by simpa using he, h2.1, h2.2⟩
    | succ k =>
      have := ancB_spec os (j + 1) hb.2 k o (by simpa using h)
      rw [show j + (k + 1) = j + 1 + k by omega]
      exact this

def pairB (ds : List DOp) (anc : List (List Nat)) (n : Nat) : Bool :=
  (List.range n).all fun i => !(ds.getD i default).easy || (List.range n).all fun j =>
    j == i || (anc.getD j []).contains i || (anc.getD i []).contains j || (((ds.getD j default).un.contains i || (ben (ds.getD i default).io (ds.getD j default).io && (ds.getD i default).res.isNone && (ds.getD j default).res.isNone)) && apartB (ds.getD i default).io (ds.getD j default).io)

theorem pairB_spec {ds : List DOp} {anc : List (List Nat)} {n : Nat} (h : pairB ds anc n = true) : ∀ i j, i < n → j < n → j ≠ i → (ds.getD i default).easy = true → PairOk ds anc i j := by
  intro i j hi hj hne he
  have h1 := List.all_eq_true.1 h i (List.mem_range.2 hi)
  rw [he] at h1
  simp only [Bool.not_true, Bool.false_or] at h1
  have h2 := List.all_eq_true.1 h1 j (List.mem_range.2 hj)
  simp only [Bool.or_eq_true, beq_iff_eq, hne, false_or, Bool.and_eq_true, List.contains_iff_mem, Option.isNone_iff_eq_none] at h2
  rcases h2 with (h2 | h2) | h2
  · exact .inl h2
  · exact .inr (.inl h2)
  · exact .inr (.inr ⟨apartB_spec h2.2, h2.1.imp (fun h => h) fun h => ⟨h.1.1, h.1.2, h.2⟩⟩)

end Go.Abs
end

section
/- Code, functions, contracts of functions. -/
namespace Go.Abs
variable [Glb]

inductive ACode where
  | skip
  | region (ops : List IOp) (live : List Nat)
  | draw (ops : List (Nat × DOp)) (res : List (TypeId × Nat)) (live : List Nat)
  | seq (a b : ACode)
  | cond (c : Opd) (a b : ACode)
  | block (id : Nat) (c : ACode)
  | loop (c : ACode)
  | exit (id : Nat)
  | ret
  deriving Inhabited

structure Post where
  n : Env → List Row → Prop
  x : Nat → Env → List Row → Prop
  r : Env → List Row → Prop

/-- what is kept of the slots -/
def norm (live : List Nat) (env : Env) : Env := live.map fun s => (s, slot env s)

def condK (v : AVal) (A B : Prop) : Prop :=
  match v with
  | .bool b => (b = true → A) ∧ (b = false → B)
  | _ => False

def avc (P : Program) (n0 : Nat) : ACode → Post → Env → List Row → Prop
  | .skip, K, env, rows => K.n env rows
  | .region ops live, K, env, rows => listK P ops (fun env rows => K.n (norm live env) rows) env rows
  | .draw ops res live, K, env, rows => drawK P rows.length ops live K.n [] env (rows ++ reserved res)
  | .seq a b, K, env, rows => avc P n0 a ⟨avc P n0 b K, K.x, K.r⟩ env rows
  | .cond c a b, K, env, rows => condK (c.ev env) (avc P n0 a K env rows) (avc P n0 b K env rows)
  | .block id c, K, env, rows => avc P n0 c ⟨K.n, fun j => if j = id then K.n else K.x j, K.r⟩ env rows
  | .loop c, K, env, rows => ∃ (I : Env → List Row → Prop) (μ : Env → List Row → Nat), Cl n0 I env rows ∧
      ∀ env rows, I env rows → avc P n0 c ⟨Cl n0 fun env' rows' => I env' rows' ∧ μ env' rows' < μ env rows, K.x, K.r⟩ env rows
  | .exit id, K, env, rows => K.x id env rows
  | .ret, K, env, rows => K.r env rows

def compileIs (P : Program) (n : Nat) (ops : Array Oper) : List Oper → Option (List IOp)
  | [] => some []
  | o :: os =>
    match compileI P n ops o, compileIs P n ops os with
    | some x, some xs => some (x :: xs)
    | _, _ => none

theorem compileIs_spec {P : Program} {n : Nat} {ops : Array Oper} : ∀ {os : List Oper} {ios : List IOp}, compileIs P n ops os = some ios → ios.length = os.length ∧ ∀ (k : Nat) (o : Oper), os[k]? = some o → ∃ io, ios[k]? = some io ∧ Fits P n ops o io
  | [], ios, h => by simp [compileIs] at h; subst h; simp
  | o :: os, ios, h => by
    simp only [compileIs] at h
    split at h
    · rename_i x xs hx hxs
      simp at h; subst h
      obtain ⟨h1, h2⟩ := compileIs_spec hxs
      refine ⟨by simp [h1], fun k o' hk => ?_⟩
      cases k with
      | zero => simp at hk; subst hk; exact ⟨x, rfl, compileI_fits hx⟩
      | succ k => simpa using h2 k o' (by simpa using hk)
    · cases h

/-- a region that draws -/
def compileR (rt : AOp → Option (TypeId × Nat)) (P : Program) (f : Info) (ops : Array Oper) (ios : List IOp) : Option ACode :=
  if P.follows .mixedOrders && ancB ops f.anc 0 ops.toList && pairB (mkD rt f.anc ops.size ios 0 0 ios) f.anc ops.size && canon ops (mkD rt f.anc ops.size ios 0 0 ios) (Array.replicate ops.size false) f.order && decide (f.order.length ≤ ops.size) then
    some (.draw (f.order.map fun i => (i, (mkD rt f.anc ops.size ios 0 0 ios).getD i default)) (ios.filterMap fun io => rt io.op) f.live)
  else none
def compileD (P : Program) (f : Info) (ops : Array Oper) (ios : List IOp) : Option ACode :=
  match compileR resT P f ops ios with
  | some c => some c
  | none => compileR resM P f ops ios
theorem compileD_R {P : Program} {f : Info} {ops : Array Oper} {ios : List IOp} {ac : ACode} (h : compileD P f ops ios = some ac) : ∃ rt, compileR rt P f ops ios = some ac := by
  unfold compileD at h
  split at h
  · exact ⟨resT, by rw [← h]; assumption⟩
  · exact ⟨resM, h⟩

/-- the code of a function; 'live': which slots are kept behind each region, and how it is drawn -/
def compileC (P : Program) (n : Nat) (live : Nat → Info) : Code → Option ACode
  | .skip => some .skip
  | .region id ops false =>
    match compileIs P n ops ops.toList with
    | some ios => some (.region ios (live id).live)
    | none => none
  | .region id ops true =>
    match compileIs P n ops ops.toList with
    | some ios => compileD P (live id) ops ios
    | none => none
  | .seq a b =>
    match compileC P n live a, compileC P n live b with
    | some x, some y => some (.seq x y)
    | _, _ => none
  | .cond c a b =>
    match compileOpd c, compileC P n live a, compileC P n live b with
    | some o, some x, some y => some (.cond o x y)
    | _, _, _ => none
  | .block id c =>
    match compileC P n live c with
    | some x => some (.block id x)
    | none => none
  | .loop c =>
    match compileC P n live c with
    | some x => some (.loop x)
    | none => none
  | .exit id => some (.exit id)
  | .ret => some .ret
  | _ => none

section
variable {P : Program} {n n0 : Nat} {C0 : Ctx} [GO C0] {live : Nat → Info}

/-- the model's form of a postcondition -/
def PostOf (n n0 : Nat) (C0 : Ctx) (K : Post) : Exit → Act → World → Prop
  | .normal, a, w => Holds n n0 C0 K.n a w
  | .exit id, a, w => Holds n n0 C0 (K.x id) a w
  | .ret, a, w => Holds n n0 C0 K.r a w
  | _, _, _ => False

theorem slot_norm (live : List Nat) (env : Env) (t : Nat) : slot (norm live env) t = slot env t ∨ slot (norm live env) t = .junk := by
  unfold norm
  induction live with
  | nil => right; rfl
  | cons s ss ih =>
    simp only [List.map_cons, slot]
    split
    · rename_i h; subst h; exact .inl rfl
    · exact ih

theorem holds_norm {K : Env → List Row → Prop} {l : List Nat} {a : Act} {w : World} (h : Holds n n0 C0 (fun env rows => K (norm l env) rows) a w) : Holds n n0 C0 K a w := by
  obtain ⟨env, C, rfl, hs, hl, hk⟩ := h
  refine ⟨norm l env, C, rfl, ⟨hs.ok, hs.size, hs.defers, fun t => ?_⟩, hl, hk⟩
  rcases slot_norm l env t with h | h
  · rw [h]; exact hs.slots t
  · rw [h]; simp [Rep]

theorem holds_cl {K : Env → List Row → Prop} {a : Act} {w : World} (h : Holds n n0 C0 (Cl n0 K) a w) : Holds n n0 C0 K a w := by
  obtain ⟨env, C, rfl, hs, hl, env', rows', hw, hk⟩ := h
  obtain ⟨C', h1, h2, h3, h4⟩ := wk_sound hw C rfl hs hl
  exact ⟨env', C', h1, h3, h4, by rw [h2]; exact hk⟩

theorem avc_sound : ∀ (c : Code) (ac : ACode), compileC P n live c = some ac → ∀ (K : Post) (a : Act) (w : World), Holds n n0 C0 (avc P n0 ac K) a w → c.wp P (PostOf n n0 C0 K) a w
  | .skip, ac, hc, K, a, w, h => by
    simp [compileC] at hc; subst hc
    exact wp_skip h
  | .region id ops false, ac, hc, K, a, w, h => by
    simp only [compileC] at hc
    split at hc
    · rename_i ios hios
      simp at hc; subst hc
      obtain ⟨h1, h2⟩ := compileIs_spec hios
      refine wp_region (list_sound (K := fun env rows => K.n (norm (live id).live env) rows) (fun a w h => holds_norm h) _ ios (by simp [h1]) (fun k hk => ?_) a w h)
      simp at hk
      obtain ⟨io, g1, g2⟩ := h2 k ops[k] (by simp [hk])
      exact ⟨ops[k], io, by simp [hk], g1, g2⟩
    · cases hc
  | .region id ops true, ac, hc, K, a, w, h => by
    simp only [compileC] at hc
    split at hc
    · rename_i ios hios
      obtain ⟨rt, hc⟩ := compileD_R hc
      unfold compileR at hc
      split at hc
      · rename_i hch
        simp at hc; subst hc
        simp only [Bool.and_eq_true, decide_eq_true_eq] at hch
        obtain ⟨⟨⟨⟨c1, c2⟩, c3⟩, c4⟩, c5⟩ := hch
        obtain ⟨h1, h2⟩ := compileIs_spec hios
        obtain ⟨env, C, rfl, hs, hl, hk⟩ := h
        refine draw_sound (n := n) (n0 := n0) (C0 := C0) (anc := (live id).anc) (order := (live id).order) (ds := mkD rt (live id).anc ops.size ios 0 0 ios) (res := ios.filterMap fun io => rt io.op)
          (K := fun ρ rows => K.n ((live id).live.map fun s => (s, ρ s)) rows) c1 (fun i o ho => ?_) (fun j o ho i hi => ?_) (pairB_spec c3) c4 c5 (fun a w hh => ?_) ⟨slot env, C, rfl, ⟨hs.ok, hs.size, hs.defers, hs.slots⟩, hl, ?_⟩
        · obtain ⟨io, g1, g2⟩ := h2 i o (by simpa using ho)
          rw [mkD_io ios 0 0 i io g1]
          exact g2
        · have := ancB_spec ops.toList 0 c2 j o (by simpa using ho) i (by simpa using hi)
          exact this
        · obtain ⟨ρ, C', g1, g2, g3, g4⟩ := hh
          refine ⟨_, C', g1, ⟨g2.ok, g2.size, g2.defers, fun t => ?_⟩, g3, g4⟩
          have hsl : ∀ l : List Nat, slot (l.map fun s => (s, ρ s)) t = ρ t ∨ slot (l.map fun s => (s, ρ s)) t = .junk := by
            intro l
            induction l with
            | nil => right; rfl
            | cons s ss ih =>
              simp only [List.map_cons, slot]
              split
              · rename_i he; subst he; exact .inl rfl
              · exact ih
          rcases hsl (live id).live with h | h
          · rw [h]; exact g2.slots t
          · rw [h]; simp [Rep]
        · exact drawK_F _ [] env _ hk
      · cases hc
    · cases hc
  | .seq x y, ac, hc, K, a, w, h => by
    simp only [compileC] at hc
    split at hc
    · rename_i ax ay hx hy
      simp at hc; subst hc
      refine wp_seq (wp_mono (avc_sound x ax hx ⟨avc P n0 ay K, K.x, K.r⟩ a w h) ?_)
      intro e a' w' hq
      cases e with
      | normal => exact avc_sound y ay hy K a' w' hq
      | exit id => exact hq
      | ret => exact hq
      | goto l => exact hq
      | panic ch => exact hq
      | outgrown => exact hq
    · cases hc
  | .cond c x y, ac, hc, K, a, w, h => by
    simp only [compileC] at hc
    split at hc
    · rename_i o ax ay ho hx hy
      simp at hc; subst hc
      obtain ⟨env, C, rfl, hs, hl, hk⟩ := h
      have hr := opd_rep hs ho
      simp only [avc, condK] at hk
      split at hk
      · rename_i b hb
        rw [hb, Rep] at hr
        refine wp_cond hr ?_
        cases b with
        | true => exact avc_sound x ax hx K a C.w ⟨env, C, rfl, hs, hl, hk.1 rfl⟩
        | false => exact avc_sound y ay hy K a C.w ⟨env, C, rfl, hs, hl, hk.2 rfl⟩
      · exact hk.elim
    · cases hc
  | .block id x, ac, hc, K, a, w, h => by
    simp only [compileC] at hc
    split at hc
    · rename_i ax hx
      simp at hc; subst hc
      refine wp_block (wp_mono (avc_sound x ax hx _ a w h) ?_)
      intro e a' w' hq
      cases e with
      | normal => exact hq
      | exit j =>
        simp only [Exit.inBlock]
        simp only [PostOf] at hq
        split
        · rename_i hj; rw [if_pos hj] at hq; exact hq
        · rename_i hj; rw [if_neg hj] at hq; exact hq
      | ret => exact hq
      | goto l => exact hq
      | panic ch => exact hq
      | outgrown => exact hq
    · cases hc
  | .loop x, ac, hc, K, a, w, h => by
    simp only [compileC] at hc
    split at hc
    · rename_i ax hx
      simp at hc; subst hc
      obtain ⟨env, C, rfl, hs, hl, I, μ, h0, hround⟩ := h
      obtain ⟨env1, C1, hw1, hs1, hl1, hI1⟩ := holds_cl ⟨env, C, rfl, hs, hl, h0⟩
      rw [← hw1]
      refine wp_loop_ghost (fun m a w => Holds n n0 C0 (fun env rows => I env rows ∧ μ env rows = m) a w) (μ env1 C1.rows) ⟨env1, C1, rfl, hs1, hl1, hI1, rfl⟩ ?_
      rintro m a' w' ⟨env2, C2, rfl, hs2, hl2, hI2, rfl⟩
      refine wp_mono (avc_sound x ax hx _ a' C2.w ⟨env2, C2, rfl, hs2, hl2, hround env2 C2.rows hI2⟩) ?_
      intro e a3 w3 hq
      cases e with
      | normal =>
        obtain ⟨env3, C3, rfl, hs3, hl3, hI3, hlt⟩ := holds_cl hq
        exact ⟨μ env3 C3.rows, hlt, env3, C3, rfl, hs3, hl3, hI3, rfl⟩
      | exit j => exact hq
      | ret => exact hq
      | goto l => exact hq
      | panic ch => exact hq
      | outgrown => exact hq
    · cases hc
  | .exit id, ac, hc, K, a, w, h => by
    simp [compileC] at hc; subst hc
    exact wp_exit h
  | .ret, ac, hc, K, a, w, h => by
    simp [compileC] at hc; subst hc
    exact wp_ret h
  | .rangeFunc .., ac, hc, K, a, w, h => by simp [compileC] at hc
  | .scope .., ac, hc, K, a, w, h => by simp [compileC] at hc
  | .label .., ac, hc, K, a, w, h => by simp [compileC] at hc
  | .goto .., ac, hc, K, a, w, h => by simp [compileC] at hc
  | .refuse .., ac, hc, K, a, w, h => by simp [compileC] at hc

end

/-- where results lie -/
inductive ARes where
  | tmp (t : Nat)
  | cell1 (t : Nat)
  | cellA (t n : Nat)
  deriving Inhabited

def resK (rows : List Row) (env : Env) : List ARes → (List AVal → Prop) → Prop
  | [], K => K []
  | .tmp t :: rs, K => resK rows env rs fun vs => K (slot env t :: vs)
  | .cell1 t :: rs, K => evLoad1 rows (slot env t) fun v => resK rows env rs fun vs => K (v :: vs)
  | .cellA t n :: rs, K => evLoadA rows n (slot env t) fun v => resK rows env rs fun vs => K (v :: vs)

def oneOrTup : List AVal → AVal
  | [v] => v
  | vs => .tup vs

structure AFunc where
  ntmps : Nat
  results : List ARes
  body : ACode
  deriving Inhabited

def compileRes (P : Program) : List ResultVar → Option (List ARes)
  | [] => some []
  | .tmp t :: rs =>
    match compileRes P rs with
    | some xs => some (.tmp t :: xs)
    | none => none
  | .cell a t :: rs =>
    match isAggT P t, sizeT P t, compileRes P rs with
    | some true, some n, some xs => some (.cellA a n :: xs)
    | some false, _, some xs => some (.cell1 a :: xs)
    | _, _, _ => none

def compileF (P : Program) (live : Nat → Info) (fn : Func) : Option AFunc :=
  match fn.body with
  | some c =>
    match compileC P fn.ntmps live c, compileRes P fn.results.toList with
    | some ac, some rs => some ⟨fn.ntmps, rs, ac⟩
    | _, _ => none
  | none => none

/-- the slots at the beginning -/
def argEnv : List AVal → Nat → Env
  | [], _ => []
  | a :: as, k => (k, a) :: argEnv as (k + 1)

/-- what must be shown of a function's code -/
def fnVC (P : Program) (af : AFunc) (args : List AVal) (rows : List Row) (Q : AVal → List Row → Prop) : Prop :=
  let K : Env → List Row → Prop := fun env rs => resK rs env af.results fun vs => Cl rows.length (fun env' rs' => Q (slot env' 0) rs') [(0, oneOrTup vs)] rs
  avc P rows.length af.body ⟨K, fun _ _ _ => False, K⟩ (argEnv args 0) rows

theorem slot_argEnv {C : Ctx} : ∀ (as : List AVal) (vs : List Value) (k t : Nat), RepL C as vs → k ≤ t → Rep C (slot (argEnv as k) t) (vs.getD (t - k) undef)
  | [], vs, k, t, _, _ => by simp [argEnv, slot, Rep]
  | a :: as, vs, k, t, h, hk => by
    rw [RepL] at h
    obtain ⟨v, rest, rfl, h1, h2⟩ := h
    simp only [argEnv, slot]
    split
    · rename_i hkt; subst hkt; simpa using h1
    · rename_i hkt
      have := slot_argEnv as rest (k + 1) t h2 (by omega)
      rw [show t - k = (t - (k + 1)) + 1 from by omega]
      simpa using this

/-- one result -/
def resGet (tmps : Array Value) : ResultVar → Sem Value
  | .tmp t => pure (tmps.getD t undef)
  | .cell a t => do loadVar t (← asAddr (tmps.getD a undef))

theorem results_eq (fn : Func) (tmps : Array Value) : results fn tmps = (do let vs ← fn.results.mapM (resGet tmps); pure (if h : vs.size = 1 then vs[0] else .tuple vs)) := rfl

theorem res_sound {P : Program} {n : Nat} {env : Env} {C : Ctx} {a : Act} (hs : Sim n env C a) : ∀ (rs : List ResultVar) (xs : List ARes) (K : List AVal → Prop), compileRes P rs = some xs → resK C.rows env xs K →
    ∃ vs as, (rs.mapM (m := Sem) (resGet a.tmps)).run P C.w = .ok vs C.w ∧ RepL C as vs ∧ K as
  | [], xs, K, hc, h => by
    simp [compileRes] at hc; subst hc
    exact ⟨[], [], by simp, by simp [RepL], h⟩
  | .tmp t :: rs, xs, K, hc, h => by
    simp only [compileRes] at hc
    split at hc
    · rename_i ys hy
      simp at hc; subst hc
      obtain ⟨vs, as, h1, h2, h3⟩ := res_sound hs rs ys _ hy h
      exact ⟨a.tmps.getD t undef :: vs, slot env t :: as, by simp only [List.mapM_cons, resGet, Sem.run_bind, Sem.run_pure, Result.andThen_ok, h1], by rw [RepL]; exact ⟨_, vs, rfl, hs.slots t, h2⟩, h3⟩
    · cases hc
  | .cell x t :: rs, xs, K, hc, h => by
    have addr : ∀ {y : AVal} {v : Value}, Rep C y v → ((∃ r n i o, y = .ref r n i o) ∨ ∃ c o, y = .pref c o) → ∃ ad, v = .pointer (some ad) := by
      rintro y v hr (⟨r, n, i, o, rfl⟩ | ⟨c, o, rfl⟩)
      · rw [Rep] at hr; exact hr.2.1
      · rw [Rep] at hr; obtain ⟨b, o, e, _⟩ := hr; exact ⟨_, e⟩
    have shape : ∀ {K' : AVal → Prop}, (evLoad1 C.rows (slot env x) K' ∨ ∃ m, evLoadA C.rows m (slot env x) K') → ((∃ r n i o, slot env x = .ref r n i o) ∨ ∃ c o, slot env x = .pref c o) := by
      intro K' hk
      cases hg : slot env x <;> rw [hg] at hk <;> simp [evLoad1, evLoadA] at hk <;> simp
    simp only [compileRes] at hc
    split at hc
    · rename_i m ys hag hsz hy
      simp at hc; subst hc
      simp only [resK] at h
      obtain ⟨ad, had⟩ := addr (hs.slots x) (shape (.inr ⟨_, h⟩))
      obtain ⟨cv, v, r1, r2, r3⟩ := run_loadA (P := P) (K := fun v _ => resK C.rows env ys fun vs => K (v :: vs)) hs.ok (hs.slots x) hag hsz h
      obtain ⟨vs, as, h1, h2, h3⟩ := res_sound hs rs ys _ hy r3
      rw [had] at r1
      simp only [Instr.loadAt, Instr.sureAddr, Sem.run_bind, Sem.run_pure, Result.andThen_ok] at r1
      have hst : (asAddr (a.tmps.getD x undef)).run P C.w = .ok ad C.w := by rw [had]; rfl
      exact ⟨cv :: vs, v :: as, by simp only [List.mapM_cons, resGet, Sem.run_bind, Sem.run_pure, Result.andThen_ok, hst, r1, h1], by rw [RepL]; exact ⟨_, vs, rfl, r2, h2⟩, h3⟩
    · rename_i m ys hag hy
      simp at hc; subst hc
      simp only [resK] at h
      obtain ⟨ad, had⟩ := addr (hs.slots x) (shape (.inl h))
      obtain ⟨cv, v, r1, r2, r3⟩ := run_load1 (P := P) (K := fun v _ => resK C.rows env ys fun vs => K (v :: vs)) hs.ok (hs.slots x) hag h
      obtain ⟨vs, as, h1, h2, h3⟩ := res_sound hs rs ys _ hy r3
      rw [had] at r1
      simp only [Instr.loadAt, Instr.sureAddr, Sem.run_bind, Sem.run_pure, Result.andThen_ok] at r1
      have hst : (asAddr (a.tmps.getD x undef)).run P C.w = .ok ad C.w := by rw [had]; rfl
      exact ⟨cv :: vs, v :: as, by simp only [List.mapM_cons, resGet, Sem.run_bind, Sem.run_pure, Result.andThen_ok, hst, r1, h1], by rw [RepL]; exact ⟨_, vs, rfl, r2, h2⟩, h3⟩
    · cases hc

theorem afn_of_vc {P : Program} {f : FuncId} {fn : Func} {live : Nat → Info} {af : AFunc} (hf : P.funcs[f]? = some fn) (hc : compileF P live fn = some af) {args : List AVal} {rows : List Row} {Q : AVal → List Row → Prop}
    (hn : args.length ≤ af.ntmps) (h : fnVC P af args rows Q) : AFn P f args rows Q := by
  intro C cargs hr hok hG hrep
  haveI : GO C := ⟨hG⟩
  subst hr
  unfold compileF at hc
  split at hc
  · rename_i c hb
    split at hc
    · rename_i ac rs hac hrs
      simp at hc; subst hc
      have hlen := hrep.length
      have hsz : (cargs.toArray ++ Array.replicate (fn.ntmps - cargs.toArray.size) undef).size = fn.ntmps := by
        have hn' : args.length ≤ fn.ntmps := hn
        simp; omega
      refine calls_of_wp hf hb (wp_mono (avc_sound (C0 := C) c ac hac _ _ C.w ⟨_, C, rfl, ⟨hok, hsz, rfl, fun t => ?_⟩, Later.refl C, h⟩) ?_)
      · have := slot_argEnv args cargs 0 t hrep (Nat.zero_le _)
        rw [Nat.sub_zero] at this
        have e : (cargs.toArray ++ Array.replicate (fn.ntmps - cargs.toArray.size) undef).getD t undef = cargs.getD t undef := by
          simp only [Array.getD_eq_getD_getElem?, Array.getElem?_append, List.size_toArray, List.getElem?_toArray, List.getD_eq_getElem?_getD]
          split
          · rfl
          · rename_i hlt
            rw [List.getElem?_eq_none (by omega)]
            simp only [Array.getElem?_replicate]
            split <;> rfl
        rw [e]
        exact this
      · intro e a' w' hq
        have fin : Holds fn.ntmps C.rows.length C (fun env rs' => resK rs' env rs fun vs => Cl C.rows.length (fun env' rs' => Q (slot env' 0) rs') [(0, oneOrTup vs)] rs') a' w' →
            a'.defers = [] ∧ ∃ v, (results fn a'.tmps).run P w' = .ok v w' ∧ ∃ cv v' C', Ending.returned v = .returned cv ∧ C'.w = w' ∧ Rep C' v' cv ∧ Ok C' ∧ Later C.rows.length C C' ∧ Q v' C'.rows := by
          rintro ⟨env, D, rfl, hs, hl, hk⟩
          refine ⟨hs.defers, ?_⟩
          obtain ⟨vs, as, h1, h2, h3⟩ := res_sound hs fn.results.toList rs _ hrs hk
          -- the value that is handed back
          have hval : ∃ cv, (results fn a'.tmps).run P D.w = .ok cv D.w ∧ Rep D (oneOrTup as) cv := by
            have hm : (fn.results.mapM (m := Sem) (resGet a'.tmps)).run P D.w = .ok vs.toArray D.w := by
              rw [Array.mapM_eq_mapM_toList]
              simp only [Sem.run_map, h1, Result.andThen_ok]
            rw [results_eq]
            simp only [Sem.run_bind, hm, Result.andThen_ok, Sem.run_pure]
            refine ⟨_, rfl, ?_⟩
            cases as with
            | nil =>
              have hv0 : vs = [] := by rw [RepL] at h2; exact h2
              subst hv0
              simp only [oneOrTup]
              rw [Rep]
              exact ⟨#[], by simp, by simp [RepL]⟩
            | cons x xs =>
              cases xs with
              | nil =>
                rw [RepL] at h2
                obtain ⟨v, rest, rfl, h4, h5⟩ := h2
                rw [RepL] at h5
                subst h5
                simpa [oneOrTup] using h4
              | cons y ys =>
                have hl2 := h2.length
                simp only [oneOrTup]
                rw [Rep]
                refine ⟨vs.toArray, ?_, by simpa using h2⟩
                rw [dif_neg (by simp at hl2 ⊢; omega)]
          obtain ⟨cv, r1, r2⟩ := hval
          refine ⟨cv, r1, ?_⟩
          -- forget and rename
          obtain ⟨env', rows', hw, hq'⟩ := h3
          have hsim : Sim 1 [(0, oneOrTup as)] D ⟨#[cv], []⟩ := by
            refine ⟨hs.ok, rfl, rfl, fun t => ?_⟩
            simp only [slot]
            split
            · rename_i ht; subst ht; simpa using r2
            · simp [Rep]
          obtain ⟨D', d1, d2, d3, d4⟩ := wk_sound hw D rfl hsim hl
          refine ⟨cv, slot env' 0, D', rfl, d1, ?_, d3.ok, d4, by rw [d2]; exact hq'⟩
          simpa using d3.slots 0
        cases e with
        | normal => exact fin hq
        | ret => exact fin hq
        | exit id => obtain ⟨_, _, _, _, _, hk⟩ := hq; exact hk.elim
        | goto l => exact hq.elim
        | panic ch => exact hq.elim
        | outgrown => exact hq.elim
    · cases hc
  · cases hc

/-- a table of slots -/
def lk (l : List (Nat × Info)) (id : Nat) : Info :=
  match l with
  | [] => default
  | (i, x) :: r => if i = id then x else lk r id

end Go.Abs
end

section
/- How a condition on code is reckoned out, step by step: constants that stop where something is not known, and their equations. -/
namespace Go.Abs
variable [Glb]

/-- a region, and what is kept behind it -/
def regK (P : Program) (ops : List IOp) (live : List Nat) (K : Env → List Row → Prop) (env : Env) (rows : List Row) : Prop :=
  listK P ops (fun env rows => K (norm live env) rows) env rows
/-- a branch -/
def condC (P : Program) (n0 : Nat) (v : AVal) (a b : ACode) (K : Post) (env : Env) (rows : List Row) : Prop := condK v (avc P n0 a K env rows) (avc P n0 b K env rows)
/-- an operation under a guard's value -/
def grdC (P : Program) (v : AVal) (want : Bool) (o : IOp) (env : Env) (rows : List Row) (K : Env → List Row → Prop) : Prop :=
  match v with
  | .bool b => gK b want (runK P o env rows K) (K (put env o.dst (.tup [])) rows)
  | .tup [] => K (put env o.dst (.tup [])) rows
  | _ => False
/-- an operation on values -/
def evC (op : AOp) (args : List AVal) (rows : List Row) (dst : Option Nat) (env : Env) (K : Env → List Row → Prop) : Prop := ev op args rows fun v rows' => K (put env dst v) rows'
/-- a call -/
def callC (P : Program) (f : FuncId) (args : List AVal) (rows : List Row) (dst : Option Nat) (env : Env) (K : Env → List Row → Prop) : Prop := callK P f args rows fun v rows' => K (put env dst v) rows'
/-- maps, iterators, copies, arrays -/
def clearC (row : Option Row) (sz : Nat) (z : List AVal) (r n off len : Nat) (rows : List Row) (dst : Option Nat) (env : Env) (K : Env → List Row → Prop) : Prop :=
  match row with
  | some (.live e sz' vals) => sz' = sz ∧ n = vals.length ∧ off + len ≤ n ∧ K (put env dst (.tup [])) (rows.set r (.live e sz (over vals off (List.replicate len z))))
  | _ => False
def copyC (row : Option Row) (ys : Option (List (List AVal))) (sz r n off len : Nat) (rows : List Row) (dst : Option Nat) (env : Env) (K : Env → List Row → Prop) : Prop :=
  match ys, row with
  | some ys, some (.live e sz' vals) => sz' = sz ∧ n = vals.length ∧ off + len ≤ n ∧ K (put env dst (.int .i64 ((min ys.length len : Nat) : Int))) (rows.set r (.live e sz (over vals off (ys.take (min ys.length len)))))
  | _, _ => False
def lookC (row : Option Row) (ok ag : Bool) (ks : List CK) (z k : AVal) (rows : List Row) (dst : Option Nat) (env : Env) (K : Env → List Row → Prop) : Prop :=
  match row with
  | some (.obj (.map ag' ks' ents)) => (ag' = ag ∧ ks' = ks) ∧ keyFits ag ks k ∧ K (put env dst (if ok then .tup [(kfind k ents).getD z, .bool (kfind k ents).isSome] else (kfind k ents).getD z)) rows
  | _ => False
def msetC (row : Option Row) (r : Nat) (ag : Bool) (ks : List CK) (k v : AVal) (rows : List Row) (dst : Option Nat) (env : Env) (K : Env → List Row → Prop) : Prop :=
  match row with
  | some (.obj (.map ag' ks' ents)) => (ag' = ag ∧ ks' = ks) ∧ keyFits ag ks k ∧ K (put env dst (.tup [])) (rows.set r (.obj (.map ag ks (kput k v ents))))
  | _ => False
def mentC (row : Option Row) (r : Nat) (ag : Bool) (ks : List CK) (z k : AVal) (rows : List Row) (dst : Option Nat) (env : Env) (K : Env → List Row → Prop) : Prop :=
  match row with
  | some (.obj (.map ag' ks' ents)) => (ag' = ag ∧ ks' = ks) ∧ (keyFits ag ks k ∧ entsFit ag ks ents) ∧
      K (put env dst (.tup [(kfind k ents).getD z, .int .i64 ((kpos k ents).getD ents.length)])) (rows.set r (.obj (.map ag ks (kput k ((kfind k ents).getD z) ents))))
  | _ => False
def estoreC (row : Option Row) (r : Nat) (n : Int) (v : AVal) (rows : List Row) (dst : Option Nat) (env : Env) (K : Env → List Row → Prop) : Prop :=
  match row with
  | some (.obj (.map ag ks ents)) => 0 ≤ n ∧ n < ents.length ∧ K (put env dst (.tup [])) (rows.set r (.obj (.map ag ks (ents.set n.toNat ((ents.getD n.toNat (.junk, .junk)).1, v)))))
  | _ => False
def lenMC (row : Option Row) (rows : List Row) (dst : Option Nat) (env : Env) (K : Env → List Row → Prop) : Prop :=
  match row with
  | some (.obj (.map _ _ ents)) => K (put env dst (.int .i64 ents.length)) rows
  | _ => False
def iterC (row : Option Row) (m : Nat) (rows : List Row) (dst : Option Nat) (env : Env) (K : Env → List Row → Prop) : Prop :=
  match row with
  | some (.obj (.map _ _ ents)) => K (put env dst (.itref rows.length m)) (rows ++ [.obj (.iter ents.length [])])
  | _ => False
def entryC (row row' : Option Row) (rows : List Row) (dst : Option Nat) (env : Env) (K : Env → List Row → Prop) : Prop :=
  match row, row' with
  | some (.obj (.iter n seen)), some (.obj (.map _ _ ents)) => n = ents.length ∧ 0 < seen.length ∧ seen.getLastD 0 < n ∧
      K (put env dst (.tup [(ents.getD (seen.getLastD 0) (.junk, .junk)).1, (ents.getD (seen.getLastD 0) (.junk, .junk)).2])) rows
  | _, _ => False
def nextC (x : AVal) (rows : List Row) (dst : Option Nat) (env : Env) (K : Env → List Row → Prop) : Prop := evNext rows x fun v rows' => K (put env dst v) rows'

/-- the exits of a block -/
def blockX (id : Nat) (K : Post) (j : Nat) (env : Env) (rows : List Row) : Prop := if j = id then K.n env rows else K.x j env rows

section
variable {P : Program} {n0 : Nat} {K : Post} {env : Env} {rows : List Row}
theorem avc_skip : avc P n0 .skip K env rows = K.n env rows := _root_.id rfl
theorem avc_region {ops : List IOp} {live : List Nat} : avc P n0 (.region ops live) K env rows = regK P ops live K.n env rows := _root_.id rfl
theorem avc_seq {a b : ACode} : avc P n0 (.seq a b) K env rows = avc P n0 a ⟨avc P n0 b K, K.x, K.r⟩ env rows := _root_.id rfl
theorem avc_cond {c : Opd} {a b : ACode} : avc P n0 (.cond c a b) K env rows = condC P n0 (c.ev env) a b K env rows := _root_.id rfl
theorem avc_block {id : Nat} {c : ACode} : avc P n0 (.block id c) K env rows = avc P n0 c ⟨K.n, blockX id K, K.r⟩ env rows := by
  rw [avc]
  congr 1
  congr 1
  funext j env rows
  unfold blockX
  split <;> rfl
theorem avc_exit {id : Nat} : avc P n0 (.exit id) K env rows = K.x id env rows := _root_.id rfl
theorem avc_ret : avc P n0 .ret K env rows = K.r env rows := _root_.id rfl
theorem avc_loop {c : ACode} (I : Env → List Row → Prop) (μ : Env → List Row → Nat) (h0 : Cl n0 I env rows)
    (h : ∀ env rows, I env rows → avc P n0 c ⟨Cl n0 fun env' rows' => I env' rows' ∧ μ env' rows' < μ env rows, K.x, K.r⟩ env rows) : avc P n0 (.loop c) K env rows := ⟨I, μ, h0, h⟩
theorem blockX_eq {id j : Nat} : blockX id K j env rows = if j = id then K.n env rows else K.x j env rows := _root_.id rfl
theorem condC_true {a b : ACode} : condC P n0 (.bool true) a b K env rows = avc P n0 a K env rows := by simp [condC, condK]
theorem condC_false {a b : ACode} : condC P n0 (.bool false) a b K env rows = avc P n0 b K env rows := by simp [condC, condK]
theorem condC_intro {b : Bool} {x y : ACode} (h1 : b = true → avc P n0 x K env rows) (h2 : b = false → avc P n0 y K env rows) : condC P n0 (.bool b) x y K env rows := ⟨h1, h2⟩
end

section
variable {P : Program} {live : List Nat} {K : Env → List Row → Prop} {env : Env} {rows : List Row}
theorem regK_nil : regK P [] live K env rows = K (norm live env) rows := _root_.id rfl
theorem regK_none {d : Option Nat} {op : AOp} {args : List Opd} {os : List IOp} : regK P (⟨d, op, args, none⟩ :: os) live K env rows = runK P ⟨d, op, args, none⟩ env rows (regK P os live K) := _root_.id rfl
theorem regK_some {d : Option Nat} {op : AOp} {args : List Opd} {s : Nat} {want : Bool} {os : List IOp} :
    regK P (⟨d, op, args, some (s, want)⟩ :: os) live K env rows = grdC P (slot env s) want ⟨d, op, args, some (s, want)⟩ env rows (regK P os live K) := _root_.id rfl
theorem grdC_tt {o : IOp} : grdC P (.bool true) true o env rows K = runK P o env rows K := _root_.id rfl
theorem grdC_ff {o : IOp} : grdC P (.bool false) false o env rows K = runK P o env rows K := _root_.id rfl
theorem grdC_tf {o : IOp} : grdC P (.bool true) false o env rows K = K (put env o.dst (.tup [])) rows := _root_.id rfl
theorem grdC_ft {o : IOp} : grdC P (.bool false) true o env rows K = K (put env o.dst (.tup [])) rows := _root_.id rfl
theorem grdC_un {o : IOp} {want : Bool} : grdC P (.tup []) want o env rows K = K (put env o.dst (.tup [])) rows := _root_.id rfl
theorem grdC_intro {b want : Bool} {o : IOp} (h1 : b = true → grdC P (.bool true) want o env rows K) (h2 : b = false → grdC P (.bool false) want o env rows K) : grdC P (.bool b) want o env rows K := by
  cases b
  · exact h2 rfl
  · exact h1 rfl
/-- a call of a function value -/
def callVC (P : Program) (vs : List AVal) (rows : List Row) (dst : Option Nat) (env : Env) (K : Env → List Row → Prop) : Prop := callV P vs rows fun v rows' => K (put env dst v) rows'
theorem callVC_fn {f : FuncId} {cs xs : List AVal} {d : Option Nat} : callVC P (.fn f cs :: xs) rows d env K = (fnOk P f ∧ callC P f (xs ++ cs) rows d env K) := _root_.id rfl
theorem runK_callv {d : Option Nat} {args : List Opd} {g : Option (Nat × Bool)} : runK P ⟨d, .callv, args, g⟩ env rows K = callVC P (args.map (Opd.ev env)) rows d env K := _root_.id rfl
theorem runK_call {d : Option Nat} {f : FuncId} {args : List Opd} {g : Option (Nat × Bool)} : runK P ⟨d, .call f, args, g⟩ env rows K = callC P f (args.map (Opd.ev env)) rows d env K := _root_.id rfl
end

section
variable {P : Program} {K : Env → List Row → Prop} {env : Env} {rows : List Row} {d : Option Nat} {args : List Opd} {g : Option (Nat × Bool)}
theorem runK_isnil {sz neg} : runK P ⟨d, .isnil sz neg, args, g⟩ env rows K = evC (.isnil sz neg) (args.map (Opd.ev env)) rows d env K := _root_.id rfl
theorem runK_cap : runK P ⟨d, .cap, args, g⟩ env rows K = evC .cap (args.map (Opd.ev env)) rows d env K := _root_.id rfl
theorem runK_clear {n z} : runK P ⟨d, .clear n z, args, g⟩ env rows K = evC (.clear n z) (args.map (Opd.ev env)) rows d env K := _root_.id rfl
theorem runK_appendZ {e n b z} : runK P ⟨d, .appendZ e n b z, args, g⟩ env rows K = evC (.appendZ e n b z) (args.map (Opd.ev env)) rows d env K := _root_.id rfl
theorem runK_mv : runK P ⟨d, .mv, args, g⟩ env rows K = evC .mv (args.map (Opd.ev env)) rows d env K := _root_.id rfl
theorem runK_pick : runK P ⟨d, .pick, args, g⟩ env rows K = evC .pick (args.map (Opd.ev env)) rows d env K := _root_.id rfl
theorem runK_alloc {e z} : runK P ⟨d, .alloc e z, args, g⟩ env rows K = evC (.alloc e z) (args.map (Opd.ev env)) rows d env K := _root_.id rfl
theorem runK_box {e z} : runK P ⟨d, .box e z, args, g⟩ env rows K = evC (.box e z) (args.map (Opd.ev env)) rows d env K := _root_.id rfl
theorem runK_build {z p} : runK P ⟨d, .build z p, args, g⟩ env rows K = evC (.build z p) (args.map (Opd.ev env)) rows d env K := _root_.id rfl
theorem runK_bslice {e sz z l i} : runK P ⟨d, .bslice e sz z l i, args, g⟩ env rows K = evC (.bslice e sz z l i) (args.map (Opd.ev env)) rows d env K := _root_.id rfl
theorem runK_mkslice {e sz b z} : runK P ⟨d, .mkslice e sz b z, args, g⟩ env rows K = evC (.mkslice e sz b z) (args.map (Opd.ev env)) rows d env K := _root_.id rfl
theorem runK_nilsl : runK P ⟨d, .nilsl, args, g⟩ env rows K = evC .nilsl (args.map (Opd.ev env)) rows d env K := _root_.id rfl
theorem runK_load1 : runK P ⟨d, .load1, args, g⟩ env rows K = evC .load1 (args.map (Opd.ev env)) rows d env K := _root_.id rfl
theorem runK_loadA {n} : runK P ⟨d, .loadA n, args, g⟩ env rows K = evC (.loadA n) (args.map (Opd.ev env)) rows d env K := _root_.id rfl
theorem runK_store {n} : runK P ⟨d, .store n, args, g⟩ env rows K = evC (.store n) (args.map (Opd.ev env)) rows d env K := _root_.id rfl
theorem runK_nilchk : runK P ⟨d, .nilchk, args, g⟩ env rows K = evC .nilchk (args.map (Opd.ev env)) rows d env K := _root_.id rfl
theorem runK_bin {op} : runK P ⟨d, .bin op, args, g⟩ env rows K = evC (.bin op) (args.map (Opd.ev env)) rows d env K := _root_.id rfl
theorem runK_eqA {n ks} : runK P ⟨d, .eqA n ks, args, g⟩ env rows K = evC (.eqA n ks) (args.map (Opd.ev env)) rows d env K := _root_.id rfl
theorem runK_eqB {n} : runK P ⟨d, .eqB n, args, g⟩ env rows K = evC (.eqB n) (args.map (Opd.ev env)) rows d env K := _root_.id rfl
theorem runK_not : runK P ⟨d, .not, args, g⟩ env rows K = evC .not (args.map (Opd.ev env)) rows d env K := _root_.id rfl
theorem runK_neg : runK P ⟨d, .neg, args, g⟩ env rows K = evC .neg (args.map (Opd.ev env)) rows d env K := _root_.id rfl
theorem runK_conv {k} : runK P ⟨d, .conv k, args, g⟩ env rows K = evC (.conv k) (args.map (Opd.ev env)) rows d env K := _root_.id rfl
theorem runK_fieldAddr {n} : runK P ⟨d, .fieldAddr n, args, g⟩ env rows K = evC (.fieldAddr n) (args.map (Opd.ev env)) rows d env K := _root_.id rfl
theorem runK_field1 {n} : runK P ⟨d, .field1 n, args, g⟩ env rows K = evC (.field1 n) (args.map (Opd.ev env)) rows d env K := _root_.id rfl
theorem runK_fieldA {n m} : runK P ⟨d, .fieldA n m, args, g⟩ env rows K = evC (.fieldA n m) (args.map (Opd.ev env)) rows d env K := _root_.id rfl
theorem runK_indexAddr {n} : runK P ⟨d, .indexAddr n, args, g⟩ env rows K = evC (.indexAddr n) (args.map (Opd.ev env)) rows d env K := _root_.id rfl
theorem runK_index : runK P ⟨d, .index, args, g⟩ env rows K = evC .index (args.map (Opd.ev env)) rows d env K := _root_.id rfl
theorem runK_slice {a b n} : runK P ⟨d, .slice a b n, args, g⟩ env rows K = evC (.slice a b n) (args.map (Opd.ev env)) rows d env K := _root_.id rfl
theorem runK_sliceS {a b} : runK P ⟨d, .sliceS a b, args, g⟩ env rows K = evC (.sliceS a b) (args.map (Opd.ev env)) rows d env K := _root_.id rfl
theorem runK_len : runK P ⟨d, .len, args, g⟩ env rows K = evC .len (args.map (Opd.ev env)) rows d env K := _root_.id rfl
theorem runK_lenS : runK P ⟨d, .lenS, args, g⟩ env rows K = evC .lenS (args.map (Opd.ev env)) rows d env K := _root_.id rfl
theorem runK_append {e sz b} : runK P ⟨d, .append e sz b, args, g⟩ env rows K = evC (.append e sz b) (args.map (Opd.ev env)) rows d env K := _root_.id rfl
theorem runK_extract {i} : runK P ⟨d, .extract i, args, g⟩ env rows K = evC (.extract i) (args.map (Opd.ev env)) rows d env K := _root_.id rfl
theorem runK_b2s : runK P ⟨d, .b2s, args, g⟩ env rows K = evC .b2s (args.map (Opd.ev env)) rows d env K := _root_.id rfl
theorem runK_frz : runK P ⟨d, .frz, args, g⟩ env rows K = evC .frz (args.map (Opd.ev env)) rows d env K := _root_.id rfl
theorem runK_minmax {m} : runK P ⟨d, .minmax m, args, g⟩ env rows K = evC (.minmax m) (args.map (Opd.ev env)) rows d env K := _root_.id rfl
theorem runK_copy {sz} : runK P ⟨d, .copy sz, args, g⟩ env rows K = evC (.copy sz) (args.map (Opd.ev env)) rows d env K := _root_.id rfl
theorem runK_indexArr {l sz} : runK P ⟨d, .indexArr l sz, args, g⟩ env rows K = evC (.indexArr l sz) (args.map (Opd.ev env)) rows d env K := _root_.id rfl
theorem runK_arr1 {l} : runK P ⟨d, .arr1 l, args, g⟩ env rows K = evC (.arr1 l) (args.map (Opd.ev env)) rows d env K := _root_.id rfl
theorem runK_arrA {l sz} : runK P ⟨d, .arrA l sz, args, g⟩ env rows K = evC (.arrA l sz) (args.map (Opd.ev env)) rows d env K := _root_.id rfl
theorem runK_mkfn {f} : runK P ⟨d, .mkfn f, args, g⟩ env rows K = evC (.mkfn f) (args.map (Opd.ev env)) rows d env K := _root_.id rfl
theorem runK_mkmap {ag ks} : runK P ⟨d, .mkmap ag ks, args, g⟩ env rows K = evC (.mkmap ag ks) (args.map (Opd.ev env)) rows d env K := _root_.id rfl
theorem runK_look {ok ag ks z} : runK P ⟨d, .look ok ag ks z, args, g⟩ env rows K = evC (.look ok ag ks z) (args.map (Opd.ev env)) rows d env K := _root_.id rfl
theorem runK_mset {ag ks} : runK P ⟨d, .mset ag ks, args, g⟩ env rows K = evC (.mset ag ks) (args.map (Opd.ev env)) rows d env K := _root_.id rfl
theorem runK_ment {ag ks z} : runK P ⟨d, .ment ag ks z, args, g⟩ env rows K = evC (.ment ag ks z) (args.map (Opd.ev env)) rows d env K := _root_.id rfl
theorem runK_estore  : runK P ⟨d, .estore, args, g⟩ env rows K = evC .estore (args.map (Opd.ev env)) rows d env K := _root_.id rfl
theorem runK_lenM  : runK P ⟨d, .lenM, args, g⟩ env rows K = evC .lenM (args.map (Opd.ev env)) rows d env K := _root_.id rfl
theorem runK_iter  : runK P ⟨d, .iter, args, g⟩ env rows K = evC .iter (args.map (Opd.ev env)) rows d env K := _root_.id rfl
theorem runK_entry  : runK P ⟨d, .entry, args, g⟩ env rows K = evC .entry (args.map (Opd.ev env)) rows d env K := _root_.id rfl
theorem runK_next {x : Opd} : runK P ⟨d, .next, [x], g⟩ env rows K = nextC (x.ev env) rows d env K := _root_.id rfl
end

/-- operations on bits -/
def band (k : IntKind) (a b : Int) : Int := k.wrap (BitVec.ofInt k.bits a &&& BitVec.ofInt k.bits b).toNat
def bor (k : IntKind) (a b : Int) : Int := k.wrap (BitVec.ofInt k.bits a ||| BitVec.ofInt k.bits b).toNat
def bxor (k : IntKind) (a b : Int) : Int := k.wrap (BitVec.ofInt k.bits a ^^^ BitVec.ofInt k.bits b).toNat
def bshl (k : IntKind) (a : Int) (n : Nat) : Int := k.wrap (a * 2 ^ (min n k.bits))
def bshr (k : IntKind) (a : Int) (n : Nat) : Int := a.fdiv (2 ^ (min n k.bits))

/-- looking into a row -/
def load1C (r : Option Row) (n i off : Nat) (rows : List Row) (dst : Option Nat) (env : Env) (K : Env → List Row → Prop) : Prop :=
  match r with
  | some (.live _ sz vals) => n = vals.length ∧ off < sz ∧ K (put env dst ((vals.getD i []).getD off .junk)) rows
  | _ => False
def loadAC (r : Option Row) (m n i off : Nat) (rows : List Row) (dst : Option Nat) (env : Env) (K : Env → List Row → Prop) : Prop :=
  match r with
  | some (.live _ sz vals) => n = vals.length ∧ off + m ≤ sz ∧ K (put env dst (.agg (((vals.getD i []).drop off).take m))) rows
  | _ => False
def storeC (row : Option Row) (m r n i off : Nat) (cells : List AVal) (rows : List Row) (dst : Option Nat) (env : Env) (K : Env → List Row → Prop) : Prop :=
  match row with
  | some (.live e sz vals) => n = vals.length ∧ off + m ≤ sz ∧ cells.length = m ∧ cells.all one = true ∧ K (put env dst (.tup [])) (rows.set r (.live e sz (vals.set i (splice (vals.getD i []) off cells))))
  | _ => False
def indexC (row : Option Row) (sz r n off len : Nat) (i : Int) (rows : List Row) (dst : Option Nat) (env : Env) (K : Env → List Row → Prop) : Prop :=
  match row with
  | some (.live _ sz' vals) => sz' = sz ∧ n = vals.length ∧ 0 ≤ i ∧ i < len ∧ K (put env dst (.ref r n (off + i.toNat) 0)) rows
  | _ => False
def sliceC (row : Option Row) (sz r n off : Nat) (len : Nat) (a b : Int) (rows : List Row) (dst : Option Nat) (env : Env) (K : Env → List Row → Prop) : Prop :=
  match row with
  | some (.live _ sz' vals) => 0 ≤ a ∧ a ≤ b ∧ b ≤ len ∧ sz' = sz ∧ n = vals.length ∧ K (put env dst (.own r n (off + a.toNat) (b.toNat - a.toNat))) rows
  | _ => False
def appC (row : Option Row) (ys : Option (List (List AVal))) (e : TypeId) (sz bytes r n off len : Nat) (rows : List Row) (dst : Option Nat) (env : Env) (K : Env → List Row → Prop) : Prop :=
  match ys, row with
  | some ys, some (.live e' sz' vals) => e' = e ∧ sz' = sz ∧ n = vals.length ∧ off = 0 ∧ len = n ∧ (n + ys.length) * bytes ≤ 140737488355328 ∧
      K (put env dst (.own r (n + ys.length) 0 (n + ys.length))) (rows.set r (.live e sz (vals ++ ys)))
  | _, _ => False
def appNilC (ys : Option (List (List AVal))) (e : TypeId) (sz bytes : Nat) (rows : List Row) (dst : Option Nat) (env : Env) (K : Env → List Row → Prop) : Prop :=
  match ys with
  | some ys => ys.length * bytes ≤ 140737488355328 ∧ K (put env dst (.own rows.length ys.length 0 ys.length)) (rows ++ [.live e sz ys])
  | none => False
def buildC (cs : Option (List AVal)) (vs : List AVal) (rows : List Row) (dst : Option Nat) (env : Env) (K : Env → List Row → Prop) : Prop :=
  match cs with
  | some cs => (vs.all fun v => (acells v).all one) = true ∧ K (put env dst (.agg cs)) rows
  | none => False
def bsliceC (es : Option (List (List AVal))) (e : TypeId) (sz len : Nat) (vs : List AVal) (rows : List Row) (dst : Option Nat) (env : Env) (K : Env → List Row → Prop) : Prop :=
  match es with
  | some es => (vs.all fun v => (acells v).all one) = true ∧ K (put env dst (.own rows.length len 0 len)) (rows ++ [.live e sz es])
  | none => False
def isnilC (ys : Option (List (List AVal))) (neg : Bool) (rows : List Row) (dst : Option Nat) (env : Env) (K : Env → List Row → Prop) : Prop :=
  match ys with
  | some ys => 0 < ys.length ∧ K (put env dst (.bool neg)) rows
  | none => False
def b2sC (ns : Option (List Int)) (rows : List Row) (dst : Option Nat) (env : Env) (K : Env → List Row → Prop) : Prop :=
  match ns with
  | some ns => K (put env dst (.str (strOf ns))) rows
  | none => False
def bytesO (ys : Option (List (List AVal))) : Option (List Int) :=
  match ys with
  | some ys => bytesE ys
  | none => none
def frzC (row : Option Row) (r n off len : Nat) (rows : List Row) (dst : Option Nat) (env : Env) (K : Env → List Row → Prop) : Prop :=
  match row with
  | some (.live _ sz vals) => n = vals.length ∧ off = 0 ∧ len = n ∧ 0 < n ∧ cleanE vals = true ∧ K (put env dst (.pure sz vals)) (rows.set r .dead)
  | _ => False
/-- the elements of a slice of a row -/
def elemsC (row : Option Row) (sz n off len : Nat) : Option (List (List AVal)) :=
  match row with
  | some (.live _ sz' vals) => if sz' = sz ∧ n = vals.length ∧ off + len ≤ n then some ((vals.drop off).take len) else none
  | _ => none

section
variable {K : Env → List Row → Prop} {env : Env} {rows : List Row} {d : Option Nat}
theorem evC_nilsl : evC .nilsl [] rows d env K = K (put env d .nils) rows := _root_.id rfl
theorem evC_mv {x : AVal} : evC .mv [x] rows d env K = K (put env d x) rows := _root_.id rfl
theorem evC_pick_t {a b : AVal} : evC .pick [.bool true, a, b] rows d env K = K (put env d a) rows := _root_.id rfl
theorem evC_pick_f {a b : AVal} : evC .pick [.bool false, a, b] rows d env K = K (put env d b) rows := _root_.id rfl
theorem evC_alloc {e z} : evC (.alloc e z) [] rows d env K = K (put env d (.ref rows.length 1 0 0)) (rows ++ [.live e z.length [z]]) := _root_.id rfl
theorem evC_box {e sz x} : evC (.box e sz) [x] rows d env K = ((acells x).length = sz ∧ (acells x).all one = true ∧ K (put env d (.ref rows.length 1 0 0)) (rows ++ [.live e sz [acells x]])) := _root_.id rfl
theorem evC_build {z p vs} : evC (.build z p) vs rows d env K = buildC (fillC z p vs) vs rows d env K := by
  unfold evC buildC; simp only [ev]; split <;> simp_all
theorem evC_bslice {e sz z len idx vs} : evC (.bslice e sz z len idx) vs rows d env K = bsliceC (fillE (List.replicate len z) sz idx vs) e sz len vs rows d env K := by
  unfold evC bsliceC; simp only [ev]; split <;> simp_all
theorem evC_mkslice {e sz b z k k' l c} : evC (.mkslice e sz b z) [.int k l, .int k' c] rows d env K = (0 ≤ l ∧ l ≤ c ∧ c * b ≤ 140737488355328 ∧ c ≤ 140737488355328 ∧
      K (put env d (.own rows.length l.toNat 0 l.toNat)) (rows ++ [.live e sz (List.replicate l.toNat z)])) := _root_.id rfl
theorem evC_load1_ref {r n i off} : evC .load1 [.ref r n i off] rows d env K = load1C rows[r]? n i off rows d env K := by
  unfold evC load1C; simp only [ev, evLoad1]; exact _root_.id rfl
theorem evC_load1_pref {cells off} : evC .load1 [.pref cells off] rows d env K = (off < cells.length ∧ K (put env d (cells.getD off .junk)) rows) := _root_.id rfl
theorem evC_loadA_ref {m r n i off} : evC (.loadA m) [.ref r n i off] rows d env K = loadAC rows[r]? m n i off rows d env K := by
  unfold evC loadAC; simp only [ev, evLoadA]; exact _root_.id rfl
theorem evC_loadA_pref {m cells off} : evC (.loadA m) [.pref cells off] rows d env K = (off + m ≤ cells.length ∧ K (put env d (.agg ((cells.drop off).take m))) rows) := _root_.id rfl
theorem evC_store {m r n i off y} : evC (.store m) [.ref r n i off, y] rows d env K = storeC rows[r]? m r n i off (acells y) rows d env K := by
  unfold evC storeC; simp only [ev, evStore]; exact _root_.id rfl
theorem evC_nilchk_ref {r n i o} : evC .nilchk [.ref r n i o] rows d env K = K (put env d (.ref r n i o)) rows := _root_.id rfl
theorem evC_nilchk_pref {c o} : evC .nilchk [.pref c o] rows d env K = K (put env d (.pref c o)) rows := _root_.id rfl
theorem evC_add {k a b} : evC (.bin .add) [.int k a, .int k b] rows d env K = K (put env d (.int k (k.wrap (a + b)))) rows := by simp [evC, ev, evBin]
theorem evC_sub {k a b} : evC (.bin .sub) [.int k a, .int k b] rows d env K = K (put env d (.int k (k.wrap (a - b)))) rows := by simp [evC, ev, evBin]
theorem evC_mul {k a b} : evC (.bin .mul) [.int k a, .int k b] rows d env K = K (put env d (.int k (k.wrap (a * b)))) rows := by simp [evC, ev, evBin]
theorem evC_quo {k a b} : evC (.bin .quo) [.int k a, .int k b] rows d env K = (b ≠ 0 ∧ K (put env d (.int k (k.wrap (a.tdiv b)))) rows) := by simp [evC, ev, evBin]
theorem evC_rem {k a b} : evC (.bin .rem) [.int k a, .int k b] rows d env K = (b ≠ 0 ∧ K (put env d (.int k (a.tmod b))) rows) := by simp [evC, ev, evBin]
theorem evC_and {k a b} : evC (.bin .and) [.int k a, .int k b] rows d env K = K (put env d (.int k (band k a b))) rows := by simp [evC, ev, evBin, band]
theorem evC_or {k a b} : evC (.bin .or) [.int k a, .int k b] rows d env K = K (put env d (.int k (bor k a b))) rows := by simp [evC, ev, evBin, bor]
theorem evC_xor {k a b} : evC (.bin .xor) [.int k a, .int k b] rows d env K = K (put env d (.int k (bxor k a b))) rows := by simp [evC, ev, evBin, bxor]
theorem evC_shl {k k' a b} : evC (.bin .shl) [.int k a, .int k' b] rows d env K = (0 ≤ b ∧ K (put env d (.int k (bshl k a b.toNat))) rows) := _root_.id rfl
theorem evC_shr {k k' a b} : evC (.bin .shr) [.int k a, .int k' b] rows d env K = (0 ≤ b ∧ K (put env d (.int k (bshr k a b.toNat))) rows) := _root_.id rfl
theorem evC_eql {k a b} : evC (.bin .eql) [.int k a, .int k b] rows d env K = K (put env d (.bool (a == b))) rows := by simp [evC, ev, evBin]
theorem evC_neq {k a b} : evC (.bin .neq) [.int k a, .int k b] rows d env K = K (put env d (.bool (a != b))) rows := by simp [evC, ev, evBin]
theorem evC_lss {k a b} : evC (.bin .lss) [.int k a, .int k b] rows d env K = K (put env d (.bool (decide (a < b)))) rows := by simp [evC, ev, evBin]
theorem evC_leq {k a b} : evC (.bin .leq) [.int k a, .int k b] rows d env K = K (put env d (.bool (decide (a ≤ b)))) rows := by simp [evC, ev, evBin]
theorem evC_gtr {k a b} : evC (.bin .gtr) [.int k a, .int k b] rows d env K = K (put env d (.bool (decide (b < a)))) rows := by simp [evC, ev, evBin]
theorem evC_geq {k a b} : evC (.bin .geq) [.int k a, .int k b] rows d env K = K (put env d (.bool (decide (b ≤ a)))) rows := by simp [evC, ev, evBin]
theorem evC_seql {a b} : evC (.bin .eql) [.str a, .str b] rows d env K = K (put env d (.bool (a.toList == b.toList))) rows := _root_.id rfl
theorem evC_sneq {a b} : evC (.bin .neq) [.str a, .str b] rows d env K = K (put env d (.bool !(a.toList == b.toList))) rows := _root_.id rfl
theorem evC_slss {a b} : evC (.bin .lss) [.str a, .str b] rows d env K = K (put env d (.bool (Op.bytesLess a.toList b.toList))) rows := _root_.id rfl
theorem evC_sadd {a b} : evC (.bin .add) [.str a, .str b] rows d env K = (((a.size + b.size : Nat) : Int) ≤ IntKind.i64.max ∧ K (put env d (.str (a ++ b))) rows) := _root_.id rfl
theorem evC_eqA {neg ks xs ys} : evC (.eqA neg ks) [.agg xs, .agg ys] rows d env K = (fits ks xs ∧ fits ks ys ∧ K (put env d (.bool (eqCells xs ys != neg))) rows) := _root_.id rfl
theorem evC_eqB {neg a b} : evC (.eqB neg) [.bool a, .bool b] rows d env K = K (put env d (.bool ((a == b) != neg))) rows := _root_.id rfl
theorem evC_not {b} : evC .not [.bool b] rows d env K = K (put env d (.bool !b)) rows := _root_.id rfl
theorem evC_neg {k n} : evC .neg [.int k n] rows d env K = K (put env d (.int k (k.wrap (0 - n)))) rows := _root_.id rfl
theorem evC_conv {k k' n} : evC (.conv k) [.int k' n] rows d env K = K (put env d (.int k (k.wrap n))) rows := _root_.id rfl
theorem evC_fieldAddr_ref {m r n i off} : evC (.fieldAddr m) [.ref r n i off] rows d env K = K (put env d (.ref r n i (off + m))) rows := _root_.id rfl
theorem evC_fieldAddr_pref {m cells off} : evC (.fieldAddr m) [.pref cells off] rows d env K = K (put env d (.pref cells (off + m))) rows := _root_.id rfl
theorem evC_field1 {off cs} : evC (.field1 off) [.agg cs] rows d env K = (off < cs.length ∧ K (put env d (cs.getD off .junk)) rows) := _root_.id rfl
theorem evC_fieldA {off sz cs} : evC (.fieldA off sz) [.agg cs] rows d env K = (off + sz ≤ cs.length ∧ K (put env d (.agg ((cs.drop off).take sz))) rows) := _root_.id rfl
theorem evC_indexAddr_pure {sz sz' vals k i} : evC (.indexAddr sz) [.pure sz' vals, .int k i] rows d env K = (sz' = sz ∧ 0 ≤ i ∧ i < vals.length ∧ K (put env d (.pref (vals.getD i.toNat []) 0)) rows) := _root_.id rfl
theorem evC_indexAddr_own {sz r n off len k i} : evC (.indexAddr sz) [.own r n off len, .int k i] rows d env K = indexC rows[r]? sz r n off len i rows d env K := by
  unfold evC indexC; simp only [ev, evIndexAddr]; exact _root_.id rfl
theorem evC_index {s k i} : evC .index [.str s, .int k i] rows d env K = (0 ≤ i ∧ i < s.size ∧ K (put env d (.int .u8 ((s.data.getD i.toNat 0).toNat))) rows) := _root_.id rfl
theorem evC_slice_pure_tt {sz sz' vals k k' a b} : evC (.slice true true sz) [.pure sz' vals, .int k a, .int k' b] rows d env K = (0 ≤ a ∧ a ≤ b ∧ b ≤ vals.length ∧ sz' = sz ∧ K (put env d (.pure sz' ((vals.drop a.toNat).take (b.toNat - a.toNat)))) rows) := _root_.id rfl
theorem evC_slice_pure_tf {sz sz' vals k a} : evC (.slice true false sz) [.pure sz' vals, .int k a] rows d env K = (0 ≤ a ∧ a ≤ vals.length ∧ (vals.length : Int) ≤ vals.length ∧ sz' = sz ∧ K (put env d (.pure sz' ((vals.drop a.toNat).take ((vals.length : Int).toNat - a.toNat)))) rows) := _root_.id rfl
theorem evC_slice_pure_ft {sz sz' vals k b} : evC (.slice false true sz) [.pure sz' vals, .int k b] rows d env K = ((0 : Int) ≤ 0 ∧ 0 ≤ b ∧ b ≤ vals.length ∧ sz' = sz ∧ K (put env d (.pure sz' ((vals.drop (0 : Int).toNat).take (b.toNat - (0 : Int).toNat)))) rows) := _root_.id rfl
theorem evC_slice_own_tt {sz r n off len k k' a b} : evC (.slice true true sz) [.own r n off len, .int k a, .int k' b] rows d env K = sliceC rows[r]? sz r n off len a b rows d env K := by
  unfold evC sliceC; simp only [ev, evSlice, len?, Option.getD_some]; split <;> simp_all
theorem evC_slice_own_tf {sz r n off len k a} : evC (.slice true false sz) [.own r n off len, .int k a] rows d env K = sliceC rows[r]? sz r n off len a len rows d env K := by
  unfold evC sliceC; simp only [ev, evSlice, len?, Option.getD_some, Option.getD_none]; split <;> simp_all
theorem evC_slice_own_ft {sz r n off len k b} : evC (.slice false true sz) [.own r n off len, .int k b] rows d env K = sliceC rows[r]? sz r n off len 0 b rows d env K := by
  unfold evC sliceC; simp only [ev, evSlice, len?, Option.getD_some, Option.getD_none]; split <;> simp_all
theorem evC_sliceS_tt {s k k' a b} : evC (.sliceS true true) [.str s, .int k a, .int k' b] rows d env K = (0 ≤ a ∧ a ≤ b ∧ b ≤ s.size ∧ K (put env d (.str (s.extract a.toNat b.toNat))) rows) := _root_.id rfl
theorem evC_sliceS_tf {s k a} : evC (.sliceS true false) [.str s, .int k a] rows d env K = (0 ≤ a ∧ a ≤ s.size ∧ (s.size : Int) ≤ s.size ∧ K (put env d (.str (s.extract a.toNat (s.size : Int).toNat))) rows) := _root_.id rfl
theorem evC_sliceS_ft {s k b} : evC (.sliceS false true) [.str s, .int k b] rows d env K = ((0 : Int) ≤ 0 ∧ 0 ≤ b ∧ b ≤ s.size ∧ K (put env d (.str (s.extract (0 : Int).toNat b.toNat))) rows) := _root_.id rfl
theorem evC_len_pure {sz vals} : evC .len [.pure sz vals] rows d env K = K (put env d (.int .i64 (vals.length : Nat))) rows := _root_.id rfl
theorem evC_len_own {r n off len} : evC .len [.own r n off len] rows d env K = K (put env d (.int .i64 len)) rows := _root_.id rfl
theorem evC_len_nils : evC .len [.nils] rows d env K = K (put env d (.int .i64 (0 : Nat))) rows := _root_.id rfl
theorem evC_lenS {s} : evC .lenS [.str s] rows d env K = K (put env d (.int .i64 s.size)) rows := _root_.id rfl
theorem evC_append_nils {e sz b y} : evC (.append e sz b) [.nils, y] rows d env K = appNilC (elems? rows sz y) e sz b rows d env K := by
  unfold evC appNilC; simp only [ev, evAppend]; split <;> simp_all
theorem evC_append_own {e sz b r n off len y} : evC (.append e sz b) [.own r n off len, y] rows d env K = appC rows[r]? (elems? rows sz y) e sz b r n off len rows d env K := by
  unfold evC appC
  simp only [ev, evAppend]
  cases elems? rows sz y with
  | none => simp
  | some ys => cases hr : rows[r]? with
    | none => simp
    | some row => cases row <;> simp
theorem evC_b2s {x} : evC .b2s [x] rows d env K = b2sC (bytesO (elems? rows 1 x)) rows d env K := by
  unfold evC b2sC bytesO
  simp only [ev, evB2s]
  cases elems? rows 1 x with
  | none => rfl
  | some ys => simp only; cases bytesE ys <;> rfl
theorem evC_isnil {sz neg x} : evC (.isnil sz neg) [x] rows d env K = isnilC (elems? rows sz x) neg rows d env K := _root_.id rfl
theorem isnilC_some {ys neg} : isnilC (some ys) neg rows d env K = (0 < ys.length ∧ K (put env d (.bool neg)) rows) := _root_.id rfl
theorem b2sC_some {ns} : b2sC (some ns) rows d env K = K (put env d (.str (strOf ns))) rows := _root_.id rfl
theorem bytesO_some {ys} : bytesO (some ys) = bytesE ys := _root_.id rfl
theorem evC_frz {r n off len} : evC .frz [.own r n off len] rows d env K = frzC rows[r]? r n off len rows d env K := by
  unfold evC frzC; simp only [ev, evFrz]; exact _root_.id rfl
theorem frzC_live {e sz vals r n off len} : frzC (some (.live e sz vals)) r n off len rows d env K = (n = vals.length ∧ off = 0 ∧ len = n ∧ 0 < n ∧ cleanE vals = true ∧ K (put env d (.pure sz vals)) (rows.set r .dead)) := _root_.id rfl
theorem evC_extract {i vs} : evC (.extract i) [.tup vs] rows d env K = (i < vs.length ∧ K (put env d (vs.getD i .junk)) rows) := _root_.id rfl
theorem evC_min {k a b} : evC (.minmax false) [.int k a, .int k b] rows d env K = K (put env d (.int k (min a b))) rows := by simp [evC, ev]
theorem evC_max {k a b} : evC (.minmax true) [.int k a, .int k b] rows d env K = K (put env d (.int k (max a b))) rows := by simp [evC, ev]
theorem evC_cap : evC .cap [.nils] rows d env K = K (put env d (.int .i64 0)) rows := _root_.id rfl
theorem evC_appendZ {e sz b z k n} : evC (.appendZ e sz b z) [.nils, .int k n] rows d env K = (0 < n ∧ n * b ≤ 140737488355328 ∧ K (put env d (.own rows.length n.toNat 0 n.toNat)) (rows ++ [.live e sz (List.replicate n.toNat z)])) := _root_.id rfl
theorem evC_clear {sz z r n off len} : evC (.clear sz z) [.own r n off len] rows d env K = clearC rows[r]? sz z r n off len rows d env K := by
  unfold evC clearC
  simp only [ev, evClear]
  exact _root_.id rfl
theorem clearC_live {e sz' sz z vals r n off len} : clearC (some (.live e sz' vals)) sz z r n off len rows d env K = (sz' = sz ∧ n = vals.length ∧ off + len ≤ n ∧ K (put env d (.tup [])) (rows.set r (.live e sz (over vals off (List.replicate len z))))) := _root_.id rfl
theorem evC_copy {sz r n off len y} : evC (.copy sz) [.own r n off len, y] rows d env K = copyC rows[r]? (elems? rows sz y) sz r n off len rows d env K := by
  unfold evC copyC
  simp only [ev, evCopy]
  cases elems? rows sz y with
  | none => simp
  | some ys => cases hr : rows[r]? with
    | none => simp
    | some row => cases row <;> simp
theorem copyC_live {e ys sz' sz vals r n off len} : copyC (some (.live e sz' vals)) (some ys) sz r n off len rows d env K = (sz' = sz ∧ n = vals.length ∧ off + len ≤ n ∧ K (put env d (.int .i64 ((min ys.length len : Nat) : Int))) (rows.set r (.live e sz (over vals off (ys.take (min ys.length len)))))) := _root_.id rfl
theorem evC_indexArr_ref {l sz r n i off k j} : evC (.indexArr l sz) [.ref r n i off, .int k j] rows d env K = (0 ≤ j ∧ j < l ∧ K (put env d (.ref r n i (off + j.toNat * sz))) rows) := _root_.id rfl
theorem evC_indexArr_pref {l sz cells off k j} : evC (.indexArr l sz) [.pref cells off, .int k j] rows d env K = (0 ≤ j ∧ j < l ∧ K (put env d (.pref cells (off + j.toNat * sz))) rows) := _root_.id rfl
theorem evC_arr1 {l cs k j} : evC (.arr1 l) [.agg cs, .int k j] rows d env K = ((0 ≤ j ∧ j < l) ∧ j.toNat < cs.length ∧ K (put env d (cs.getD j.toNat .junk)) rows) := _root_.id rfl
theorem evC_arrA {l sz cs k j} : evC (.arrA l sz) [.agg cs, .int k j] rows d env K = ((0 ≤ j ∧ j < l) ∧ j.toNat * sz + sz ≤ cs.length ∧ K (put env d (.agg ((cs.drop (j.toNat * sz)).take sz))) rows) := _root_.id rfl
theorem evC_mkfn {f cs} : evC (.mkfn f) cs rows d env K = K (put env d (.fn f cs)) rows := _root_.id rfl
theorem evC_mkmap {ag ks} : evC (.mkmap ag ks) [] rows d env K = K (put env d (.mref rows.length)) (rows ++ [.obj (.map ag ks [])]) := _root_.id rfl
theorem evC_look {ok ag ks z r k} : evC (.look ok ag ks z) [.mref r, k] rows d env K = lookC rows[r]? ok ag ks z k rows d env K := by
  unfold evC lookC
  simp only [ev, evLook, ments]
  cases hr : rows[r]? with
  | none => simp
  | some row =>
    cases row with
    | dead => simp
    | live => simp
    | obj o =>
      cases o with
      | iter => simp
      | map ag' ks' ents =>
        simp only
        by_cases hc : ag' = ag ∧ ks' = ks
        · simp [hc]
        · rw [if_neg hc]; simp [hc]
theorem lookC_t {ag' ks' ents ag ks z k} : lookC (some (.obj (.map ag' ks' ents))) true ag ks z k rows d env K = ((ag' = ag ∧ ks' = ks) ∧ keyFits ag ks k ∧ K (put env d (.tup [(kfind k ents).getD z, .bool (kfind k ents).isSome])) rows) := _root_.id rfl
theorem lookC_f {ag' ks' ents ag ks z k} : lookC (some (.obj (.map ag' ks' ents))) false ag ks z k rows d env K = ((ag' = ag ∧ ks' = ks) ∧ keyFits ag ks k ∧ K (put env d ((kfind k ents).getD z)) rows) := _root_.id rfl
theorem evC_mset {ag ks r k v} : evC (.mset ag ks) [.mref r, k, v] rows d env K = msetC rows[r]? r ag ks k v rows d env K := by
  unfold evC msetC; simp only [ev, evMset]; exact _root_.id rfl
theorem msetC_map {ag' ks' ents r ag ks k v} : msetC (some (.obj (.map ag' ks' ents))) r ag ks k v rows d env K = ((ag' = ag ∧ ks' = ks) ∧ keyFits ag ks k ∧ K (put env d (.tup [])) (rows.set r (.obj (.map ag ks (kput k v ents))))) := _root_.id rfl
theorem evC_ment {ag ks z r k} : evC (.ment ag ks z) [.mref r, k] rows d env K = mentC rows[r]? r ag ks z k rows d env K := by
  unfold evC mentC; simp only [ev, evMent]; exact _root_.id rfl
theorem mentC_map {ag' ks' ents r ag ks z k} : mentC (some (.obj (.map ag' ks' ents))) r ag ks z k rows d env K = ((ag' = ag ∧ ks' = ks) ∧ (keyFits ag ks k ∧ entsFit ag ks ents) ∧
      K (put env d (.tup [(kfind k ents).getD z, .int .i64 ((kpos k ents).getD ents.length)])) (rows.set r (.obj (.map ag ks (kput k ((kfind k ents).getD z) ents))))) := _root_.id rfl
theorem evC_estore {r kk n v} : evC .estore [.mref r, .int kk n, v] rows d env K = estoreC rows[r]? r n v rows d env K := by
  unfold evC estoreC; simp only [ev, evEstore]; exact _root_.id rfl
theorem estoreC_map {ag ks ents r n v} : estoreC (some (.obj (.map ag ks ents))) r n v rows d env K = (0 ≤ n ∧ n < ents.length ∧ K (put env d (.tup [])) (rows.set r (.obj (.map ag ks (ents.set n.toNat ((ents.getD n.toNat (.junk, .junk)).1, v)))))) := _root_.id rfl
theorem evC_lenM {r} : evC .lenM [.mref r] rows d env K = lenMC rows[r]? rows d env K := by
  unfold evC lenMC; simp only [ev]; exact _root_.id rfl
theorem lenMC_map {ag ks ents} : lenMC (some (.obj (.map ag ks ents))) rows d env K = K (put env d (.int .i64 ents.length)) rows := _root_.id rfl
theorem evC_iter {m} : evC .iter [.mref m] rows d env K = iterC rows[m]? m rows d env K := by
  unfold evC iterC; simp only [ev, evIter]; exact _root_.id rfl
theorem iterC_map {ag ks ents m} : iterC (some (.obj (.map ag ks ents))) m rows d env K = K (put env d (.itref rows.length m)) (rows ++ [.obj (.iter ents.length [])]) := _root_.id rfl
theorem evC_entry {r m} : evC .entry [.itref r m] rows d env K = entryC rows[r]? rows[m]? rows d env K := by
  unfold evC entryC; simp only [ev, evEntry]; exact _root_.id rfl
theorem entryC_map {ag ks ents n seen} : entryC (some (.obj (.iter n seen))) (some (.obj (.map ag ks ents))) rows d env K = (n = ents.length ∧ 0 < seen.length ∧ seen.getLastD 0 < n ∧
      K (put env d (.tup [(ents.getD (seen.getLastD 0) (.junk, .junk)).1, (ents.getD (seen.getLastD 0) (.junk, .junk)).2])) rows) := _root_.id rfl
theorem keyFits_eq {ag : Bool} {ks : List CK} {k : AVal} : keyFits ag ks k = (isAg k = ag ∧ fits ks (acells k)) := _root_.id rfl
theorem isAg_int {k : IntKind} {n : Int} : isAg (.int k n) = false := _root_.id rfl
theorem isAg_str {s : ByteArray} : isAg (.str s) = false := _root_.id rfl
theorem isAg_bool {b : Bool} : isAg (.bool b) = false := _root_.id rfl
theorem isAg_agg {cs : List AVal} : isAg (.agg cs) = true := _root_.id rfl
theorem load1C_live {e sz vals n i off} : load1C (some (.live e sz vals)) n i off rows d env K = (n = vals.length ∧ off < sz ∧ K (put env d ((vals.getD i []).getD off .junk)) rows) := _root_.id rfl
theorem loadAC_live {e sz vals m n i off} : loadAC (some (.live e sz vals)) m n i off rows d env K = (n = vals.length ∧ off + m ≤ sz ∧ K (put env d (.agg (((vals.getD i []).drop off).take m))) rows) := _root_.id rfl
theorem storeC_live {e sz vals m r n i off cells} : storeC (some (.live e sz vals)) m r n i off cells rows d env K =
    (n = vals.length ∧ off + m ≤ sz ∧ cells.length = m ∧ cells.all one = true ∧ K (put env d (.tup [])) (rows.set r (.live e sz (vals.set i (splice (vals.getD i []) off cells))))) := _root_.id rfl
theorem indexC_live {e sz' vals sz r n off len i} : indexC (some (.live e sz' vals)) sz r n off len i rows d env K = (sz' = sz ∧ n = vals.length ∧ 0 ≤ i ∧ i < len ∧ K (put env d (.ref r n (off + i.toNat) 0)) rows) := _root_.id rfl
theorem sliceC_live {e sz' vals sz r n off len a b} : sliceC (some (.live e sz' vals)) sz r n off len a b rows d env K = (0 ≤ a ∧ a ≤ b ∧ b ≤ len ∧ sz' = sz ∧ n = vals.length ∧ K (put env d (.own r n (off + a.toNat) (b.toNat - a.toNat))) rows) := _root_.id rfl
theorem appC_live {ys e' sz' vals e sz b r n off len} : appC (some (.live e' sz' vals)) (some ys) e sz b r n off len rows d env K = (e' = e ∧ sz' = sz ∧ n = vals.length ∧ off = 0 ∧ len = n ∧ (n + ys.length) * b ≤ 140737488355328 ∧
      K (put env d (.own r (n + ys.length) 0 (n + ys.length))) (rows.set r (.live e sz (vals ++ ys)))) := _root_.id rfl
theorem appNilC_some {ys e sz b} : appNilC (some ys) e sz b rows d env K = (ys.length * b ≤ 140737488355328 ∧ K (put env d (.own rows.length ys.length 0 ys.length)) (rows ++ [.live e sz ys])) := _root_.id rfl
theorem buildC_some {cs vs} : buildC (some cs) vs rows d env K = ((vs.all fun v => (acells v).all one) = true ∧ K (put env d (.agg cs)) rows) := _root_.id rfl
theorem bsliceC_some {es e sz len vs} : bsliceC (some es) e sz len vs rows d env K = ((vs.all fun v => (acells v).all one) = true ∧ K (put env d (.own rows.length len 0 len)) (rows ++ [.live e sz es])) := _root_.id rfl
end

theorem elems_pure {rows : List Row} {sz sz' : Nat} {vals : List (List AVal)} : elems? rows sz (.pure sz' vals) = if sz' = sz then some vals else none := _root_.id rfl
theorem elems_nils {rows : List Row} {sz : Nat} : elems? rows sz .nils = some [] := _root_.id rfl
theorem elems_own {rows : List Row} {sz r n off len : Nat} : elems? rows sz (.own r n off len) = elemsC rows[r]? sz n off len := by
  unfold elemsC; simp only [elems?]; exact _root_.id rfl
theorem elemsC_live {e : TypeId} {sz' sz n off len : Nat} {vals : List (List AVal)} : elemsC (some (.live e sz' vals)) sz n off len = if sz' = sz ∧ n = vals.length ∧ off + len ≤ n then some ((vals.drop off).take len) else none := _root_.id rfl
theorem fillC_nil {cells : List AVal} : fillC cells [] [] = some cells := _root_.id rfl
theorem fillC_cons {cells : List AVal} {off sz : Nat} {ps : List (Nat × Nat)} {v : AVal} {vs : List AVal} : fillC cells ((off, sz) :: ps) (v :: vs) = if (acells v).length = sz ∧ off + sz ≤ cells.length then fillC (splice cells off (acells v)) ps vs else none := _root_.id rfl
theorem fillE_nil {es : List (List AVal)} {sz : Nat} : fillE es sz [] [] = some es := _root_.id rfl
theorem fillE_cons {es : List (List AVal)} {sz i : Nat} {is : List Nat} {v : AVal} {vs : List AVal} : fillE es sz (i :: is) (v :: vs) = if (acells v).length = sz ∧ i < es.length then fillE (es.set i (acells v)) sz is vs else none := _root_.id rfl
theorem acells_agg {cs : List AVal} : acells (.agg cs) = cs := _root_.id rfl
theorem acells_int {k : IntKind} {n : Int} : acells (.int k n) = [.int k n] := _root_.id rfl
theorem acells_bool {b : Bool} : acells (.bool b) = [.bool b] := _root_.id rfl
theorem acells_str {s : ByteArray} : acells (.str s) = [.str s] := _root_.id rfl
theorem acells_nils : acells .nils = [.nils] := _root_.id rfl
theorem acells_pure {sz : Nat} {vals : List (List AVal)} : acells (.pure sz vals) = [.pure sz vals] := _root_.id rfl
theorem acells_own {r n o l : Nat} : acells (.own r n o l) = [.own r n o l] := _root_.id rfl
theorem acells_ref {r n o l : Nat} : acells (.ref r n o l) = [.ref r n o l] := _root_.id rfl
theorem acells_mref {r : Nat} : acells (.mref r) = [.mref r] := _root_.id rfl
theorem acells_nilm : acells .nilm = [.nilm] := _root_.id rfl
theorem acells_nilp : acells .nilp = [.nilp] := _root_.id rfl
theorem acells_fn {f : FuncId} {cs : List AVal} : acells (.fn f cs) = [.fn f cs] := _root_.id rfl
theorem one_mref {r : Nat} : one (.mref r) = true := _root_.id rfl
theorem one_nilm : one .nilm = true := _root_.id rfl
theorem one_nilp : one .nilp = true := _root_.id rfl
theorem one_fn {f : FuncId} {cs : List AVal} : one (.fn f cs) = true := _root_.id rfl
theorem one_int {k : IntKind} {n : Int} : one (.int k n) = true := _root_.id rfl
theorem one_bool {b : Bool} : one (.bool b) = true := _root_.id rfl
theorem one_str {s : ByteArray} : one (.str s) = true := _root_.id rfl
theorem one_nils : one .nils = true := _root_.id rfl
theorem one_pure {sz : Nat} {vals : List (List AVal)} : one (.pure sz vals) = true := _root_.id rfl
theorem one_own {r n o l : Nat} : one (.own r n o l) = true := _root_.id rfl
theorem one_ref {r n o l : Nat} : one (.ref r n o l) = true := _root_.id rfl

theorem slot_nil {t : Nat} : slot [] t = .junk := _root_.id rfl
theorem slot_cons {s t : Nat} {v : AVal} {r : Env} : slot ((s, v) :: r) t = if s = t then v else slot r t := _root_.id rfl
theorem put_some {env : Env} {d : Nat} {v : AVal} : put env (some d) v = (d, v) :: env := _root_.id rfl
theorem put_none {env : Env} {v : AVal} : put env none v = env := _root_.id rfl
theorem norm_nil {env : Env} : norm [] env = [] := _root_.id rfl
theorem norm_cons {s : Nat} {ss : List Nat} {env : Env} : norm (s :: ss) env = (s, slot env s) :: norm ss env := _root_.id rfl
theorem opd_t {env : Env} {s : Nat} : Opd.ev env (.t s) = slot env s := _root_.id rfl
theorem opd_c {env : Env} {v : AVal} : Opd.ev env (.c v) = v := _root_.id rfl
theorem splice_eq {l : List AVal} {off : Nat} {cs : List AVal} : splice l off cs = l.take off ++ cs ++ l.drop (off + cs.length) := _root_.id rfl
theorem eqCells_int {k k' : IntKind} {a b : Int} {cs ds : List AVal} : eqCells (.int k a :: cs) (.int k' b :: ds) = (a == b && eqCells cs ds) := _root_.id rfl
theorem eqCells_bool {a b : Bool} {cs ds : List AVal} : eqCells (.bool a :: cs) (.bool b :: ds) = (a == b && eqCells cs ds) := _root_.id rfl
theorem eqCells_str {a b : ByteArray} {cs ds : List AVal} : eqCells (.str a :: cs) (.str b :: ds) = (a.toList == b.toList && eqCells cs ds) := _root_.id rfl
theorem eqCells_nil : eqCells [] [] = true := _root_.id rfl
theorem fits_int {k k' : IntKind} {n : Int} {ks : List CK} {cs : List AVal} : fits (.int k :: ks) (.int k' n :: cs) = (k = k' ∧ fits ks cs) := _root_.id rfl
theorem fits_bool {b : Bool} {ks : List CK} {cs : List AVal} : fits (.bool :: ks) (.bool b :: cs) = fits ks cs := _root_.id rfl
theorem fits_str {s : ByteArray} {ks : List CK} {cs : List AVal} : fits (.str :: ks) (.str s :: cs) = fits ks cs := _root_.id rfl
theorem fits_nil : fits [] [] = True := _root_.id rfl
theorem argEnv_nil {k : Nat} : argEnv [] k = [] := _root_.id rfl
theorem argEnv_cons {a : AVal} {as : List AVal} {k : Nat} : argEnv (a :: as) k = (k, a) :: argEnv as (k + 1) := _root_.id rfl

/-- the end of a function: its results, one by one -/
def finK (Q : AVal → List Row → Prop) (env : Env) (rows : List Row) : Prop := Q (slot env 0) rows
def retK (n0 : Nat) (Q : AVal → List Row → Prop) (acc : List AVal) (rs : List ARes) (env : Env) (rows : List Row) : Prop :=
  resK rows env rs fun vs => Cl n0 (finK Q) [(0, oneOrTup (acc ++ vs))] rows
def noX (_ : Nat) (_ : Env) (_ : List Row) : Prop := False

def ret1C (r : Option Row) (n i off : Nat) (n0 : Nat) (Q : AVal → List Row → Prop) (acc : List AVal) (rs : List ARes) (env : Env) (rows : List Row) : Prop :=
  match r with
  | some (.live _ sz vals) => n = vals.length ∧ off < sz ∧ retK n0 Q (acc ++ [(vals.getD i []).getD off .junk]) rs env rows
  | _ => False
def retAC (r : Option Row) (m n i off : Nat) (n0 : Nat) (Q : AVal → List Row → Prop) (acc : List AVal) (rs : List ARes) (env : Env) (rows : List Row) : Prop :=
  match r with
  | some (.live _ sz vals) => n = vals.length ∧ off + m ≤ sz ∧ retK n0 Q (acc ++ [.agg (((vals.getD i []).drop off).take m)]) rs env rows
  | _ => False
def cellA (v : AVal) (m : Nat) (n0 : Nat) (Q : AVal → List Row → Prop) (acc : List AVal) (rs : List ARes) (env : Env) (rows : List Row) : Prop :=
  evLoadA rows m v fun v => retK n0 Q (acc ++ [v]) rs env rows
def cell1 (v : AVal) (n0 : Nat) (Q : AVal → List Row → Prop) (acc : List AVal) (rs : List ARes) (env : Env) (rows : List Row) : Prop :=
  evLoad1 rows v fun v => retK n0 Q (acc ++ [v]) rs env rows

section
variable {n0 : Nat} {Q : AVal → List Row → Prop} {acc : List AVal} {rs : List ARes} {env : Env} {rows : List Row}
theorem retK_nil : retK n0 Q acc [] env rows = Cl n0 (finK Q) [(0, oneOrTup acc)] rows := by simp [retK, resK]
theorem retK_tmp {t : Nat} : retK n0 Q acc (.tmp t :: rs) env rows = retK n0 Q (acc ++ [slot env t]) rs env rows := by simp [retK, resK]
theorem retK_cellA {t m : Nat} : retK n0 Q acc (.cellA t m :: rs) env rows = cellA (slot env t) m n0 Q acc rs env rows := by simp [retK, resK, cellA]
theorem retK_cell1 {t : Nat} : retK n0 Q acc (.cell1 t :: rs) env rows = cell1 (slot env t) n0 Q acc rs env rows := by simp [retK, resK, cell1]
theorem cellA_ref {m r n i off : Nat} : cellA (.ref r n i off) m n0 Q acc rs env rows = retAC rows[r]? m n i off n0 Q acc rs env rows := by unfold cellA retAC; simp only [evLoadA]; exact _root_.id rfl
theorem cell1_ref {r n i off : Nat} : cell1 (.ref r n i off) n0 Q acc rs env rows = ret1C rows[r]? n i off n0 Q acc rs env rows := by unfold cell1 ret1C; simp only [evLoad1]; exact _root_.id rfl
theorem retAC_live {e sz vals m n i off} : retAC (some (.live e sz vals)) m n i off n0 Q acc rs env rows = (n = vals.length ∧ off + m ≤ sz ∧ retK n0 Q (acc ++ [.agg (((vals.getD i []).drop off).take m)]) rs env rows) := _root_.id rfl
theorem ret1C_live {e sz vals n i off} : ret1C (some (.live e sz vals)) n i off n0 Q acc rs env rows = (n = vals.length ∧ off < sz ∧ retK n0 Q (acc ++ [(vals.getD i []).getD off .junk]) rs env rows) := _root_.id rfl
theorem oneOrTup_one {v : AVal} : oneOrTup [v] = v := _root_.id rfl
theorem oneOrTup_nil : oneOrTup [] = .tup [] := _root_.id rfl
theorem oneOrTup_two {v w : AVal} {vs : List AVal} : oneOrTup (v :: w :: vs) = .tup (v :: w :: vs) := _root_.id rfl
end

/-- the condition on a function -/
theorem fnVC_of {P : Program} {af : AFunc} {args : List AVal} {rows : List Row} {Q : AVal → List Row → Prop}
    (h : avc P rows.length af.body ⟨retK rows.length Q [] af.results, noX, retK rows.length Q [] af.results⟩ (argEnv args 0) rows) : fnVC P af args rows Q := h

theorem afn {P : Program} {f : FuncId} {fn : Func} {live : Nat → Info} {af : AFunc} (hf : P.funcs[f]? = some fn) (hc : compileF P live fn = some af) {args : List AVal} {rows : List Row} {Q : AVal → List Row → Prop}
    (hn : args.length ≤ af.ntmps) (h : avc P rows.length af.body ⟨retK rows.length Q [] af.results, noX, retK rows.length Q [] af.results⟩ (argEnv args 0) rows) : AFn P f args rows Q :=
  afn_of_vc hf hc hn (fnVC_of h)

/-- tests for 'once' and 'keeps' -/
def onceB : List (Option Nat) → Bool
  | [] => true
  | none :: ss => onceB ss
  | some r :: ss => !ss.contains (some r) && onceB ss

theorem onceB_spec : ∀ {sel : List (Option Nat)}, onceB sel = true → once sel
  | [], _ => by intro i j r h; simp at h
  | none :: ss, h => by
    intro i j r h1 h2
    have ih := onceB_spec (sel := ss) h
    cases i with
    | zero => simp at h1
    | succ i =>
      cases j with
      | zero => simp at h2
      | succ j => rw [ih i j r (by simpa using h1) (by simpa using h2)]
  | some s :: ss, h => by
    simp only [onceB, Bool.and_eq_true, Bool.not_eq_true', List.contains_eq_mem, decide_eq_false_iff_not] at h
    have ih := onceB_spec (sel := ss) h.2
    intro i j r h1 h2
    cases i with
    | zero =>
      simp at h1
      subst h1
      cases j with
      | zero => rfl
      | succ j => exact (h.1 (List.mem_of_getElem? (by simpa using h2))).elim
    | succ i =>
      cases j with
      | zero =>
        simp at h2
        subst h2
        exact (h.1 (List.mem_of_getElem? (by simpa using h1))).elim
      | succ j => rw [ih i j r (by simpa using h1) (by simpa using h2)]

def keepsB : Nat → Nat → List (Option Nat) → Bool
  | 0, _, _ => true
  | _ + 1, _, [] => false
  | n + 1, k, s :: ss => (s == some k || s == none) && keepsB n (k + 1) ss

theorem keepsB_spec : ∀ {n k : Nat} {sel : List (Option Nat)}, keepsB n k sel = true → n ≤ sel.length ∧ ∀ i, i < n → sel[i]? = some (some (k + i)) ∨ sel[i]? = some none
  | 0, k, sel, _ => ⟨by simp, fun i hi => by omega⟩
  | n + 1, k, [], h => by simp [keepsB] at h
  | n + 1, k, s :: ss, h => by
    simp only [keepsB, Bool.and_eq_true, Bool.or_eq_true, beq_iff_eq] at h
    obtain ⟨h1, h2⟩ := keepsB_spec h.2
    refine ⟨by simp; omega, fun i hi => ?_⟩
    cases i with
    | zero => simpa using h.1
    | succ i =>
      have := h2 i (by omega)
      rw [show k + (i + 1) = k + 1 + i from by omega]
      simpa using this

theorem keeps_of {n0 : Nat} {sel : List (Option Nat)} (h : keepsB n0 0 sel = true) : keeps n0 sel := by
  obtain ⟨h1, h2⟩ := keepsB_spec h
  exact ⟨h1, fun i hi => by simpa using h2 i hi⟩

/-- rows under new names, or gone, or unchangeable from now on -/
theorem Cl.tr {n0 : Nat} {K : Env → List Row → Prop} {env : Env} {rows srows : List Row} (sel : List (Option Nat)) (vw : List Nat) (h1 : onceB sel = true) (h2 : keepsB n0 0 sel = true) (hg : getRows rows vw sel sel = some srows)
    (h : Cl n0 K (env.map fun p => (p.1, bindV rows sel vw p.2)) srows) : Cl n0 K env rows := Cl.step (.tr sel vw (onceB_spec h1) (keeps_of h2) hg) h

theorem Cl.ghost {n0 : Nat} {K : Env → List Row → Prop} {env : Env} {rows : List Row} (s : Nat) (e : TypeId) (sz : Nat) (h : slot env s = .nils)
    (k : Cl n0 K ((s, .own rows.length 0 0 0) :: env) (rows ++ [.live e sz []])) : Cl n0 K env rows := Cl.step (.ghost s e sz h) k

theorem Cl.norm {n0 : Nat} {K : Env → List Row → Prop} {env : Env} {rows : List Row} (live : List Nat) (h : Cl n0 K (norm live env) rows) : Cl n0 K env rows :=
  Cl.step (.env fun t => slot_norm live env t) h

mutual
theorem bindV_clean {rows : List Row} {sel : List (Option Nat)} {vw : List Nat} : ∀ (a : AVal), clean a = true → bindV rows sel vw a = a
  | .own .., h => by simp [clean] at h
  | .ref .., h => by simp [clean] at h
  | .agg cs, h => by rw [clean] at h; rw [bindV, bindL_clean cs h]
  | .tup cs, h => by rw [clean] at h; rw [bindV, bindL_clean cs h]
  | .fn _ cs, h => by rw [clean] at h; rw [bindV, bindL_clean cs h]
  | .nilm, _ => by simp [bindV]
  | .mref _, h => by simp [clean] at h
  | .itref .., h => by simp [clean] at h
  | .int .., _ => by simp [bindV]
  | .bool .., _ => by simp [bindV]
  | .str .., _ => by simp [bindV]
  | .nils, _ => by simp [bindV]
  | .nilp, _ => by simp [bindV]
  | .junk, _ => by simp [bindV]
  | .pure .., _ => by simp [bindV]
  | .pref .., _ => by simp [bindV]
theorem bindL_clean {rows : List Row} {sel : List (Option Nat)} {vw : List Nat} : ∀ (as : List AVal), cleanL as = true → bindL rows sel vw as = as
  | [], _ => by simp [bindL]
  | a :: as, h => by
    simp only [cleanL, Bool.and_eq_true] at h
    rw [bindL, bindV_clean a h.1, bindL_clean as h.2]
end

/-- the end of a function whose rows are all gone -/
theorem Cl.fin {Q : AVal → List Row → Prop} {v : AVal} {rows : List Row} (hv : clean v = true) (h : Q v []) : Cl 0 (finK Q) [(0, v)] rows := by
  refine Cl.tr (srows := []) [] [] (by decide) (by decide) (by exact _root_.id rfl) (Cl.here ?_)
  have hb : ∀ (v : AVal), clean v = true → bindV rows [] [] v = v := fun v hv => bindV_clean v hv
  simp only [finK, List.map_cons, List.map_nil, slot_cons, if_true, hb v hv]
  exact h

/-- a call by its contract: the rows that are handed over, the rows that are lent -/
theorem callC_of {P : Program} {f : FuncId} {args : List AVal} {rows : List Row} {dst : Option Nat} {env : Env} {K : Env → List Row → Prop} (sel vw : List Nat) {srows : List Row} {bargs : List AVal} {Q : AVal → List Row → Prop}
    (hn : sel.Nodup) (hg : getRows rows vw (sel.map some) (sel.map some) = some srows) (hb : bindL rows (sel.map some) vw args = bargs) (hA : AFn P f bargs srows Q)
    (hk : ∀ v rs, Q v rs → (vw = [] ∨ (flat v = true ∧ (rs.all flatRow) = true)) ∧ K (put env dst (renV (back rows.length sel) v)) (mergeR rows sel (rs.map (renRow (back rows.length sel))))) :
    callC P f args rows dst env K :=
  ⟨sel, vw, srows, hn, hg, by rw [hb]; exact hA.mono hk⟩

end Go.Abs
end
