/- Code, functions, contracts of functions. -/
import Derived.Test.YtjacobmkfkmdiaaAbs25
set_option linter.unusedSimpArgs false
set_option linter.unusedVariables false
set_option linter.unusedSectionVars false
namespace Go.Abs

inductive ACode where
  | skip
  | region (ops : List IOp) (live : List Nat)
  | draw (ops : List (Nat × DOp)) (res : List (TypeId × Nat)) (live : List Nat)
  | seq (a b : ACode)
  | cond (c : Opd) (a b : ACode)
  | block (id : Nat) (c : ACode)
  | loop (c : ACode)
  | exit (id : Nat)
  | ret
  deriving Inhabited

structure Post where
  n : Env → List Row → Prop
  x : Nat → Env → List Row → Prop
  r : Env → List Row → Prop

/-- what is kept of the slots -/
def norm (live : List Nat) (env : Env) : Env := live.map fun s => (s, slot env s)

def condK (v : AVal) (A B : Prop) : Prop :=
  match v with
  | .bool b => (b = true → A) ∧ (b = false → B)
  | _ => False

def avc (P : Program) (n0 : Nat) : ACode → Post → Env → List Row → Prop
  | .skip, K, env, rows => K.n env rows
  | .region ops live, K, env, rows => listK P ops (fun env rows => K.n (norm live env) rows) env rows
  | .draw ops res live, K, env, rows => drawK P rows.length ops live K.n [] env (rows ++ reserved res)
  | .seq a b, K, env, rows => avc P n0 a ⟨avc P n0 b K, K.x, K.r⟩ env rows
  | .cond c a b, K, env, rows => condK (c.ev env) (avc P n0 a K env rows) (avc P n0 b K env rows)
  | .block id c, K, env, rows => avc P n0 c ⟨K.n, fun j => if j = id then K.n else K.x j, K.r⟩ env rows
  | .loop c, K, env, rows => ∃ (I : Env → List Row → Prop) (μ : Env → List Row → Nat), Cl n0 I env rows ∧
      ∀ env rows, I env rows → avc P n0 c ⟨Cl n0 fun env' rows' => I env' rows' ∧ μ env' rows' < μ env rows, K.x, K.r⟩ env rows
  | .exit id, K, env, rows => K.x id env rows
  | .ret, K, env, rows => K.r env rows

def compileIs (P : Program) (n : Nat) (ops : Array Oper) : List Oper → Option (List IOp)
  | [] => some []
  | o :: os =>
    match compileI P n ops o, compileIs P n ops os with
    | some x, some xs => some (x :: xs)
    | _, _ => none

theorem compileIs_spec {P : Program} {n : Nat} {ops : Array Oper} : ∀ {os : List Oper} {ios : List IOp}, compileIs P n ops os = some ios → ios.length = os.length ∧ ∀ (k : Nat) (o : Oper), os[k]? = some o → ∃ io, ios[k]? = some io ∧ Fits P n ops o io
  | [], ios, h => by simp [compileIs] at h; subst h; simp
  | o :: os, ios, h => by
    simp only [compileIs] at h
    split at h
    · rename_i x xs hx hxs
      simp at h; subst h
      obtain ⟨h1, h2⟩ := compileIs_spec hxs
      refine ⟨by simp [h1], fun k o' hk => ?_⟩
      cases k with
      | zero => simp at hk; subst hk; exact ⟨x, rfl, compileI_fits hx⟩
      | succ k => simpa using h2 k o' (by simpa using hk)
    · cases h

/-- a region that draws -/
def compileD (P : Program) (f : Info) (ops : Array Oper) (ios : List IOp) : Option ACode :=
  if P.follows .mixedOrders && ancB ops f.anc 0 ops.toList && pairB (mkD f.anc ops.size 0 0 ios) f.anc ops.size && canon ops (mkD f.anc ops.size 0 0 ios) (Array.replicate ops.size false) f.order && decide (f.order.length ≤ ops.size) then
    some (.draw (f.order.map fun i => (i, (mkD f.anc ops.size 0 0 ios).getD i default)) (ios.filterMap fun io => resT io.op) f.live)
  else none

/-- the code of a function; 'live': which slots are kept behind each region, and how it is drawn -/
def compileC (P : Program) (n : Nat) (live : Nat → Info) : Code → Option ACode
  | .skip => some .skip
  | .region id ops false =>
    match compileIs P n ops ops.toList with
    | some ios => some (.region ios (live id).live)
    | none => none
  | .region id ops true =>
    match compileIs P n ops ops.toList with
    | some ios => compileD P (live id) ops ios
    | none => none
  | .seq a b =>
    match compileC P n live a, compileC P n live b with
    | some x, some y => some (.seq x y)
    | _, _ => none
  | .cond c a b =>
    match compileOpd c, compileC P n live a, compileC P n live b with
    | some o, some x, some y => some (.cond o x y)
    | _, _, _ => none
  | .block id c =>
    match compileC P n live c with
    | some x => some (.block id x)
    | none => none
  | .loop c =>
    match compileC P n live c with
    | some x => some (.loop x)
    | none => none
  | .exit id => some (.exit id)
  | .ret => some .ret
  | _ => none

section
variable {P : Program} {n n0 : Nat} {C0 : Ctx} {live : Nat → Info}

/-- the model's form of a postcondition -/
def PostOf (n n0 : Nat) (C0 : Ctx) (K : Post) : Exit → Act → World → Prop
  | .normal, a, w => Holds n n0 C0 K.n a w
  | .exit id, a, w => Holds n n0 C0 (K.x id) a w
  | .ret, a, w => Holds n n0 C0 K.r a w
  | _, _, _ => False

theorem slot_norm (live : List Nat) (env : Env) (t : Nat) : slot (norm live env) t = slot env t ∨ slot (norm live env) t = .junk := by
  unfold norm
  induction live with
  | nil => right; rfl
  | cons s ss ih =>
    simp only [List.map_cons, slot]
    split
    · rename_i h; subst h; exact .inl rfl
    · exact ih

theorem holds_norm {K : Env → List Row → Prop} {l : List Nat} {a : Act} {w : World} (h : Holds n n0 C0 (fun env rows => K (norm l env) rows) a w) : Holds n n0 C0 K a w := by
  obtain ⟨env, C, rfl, hs, hl, hk⟩ := h
  refine ⟨norm l env, C, rfl, ⟨hs.ok, hs.size, hs.defers, fun t => ?_⟩, hl, hk⟩
  rcases slot_norm l env t with h | h
  · rw [h]; exact hs.slots t
  · rw [h]; simp [Rep]

theorem holds_cl {K : Env → List Row → Prop} {a : Act} {w : World} (h : Holds n n0 C0 (Cl n0 K) a w) : Holds n n0 C0 K a w := by
  obtain ⟨env, C, rfl, hs, hl, env', rows', hw, hk⟩ := h
  obtain ⟨C', h1, h2, h3, h4⟩ := wk_sound hw C rfl hs hl
  exact ⟨env', C', h1, h3, h4, by rw [h2]; exact hk⟩

theorem avc_sound : ∀ (c : Code) (ac : ACode), compileC P n live c = some ac → ∀ (K : Post) (a : Act) (w : World), Holds n n0 C0 (avc P n0 ac K) a w → c.wp P (PostOf n n0 C0 K) a w
  | .skip, ac, hc, K, a, w, h => by
    simp [compileC] at hc; subst hc
    exact wp_skip h
  | .region id ops false, ac, hc, K, a, w, h => by
    simp only [compileC] at hc
    split at hc
    · rename_i ios hios
      simp at hc; subst hc
      obtain ⟨h1, h2⟩ := compileIs_spec hios
      refine wp_region (list_sound (K := fun env rows => K.n (norm (live id).live env) rows) (fun a w h => holds_norm h) _ ios (by simp [h1]) (fun k hk => ?_) a w h)
      simp at hk
      obtain ⟨io, g1, g2⟩ := h2 k ops[k] (by simp [hk])
      exact ⟨ops[k], io, by simp [hk], g1, g2⟩
    · cases hc
  | .region id ops true, ac, hc, K, a, w, h => by
    simp only [compileC] at hc
    split at hc
    · rename_i ios hios
      unfold compileD at hc
      split at hc
      · rename_i hch
        simp at hc; subst hc
        simp only [Bool.and_eq_true, decide_eq_true_eq] at hch
        obtain ⟨⟨⟨⟨c1, c2⟩, c3⟩, c4⟩, c5⟩ := hch
        obtain ⟨h1, h2⟩ := compileIs_spec hios
        obtain ⟨env, C, rfl, hs, hl, hk⟩ := h
        refine draw_sound (n := n) (n0 := n0) (C0 := C0) (anc := (live id).anc) (order := (live id).order) (ds := mkD (live id).anc ops.size 0 0 ios) (res := ios.filterMap fun io => resT io.op)
          (K := fun ρ rows => K.n ((live id).live.map fun s => (s, ρ s)) rows) c1 (fun i o ho => ?_) (fun j o ho i hi => ?_) (pairB_spec c3) c4 c5 (fun a w hh => ?_) ⟨slot env, C, rfl, ⟨hs.ok, hs.size, hs.defers, hs.slots⟩, hl, ?_⟩
        · obtain ⟨io, g1, g2⟩ := h2 i o (by simpa using ho)
          rw [mkD_io ios 0 0 i io g1]
          exact g2
        · have := ancB_spec ops.toList 0 c2 j o (by simpa using ho) i (by simpa using hi)
          exact this
        · obtain ⟨ρ, C', g1, g2, g3, g4⟩ := hh
          refine ⟨_, C', g1, ⟨g2.ok, g2.size, g2.defers, fun t => ?_⟩, g3, g4⟩
          have hsl : ∀ l : List Nat, slot (l.map fun s => (s, ρ s)) t = ρ t ∨ slot (l.map fun s => (s, ρ s)) t = .junk := by
            intro l
            induction l with
            | nil => right; rfl
            | cons s ss ih =>
              simp only [List.map_cons, slot]
              split
              · rename_i he; subst he; exact .inl rfl
              · exact ih
          rcases hsl (live id).live with h | h
          · rw [h]; exact g2.slots t
          · rw [h]; simp [Rep]
        · exact drawK_F _ [] env _ hk
      · cases hc
    · cases hc
  | .seq x y, ac, hc, K, a, w, h => by
    simp only [compileC] at hc
    split at hc
    · rename_i ax ay hx hy
      simp at hc; subst hc
      refine wp_seq (wp_mono (avc_sound x ax hx ⟨avc P n0 ay K, K.x, K.r⟩ a w h) ?_)
      intro e a' w' hq
      cases e with
      | normal => exact avc_sound y ay hy K a' w' hq
      | exit id => exact hq
      | ret => exact hq
      | goto l => exact hq
      | panic ch => exact hq
      | outgrown => exact hq
    · cases hc
  | .cond c x y, ac, hc, K, a, w, h => by
    simp only [compileC] at hc
    split at hc
    · rename_i o ax ay ho hx hy
      simp at hc; subst hc
      obtain ⟨env, C, rfl, hs, hl, hk⟩ := h
      have hr := opd_rep hs ho
      simp only [avc, condK] at hk
      split at hk
      · rename_i b hb
        rw [hb, Rep] at hr
        refine wp_cond hr ?_
        cases b with
        | true => exact avc_sound x ax hx K a C.w ⟨env, C, rfl, hs, hl, hk.1 rfl⟩
        | false => exact avc_sound y ay hy K a C.w ⟨env, C, rfl, hs, hl, hk.2 rfl⟩
      · exact hk.elim
    · cases hc
  | .block id x, ac, hc, K, a, w, h => by
    simp only [compileC] at hc
    split at hc
    · rename_i ax hx
      simp at hc; subst hc
      refine wp_block (wp_mono (avc_sound x ax hx _ a w h) ?_)
      intro e a' w' hq
      cases e with
      | normal => exact hq
      | exit j =>
        simp only [Exit.inBlock]
        simp only [PostOf] at hq
        split
        · rename_i hj; rw [if_pos hj] at hq; exact hq
        · rename_i hj; rw [if_neg hj] at hq; exact hq
      | ret => exact hq
      | goto l => exact hq
      | panic ch => exact hq
      | outgrown => exact hq
    · cases hc
  | .loop x, ac, hc, K, a, w, h => by
    simp only [compileC] at hc
    split at hc
    · rename_i ax hx
      simp at hc; subst hc
      obtain ⟨env, C, rfl, hs, hl, I, μ, h0, hround⟩ := h
      obtain ⟨env1, C1, hw1, hs1, hl1, hI1⟩ := holds_cl ⟨env, C, rfl, hs, hl, h0⟩
      rw [← hw1]
      refine wp_loop_ghost (fun m a w => Holds n n0 C0 (fun env rows => I env rows ∧ μ env rows = m) a w) (μ env1 C1.rows) ⟨env1, C1, rfl, hs1, hl1, hI1, rfl⟩ ?_
      rintro m a' w' ⟨env2, C2, rfl, hs2, hl2, hI2, rfl⟩
      refine wp_mono (avc_sound x ax hx _ a' C2.w ⟨env2, C2, rfl, hs2, hl2, hround env2 C2.rows hI2⟩) ?_
      intro e a3 w3 hq
      cases e with
      | normal =>
        obtain ⟨env3, C3, rfl, hs3, hl3, hI3, hlt⟩ := holds_cl hq
        exact ⟨μ env3 C3.rows, hlt, env3, C3, rfl, hs3, hl3, hI3, rfl⟩
      | exit j => exact hq
      | ret => exact hq
      | goto l => exact hq
      | panic ch => exact hq
      | outgrown => exact hq
    · cases hc
  | .exit id, ac, hc, K, a, w, h => by
    simp [compileC] at hc; subst hc
    exact wp_exit h
  | .ret, ac, hc, K, a, w, h => by
    simp [compileC] at hc; subst hc
    exact wp_ret h
  | .rangeFunc .., ac, hc, K, a, w, h => by simp [compileC] at hc
  | .scope .., ac, hc, K, a, w, h => by simp [compileC] at hc
  | .label .., ac, hc, K, a, w, h => by simp [compileC] at hc
  | .goto .., ac, hc, K, a, w, h => by simp [compileC] at hc
  | .refuse .., ac, hc, K, a, w, h => by simp [compileC] at hc

end

/-- where results lie -/
inductive ARes where
  | tmp (t : Nat)
  | cell1 (t : Nat)
  | cellA (t n : Nat)
  deriving Inhabited

def resK (rows : List Row) (env : Env) : List ARes → (List AVal → Prop) → Prop
  | [], K => K []
  | .tmp t :: rs, K => resK rows env rs fun vs => K (slot env t :: vs)
  | .cell1 t :: rs, K => evLoad1 rows (slot env t) fun v => resK rows env rs fun vs => K (v :: vs)
  | .cellA t n :: rs, K => evLoadA rows n (slot env t) fun v => resK rows env rs fun vs => K (v :: vs)

def oneOrTup : List AVal → AVal
  | [v] => v
  | vs => .tup vs

structure AFunc where
  ntmps : Nat
  results : List ARes
  body : ACode
  deriving Inhabited

def compileRes (P : Program) : List ResultVar → Option (List ARes)
  | [] => some []
  | .tmp t :: rs =>
    match compileRes P rs with
    | some xs => some (.tmp t :: xs)
    | none => none
  | .cell a t :: rs =>
    match isAggT P t, sizeT P t, compileRes P rs with
    | some true, some n, some xs => some (.cellA a n :: xs)
    | some false, _, some xs => some (.cell1 a :: xs)
    | _, _, _ => none

def compileF (P : Program) (live : Nat → Info) (fn : Func) : Option AFunc :=
  match fn.body with
  | some c =>
    match compileC P fn.ntmps live c, compileRes P fn.results.toList with
    | some ac, some rs => some ⟨fn.ntmps, rs, ac⟩
    | _, _ => none
  | none => none

/-- the slots at the beginning -/
def argEnv : List AVal → Nat → Env
  | [], _ => []
  | a :: as, k => (k, a) :: argEnv as (k + 1)

/-- what must be shown of a function's code -/
def fnVC (P : Program) (af : AFunc) (args : List AVal) (rows : List Row) (Q : AVal → List Row → Prop) : Prop :=
  let K : Env → List Row → Prop := fun env rs => resK rs env af.results fun vs => Cl rows.length (fun env' rs' => Q (slot env' 0) rs') [(0, oneOrTup vs)] rs
  avc P rows.length af.body ⟨K, fun _ _ _ => False, K⟩ (argEnv args 0) rows

theorem slot_argEnv {C : Ctx} : ∀ (as : List AVal) (vs : List Value) (k t : Nat), RepL C as vs → k ≤ t → Rep C (slot (argEnv as k) t) (vs.getD (t - k) undef)
  | [], vs, k, t, _, _ => by simp [argEnv, slot, Rep]
  | a :: as, vs, k, t, h, hk => by
    rw [RepL] at h
    obtain ⟨v, rest, rfl, h1, h2⟩ := h
    simp only [argEnv, slot]
    split
    · rename_i hkt; subst hkt; simpa using h1
    · rename_i hkt
      have := slot_argEnv as rest (k + 1) t h2 (by omega)
      rw [show t - k = (t - (k + 1)) + 1 from by omega]
      simpa using this

/-- one result -/
def resGet (tmps : Array Value) : ResultVar → Sem Value
  | .tmp t => pure (tmps.getD t undef)
  | .cell a t => do loadVar t (← asAddr (tmps.getD a undef))

theorem results_eq (fn : Func) (tmps : Array Value) : results fn tmps = (do let vs ← fn.results.mapM (resGet tmps); pure (if h : vs.size = 1 then vs[0] else .tuple vs)) := rfl

theorem res_sound {P : Program} {n : Nat} {env : Env} {C : Ctx} {a : Act} (hs : Sim n env C a) : ∀ (rs : List ResultVar) (xs : List ARes) (K : List AVal → Prop), compileRes P rs = some xs → resK C.rows env xs K →
    ∃ vs as, (rs.mapM (m := Sem) (resGet a.tmps)).run P C.w = .ok vs C.w ∧ RepL C as vs ∧ K as
  | [], xs, K, hc, h => by
    simp [compileRes] at hc; subst hc
    exact ⟨[], [], by simp, by simp [RepL], h⟩
  | .tmp t :: rs, xs, K, hc, h => by
    simp only [compileRes] at hc
    split at hc
    · rename_i ys hy
      simp at hc; subst hc
      obtain ⟨vs, as, h1, h2, h3⟩ := res_sound hs rs ys _ hy h
      exact ⟨a.tmps.getD t undef :: vs, slot env t :: as, by simp only [List.mapM_cons, resGet, Sem.run_bind, Sem.run_pure, Result.andThen_ok, h1], by rw [RepL]; exact ⟨_, vs, rfl, hs.slots t, h2⟩, h3⟩
    · cases hc
  | .cell x t :: rs, xs, K, hc, h => by
    have addr : ∀ {y : AVal} {v : Value}, Rep C y v → ((∃ r n i o, y = .ref r n i o) ∨ ∃ c o, y = .pref c o) → ∃ ad, v = .pointer (some ad) := by
      rintro y v hr (⟨r, n, i, o, rfl⟩ | ⟨c, o, rfl⟩)
      · rw [Rep] at hr; exact hr.2.1
      · rw [Rep] at hr; obtain ⟨b, o, e, _⟩ := hr; exact ⟨_, e⟩
    have shape : ∀ {K' : AVal → Prop}, (evLoad1 C.rows (slot env x) K' ∨ ∃ m, evLoadA C.rows m (slot env x) K') → ((∃ r n i o, slot env x = .ref r n i o) ∨ ∃ c o, slot env x = .pref c o) := by
      intro K' hk
      cases hg : slot env x <;> rw [hg] at hk <;> simp [evLoad1, evLoadA] at hk <;> simp
    simp only [compileRes] at hc
    split at hc
    · rename_i m ys hag hsz hy
      simp at hc; subst hc
      simp only [resK] at h
      obtain ⟨ad, had⟩ := addr (hs.slots x) (shape (.inr ⟨_, h⟩))
      obtain ⟨cv, v, r1, r2, r3⟩ := run_loadA (P := P) (K := fun v _ => resK C.rows env ys fun vs => K (v :: vs)) hs.ok (hs.slots x) hag hsz h
      obtain ⟨vs, as, h1, h2, h3⟩ := res_sound hs rs ys _ hy r3
      rw [had] at r1
      simp only [Instr.loadAt, Instr.sureAddr, Sem.run_bind, Sem.run_pure, Result.andThen_ok] at r1
      have hst : (asAddr (a.tmps.getD x undef)).run P C.w = .ok ad C.w := by rw [had]; rfl
      exact ⟨cv :: vs, v :: as, by simp only [List.mapM_cons, resGet, Sem.run_bind, Sem.run_pure, Result.andThen_ok, hst, r1, h1], by rw [RepL]; exact ⟨_, vs, rfl, r2, h2⟩, h3⟩
    · rename_i m ys hag hy
      simp at hc; subst hc
      simp only [resK] at h
      obtain ⟨ad, had⟩ := addr (hs.slots x) (shape (.inl h))
      obtain ⟨cv, v, r1, r2, r3⟩ := run_load1 (P := P) (K := fun v _ => resK C.rows env ys fun vs => K (v :: vs)) hs.ok (hs.slots x) hag h
      obtain ⟨vs, as, h1, h2, h3⟩ := res_sound hs rs ys _ hy r3
      rw [had] at r1
      simp only [Instr.loadAt, Instr.sureAddr, Sem.run_bind, Sem.run_pure, Result.andThen_ok] at r1
      have hst : (asAddr (a.tmps.getD x undef)).run P C.w = .ok ad C.w := by rw [had]; rfl
      exact ⟨cv :: vs, v :: as, by simp only [List.mapM_cons, resGet, Sem.run_bind, Sem.run_pure, Result.andThen_ok, hst, r1, h1], by rw [RepL]; exact ⟨_, vs, rfl, r2, h2⟩, h3⟩
    · cases hc

theorem afn_of_vc {P : Program} {f : FuncId} {fn : Func} {live : Nat → Info} {af : AFunc} (hf : P.funcs[f]? = some fn) (hc : compileF P live fn = some af) {args : List AVal} {rows : List Row} {Q : AVal → List Row → Prop}
    (hn : args.length ≤ af.ntmps) (h : fnVC P af args rows Q) : AFn P f args rows Q := by
  intro C cargs hr hok hrep
  subst hr
  unfold compileF at hc
  split at hc
  · rename_i c hb
    split at hc
    · rename_i ac rs hac hrs
      simp at hc; subst hc
      have hlen := hrep.length
      have hsz : (cargs.toArray ++ Array.replicate (fn.ntmps - cargs.toArray.size) undef).size = fn.ntmps := by
        have hn' : args.length ≤ fn.ntmps := hn
        simp; omega
      refine calls_of_wp hf hb (wp_mono (avc_sound (C0 := C) c ac hac _ _ C.w ⟨_, C, rfl, ⟨hok, hsz, rfl, fun t => ?_⟩, Later.refl C, h⟩) ?_)
      · have := slot_argEnv args cargs 0 t hrep (Nat.zero_le _)
        rw [Nat.sub_zero] at this
        have e : (cargs.toArray ++ Array.replicate (fn.ntmps - cargs.toArray.size) undef).getD t undef = cargs.getD t undef := by
          simp only [Array.getD_eq_getD_getElem?, Array.getElem?_append, List.size_toArray, List.getElem?_toArray, List.getD_eq_getElem?_getD]
          split
          · rfl
          · rename_i hlt
            rw [List.getElem?_eq_none (by omega)]
            simp only [Array.getElem?_replicate]
            split <;> rfl
        rw [e]
        exact this
      · intro e a' w' hq
        have fin : Holds fn.ntmps C.rows.length C (fun env rs' => resK rs' env rs fun vs => Cl C.rows.length (fun env' rs' => Q (slot env' 0) rs') [(0, oneOrTup vs)] rs') a' w' →
            a'.defers = [] ∧ ∃ v, (results fn a'.tmps).run P w' = .ok v w' ∧ ∃ cv v' C', Ending.returned v = .returned cv ∧ C'.w = w' ∧ Rep C' v' cv ∧ Ok C' ∧ Later C.rows.length C C' ∧ Q v' C'.rows := by
          rintro ⟨env, D, rfl, hs, hl, hk⟩
          refine ⟨hs.defers, ?_⟩
          obtain ⟨vs, as, h1, h2, h3⟩ := res_sound hs fn.results.toList rs _ hrs hk
          -- the value that is handed back
          have hval : ∃ cv, (results fn a'.tmps).run P D.w = .ok cv D.w ∧ Rep D (oneOrTup as) cv := by
            have hm : (fn.results.mapM (m := Sem) (resGet a'.tmps)).run P D.w = .ok vs.toArray D.w := by
              rw [Array.mapM_eq_mapM_toList]
              simp only [Sem.run_map, h1, Result.andThen_ok]
            rw [results_eq]
            simp only [Sem.run_bind, hm, Result.andThen_ok, Sem.run_pure]
            refine ⟨_, rfl, ?_⟩
            cases as with
            | nil =>
              have hv0 : vs = [] := by rw [RepL] at h2; exact h2
              subst hv0
              simp only [oneOrTup]
              rw [Rep]
              exact ⟨#[], by simp, by simp [RepL]⟩
            | cons x xs =>
              cases xs with
              | nil =>
                rw [RepL] at h2
                obtain ⟨v, rest, rfl, h4, h5⟩ := h2
                rw [RepL] at h5
                subst h5
                simpa [oneOrTup] using h4
              | cons y ys =>
                have hl2 := h2.length
                simp only [oneOrTup]
                rw [Rep]
                refine ⟨vs.toArray, ?_, by simpa using h2⟩
                rw [dif_neg (by simp at hl2 ⊢; omega)]
          obtain ⟨cv, r1, r2⟩ := hval
          refine ⟨cv, r1, ?_⟩
          -- forget and rename
          obtain ⟨env', rows', hw, hq'⟩ := h3
          have hsim : Sim 1 [(0, oneOrTup as)] D ⟨#[cv], []⟩ := by
            refine ⟨hs.ok, rfl, rfl, fun t => ?_⟩
            simp only [slot]
            split
            · rename_i ht; subst ht; simpa using r2
            · simp [Rep]
          obtain ⟨D', d1, d2, d3, d4⟩ := wk_sound hw D rfl hsim hl
          refine ⟨cv, slot env' 0, D', rfl, d1, ?_, d3.ok, d4, by rw [d2]; exact hq'⟩
          simpa using d3.slots 0
        cases e with
        | normal => exact fin hq
        | ret => exact fin hq
        | exit id => obtain ⟨_, _, _, _, _, hk⟩ := hq; exact hk.elim
        | goto l => exact hq.elim
        | panic ch => exact hq.elim
        | outgrown => exact hq.elim
    · cases hc
  · cases hc

/-- a table of slots -/
def lk (l : List (Nat × Info)) (id : Nat) : Info :=
  match l with
  | [] => default
  | (i, x) :: r => if i = id then x else lk r id

end Go.Abs
