/- Code, with forgetting, renaming and freezing between any two statements. -/
import Derived.Test.YtjacobmkfkmdiaaAbs34
set_option linter.unusedSimpArgs false
set_option linter.unusedVariables false
set_option linter.unusedSectionVars false
namespace Go.Abs

def avcW (P : Program) (n0 : Nat) : ACode → Post → Env → List Row → Prop
  | .seq a b, K, env, rows => avcW P n0 a ⟨Cl n0 (avcW P n0 b K), K.x, K.r⟩ env rows
  | .cond c a b, K, env, rows => condK (c.ev env) (avcW P n0 a K env rows) (avcW P n0 b K env rows)
  | .block id c, K, env, rows => avcW P n0 c ⟨K.n, fun j => if j = id then K.n else K.x j, K.r⟩ env rows
  | .loop c, K, env, rows => ∃ (I : Env → List Row → Prop) (μ : Env → List Row → Nat), Cl n0 I env rows ∧
      ∀ env rows, I env rows → avcW P n0 c ⟨Cl n0 fun env' rows' => I env' rows' ∧ μ env' rows' < μ env rows, K.x, K.r⟩ env rows
  | .skip, K, env, rows => K.n env rows
  | .region ops live, K, env, rows => avc P n0 (.region ops live) K env rows
  | .draw ops res live, K, env, rows => avc P n0 (.draw ops res live) K env rows
  | .exit id, K, env, rows => K.x id env rows
  | .ret, K, env, rows => K.r env rows

theorem avcW_mono {P : Program} {n0 : Nat} : ∀ (c : ACode) {K K' : Post} {env : Env} {rows : List Row}, (∀ e r, K.n e r → K'.n e r) → (∀ j e r, K.x j e r → K'.x j e r) → (∀ e r, K.r e r → K'.r e r) → avcW P n0 c K env rows → avcW P n0 c K' env rows
  | .skip, _, _, _, _, h1, _, _, h => h1 _ _ h
  | .region _ _, _, _, _, _, h1, _, _, h => listK_mono (fun _ _ => h1 _ _) h
  | .draw _ _ _, _, _, _, _, h1, _, _, h => drawK_mono h1 h
  | .seq a b, K, K', _, _, h1, h2, h3, h => by
    rw [avcW] at h ⊢
    exact avcW_mono a (K := ⟨Cl n0 (avcW P n0 b K), K.x, K.r⟩) (K' := ⟨Cl n0 (avcW P n0 b K'), K'.x, K'.r⟩) (fun _ _ => Cl.mono fun _ _ => avcW_mono b h1 h2 h3) h2 h3 h
  | .cond c a b, K, K', env, rows, h1, h2, h3, h => by
    rw [avcW] at h ⊢
    unfold condK at h ⊢
    split
    · rename_i b' hb
      rw [hb] at h
      exact ⟨fun e => avcW_mono a h1 h2 h3 (h.1 e), fun e => avcW_mono b h1 h2 h3 (h.2 e)⟩
    · rename_i hne
      split at h
      · rename_i b' hb; exact (hne b' hb).elim
      · exact h
  | .block id c, K, K', env, rows, h1, h2, h3, h => by
    rw [avcW] at h ⊢
    refine avcW_mono c (K := ⟨K.n, fun j => if j = id then K.n else K.x j, K.r⟩) (K' := ⟨K'.n, fun j => if j = id then K'.n else K'.x j, K'.r⟩) h1 (fun j e r hx => ?_) h3 h
    by_cases hj : j = id
    · simp only [hj, if_true] at hx ⊢; exact h1 _ _ hx
    · simp only [hj, if_false] at hx ⊢; exact h2 _ _ _ hx
  | .loop c, K, K', env, rows, h1, h2, h3, h => by
    rw [avcW] at h ⊢
    obtain ⟨I, μ, g1, g2⟩ := h
    exact ⟨I, μ, g1, fun e r hi => avcW_mono c (K := ⟨Cl n0 fun env' rows' => I env' rows' ∧ μ env' rows' < μ e r, K.x, K.r⟩) (fun _ _ hx => hx) h2 h3 (g2 e r hi)⟩
  | .exit id, _, _, _, _, _, h2, _, h => by rw [avcW] at h ⊢; exact h2 _ _ _ h
  | .ret, _, _, _, _, _, _, h3, h => by rw [avcW] at h ⊢; exact h3 _ _ h

/-- the strict condition is enough -/
theorem avcW_of {P : Program} {n0 : Nat} : ∀ (c : ACode) {K : Post} {env : Env} {rows : List Row}, avc P n0 c K env rows → avcW P n0 c K env rows
  | .skip, _, _, _, h => h
  | .region _ _, _, _, _, h => h
  | .draw _ _ _, _, _, _, h => h
  | .seq a b, K, _, _, h => by
    rw [avc] at h
    rw [avcW]
    exact avcW_of a (avc_mono a (K := ⟨avc P n0 b K, K.x, K.r⟩) (K' := ⟨Cl n0 (avcW P n0 b K), K.x, K.r⟩) (fun _ _ hx => Cl.here (avcW_of b hx)) (fun _ _ _ hx => hx) (fun _ _ hx => hx) h)
  | .cond c a b, K, env, rows, h => by
    rw [avc] at h
    rw [avcW]
    unfold condK at h ⊢
    split
    · rename_i b' hb
      rw [hb] at h
      exact ⟨fun e => avcW_of a (h.1 e), fun e => avcW_of b (h.2 e)⟩
    · rename_i hne
      split at h
      · rename_i b' hb; exact (hne b' hb).elim
      · exact h
  | .block id c, _, _, _, h => by
    rw [avc] at h
    rw [avcW]
    exact avcW_of c h
  | .loop c, K, env, rows, h => by
    rw [avc] at h
    rw [avcW]
    obtain ⟨I, μ, g1, g2⟩ := h
    exact ⟨I, μ, g1, fun e r hi => avcW_of c (g2 e r hi)⟩
  | .exit id, _, _, _, h => by rw [avc] at h; rw [avcW]; exact h
  | .ret, _, _, _, h => by rw [avc] at h; rw [avcW]; exact h

section
variable {P : Program} {n n0 : Nat} {C0 : Ctx} {live : Nat → Info}
theorem avcW_sound : ∀ (c : Code) (ac : ACode), compileC P n live c = some ac → ∀ (K : Post) (a : Act) (w : World), Holds n n0 C0 (avcW P n0 ac K) a w → c.wp P (PostOf n n0 C0 K) a w
  | .skip, ac, hc, K, a, w, h => avc_sound .skip ac hc K a w (by simp [compileC] at hc; subst hc; exact h)
  | .region id ops false, ac, hc, K, a, w, h => by
    have hc' := hc
    simp only [compileC] at hc'
    split at hc'
    · simp at hc'; subst hc'; exact avc_sound _ _ hc K a w h
    · cases hc'
  | .region id ops true, ac, hc, K, a, w, h => by
    have hc' := hc
    simp only [compileC] at hc'
    split at hc'
    · unfold compileD at hc'
      split at hc'
      · simp at hc'; subst hc'; exact avc_sound _ _ hc K a w h
      · cases hc'
    · cases hc'
  | .seq x y, ac, hc, K, a, w, h => by
    simp only [compileC] at hc
    split at hc
    · rename_i ax ay hx hy
      simp at hc; subst hc
      refine wp_seq (wp_mono (avcW_sound x ax hx ⟨Cl n0 (avcW P n0 ay K), K.x, K.r⟩ a w h) ?_)
      intro e a' w' hq
      cases e with
      | normal => exact avcW_sound y ay hy K a' w' (holds_cl hq)
      | exit id => exact hq
      | ret => exact hq
      | goto l => exact hq
      | panic ch => exact hq
      | outgrown => exact hq
    · cases hc
  | .cond c x y, ac, hc, K, a, w, h => by
    simp only [compileC] at hc
    split at hc
    · rename_i o ax ay ho hx hy
      simp at hc; subst hc
      obtain ⟨env, C, rfl, hs, hl, hk⟩ := h
      have hr := opd_rep hs ho
      simp only [avcW, condK] at hk
      split at hk
      · rename_i b hb
        rw [hb, Rep] at hr
        refine wp_cond hr ?_
        cases b with
        | true => exact avcW_sound x ax hx K a C.w ⟨env, C, rfl, hs, hl, hk.1 rfl⟩
        | false => exact avcW_sound y ay hy K a C.w ⟨env, C, rfl, hs, hl, hk.2 rfl⟩
      · exact hk.elim
    · cases hc
  | .block id x, ac, hc, K, a, w, h => by
    simp only [compileC] at hc
    split at hc
    · rename_i ax hx
      simp at hc; subst hc
      refine wp_block (wp_mono (avcW_sound x ax hx _ a w h) ?_)
      intro e a' w' hq
      cases e with
      | normal => exact hq
      | exit j =>
        simp only [Exit.inBlock]
        simp only [PostOf] at hq
        split
        · rename_i hj; rw [if_pos hj] at hq; exact hq
        · rename_i hj; rw [if_neg hj] at hq; exact hq
      | ret => exact hq
      | goto l => exact hq
      | panic ch => exact hq
      | outgrown => exact hq
    · cases hc
  | .loop x, ac, hc, K, a, w, h => by
    simp only [compileC] at hc
    split at hc
    · rename_i ax hx
      simp at hc; subst hc
      obtain ⟨env, C, rfl, hs, hl, I, μ, h0, hround⟩ := h
      obtain ⟨env1, C1, hw1, hs1, hl1, hI1⟩ := holds_cl ⟨env, C, rfl, hs, hl, h0⟩
      rw [← hw1]
      refine wp_loop_ghost (fun m a w => Holds n n0 C0 (fun env rows => I env rows ∧ μ env rows = m) a w) (μ env1 C1.rows) ⟨env1, C1, rfl, hs1, hl1, hI1, rfl⟩ ?_
      rintro m a' w' ⟨env2, C2, rfl, hs2, hl2, hI2, rfl⟩
      refine wp_mono (avcW_sound x ax hx _ a' C2.w ⟨env2, C2, rfl, hs2, hl2, hround env2 C2.rows hI2⟩) ?_
      intro e a3 w3 hq
      cases e with
      | normal =>
        obtain ⟨env3, C3, rfl, hs3, hl3, hI3, hlt⟩ := holds_cl hq
        exact ⟨μ env3 C3.rows, hlt, env3, C3, rfl, hs3, hl3, hI3, rfl⟩
      | exit j => exact hq
      | ret => exact hq
      | goto l => exact hq
      | panic ch => exact hq
      | outgrown => exact hq
    · cases hc
  | .exit id, ac, hc, K, a, w, h => by
    simp [compileC] at hc; subst hc
    exact wp_exit h
  | .ret, ac, hc, K, a, w, h => by
    simp [compileC] at hc; subst hc
    exact wp_ret h
  | .rangeFunc .., ac, hc, K, a, w, h => by simp [compileC] at hc
  | .scope .., ac, hc, K, a, w, h => by simp [compileC] at hc
  | .label .., ac, hc, K, a, w, h => by simp [compileC] at hc
  | .goto .., ac, hc, K, a, w, h => by simp [compileC] at hc
  | .refuse .., ac, hc, K, a, w, h => by simp [compileC] at hc
end
theorem afnW_of_vc {P : Program} {f : FuncId} {fn : Func} {live : Nat → Info} {af : AFunc} (hf : P.funcs[f]? = some fn) (hc : compileF P live fn = some af) {args : List AVal} {rows : List Row} {Q : AVal → List Row → Prop}
    (hn : args.length ≤ af.ntmps) (h : avcW P rows.length af.body ⟨fun env rs => resK rs env af.results fun vs => Cl rows.length (fun env' rs' => Q (slot env' 0) rs') [(0, oneOrTup vs)] rs, fun _ _ _ => False, fun env rs => resK rs env af.results fun vs => Cl rows.length (fun env' rs' => Q (slot env' 0) rs') [(0, oneOrTup vs)] rs⟩ (argEnv args 0) rows) : AFn P f args rows Q := by
  intro C cargs hr hok hrep
  subst hr
  unfold compileF at hc
  split at hc
  · rename_i c hb
    split at hc
    · rename_i ac rs hac hrs
      simp at hc; subst hc
      have hlen := hrep.length
      have hsz : (cargs.toArray ++ Array.replicate (fn.ntmps - cargs.toArray.size) undef).size = fn.ntmps := by
        have hn' : args.length ≤ fn.ntmps := hn
        simp; omega
      refine calls_of_wp hf hb (wp_mono (avcW_sound (C0 := C) c ac hac _ _ C.w ⟨_, C, rfl, ⟨hok, hsz, rfl, fun t => ?_⟩, Later.refl C, h⟩) ?_)
      · have := slot_argEnv args cargs 0 t hrep (Nat.zero_le _)
        rw [Nat.sub_zero] at this
        have e : (cargs.toArray ++ Array.replicate (fn.ntmps - cargs.toArray.size) undef).getD t undef = cargs.getD t undef := by
          simp only [Array.getD_eq_getD_getElem?, Array.getElem?_append, List.size_toArray, List.getElem?_toArray, List.getD_eq_getElem?_getD]
          split
          · rfl
          · rename_i hlt
            rw [List.getElem?_eq_none (by omega)]
            simp only [Array.getElem?_replicate]
            split <;> rfl
        rw [e]
        exact this
      · intro e a' w' hq
        have fin : Holds fn.ntmps C.rows.length C (fun env rs' => resK rs' env rs fun vs => Cl C.rows.length (fun env' rs' => Q (slot env' 0) rs') [(0, oneOrTup vs)] rs') a' w' →
            a'.defers = [] ∧ ∃ v, (results fn a'.tmps).run P w' = .ok v w' ∧ ∃ cv v' C', Ending.returned v = .returned cv ∧ C'.w = w' ∧ Rep C' v' cv ∧ Ok C' ∧ Later C.rows.length C C' ∧ Q v' C'.rows := by
          rintro ⟨env, D, rfl, hs, hl, hk⟩
          refine ⟨hs.defers, ?_⟩
          obtain ⟨vs, as, h1, h2, h3⟩ := res_sound hs fn.results.toList rs _ hrs hk
          -- the value that is handed back
          have hval : ∃ cv, (results fn a'.tmps).run P D.w = .ok cv D.w ∧ Rep D (oneOrTup as) cv := by
            have hm : (fn.results.mapM (m := Sem) (resGet a'.tmps)).run P D.w = .ok vs.toArray D.w := by
              rw [Array.mapM_eq_mapM_toList]
              simp only [Sem.run_map, h1, Result.andThen_ok]
            rw [results_eq]
            simp only [Sem.run_bind, hm, Result.andThen_ok, Sem.run_pure]
            refine ⟨_, rfl, ?_⟩
            cases as with
            | nil =>
              have hv0 : vs = [] := by rw [RepL] at h2; exact h2
              subst hv0
              simp only [oneOrTup]
              rw [Rep]
              exact ⟨#[], by simp, by simp [RepL]⟩
            | cons x xs =>
              cases xs with
              | nil =>
                rw [RepL] at h2
                obtain ⟨v, rest, rfl, h4, h5⟩ := h2
                rw [RepL] at h5
                subst h5
                simpa [oneOrTup] using h4
              | cons y ys =>
                have hl2 := h2.length
                simp only [oneOrTup]
                rw [Rep]
                refine ⟨vs.toArray, ?_, by simpa using h2⟩
                rw [dif_neg (by simp at hl2 ⊢; omega)]
          obtain ⟨cv, r1, r2⟩ := hval
          refine ⟨cv, r1, ?_⟩
          -- forget and rename
          obtain ⟨env', rows', hw, hq'⟩ := h3
          have hsim : Sim 1 [(0, oneOrTup as)] D ⟨#[cv], []⟩ := by
            refine ⟨hs.ok, rfl, rfl, fun t => ?_⟩
            simp only [slot]
            split
            · rename_i ht; subst ht; simpa using r2
            · simp [Rep]
          obtain ⟨D', d1, d2, d3, d4⟩ := wk_sound hw D rfl hsim hl
          refine ⟨cv, slot env' 0, D', rfl, d1, ?_, d3.ok, d4, by rw [d2]; exact hq'⟩
          simpa using d3.slots 0
        cases e with
        | normal => exact fin hq
        | ret => exact fin hq
        | exit id => obtain ⟨_, _, _, _, _, hk⟩ := hq; exact hk.elim
        | goto l => exact hq.elim
        | panic ch => exact hq.elim
        | outgrown => exact hq.elim
    · cases hc
  · cases hc


theorem afnW {P : Program} {f : FuncId} {fn : Func} {live : Nat → Info} {af : AFunc} (hf : P.funcs[f]? = some fn) (hc : compileF P live fn = some af) {args : List AVal} {rows : List Row} {Q : AVal → List Row → Prop}
    (hn : args.length ≤ af.ntmps) (h : avcW P rows.length af.body ⟨retK rows.length Q [] af.results, noX, retK rows.length Q [] af.results⟩ (argEnv args 0) rows) : AFn P f args rows Q :=
  afnW_of_vc hf hc hn h

/-- a branch -/
def condW (P : Program) (n0 : Nat) (v : AVal) (a b : ACode) (K : Post) (env : Env) (rows : List Row) : Prop := condK v (avcW P n0 a K env rows) (avcW P n0 b K env rows)
section
variable {P : Program} {n0 : Nat} {K : Post} {env : Env} {rows : List Row}
theorem avcW_skip : avcW P n0 .skip K env rows = K.n env rows := _root_.id rfl
theorem avcW_region {ops : List IOp} {live : List Nat} : avcW P n0 (.region ops live) K env rows = regK P ops live K.n env rows := _root_.id rfl
theorem avcW_draw {ops : List (Nat × DOp)} {res : List (TypeId × Nat)} {live : List Nat} : avcW P n0 (.draw ops res live) K env rows = drawC P ops res live K.n rows.length env rows := _root_.id rfl
theorem avcW_seq {a b : ACode} : avcW P n0 (.seq a b) K env rows = avcW P n0 a ⟨Cl n0 (avcW P n0 b K), K.x, K.r⟩ env rows := _root_.id rfl
theorem avcW_cond {c : Opd} {a b : ACode} : avcW P n0 (.cond c a b) K env rows = condW P n0 (c.ev env) a b K env rows := _root_.id rfl
theorem avcW_block {id : Nat} {c : ACode} : avcW P n0 (.block id c) K env rows = avcW P n0 c ⟨K.n, blockX id K, K.r⟩ env rows := by
  rw [avcW]
  congr 1
  congr 1
  funext j env rows
  unfold blockX
  split <;> rfl
theorem avcW_exit {id : Nat} : avcW P n0 (.exit id) K env rows = K.x id env rows := _root_.id rfl
theorem avcW_ret : avcW P n0 .ret K env rows = K.r env rows := _root_.id rfl
theorem condW_true {a b : ACode} : condW P n0 (.bool true) a b K env rows = avcW P n0 a K env rows := by simp [condW, condK]
theorem condW_false {a b : ACode} : condW P n0 (.bool false) a b K env rows = avcW P n0 b K env rows := by simp [condW, condK]
theorem condW_intro {b : Bool} {x y : ACode} (h1 : b = true → avcW P n0 x K env rows) (h2 : b = false → avcW P n0 y K env rows) : condW P n0 (.bool b) x y K env rows := ⟨h1, h2⟩
theorem avcW_loop {c : ACode} (I : Env → List Row → Prop) (μ : Env → List Row → Nat) (h0 : Cl n0 I env rows)
    (h : ∀ env rows, I env rows → avcW P n0 c ⟨Cl n0 fun env' rows' => I env' rows' ∧ μ env' rows' < μ env rows, K.x, K.r⟩ env rows) : avcW P n0 (.loop c) K env rows := ⟨I, μ, h0, h⟩
/-- two ways that meet: here what follows may forget, too -/
theorem condW_cut {b : Bool} {x y : ACode} (R : Env → List Row → Prop) (h1 : b = true → avcW P n0 x ⟨R, K.x, K.r⟩ env rows) (h2 : b = false → avcW P n0 y ⟨R, K.x, K.r⟩ env rows)
    (hR : ∀ e r, R e r → K.n e r) : condW P n0 (.bool b) x y K env rows :=
  ⟨fun hb => avcW_mono x (K := ⟨R, K.x, K.r⟩) hR (fun _ _ _ hx => hx) (fun _ _ hx => hx) (h1 hb), fun hb => avcW_mono y (K := ⟨R, K.x, K.r⟩) hR (fun _ _ _ hx => hx) (fun _ _ hx => hx) (h2 hb)⟩
end
attribute [go_sem] avcW_skip avcW_region avcW_draw avcW_seq avcW_cond avcW_block avcW_exit avcW_ret condW_true condW_false

/-- rows that never change from now on -/
theorem Cl.frz {n0 : Nat} {K : Env → List Row → Prop} {env : Env} {rows srows : List Row} (sel : List (Option Nat)) (vw : List Nat) (h1 : onceB sel = true) (h2 : keepsB n0 0 sel = true) (hg : getRows rows vw sel sel = some srows)
    (h : Cl n0 K (env.map fun p => (p.1, bindV rows sel vw p.2)) srows) : Cl n0 K env rows := Cl.tr sel vw h1 h2 hg h

end Go.Abs
