/- Ways that meet again: what follows is shown once. -/
import Derived.Test.YtjacobmkfkmdiaaAbs31
set_option linter.unusedSimpArgs false
set_option linter.unusedVariables false
set_option linter.unusedSectionVars false
namespace Go.Abs

theorem ev_mono {op : AOp} {args : List AVal} {rows : List Row} {K K' : AVal → List Row → Prop} (hK : ∀ v rs, K v rs → K' v rs) (h : ev op args rows K) : ev op args rows K' := (ev_det op args).mono h hK
theorem callK_mono {P : Program} {f : FuncId} {args : List AVal} {rows : List Row} {K K' : AVal → List Row → Prop} (hK : ∀ v rs, K v rs → K' v rs) (h : callK P f args rows K) : callK P f args rows K' := by
  obtain ⟨sel, vw, srows, h1, h2, h3⟩ := h
  exact ⟨sel, vw, srows, h1, h2, h3.mono fun v rs hq => ⟨hq.1, hK _ _ hq.2⟩⟩
theorem runK_mono {P : Program} {o : IOp} {env : Env} {rows : List Row} {K K' : Env → List Row → Prop} (hK : ∀ e r, K e r → K' e r) (h : runK P o env rows K) : runK P o env rows K' := by
  unfold runK at h ⊢
  split
  · rename_i f hf
    rw [hf] at h
    exact callK_mono (fun v rs => hK _ _) h
  · rename_i hne
    split at h
    · rename_i f hf
      exact (hne f hf).elim
    · exact ev_mono (fun v rs => hK _ _) h
theorem gK_mono {b w : Bool} {A A' B B' : Prop} (h1 : A → A') (h2 : B → B') (h : gK b w A B) : gK b w A' B' := by
  unfold gK at h ⊢
  by_cases hb : b = w
  · rw [if_pos hb] at h ⊢; exact h1 h
  · rw [if_neg hb] at h ⊢; exact h2 h
theorem stepK_mono {P : Program} {o : IOp} {env : Env} {rows : List Row} {K K' : Env → List Row → Prop} (hK : ∀ e r, K e r → K' e r) (h : stepK P o env rows K) : stepK P o env rows K' := by
  unfold stepK at h ⊢
  split
  · rename_i hg
    rw [hg] at h
    exact runK_mono hK h
  · rename_i s want hg
    rw [hg] at h
    simp only at h
    split
    · rename_i b hb
      rw [hb] at h
      exact gK_mono (runK_mono hK) (hK _ _) h
    · rename_i hb
      rw [hb] at h
      exact hK _ _ h
    · rename_i h1 h2
      split at h
      · rename_i b hb; exact (h1 b hb).elim
      · rename_i hb; exact (h2 hb).elim
      · exact h
theorem listK_mono {P : Program} : ∀ {os : List IOp} {env : Env} {rows : List Row} {K K' : Env → List Row → Prop}, (∀ e r, K e r → K' e r) → listK P os K env rows → listK P os K' env rows
  | [], _, _, _, _, hK, h => hK _ _ h
  | _ :: _, _, _, _, _, hK, h => stepK_mono (fun _ _ => listK_mono hK) h
theorem callT_mono {P : Program} {f : FuncId} {args : List AVal} {un : List Nat} {tk : Tk} {rows : List Row} {K K' : AVal → List Row → Prop} (hK : ∀ v rs, K v rs → K' v rs) (h : callT P f args un tk rows K) : callT P f args un tk rows K' := by
  obtain ⟨sel, vw, srows, h0, h1, h2, h3⟩ := h
  exact ⟨sel, vw, srows, h0, h1, h2, h3.mono fun v rs hq => ⟨hq.1, hK _ _ hq.2⟩⟩
theorem runD_mono {P : Program} {base i : Nat} {d : DOp} {tk : Tk} {env : Env} {rows : List Row} {K K' : Tk → Env → List Row → Prop} (hK : ∀ t e r, K t e r → K' t e r) (h : runD P base i d tk env rows K) : runD P base i d tk env rows K' := by
  unfold runD at h ⊢
  split
  · rename_i q hq
    rw [hq] at h
    exact ⟨h.1, (evR_det _ _ _).mono h.2 fun v rs => hK _ _ _⟩
  · rename_i hq
    rw [hq] at h
    simp only at h
    split
    · rename_i f hf
      rw [hf] at h
      exact callT_mono (fun v rs => hK _ _ _) h
    · rename_i hne
      split at h
      · rename_i f hf
        exact (hne f hf).elim
      · exact ⟨h.1, ev_mono (fun v rs => hK _ _ _) h.2⟩
theorem grdD_mono {P : Program} {base i : Nat} {v : AVal} {want : Bool} {d : DOp} {tk : Tk} {env : Env} {rows : List Row} {K K' : Tk → Env → List Row → Prop} (hK : ∀ t e r, K t e r → K' t e r) (h : grdD P base v want i d tk env rows K) : grdD P base v want i d tk env rows K' := by
  unfold grdD at h ⊢
  split
  · exact gK_mono (runD_mono hK) (hK _ _ _) h
  · exact hK _ _ _ h
  · rename_i h1 h2
    split at h
    · rename_i b; exact (h1 b rfl).elim
    · exact (h2 rfl).elim
    · exact h
theorem drawK_mono {P : Program} {base : Nat} {live : List Nat} : ∀ {ds : List (Nat × DOp)} {tk : Tk} {env : Env} {rows : List Row} {K K' : Env → List Row → Prop}, (∀ e r, K e r → K' e r) → drawK P base ds live K tk env rows → drawK P base ds live K' tk env rows
  | [], _, _, _, _, _, hK, h => hK _ _ h
  | (i, d) :: ds, tk, env, rows, K, K', hK, h => by
    rw [drawK] at h ⊢
    split
    · rename_i hg
      rw [hg] at h
      exact runD_mono (fun _ _ _ => drawK_mono hK) h
    · rename_i s want hg
      rw [hg] at h
      exact grdD_mono (fun _ _ _ => drawK_mono hK) h
theorem Cl.mono {n0 : Nat} {K K' : Env → List Row → Prop} {env : Env} {rows : List Row} (hK : ∀ e r, K e r → K' e r) (h : Cl n0 K env rows) : Cl n0 K' env rows := by
  obtain ⟨e, r, h1, h2⟩ := h
  exact ⟨e, r, h1, hK _ _ h2⟩

theorem avc_mono {P : Program} {n0 : Nat} : ∀ (c : ACode) {K K' : Post} {env : Env} {rows : List Row}, (∀ e r, K.n e r → K'.n e r) → (∀ j e r, K.x j e r → K'.x j e r) → (∀ e r, K.r e r → K'.r e r) → avc P n0 c K env rows → avc P n0 c K' env rows
  | .skip, _, _, _, _, h1, _, _, h => h1 _ _ h
  | .region _ _, _, _, _, _, h1, _, _, h => listK_mono (fun _ _ => h1 _ _) h
  | .draw _ _ _, _, _, _, _, h1, _, _, h => drawK_mono h1 h
  | .seq a b, K, K', _, _, h1, h2, h3, h => avc_mono a (K := ⟨avc P n0 b K, K.x, K.r⟩) (K' := ⟨avc P n0 b K', K'.x, K'.r⟩) (fun _ _ => avc_mono b h1 h2 h3) h2 h3 h
  | .cond c a b, K, K', env, rows, h1, h2, h3, h => by
    rw [avc] at h ⊢
    unfold condK at h ⊢
    split
    · rename_i b' hb
      rw [hb] at h
      exact ⟨fun e => avc_mono a h1 h2 h3 (h.1 e), fun e => avc_mono b h1 h2 h3 (h.2 e)⟩
    · rename_i hne
      split at h
      · rename_i b' hb; exact (hne b' hb).elim
      · exact h
  | .block id c, K, K', env, rows, h1, h2, h3, h => by
    rw [avc] at h ⊢
    refine avc_mono c (K := ⟨K.n, fun j => if j = id then K.n else K.x j, K.r⟩) (K' := ⟨K'.n, fun j => if j = id then K'.n else K'.x j, K'.r⟩) h1 (fun j e r hx => ?_) h3 h
    by_cases hj : j = id
    · simp only [hj, if_true] at hx ⊢; exact h1 _ _ hx
    · simp only [hj, if_false] at hx ⊢; exact h2 _ _ _ hx
  | .loop c, K, K', env, rows, h1, h2, h3, h => by
    rw [avc] at h ⊢
    obtain ⟨I, μ, g1, g2⟩ := h
    exact ⟨I, μ, g1, fun e r hi => avc_mono c (K := ⟨Cl n0 fun env' rows' => I env' rows' ∧ μ env' rows' < μ e r, K.x, K.r⟩) (fun _ _ hx => hx) h2 h3 (g2 e r hi)⟩
  | .exit id, _, _, _, _, _, h2, _, h => h2 _ _ _ h
  | .ret, _, _, _, _, _, _, h3, h => h3 _ _ h

/-- behind a piece of code R holds, and R is enough for what follows -/
theorem avc_cut {P : Program} {n0 : Nat} {c : ACode} {K : Post} {env : Env} {rows : List Row} (R : Env → List Row → Prop) (h : avc P n0 c ⟨R, K.x, K.r⟩ env rows) (hR : ∀ e r, R e r → K.n e r) : avc P n0 c K env rows :=
  avc_mono c (K := ⟨R, K.x, K.r⟩) hR (fun _ _ _ hx => hx) (fun _ _ hx => hx) h
/-- two ways that meet -/
theorem condC_cut {P : Program} {n0 : Nat} {b : Bool} {x y : ACode} {K : Post} {env : Env} {rows : List Row} (R : Env → List Row → Prop) (h1 : b = true → avc P n0 x ⟨R, K.x, K.r⟩ env rows) (h2 : b = false → avc P n0 y ⟨R, K.x, K.r⟩ env rows)
    (hR : ∀ e r, R e r → K.n e r) : condC P n0 (.bool b) x y K env rows :=
  ⟨fun hb => avc_cut R (h1 hb) hR, fun hb => avc_cut R (h2 hb) hR⟩
/-- in the middle of a region -/
theorem regK_cut {P : Program} {os : List IOp} {live : List Nat} {K : Env → List Row → Prop} {env : Env} {rows : List Row} (R : Env → List Row → Prop) (h : regK P os live R env rows) (hR : ∀ e r, R e r → K e r) : regK P os live K env rows :=
  listK_mono (fun _ _ => hR _ _) h
theorem grdC_cut {P : Program} {b want : Bool} {o : IOp} {os : List IOp} {live : List Nat} {K : Env → List Row → Prop} {env : Env} {rows : List Row} (R : Env → List Row → Prop)
    (h1 : b = true → grdC P (.bool true) want o env rows (regK P os live R)) (h2 : b = false → grdC P (.bool false) want o env rows (regK P os live R)) (hR : ∀ e r, R e r → K e r) : grdC P (.bool b) want o env rows (regK P os live K) := by
  have key : ∀ b, grdC P (.bool b) want o env rows (regK P os live R) → grdC P (.bool b) want o env rows (regK P os live K) := by
    intro b h
    unfold grdC at h ⊢
    exact gK_mono (runK_mono fun _ _ => listK_mono fun _ _ => hR _ _) (listK_mono fun _ _ => hR _ _) h
  cases b
  · exact key _ (h2 rfl)
  · exact key _ (h1 rfl)
theorem grdD_cut {P : Program} {base i : Nat} {b want : Bool} {d : DOp} {ds : List (Nat × DOp)} {tk : Tk} {live : List Nat} {K : Env → List Row → Prop} {env : Env} {rows : List Row} (R : Env → List Row → Prop)
    (h1 : b = true → grdD P base (.bool true) want i d tk env rows (drawK P base ds live R)) (h2 : b = false → grdD P base (.bool false) want i d tk env rows (drawK P base ds live R)) (hR : ∀ e r, R e r → K e r) :
    grdD P base (.bool b) want i d tk env rows (drawK P base ds live K) := by
  cases b
  · exact grdD_mono (fun _ _ _ => drawK_mono hR) (h2 rfl)
  · exact grdD_mono (fun _ _ _ => drawK_mono hR) (h1 rfl)

attribute [go_sem] Int.toNat_natCast List.take_length List.length_set els_set
end Go.Abs
