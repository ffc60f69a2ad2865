/- What a caller has behind a call. -/
import Derived.Test.YtjacobmkfkmdiaaAbs15
set_option linter.unusedSimpArgs false
set_option linter.unusedVariables false
set_option linter.unusedSectionVars false
namespace Go.Abs

def backCtx (C : Ctx) (sel : List Nat) (D : Ctx) : Ctx :=
  ⟨mergeR C.rows sel (D.rows.map (renRow (back C.rows.length sel))), mergeR C.phi sel D.phi, C.om, D.w, C.pm⟩

theorem renRow_live {f : Nat → Nat} {row : Row} {e : TypeId} {sz : Nat} {vals : List (List AVal)} (h : renRow f row = .live e sz vals) : ∃ vals', row = .live e sz vals' ∧ vals = renE f vals' := by
  cases row with
  | dead => simp [renRow] at h
  | live e' sz' vals' => simp [renRow] at h; obtain ⟨rfl, rfl, rfl⟩ := h; exact ⟨vals', rfl, rfl⟩

section
variable {C D : Ctx} {sel vw : List Nat} {srows : List Row}

theorem back_sound (hok : Ok C) (hn : sel.Nodup) (hg : getRows C.rows vw (sel.map some) (sel.map some) = some srows) (hD : Ok D) (hl : Later srows.length (calleeCtx C (sel.map some) vw srows) D)
    (hf : vw = [] ∨ (D.rows.all flatRow) = true) :
    Ok (backCtx C sel D) ∧ Later C.rows.length C (backCtx C sel D) ∧ ∀ v cv, (vw = [] ∨ flat v = true) → Rep D v cv → Rep (backCtx C sel D) (renV (back C.rows.length sel) v) cv := by
  obtain ⟨hsl, hget, _⟩ := getRows_spec hg
  rw [List.length_map] at hsl
  have osel : ∀ {i r : Nat}, (sel.map some)[i]? = some (some r) → sel[i]? = some r := by
    intro i r h; simpa using h
  have selo : ∀ {i : Nat} (hi : i < sel.length), (sel.map some)[i]? = some (some sel[i]) := by
    intro i hi; simp [hi]
  have hlt : ∀ r ∈ sel, r < C.rows.length := by
    intro r hr
    obtain ⟨i, hi, rfl⟩ := List.getElem_of_mem hr
    obtain ⟨x, g1, _⟩ := hget i sel[i] (selo hi)
    exact (List.getElem?_eq_some_iff.1 g1).1
  have hle : sel.length ≤ D.rows.length := by rw [← hsl]; exact hl.len
  have hlem : sel.length ≤ (D.rows.map (renRow (back C.rows.length sel))).length := by simpa using hle
  have hlep : sel.length ≤ D.phi.length := by rw [hD.plen]; exact hle
  have hltp : ∀ r ∈ sel, r < C.phi.length := by rw [hok.plen]; exact hlt
  have rowsLen : (backCtx C sel D).rows.length = C.rows.length + (D.rows.length - sel.length) := by
    show (mergeR _ _ _).length = _
    rw [mergeR_length sel _ _ hlem]; simp
  have rb : ∀ i, i < D.rows.length → (backCtx C sel D).rows[back C.rows.length sel i]? = (D.rows[i]?).map (renRow (back C.rows.length sel)) := by
    intro i hi
    show (mergeR _ _ _)[_]? = _
    rw [mergeR_back sel _ _ i hn hlt (by simpa using hi) hlem]; simp
  have pb : ∀ i, i < D.rows.length → (backCtx C sel D).phi[back C.rows.length sel i]? = D.phi[i]? := by
    intro i hi
    show (mergeR _ _ _)[_]? = _
    rw [← hok.plen]
    exact mergeR_back sel _ _ i hn hltp (by rw [hD.plen]; exact hi) hlep
  have ro : ∀ r, r < C.rows.length → r ∉ sel → (backCtx C sel D).rows[r]? = C.rows[r]? := fun r h1 h2 => mergeR_other sel _ _ r h1 h2
  have po : ∀ r, r < C.rows.length → r ∉ sel → (backCtx C sel D).phi[r]? = C.phi[r]? := fun r h1 h2 => mergeR_other sel _ _ r (by rw [hok.plen]; exact h1) h2
  have cases_ : ∀ k, k < (backCtx C sel D).rows.length → (k < C.rows.length ∧ k ∉ sel) ∨ ∃ i, i < D.rows.length ∧ k = back C.rows.length sel i := by
    intro k hk
    rw [rowsLen] at hk
    exact back_cases sel _ _ k hlt hle hk
  have plen' : (backCtx C sel D).phi.length = (backCtx C sel D).rows.length := by
    rw [rowsLen]
    show (mergeR _ _ _).length = _
    rw [mergeR_length sel _ _ hlep, hok.plen, hD.plen]
  -- who owns a block
  have owner : ∀ k b c : Nat, (backCtx C sel D).phi[k]? = some (some (b, c)) → (k < C.rows.length ∧ k ∉ sel ∧ C.phi[k]? = some (some (b, c))) ∨ ∃ i : Nat, i < D.rows.length ∧ k = back C.rows.length sel i ∧ D.phi[i]? = some (some (b, c)) := by
    intro k b c hk
    have hkl : k < (backCtx C sel D).rows.length := by
      rw [← plen']; exact (List.getElem?_eq_some_iff.1 hk).1
    rcases cases_ k hkl with ⟨h1, h2⟩ | ⟨i, h1, rfl⟩
    · exact .inl ⟨h1, h2, by rw [← po k h1 h2]; exact hk⟩
    · exact .inr ⟨i, h1, rfl, by rw [← pb i h1]; exact hk⟩
  have fresh : ∀ i b c : Nat, D.phi[i]? = some (some (b, c)) → (∃ r c' : Nat, r ∈ sel ∧ C.phi[r]? = some (some (b, c'))) ∨ C.w.heap.size ≤ b := by
    intro i b c hi
    rcases hl.fresh i b c hi with ⟨j, c', h⟩ | h
    · obtain ⟨r, h1, h2⟩ := callee_phi_inv hok hg h
      exact .inl ⟨r, c', List.mem_of_getElem? (osel h1), h2⟩
    · exact .inr h
  have notOwned : ∀ b, (∀ r c : Nat, r ∈ sel → C.phi[r]? ≠ some (some (b, c))) → ∀ i c : Nat, (calleeCtx C (sel.map some) vw srows).phi[i]? ≠ some (some (b, c)) := by
    intro b hb i c hc
    obtain ⟨r, h1, h2⟩ := callee_phi_inv hok hg hc
    exact hb r c (List.mem_of_getElem? (osel h1)) h2
  have blockSame : ∀ b, b < C.w.heap.size → (∀ r c : Nat, r ∈ sel → C.phi[r]? ≠ some (some (b, c))) → D.w.heap[b]? = C.w.heap[b]? := fun b hb ho => hl.block b hb (notOwned b ho)
  have later : Later C.rows.length C (backCtx C sel D) := by
    refine ⟨hl.os, hl.tape, hl.output, hl.size, fun b hb ho => blockSame b hb fun r c _ => ho r c, fun k b c hk => ?_, rfl, rfl, by rw [rowsLen]; omega, fun r e sz vals' hr hv => ?_⟩
    · rcases owner k b c hk with ⟨_, _, h⟩ | ⟨i, _, _, h⟩
      · exact .inl ⟨k, c, h⟩
      · rcases fresh i b c h with ⟨r, c', _, h⟩ | h
        · exact .inl ⟨r, c', h⟩
        · exact .inr h
    · by_cases hs : r ∈ sel
      · obtain ⟨i, hi, rfl⟩ := List.getElem_of_mem hs
        have hbk := back_sel sel C.rows.length i hi
        rw [← hbk, rb i (by omega)] at hv
        have hid : i < D.rows.length := by omega
        rw [List.getElem?_eq_getElem hid] at hv
        simp at hv
        obtain ⟨v2, hd, rfl⟩ := renRow_live hv
        obtain ⟨v1, c1, c2, c3⟩ := hl.rows i e sz v2 (by omega) (by rw [List.getElem?_eq_getElem hid, hd])
        obtain ⟨x, g1, g3⟩ := hget i sel[i] (selo hi)
        rw [show (calleeCtx C (sel.map some) vw srows).rows = srows from rfl, g3] at c1
        simp only [Option.some.injEq] at c1
        obtain ⟨vals, rfl, rfl⟩ := bindRow_live c1
        rw [bindE_length] at c2 c3
        refine ⟨vals, g1, by rw [renE_length]; omega, fun heq => ?_⟩
        rw [renE_length] at heq
        have := c3 (by omega)
        rw [callee_phi hok hg (selo hi)] at this
        rw [← hbk, pb i hid, hbk]
        exact this
      · rw [ro r hr hs] at hv
        exact ⟨vals', hv, Nat.le_refl _, fun _ => po r hr hs⟩
  have hrowsF : ∀ r, r < D.rows.length → back C.rows.length sel r < (backCtx C sel D).rows.length ∧ ∀ e sz vals', (backCtx C sel D).rows[back C.rows.length sel r]? = some (.live e sz vals') →
      ∃ vals, D.rows[r]? = some (.live e sz vals) ∧ vals.length ≤ vals'.length ∧ (vals.length = vals'.length → (backCtx C sel D).phi[back C.rows.length sel r]? = D.phi[r]?) := by
    intro r hr
    have hget2 := rb r hr
    rw [List.getElem?_eq_getElem hr] at hget2
    refine ⟨(List.getElem?_eq_some_iff.1 (by simpa using hget2)).1, fun e sz vals' hv => ?_⟩
    rw [hget2] at hv
    simp at hv
    obtain ⟨v2, hd, rfl⟩ := renRow_live hv
    exact ⟨v2, by rw [List.getElem?_eq_getElem hr, hd], by rw [renE_length]; exact Nat.le_refl _, fun _ => pb r hr⟩
  have hpm : (backCtx C sel D).pm = D.pm := by rw [hD.pm]; exact hok.pm
  have keepD : vw = [] → ∀ b, D.pureBlk b → (backCtx C sel D).w.heap[b]? = D.w.heap[b]? ∧ (backCtx C sel D).pureBlk b := by
    intro hv b hb
    obtain ⟨h1, h2, h3⟩ := hb
    rw [hl.om] at h2
    refine ⟨rfl, h1, fun ho => h2 (.inl ho), fun k c hk => ?_⟩
    rcases owner k b c hk with ⟨q1, q2, q3⟩ | ⟨i, _, _, q⟩
    · exact h2 (.inr ⟨k, c, by simpa using q2, by simp [hv], q3⟩)
    · exact h3 i c q
  have repV : ∀ v cv, (vw = [] ∨ flat v = true) → Rep D v cv → Rep (backCtx C sel D) (renV (back C.rows.length sel) v) cv := by
    intro v cv hvf hr
    rcases hvf with hv | hv
    · exact Rep.ren ⟨hpm, keepD hv, hrowsF⟩ v cv hr
    · exact Rep.renF hpm hrowsF v cv hv hr
  have repE : ∀ (i : Nat) (e : TypeId) (sz : Nat) (vals : List (List AVal)) (vs : List Value), D.rows[i]? = some (.live e sz vals) → Elems D sz vals vs → Elems (backCtx C sel D) sz (renE (back C.rows.length sel) vals) vs := by
    intro i e sz vals vs hi he
    rcases hf with hv | hv
    · exact Elems.ren ⟨hpm, keepD hv, hrowsF⟩ he
    · have hflat : flatE vals = true := List.all_eq_true.1 hv _ (List.mem_of_getElem? hi)
      refine ⟨fun x hx => ?_, ?_, he.one⟩
      · rw [renE_eq] at hx
        obtain ⟨y, hy, rfl⟩ := List.mem_map.1 hx
        rw [renL_length]
        exact he.szs y hy
      · rw [renE_flatten]
        exact RepL.renF hpm hrowsF _ _ (flatE_flatten hflat) he.rep
  refine ⟨⟨hok.pm, plen', fun k row hk => ?_, fun k k' b c c' h1 h2 => ?_, fun b hb => Nat.lt_of_lt_of_le (hok.om b hb) hl.size⟩, later, repV⟩
  · have hkl : k < (backCtx C sel D).rows.length := (List.getElem?_eq_some_iff.1 hk).1
    rcases cases_ k hkl with ⟨h1, h2⟩ | ⟨i, hi, rfl⟩
    · rw [ro k h1 h2] at hk
      refine RowOk.move later.ext rfl (po k h1 h2) (fun b c hb => ?_) (hok.rows k row hk)
      refine blockSame b (hok.lt hb) fun r c' hr hr' => ?_
      have := hok.inj _ _ _ _ _ hb hr'
      subst this
      exact h2 hr
    · rw [rb i hi, List.getElem?_eq_getElem hi] at hk
      simp at hk
      have hrow := hD.rows i _ (List.getElem?_eq_getElem hi)
      cases hd : D.rows[i] with
      | dead =>
        rw [hd] at hk hrow
        simp [renRow] at hk
        subst hk
        rw [RowOk] at hrow ⊢
        rw [pb i hi]; exact hrow
      | live e sz vals =>
        rw [hd] at hk
        simp [renRow] at hk
        subst hk
        have hdi : D.rows[i]? = some (.live e sz vals) := by rw [List.getElem?_eq_getElem hi, hd]
        rw [RowOk, pb i hi]
        rcases hD.live hdi with ⟨p1, rfl⟩ | ⟨b, cap, cs, p1, k1, k2, k3, k4, k5, k6⟩
        · exact ⟨none, p1, by simp [renE, cleanE]⟩
        · obtain ⟨vs, e1, e2⟩ := k6.elems
          refine ⟨_, p1, fun ho => k1 ?_, cs, k2, k3, k4, by rw [renE_length]; exact k5, (repE i e sz vals vs hdi e1).repE e2⟩
          rw [hl.om]
          exact .inl ho
  · have clash : ∀ {k i b c c' : Nat}, k < C.rows.length → k ∉ sel → C.phi[k]? = some (some (b, c)) → D.phi[i]? = some (some (b, c')) → False := by
      intro k i b c c' h1 h2 h3 h4
      rcases fresh i b c' h4 with ⟨r, c2, hr, h⟩ | h
      · have := hok.inj _ _ _ _ _ h3 h
        subst this
        exact h2 hr
      · have := hok.lt h3; omega
    rcases owner k b c h1 with ⟨a1, a2, a3⟩ | ⟨i, a1, a2, a3⟩ <;> rcases owner k' b c' h2 with ⟨b1, b2, b3⟩ | ⟨j, b1, b2, b3⟩
    · exact hok.inj _ _ _ _ _ a3 b3
    · exact (clash a1 a2 a3 b3).elim
    · exact (clash b1 b2 b3 a3).elim
    · have := hD.inj _ _ _ _ _ a3 b3
      rw [a2, b2, this]

end

/-- a call under a contract, as its caller sees it -/
def callK (P : Program) (f : FuncId) (args : List AVal) (rows : List Row) (K : AVal → List Row → Prop) : Prop :=
  ∃ (sel vw : List Nat) (srows : List Row), sel.Nodup ∧ getRows rows vw (sel.map some) (sel.map some) = some srows ∧
    AFn P f (bindL rows (sel.map some) vw args) srows fun v rs => (vw = [] ∨ (flat v = true ∧ (rs.all flatRow) = true)) ∧ K (renV (back rows.length sel) v) (mergeR rows sel (rs.map (renRow (back rows.length sel))))

theorem once_of_nodup {sel : List Nat} (h : sel.Nodup) : once (sel.map some) := by
  intro i j r h1 h2
  have h1' : sel[i]? = some r := by simpa using h1
  have h2' : sel[j]? = some r := by simpa using h2
  obtain ⟨i1, e1⟩ := List.getElem?_eq_some_iff.1 h1'
  obtain ⟨i2, e2⟩ := List.getElem?_eq_some_iff.1 h2'
  exact (List.getElem_inj h).1 (e1.trans e2.symm)

theorem call_sound {P : Program} {C : Ctx} (hok : Ok C) {f : FuncId} {args : List AVal} {cargs : List Value} (hr : RepL C args cargs) {K : AVal → List Row → Prop} (h : callK P f args C.rows K) :
    Calls P f cargs.toArray C.w fun e w' => ∃ cv v C', e = .returned cv ∧ C'.w = w' ∧ Rep C' v cv ∧ Ok C' ∧ Later C.rows.length C C' ∧ K v C'.rows := by
  obtain ⟨sel, vw, srows, hn, hg, hA⟩ := h
  refine (hA (calleeCtx C (sel.map some) vw srows) cargs rfl (callee_ok hok (once_of_nodup hn) hg) (RepL.bind hok hg _ _ hr)).mono ?_
  rintro e w' ⟨cv, v, D, rfl, rfl, hv, hD, hl, hq, hk⟩
  obtain ⟨b1, b2, b3⟩ := back_sound hok hn hg hD hl (hq.imp id (·.2))
  exact ⟨cv, _, backCtx C sel D, rfl, rfl, b3 v cv (hq.imp id (·.1)) hv, b1, b2, hk⟩

end Go.Abs
