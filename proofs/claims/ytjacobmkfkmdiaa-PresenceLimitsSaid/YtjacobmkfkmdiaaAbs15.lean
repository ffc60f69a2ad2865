/- A call under a contract. -/
import Derived.Test.YtjacobmkfkmdiaaAbs14
set_option linter.unusedSimpArgs false
set_option linter.unusedVariables false
set_option linter.unusedSectionVars false
namespace Go.Abs

theorem getRows_spec {rows : List Row} {vw : List Nat} {all : List (Option Nat)} : ∀ {sel : List (Option Nat)} {ys : List Row}, getRows rows vw all sel = some ys →
    ys.length = sel.length ∧ (∀ (i r : Nat), sel[i]? = some (some r) → ∃ x, rows[r]? = some x ∧ ys[i]? = some (bindRow rows all vw x)) ∧ (∀ (i : Nat), sel[i]? = some none → ys[i]? = some .dead)
  | [], ys, h => by simp [getRows] at h; subst h; simp
  | none :: rs, ys, h => by
    simp only [getRows] at h
    split at h
    · rename_i zs hz
      simp at h; subst h
      obtain ⟨h1, h2, h3⟩ := getRows_spec hz
      refine ⟨by simp [h1], fun i s hs => ?_, fun i hs => ?_⟩
      · cases i with
        | zero => simp at hs
        | succ i => simpa using h2 i s (by simpa using hs)
      · cases i with
        | zero => rfl
        | succ i => simpa using h3 i (by simpa using hs)
    · cases h
  | some r :: rs, ys, h => by
    simp only [getRows] at h
    split at h
    · rename_i x zs hx hz
      simp at h; subst h
      obtain ⟨h1, h2, h3⟩ := getRows_spec hz
      refine ⟨by simp [h1], fun i s hs => ?_, fun i hs => ?_⟩
      · cases i with
        | zero => simp at hs; subst hs; exact ⟨x, hx, rfl⟩
        | succ i => simpa using h2 i s (by simpa using hs)
      · cases i with
        | zero => simp at hs
        | succ i => simpa using h3 i (by simpa using hs)
    · cases h

theorem bindL_length {rows : List Row} {sel : List (Option Nat)} {vw : List Nat} : ∀ (es : List AVal), (bindL rows sel vw es).length = es.length
  | [] => rfl
  | e :: es => by simp [bindL, bindL_length es]

theorem bindE_length {rows : List Row} {sel : List (Option Nat)} {vw : List Nat} (es : List (List AVal)) : (bindE rows sel vw es).length = es.length := by
  unfold bindE; split <;> simp

theorem bindRow_live {rows : List Row} {sel : List (Option Nat)} {vw : List Nat} {x : Row} {e : TypeId} {sz : Nat} {vals' : List (List AVal)} (h : bindRow rows sel vw x = .live e sz vals') :
    ∃ vals, x = .live e sz vals ∧ vals' = bindE rows sel vw vals := by
  cases x with
  | dead => simp [bindRow] at h
  | live e' sz' vals => simp [bindRow] at h; obtain ⟨rfl, rfl, rfl⟩ := h; exact ⟨vals, rfl, rfl⟩

/-- the context of a callee -/
def calleeCtx (C : Ctx) (sel : List (Option Nat)) (vw : List Nat) (srows : List Row) : Ctx :=
  ⟨srows, sel.map (fun o => o.bind fun r => (C.phi[r]?).getD none), fun b => C.om b ∨ ∃ r c : Nat, some r ∉ sel ∧ r ∉ vw ∧ C.phi[r]? = some (some (b, c)), C.w, false⟩

section
variable {C : Ctx} {sel : List (Option Nat)} {vw : List Nat} {srows : List Row}

theorem callee_phi (hok : Ok C) (hg : getRows C.rows vw sel sel = some srows) {i r : Nat} (hi : sel[i]? = some (some r)) : (calleeCtx C sel vw srows).phi[i]? = C.phi[r]? := by
  obtain ⟨x, h1, _⟩ := (getRows_spec hg).2.1 i r hi
  have hr : r < C.phi.length := by rw [hok.plen]; exact (List.getElem?_eq_some_iff.1 h1).1
  simp [calleeCtx, hi, List.getElem?_eq_getElem hr]

theorem callee_phi_inv (hok : Ok C) (hg : getRows C.rows vw sel sel = some srows) {i b c : Nat} (h : (calleeCtx C sel vw srows).phi[i]? = some (some (b, c))) : ∃ r, sel[i]? = some (some r) ∧ C.phi[r]? = some (some (b, c)) := by
  cases hs : sel[i]? with
  | none => simp [calleeCtx, hs] at h
  | some o =>
    cases o with
    | none => simp [calleeCtx, hs] at h
    | some r => exact ⟨r, rfl, by rw [← callee_phi hok hg hs]; exact h⟩

theorem callee_keep (hok : Ok C) (hg : getRows C.rows vw sel sel = some srows) (b : Nat) (hb : C.pureBlk b) : (calleeCtx C sel vw srows).w.heap[b]? = C.w.heap[b]? ∧ (calleeCtx C sel vw srows).pureBlk b := by
  obtain ⟨h1, h2, h3⟩ := hb
  refine ⟨rfl, h1, ?_, fun i c hc => ?_⟩
  · rintro (h | ⟨r, c, _, _, h⟩)
    · exact h2 h
    · exact h3 r c h
  · obtain ⟨r, _, hr⟩ := callee_phi_inv hok hg hc
    exact h3 r c hr

/-- the block of a row that is lent does not change -/
theorem callee_view (hok : Ok C) (hg : getRows C.rows vw sel sel = some srows) {r b c : Nat} (hr : some r ∉ sel) (hv : r ∈ vw) (hp : C.phi[r]? = some (some (b, c))) (ho : ¬ C.om b) : (calleeCtx C sel vw srows).pureBlk b := by
  refine ⟨hok.lt hp, ?_, fun i c' hc => ?_⟩
  · rintro (h | ⟨r', c', h1, h2, h3⟩)
    · exact ho h
    · exact h2 (hok.inj _ _ _ _ _ h3 hp ▸ hv)
  · obtain ⟨r', h1, h2⟩ := callee_phi_inv hok hg hc
    have := hok.inj _ _ _ _ _ h2 hp
    subst this
    exact hr (List.mem_of_getElem? h1)

theorem view_repE (hok : Ok C) (hg : getRows C.rows vw sel sel = some srows) {b o sz : Nat} {vals : List (List AVal)} (hc : cleanE vals = true) (h : RepE C b o sz vals) : RepE (calleeCtx C sel vw srows).p b o sz vals := by
  obtain ⟨vs, h1, h2⟩ := (RepE.toP b sz o vals hc h).elems
  have h3 : Elems (calleeCtx C sel vw srows).p sz vals vs := ⟨h1.szs, RepL.keepP (C := C.p) (C' := (calleeCtx C sel vw srows).p) (fun x hx => callee_keep (C := C) hok hg x hx) rfl rfl _ _ h1.rep, h1.one⟩
  exact h3.repE h2

mutual
theorem Rep.bind (hok : Ok C) (hg : getRows C.rows vw sel sel = some srows) : ∀ (a : AVal) (v : Value), Rep C a v → Rep (calleeCtx C sel vw srows) (bindV C.rows sel vw a) v
  | .int .., _, r => by simpa [bindV, Rep] using r
  | .bool .., _, r => by simpa [bindV, Rep] using r
  | .str .., _, r => by simpa [bindV, Rep] using r
  | .nils, _, r => by simpa [bindV, Rep] using r
  | .nilp, _, r => by simpa [bindV, Rep] using r
  | .junk, _, _ => by simp [bindV, Rep]
  | .agg cs, v, r => by
    rw [Rep] at r; rw [bindV, Rep]
    obtain ⟨vs, rfl, hr⟩ := r
    exact ⟨vs, rfl, RepL.bind hok hg cs _ hr⟩
  | .tup cs, v, r => by
    rw [Rep] at r; rw [bindV, Rep]
    obtain ⟨vs, rfl, hr⟩ := r
    exact ⟨vs, rfl, RepL.bind hok hg cs _ hr⟩
  | .pure sz vals, v, r => by
    have e : bindV C.rows sel vw (.pure sz vals) = .pure sz vals := by simp [bindV]
    rw [Rep] at r; rw [e, Rep]
    obtain ⟨ao, cap, rfl, hle, hr⟩ := r
    refine ⟨ao, cap, rfl, hle, ?_⟩
    rcases hr with hr | ⟨b, o, rfl, hb, he⟩
    · exact .inl hr
    · exact .inr ⟨b, o, rfl, (callee_keep hok hg b hb).2, RepE.keepP (C := C.p) (C' := (calleeCtx C sel vw srows).p) (fun x hx => callee_keep (C := C) hok hg x hx) rfl rfl b o sz hb vals he⟩
  | .pref cells off, v, r => by
    have e : bindV C.rows sel vw (.pref cells off) = .pref cells off := by simp [bindV]
    rw [Rep] at r; rw [e, Rep]
    obtain ⟨b, o, rfl, hb, hc⟩ := r
    exact ⟨b, o, rfl, (callee_keep hok hg b hb).2, RepC.keepP (C := C.p) (C' := (calleeCtx C sel vw srows).p) (fun x hx => callee_keep (C := C) hok hg x hx) rfl rfl b o hb cells hc⟩
  | .own r n off len, v, hr => by
    rw [bindV]
    rw [Rep] at hr
    obtain ⟨hm, h0, h1, h2⟩ := hr
    split
    · rename_i i hi
      have hs := pos?_some hi
      obtain ⟨x, g1, g3⟩ := (getRows_spec hg).2.1 i r hs
      rw [Rep]
      refine ⟨rfl, h0, (List.getElem?_eq_some_iff.1 g3).1, fun e sz vals' hv => ?_⟩
      rw [show (calleeCtx C sel vw srows).rows = srows from rfl, g3] at hv
      simp only [Option.some.injEq] at hv
      obtain ⟨vals, rfl, rfl⟩ := bindRow_live hv
      rw [bindE_length]
      obtain ⟨k1, k2⟩ := h2 e sz vals g1
      refine ⟨by omega, fun hn => ?_⟩
      rw [callee_phi hok hg hs]
      exact k2 (by omega)
    · rename_i hi
      have hns := pos?_none hi
      split
      · rename_i hvw
        split
        · rename_i e sz vals hrow
          split
          · rename_i hc
            obtain ⟨hn, hol, hcl⟩ := hc
            obtain ⟨_, p, hp, hov⟩ := (h2 e sz vals hrow).2 hn
            have hlen : ((vals.drop off).take len).length = len := by rw [List.length_take, List.length_drop]; omega
            rw [Rep, hlen]
            rcases hok.live hrow with ⟨hl, hnil⟩ | ⟨b, cap, cs, hl, k1, k2, k3, k4, k5, k6⟩
            · rw [hp] at hl; simp at hl; subst hl
              simp only [ownv] at hov
              obtain ⟨⟨ao, rfl⟩, _, rfl⟩ := hov
              exact ⟨ao, 0, rfl, Nat.le_refl _, .inl rfl⟩
            · rw [hp] at hl; simp at hl; subst hl
              simp only [ownv] at hov
              obtain ⟨a, c, rfl, hlc, hsp, hbk, _, ho⟩ := hov
              refine ⟨some a, c, rfl, hlc, ?_⟩
              by_cases hz : len = 0
              · exact .inl hz
              · right
                have ha : a = ⟨b, off * sz, none⟩ := by
                  obtain ⟨x, y, z⟩ := a
                  simp only at hsp hbk ho
                  rw [hsp, hbk, ho (by omega)]
                refine ⟨b, off * sz, by rw [ha], callee_view hok hg hns (by simpa using hvw) hp k1, ?_⟩
                have := ((view_repE hok hg hcl k6).drop off).take len
                simpa using this
          · simp [Rep]
        · simp [Rep]
      · simp [Rep]
  | .ref r n i off, v, hr => by
    rw [bindV]
    rw [Rep] at hr
    obtain ⟨hm, h0, h1, h2⟩ := hr
    split
    · rename_i j hi
      have hs := pos?_some hi
      obtain ⟨x, g1, g3⟩ := (getRows_spec hg).2.1 j r hs
      rw [Rep]
      refine ⟨rfl, h0, (List.getElem?_eq_some_iff.1 g3).1, fun e sz vals' hv => ?_⟩
      rw [show (calleeCtx C sel vw srows).rows = srows from rfl, g3] at hv
      simp only [Option.some.injEq] at hv
      obtain ⟨vals, rfl, rfl⟩ := bindRow_live hv
      rw [bindE_length]
      obtain ⟨k1, k2⟩ := h2 e sz vals g1
      refine ⟨by omega, fun hn => ?_⟩
      rw [callee_phi hok hg hs]
      exact k2 (by omega)
    · rename_i hi
      have hns := pos?_none hi
      split
      · rename_i hvw
        split
        · rename_i e sz vals hrow
          split
          · rename_i hc
            obtain ⟨hn, hcl⟩ := hc
            obtain ⟨hin, b, c, hp, rfl⟩ := (h2 e sz vals hrow).2 hn
            rcases hok.live hrow with ⟨hl, hnil⟩ | ⟨b', cap, cs, hl, k1, k2, k3, k4, k5, k6⟩
            · rw [hp] at hl; simp at hl
            · rw [hp] at hl; simp at hl; obtain ⟨rfl, rfl⟩ := hl
              have := ((view_repE (sel := sel) (vw := vw) (srows := srows) hok hg hcl k6).get i (by omega)).2
              rw [Rep]
              refine ⟨b, i * sz, rfl, callee_view hok hg hns (by simpa using hvw) hp k1, ?_⟩
              simpa using this
          · simp [Rep]
        · simp [Rep]
      · simp [Rep]
theorem RepL.bind (hok : Ok C) (hg : getRows C.rows vw sel sel = some srows) : ∀ (as : List AVal) (vs : List Value), RepL C as vs → RepL (calleeCtx C sel vw srows) (bindL C.rows sel vw as) vs
  | [], vs, r => by simpa [bindL, RepL] using r
  | a :: as, vs, r => by
    rw [RepL] at r; rw [bindL, RepL]
    obtain ⟨v, rest, rfl, k1, k2⟩ := r
    exact ⟨v, rest, rfl, Rep.bind hok hg a v k1, RepL.bind hok hg as rest k2⟩
end

theorem bindL_append {rows : List Row} : ∀ (xs ys : List AVal), bindL rows sel vw (xs ++ ys) = bindL rows sel vw xs ++ bindL rows sel vw ys
  | [], ys => rfl
  | x :: xs, ys => by simp [bindL, bindL_append xs ys]

theorem cleanL_append : ∀ (xs ys : List AVal), cleanL xs = true → cleanL ys = true → cleanL (xs ++ ys) = true
  | [], ys, _, h => h
  | x :: xs, ys, hx, hy => by
    simp only [cleanL, Bool.and_eq_true] at hx
    simp only [List.cons_append, cleanL, Bool.and_eq_true]
    exact ⟨hx.1, cleanL_append xs ys hx.2 hy⟩

theorem cleanE_flatten : ∀ {es : List (List AVal)}, cleanE es = true → cleanL es.flatten = true
  | [], _ => rfl
  | e :: es, h => by
    simp only [cleanE, Bool.and_eq_true] at h
    rw [List.flatten_cons]
    exact cleanL_append _ _ h.1 (cleanE_flatten h.2)

theorem Elems.bind (hok : Ok C) (hg : getRows C.rows vw sel sel = some srows) {sz : Nat} {vals : List (List AVal)} {vs : List Value}
    (he : Elems C sz vals vs) : Elems (calleeCtx C sel vw srows) sz (bindE C.rows sel vw vals) vs := by
  unfold bindE
  split
  · rename_i hc
    refine ⟨he.szs, RepL.unp _ _ ?_, he.one⟩
    exact RepL.keepP (C := C.p) (C' := (calleeCtx C sel vw srows).p) (fun x hx => callee_keep (C := C) hok hg x hx) rfl rfl _ _ (RepL.toP _ _ (cleanE_flatten hc) he.rep)
  · refine ⟨fun e hm => ?_, ?_, he.one⟩
    · obtain ⟨x, hx, rfl⟩ := List.mem_map.1 hm
      rw [bindL_length]
      exact he.szs x hx
    · have hfl : ∀ es : List (List AVal), (es.map (bindL C.rows sel vw)).flatten = bindL C.rows sel vw es.flatten := by
        intro es
        induction es with
        | nil => rfl
        | cons e es ih => simp [bindL_append, ih]
      rw [hfl]
      exact RepL.bind hok hg _ _ he.rep

/-- no old row has two new names -/
def once (sel : List (Option Nat)) : Prop := ∀ i j r : Nat, sel[i]? = some (some r) → sel[j]? = some (some r) → i = j

theorem callee_ok (hok : Ok C) (hn : once sel) (hg : getRows C.rows vw sel sel = some srows) : Ok (calleeCtx C sel vw srows) := by
  obtain ⟨hl, hget, hdead⟩ := getRows_spec hg
  refine ⟨rfl, by simp [calleeCtx, hl], fun i row hi => ?_, fun i j b c c' h1 h2 => ?_, fun b hb => ?_⟩
  · have hil : i < sel.length := by rw [← hl]; exact (List.getElem?_eq_some_iff.1 hi).1
    have hi' : srows[i]? = some row := hi
    cases ho : sel[i] with
    | none =>
      have := hdead i (by rw [List.getElem?_eq_getElem hil, ho])
      rw [hi'] at this
      simp at this; subst this
      rw [RowOk]
      simp [calleeCtx, List.getElem?_eq_getElem hil, ho]
    | some r =>
      have hsi : sel[i]? = some (some r) := by rw [List.getElem?_eq_getElem hil, ho]
      obtain ⟨x, g1, g3⟩ := hget i r hsi
      rw [hi'] at g3
      simp at g3; subst g3
      have hphi := callee_phi hok hg hsi
      cases x with
      | dead => rw [bindRow, RowOk, hphi]; exact hok.rows _ _ g1
      | live e sz vals =>
        rw [bindRow, RowOk, hphi]
        rcases hok.live g1 with ⟨h1, rfl⟩ | ⟨b, cap, cs, h1, k1, k2, k3, k4, k5, k6⟩
        · exact ⟨none, h1, by simp [bindE, cleanE]⟩
        · obtain ⟨vs, e1, e2⟩ := k6.elems
          refine ⟨_, h1, ?_, cs, k2, k3, k4, by rw [bindE_length]; exact k5, (Elems.bind hok hg e1).repE e2⟩
          rintro (h | ⟨r', c, m1, _, m3⟩)
          · exact k1 h
          · have := hok.inj _ _ _ _ _ m3 h1
            subst this
            exact m1 (List.mem_of_getElem? hsi)
  · obtain ⟨r, s1, p1⟩ := callee_phi_inv hok hg h1
    obtain ⟨r', s2, p2⟩ := callee_phi_inv hok hg h2
    have := hok.inj _ _ _ _ _ p1 p2
    subst this
    exact hn i j r s1 s2
  · rcases hb with h | ⟨r, c, _, _, h⟩
    · exact hok.om b h
    · exact hok.lt h

end
end Go.Abs
