/- States: what is known of the slots; what may be forgotten, renamed or added without an operation. -/
import Derived.Test.YtjacobmkfkmdiaaAbs16
import Derived.Deep.LoopGhost
set_option linter.unusedSimpArgs false
set_option linter.unusedVariables false
set_option linter.unusedSectionVars false
namespace Go.Abs

abbrev Env := List (Nat × AVal)

def slot : Env → Nat → AVal
  | [], _ => .junk
  | (s, v) :: r, t => if s = t then v else slot r t

structure Sim (n : Nat) (env : Env) (C : Ctx) (a : Act) : Prop where
  ok : Ok C
  size : a.tmps.size = n
  defers : a.defers = []
  slots : ∀ t, Rep C (slot env t) (a.tmps.getD t undef)

/-- the new names of the first n rows: as they were, or gone -/
def keeps (n0 : Nat) (sel : List (Option Nat)) : Prop := n0 ≤ sel.length ∧ ∀ i, i < n0 → sel[i]? = some (some i) ∨ sel[i]? = some none

inductive Wk (n0 : Nat) : Env → List Row → Env → List Row → Prop
  | refl (env : Env) (rows : List Row) : Wk n0 env rows env rows
  | trans {e1 e2 e3 : Env} {r1 r2 r3 : List Row} (h : Wk n0 e1 r1 e2 r2) (k : Wk n0 e2 r2 e3 r3) : Wk n0 e1 r1 e3 r3
  | env {e1 e2 : Env} {rows : List Row} (h : ∀ t, slot e2 t = slot e1 t ∨ slot e2 t = .junk) : Wk n0 e1 rows e2 rows
  | ghost {env : Env} {rows : List Row} (s : Nat) (e : TypeId) (sz : Nat) (h : slot env s = .nils) : Wk n0 env rows ((s, .own rows.length 0 0 0) :: env) (rows ++ [.live e sz []])
  | ghostC {env : Env} {rows : List Row} {e' : TypeId} {sz' : Nat} {vals : List (List AVal)} (r i off : Nat) (e : TypeId) (sz : Nat) (h : rows[r]? = some (.live e' sz' vals)) (hi : i < vals.length) (ho : off < sz')
      (hv : (vals.getD i []).getD off .junk = .nils) : Wk n0 env rows env (rows.set r (.live e' sz' (vals.set i (splice (vals.getD i []) off [.own rows.length 0 0 0]))) ++ [.live e sz []])
  | tr {env : Env} {rows srows : List Row} (sel : List (Option Nat)) (vw : List Nat) (h1 : once sel) (h2 : keeps n0 sel) (hg : getRows rows vw sel sel = some srows) :
      Wk n0 env rows (env.map fun p => (p.1, bindV rows sel vw p.2)) srows

theorem slot_map (f : AVal → AVal) (hf : f .junk = .junk) : ∀ (env : Env) (t : Nat), slot (env.map fun p => (p.1, f p.2)) t = f (slot env t)
  | [], t => by simp [slot, hf]
  | (s, v) :: r, t => by
    simp only [List.map_cons, slot]
    split
    · rfl
    · exact slot_map f hf r t

/-- fewer blocks that others own -/
theorem Ext.om {C : Ctx} {om' : Nat → Prop} (h : ∀ b, om' b → C.om b) : Ext C { C with om := om' } :=
  ⟨rfl, fun b hb => ⟨rfl, hb.1, fun ho => hb.2.1 (h b ho), hb.2.2⟩, Nat.le_refl _, fun _ _ _ vals _ h => ⟨vals, h, Nat.le_refl _, fun _ => rfl⟩⟩

theorem wk_sound {n n0 : Nat} {C0 : Ctx} {a : Act} {env : Env} {rows : List Row} {env' : Env} {rows' : List Row} (h : Wk n0 env rows env' rows') : ∀ (C : Ctx), C.rows = rows → Sim n env C a → Later n0 C0 C →
    ∃ C', C'.w = C.w ∧ C'.rows = rows' ∧ Sim n env' C' a ∧ Later n0 C0 C' := by
  induction h with
  | refl env rows => intro C hr hs hl; exact ⟨C, rfl, hr, hs, hl⟩
  | trans _ _ ih1 ih2 =>
    intro C hr hs hl
    obtain ⟨C1, a1, a2, a3, a4⟩ := ih1 C hr hs hl
    obtain ⟨C2, b1, b2, b3, b4⟩ := ih2 C1 a2 a3 a4
    exact ⟨C2, b1.trans a1, b2, b3, b4⟩
  | env h =>
    intro C hr hs hl
    refine ⟨C, rfl, hr, ⟨hs.ok, hs.size, hs.defers, fun t => ?_⟩, hl⟩
    rcases h t with h | h
    · rw [h]; exact hs.slots t
    · rw [h]; simp [Rep]
  | @ghost env rows s e sz h =>
    intro C hr hs hl
    subst hr
    obtain ⟨h1, h2⟩ := push_nil hs.ok e sz
    refine ⟨⟨C.rows ++ [.live e sz []], C.phi ++ [none], C.om, C.w, C.pm⟩, rfl, rfl, ⟨h1, hs.size, hs.defers, fun t => ?_⟩, hl.trans h2 hl.len⟩
    simp only [slot]
    split
    · rename_i hst
      subst hst
      have := hs.slots s
      rw [h, Rep] at this
      obtain ⟨ao, this⟩ := this
      rw [this, Rep]
      refine ⟨hs.ok.pm, ⟨_, _, rfl⟩, by simp, fun e2 sz2 vals2 hv => ?_⟩
      simp at hv
      obtain ⟨rfl, rfl, rfl⟩ := hv
      exact ⟨by simp, fun _ => ⟨by simp, none, by simp [← hs.ok.plen], ⟨_, rfl⟩, rfl, rfl⟩⟩
    · exact Rep.ext h2.ext _ _ (hs.slots t)
  | @ghostC env rows e' sz' vals r i off e sz h hi ho hv =>
    intro C hr hs hl
    subst hr
    have hok := hs.ok
    have hrl : r < C.rows.length := (List.getElem?_eq_some_iff.1 h).1
    -- the new context
    have later : Later C.rows.length C ⟨C.rows.set r (.live e' sz' (vals.set i (splice (vals.getD i []) off [.own C.rows.length 0 0 0]))) ++ [.live e sz []], C.phi ++ [none], C.om, C.w, C.pm⟩ := by
      refine ⟨rfl, rfl, rfl, Nat.le_refl _, fun _ _ _ => rfl, fun k b c hk => ?_, rfl, rfl, by simp, fun k e2 sz2 vals2 hk hv2 => ?_⟩
      · simp only [List.getElem?_append] at hk
        split at hk
        · exact .inl ⟨k, c, hk⟩
        · cases hz : k - C.phi.length with
          | zero => rw [hz] at hk; simp at hk
          | succ m => rw [hz] at hk; simp at hk
      · have hpk : (C.phi ++ [none])[k]? = C.phi[k]? := by
          rw [List.getElem?_append, if_pos (by rw [hok.plen]; exact hk)]
        simp only [List.getElem?_append, List.length_set, hk, if_true, List.getElem?_set] at hv2
        split at hv2
        · rename_i hrk
          subst hrk
          simp at hv2
          obtain ⟨rfl, rfl, rfl⟩ := hv2
          exact ⟨vals, h, by simp, fun _ => hpk⟩
        · exact ⟨vals2, hv2, Nat.le_refl _, fun _ => hpk⟩
    have hnewlen : (C.rows.set r (.live e' sz' (vals.set i (splice (vals.getD i []) off [.own C.rows.length 0 0 0]))) ++ [Row.live e sz []]).length = C.rows.length + 1 := by simp
    have newRep : ∀ ao, Rep ⟨C.rows.set r (.live e' sz' (vals.set i (splice (vals.getD i []) off [.own C.rows.length 0 0 0]))) ++ [.live e sz []], C.phi ++ [none], C.om, C.w, C.pm⟩ (.own C.rows.length 0 0 0) (.slice ao 0 0) := by
      intro ao
      rw [Rep]
      refine ⟨hok.pm, ⟨_, _, rfl⟩, by simp, fun e2 sz2 vals2 hv2 => ?_⟩
      simp at hv2
      obtain ⟨rfl, rfl, rfl⟩ := hv2
      exact ⟨by simp, fun _ => ⟨by simp, none, by simp [← hok.plen], ⟨_, rfl⟩, rfl, rfl⟩⟩
    refine ⟨⟨C.rows.set r (.live e' sz' (vals.set i (splice (vals.getD i []) off [.own C.rows.length 0 0 0]))) ++ [.live e sz []], C.phi ++ [none], C.om, C.w, C.pm⟩, rfl, rfl, ⟨⟨hok.pm, by simp [hok.plen], fun k row hk => ?_, fun k k' b c c' h1 h2 => ?_, hok.om⟩, hs.size, hs.defers, fun t => Rep.ext later.ext _ _ (hs.slots t)⟩, hl.trans later hl.len⟩
    · have hpk : k < C.rows.length → (C.phi ++ [none])[k]? = C.phi[k]? := fun hk => by rw [List.getElem?_append, if_pos (by rw [hok.plen]; exact hk)]
      by_cases hk1 : k < C.rows.length
      · simp only [List.getElem?_append, List.length_set, hk1, if_true, List.getElem?_set] at hk
        split at hk
        · rename_i hrk
          subst hrk
          simp only [Option.some.injEq] at hk
          subst hk
          rw [RowOk]
          rcases hok.live h with ⟨p1, rfl⟩ | ⟨b, cap, cs, p1, k1, k2, k3, k4, k5, k6⟩
          · simp at hi
          · refine ⟨some (b, cap), (hpk hk1).trans p1, k1, cs, k2, k3, k4, by simpa using k5, ?_⟩
            obtain ⟨vs, e1, e2⟩ := k6.elems
            have hmem : vals.getD i [] ∈ vals := by rw [List.getD_eq_getElem?_getD, List.getElem?_eq_getElem hi]; simp
            have hel := e1.szs _ hmem
            have e1' := e1.ext later.ext
            refine Elems.repE (vs := vs) ⟨fun x hx => ?_, ?_, e1.one⟩ e2
            · rcases List.mem_or_eq_of_mem_set hx with hx | rfl
              · exact e1.szs x hx
              · rw [splice_length (by simp only [List.length_singleton]; omega)]; exact hel
            · rw [flatten_set (sz := sz') [.own C.rows.length 0 0 0] off vals i e1.szs hi (by simp; omega)]
              -- the cell held the nil slice
              obtain ⟨c1, c2⟩ := k6.get i hi
              obtain ⟨v, g1, g2⟩ := c2.get off (by omega)
              rw [hv, Rep] at g2
              obtain ⟨ao, rfl⟩ := g2
              have hvl := e1.length
              have hil : (i + 1) * sz' ≤ vals.length * sz' := Nat.mul_le_mul_right _ (by omega)
              rw [Nat.add_mul] at hil
              have hlt : i * sz' + off < vs.length := by omega
              have hcell : vs[i * sz' + off]? = some (.slice ao 0 0) := by
                obtain ⟨u, hu⟩ : ∃ u, vs[i * sz' + off]? = some u := ⟨_, List.getElem?_eq_getElem hlt⟩
                have := e2 _ _ hu
                rw [Nat.zero_add] at this g1
                rw [g1] at this
                rw [hu]; exact this.symm
              have hsp : vs = vs.take (i * sz' + off) ++ [.slice ao 0 0] ++ vs.drop (i * sz' + off + 1) := by
                conv => lhs; rw [← List.take_append_drop (i * sz' + off) vs, List.drop_eq_getElem_cons hlt]
                rw [List.getElem?_eq_getElem hlt] at hcell
                simp at hcell
                rw [hcell]; simp
              rw [hsp]
              refine RepL.append (RepL.append ?_ ?_) ?_
              · exact e1'.rep.take _
              · rw [RepL]; exact ⟨_, [], rfl, newRep ao, by rw [RepL]⟩
              · exact e1'.rep.drop _
        · rename_i hne
          exact RowOk.move later.ext rfl (hpk hk1) (fun b c hb => rfl) (hok.rows k row hk)
      · have hk2 : k = C.rows.length := by
          have := (List.getElem?_eq_some_iff.1 hk).1
          rw [hnewlen] at this; omega
        subst hk2
        simp at hk
        subst hk
        rw [RowOk]
        exact ⟨none, by simp [← hok.plen], rfl⟩
    · have old : ∀ {k : Nat} {q : Nat × Nat}, (C.phi ++ [none])[k]? = some (some q) → C.phi[k]? = some (some q) := by
        intro k q hk
        simp only [List.getElem?_append] at hk
        split at hk
        · exact hk
        · cases hz : k - C.phi.length with
          | zero => rw [hz] at hk; simp at hk
          | succ m => rw [hz] at hk; simp at hk
      exact hok.inj k k' b c c' (old h1) (old h2)
  | @tr env rows srows sel vw h1 h2 hg =>
    intro C hr hs hl
    subst hr
    have hok := hs.ok
    have hc := callee_ok hok h1 hg
    obtain ⟨hsl, hget, hdead⟩ := getRows_spec hg
    have hext : Ext (calleeCtx C sel vw srows) { calleeCtx C sel vw srows with om := C.om } := Ext.om fun b hb => .inl hb
    refine ⟨{ calleeCtx C sel vw srows with om := C.om }, rfl, rfl, ⟨⟨rfl, hc.plen, fun i row hi => ?_, hc.inj, hok.om⟩, hs.size, hs.defers, fun t => ?_⟩, ?_⟩
    · have := hc.rows i row hi
      cases row with
      | dead => exact this
      | live e sz vals =>
        rw [RowOk] at this ⊢
        obtain ⟨p, p1, p2⟩ := this
        refine ⟨p, p1, ?_⟩
        cases p with
        | none => exact p2
        | some q =>
          obtain ⟨b, cap⟩ := q
          obtain ⟨k1, cs, k2, k3, k4, k5, k6⟩ := p2
          exact ⟨fun ho => k1 (.inl ho), cs, k2, k3, k4, k5, k6.move hext rfl⟩
    · rw [slot_map (bindV C.rows sel vw) (by simp [bindV])]
      exact Rep.ext hext _ _ (Rep.bind hok hg _ _ (hs.slots t))
    · have hstep : Later n0 C { calleeCtx C sel vw srows with om := C.om } := by
        refine ⟨rfl, rfl, rfl, Nat.le_refl _, fun _ _ _ => rfl, fun i b c hi => ?_, rfl, hok.pm.symm, by show n0 ≤ srows.length; rw [hsl]; exact h2.1, fun i e sz vals' hi hv => ?_⟩
        · obtain ⟨r, _, hr⟩ := callee_phi_inv hok hg hi
          exact .inl ⟨r, c, hr⟩
        · rcases h2.2 i hi with hsi | hsi
          · obtain ⟨x, g1, g3⟩ := hget i i hsi
            have hv' : srows[i]? = some (.live e sz vals') := hv
            rw [g3] at hv'
            simp only [Option.some.injEq] at hv'
            obtain ⟨vals, rfl, rfl⟩ := bindRow_live hv'
            exact ⟨vals, g1, by rw [bindE_length]; exact Nat.le_refl _, fun _ => callee_phi hok hg hsi⟩
          · have hv' : srows[i]? = some (.live e sz vals') := hv
            rw [hdead i hsi] at hv'
            cases hv'
      exact hl.trans hstep (Nat.le_refl _)

/-- K holds behind some forgetting, renaming and adding -/
def Cl (n0 : Nat) (K : Env → List Row → Prop) (env : Env) (rows : List Row) : Prop := ∃ env' rows', Wk n0 env rows env' rows' ∧ K env' rows'

theorem Cl.here {n0 : Nat} {K : Env → List Row → Prop} {env : Env} {rows : List Row} (h : K env rows) : Cl n0 K env rows := ⟨env, rows, .refl _ _, h⟩

theorem Cl.step {n0 : Nat} {K : Env → List Row → Prop} {env env' : Env} {rows rows' : List Row} (w : Wk n0 env rows env' rows') (h : Cl n0 K env' rows') : Cl n0 K env rows := by
  obtain ⟨e, r, h1, h2⟩ := h
  exact ⟨e, r, w.trans h1, h2⟩

end Go.Abs
