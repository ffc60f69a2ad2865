/- Each operation does what its abstract form says (1). -/
import Derived.Test.YtjacobmkfkmdiaaAbs6
set_option linter.unusedSimpArgs false
set_option linter.unusedVariables false
set_option linter.unusedSectionVars false
namespace Go.Abs

def Runs (P : Program) (C : Ctx) (s : Sem Next) (K : AVal → List Row → Prop) : Prop :=
  ∃ n cv v C', s.run P C.w = .ok n C'.w ∧ (n = .value cv ∨ (n = .skip ∧ cv = undef)) ∧ Rep C' v cv ∧ Ok C' ∧ Later C.rows.length C C' ∧ K v C'.rows

theorem repL0 {C : Ctx} {as : List AVal} (h : RepL C as []) : as = [] := by
  have := h.length; simp at this; exact List.eq_nil_of_length_eq_zero this.symm

theorem repL1 {C : Ctx} {as : List AVal} {v : Value} (h : RepL C as [v]) : ∃ a, as = [a] ∧ Rep C a v := by
  cases as with
  | nil => rw [RepL] at h; cases h
  | cons a as =>
    rw [RepL] at h
    obtain ⟨u, rest, he, h1, h2⟩ := h
    simp at he; obtain ⟨rfl, rfl⟩ := he
    rw [repL0 h2]; exact ⟨a, rfl, h1⟩

theorem repL2 {C : Ctx} {as : List AVal} {v w : Value} (h : RepL C as [v, w]) : ∃ a b, as = [a, b] ∧ Rep C a v ∧ Rep C b w := by
  cases as with
  | nil => rw [RepL] at h; cases h
  | cons a as =>
    rw [RepL] at h
    obtain ⟨u, rest, he, h1, h2⟩ := h
    simp at he; obtain ⟨rfl, rfl⟩ := he
    obtain ⟨b, rfl, hb⟩ := repL1 h2
    exact ⟨a, b, rfl, h1, hb⟩

theorem repL3 {C : Ctx} {as : List AVal} {v w x : Value} (h : RepL C as [v, w, x]) : ∃ a b c, as = [a, b, c] ∧ Rep C a v ∧ Rep C b w ∧ Rep C c x := by
  cases as with
  | nil => rw [RepL] at h; cases h
  | cons a as =>
    rw [RepL] at h
    obtain ⟨u, rest, he, h1, h2⟩ := h
    simp at he; obtain ⟨rfl, rfl⟩ := he
    obtain ⟨b, c, rfl, hb, hc⟩ := repL2 h2
    exact ⟨a, b, c, rfl, h1, hb, hc⟩

section
variable {P : Program} {C : Ctx} {K : AVal → List Row → Prop}

theorem Runs.of (hok : Ok C) {s : Sem Value} {v : AVal} {cv : Value} (hs : s.run P C.w = .ok cv C.w) (hr : Rep C v cv) (hk : K v C.rows) :
    Runs P C (do pure (.value (← s))) K :=
  ⟨.value cv, cv, v, C, by simp [hs], .inl rfl, hr, hok, Later.refl C, hk⟩

theorem Runs.of' {C' : Ctx} (hok : Ok C') (hl : Later C.rows.length C C') {s : Sem Value} {v : AVal} {cv : Value} (hs : s.run P C.w = .ok cv C'.w) (hr : Rep C' v cv) (hk : K v C'.rows) :
    Runs P C (do pure (.value (← s))) K :=
  ⟨.value cv, cv, v, C', by simp [hs], .inl rfl, hr, hok, hl, hk⟩

theorem Runs.unit {C' : Ctx} (hok : Ok C') (hl : Later C.rows.length C C') {s : Sem Unit} (hs : s.run P C.w = .ok () C'.w) (hk : K (.tup []) C'.rows) :
    Runs P C (do s; pure .skip) K :=
  ⟨.skip, undef, .tup [], C', by simp [hs], .inr ⟨rfl, rfl⟩, by rw [Rep]; exact ⟨#[], rfl, by simp [RepL]⟩, hok, hl, hk⟩

theorem RepC.get {b o : Nat} {cells : List AVal} (j : Nat) (h : RepC C b o cells) (hj : j < cells.length) :
    ∃ v, C.w.cell? ⟨b, o + j, none⟩ = some v ∧ Rep C (cells.getD j .junk) v := by
  obtain ⟨vs, h1, h2, _⟩ := RepC_iff.1 h
  obtain ⟨v, k1, k2⟩ := h1.get j hj
  exact ⟨v, h2 j v k1, k2⟩

theorem addr_add (b o n : Nat) : (⟨b, o, none⟩ : Addr).add n = ⟨b, o + n, none⟩ := by
  unfold Addr.add; split <;> simp_all

theorem run_isAgg {t : TypeId} {x : Bool} (h : isAggT P t = some x) (w : World) : (isAgg t).run P w = .ok x w := by
  unfold isAggT at h
  cases hd : P.underlying t with
  | none => rw [hd] at h; simp at h
  | some d =>
    rw [hd] at h
    unfold isAgg
    simp only [Sem.run_bind, run_underlying hd, Result.andThen_ok]
    cases d <;> simp at h <;> subst h <;> simp

theorem run_sizeOf {t : TypeId} {n : Nat} (h : sizeT P t = some n) (w : World) : (sizeOf t).run P w = .ok n w := by
  unfold sizeT at h
  cases hi : P.info? t with
  | none => rw [hi] at h; simp at h
  | some i => rw [hi] at h; simp at h; subst h; simp [sizeOf, typeInfo, hi]

theorem run_zero {t : TypeId} {i : TypeInfo} {z : Value} (hi : P.info? t = some i) (hz : i.zero = some z) (w : World) : (zeroValue t).run P w = .ok z w := by
  simp [zeroValue, typeInfo, hi, hz]

/-- cells at an address, by a list -/
theorem run_loadC {b o : Nat} {vs : List Value} {w : World} (h : CellsAt w b o vs) : (loadCells ⟨b, o, none⟩ vs.length).run P w = .ok vs.toArray w :=
  run_loadCells_list w ⟨b, o, none⟩ vs fun j v hj => by rw [addr_add]; exact h j v hj

theorem run_load1 (hok : Ok C) {t : TypeId} {x : AVal} {cx : Value} (hr : Rep C x cx) (ha : isAggT P t = some false)
    (h : evLoad1 C.rows x fun v => K v C.rows) : ∃ cv v, (Instr.loadAt t cx).run P C.w = .ok cv C.w ∧ Rep C v cv ∧ K v C.rows := by
  cases x <;> simp only [evLoad1] at h
  case ref r n i off =>
    split at h
    · rename_i e sz vals hrow
      obtain ⟨hn, hoff, hk⟩ := h
      rw [Rep] at hr
      obtain ⟨_, _, hrl, hr⟩ := hr
      obtain ⟨hi, b, c, hp, rfl⟩ := (hr e sz vals hrow).2 hn
      rcases hok.live hrow with ⟨hl, _⟩ | ⟨b', cap, cs, hl, h1, h2, h3, h4, h5, h6⟩
      · rw [hp] at hl; simp at hl
      · rw [hp] at hl; simp at hl; obtain ⟨rfl, rfl⟩ := hl
        obtain ⟨k1, k2⟩ := h6.get i (by omega)
        obtain ⟨v, c1, c2⟩ := k2.get off (by omega)
        refine ⟨v, _, ?_, c2, hk⟩
        simp only [Nat.zero_add] at c1
        simp [Instr.loadAt, Instr.sureAddr, loadVar, run_isAgg ha, c1]
    · exact h.elim
  case pref cells off =>
    rw [Rep] at hr
    obtain ⟨b, o, rfl, hb, hc⟩ := hr
    have hc := RepC.unp b o cells hc
    obtain ⟨v, c1, c2⟩ := hc.get off h.1
    refine ⟨v, _, ?_, c2, h.2⟩
    simp [Instr.loadAt, Instr.sureAddr, loadVar, run_isAgg ha, c1]

theorem run_loadA (hok : Ok C) {t : TypeId} {m : Nat} {x : AVal} {cx : Value} (hr : Rep C x cx) (ha : isAggT P t = some true) (hs : sizeT P t = some m)
    (h : evLoadA C.rows m x fun v => K v C.rows) : ∃ cv v, (Instr.loadAt t cx).run P C.w = .ok cv C.w ∧ Rep C v cv ∧ K v C.rows := by
  have key : ∀ {b o : Nat} {cells : List AVal}, RepC C b o cells → cells.length = m → ∃ cv, (Instr.loadAt t (.pointer (some ⟨b, o, none⟩))).run P C.w = .ok cv C.w ∧ Rep C (.agg cells) cv := by
    intro b o cells hc hl
    obtain ⟨vs, h1, h2, _⟩ := RepC_iff.1 hc
    have := h1.length
    refine ⟨.agg vs.toArray, ?_, by rw [Rep]; exact ⟨_, rfl, by simpa using h1⟩⟩
    have hload := run_loadC (P := P) h2
    rw [show vs.length = m from by omega] at hload
    simp [Instr.loadAt, Instr.sureAddr, loadVar, run_isAgg ha, run_sizeOf hs, hload]
  cases x <;> simp only [evLoadA] at h
  case ref r n i off =>
    split at h
    · rename_i e sz vals hrow
      obtain ⟨hn, hoff, hk⟩ := h
      rw [Rep] at hr
      obtain ⟨_, _, hrl, hr⟩ := hr
      obtain ⟨hi, b, c, hp, rfl⟩ := (hr e sz vals hrow).2 hn
      rcases hok.live hrow with ⟨hl, _⟩ | ⟨b', cap, cs, hl, h1, h2, h3, h4, h5, h6⟩
      · rw [hp] at hl; simp at hl
      · rw [hp] at hl; simp at hl; obtain ⟨rfl, rfl⟩ := hl
        obtain ⟨k1, k2⟩ := h6.get i (by omega)
        have k3 := (k2.drop off).take m
        rw [Nat.zero_add] at k3
        obtain ⟨cv, c1, c2⟩ := key k3 (by rw [List.length_take, List.length_drop]; omega)
        exact ⟨cv, _, c1, c2, hk⟩
    · exact h.elim
  case pref cells off =>
    rw [Rep] at hr
    obtain ⟨b, o, rfl, hb, hc⟩ := hr
    have hc := RepC.unp b o cells hc
    obtain ⟨cv, c1, c2⟩ := key ((hc.drop off).take m) (by rw [List.length_take, List.length_drop]; omega)
    exact ⟨cv, _, c1, c2, h.2⟩

theorem run_store' (hok : Ok C) {t : TypeId} {m : Nat} {x y : AVal} {cx cy : Value} (hr : Rep C x cx) (hy : Rep C y cy) (hs : sizeT P t = some m) {K : List Row → Prop}
    (h : evStore C.rows m x y K) : ∃ C', (Instr.storeAt t cx cy).run P C.w = .ok () C'.w ∧ Ok C' ∧ Later C.rows.length C C' ∧ K C'.rows := by
  cases x <;> simp only [evStore] at h
  case ref r n i off =>
    split at h
    · rename_i e sz vals hrow
      obtain ⟨hn, hoff, hlen, hone, hk⟩ := h
      rw [Rep] at hr
      obtain ⟨_, _, hrl, hr⟩ := hr
      obtain ⟨hi, b, c, hp, rfl⟩ := (hr e sz vals hrow).2 hn
      rcases hok.live hrow with ⟨hl, _⟩ | ⟨b', cap, cs, hl, h1, h2, h3, h4, h5, h6⟩
      · rw [hp] at hl; simp at hl
      · rw [hp] at hl; simp at hl; obtain ⟨rfl, rfl⟩ := hl
        obtain ⟨vs, he, hca⟩ := h6.elems
        have htake := take_of_cellsAt h2 hca
        have hvl := he.length
        obtain ⟨c1, c2⟩ := cells_rep hy hone
        have hcl := c1.length
        have hil : (i + 1) * sz ≤ vals.length * sz := Nat.mul_le_mul_right _ (by omega)
        have hcap : vals.length * sz ≤ c * sz := Nat.mul_le_mul_right _ h5
        rw [Nat.add_mul] at hil
        have hst := run_storeCells_at P b (i * sz + off) e cy.cells.toList 0 cs C.w h2 (by omega) c2
        simp only [Nat.add_zero] at hst
        have hsz : cy.cells.size = m := by have := hcl; simp only [Array.length_toList] at this; omega
        have hnew := set_row hok hrow hp b c (cs.toList.take (i * sz + off) ++ cy.cells.toList ++ cs.toList.drop (i * sz + off + cy.cells.toList.length)).toArray
          (vals.set i (splice (vals.getD i []) off (acells y))) (vs.take (i * sz + off) ++ cy.cells.toList ++ vs.drop (i * sz + off + cy.cells.toList.length))
          (C.w.setRow b (cs.toList.take (i * sz + off) ++ cy.cells.toList ++ cs.toList.drop (i * sz + off + cy.cells.toList.length)).toArray)
          ⟨rfl, rfl, rfl, by simp, fun k _ hk' => setRow_other C.w b k _ (fun e => hk' (by simp [e]))⟩ (.inl rfl) (setRow_heap C.w b cs _ e _ h2)
          (by simp only [List.size_toArray, List.length_append, List.length_take, List.length_drop, Array.length_toList]; simp only [Array.length_toList] at hcl; omega)
          h4 (by simpa using h5)
          ⟨fun x hx => ?_, ?_, he.one.splice c2⟩ ?_ (by simp) (fun _ => rfl)
        · refine ⟨⟨C.rows.set r (.live e sz (vals.set i (splice (vals.getD i []) off (acells y)))), C.phi.set r (some (b, c)), C.om, C.w.setRow b (cs.toList.take (i * sz + off) ++ cy.cells.toList ++ cs.toList.drop (i * sz + off + cy.cells.toList.length)).toArray, C.pm⟩, ?_, hnew.1, hnew.2, hk⟩
          simp only [Instr.storeAt, Instr.sureAddr, storeVar, Sem.run_bind, Sem.run_pure, Result.andThen_ok, run_sizeOf hs]
          rw [if_neg (by simpa using hsz)]
          simp only [Sem.run_bind, Sem.run_pure, Result.andThen_ok, hst]
        · rcases List.mem_or_eq_of_mem_set hx with hx | rfl
          · exact he.szs x hx
          · have hmem : vals.getD i [] ∈ vals := by
              rw [List.getD_eq_getElem?_getD, List.getElem?_eq_getElem (by omega)]; simp
            have hl2 := he.szs _ hmem
            rw [splice_length (by omega)]
            exact hl2
        · rw [flatten_set (sz := sz) (acells y) off vals i he.szs (by omega) (by omega)]
          exact he.rep.splice c1
        · simp only [List.length_append, List.length_take, List.length_drop]
          have hvc : vs.length ≤ cs.toList.length := by simp only [Array.length_toList]; omega
          have e1 : min (i * sz + off) vs.length + cy.cells.toList.length + (vs.length - (i * sz + off + cy.cells.toList.length)) = vs.length := by omega
          rw [e1]
          show List.take vs.length (cs.toList.take (i * sz + off) ++ cy.cells.toList ++ cs.toList.drop (i * sz + off + cy.cells.toList.length)) = _
          rw [splice_take cs.toList cy.cells.toList vs.length (i * sz + off) (by omega) hvc, htake]
    · exact h.elim

end
end Go.Abs
