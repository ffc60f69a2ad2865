/- Contexts that change: a new row, a row whose elements change. -/
import Derived.Test.YtjacobmkfkmdiaaAbs2
set_option linter.unusedSimpArgs false
set_option linter.unusedVariables false
set_option linter.unusedSectionVars false
namespace Go.Abs

theorem RowOk.move {C C' : Ctx} {r : Nat} {row : Row} (h : Ext C C') (ho : C'.om = C.om) (hp : C'.phi[r]? = C.phi[r]?)
    (hw : ∀ b c, C.phi[r]? = some (some (b, c)) → C'.w.heap[b]? = C.w.heap[b]?) (k : RowOk C r row) : RowOk C' r row := by
  cases row with
  | dead => rw [RowOk] at k ⊢; rw [hp]; exact k
  | live e sz vals =>
    rw [RowOk] at k ⊢
    obtain ⟨p, h1, h2⟩ := k
    refine ⟨p, hp.trans h1, ?_⟩
    cases p with
    | none => exact h2
    | some q =>
      obtain ⟨b, cap⟩ := q
      obtain ⟨k1, cs, k2, k3, k4, k5, k6⟩ := h2
      have := hw b cap h1
      exact ⟨by rw [ho]; exact k1, cs, by rw [this]; exact k2, k3, k4, k5, k6.move h this⟩

theorem Ok.lt {C : Ctx} (h : Ok C) {r b c : Nat} (hp : C.phi[r]? = some (some (b, c))) : b < C.w.heap.size := by
  have hr : r < C.rows.length := by
    rw [← h.plen]
    rcases Nat.lt_or_ge r C.phi.length with h | h
    · exact h
    · rw [List.getElem?_eq_none h] at hp; cases hp
  have := h.rows r _ (List.getElem?_eq_getElem hr)
  cases hrow : C.rows[r] with
  | dead => rw [hrow, RowOk, hp] at this; cases this
  | live e sz vals =>
    rw [hrow, RowOk, hp] at this
    obtain ⟨p, hp', h2⟩ := this
    cases hp'
    obtain ⟨_, cs, k2, _⟩ := h2
    exact (Array.getElem?_eq_some_iff.1 k2).1

/-- the facts on a live row with a block -/
theorem Ok.live {C : Ctx} (h : Ok C) {r : Nat} {e : TypeId} {sz : Nat} {vals : List (List AVal)} (hr : C.rows[r]? = some (.live e sz vals)) :
    (C.phi[r]? = some none ∧ vals = []) ∨ ∃ b cap cs, C.phi[r]? = some (some (b, cap)) ∧ ¬ C.om b ∧ C.w.heap[b]? = some (.cells cs e (0, 0)) ∧ cs.size = cap * sz ∧ cap ≤ maxLen ∧ vals.length ≤ cap ∧ RepE C b 0 sz vals := by
  have := h.rows r _ hr
  rw [RowOk] at this
  obtain ⟨p, h1, h2⟩ := this
  cases p with
  | none => exact .inl ⟨h1, h2⟩
  | some q =>
    obtain ⟨b, cap⟩ := q
    obtain ⟨k1, cs, k2⟩ := h2
    exact .inr ⟨b, cap, cs, h1, k1, k2⟩

/-- what a list of the model's cells says of elements -/
structure Elems (C : Ctx) (sz : Nat) (vals : List (List AVal)) (vs : List Value) : Prop where
  szs : ∀ e ∈ vals, e.length = sz
  rep : RepL C vals.flatten vs
  one : allOne vs

theorem Elems.length {C : Ctx} {sz : Nat} {vals : List (List AVal)} {vs : List Value} (h : Elems C sz vals vs) : vs.length = vals.length * sz := by
  rw [h.rep.length, flatten_length h.szs]

theorem Elems.ext {C C' : Ctx} {sz : Nat} {vals : List (List AVal)} {vs : List Value} (h : Elems C sz vals vs) (k : Ext C C') : Elems C' sz vals vs :=
  ⟨h.szs, RepL.ext k _ _ h.rep, h.one⟩

theorem Elems.repE {C : Ctx} {sz b o : Nat} {vals : List (List AVal)} {vs : List Value} (h : Elems C sz vals vs) (hc : CellsAt C.w b o vs) : RepE C b o sz vals :=
  RepE_iff.2 ⟨h.szs, RepC_iff.2 ⟨vs, h.rep, hc, h.one⟩⟩

theorem RepE.elems {C : Ctx} {sz b o : Nat} {vals : List (List AVal)} (h : RepE C b o sz vals) : ∃ vs, Elems C sz vals vs ∧ CellsAt C.w b o vs := by
  obtain ⟨h1, h2⟩ := RepE_iff.1 h
  obtain ⟨vs, k1, k2, k3⟩ := RepC_iff.1 h2
  exact ⟨vs, ⟨h1, k1, k3⟩, k2⟩

theorem Elems.nil (C : Ctx) (sz : Nat) : Elems C sz [] [] := ⟨by simp, by simp [RepL], by intro v hv; simp at hv⟩

theorem Elems.append {C : Ctx} {sz : Nat} {xs ys : List (List AVal)} {vs ws : List Value} (h : Elems C sz xs vs) (k : Elems C sz ys ws) : Elems C sz (xs ++ ys) (vs ++ ws) := by
  refine ⟨fun e he => ?_, by rw [List.flatten_append]; exact h.rep.append k.rep, fun v hv => ?_⟩
  · rcases List.mem_append.1 he with he | he
    · exact h.szs e he
    · exact k.szs e he
  · rcases List.mem_append.1 hv with hv | hv
    · exact h.one v hv
    · exact k.one v hv

theorem cellsAt_row {w : World} {b : Nat} {cs : Array Value} {e : TypeId} {vs : List Value} (hg : w.heap[b]? = some (.cells cs e (0, 0))) (h : cs.toList.take vs.length = vs) : CellsAt w b 0 vs := by
  intro j u hj
  rw [Nat.zero_add, cell_of_row w b j cs e (0, 0) hg]
  rw [← h, List.getElem?_take] at hj
  split at hj
  · simpa using hj
  · cases hj

theorem take_of_cellsAt {w : World} {b : Nat} {cs : Array Value} {e : TypeId} {vs : List Value} (hg : w.heap[b]? = some (.cells cs e (0, 0))) (h : CellsAt w b 0 vs) : cs.toList.take vs.length = vs := by
  refine List.ext_getElem? fun j => ?_
  rw [List.getElem?_take]
  split
  · rename_i hj
    obtain ⟨u, hu⟩ : ∃ u, vs[j]? = some u := ⟨_, List.getElem?_eq_getElem hj⟩
    have := h j u hu
    rw [Nat.zero_add, cell_of_row w b j cs e (0, 0) hg] at this
    rw [hu]
    simpa using this
  · rename_i hj
    rw [List.getElem?_eq_none (by omega)]

/-- a new row in new memory -/
theorem push_row {C : Ctx} (h : Ok C) (e : TypeId) (sz cap : Nat) (cs : Array Value) (vals : List (List AVal)) (vs : List Value) (w' : World)
    (hw : w'.os = C.w.os ∧ w'.tape = C.w.tape ∧ w'.output = C.w.output ∧ w'.heap = C.w.heap.push (.cells cs e (0, 0)))
    (hs : cs.size = cap * sz) (hm : cap ≤ maxLen) (hv : vals.length ≤ cap) (he : Elems C sz vals vs) (ht : cs.toList.take vs.length = vs) :
    Ok ⟨C.rows ++ [.live e sz vals], C.phi ++ [some (C.w.heap.size, cap)], C.om, w', C.pm⟩ ∧
    Later C.rows.length C ⟨C.rows ++ [.live e sz vals], C.phi ++ [some (C.w.heap.size, cap)], C.om, w', C.pm⟩ := by
  obtain ⟨w1, w2, w3, w4⟩ := hw
  have hold : ∀ b, b < C.w.heap.size → w'.heap[b]? = C.w.heap[b]? := fun b hb => by rw [w4, Array.getElem?_push, if_neg (by omega)]
  have hnew : w'.heap[C.w.heap.size]? = some (.cells cs e (0, 0)) := by rw [w4]; simp
  have later : Later C.rows.length C ⟨C.rows ++ [.live e sz vals], C.phi ++ [some (C.w.heap.size, cap)], C.om, w', C.pm⟩ := by
    refine ⟨w1, w2, w3, by simp [w4], fun b hb _ => hold b hb, fun r b c hr => ?_, rfl, rfl, by simp, fun r e' sz' vals' hr hv' => ?_⟩
    · simp only [List.getElem?_append] at hr
      split at hr
      · exact .inl ⟨r, c, hr⟩
      · right
        rename_i hlt
        cases hk : r - C.phi.length with
        | zero => rw [hk] at hr; simp at hr; omega
        | succ k => rw [hk] at hr; simp at hr
    · simp only [List.getElem?_append, hr, if_true] at hv'
      refine ⟨vals', hv', Nat.le_refl _, fun _ => ?_⟩
      simp only [List.getElem?_append]
      rw [if_pos (by rw [h.plen]; exact hr)]
  have hext := later.ext
  refine ⟨⟨h.pm, by simp [h.plen], fun r row hr => ?_, fun r r' b c c' h1 h2 => ?_, fun b hb => Nat.lt_of_lt_of_le (h.om b hb) later.size⟩, later⟩
  · simp only [List.getElem?_append] at hr
    split at hr
    · rename_i hlt
      refine RowOk.move hext rfl ?_ (fun b c hb => hold b (h.lt hb)) (h.rows r row hr)
      simp only [List.getElem?_append]
      rw [if_pos (by rw [h.plen]; exact hlt)]
    · rename_i hlt
      have hk : r = C.rows.length := by
        cases hk : r - C.rows.length with
        | zero => omega
        | succ k => rw [hk] at hr; simp at hr
      subst hk
      simp at hr
      subst hr
      rw [RowOk]
      refine ⟨some (C.w.heap.size, cap), ?_, fun ho => ?_, cs, hnew, hs, hm, hv, (he.ext hext).repE (cellsAt_row hnew ht)⟩
      · simp [h.plen.symm]
      · have := h.om _ ho; omega
  · simp only [List.getElem?_append] at h1 h2
    have last : ∀ {r : Nat} {b c : Nat}, ¬ r < C.phi.length → [some (C.w.heap.size, cap)][r - C.phi.length]? = some (some (b, c)) → r = C.phi.length ∧ b = C.w.heap.size := by
      intro r b c hr hh
      cases hk : r - C.phi.length with
      | zero => rw [hk] at hh; simp at hh; exact ⟨by omega, hh.1.symm⟩
      | succ k => rw [hk] at hh; simp at hh
    split at h1 <;> split at h2
    · exact h.inj r r' b c c' h1 h2
    · rename_i hr'
      obtain ⟨_, hb⟩ := last hr' h2
      have := h.lt h1; omega
    · rename_i hr _
      obtain ⟨_, hb⟩ := last hr h1
      have := h.lt h2; omega
    · rename_i hr hr'
      rw [(last hr h1).1, (last hr' h2).1]

/-- new memory that nobody looks at -/
theorem garbage {C : Ctx} (h : Ok C) (o : Obj) : Ok ⟨C.rows, C.phi, C.om, C.w.alloc o, C.pm⟩ ∧ Later C.rows.length C ⟨C.rows, C.phi, C.om, C.w.alloc o, C.pm⟩ := by
  have hold : ∀ b, b < C.w.heap.size → (C.w.alloc o).heap[b]? = C.w.heap[b]? := fun b hb => heap_alloc_old C.w o hb
  have later : Later C.rows.length C ⟨C.rows, C.phi, C.om, C.w.alloc o, C.pm⟩ :=
    ⟨rfl, rfl, rfl, by simp, fun b hb _ => hold b hb, fun r _ c h => .inl ⟨r, c, h⟩, rfl, rfl, Nat.le_refl _, fun _ _ _ vals _ h => ⟨vals, h, Nat.le_refl _, fun _ => rfl⟩⟩
  refine ⟨⟨h.pm, h.plen, fun r row hr => ?_, h.inj, fun b hb => Nat.lt_of_lt_of_le (h.om b hb) later.size⟩, later⟩
  exact RowOk.move later.ext rfl rfl (fun b c hb => hold b (h.lt hb)) (h.rows r row hr)

/-- a new row without memory -/
theorem push_nil {C : Ctx} (h : Ok C) (e : TypeId) (sz : Nat) :
    Ok ⟨C.rows ++ [.live e sz []], C.phi ++ [none], C.om, C.w, C.pm⟩ ∧ Later C.rows.length C ⟨C.rows ++ [.live e sz []], C.phi ++ [none], C.om, C.w, C.pm⟩ := by
  have old : ∀ {r : Nat} {q : Nat × Nat}, (C.phi ++ [none])[r]? = some (some q) → C.phi[r]? = some (some q) := by
    intro r q hr
    simp only [List.getElem?_append] at hr
    split at hr
    · exact hr
    · cases hk : r - C.phi.length with
      | zero => rw [hk] at hr; simp at hr
      | succ k => rw [hk] at hr; simp at hr
  have later : Later C.rows.length C ⟨C.rows ++ [.live e sz []], C.phi ++ [none], C.om, C.w, C.pm⟩ := by
    refine ⟨rfl, rfl, rfl, Nat.le_refl _, fun b hb _ => rfl, fun r b c hr => .inl ⟨r, c, old hr⟩, rfl, rfl, by simp, fun r e' sz' vals' hr hv' => ?_⟩
    simp only [List.getElem?_append, hr, if_true] at hv'
    refine ⟨vals', hv', Nat.le_refl _, fun _ => ?_⟩
    simp only [List.getElem?_append]
    rw [if_pos (by rw [h.plen]; exact hr)]
  refine ⟨⟨h.pm, by simp [h.plen], fun r row hr => ?_, fun r r' b c c' h1 h2 => h.inj r r' b c c' (old h1) (old h2), h.om⟩, later⟩
  simp only [List.getElem?_append] at hr
  split at hr
  · rename_i hlt
    refine RowOk.move later.ext rfl ?_ (fun b c hb => rfl) (h.rows r row hr)
    simp only [List.getElem?_append]
    rw [if_pos (by rw [h.plen]; exact hlt)]
  · rename_i hlt
    have hk : r = C.rows.length := by
      cases hk : r - C.rows.length with
      | zero => omega
      | succ k => rw [hk] at hr; simp at hr
    subst hk
    simp at hr
    subst hr
    rw [RowOk]
    exact ⟨none, by simp [h.plen.symm], rfl⟩

/-- a row whose elements change, in its place or elsewhere -/
theorem set_row {C : Ctx} (h : Ok C) {r : Nat} {e : TypeId} {sz : Nat} {vals : List (List AVal)} (hr : C.rows[r]? = some (.live e sz vals))
    {p : Option (Nat × Nat)} (hp : C.phi[r]? = some p) (b' cap' : Nat) (cs' : Array Value) (vals' : List (List AVal)) (vs' : List Value) (w' : World)
    (hg : C.w.grownBy w' (p.map (·.1))) (hb : p.map (·.1) = some b' ∨ C.w.heap.size ≤ b') (hh : w'.heap[b']? = some (.cells cs' e (0, 0)))
    (hs : cs'.size = cap' * sz) (hm : cap' ≤ maxLen) (hv : vals'.length ≤ cap') (he : Elems C sz vals' vs') (ht : cs'.toList.take vs'.length = vs')
    (hmono : vals.length ≤ vals'.length) (hsame : vals.length = vals'.length → p = some (b', cap')) :
    Ok ⟨C.rows.set r (.live e sz vals'), C.phi.set r (some (b', cap')), C.om, w', C.pm⟩ ∧
    Later C.rows.length C ⟨C.rows.set r (.live e sz vals'), C.phi.set r (some (b', cap')), C.om, w', C.pm⟩ := by
  have hrl : r < C.rows.length := (List.getElem?_eq_some_iff.1 hr).1
  have hrp : r < C.phi.length := by rw [h.plen]; exact hrl
  have pm : ∀ {b : Nat}, p.map (·.1) = some b → ∃ c, C.phi[r]? = some (some (b, c)) := by
    intro b hb
    cases p with
    | none => simp at hb
    | some q => obtain ⟨x, y⟩ := q; simp at hb; subst hb; exact ⟨y, hp⟩
  have phi' : ∀ {r' : Nat}, r' ≠ r → (C.phi.set r (some (b', cap')))[r']? = C.phi[r']? := fun hne => by rw [List.getElem?_set, if_neg (fun e => hne e.symm)]
  have phir : (C.phi.set r (some (b', cap')))[r]? = some (some (b', cap')) := by rw [List.getElem?_set, if_pos rfl, if_pos hrp]
  have later : Later C.rows.length C ⟨C.rows.set r (.live e sz vals'), C.phi.set r (some (b', cap')), C.om, w', C.pm⟩ := by
    refine ⟨hg.os, hg.tape, hg.output, hg.size, fun b hb' ho => hg.block b hb' fun heq => ?_, fun r' b c hr' => ?_, rfl, rfl, by simp, fun r' e' sz' vals2 hr' hv' => ?_⟩
    · obtain ⟨c, hc⟩ := pm heq.symm
      exact ho r c hc
    · by_cases hne : r' = r
      · subst hne
        rw [phir] at hr'
        simp at hr'
        obtain ⟨rfl, rfl⟩ := hr'
        rcases hb with hb | hb
        · obtain ⟨c, hc⟩ := pm hb; exact .inl ⟨r', c, hc⟩
        · exact .inr hb
      · rw [phi' hne] at hr'; exact .inl ⟨r', c, hr'⟩
    · by_cases hne : r' = r
      · subst hne
        simp only [List.getElem?_set, if_true, hrl] at hv'
        simp at hv'
        obtain ⟨rfl, rfl, rfl⟩ := hv'
        exact ⟨vals, hr, hmono, fun heq => by rw [hp, hsame heq]; exact phir⟩
      · simp only [List.getElem?_set] at hv'
        rw [if_neg (fun e => hne e.symm)] at hv'
        exact ⟨vals2, hv', Nat.le_refl _, fun _ => phi' hne⟩
  refine ⟨⟨h.pm, by simp [h.plen], fun r' row hr' => ?_, fun r1 r2 b c c' h1 h2 => ?_, fun b hb => Nat.lt_of_lt_of_le (h.om b hb) later.size⟩, later⟩
  · by_cases hne : r' = r
    · subst hne
      simp only [List.getElem?_set, if_true, hrl] at hr'
      simp at hr'
      subst hr'
      rw [RowOk]
      refine ⟨some (b', cap'), phir, fun ho => ?_, cs', hh, hs, hm, hv, (he.ext later.ext).repE (cellsAt_row hh ht)⟩
      rcases hb with hb | hb
      · obtain ⟨c, hc⟩ := pm hb
        rcases h.live hr with ⟨hl, _⟩ | ⟨b2, cap2, cs2, hl, k1, _⟩
        · rw [hc] at hl; simp at hl
        · rw [hc] at hl; simp at hl; obtain ⟨rfl, rfl⟩ := hl; exact k1 ho
      · have := h.om _ ho; omega
    · simp only [List.getElem?_set] at hr'
      rw [if_neg (fun e => hne e.symm)] at hr'
      refine RowOk.move later.ext rfl (phi' hne) (fun b c hb' => hg.block b (h.lt hb') fun heq => ?_) (h.rows r' row hr')
      obtain ⟨c', hc'⟩ := pm heq.symm
      exact hne (h.inj _ _ _ _ _ hb' hc')
  · have key : ∀ {r1 r2 b c c' : Nat}, r1 ≠ r → r2 = r → (C.phi.set r (some (b', cap')))[r1]? = some (some (b, c)) → (C.phi.set r (some (b', cap')))[r2]? = some (some (b, c')) → False := by
      intro r1 r2 b c c' hn he h1 h2
      subst he
      rw [phir] at h2
      rw [phi' hn] at h1
      simp at h2
      obtain ⟨rfl, rfl⟩ := h2
      rcases hb with hb | hb
      · obtain ⟨c2, hc2⟩ := pm hb
        exact hn (h.inj _ _ _ _ _ h1 hc2)
      · have := h.lt h1; omega
    by_cases e1 : r1 = r <;> by_cases e2 : r2 = r
    · rw [e1, e2]
    · exact (key e2 e1 h2 h1).elim
    · exact (key e1 e2 h1 h2).elim
    · refine h.inj r1 r2 b c c' ?_ ?_
      · simpa [phi' e1] using h1
      · simpa [phi' e2] using h2

end Go.Abs
