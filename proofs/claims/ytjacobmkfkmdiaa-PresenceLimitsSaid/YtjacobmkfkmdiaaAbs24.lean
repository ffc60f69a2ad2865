/- Regions that draw their order: what holds of the abstract run holds of the model's. -/
import Derived.Test.YtjacobmkfkmdiaaAbs23
set_option linter.unusedSimpArgs false
set_option linter.unusedVariables false
set_option linter.unusedSectionVars false
namespace Go.Abs
section
variable {P : Program} {C : Ctx}

theorem drew_ok (h : Ok C) : Ok { C with w := C.w.drew } ∧ Later C.rows.length C { C with w := C.w.drew } := by
  have later : Later C.rows.length C { C with w := C.w.drew } :=
    ⟨rfl, rfl, rfl, Nat.le_refl _, fun b hb _ => rfl, fun r _ c h => .inl ⟨r, c, h⟩, rfl, rfl, Nat.le_refl _, fun _ _ _ vals _ h => ⟨vals, h, Nat.le_refl _, fun _ => rfl⟩⟩
  refine ⟨⟨h.pm, h.plen, fun r row hr => ?_, h.inj, fun b hb => h.om b hb⟩, later⟩
  exact RowOk.move later.ext rfl rfl (fun b c hb => rfl) (h.rows r row hr)

/-- rows that are filled later -/
def reserved (res : List (TypeId × Nat)) : List Row := res.map fun p => .live p.1 p.2 []

theorem reserve_ok : ∀ (res : List (TypeId × Nat)) (C : Ctx), Ok C → ∃ C', C'.w = C.w ∧ C'.rows = C.rows ++ reserved res ∧ Ok C' ∧ Later C.rows.length C C'
  | [], C, h => ⟨C, rfl, by simp [reserved], h, Later.refl C⟩
  | (e, sz) :: res, C, h => by
    obtain ⟨h1, h2⟩ := push_nil h e sz
    obtain ⟨C', g1, g2, g3, g4⟩ := reserve_ok res _ h1
    refine ⟨C', g1, ?_, g3, h2.trans g4 (by simp)⟩
    rw [g2]; simp [reserved]

theorem fill_row (h : Ok C) {k : Nat} {e : TypeId} {sz : Nat} (hr : C.rows[k]? = some (.live e sz [])) (cap : Nat) (cs : Array Value) (vals : List (List AVal)) (vs : List Value)
    (hs : cs.size = cap * sz) (hm : cap ≤ maxLen) (hv : vals.length ≤ cap) (he : Elems C sz vals vs) (ht : cs.toList.take vs.length = vs) (hpos : 0 < vals.length) :
    Ok ⟨C.rows.set k (.live e sz vals), C.phi.set k (some (C.w.heap.size, cap)), C.om, C.w.alloc (.cells cs e), C.pm⟩ ∧
    Later C.rows.length C ⟨C.rows.set k (.live e sz vals), C.phi.set k (some (C.w.heap.size, cap)), C.om, C.w.alloc (.cells cs e), C.pm⟩ := by
  have hk : k < C.rows.length := lt_of_row hr
  obtain ⟨p, hp⟩ : ∃ p, C.phi[k]? = some p := ⟨_, List.getElem?_eq_getElem (by rw [h.plen]; exact hk)⟩
  refine set_row h hr hp C.w.heap.size cap cs vals vs (C.w.alloc (.cells cs e)) ⟨rfl, rfl, rfl, by simp, fun b hb _ => heap_alloc_old C.w _ hb⟩ (.inr (Nat.le_refl _)) (heap_alloc_new C.w _) hs hm hv he ht (Nat.zero_le _) fun h0 => ?_
  simp at h0; omega

theorem set_ref {rows : List Row} {phi : List (Option (Nat × Nat))} {om : Nat → Prop} {w : World} {e : TypeId} {sz b cap k : Nat} {cells : List AVal} (hl : phi.length = rows.length) (hk : k < rows.length) :
    Rep ⟨rows.set k (.live e sz [cells]), phi.set k (some (b, cap)), om, w, false⟩ (.ref k 1 0 0) (.pointer (some ⟨b, 0, none⟩)) := by
  rw [Rep]
  refine ⟨rfl, ⟨_, rfl⟩, by simpa using hk, fun e' sz' vals h => ?_⟩
  simp only [List.getElem?_set, if_true, hk] at h
  simp at h
  obtain ⟨rfl, rfl, rfl⟩ := h
  exact ⟨by simp, fun _ => ⟨by simp, b, cap, by simp [List.getElem?_set, hl, hk], by simp⟩⟩

theorem set_own {rows : List Row} {phi : List (Option (Nat × Nat))} {om : Nat → Prop} {w : World} {e : TypeId} {sz b cap k : Nat} {vals : List (List AVal)} (hl : phi.length = rows.length) (hk : k < rows.length) (hc : vals.length ≤ cap) :
    Rep ⟨rows.set k (.live e sz vals), phi.set k (some (b, cap)), om, w, false⟩ (.own k vals.length 0 vals.length) (.slice (some ⟨b, 0, none⟩) vals.length cap) := by
  rw [Rep]
  refine ⟨rfl, ⟨_, _, rfl⟩, by simpa using hk, fun e' sz' vals' h => ?_⟩
  simp only [List.getElem?_set, if_true, hk] at h
  simp at h
  obtain ⟨rfl, rfl, rfl⟩ := h
  exact ⟨by simp, fun _ => ⟨by simp, some (b, cap), by simp [List.getElem?_set, hl, hk], ⟨b, 0, none⟩, cap, rfl, hc, rfl, rfl, fun _ => ⟨rfl, rfl⟩, fun _ => by simp⟩⟩

variable {K : AVal → List Row → Prop}

theorem run_allocR (hok : Ok C) {t : TypeId} {z : List AVal} (hz : zeroOf P t = some z) {k : Nat} (hk : C.rows[k]? = some (.live t z.length [])) (h : K (.ref k 1 0 0) (C.rows.set k (.live t z.length [z]))) :
    ∃ cv v C', (Instr.alloc t true (.tuple #[])).run P C.w = .ok cv C'.w ∧ Rep C' v cv ∧ Ok C' ∧ Later C.rows.length C C' ∧ K v C'.rows := by
  obtain ⟨i, zv, hi, hzv, habs, hl, hpos, hsz⟩ := zeroOf_spec hz
  obtain ⟨k1, k2⟩ := absVs_rep (C := C) habs
  have hlen := k1.length
  have hp := fill_row hok hk 1 zv.cells [z] zv.cells.toList (by omega) (by simp [maxLen]) (by simp) (elems_one rfl k1 (ones_rep k1 k2)) List.take_length (by simp)
  refine ⟨.pointer (some ⟨C.w.heap.size, 0, none⟩), _, _, ?_, (hok.pm ▸ set_ref hok.plen (lt_of_row hk)), hp.1, hp.2, h⟩
  simp [Instr.alloc, run_zero hi hzv, newVar, newRow]

theorem run_boxR (hok : Ok C) {t : TypeId} {n : Nat} {x : AVal} {cx : Value} (hx : Rep C x cx) (h1 : (acells x).length = n) (h2 : (acells x).all one = true) {k : Nat} (hk : C.rows[k]? = some (.live t n []))
    (h : K (.ref k 1 0 0) (C.rows.set k (.live t n [acells x]))) :
    ∃ cv v C', (Instr.box t cx).run P C.w = .ok cv C'.w ∧ Rep C' v cv ∧ Ok C' ∧ Later C.rows.length C C' ∧ K v C'.rows := by
  obtain ⟨k1, k2⟩ := cells_rep hx h2
  have hlen := k1.length
  simp only [Array.length_toList] at hlen
  have hp := fill_row hok hk 1 cx.cells [acells x] cx.cells.toList (by omega) (by simp [maxLen]) (by simp) (elems_one h1 k1 k2) List.take_length (by simp)
  refine ⟨.pointer (some ⟨C.w.heap.size, 0, none⟩), _, _, ?_, (hok.pm ▸ set_ref hok.plen (lt_of_row hk)), hp.1, hp.2, h⟩
  simp [Instr.box, newVar, newRow]

theorem run_bsliceR (hok : Ok C) {t e : TypeId} {z : List AVal} {len : Nat} {parts : Array (Nat × Operand)} {ρ : Operand → Value} {vs : List AVal} {es : List (List AVal)}
    (hu : P.underlying t = some (.slice e)) (hz : zeroOf P e = some z) (hlen : len * z.length ≤ 16777216) (hl0 : 0 < len)
    (hr : RepL C vs ((parts.toList.map (·.2)).map ρ)) (hf : fillE (List.replicate len z) z.length (parts.toList.map (·.1)) vs = some es) (h1 : (vs.all fun v => (acells v).all one) = true)
    {k : Nat} (hk : C.rows[k]? = some (.live e z.length [])) (h : K (.own k len 0 len) (C.rows.set k (.live e z.length es))) :
    ∃ cv v C', (Instr.buildSlice t len (parts.map fun (i, x) => (i, ρ x))).run P C.w = .ok cv C'.w ∧ Rep C' v cv ∧ Ok C' ∧ Later C.rows.length C C' ∧ K v C'.rows := by
  obtain ⟨i, zv, hi, hzv, habs, hl, hpos, hsz⟩ := zeroOf_spec hz
  obtain ⟨k1, k2⟩ := absVs_rep (C := C) habs
  have ho := ones_rep k1 k2
  obtain ⟨f1, f2, f3⟩ := fillE_fillC _ vs _ es hf (by intro x hx; rw [List.eq_of_mem_replicate hx])
  rw [List.length_replicate] at f3
  have hz0 : RepL C (List.replicate len z).flatten (List.replicate len zv.cells.toList).flatten ∧ allOne (List.replicate len zv.cells.toList).flatten := by
    clear hf f1 f3 hlen h hl0
    induction len with
    | zero => simp [RepL, allOne]
    | succ n ih =>
      rw [List.replicate_succ, List.replicate_succ, List.flatten_cons, List.flatten_cons]
      refine ⟨k1.append ih.1, fun v hv => ?_⟩
      rcases List.mem_append.1 hv with hv | hv
      · exact ho v hv
      · exact ih.2 v hv
  have hsize : i.size = z.length := hl.symm
  have hinit : ((Array.range (len * i.size)).map (zv.cells[· % zv.cells.size]!)).toList = (List.replicate len zv.cells.toList).flatten := by
    rw [← hsz]; exact zeroRow zv.cells len
  obtain ⟨r, r1, r2, r3⟩ := fill_rep (C := C) (fun j => some (j * z.length, z.length)) (parts.toList.map (·.1)) ((parts.toList.map (·.1)).map fun j => (j * z.length, z.length)) vs _ _ es.flatten
    ((Array.range (len * i.size)).map (zv.cells[· % zv.cells.size]!)) (by rw [← List.filterMap_eq_map]; rfl) (by simp) hr f1 h1 (by rw [hinit]; exact hz0.1)
  have r4 := r3 (by rw [hinit]; exact hz0.2)
  have helems : Elems C z.length es r.toList := ⟨f2, r2, r4⟩
  have hrl := helems.length
  simp only [Array.length_toList] at hrl
  have hlm : len ≤ maxLen := by
    have : len ≤ len * z.length := Nat.le_mul_of_pos_right _ (by omega)
    simp only [maxLen]; omega
  have hp := fill_row hok hk len r es r.toList (by rw [hrl, f3]) hlm (by omega) helems List.take_length (by omega)
  refine ⟨.slice (some ⟨C.w.heap.size, 0, none⟩) len len, .own k len 0 len, _, ?_, ?_, hp.1, hp.2, h⟩
  · have hz2 : (parts.map fun (i, x) => (i, ρ x)).toList = (parts.toList.map (·.1)).zip ((parts.toList.map (·.2)).map ρ) := by
      rw [Array.toList_map]; exact zip_map_pair _ _
    have hso : (sizeOf e).run P C.w = .ok i.size C.w := by simp [sizeOf, typeInfo, hi]
    rw [← hsize] at r1 hlen
    simp only [Instr.buildSlice, Sem.run_bind, run_underlying hu, Result.andThen_ok, hso, Sem.run_ite]
    rw [if_neg (by omega)]
    have h0 : ¬ len * i.size = 0 := by
      intro h0
      rcases Nat.mul_eq_zero.1 h0 with h | h <;> omega
    simp only [h0, if_false, Sem.run_bind, run_zero hi hzv, Sem.run_pure, Result.andThen_ok]
    rw [hz2, r1]
    simp [newRow]
  · have := set_own (rows := C.rows) (phi := C.phi) (om := C.om) (w := C.w.alloc (.cells r e)) (e := e) (sz := z.length) (b := C.w.heap.size) (cap := len) (vals := es) hok.plen (lt_of_row hk) (by omega)
    rw [f3] at this
    rw [hok.pm]
    exact this

theorem evR_sound {o : Oper} {aop : AOp} {xs : List Operand} (hc : compileOp P o = some (aop, xs)) (hok : Ok C) (ρ : Operand → Value) {vals : List AVal}
    (hr : RepL C vals (xs.map ρ)) {k : Nat} (h : evR aop vals k C.rows K) : Runs P C (execOp ρ o) K := by
  obtain ⟨dst, op, type, pos, after, guard⟩ := o
  unfold compileOp at hc
  simp only at hc
  unfold evR at h
  split at h
  · -- alloc
    rename_i e z
    split at hc
    case h_4 =>
      split at hc
      · rename_i t z' hz
        simp at hc; obtain ⟨⟨rfl, rfl⟩, rfl⟩ := hc
        exact Runs.val' (run_allocR hok hz h.1 h.2)
      · cases hc
    all_goals (repeat' (split at hc)) <;> simp at hc
  · -- box
    split at hc
    case h_5 =>
      split at hc
      · rename_i t x n hs
        simp at hc; obtain ⟨⟨rfl, rfl⟩, rfl⟩ := hc
        obtain ⟨a, ha1, ha⟩ := repL1 hr
        simp at ha1; subst ha1
        exact Runs.val' (run_boxR hok ha h.1.1 h.1.2 h.2.1 h.2.2)
      · cases hc
    all_goals (repeat' (split at hc)) <;> simp at hc
  · -- buildSlice
    split at hc
    case h_7 =>
      split at hc
      · rename_i t len parts _ e hu
        split at hc
        · rename_i z hz
          split at hc
          · simp at hc
          split at hc
          · rename_i hl
            simp only [Option.some.injEq, Prod.mk.injEq, AOp.bslice.injEq] at hc; obtain ⟨⟨rfl, rfl, rfl, rfl, rfl⟩, rfl⟩ := hc
            split at h
            · rename_i es hf
              exact Runs.val' (run_bsliceR hok hu hz hl h.1.2 hr hf h.1.1 h.2.1 h.2.2)
            · exact h.elim
          · cases hc
        · cases hc
      · cases hc
    all_goals (repeat' (split at hc)) <;> simp at hc
  · exact h.elim

end

structure SimF (n : Nat) (ρ : Rho) (C : Ctx) (a : Act) : Prop where
  ok : Ok C
  size : a.tmps.size = n
  defers : a.defers = []
  slots : ∀ t, Rep C (ρ t) (a.tmps.getD t undef)

section
variable {P : Program} {n n0 base : Nat} {C0 : Ctx} {ops : Array Oper}

theorem opdF_rep {ρ : Rho} {C : Ctx} {a : Act} (hs : SimF n ρ C a) {x : Operand} {y : Opd} (h : compileOpd x = some y) : Rep C (y.evF ρ) (a.eval x) := by
  cases x with
  | tmp t => simp [compileOpd] at h; subst h; exact hs.slots t
  | const v =>
    simp only [compileOpd] at h
    cases hv : absV v with
    | none => rw [hv] at h; simp at h
    | some b => rw [hv] at h; simp at h; subst h; exact (absV_rep hv).1
  | global g => simp [compileOpd] at h
  | func f => simp [compileOpd] at h

theorem opdsF_rep {ρ : Rho} {C : Ctx} {a : Act} (hs : SimF n ρ C a) : ∀ {xs : List Operand} {ys : List Opd}, compileOpds xs = some ys → RepL C (ys.map (Opd.evF ρ)) (xs.map a.eval)
  | [], ys, h => by simp [compileOpds] at h; subst h; simp [RepL]
  | x :: xs, ys, h => by
    simp only [compileOpds] at h
    split at h
    · rename_i y zs hy hz
      simp at h; subst h
      rw [List.map_cons, List.map_cons, RepL]
      exact ⟨_, _, rfl, opdF_rep hs hy, opdsF_rep hs hz⟩
    · cases h

theorem simF_upd {ρ : Rho} {C C' : Ctx} {a : Act} (hs : SimF n ρ C a) (hok : Ok C') (he : Ext C C') {dst : Option Nat} (hd : ∀ d, dst = some d → d < n) {v : AVal} {cv : Value} (hv : Rep C' v cv) :
    SimF n (upd ρ dst v) C' (a.put dst cv) := by
  cases dst with
  | none => exact ⟨hok, hs.size, hs.defers, fun t => Rep.ext he _ _ (hs.slots t)⟩
  | some d =>
    have hdn := hd d rfl
    refine ⟨hok, by simp [Act.put, hs.size], hs.defers, fun t => ?_⟩
    simp only [upd, Act.put]
    split
    · rename_i hdt
      subst hdt
      have : d < a.tmps.size := by rw [hs.size]; exact hdn
      simpa [Array.getD, this] using hv
    · rename_i hdt
      have := Rep.ext he _ _ (hs.slots t)
      rw [show (a.tmps.setIfInBounds d cv).getD t undef = a.tmps.getD t undef from ?_]
      · exact this
      · simp [Array.getElem?_setIfInBounds_ne hdt]

def HoldsF (n n0 : Nat) (C0 : Ctx) (K : Rho → List Row → Prop) (a : Act) (w : World) : Prop := ∃ ρ C, C.w = w ∧ SimF n ρ C a ∧ Later n0 C0 C ∧ K ρ C.rows

theorem stepF_sound {ρ : Rho} {C : Ctx} {a : Act} {i : Nat} {o : Oper} {d : DOp} {tk : Tk} (hi : ops[i]? = some o) (hf : Fits P n ops o d.io) (hs : SimF n ρ C a) (hl : Later n0 C0 C)
    {K : Rho → List Row → Prop} {Kc : Act → World → Prop} {Q : Exit → Act → World → Prop} (hK : ∀ a w, HoldsF n n0 C0 K a w → Kc a w) (h : stepT P base d tk ρ C.rows K) : wpOp P ops Q i Kc a C.w := by
  obtain ⟨⟨xs, hop, hargs⟩, ⟨hdst, hdn⟩, hg⟩ := hf
  have hrep := opdsF_rep hs hargs
  have hdn' : ∀ e, d.io.dst = some e → e < n := by rw [hdst]; exact hdn
  have skip : K (upd ρ d.io.dst (.tup [])) C.rows → Kc (a.put o.dst undef) C.w := by
    intro hk
    refine hK _ _ ⟨_, C, rfl, ?_, hl, hk⟩
    rw [← hdst]
    exact simF_upd hs hs.ok (Ext.refl C) hdn' (by rw [Rep]; exact ⟨#[], rfl, by simp [RepL]⟩)
  have fin : Runs P C (execOp a.eval o) (fun v rows' => K (upd ρ d.io.dst v) rows') → o.wp P a C.w Kc Q := by
    intro hr
    unfold Oper.wp
    obtain ⟨nx, cv, v, C', h1, h2, h3, h4, h5, h6⟩ := hr
    rw [h1]
    have : Kc (a.put o.dst cv) C'.w := by
      refine hK _ _ ⟨_, C', rfl, ?_, hl.trans h5 hl.len, h6⟩
      rw [← hdst]
      exact simF_upd hs h4 h5.ext hdn' h3
    rcases h2 with rfl | ⟨rfl, rfl⟩
    · exact this
    · exact this
  have run : runT P base d tk ρ C.rows K → o.wp P a C.w Kc Q := by
    intro hr
    unfold runT at hr
    split at hr
    · exact fin (evR_sound hop hs.ok a.eval hrep hr.2)
    · split at hr
      · rename_i f hfo
        rw [hfo] at hop
        unfold Oper.wp
        rw [run_call hop, Oper.upon_enter]
        have hr' : callK P f (d.io.args.map (Opd.evF ρ)) C.rows fun v rows' => K (upd ρ d.io.dst v) rows' := by
          obtain ⟨sel, vw, srows, g1, g2, g3, g4⟩ := hr
          exact ⟨sel, vw, srows, g2, g3, g4⟩
        refine (call_sound hs.ok hrep hr').mono ?_
        rintro e w' ⟨cv, v, C', rfl, rfl, h1, h2, h3, h4⟩
        refine hK _ _ ⟨_, C', rfl, ?_, hl.trans h3 hl.len, h4⟩
        rw [← hdst]
        exact simF_upd hs h2 h3.ext hdn' h1
      · rename_i hnc
        exact fin (ev_sound hop (fun f hf => hnc f hf) hs.ok a.eval hrep hr.2)
  unfold wpOp
  rw [hi]
  simp only
  unfold stepT at h
  rcases hg with ⟨g1, g2⟩ | ⟨j, want, s, g1, g2, g3, g4⟩
  · have hw : Region.wanted o (yielded ops a.tmps) = true := by simp [Region.wanted, g1]
    rw [if_pos hw]
    simp only [g2, lets] at h
    exact .inl (run h)
  · simp only [g4, lets] at h
    have hslot := hs.slots s
    have hsz : s < a.tmps.size := by rw [hs.size]; exact g3
    have hy : ∀ v, a.tmps.getD s undef = v → yielded ops a.tmps j = (match v with | .bool b => some b | _ => none) := by
      intro v hv
      have h1 : a.tmps[s]? = some v := by
        rw [Array.getElem?_eq_getElem hsz]
        simpa [Array.getD, hsz] using hv
      unfold yielded
      rw [g2]
      simp only [Option.bind_some, h1]
      cases v <;> rfl
    cases hb : ρ s with
    | bool b =>
      rw [hb] at h hslot
      rw [Rep] at hslot
      have hy' := hy _ hslot
      simp only at hy' h
      by_cases hbw : b = want
      · have hw : Region.wanted o (yielded ops a.tmps) = true := by simp [Region.wanted, g1, hy', hbw]
        rw [if_pos hw]
        have : (b == want) = true := by simp [hbw]
        rw [this] at h
        exact .inl (run h)
      · have hw : ¬ Region.wanted o (yielded ops a.tmps) = true := by simp [Region.wanted, g1, hy', hbw]
        rw [if_neg hw]
        have : (b == want) = false := by simp [hbw]
        rw [this] at h
        exact skip h
    | tup cs =>
      rw [hb] at h hslot
      cases cs with
      | cons => simp at h
      | nil =>
        rw [Rep] at hslot
        obtain ⟨vs, hv, _⟩ := hslot
        have hy' := hy _ hv
        simp only at hy'
        have hw : ¬ Region.wanted o (yielded ops a.tmps) = true := by simp [Region.wanted, g1, hy']
        rw [if_neg hw]
        exact skip h
    | _ => rw [hb] at h; exact h.elim

theorem any_sound {ds : List DOp} (hf : ∀ i o, ops[i]? = some o → Fits P n ops o (ds.getD i default).io) {K : Rho → List Row → Prop} {Q : Exit → Act → World → Prop} (hQ : ∀ a w, HoldsF n n0 C0 K a w → Q .normal a w) :
    ∀ (fuel : Nat) (listed : Array Bool) (a : Act) (w : World), HoldsF n n0 C0 (anyT P base ops ds fuel listed [] K) a w → wpAny P .any ops Q fuel listed a w
  | 0, listed, a, w, ⟨ρ, C, h1, h2, h3, h4⟩ => ⟨h4.1, hQ a w ⟨ρ, C, h1, h2, h3, h4.2⟩⟩
  | fuel + 1, listed, a, w, ⟨ρ, C, h1, h2, h3, h4⟩ => by
    refine ⟨fun h0 => hQ a w ⟨ρ, C, h1, h2, h3, h4.1 h0⟩, fun i hi => ?_⟩
    obtain ⟨_, o, ho, _⟩ := mem_ready.1 hi
    subst h1
    exact stepF_sound ho (hf i o ho) h2 h3 (fun a w h => any_sound hf hQ fuel _ a w h) (h4.2 i hi)

theorem draw_sound {id : Nat} {ds : List DOp} {anc : List (List Nat)} {order : List Nat} {res : List (TypeId × Nat)} (hm : P.follows .mixedOrders = true)
    (hf : ∀ i o, ops[i]? = some o → Fits P n ops o (ds.getD i default).io) (ha : AncOk ops anc) (hp : ∀ i j, i < ops.size → j < ops.size → j ≠ i → (ds.getD i default).easy = true → PairOk ds anc i j)
    (hc : canon ops ds (Array.replicate ops.size false) order = true) (hlen : order.length ≤ ops.size) {K : Rho → List Row → Prop} {Q : Exit → Act → World → Prop} (hQ : ∀ a w, HoldsF n n0 C0 K a w → Q .normal a w)
    {a : Act} {w : World} (h : HoldsF n n0 C0 (fun ρ rows => drawF P rows.length ds order [] K ρ (rows ++ reserved res)) a w) : (Code.region id ops true).wp P Q a w := by
  obtain ⟨ρ, C, rfl, hs, hl, hk⟩ := h
  obtain ⟨d1, d2⟩ := drew_ok hs.ok
  obtain ⟨C', e1, e2, e3, e4⟩ := reserve_ok res _ d1
  have e2' : C'.rows = C.rows ++ reserved res := e2
  refine wp_region_any hm ?_
  refine any_sound (base := C.rows.length) hf hQ ops.size _ a _ ⟨ρ, C', e1, ⟨e3, hs.size, hs.defers, fun t => Rep.ext e4.ext _ _ (Rep.ext d2.ext _ _ (hs.slots t))⟩, (hl.trans d2 hl.len).trans e4 (hl.trans d2 hl.len).len, ?_⟩
  rw [e2']
  refine canon_any ha hp order _ [] ρ _ ops.size hc (fun j hj => ?_) hlen hk
  simp [Array.getD] at hj

end
end Go.Abs
