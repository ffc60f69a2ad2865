/- Each operation but a call does what its abstract form says. -/
import Derived.Test.YtjacobmkfkmdiaaAbs11
import Derived.Laws.BytesString
set_option linter.unusedSimpArgs false
set_option linter.unusedVariables false
set_option linter.unusedSectionVars false
namespace Go.Abs
section
variable {P : Program} {C : Ctx} {K : AVal → List Row → Prop}

theorem Runs.val (hok : Ok C) {s : Sem Value} (h : ∃ cv v, s.run P C.w = .ok cv C.w ∧ Rep C v cv ∧ K v C.rows) : Runs P C (do pure (.value (← s))) K := by
  obtain ⟨cv, v, h1, h2, h3⟩ := h
  exact Runs.of hok h1 h2 h3

theorem Runs.val' {s : Sem Value} (h : ∃ cv v C', s.run P C.w = .ok cv C'.w ∧ Rep C' v cv ∧ Ok C' ∧ Later C.rows.length C C' ∧ K v C'.rows) : Runs P C (do pure (.value (← s))) K := by
  obtain ⟨cv, v, C', h1, h2, h3, h4, h5⟩ := h
  exact Runs.of' h3 h4 h1 h2 h5

theorem guard_int (op : BinOp) (t : TypeId) (ox oy : Operand) (k k' : IntKind) (a b : Int) (w : World) : (eqGuard op t ox oy (.int k a) (.int k' b)).run P w = .ok () w := by
  cases op <;> simp [eqGuard]
theorem guard_str (op : BinOp) (t : TypeId) (ox oy : Operand) (a b : ByteArray) (w : World) : (eqGuard op t ox oy (.string a) (.string b)).run P w = .ok () w := by
  cases op <;> simp [eqGuard]
theorem guard_bool (op : BinOp) (t : TypeId) (ox oy : Operand) (a b : Bool) (w : World) : (eqGuard op t ox oy (.bool a) (.bool b)).run P w = .ok () w := by
  cases op <;> simp [eqGuard]

theorem run_bin' {op : BinOp} {t : TypeId} {x y : AVal} {cx cy : Value} {ox oy : Operand} (hx : Rep C x cx) (hy : Rep C y cy)
    {K : AVal → Prop} (h : evBin op x y K) :
    ∃ cv v, (do eqGuard op t ox oy cx cy; binOp op t cx cy : Sem Value).run P C.w = .ok cv C.w ∧ Rep C v cv ∧ K v := by
  unfold evBin at h
  split at h
  · rename_i k a k' b
    rw [Rep] at hx hy
    subst hx; subst hy
    simp only [Sem.run_bind, guard_int, Result.andThen_ok]
    split at h
    case h_1 => exact ⟨_, _, by simp only [binOp, Op.shift]; rw [if_neg (by omega)]; rfl, by rw [Rep], h.2⟩
    case h_2 => exact ⟨_, _, by simp only [binOp, Op.shift]; rw [if_neg (by omega)]; rfl, by rw [Rep], h.2⟩
    case h_3 => obtain ⟨rfl, h⟩ := h; exact ⟨_, _, by simp only [binOp, Op.intArith, ne_eq, not_true_eq_false, if_false]; rfl, by rw [Rep], h⟩
    case h_4 => obtain ⟨rfl, h⟩ := h; exact ⟨_, _, by simp only [binOp, Op.intArith, ne_eq, not_true_eq_false, if_false]; rfl, by rw [Rep], h⟩
    case h_5 => obtain ⟨rfl, h⟩ := h; exact ⟨_, _, by simp only [binOp, Op.intArith, ne_eq, not_true_eq_false, if_false]; rfl, by rw [Rep], h⟩
    case h_6 => obtain ⟨rfl, h0, h⟩ := h; exact ⟨_, _, by simp only [binOp, Op.intDiv, ne_eq, not_true_eq_false, if_false, h0]; rfl, by rw [Rep], h⟩
    case h_7 => obtain ⟨rfl, h0, h⟩ := h; exact ⟨_, _, by simp only [binOp, Op.intDiv, ne_eq, not_true_eq_false, if_false, h0]; rfl, by rw [Rep], h⟩
    case h_8 => obtain ⟨rfl, h⟩ := h; exact ⟨_, _, by simp only [binOp, Op.intBits, ne_eq, not_true_eq_false, if_false]; rfl, by rw [Rep], h⟩
    case h_9 => obtain ⟨rfl, h⟩ := h; exact ⟨_, _, by simp only [binOp, Op.intBits, ne_eq, not_true_eq_false, if_false]; rfl, by rw [Rep], h⟩
    case h_10 => obtain ⟨rfl, h⟩ := h; exact ⟨_, _, by simp only [binOp, Op.intBits, ne_eq, not_true_eq_false, if_false]; rfl, by rw [Rep], h⟩
    case h_11 => obtain ⟨rfl, h⟩ := h; exact ⟨_, _, by simp only [binOp, Op.intCmp, ne_eq, not_true_eq_false, if_false]; rfl, by rw [Rep], h⟩
    case h_12 => obtain ⟨rfl, h⟩ := h; exact ⟨_, _, by simp only [binOp, Op.intCmp, ne_eq, not_true_eq_false, if_false]; rfl, by rw [Rep], h⟩
    case h_13 => obtain ⟨rfl, h⟩ := h; exact ⟨_, _, by simp only [binOp, Op.intCmp, ne_eq, not_true_eq_false, if_false]; rfl, by rw [Rep], h⟩
    case h_14 => obtain ⟨rfl, h⟩ := h; exact ⟨_, _, by simp only [binOp, Op.intCmp, ne_eq, not_true_eq_false, if_false]; rfl, by rw [Rep], h⟩
    case h_15 => obtain ⟨rfl, h⟩ := h; exact ⟨_, _, by simp only [binOp, Op.intCmp, ne_eq, not_true_eq_false, if_false]; rfl, by rw [Rep], h⟩
    case h_16 => obtain ⟨rfl, h⟩ := h; exact ⟨_, _, by simp only [binOp, Op.intCmp, ne_eq, not_true_eq_false, if_false]; rfl, by rw [Rep], h⟩
    case h_17 => exact h.elim
  · rename_i a b
    rw [Rep] at hx hy
    subst hx; subst hy
    simp only [Sem.run_bind, guard_str, Result.andThen_ok]
    split at h
    case h_1 => exact ⟨_, _, by simp only [binOp, Op.stringOp]; rfl, by rw [Rep], h⟩
    case h_2 => exact ⟨_, _, by simp only [binOp, Op.stringOp]; rfl, by rw [Rep], h⟩
    case h_3 => exact ⟨_, _, by simp only [binOp, Op.stringOp]; rfl, by rw [Rep], h⟩
    case h_4 => exact ⟨_, _, by simp only [binOp, Op.stringOp]; rfl, by rw [Rep], h⟩
    case h_5 => exact ⟨_, _, by simp only [binOp, Op.stringOp]; rfl, by rw [Rep], h⟩
    case h_6 => exact ⟨_, _, by simp only [binOp, Op.stringOp]; rfl, by rw [Rep], h⟩
    case h_7 => exact ⟨_, _, by simp only [binOp, Op.stringOp]; rw [if_neg (by omega)]; rfl, by rw [Rep], h.2⟩
    case h_8 => exact h.elim
  · exact h.elim

theorem run_eqB {bop : BinOp} {t : TypeId} {ox oy : Operand} {cx cy : Value} {vals : List AVal} {neg : Bool} (hop : bop = if neg then .neq else .eql) (hu : P.underlying t = some .bool)
    (hr : RepL C vals [cx, cy]) (h : ev (.eqB neg) vals C.rows K) : ∃ cv v, (do eqGuard bop t ox oy cx cy; binOp bop t cx cy : Sem Value).run P C.w = .ok cv C.w ∧ Rep C v cv ∧ K v C.rows := by
  obtain ⟨a, b, rfl, ha, hb⟩ := repL2 hr
  cases a with
  | bool p =>
    cases b with
    | bool q =>
      simp only [ev] at h
      rw [Rep] at ha hb
      refine ⟨.bool ((p == q) != neg), _, ?_, by rw [Rep], h⟩
      simp only [ha, hb, Sem.run_bind, guard_bool, Result.andThen_ok]
      cases neg <;> simp at hop <;> subst hop <;> simp [binOp, Op.equal, Op.maxDepth, run_equalIn_bool' C.w 9999 t _ _ hu]
    | _ => simp [ev] at h
  | _ => simp [ev] at h

theorem run_eqA {bop : BinOp} {t : TypeId} {ox oy : Operand} {cx cy : Value} {vals : List AVal} {neg : Bool} {ks : List CK} {fields : Array Field} (hop : bop = if neg then .neq else .eql)
    (hu : P.underlying t = some (.struct fields)) (hks : flatK P 20 t = some ks) (hg : P.eqGuardType P.depth t = false)
    (hr : RepL C vals [cx, cy]) (h : ev (.eqA neg ks) vals C.rows K) : ∃ cv v, (do eqGuard bop t ox oy cx cy; binOp bop t cx cy : Sem Value).run P C.w = .ok cv C.w ∧ Rep C v cv ∧ K v C.rows := by
  obtain ⟨a, b, rfl, ha, hb⟩ := repL2 hr
  cases a with
  | agg p =>
    cases b with
    | agg q =>
      simp only [ev] at h
      obtain ⟨f1, f2, hk⟩ := h
      rw [Rep] at ha hb
      obtain ⟨vx, rfl, rx⟩ := ha
      obtain ⟨vy, rfl, ry⟩ := hb
      have hag : isAggT P t = some true := by simp [isAggT, hu]
      have he := eq_run (C := C) C.w 20 10000 t ks p q vx.toList vy.toList (.agg vx) (.agg vy) hks (by omega) f1 f2 rx ry (.inl ⟨hag, rfl⟩) (.inl ⟨hag, rfl⟩)
      refine ⟨.bool (eqCells p q != neg), _, ?_, by rw [Rep], hk⟩
      have hgd : (eqGuard bop t ox oy (.agg vx) (.agg vy)).run P C.w = .ok () C.w := by
        cases bop <;> simp [eqGuard, hg]
      simp only [Sem.run_bind, hgd, Result.andThen_ok]
      cases neg <;> simp at hop <;> subst hop <;> simp [binOp, Op.equal, Op.maxDepth, he]
    | _ => simp [ev] at h
  | _ => simp [ev] at h

theorem bytesE_rep {C : Ctx} : ∀ {ys : List (List AVal)} {ns : List Int} {vs : List Value}, bytesE ys = some ns → RepL C ys.flatten vs → vs = ns.map (Value.int .u8)
  | [], ns, vs, h, r => by simp [bytesE] at h; subst h; simpa [RepL] using r
  | y :: ys, ns, vs, h, r => by
    unfold bytesE at h
    split at h
    · cases ‹_ :: _ = []›
    · rename_i n es heq
      cases heq
      split at h
      · rename_i ms hms
        simp at h; subst h
        simp only [List.flatten_cons, List.cons_append, List.nil_append] at r
        rw [RepL] at r
        obtain ⟨v, rest, rfl, h1, h2⟩ := r
        rw [Rep] at h1
        rw [h1, bytesE_rep hms h2]; rfl
      · cases h
    · cases h

theorem run_b2s (hok : Ok C) {s d e : TypeId} {x : AVal} {cx : Value} (hs : P.underlying s = some (.slice e)) (he : P.underlying e = some (.int .u8)) (hd : P.underlying d = some .string) (hx : Rep C x cx)
    (h : evB2s C.rows x fun v => K v C.rows) : ∃ cv v, (convert s d cx).run P C.w = .ok cv C.w ∧ Rep C v cv ∧ K v C.rows := by
  simp only [evB2s] at h
  split at h
  · exact h.elim
  · rename_i ys hys
    split at h
    · rename_i ns hns
      obtain ⟨ao, c, rfl, hsrc⟩ := source hok hx hys
      refine ⟨.string (strOf ns), _, ?_, by rw [Rep], h⟩
      rw [run_convert_bytes_string _ _ _ _ _ _ _ hs he hd]
      rcases hsrc with ⟨rfl, rfl⟩ | ⟨a, vs, rfl, hel, hcell⟩
      · simp [bytesE] at hns; subst hns
        simp [Conv.bytesToString, strOf]
      · have hv := bytesE_rep hns hel.rep
        have hl := hel.length
        rw [Nat.mul_one] at hl
        rw [← hl]
        exact run_bytesToString _ _ _ _ ns (by rw [← hv]; exact run_loadCells_list _ _ vs hcell)
    · exact h.elim

theorem run_frz (hok : Ok C) {s e : TypeId} {x : AVal} {cx : Value} (hs : P.underlying s = some (.slice e)) (he : P.underlying e = some (.int .u8)) (hx : Rep C x cx) (h : evFrz C.rows x K) :
    ∃ cv v C', (convert s s cx).run P C.w = .ok cv C'.w ∧ Rep C' v cv ∧ Ok C' ∧ Later C.rows.length C C' ∧ K v C'.rows := by
  unfold evFrz at h
  split at h
  · rename_i r n off len
    split at h
    · rename_i e' sz vals hrow
      obtain ⟨hn, rfl, rfl, hpos, hcl, hk⟩ := h
      rw [Rep] at hx
      obtain ⟨hpm, _, hrl, hx⟩ := hx
      obtain ⟨_, p, hp, hv⟩ := (hx e' sz vals hrow).2 hn
      rcases hok.live hrow with ⟨_, rfl⟩ | ⟨b, cap, cs, hp', k1, k2, k3, k4, k5, k6⟩
      · simp at hn; omega
      · rw [hp'] at hp; simp at hp; subst hp
        simp only [ownv] at hv
        obtain ⟨⟨ab, ao, asp⟩, c, rfl, hlc, hspot, hblk, hoff, _⟩ := hv
        simp only at hspot hblk hoff
        subst hspot; subst hblk
        obtain ⟨rfl, _⟩ := hoff trivial
        have hsh : C.w.shape? ab = some (e', cs.size) := by simp [World.shape?, k2]
        have hold : ∀ k, k ≠ ab → (C.w.freeze ⟨ab, cs.size, none⟩ 1).heap[k]? = C.w.heap[k]? := by
          intro k hk
          simp [World.freeze, Array.getElem?_modify, hk.symm]
        have hnew : (C.w.freeze ⟨ab, cs.size, none⟩ 1).heap[ab]? = some (.cells cs e' (cs.size, cs.size + 1)) := by
          simp [World.freeze, Array.getElem?_modify, k2]
        have hcell : ∀ o, (C.w.freeze ⟨ab, cs.size, none⟩ 1).cell? ⟨ab, o, none⟩ = C.w.cell? ⟨ab, o, none⟩ := by
          intro o
          simp [World.cell?, hnew, k2]
        have hsize : (C.w.freeze ⟨ab, cs.size, none⟩ 1).heap.size = C.w.heap.size := by simp [World.freeze]
        have hrp : r < C.phi.length := by rw [hok.plen]; exact hrl
        have phi' : ∀ {k : Nat}, k ≠ r → (C.phi.set r none)[k]? = C.phi[k]? := fun hne => by rw [List.getElem?_set, if_neg (fun e => hne e.symm)]
        have phir : (C.phi.set r none)[r]? = some none := by rw [List.getElem?_set, if_pos rfl, if_pos hrp]
        have old : ∀ {k : Nat} {q : Nat × Nat}, (C.phi.set r none)[k]? = some (some q) → k ≠ r ∧ C.phi[k]? = some (some q) := by
          intro k q hk
          by_cases hkr : k = r
          · subst hkr; rw [phir] at hk; simp at hk
          · rw [phi' hkr] at hk; exact ⟨hkr, hk⟩
        have later : Later C.rows.length C ⟨C.rows.set r .dead, C.phi.set r none, C.om, C.w.freeze ⟨ab, cs.size, none⟩ 1, C.pm⟩ := by
          refine ⟨rfl, rfl, rfl, by rw [hsize]; exact Nat.le_refl _, fun k hk ho => hold k fun hkb => ?_, fun k b' c' hk => .inl ⟨k, c', (old hk).2⟩, rfl, rfl, by simp, fun k e2 sz2 vals2 hk hv2 => ?_⟩
          · subst hkb; exact ho r cap hp'
          · by_cases hkr : k = r
            · subst hkr
              simp only [List.getElem?_set, if_true, hrl] at hv2
              simp at hv2
            · simp only [List.getElem?_set] at hv2
              rw [if_neg (fun e => hkr e.symm)] at hv2
              exact ⟨vals2, hv2, Nat.le_refl _, fun _ => phi' hkr⟩
        refine ⟨.slice (some ⟨ab, 0, none⟩) len c, .pure sz vals, ⟨C.rows.set r .dead, C.phi.set r none, C.om, C.w.freeze ⟨ab, cs.size, none⟩ 1, C.pm⟩, ?_, ?_, ⟨hok.pm, by simp [hok.plen], fun k row hk => ?_, fun k k' b' c1 c2 h1 h2 => ?_, fun b' hb' => by rw [hsize]; exact hok.om b' hb'⟩, later, hk⟩
        · simp [convert, run_underlying hs, run_underlying he, markStringish, hsh]
        · rw [Rep]
          refine ⟨_, c, by rw [← hn], by rw [← hn]; exact hlc, .inr ⟨ab, 0, rfl, ⟨by rw [hsize]; exact hok.lt hp', k1, fun k c' hk => ?_⟩, ?_⟩⟩
          · obtain ⟨g1, g2⟩ := old hk
            exact g1 (hok.inj k r ab c' cap g2 hp')
          · obtain ⟨g1, g2⟩ := RepE_iff.1 (RepE.toP ab sz 0 vals hcl k6)
            exact RepE_iff.2 ⟨g1, g2.move later.ext.p fun j _ => hcell _⟩
        · by_cases hkr : k = r
          · subst hkr
            simp only [List.getElem?_set, if_true, hrl] at hk
            simp at hk; subst hk
            exact phir
          · have hk' : C.rows[k]? = some row := by
              simp only [List.getElem?_set] at hk
              rw [if_neg (fun e => hkr e.symm)] at hk
              exact hk
            refine RowOk.move later.ext rfl (phi' hkr) (fun b' c' hb' => hold b' fun hbb => ?_) (hok.rows k row hk')
            subst hbb
            exact hkr (hok.inj k r b' c' cap hb' hp')
        · exact hok.inj k k' b' c1 c2 (old h1).2 (old h2).2
    · exact h.elim
  · exact h.elim

theorem ev_sound {o : Oper} {aop : AOp} {xs : List Operand} (hc : compileOp P o = some (aop, xs)) (hcall : ∀ f, aop ≠ .call f) (hok : Ok C) (ρ : Operand → Value) {vals : List AVal}
    (hr : RepL C vals (xs.map ρ)) (h : ev aop vals C.rows K) : Runs P C (execOp ρ o) K := by
  obtain ⟨dst, op, type, pos, after, guard⟩ := o
  unfold compileOp at hc
  simp only at hc
  split at hc
  · -- move
    simp at hc; obtain ⟨rfl, rfl⟩ := hc
    obtain ⟨a, rfl, ha⟩ := repL1 hr
    exact ⟨.value _, _, a, C, rfl, .inl rfl, ha, hok, Later.refl C, h⟩
  · -- assign
    simp at hc; obtain ⟨rfl, rfl⟩ := hc
    obtain ⟨a, rfl, ha⟩ := repL1 hr
    exact ⟨.value _, _, a, C, rfl, .inl rfl, ha, hok, Later.refl C, h⟩
  · -- pick
    simp at hc; obtain ⟨rfl, rfl⟩ := hc
    obtain ⟨a, b, c, rfl, ha, hb, hc⟩ := repL3 hr
    cases a <;> simp only [ev] at h
    rename_i t
    rw [Rep] at ha
    cases t
    · exact ⟨.value _, _, c, C, by simp only [execOp, ha, asBool, Sem.run_bind, Sem.run_pure, Result.andThen_ok]; rfl, .inl rfl, hc, hok, Later.refl C, h⟩
    · exact ⟨.value _, _, b, C, by simp only [execOp, ha, asBool, Sem.run_bind, Sem.run_pure, Result.andThen_ok]; rfl, .inl rfl, hb, hok, Later.refl C, h⟩
  · -- alloc
    split at hc
    · rename_i t z hz
      simp at hc; obtain ⟨rfl, rfl⟩ := hc
      rw [repL0 hr] at h
      exact Runs.val' (run_alloc' hok hz h)
    · cases hc
  · -- box
    split at hc
    · rename_i t x n hs
      simp at hc; obtain ⟨rfl, rfl⟩ := hc
      obtain ⟨a, rfl, ha⟩ := repL1 hr
      simp only [ev] at h
      exact Runs.val' (run_box' hok ha h.1 h.2.1 h.2.2)
    · cases hc
  · -- build
    split at hc
    · rename_i t parts z fields hz hu
      split at hc
      · rename_i places hp
        split at hc
        · rename_i hall
          simp only [Option.some.injEq, Prod.mk.injEq] at hc; obtain ⟨rfl, rfl⟩ := hc
          simp only [ev] at h
          split at h
          · rename_i cs hf
            obtain ⟨cv, r1, r2⟩ := run_build' (P := P) (w := C.w) hz hu hp hall hr hf h.1
            exact Runs.val hok ⟨cv, _, r1, r2, h.2⟩
          · exact h.elim
        · cases hc
      · cases hc
    · cases hc
  · -- buildSlice
    split at hc
    · rename_i t len parts _ e hu
      split at hc
      · rename_i z hz
        split at hc
        · rename_i h0
          simp only [Option.some.injEq, Prod.mk.injEq] at hc; obtain ⟨rfl, rfl⟩ := hc
          rw [repL0 hr] at h
          obtain ⟨rfl, hp0⟩ := h0
          have hp1 : parts = #[] := Array.eq_empty_of_size_eq_zero hp0
          subst hp1
          obtain ⟨i, zv, hi, hzv, habs, hl, hpos, hsz⟩ := zeroOf_spec hz
          obtain ⟨g1, g2⟩ := garbage hok (.cells #[] e)
          refine Runs.val' ⟨.slice (some ⟨C.w.heap.size, 0, none⟩) 0 0, .nils, _, ?_, by rw [Rep]; exact ⟨_, rfl⟩, g1, g2, h⟩
          have hr0 : Array.range 0 = #[] := rfl
          simp [Instr.buildSlice, run_underlying hu, sizeOf, typeInfo, hi, Instr.fill, newRow, hr0]
        split at hc
        · rename_i hl
          simp only [Option.some.injEq, Prod.mk.injEq] at hc; obtain ⟨rfl, rfl⟩ := hc
          simp only [ev] at h
          split at h
          · rename_i es hf
            exact Runs.val' (run_bslice' hok hu hz hl hr hf h.1 h.2)
          · exact h.elim
        · cases hc
      · cases hc
    · cases hc
  · -- makeSlice
    split at hc
    · rename_i t l c e hu
      split at hc
      · rename_i z by_ hz hb
        split at hc
        · cases hc
        simp at hc; obtain ⟨rfl, rfl⟩ := hc
        obtain ⟨a, b, rfl, ha, hb'⟩ := repL2 hr
        cases a <;> simp only [ev] at h
        cases b <;> simp only at h
        rw [Rep] at ha hb'
        simp only [execOp, ha, hb']
        exact Runs.val' (run_mkslice' hok hu hz hb h.1 h.2.1 h.2.2.1 h.2.2.2.1 h.2.2.2.2)
      · cases hc
    · cases hc
  · -- load
    split at hc
    · rename_i t x n hag hs
      simp at hc; obtain ⟨rfl, rfl⟩ := hc
      obtain ⟨a, rfl, ha⟩ := repL1 hr
      exact Runs.val hok (run_loadA hok ha hag hs h)
    · rename_i t x n hag
      simp at hc; obtain ⟨rfl, rfl⟩ := hc
      obtain ⟨a, rfl, ha⟩ := repL1 hr
      exact Runs.val hok (run_load1 hok ha hag h)
    · cases hc
  · -- store
    split at hc
    · rename_i t x y n hs
      simp at hc; obtain ⟨rfl, rfl⟩ := hc
      obtain ⟨a, b, rfl, ha, hb⟩ := repL2 hr
      obtain ⟨C', r1, r2, r3, r4⟩ := run_store' hok ha hb hs h
      exact Runs.unit r2 r3 r1 r4
    · cases hc
  · -- nilCheck
    simp at hc; obtain ⟨rfl, rfl⟩ := hc
    obtain ⟨a, rfl, ha⟩ := repL1 hr
    cases a <;> simp only [ev] at h
    · have ha' := ha
      rw [Rep] at ha'
      obtain ⟨_, ⟨ad, e⟩, _⟩ := ha'
      refine ⟨.value _, _, _, C, ?_, .inl rfl, ha, hok, Later.refl C, h⟩
      simp [execOp, e]
    · have ha' := ha
      rw [Rep] at ha'
      obtain ⟨b, o, e, _⟩ := ha'
      refine ⟨.value _, _, _, C, ?_, .inl rfl, ha, hok, Later.refl C, h⟩
      simp [execOp, e]
  · -- binOp
    rename_i bop t x y yt
    split at hc
    · simp at hc; obtain ⟨rfl, rfl⟩ := hc
      obtain ⟨a, b, rfl, ha, hb⟩ := repL2 hr
      exact Runs.val hok (run_bin' (K := fun v => K v C.rows) ha hb h)
    · simp at hc; obtain ⟨rfl, rfl⟩ := hc
      obtain ⟨a, b, rfl, ha, hb⟩ := repL2 hr
      exact Runs.val hok (run_bin' (K := fun v => K v C.rows) ha hb h)
    · rename_i hu
      split at hc
      · simp at hc; obtain ⟨rfl, rfl⟩ := hc; exact Runs.val hok (run_eqB (neg := false) rfl hu hr h)
      · simp at hc; obtain ⟨rfl, rfl⟩ := hc; exact Runs.val hok (run_eqB (neg := true) rfl hu hr h)
      · cases hc
    · rename_i fields hu
      split at hc
      · rename_i ks hks
        split at hc
        · cases hc
        rename_i hg
        split at hc
        · simp at hc; obtain ⟨rfl, rfl⟩ := hc; exact Runs.val hok (run_eqA (neg := false) rfl hu hks (by simpa using hg) hr h)
        · simp at hc; obtain ⟨rfl, rfl⟩ := hc; exact Runs.val hok (run_eqA (neg := true) rfl hu hks (by simpa using hg) hr h)
        · cases hc
      · cases hc
    · cases hc
  · -- not
    simp at hc; obtain ⟨rfl, rfl⟩ := hc
    obtain ⟨a, rfl, ha⟩ := repL1 hr
    cases a <;> simp only [ev] at h
    rw [Rep] at ha
    exact Runs.val hok ⟨_, _, by simp only [ha, Op.unary]; rfl, by rw [Rep], h⟩
  · -- neg
    simp at hc; obtain ⟨rfl, rfl⟩ := hc
    obtain ⟨a, rfl, ha⟩ := repL1 hr
    cases a <;> simp only [ev] at h
    rw [Rep] at ha
    exact Runs.val hok ⟨_, _, by simp only [ha, Op.unary, Op.intArith]; rfl, by rw [Rep], h⟩
  · -- convert
    rename_i s d x
    split at hc
    · rename_i ks kd hs hd
      simp at hc; obtain ⟨rfl, rfl⟩ := hc
      obtain ⟨a, rfl, ha⟩ := repL1 hr
      cases a <;> simp only [ev] at h
      rw [Rep] at ha
      refine Runs.val hok ⟨_, _, ?_, by rw [Rep], h⟩
      simp [ha, convert, run_underlying hs, run_underlying hd, Conv.intToInt]
    · rename_i e hs hd
      split at hc
      · rename_i he
        simp at hc; obtain ⟨rfl, rfl⟩ := hc
        obtain ⟨a, rfl, ha⟩ := repL1 hr
        simp only [ev] at h
        exact Runs.val hok (run_b2s hok hs he hd ha h)
      · cases hc
    · rename_i e e' hs hd
      split at hc
      · rename_i hsd
        subst hsd
        split at hc
        · rename_i he
          simp at hc; obtain ⟨rfl, rfl⟩ := hc
          obtain ⟨a, rfl, ha⟩ := repL1 hr
          simp only [ev] at h
          exact Runs.val' (run_frz hok hs he ha h)
        · cases hc
      · cases hc
    · cases hc
  · -- fieldAddr
    rename_i s x f
    split at hc
    · rename_i fields hu
      split at hc
      · rename_i fd hf
        split at hc
        · rename_i n hs
          split at hc
          · cases hc
          rename_i hn
          simp at hc; obtain ⟨rfl, rfl⟩ := hc
          obtain ⟨a, rfl, ha⟩ := repL1 hr
          simp only [ev] at h
          cases a <;> simp only [evFieldAddr] at h
          · rename_i r m i off
            rw [Rep] at ha
            obtain ⟨hpm, ⟨ad, ea⟩, hrl, hx⟩ := ha
            refine Runs.val hok ⟨.pointer (some (ad.add fd.offset)), _, ?_, ?_, h⟩
            · simp [Instr.fieldAt, Instr.sureAddr, fieldPlace, run_underlying hu, hf, ea, run_sizeOf hs, hn]
            · rw [Rep]
              refine ⟨hpm, ⟨_, rfl⟩, hrl, fun e sz vals hv => ⟨(hx e sz vals hv).1, fun hm => ?_⟩⟩
              obtain ⟨g1, b, c, g2, g3⟩ := (hx e sz vals hv).2 hm
              rw [ea] at g3
              simp at g3
              subst g3
              exact ⟨g1, b, c, g2, by rw [addr_add, Nat.add_assoc]⟩
          · rename_i cells off
            rw [Rep] at ha
            obtain ⟨b, o, ea, hb, hcl⟩ := ha
            refine Runs.val hok ⟨.pointer (some ⟨b, o + off + fd.offset, none⟩), _, ?_, ?_, h⟩
            · simp [Instr.fieldAt, Instr.sureAddr, fieldPlace, run_underlying hu, hf, ea, run_sizeOf hs, hn, addr_add]
            · rw [Rep]; exact ⟨b, o, by rw [Nat.add_assoc], hb, hcl⟩
        · cases hc
      · cases hc
    · cases hc
  · -- field
    rename_i s x f
    split at hc
    · rename_i fields hu
      split at hc
      · rename_i fd hf
        split at hc
        · rename_i n hag hs
          simp at hc; obtain ⟨rfl, rfl⟩ := hc
          obtain ⟨a, rfl, ha⟩ := repL1 hr
          cases a <;> simp only [ev] at h
          rename_i cs
          rw [Rep] at ha
          obtain ⟨vs, ea, hv⟩ := ha
          have hl := hv.length
          obtain ⟨v, p1, p2⟩ := run_part (P := P) (w := C.w) (off := fd.offset) (vs := vs.toList) hag hs (by omega) (by intro h; cases h)
          rcases p2 with ⟨_, rfl⟩ | ⟨h2, _⟩
          · refine Runs.val hok ⟨.agg ((vs.toList.drop fd.offset).take n).toArray, _, ?_, ?_, h.2⟩
            · simp only [Instr.field, Sem.run_bind, run_underlying hu, Result.andThen_ok, hf, ea, asAgg, Sem.run_pure]
              simpa using p1
            · rw [Rep]; exact ⟨_, rfl, by simpa using (hv.drop fd.offset).take n⟩
          · rw [hag] at h2; cases h2
        · rename_i n hag
          simp at hc; obtain ⟨rfl, rfl⟩ := hc
          obtain ⟨a, rfl, ha⟩ := repL1 hr
          cases a <;> simp only [ev] at h
          rename_i cs
          rw [Rep] at ha
          obtain ⟨vs, ea, hv⟩ := ha
          obtain ⟨v, g1, g2⟩ := hv.get fd.offset h.1
          refine Runs.val hok ⟨v, _, ?_, g2, h.2⟩
          have g1' : vs[fd.offset]? = some v := by simpa using g1
          simp [Instr.field, run_underlying hu, hf, ea, asAgg, part, run_isAgg hag, g1']
        · cases hc
      · cases hc
    · cases hc
  · -- indexAddr
    rename_i t x i
    split at hc
    · rename_i e hu
      split at hc
      · rename_i n hs
        simp at hc; obtain ⟨rfl, rfl⟩ := hc
        obtain ⟨a, b, rfl, ha, hb⟩ := repL2 hr
        exact Runs.val hok (run_indexAddr' hok hu hs ha hb h)
      · cases hc
    · cases hc
  · -- index
    rename_i t x i
    split at hc
    · rename_i hu
      simp at hc; obtain ⟨rfl, rfl⟩ := hc
      obtain ⟨a, b, rfl, ha, hb⟩ := repL2 hr
      cases a <;> simp only [ev] at h
      cases b <;> simp only at h
      rename_i s k n
      simp only [Rep] at ha hb
      obtain ⟨h0, h1, hk⟩ := h
      have hlt : n.toNat < s.size := by omega
      refine Runs.val hok ⟨_, _, ?_, by rw [Rep], hk⟩
      have e1 : s[n.toNat]? = some (s.data.getD n.toNat 0) := by
        rw [getElem?_pos s n.toNat hlt]
        have h2 : n.toNat < s.data.size := hlt
        simp only [Array.getD, h2, dif_pos]
        rfl
      simp [ha, hb, Instr.index, asIntOf, run_underlying hu, h0, e1]
    · cases hc
  · -- slice
    rename_i t x lo hi
    have parts : ∀ {x : AVal} {vs : List AVal}, vals = x :: vs → RepL C vs ((lo.toList ++ hi.toList).map ρ) →
        ∃ alo ahi : Option AVal, ((∃ l cl, alo = some l ∧ lo.map ρ = some cl ∧ Rep C l cl) ∨ (alo = none ∧ lo.map ρ = none)) ∧ ((∃ l cl, ahi = some l ∧ hi.map ρ = some cl ∧ Rep C l cl) ∨ (ahi = none ∧ hi.map ρ = none)) ∧
          vs = alo.toList ++ ahi.toList ∧ lo.isSome = alo.isSome ∧ hi.isSome = ahi.isSome := by
      intro x vs _ hv
      cases lo with
      | none =>
        cases hi with
        | none =>
          have := repL0 (C := C) (as := vs) (by simpa using hv)
          subst this
          exact ⟨none, none, .inr ⟨rfl, rfl⟩, .inr ⟨rfl, rfl⟩, rfl, rfl, rfl⟩
        | some b =>
          obtain ⟨bb, rfl, hb⟩ := repL1 (C := C) (as := vs) (by simpa using hv)
          exact ⟨none, some bb, .inr ⟨rfl, rfl⟩, .inl ⟨bb, _, rfl, rfl, hb⟩, rfl, rfl, rfl⟩
      | some a =>
        cases hi with
        | none =>
          obtain ⟨aa, rfl, ha⟩ := repL1 (C := C) (as := vs) (by simpa using hv)
          exact ⟨some aa, none, .inl ⟨aa, _, rfl, rfl, ha⟩, .inr ⟨rfl, rfl⟩, rfl, rfl, rfl⟩
        | some b =>
          obtain ⟨aa, bb, rfl, ha, hb⟩ := repL2 (C := C) (as := vs) (by simpa using hv)
          exact ⟨some aa, some bb, .inl ⟨aa, _, rfl, rfl, ha⟩, .inl ⟨bb, _, rfl, rfl, hb⟩, rfl, rfl, rfl⟩
    have first : ∀ {ys : List Operand}, RepL C vals ((x :: ys).map ρ) → ∃ a as, vals = a :: as ∧ Rep C a (ρ x) ∧ RepL C as (ys.map ρ) := by
      intro ys hv
      cases vals with
      | nil => rw [List.map_cons, RepL] at hv; cases hv
      | cons a as =>
        rw [List.map_cons, RepL] at hv
        obtain ⟨v, rest, he, h1, h2⟩ := hv
        simp at he; obtain ⟨rfl, rfl⟩ := he
        exact ⟨a, as, rfl, h1, h2⟩
    split at hc
    · rename_i e hu
      split at hc
      · rename_i n hs
        simp only [Option.some.injEq, Prod.mk.injEq] at hc; obtain ⟨rfl, rfl⟩ := hc
        obtain ⟨a, as, rfl, ha, hv⟩ := first hr
        obtain ⟨alo, ahi, hlo, hhi, rfl, e1, e2⟩ := parts rfl hv
        refine Runs.val hok (run_slice' ha hu hs hlo hhi ?_)
        rw [e1, e2] at h
        cases alo <;> cases ahi <;> exact h
      · cases hc
    · rename_i hu
      simp only [Option.some.injEq, Prod.mk.injEq] at hc; obtain ⟨rfl, rfl⟩ := hc
      obtain ⟨a, as, rfl, ha, hv⟩ := first hr
      obtain ⟨alo, ahi, hlo, hhi, rfl, e1, e2⟩ := parts rfl hv
      refine Runs.val hok (run_sliceS' ha hu hlo hhi ?_)
      rw [e1, e2] at h
      cases alo <;> cases ahi <;> exact h
    · cases hc
  · -- extract
    simp at hc; obtain ⟨rfl, rfl⟩ := hc
    obtain ⟨a, rfl, ha⟩ := repL1 hr
    cases a <;> simp only [ev] at h
    rename_i i cs
    rw [Rep] at ha
    obtain ⟨vs, ea, hv⟩ := ha
    obtain ⟨v, g1, g2⟩ := hv.get _ h.1
    refine Runs.val hok ⟨v, _, ?_, g2, h.2⟩
    have g1' : vs[i]? = some v := by simpa using g1
    simp [Instr.extract, ea, g1']
  · -- len
    rename_i x t
    split at hc
    · rename_i e hu
      simp at hc; obtain ⟨rfl, rfl⟩ := hc
      obtain ⟨a, rfl, ha⟩ := repL1 hr
      simp only [ev] at h
      split at h
      · rename_i l hl
        have hv : ∃ ao c, ρ x = .slice ao l c := by
          cases a <;> simp [len?] at hl <;> subst hl
          case pure => rw [Rep] at ha; obtain ⟨ao, c, e, _⟩ := ha; exact ⟨ao, c, e⟩
          case nils => rw [Rep] at ha; obtain ⟨ao, e⟩ := ha; exact ⟨ao, 0, e⟩
          case own => rw [Rep] at ha; obtain ⟨_, ⟨ao, c, e⟩, _⟩ := ha; exact ⟨ao, c, e⟩
        obtain ⟨ao, c, e⟩ := hv
        refine ⟨.value (goInt l), goInt l, _, C, ?_, .inl rfl, ?_, hok, Later.refl C, h⟩
        · simp [execOp, resolve, invoke, builtin, Builtin.len_, run_underlying hu, e]
        · rw [Rep]; rfl
      · exact h.elim
    · rename_i hu
      simp at hc; obtain ⟨rfl, rfl⟩ := hc
      obtain ⟨a, rfl, ha⟩ := repL1 hr
      cases a <;> simp only [ev] at h
      rw [Rep] at ha
      rename_i s
      refine ⟨.value (goInt s.size), goInt s.size, _, C, ?_, .inl rfl, ?_, hok, Later.refl C, h⟩
      · simp [execOp, resolve, invoke, builtin, Builtin.len_, run_underlying hu, ha]
      · rw [Rep]; rfl
    · cases hc
  · -- append
    rename_i x y t u
    split at hc
    · rename_i htu
      subst htu
      split at hc
      · rename_i e hu
        split at hc
        · rename_i z by_ hz hb
          split at hc
          · cases hc
          rename_i hb0
          simp at hc; obtain ⟨rfl, rfl⟩ := hc
          obtain ⟨a, b, rfl, ha, hb'⟩ := repL2 hr
          obtain ⟨i, zv, hi, hzv, habs, hl, hpos, hsz⟩ := zeroOf_spec hz
          have hby : i.bytes = by_ := by simpa [hi] using hb
          subst hby
          simp only [ev, hl] at h
          obtain ⟨cv, v, C', r1, r2, r3, r4, r5⟩ := run_appendA (ty := type) hok hu hi hzv hsz hb0 ha hb' h
          refine ⟨.value cv, cv, v, C', ?_, .inl rfl, r2, r3, r4, r5⟩
          simp [execOp, resolve, invoke, builtin, r1]
        · cases hc
      · cases hc
    · cases hc
  · -- min
    rename_i x y ats
    simp at hc; obtain ⟨rfl, rfl⟩ := hc
    obtain ⟨a, b, rfl, ha, hb⟩ := repL2 hr
    cases a <;> simp only [ev] at h
    cases b <;> simp only at h
    rename_i k p k' q
    rw [Rep] at ha hb
    obtain ⟨rfl, hk⟩ := h
    refine ⟨.value (.int k (min p q)), .int k (min p q), .int k (min p q), C, ?_, .inl rfl, by rw [Rep], hok, Later.refl C, hk⟩
    have : (if q < p then q else p) = min p q := by simp only [Int.min_def]; split <;> split <;> omega
    simp [execOp, resolve, invoke, builtin, Builtin.min_, Builtin.min2, ha, hb, this]
  · -- max
    rename_i x y ats
    simp at hc; obtain ⟨rfl, rfl⟩ := hc
    obtain ⟨a, b, rfl, ha, hb⟩ := repL2 hr
    cases a <;> simp only [ev] at h
    cases b <;> simp only at h
    rename_i k p k' q
    rw [Rep] at ha hb
    obtain ⟨rfl, hk⟩ := h
    refine ⟨.value (.int k (max p q)), .int k (max p q), .int k (max p q), C, ?_, .inl rfl, by rw [Rep], hok, Later.refl C, hk⟩
    have : (if p < q then q else p) = max p q := by simp only [Int.max_def]; split <;> split <;> omega
    simp [execOp, resolve, invoke, builtin, Builtin.max_, Builtin.max2, ha, hb, this]
  · -- call
    split at hc
    · split at hc
      · simp at hc; exact (hcall _ hc.1.symm).elim
      · cases hc
    · cases hc
  · cases hc

end
end Go.Abs
