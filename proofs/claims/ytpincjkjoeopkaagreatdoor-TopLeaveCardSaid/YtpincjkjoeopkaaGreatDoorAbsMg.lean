/- Abs41, Abs49 joined. -/
import Derived.Test.YtpincjkjoeopkaaGreatDoorAbsMd
set_option linter.unusedSimpArgs false
set_option linter.unusedVariables false
set_option linter.unusedSectionVars false
section
/- An element put into its place: append, copy, store. -/
namespace Go.Abs
variable [Glb]

/-- elements put over others -/
def overL {α : Type} (zs : List α) (off : Nat) (ys : List α) : List α := zs.take off ++ ys ++ zs.drop (off + ys.length)
theorem over_numsE {k : IntKind} {a b : List Int} {off : Nat} : over (numsE k a) off (numsE k b) = numsE k (overL a off b) := by
  simp [over, overL, numsE]
theorem over_els {α : Type} [Cel α] {a b : List α} {off : Nat} : over (els a) off (els b) = els (overL a off b) := by
  simp [over, overL, els]
attribute [go_sem] over_numsE over_els

/-- maps from numbers to numbers -/
def mapI (l : List (Int × Int)) : List (AVal × AVal) := l.map fun p => (.int .i64 p.1, .int .i64 p.2)
def look (l : List (Int × Int)) (k : Int) : Option Int := (l.find? fun p => k == p.1).map (·.2)
def putI (k v : Int) : List (Int × Int) → List (Int × Int)
  | [] => [(k, v)]
  | p :: ps => if k == p.1 then (k, v) :: ps else p :: putI k v ps
theorem mapI_clean : ∀ {l : List (Int × Int)}, cleanM (mapI l) = true
  | [] => _root_.id rfl
  | p :: l => by
    have := mapI_clean (l := l)
    simp only [cleanM, mapI, List.map_map, Bool.and_eq_true] at this ⊢
    simp only [List.map_cons, cleanL, Function.comp_apply, clean, Bool.true_and]
    exact this
theorem kfind_mapI {k : Int} : ∀ {l : List (Int × Int)}, kfind (.int .i64 k) (mapI l) = (look l k).map (.int .i64 ·)
  | [] => _root_.id rfl
  | p :: l => by
    have ih := kfind_mapI (k := k) (l := l)
    unfold mapI look at *
    rw [List.map_cons, kfind, List.find?_cons]
    have : isKey (.int .i64 k) (.int .i64 p.1) = (k == p.1) := by simp [isKey, acells, eqCells]
    simp only [this]
    cases hk : k == p.1
    · simpa using ih
    · rfl
theorem kput_mapI {k v : Int} : ∀ {l : List (Int × Int)}, kput (.int .i64 k) (.int .i64 v) (mapI l) = mapI (putI k v l)
  | [] => _root_.id rfl
  | p :: l => by
    have ih := kput_mapI (k := k) (v := v) (l := l)
    unfold mapI at *
    rw [List.map_cons, kput, putI]
    have : isKey (.int .i64 k) (.int .i64 p.1) = (k == p.1) := by simp [isKey, acells, eqCells]
    simp only [this]
    cases hk : k == p.1
    · simp only [Bool.false_eq_true, if_false, List.map_cons, ih]
    · rfl
attribute [go_sem] Option.isSome_some Option.isSome_none Option.getD_some Option.getD_none mapI_clean kfind_mapI kput_mapI

end Go.Abs
end

section
/- Calls that are handed all rows, under their own names. -/
namespace Go.Abs
variable [Glb]

mutual
/-- a value that names no row beyond the n-th -/
def inV (n : Nat) : AVal → Bool
  | .own r _ _ _ => decide (r < n)
  | .ref r _ _ _ => decide (r < n)
  | .agg cs => inL n cs
  | .tup cs => inL n cs
  | .fn _ cs => inL n cs
  | .mref r => decide (r < n)
  | .itref r m => decide (r < n) && decide (m < n)
  | _ => true
def inL (n : Nat) : List AVal → Bool
  | [] => true
  | c :: cs => inV n c && inL n cs
end
def inE (n : Nat) : List (List AVal) → Bool
  | [] => true
  | e :: es => inL n e && inE n es
def inM (n : Nat) : List (AVal × AVal) → Bool
  | [] => true
  | p :: ps => inV n p.1 && inV n p.2 && inM n ps
def inRow (n : Nat) : Row → Bool
  | .dead => true
  | .live _ _ vals => inE n vals
  | .obj (.map _ _ ents) => inM n ents
  | .obj (.iter _ _) => true
mutual
theorem inV_clean {n : Nat} : ∀ (a : AVal), clean a = true → inV n a = true
  | .own .., h => by simp [clean] at h
  | .ref .., h => by simp [clean] at h
  | .agg cs, h => by rw [clean] at h; rw [inV]; exact inL_clean cs h
  | .tup cs, h => by rw [clean] at h; rw [inV]; exact inL_clean cs h
  | .fn _ cs, h => by rw [clean] at h; rw [inV]; exact inL_clean cs h
  | .mref _, h => by simp [clean] at h
  | .itref .., h => by simp [clean] at h
  | .int .., _ => rfl
  | .bool .., _ => rfl
  | .str .., _ => rfl
  | .nils, _ => rfl
  | .nilp, _ => rfl
  | .nilm, _ => rfl
  | .pure .., _ => rfl
  | .pref .., _ => rfl
  | .junk, _ => rfl
theorem inL_clean {n : Nat} : ∀ (as : List AVal), cleanL as = true → inL n as = true
  | [], _ => rfl
  | a :: as, h => by
    simp only [cleanL, Bool.and_eq_true] at h
    rw [inL, inV_clean a h.1, inL_clean as h.2]; rfl
end
theorem inE_clean {n : Nat} : ∀ {es : List (List AVal)}, cleanE es = true → inE n es = true
  | [], _ => rfl
  | e :: es, h => by
    simp only [cleanE, Bool.and_eq_true] at h
    rw [inE, inL_clean e h.1, inE_clean h.2]; rfl
mutual
theorem inV_mono {n m : Nat} (h : n ≤ m) : ∀ (a : AVal), inV n a = true → inV m a = true
  | .own .., k => by simp only [inV, decide_eq_true_eq] at k ⊢; omega
  | .ref .., k => by simp only [inV, decide_eq_true_eq] at k ⊢; omega
  | .agg cs, k => by rw [inV] at k ⊢; exact inL_mono h cs k
  | .tup cs, k => by rw [inV] at k ⊢; exact inL_mono h cs k
  | .fn _ cs, k => by rw [inV] at k ⊢; exact inL_mono h cs k
  | .mref _, k => by simp only [inV, decide_eq_true_eq] at k ⊢; omega
  | .itref .., k => by simp only [inV, Bool.and_eq_true, decide_eq_true_eq] at k ⊢; omega
  | .int .., _ => rfl
  | .bool .., _ => rfl
  | .str .., _ => rfl
  | .nils, _ => rfl
  | .nilp, _ => rfl
  | .nilm, _ => rfl
  | .pure .., _ => rfl
  | .pref .., _ => rfl
  | .junk, _ => rfl
theorem inL_mono {n m : Nat} (h : n ≤ m) : ∀ (as : List AVal), inL n as = true → inL m as = true
  | [], _ => rfl
  | a :: as, k => by
    simp only [inL, Bool.and_eq_true] at k ⊢
    exact ⟨inV_mono h a k.1, inL_mono h as k.2⟩
end
theorem inE_mono {n m : Nat} (h : n ≤ m) : ∀ {es : List (List AVal)}, inE n es = true → inE m es = true
  | [], _ => rfl
  | e :: es, k => by
    simp only [inE, Bool.and_eq_true] at k ⊢
    exact ⟨inL_mono h e k.1, inE_mono h k.2⟩
theorem inM_mono {n m : Nat} (h : n ≤ m) : ∀ {es : List (AVal × AVal)}, inM n es = true → inM m es = true
  | [], _ => rfl
  | e :: es, k => by
    simp only [inM, Bool.and_eq_true] at k ⊢
    exact ⟨⟨inV_mono h _ k.1.1, inV_mono h _ k.1.2⟩, inM_mono h k.2⟩
theorem inRow_mono {n m : Nat} (h : n ≤ m) : ∀ {r : Row}, inRow n r = true → inRow m r = true
  | .dead, _ => rfl
  | .live .., k => inE_mono h k
  | .obj (.map ..), k => inM_mono h k
  | .obj (.iter ..), _ => rfl

theorem pos?_range' : ∀ (k s r : Nat), pos? ((List.range' s k).map some) r = if s ≤ r ∧ r < s + k then some (r - s) else none
  | 0, s, r => by rw [if_neg (by omega)]; rfl
  | k + 1, s, r => by
    rw [List.range'_succ, List.map_cons, pos?, pos?_range' k (s + 1) r]
    by_cases h : s = r
    · subst h; simp
    · rw [if_neg h]
      by_cases h2 : s + 1 ≤ r ∧ r < s + 1 + k
      · rw [if_pos h2, if_pos (by omega)]; simp; omega
      · rw [if_neg h2, if_neg (by omega)]; rfl
theorem pos?_range {n r : Nat} (h : r < n) : pos? ((List.range n).map some) r = some r := by
  rw [List.range_eq_range', pos?_range', if_pos (by omega)]; simp
mutual
theorem bindV_all {rows : List Row} {n : Nat} : ∀ (a : AVal), inV n a = true → bindV rows ((List.range n).map some) [] a = a
  | .own r .., h => by simp only [inV, decide_eq_true_eq] at h; simp only [bindV, pos?_range h]
  | .ref r .., h => by simp only [inV, decide_eq_true_eq] at h; simp only [bindV, pos?_range h]
  | .agg cs, h => by rw [inV] at h; rw [bindV, bindL_all cs h]
  | .tup cs, h => by rw [inV] at h; rw [bindV, bindL_all cs h]
  | .fn _ cs, h => by rw [inV] at h; rw [bindV, bindL_all cs h]
  | .mref _, h => by simp only [inV, decide_eq_true_eq] at h; simp only [bindV, pos?_range h]
  | .itref .., h => by simp only [inV, Bool.and_eq_true, decide_eq_true_eq] at h; simp only [bindV, pos?_range h.1, pos?_range h.2]
  | .int .., _ => rfl
  | .bool .., _ => rfl
  | .str .., _ => rfl
  | .nils, _ => rfl
  | .nilp, _ => rfl
  | .nilm, _ => rfl
  | .pure .., _ => rfl
  | .pref .., _ => rfl
  | .junk, _ => rfl
theorem bindL_all {rows : List Row} {n : Nat} : ∀ (as : List AVal), inL n as = true → bindL rows ((List.range n).map some) [] as = as
  | [], _ => rfl
  | a :: as, h => by
    simp only [inL, Bool.and_eq_true] at h
    rw [bindL, bindV_all a h.1, bindL_all as h.2]
end
theorem bindE_all {rows : List Row} {n : Nat} {es : List (List AVal)} (h : inE n es = true) : bindE rows ((List.range n).map some) [] es = es := by
  rw [bindE_eq]
  induction es with
  | nil => rfl
  | cons e es ih =>
    simp only [inE, Bool.and_eq_true] at h
    rw [List.map_cons, bindL_all e h.1, ih h.2]
theorem bindM_all {rows : List Row} {n : Nat} : ∀ {es : List (AVal × AVal)}, inM n es = true → (es.map fun p => (bindV rows ((List.range n).map some) [] p.1, bindV rows ((List.range n).map some) [] p.2)) = es
  | [], _ => rfl
  | e :: es, h => by
    simp only [inM, Bool.and_eq_true] at h
    rw [List.map_cons, bindV_all _ h.1.1, bindV_all _ h.1.2, bindM_all h.2]
theorem bindRow_all {rows : List Row} {n : Nat} : ∀ {r : Row}, inRow n r = true → bindRow rows ((List.range n).map some) [] r = r
  | .dead, _ => rfl
  | .live .., h => by rw [bindRow, bindE_all h]
  | .obj (.map ..), h => by rw [bindRow, bindM_all h]
  | .obj (.iter ..), _ => rfl
/-- no row names a row beyond the last -/
def inAll (rows : List Row) : Prop := ∀ (r : Nat) (row : Row), rows[r]? = some row → inRow rows.length row = true
theorem getRows_range' {rows : List Row} (h : inAll rows) : ∀ (k s : Nat), s + k = rows.length → getRows rows [] ((List.range rows.length).map some) ((List.range' s k).map some) = some (rows.drop s)
  | 0, s, e => by rw [show s = rows.length by omega]; simp [getRows]
  | k + 1, s, e => by
    have hs : s < rows.length := by omega
    rw [List.range'_succ, List.map_cons, getRows, getRows_range' h k (s + 1) (by omega), List.getElem?_eq_getElem hs]
    simp only
    rw [bindRow_all (h s _ (List.getElem?_eq_getElem hs)), List.drop_eq_getElem_cons hs]
theorem getRows_all {rows : List Row} (h : inAll rows) : getRows rows [] ((List.range rows.length).map some) ((List.range rows.length).map some) = some rows := by
  have := getRows_range' h rows.length 0 (by omega)
  rw [← List.range_eq_range'] at this
  simpa using this
theorem back_range' (n : Nat) : ∀ (k s i : Nat), back n (List.range' s k) i = if i < k then s + i else n + (i - k)
  | 0, s, i => by simp [back]
  | k + 1, s, 0 => by rw [List.range'_succ, back]; simp
  | k + 1, s, i + 1 => by
    rw [List.range'_succ, back, back_range' n k (s + 1) i]
    by_cases h : i < k
    · rw [if_pos h, if_pos (by omega)]; omega
    · rw [if_neg h, if_neg (by omega)]; omega
theorem back_all (n : Nat) : back n (List.range n) = fun i => i := by
  funext i
  rw [List.range_eq_range', back_range']
  split <;> omega
mutual
theorem renV_id : ∀ (a : AVal), renV (fun i => i) a = a
  | .own .. => rfl
  | .ref .. => rfl
  | .agg cs => by rw [renV, renL_id cs]
  | .tup cs => by rw [renV, renL_id cs]
  | .fn _ cs => by rw [renV, renL_id cs]
  | .mref _ => rfl
  | .itref .. => rfl
  | .int .. => rfl
  | .bool .. => rfl
  | .str .. => rfl
  | .nils => rfl
  | .nilp => rfl
  | .nilm => rfl
  | .pure .. => rfl
  | .pref .. => rfl
  | .junk => rfl
theorem renL_id : ∀ (as : List AVal), renL (fun i => i) as = as
  | [] => rfl
  | a :: as => by rw [renL, renV_id a, renL_id as]
end
theorem renRow_id : ∀ (r : Row), renRow (fun i => i) r = r
  | .dead => rfl
  | .live e sz vals => by
    rw [renRow, renE_eq]
    congr 1
    induction vals with
    | nil => rfl
    | cons x xs ih => rw [List.map_cons, renL_id, ih]
  | .obj (.map ag ks ents) => by
    rw [renRow]
    congr 2
    induction ents with
    | nil => rfl
    | cons x xs ih => rw [List.map_cons, renV_id, renV_id, ih]
  | .obj (.iter ..) => rfl
theorem mergeR_range' {α : Type} : ∀ (k s : Nat) (xs ys : List α), s + k = xs.length → k ≤ ys.length → mergeR xs (List.range' s k) ys = xs.take s ++ ys
  | 0, s, xs, ys, e, _ => by simp only [List.range'_zero, mergeR]; rw [show s = xs.length by omega, List.take_length]
  | k + 1, s, xs, [], e, h => by simp at h
  | k + 1, s, xs, y :: ys, e, h => by
    rw [List.range'_succ, mergeR, mergeR_range' k (s + 1) _ ys (by rw [List.length_set]; omega) (by simpa using h)]
    have hs : s < xs.length := by omega
    rw [List.take_succ_eq_append_getElem (by rw [List.length_set]; exact hs), List.getElem_set_self, List.take_set_of_le (Nat.le_refl _), List.append_assoc]
    rfl
theorem mergeR_all {α : Type} {xs ys : List α} (h : xs.length ≤ ys.length) : mergeR xs (List.range xs.length) ys = ys := by
  rw [List.range_eq_range', mergeR_range' _ _ _ _ (by omega) h]; simp

theorem callK_all {P : Program} {f : FuncId} {args : List AVal} {rows : List Row} {Q K : AVal → List Row → Prop} (hr : inAll rows) (ha : inL rows.length args = true) (h : AFn P f args rows Q)
    (hq : ∀ v rs, Q v rs → rows.length ≤ rs.length ∧ K v rs) : callK P f args rows K := by
  refine ⟨List.range rows.length, [], rows, List.nodup_range, getRows_all hr, ?_⟩
  rw [bindL_all args ha]
  refine h.mono fun v rs hv => ⟨.inl rfl, ?_⟩
  obtain ⟨h1, h2⟩ := hq v rs hv
  rw [back_all, renV_id, show rs.map (renRow fun i => i) = rs from by rw [List.map_congr_left (fun r _ => renRow_id r), List.map_id'], mergeR_all h1]
  exact h2
/-- a call that is handed all rows -/
theorem callC_all {P : Program} {f : FuncId} {args : List AVal} {rows : List Row} {dst : Option Nat} {env : Env} {K : Env → List Row → Prop} {Q : AVal → List Row → Prop} (hr : inAll rows) (ha : inL rows.length args = true) (h : AFn P f args rows Q)
    (hq : ∀ v rs, Q v rs → rows.length ≤ rs.length ∧ K (put env dst v) rs) : callC P f args rows dst env K := callK_all hr ha h hq
theorem callD_all {P : Program} {f : FuncId} {args : List AVal} {un : List Nat} {tk : Tk} {rows : List Row} {dst : Option Nat} {env : Env} {K : Env → List Row → Prop} {Q : AVal → List Row → Prop} (ht : okTk un tk (List.range rows.length) []) (hr : inAll rows) (ha : inL rows.length args = true) (h : AFn P f args rows Q)
    (hq : ∀ v rs, Q v rs → rows.length ≤ rs.length ∧ K (put env dst v) rs) : callD P f args un tk rows dst env K := by
  obtain ⟨sel, vw, srows, h1, h2, h3⟩ := callK_all (K := fun v rs => K (put env dst v) rs) hr ha h hq
  refine ⟨List.range rows.length, [], rows, ht, List.nodup_range, getRows_all hr, ?_⟩
  rw [bindL_all args ha]
  refine h.mono fun v rs hv => ⟨.inl rfl, ?_⟩
  obtain ⟨h1, h2⟩ := hq v rs hv
  rw [back_all, renV_id, show rs.map (renRow fun i => i) = rs from by rw [List.map_congr_left (fun r _ => renRow_id r), List.map_id'], mergeR_all h1]
  exact h2

theorem Later.toD (D1 D2 : Dr) (hd : D2.d → D1.d) {n : Nat} {C C' : Ctx} (h : @Later D1 n C C') : @Later D2 n C C' :=
  @Later.mk D2 n C C' (@Later.os D1 _ _ _ h) (@Later.tape D1 _ _ _ h) (@Later.output D1 _ _ _ h) (@Later.size D1 _ _ _ h) (@Later.block D1 _ _ _ h) (@Later.fresh D1 _ _ _ h) (@Later.om D1 _ _ _ h) (@Later.pm D1 _ _ _ h) (@Later.len D1 _ _ _ h) (@Later.rows D1 _ _ _ h) (@Later.objs D1 _ _ _ h) (fun k => @Later.drawn D1 _ _ _ h (hd k))
/-- the same of variables, with draws counted -/
@[reducible] def Glb.D (G : Glb) : Glb := { d := True, n := G.n, H := G.H, keep := G.keep }
omit [Glb] in
theorem AFn.ofD (G : Glb) {P : Program} {f : FuncId} {args : List AVal} {rows : List Row} {Q : AVal → List Row → Prop} (h : @AFn G.D P f args rows Q) : @AFn G P f args rows Q := by
  intro C cargs hr hok hG hrep
  refine (h C cargs hr hok hG hrep).mono ?_
  rintro e w' ⟨cv, v, C', rfl, hw, hv, hok', hl, hq⟩
  exact ⟨cv, v, C', rfl, hw, hv, hok', Later.toD G.D.toDr G.toDr (fun _ => trivial) hl, hq⟩

theorem getRows_front {rows t : List Row} (h : inAll rows) : ∀ (k s : Nat), s + k = rows.length → getRows (rows ++ t) [] ((List.range rows.length).map some) ((List.range' s k).map some) = some (rows.drop s)
  | 0, s, e => by rw [show s = rows.length by omega]; simp [getRows]
  | k + 1, s, e => by
    have hs : s < rows.length := by omega
    rw [List.range'_succ, List.map_cons, getRows, getRows_front h k (s + 1) (by omega), List.getElem?_append_left hs, List.getElem?_eq_getElem hs]
    simp only
    rw [bindRow_all (h s _ (List.getElem?_eq_getElem hs)), List.drop_eq_getElem_cons hs]
def inEnv (n : Nat) (env : Env) : Bool := env.all fun p => inV n p.2
/-- the rows at the end are dropped -/
theorem Cl.drop {n0 : Nat} {K : Env → List Row → Prop} {env : Env} {rows t : List Row} (hn : n0 ≤ rows.length) (hr : inAll rows) (he : inEnv rows.length env = true) (h : Cl n0 K env rows) : Cl n0 K env (rows ++ t) := by
  have hg : getRows (rows ++ t) [] ((List.range rows.length).map some) ((List.range rows.length).map some) = some rows := by
    have := getRows_front (t := t) hr rows.length 0 (by omega)
    rw [← List.range_eq_range'] at this
    simpa using this
  have hk : keeps n0 ((List.range rows.length).map some) := by
    refine ⟨by simpa using hn, fun r hr => .inl ?_⟩
    rw [List.getElem?_map, List.getElem?_range (by omega)]
    rfl
  have hb : (env.map fun p => (p.1, bindV (rows ++ t) ((List.range rows.length).map some) [] p.2)) = env := by
    rw [List.map_congr_left (g := id) (fun p hp => ?_), List.map_id]
    have := List.all_eq_true.1 he p hp
    rw [bindV_all _ this]; rfl
  have := Cl.step (Wk.tr (n0 := n0) (env := env) ((List.range rows.length).map some) [] (once_of_nodup List.nodup_range) hk hg) (by rw [hb]; exact h)
  exact this

end Go.Abs
end
