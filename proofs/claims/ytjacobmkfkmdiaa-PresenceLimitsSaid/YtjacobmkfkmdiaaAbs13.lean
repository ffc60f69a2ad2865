/- Names of rows: values seen by a caller and by a callee. -/
import Derived.Test.YtjacobmkfkmdiaaAbs12
set_option linter.unusedSimpArgs false
set_option linter.unusedVariables false
set_option linter.unusedSectionVars false
namespace Go.Abs

mutual
/-- no reference to memory that never changes -/
def flat : AVal → Bool
  | .pure _ vals => vals.isEmpty
  | .pref .. => false
  | .agg cs => flatL cs
  | .tup cs => flatL cs
  | _ => true
def flatL : List AVal → Bool
  | [] => true
  | c :: cs => flat c && flatL cs
end

def flatE : List (List AVal) → Bool
  | [] => true
  | e :: es => flatL e && flatE es

def flatRow : Row → Bool
  | .dead => true
  | .live _ _ vals => flatE vals

mutual
def renV (f : Nat → Nat) : AVal → AVal
  | .own r n off len => .own (f r) n off len
  | .ref r n i off => .ref (f r) n i off
  | .agg cs => .agg (renL f cs)
  | .tup cs => .tup (renL f cs)
  | v => v
def renL (f : Nat → Nat) : List AVal → List AVal
  | [] => []
  | c :: cs => renV f c :: renL f cs
end

def renE (f : Nat → Nat) (es : List (List AVal)) : List (List AVal) := if cleanE es then es else es.map (renL f)

def renRow (f : Nat → Nat) : Row → Row
  | .dead => .dead
  | .live e sz vals => .live e sz (renE f vals)

mutual
theorem renV_clean (f : Nat → Nat) : ∀ (a : AVal), clean a = true → renV f a = a
  | .own .., h => by simp [clean] at h
  | .ref .., h => by simp [clean] at h
  | .agg cs, h => by rw [clean] at h; rw [renV, renL_clean f cs h]
  | .tup cs, h => by rw [clean] at h; rw [renV, renL_clean f cs h]
  | .int .., _ => rfl
  | .bool .., _ => rfl
  | .str .., _ => rfl
  | .nils, _ => rfl
  | .nilp, _ => rfl
  | .junk, _ => rfl
  | .pure .., _ => rfl
  | .pref .., _ => rfl
theorem renL_clean (f : Nat → Nat) : ∀ (as : List AVal), cleanL as = true → renL f as = as
  | [], _ => rfl
  | a :: as, h => by
    simp only [cleanL, Bool.and_eq_true] at h
    rw [renL, renV_clean f a h.1, renL_clean f as h.2]
end

theorem renE_eq (f : Nat → Nat) (es : List (List AVal)) : renE f es = es.map (renL f) := by
  unfold renE
  split
  · rename_i h
    induction es with
    | nil => rfl
    | cons e es ih =>
      simp only [cleanE, Bool.and_eq_true] at h
      rw [List.map_cons, renL_clean f e h.1, ← ih h.2]
  · rfl

theorem renL_length (f : Nat → Nat) : ∀ (as : List AVal), (renL f as).length = as.length
  | [] => rfl
  | a :: as => by simp [renL, renL_length f as]

/-- C' sees what C sees, under other names -/
structure ExtF (f : Nat → Nat) (C C' : Ctx) : Prop where
  pm : C'.pm = C.pm
  keep : ∀ b, C.pureBlk b → C'.w.heap[b]? = C.w.heap[b]? ∧ C'.pureBlk b
  rows : ∀ r, r < C.rows.length → f r < C'.rows.length ∧ ∀ e sz vals', C'.rows[f r]? = some (.live e sz vals') →
    ∃ vals, C.rows[r]? = some (.live e sz vals) ∧ vals.length ≤ vals'.length ∧ (vals.length = vals'.length → C'.phi[f r]? = C.phi[r]?)

/-- of values that never change the names do not matter -/
theorem ExtF.p {f : Nat → Nat} {C C' : Ctx} (h : ExtF f C C') : ExtF f C.p C'.p := ⟨rfl, h.keep, h.rows⟩

mutual
theorem Rep.keepP {C C' : Ctx} (hk : ∀ b, C.pureBlk b → C'.w.heap[b]? = C.w.heap[b]? ∧ C'.pureBlk b) (hC : C.pm = true) (hC' : C'.pm = true) : ∀ (a : AVal) (v : Value), Rep C a v → Rep C' a v
  | .int .., _, r => by simpa [Rep] using r
  | .bool .., _, r => by simpa [Rep] using r
  | .str .., _, r => by simpa [Rep] using r
  | .nils, _, r => by simpa [Rep] using r
  | .nilp, _, r => by simpa [Rep] using r
  | .junk, _, _ => by simp [Rep]
  | .agg cs, v, r => by
    rw [Rep] at r ⊢
    obtain ⟨vs, rfl, hr⟩ := r
    exact ⟨vs, rfl, RepL.keepP hk hC hC' cs _ hr⟩
  | .tup cs, v, r => by
    rw [Rep] at r ⊢
    obtain ⟨vs, rfl, hr⟩ := r
    exact ⟨vs, rfl, RepL.keepP hk hC hC' cs _ hr⟩
  | .pure sz vals, v, r => by
    rw [Rep] at r ⊢
    obtain ⟨ao, cap, rfl, hle, hr⟩ := r
    refine ⟨ao, cap, rfl, hle, ?_⟩
    rcases hr with hr | ⟨b, o, rfl, hb, he⟩
    · exact .inl hr
    · exact .inr ⟨b, o, rfl, (hk b hb).2, RepE.keepP (C := C.p) (C' := C'.p) hk rfl rfl b o sz hb vals he⟩
  | .own .., v, hr => by rw [Rep, hC] at hr; cases hr.1
  | .ref .., v, hr => by rw [Rep, hC] at hr; cases hr.1
  | .pref cells off, v, hr => by
    rw [Rep] at hr ⊢
    obtain ⟨b, o, rfl, hb, hc⟩ := hr
    exact ⟨b, o, rfl, (hk b hb).2, RepC.keepP (C := C.p) (C' := C'.p) hk rfl rfl b o hb cells hc⟩
theorem RepL.keepP {C C' : Ctx} (hk : ∀ b, C.pureBlk b → C'.w.heap[b]? = C.w.heap[b]? ∧ C'.pureBlk b) (hC : C.pm = true) (hC' : C'.pm = true) : ∀ (as : List AVal) (vs : List Value), RepL C as vs → RepL C' as vs
  | [], vs, r => by simpa [RepL] using r
  | a :: as, vs, r => by
    rw [RepL] at r ⊢
    obtain ⟨v, rest, rfl, h1, h2⟩ := r
    exact ⟨v, rest, rfl, Rep.keepP hk hC hC' a v h1, RepL.keepP hk hC hC' as rest h2⟩
theorem RepC.keepP {C C' : Ctx} (hk : ∀ b, C.pureBlk b → C'.w.heap[b]? = C.w.heap[b]? ∧ C'.pureBlk b) (hC : C.pm = true) (hC' : C'.pm = true) (b o : Nat) (hb : C.pureBlk b) : ∀ (as : List AVal), RepC C b o as → RepC C' b o as
  | [], _ => by simp [RepC]
  | a :: as, r => by
    rw [RepC] at r ⊢
    obtain ⟨⟨v, h1, h2, h3⟩, h4⟩ := r
    exact ⟨⟨v, by rw [World.cell?_of_block (w := C.w) (hk b hb).1]; exact h1, h2, Rep.keepP hk hC hC' a v h3⟩, RepC.keepP hk hC hC' b (o + 1) hb as h4⟩
theorem RepE.keepP {C C' : Ctx} (hk : ∀ b, C.pureBlk b → C'.w.heap[b]? = C.w.heap[b]? ∧ C'.pureBlk b) (hC : C.pm = true) (hC' : C'.pm = true) (b o sz : Nat) (hb : C.pureBlk b) : ∀ (es : List (List AVal)), RepE C b o sz es → RepE C' b o sz es
  | [], _ => by simp [RepE]
  | e :: es, r => by
    rw [RepE] at r ⊢
    exact ⟨r.1, RepC.keepP hk hC hC' b o hb e r.2.1, RepE.keepP hk hC hC' b (o + sz) sz hb es r.2.2⟩
end

mutual
theorem Rep.ren {f : Nat → Nat} {C C' : Ctx} (h : ExtF f C C') : ∀ (a : AVal) (v : Value), Rep C a v → Rep C' (renV f a) v
  | .int .., _, r => by simpa [renV, Rep] using r
  | .bool .., _, r => by simpa [renV, Rep] using r
  | .str .., _, r => by simpa [renV, Rep] using r
  | .nils, _, r => by simpa [renV, Rep] using r
  | .nilp, _, r => by simpa [renV, Rep] using r
  | .junk, _, _ => by simp [renV, Rep]
  | .agg cs, v, r => by
    rw [Rep] at r; rw [renV, Rep]
    obtain ⟨vs, rfl, hr⟩ := r
    exact ⟨vs, rfl, RepL.ren h cs _ hr⟩
  | .tup cs, v, r => by
    rw [Rep] at r; rw [renV, Rep]
    obtain ⟨vs, rfl, hr⟩ := r
    exact ⟨vs, rfl, RepL.ren h cs _ hr⟩
  | .pure sz vals, v, r => by
    have e : renV f (.pure sz vals) = .pure sz vals := by simp [renV]
    rw [Rep] at r; rw [e, Rep]
    obtain ⟨ao, cap, rfl, hle, hr⟩ := r
    refine ⟨ao, cap, rfl, hle, ?_⟩
    rcases hr with hr | ⟨b, o, rfl, hb, he⟩
    · exact .inl hr
    · exact .inr ⟨b, o, rfl, (h.keep b hb).2, RepE.keepP (C := C.p) (C' := C'.p) h.keep rfl rfl b o sz hb vals he⟩
  | .own r n off len, v, hr => by
    rw [Rep] at hr; rw [renV, Rep]
    obtain ⟨hm, h0, h1, h2⟩ := hr
    refine ⟨h.pm.trans hm, h0, (h.rows r h1).1, fun e sz vals' hv => ?_⟩
    obtain ⟨vals, a1, a2, a3⟩ := (h.rows r h1).2 e sz vals' hv
    obtain ⟨b1, b2⟩ := h2 e sz vals a1
    refine ⟨by omega, fun hn => ?_⟩
    obtain ⟨c1, p, c2, c3⟩ := b2 (by omega)
    exact ⟨c1, p, by rw [a3 (by omega)]; exact c2, c3⟩
  | .ref r n i off, v, hr => by
    rw [Rep] at hr; rw [renV, Rep]
    obtain ⟨hm, h0, h1, h2⟩ := hr
    refine ⟨h.pm.trans hm, h0, (h.rows r h1).1, fun e sz vals' hv => ?_⟩
    obtain ⟨vals, a1, a2, a3⟩ := (h.rows r h1).2 e sz vals' hv
    obtain ⟨b1, b2⟩ := h2 e sz vals a1
    refine ⟨by omega, fun hn => ?_⟩
    obtain ⟨c1, b, c, c2, c3⟩ := b2 (by omega)
    exact ⟨c1, b, c, by rw [a3 (by omega)]; exact c2, c3⟩
  | .pref cells off, v, hr => by
    have e : renV f (.pref cells off) = .pref cells off := by simp [renV]
    rw [Rep] at hr; rw [e, Rep]
    obtain ⟨b, o, rfl, hb, hc⟩ := hr
    exact ⟨b, o, rfl, (h.keep b hb).2, RepC.keepP (C := C.p) (C' := C'.p) h.keep rfl rfl b o hb cells hc⟩
theorem RepL.ren {f : Nat → Nat} {C C' : Ctx} (h : ExtF f C C') : ∀ (as : List AVal) (vs : List Value), RepL C as vs → RepL C' (renL f as) vs
  | [], vs, r => by simpa [renL, RepL] using r
  | a :: as, vs, r => by
    rw [RepL] at r; rw [renL, RepL]
    obtain ⟨v, rest, rfl, h1, h2⟩ := r
    exact ⟨v, rest, rfl, Rep.ren h a v h1, RepL.ren h as rest h2⟩
end

theorem renE_flatten (f : Nat → Nat) (es : List (List AVal)) : (renE f es).flatten = renL f es.flatten := by
  have app : ∀ xs ys : List AVal, renL f (xs ++ ys) = renL f xs ++ renL f ys := by
    intro xs ys
    induction xs with
    | nil => rfl
    | cons x xs ih => simp [renL, ih]
  rw [renE_eq]
  induction es with
  | nil => rfl
  | cons e es ih => simp [app, ih]

theorem Elems.ren {f : Nat → Nat} {C C' : Ctx} {sz : Nat} {vals : List (List AVal)} {vs : List Value} (h : ExtF f C C') (k : Elems C sz vals vs) : Elems C' sz (renE f vals) vs := by
  refine ⟨fun e he => ?_, ?_, k.one⟩
  · rw [renE_eq] at he
    obtain ⟨x, hx, rfl⟩ := List.mem_map.1 he
    rw [renL_length]
    exact k.szs x hx
  · rw [renE_flatten]
    exact RepL.ren h _ _ k.rep

theorem renE_length (f : Nat → Nat) (es : List (List AVal)) : (renE f es).length = es.length := by rw [renE_eq]; simp

end Go.Abs
