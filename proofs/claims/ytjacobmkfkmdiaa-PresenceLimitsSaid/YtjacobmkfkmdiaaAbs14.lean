/- Contracts, and calls under contracts. -/
import Derived.Test.YtjacobmkfkmdiaaAbs13
set_option linter.unusedSimpArgs false
set_option linter.unusedVariables false
set_option linter.unusedSectionVars false
namespace Go.Abs

mutual
theorem Rep.renF {f : Nat → Nat} {C C' : Ctx} (hp : C'.pm = C.pm) (h : ∀ r, r < C.rows.length → f r < C'.rows.length ∧ ∀ e sz vals', C'.rows[f r]? = some (.live e sz vals') →
    ∃ vals, C.rows[r]? = some (.live e sz vals) ∧ vals.length ≤ vals'.length ∧ (vals.length = vals'.length → C'.phi[f r]? = C.phi[r]?)) : ∀ (a : AVal) (v : Value), flat a = true → Rep C a v → Rep C' (renV f a) v
  | .int .., _, _, r => by simpa [renV, Rep] using r
  | .bool .., _, _, r => by simpa [renV, Rep] using r
  | .str .., _, _, r => by simpa [renV, Rep] using r
  | .nils, _, _, r => by simpa [renV, Rep] using r
  | .nilp, _, _, r => by simpa [renV, Rep] using r
  | .junk, _, _, _ => by simp [renV, Rep]
  | .agg cs, v, hf, r => by
    rw [flat] at hf
    rw [Rep] at r; rw [renV, Rep]
    obtain ⟨vs, rfl, hr⟩ := r
    exact ⟨vs, rfl, RepL.renF hp h cs _ hf hr⟩
  | .tup cs, v, hf, r => by
    rw [flat] at hf
    rw [Rep] at r; rw [renV, Rep]
    obtain ⟨vs, rfl, hr⟩ := r
    exact ⟨vs, rfl, RepL.renF hp h cs _ hf hr⟩
  | .pure sz vals, v, hf, r => by
    have e : renV f (.pure sz vals) = .pure sz vals := by simp [renV]
    rw [flat] at hf
    rw [Rep] at r; rw [e, Rep]
    obtain ⟨ao, cap, rfl, hle, hr⟩ := r
    refine ⟨ao, cap, rfl, hle, .inl ?_⟩
    simpa using hf
  | .own r n off len, v, _, hr => by
    rw [Rep] at hr; rw [renV, Rep]
    obtain ⟨hm, h0, h1, h2⟩ := hr
    refine ⟨hp.trans hm, h0, (h r h1).1, fun e sz vals' hv => ?_⟩
    obtain ⟨vals, a1, a2, a3⟩ := (h r h1).2 e sz vals' hv
    obtain ⟨b1, b2⟩ := h2 e sz vals a1
    refine ⟨by omega, fun hn => ?_⟩
    obtain ⟨c1, p, c2, c3⟩ := b2 (by omega)
    exact ⟨c1, p, by rw [a3 (by omega)]; exact c2, c3⟩
  | .ref r n i off, v, _, hr => by
    rw [Rep] at hr; rw [renV, Rep]
    obtain ⟨hm, h0, h1, h2⟩ := hr
    refine ⟨hp.trans hm, h0, (h r h1).1, fun e sz vals' hv => ?_⟩
    obtain ⟨vals, a1, a2, a3⟩ := (h r h1).2 e sz vals' hv
    obtain ⟨b1, b2⟩ := h2 e sz vals a1
    refine ⟨by omega, fun hn => ?_⟩
    obtain ⟨c1, b, c, c2, c3⟩ := b2 (by omega)
    exact ⟨c1, b, c, by rw [a3 (by omega)]; exact c2, c3⟩
  | .pref cells off, v, hf, hr => by simp [flat] at hf
theorem RepL.renF {f : Nat → Nat} {C C' : Ctx} (hp : C'.pm = C.pm) (h : ∀ r, r < C.rows.length → f r < C'.rows.length ∧ ∀ e sz vals', C'.rows[f r]? = some (.live e sz vals') →
    ∃ vals, C.rows[r]? = some (.live e sz vals) ∧ vals.length ≤ vals'.length ∧ (vals.length = vals'.length → C'.phi[f r]? = C.phi[r]?)) : ∀ (as : List AVal) (vs : List Value), flatL as = true → RepL C as vs → RepL C' (renL f as) vs
  | [], vs, _, r => by simpa [renL, RepL] using r
  | a :: as, vs, hf, r => by
    simp only [flatL, Bool.and_eq_true] at hf
    rw [RepL] at r; rw [renL, RepL]
    obtain ⟨v, rest, rfl, h1, h2⟩ := r
    exact ⟨v, rest, rfl, Rep.renF hp h a v hf.1 h1, RepL.renF hp h as rest hf.2 h2⟩
end

theorem flatE_flatten : ∀ {es : List (List AVal)}, flatE es = true → flatL es.flatten = true
  | [], _ => rfl
  | e :: es, h => by
    simp only [flatE, Bool.and_eq_true] at h
    have app : ∀ xs ys : List AVal, flatL xs = true → flatL ys = true → flatL (xs ++ ys) = true := by
      intro xs ys hx hy
      induction xs with
      | nil => exact hy
      | cons x xs ih =>
        simp only [flatL, Bool.and_eq_true] at hx
        simp only [List.cons_append, flatL, Bool.and_eq_true]
        exact ⟨hx.1, ih hx.2⟩
    rw [List.flatten_cons]
    exact app _ _ h.1 (flatE_flatten h.2)

/-- where a row is found under new names: a list of old rows ('none': a row that is gone) -/
def pos? : List (Option Nat) → Nat → Option Nat
  | [], _ => none
  | none :: ss, r => (pos? ss r).map (· + 1)
  | some s :: ss, r => if s = r then some 0 else (pos? ss r).map (· + 1)

theorem pos?_some : ∀ {sel : List (Option Nat)} {r i : Nat}, pos? sel r = some i → sel[i]? = some (some r)
  | [], r, i, h => by simp [pos?] at h
  | none :: ss, r, i, h => by
    simp only [pos?] at h
    cases hp : pos? ss r with
    | none => rw [hp] at h; simp at h
    | some j => rw [hp] at h; simp at h; subst h; simpa using pos?_some hp
  | some s :: ss, r, i, h => by
    simp only [pos?] at h
    split at h
    · rename_i he; simp at h; subst h; simp [he]
    · cases hp : pos? ss r with
      | none => rw [hp] at h; simp at h
      | some j => rw [hp] at h; simp at h; subst h; simpa using pos?_some hp

theorem pos?_none : ∀ {sel : List (Option Nat)} {r : Nat}, pos? sel r = none → some r ∉ sel
  | [], r, _ => by simp
  | none :: ss, r, h => by
    simp only [pos?] at h
    cases hp : pos? ss r with
    | none => have := pos?_none hp; simp [this]
    | some j => rw [hp] at h; simp at h
  | some s :: ss, r, h => by
    simp only [pos?] at h
    split at h
    · cases h
    · rename_i hne
      cases hp : pos? ss r with
      | none => have := pos?_none hp; simp [this, Ne.symm hne]
      | some j => rw [hp] at h; simp at h

mutual
/-- a value under new names: rows 'vw' are lent (or become unchangeable), other rows are gone -/
def bindV (rows : List Row) (sel : List (Option Nat)) (vw : List Nat) : AVal → AVal
  | .own r n off len =>
    match pos? sel r with
    | some i => .own i n off len
    | none =>
      if vw.contains r then
        match rows[r]? with
        | some (.live _ sz vals) => if n = vals.length ∧ off + len ≤ n ∧ cleanE vals = true then .pure sz ((vals.drop off).take len) else .junk
        | _ => .junk
      else .junk
  | .ref r n i off =>
    match pos? sel r with
    | some j => .ref j n i off
    | none =>
      if vw.contains r then
        match rows[r]? with
        | some (.live _ _ vals) => if n = vals.length ∧ cleanE vals = true then .pref (vals.getD i []) off else .junk
        | _ => .junk
      else .junk
  | .agg cs => .agg (bindL rows sel vw cs)
  | .tup cs => .tup (bindL rows sel vw cs)
  | v => v
def bindL (rows : List Row) (sel : List (Option Nat)) (vw : List Nat) : List AVal → List AVal
  | [] => []
  | c :: cs => bindV rows sel vw c :: bindL rows sel vw cs
end

def bindE (rows : List Row) (sel : List (Option Nat)) (vw : List Nat) (es : List (List AVal)) : List (List AVal) := if cleanE es then es else es.map (bindL rows sel vw)

def bindRow (rows : List Row) (sel : List (Option Nat)) (vw : List Nat) : Row → Row
  | .dead => .dead
  | .live e sz vals => .live e sz (bindE rows sel vw vals)

def getRows (rows : List Row) (vw : List Nat) (all : List (Option Nat)) : List (Option Nat) → Option (List Row)
  | [] => some []
  | none :: rs =>
    match getRows rows vw all rs with
    | some ys => some (.dead :: ys)
    | none => none
  | some r :: rs =>
    match rows[r]?, getRows rows vw all rs with
    | some x, some ys => some (bindRow rows all vw x :: ys)
    | _, _ => none

/-- what a function does: whatever memory fits -/
def AFn (P : Program) (f : FuncId) (args : List AVal) (rows : List Row) (Q : AVal → List Row → Prop) : Prop :=
  ∀ (C : Ctx) (cargs : List Value), C.rows = rows → Ok C → RepL C args cargs →
    Calls P f cargs.toArray C.w fun e w' => ∃ cv v C', e = .returned cv ∧ C'.w = w' ∧ Rep C' v cv ∧ Ok C' ∧ Later rows.length C C' ∧ Q v C'.rows

theorem AFn.mono {P : Program} {f : FuncId} {args : List AVal} {rows : List Row} {Q Q' : AVal → List Row → Prop} (h : AFn P f args rows Q) (hq : ∀ v rs, Q v rs → Q' v rs) : AFn P f args rows Q' :=
  fun C cargs h1 h2 h3 => (h C cargs h1 h2 h3).mono fun _ _ ⟨cv, v, C', a, b, c, d, e, q⟩ => ⟨cv, v, C', a, b, c, d, e, hq _ _ q⟩

/-- the caller's name of a callee's row -/
def back (n : Nat) : List Nat → Nat → Nat
  | [], i => n + i
  | s :: _, 0 => s
  | _ :: ss, i + 1 => back n ss i

def mergeR {α : Type} : List α → List Nat → List α → List α
  | xs, [], ys => xs ++ ys
  | xs, r :: sel, y :: ys => mergeR (xs.set r y) sel ys
  | xs, _ :: _, [] => xs

theorem mergeR_length {α : Type} : ∀ (sel : List Nat) (xs ys : List α), sel.length ≤ ys.length → (mergeR xs sel ys).length = xs.length + (ys.length - sel.length)
  | [], xs, ys, _ => by simp [mergeR]
  | r :: sel, xs, [], h => by simp at h
  | r :: sel, xs, y :: ys, h => by
    rw [mergeR, mergeR_length sel _ ys (by simpa using h)]
    simp

theorem mergeR_other {α : Type} : ∀ (sel : List Nat) (xs ys : List α) (r : Nat), r < xs.length → r ∉ sel → (mergeR xs sel ys)[r]? = xs[r]?
  | [], xs, ys, r, h, _ => by rw [mergeR, List.getElem?_append, if_pos h]
  | s :: sel, xs, [], r, h, hn => by rw [mergeR]
  | s :: sel, xs, y :: ys, r, h, hn => by
    simp at hn
    rw [mergeR, mergeR_other sel _ ys r (by simpa using h) hn.2, List.getElem?_set, if_neg (fun e => hn.1 e.symm)]

theorem mergeR_back {α : Type} : ∀ (sel : List Nat) (xs ys : List α) (i : Nat), sel.Nodup → (∀ r ∈ sel, r < xs.length) → i < ys.length → sel.length ≤ ys.length → (mergeR xs sel ys)[back xs.length sel i]? = ys[i]?
  | [], xs, ys, i, _, _, hi, _ => by rw [mergeR, back, List.getElem?_append, if_neg (by omega)]; congr 1; omega
  | r :: sel, xs, [], i, _, _, hi, _ => by simp at hi
  | r :: sel, xs, y :: ys, 0, hn, hl, hi, _ => by
    simp at hn
    rw [mergeR, back, mergeR_other sel _ ys r (by simpa using hl r (by simp)) hn.1, List.getElem?_set, if_pos rfl, if_pos (hl r (by simp))]
    rfl
  | r :: sel, xs, y :: ys, i + 1, hn, hl, hi, hle => by
    simp at hn
    have := mergeR_back sel (xs.set r y) ys i hn.2 (fun s hs => by simpa using hl s (by simp [hs])) (by simpa using hi) (by simpa using hle)
    rw [List.length_set] at this
    rw [mergeR, back, this]
    simp

theorem back_sel : ∀ (sel : List Nat) (n i : Nat), (hi : i < sel.length) → back n sel i = sel[i]
  | s :: ss, n, 0, _ => rfl
  | s :: ss, n, i + 1, h => by rw [back, back_sel ss n i (by simpa using h)]; simp

theorem back_new : ∀ (sel : List Nat) (n i : Nat), sel.length ≤ i → back n sel i = n + (i - sel.length)
  | [], n, i, _ => by simp [back]
  | s :: ss, n, 0, h => by simp at h
  | s :: ss, n, i + 1, h => by rw [back, back_new ss n i (by simpa using h)]; simp

/-- every row is an old one that was not handed over, or one that came back -/
theorem back_cases (sel : List Nat) (n m k : Nat) (hsel : ∀ r ∈ sel, r < n) (hle : sel.length ≤ m) (hk : k < n + (m - sel.length)) : (k < n ∧ k ∉ sel) ∨ ∃ i, i < m ∧ k = back n sel i := by
  by_cases h : k < n
  · by_cases hs : k ∈ sel
    · obtain ⟨i, hi, rfl⟩ := List.getElem_of_mem hs
      exact .inr ⟨i, by omega, (back_sel sel n i hi).symm⟩
    · exact .inl ⟨h, hs⟩
  · refine .inr ⟨sel.length + (k - n), by omega, ?_⟩
    rw [back_new sel n _ (by omega)]; omega

end Go.Abs
