/- Tapes of choices in memory, and functions that choose. -/
import Derived.Test.YtjacobmkfkmdiaaAbs28
set_option linter.unusedSimpArgs false
set_option linter.unusedVariables false
set_option linter.unusedSectionVars false
namespace Go.Abs

/-- a tape of choices in memory -/
def tapeRow (T : TypeId) (l : List Int) (at_ : Int) : Row := .live T 2 [[.pure 1 (numsE .i64 l), .int .i64 at_]]
structure TapeOk (l : List Int) : Prop where
  len : l.length ≤ 9223372036854775807
  num : ∀ n ∈ l, -9223372036854775808 ≤ n ∧ n ≤ 9223372036854775807

/-- a function that chooses, and hands back a value without memory of its own -/
def TapeFn (P : Program) (T : TypeId) (f : FuncId) (rest : List AVal) (l : List Int) (Q : AVal → Prop) : Prop :=
  ∀ at_ : Int, 0 ≤ at_ → at_ ≤ l.length → AFn P f (.ref 0 1 0 0 :: rest) [tapeRow T l at_] fun v rs => ∃ a : Int, rs = [tapeRow T l a] ∧ 0 ≤ a ∧ a ≤ l.length ∧ clean v = true ∧ Q v

theorem tape_getRows {T : TypeId} {l : List Int} {at_ : Int} {rows : List Row} {r : Nat} (hr : rows[r]? = some (tapeRow T l at_)) : getRows rows [] [some r] [some r] = some [tapeRow T l at_] := by
  simp only [getRows, hr]
  simp [tapeRow, bindRow, bindE, cleanE, cleanL, clean]

theorem tape_bind {rows : List Row} {r : Nat} {rest : List AVal} (hc : cleanL rest = true) : bindL rows [some r] [] (.ref r 1 0 0 :: rest) = .ref 0 1 0 0 :: rest := by
  simp [bindL, bindV, pos?, bindL_clean rest hc]

theorem tape_ren {f : Nat → Nat} {T : TypeId} {l : List Int} {at_ : Int} : renRow f (tapeRow T l at_) = tapeRow T l at_ := by
  simp [tapeRow, renRow, renE, cleanE, cleanL, clean]

theorem callC_tape {P : Program} {T : TypeId} {f : FuncId} {rest : List AVal} {l : List Int} {Q : AVal → Prop} {rows : List Row} {dst : Option Nat} {env : Env} {K : Env → List Row → Prop} {r : Nat} {at_ : Int}
    (hA : TapeFn P T f rest l Q) (hc : cleanL rest = true) (hr : rows[r]? = some (tapeRow T l at_)) (h0 : 0 ≤ at_) (h1 : at_ ≤ l.length)
    (hk : ∀ (v : AVal) (a : Int), 0 ≤ a → a ≤ l.length → Q v → K (put env dst v) (rows.set r (tapeRow T l a))) : callC P f (.ref r 1 0 0 :: rest) rows dst env K := by
  refine callC_of [r] [] (by simp) (tape_getRows hr) (tape_bind hc) (hA at_ h0 h1) ?_
  rintro v rs ⟨a, rfl, h2, h3, h4, h5⟩
  refine ⟨.inl rfl, ?_⟩
  rw [renV_clean _ _ h4, List.map_cons, List.map_nil, tape_ren]
  simpa [mergeR] using hk v a h2 h3 h5

theorem callD_tape {P : Program} {T : TypeId} {f : FuncId} {rest : List AVal} {l : List Int} {Q : AVal → Prop} {un : List Nat} {tk : Tk} {rows : List Row} {dst : Option Nat} {env : Env} {K : Env → List Row → Prop} {r : Nat} {at_ : Int}
    (hA : TapeFn P T f rest l Q) (ht : okTk un tk [r] []) (hc : cleanL rest = true) (hr : rows[r]? = some (tapeRow T l at_)) (h0 : 0 ≤ at_) (h1 : at_ ≤ l.length)
    (hk : ∀ (v : AVal) (a : Int), 0 ≤ a → a ≤ l.length → Q v → K (put env dst v) (rows.set r (tapeRow T l a))) : callD P f (.ref r 1 0 0 :: rest) un tk rows dst env K := by
  refine callD_of [r] [] ht (by simp) (tape_getRows hr) (tape_bind hc) (hA at_ h0 h1) ?_
  rintro v rs ⟨a, rfl, h2, h3, h4, h5⟩
  refine ⟨.inl rfl, ?_⟩
  rw [renV_clean _ _ h4, List.map_cons, List.map_nil, tape_ren]
  simpa [mergeR] using hk v a h2 h3 h5

/-- the end of a function that chooses: its other rows are gone -/
theorem Cl.tape {T : TypeId} {l : List Int} {a : Int} {Q : AVal → Prop} {v : AVal} {rows : List Row} (hv : clean v = true) (h0 : 0 ≤ a) (h1 : a ≤ l.length) (h : Q v) :
    Cl 1 (finK fun v rs => ∃ a : Int, rs = [tapeRow T l a] ∧ 0 ≤ a ∧ a ≤ l.length ∧ clean v = true ∧ Q v) [(0, v)] (tapeRow T l a :: rows) := by
  refine Cl.tr (srows := [tapeRow T l a]) [some 0] [] (by decide) (by decide) (tape_getRows (by simp)) (Cl.here ?_)
  simp only [finK, List.map_cons, List.map_nil, slot_cons, if_true]
  refine ⟨a, _root_.id rfl, h0, h1, ?_⟩
  rw [bindV_clean v hv]
  exact ⟨hv, h⟩

/-- a function that chooses and is handed a slice of numbers, which stays as it is -/
def TapeFn1 (P : Program) (T e : TypeId) (f : FuncId) (l xs : List Int) (Q : AVal → Prop) : Prop :=
  ∀ at_ : Int, 0 ≤ at_ → at_ ≤ l.length → AFn P f [.ref 0 1 0 0, .own 1 xs.length 0 xs.length] [tapeRow T l at_, .live e 1 (numsE .i64 xs)]
    fun v rs => ∃ a : Int, rs = [tapeRow T l a, .live e 1 (numsE .i64 xs)] ∧ 0 ≤ a ∧ a ≤ l.length ∧ clean v = true ∧ Q v

theorem tape_getRows1 {T e : TypeId} {l xs : List Int} {at_ : Int} {rows : List Row} {r q : Nat} {vals : List (List AVal)} (hr : rows[r]? = some (tapeRow T l at_)) (hq : rows[q]? = some (.live e 1 vals)) (hv : vals = numsE .i64 xs) :
    getRows rows [] [some r, some q] [some r, some q] = some [tapeRow T l at_, .live e 1 (numsE .i64 xs)] := by
  subst hv
  simp only [getRows, hr, hq]
  simp [tapeRow, bindRow, bindE, cleanE, cleanL, clean, numsE_clean]

theorem tape_after1 {T e : TypeId} {l xs : List Int} {a : Int} {rows : List Row} {r q : Nat} {vals : List (List AVal)} (hq : rows[q]? = some (.live e 1 vals)) (hv : vals = numsE .i64 xs) (hne : r ≠ q) (f : Nat → Nat) :
    mergeR rows [r, q] ([tapeRow T l a, .live e 1 (numsE .i64 xs)].map (renRow f)) = rows.set r (tapeRow T l a) := by
  subst hv
  have h1 : [tapeRow T l a, Row.live e 1 (numsE .i64 xs)].map (renRow f) = [tapeRow T l a, .live e 1 (numsE .i64 xs)] := by
    rw [List.map_cons, List.map_cons, List.map_nil, tape_ren]
    simp [renRow, renE, numsE_clean]
  rw [h1]
  simp only [mergeR, List.append_nil]
  rw [List.set_comm _ _ hne]
  congr 1
  apply List.ext_getElem?
  intro i
  rw [List.getElem?_set]
  split
  · rename_i h; subst h
    split
    · exact hq.symm
    · rename_i h; rw [List.getElem?_eq_none (by omega)]
  · rfl

theorem callC_pick {P : Program} {T e : TypeId} {f : FuncId} {l : List Int} {Q : AVal → Prop} {rows : List Row} {dst : Option Nat} {env : Env} {K : Env → List Row → Prop} {r q n m : Nat} {at_ : Int} {vals : List (List AVal)} (xs : List Int)
    (hA : TapeFn1 P T e f l xs Q) (hr : rows[r]? = some (tapeRow T l at_)) (hq : rows[q]? = some (.live e 1 vals)) (hv : vals = numsE .i64 xs) (hn : n = xs.length) (hm : m = xs.length) (hne : r ≠ q) (h0 : 0 ≤ at_) (h1 : at_ ≤ l.length)
    (hk : ∀ (v : AVal) (a : Int), 0 ≤ a → a ≤ l.length → Q v → K (put env dst v) (rows.set r (tapeRow T l a))) : callC P f [.ref r 1 0 0, .own q n 0 m] rows dst env K := by
  subst hn; subst hm
  refine callC_of [r, q] [] (by simp [hne]) (tape_getRows1 hr hq hv) (by simp [bindL, bindV, pos?, hne]) (hA at_ h0 h1) ?_
  rintro v rs ⟨a, rfl, h2, h3, h4, h5⟩
  refine ⟨.inl rfl, ?_⟩
  rw [renV_clean _ _ h4, tape_after1 hq hv hne]
  exact hk v a h2 h3 h5

theorem callD_pick {P : Program} {T e : TypeId} {f : FuncId} {l : List Int} {Q : AVal → Prop} {un : List Nat} {tk : Tk} {rows : List Row} {dst : Option Nat} {env : Env} {K : Env → List Row → Prop} {r q n m : Nat} {at_ : Int} {vals : List (List AVal)} (xs : List Int)
    (hA : TapeFn1 P T e f l xs Q) (ht : okTk un tk [r, q] []) (hr : rows[r]? = some (tapeRow T l at_)) (hq : rows[q]? = some (.live e 1 vals)) (hv : vals = numsE .i64 xs) (hn : n = xs.length) (hm : m = xs.length) (hne : r ≠ q) (h0 : 0 ≤ at_) (h1 : at_ ≤ l.length)
    (hk : ∀ (v : AVal) (a : Int), 0 ≤ a → a ≤ l.length → Q v → K (put env dst v) (rows.set r (tapeRow T l a))) : callD P f [.ref r 1 0 0, .own q n 0 m] un tk rows dst env K := by
  subst hn; subst hm
  refine callD_of [r, q] [] ht (by simp [hne]) (tape_getRows1 hr hq hv) (by simp [bindL, bindV, pos?, hne]) (hA at_ h0 h1) ?_
  rintro v rs ⟨a, rfl, h2, h3, h4, h5⟩
  refine ⟨.inl rfl, ?_⟩
  rw [renV_clean _ _ h4, tape_after1 hq hv hne]
  exact hk v a h2 h3 h5

/-- a number from 0 to below n, or 0 -/
def Pickd (n : Int) (v : AVal) : Prop := ∃ x : Int, v = .int .i64 x ∧ 0 ≤ x ∧ (x < n ∨ x = 0)

def mod (v n : Int) : Int := if v.tmod n < 0 then v.tmod n + n else v.tmod n
theorem mod_bounds {v n : Int} (hn : 0 < n) : 0 ≤ mod v n ∧ mod v n < n := by
  unfold mod
  have h1 := Int.tmod_lt_of_pos v hn
  have h2 : -n < v.tmod n := by
    have := Int.lt_tmod_of_pos v hn
    omega
  split <;> omega

end Go.Abs
