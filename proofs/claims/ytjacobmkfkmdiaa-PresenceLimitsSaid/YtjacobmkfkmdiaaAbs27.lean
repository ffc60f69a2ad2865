/- Everyday laws: numbers that fit, calls by contracts in short words, lists of numbers in rows, the bridge to the given statements. -/
import Derived.Test.YtjacobmkfkmdiaaAbs26
import Derived.Below
import Derived.OpenShut
set_option linter.unusedSimpArgs false
set_option linter.unusedVariables false
set_option linter.unusedSectionVars false
namespace Go.Abs
open Go.RowKit (Below)

theorem wrap_i64 {x : Int} (h1 : -9223372036854775808 ≤ x) (h2 : x ≤ 9223372036854775807) : IntKind.i64.wrap x = x := by
  simp only [IntKind.wrap, IntKind.bits, IntKind.signed]; simp; omega
theorem wrap_u8 {x : Int} : IntKind.u8.wrap x = x % 256 := by
  simp only [IntKind.wrap, IntKind.bits, IntKind.signed]; simp
theorem wrap_u16 {x : Int} : IntKind.u16.wrap x = x % 65536 := by
  simp only [IntKind.wrap, IntKind.bits, IntKind.signed]; simp
theorem wrap_u64 {x : Int} (h1 : 0 ≤ x) (h2 : x < 18446744073709551616) : IntKind.u64.wrap x = x := by
  simp only [IntKind.wrap, IntKind.bits, IntKind.signed]; simp; omega

/-- a call of a function that touches no rows -/
theorem callC_fn {P : Program} {f : FuncId} {args : List AVal} {rows : List Row} {dst : Option Nat} {env : Env} {K : Env → List Row → Prop} {Q : AVal → Prop}
    (hA : AFn P f args [] fun v rs => Q v ∧ rs = []) (hc : cleanL args = true) (hk : ∀ v, Q v → clean v = true ∧ K (put env dst v) rows) : callC P f args rows dst env K := by
  refine callC_of [] [] (by simp) (srows := []) (_root_.id rfl) (bindL_clean args hc) hA ?_
  rintro v rs ⟨hq, rfl⟩
  obtain ⟨h1, h2⟩ := hk v hq
  refine ⟨.inl rfl, ?_⟩
  rw [renV_clean _ _ h1]
  simpa [mergeR] using h2

theorem callC_det {P : Program} {f : FuncId} {args : List AVal} {rows : List Row} {dst : Option Nat} {env : Env} {K : Env → List Row → Prop} {r : AVal}
    (hA : AFn P f args [] fun v rs => v = r ∧ rs = []) (hc : cleanL args = true) (hr : clean r = true) (hk : K (put env dst r) rows) : callC P f args rows dst env K :=
  callC_fn hA hc fun v hv => by subst hv; exact ⟨hr, hk⟩

/-- a call of a function that only looks at rows -/
theorem callC_view {P : Program} {f : FuncId} {args bargs : List AVal} {rows : List Row} {dst : Option Nat} {env : Env} {K : Env → List Row → Prop} {Q : AVal → Prop} (vw : List Nat)
    (hA : AFn P f bargs [] fun v rs => Q v ∧ rs = []) (hb : bindL rows [] vw args = bargs) (hk : ∀ v, Q v → clean v = true ∧ flat v = true ∧ K (put env dst v) rows) : callC P f args rows dst env K := by
  refine callC_of [] vw (by simp) (srows := []) (_root_.id rfl) hb hA ?_
  rintro v rs ⟨hq, rfl⟩
  obtain ⟨h1, h2, h3⟩ := hk v hq
  refine ⟨.inr ⟨h2, by simp⟩, ?_⟩
  rw [renV_clean _ _ h1]
  simpa [mergeR] using h3

theorem callD_fn {P : Program} {f : FuncId} {args : List AVal} {un : List Nat} {tk : Tk} {rows : List Row} {dst : Option Nat} {env : Env} {K : Env → List Row → Prop} {Q : AVal → Prop}
    (hA : AFn P f args [] fun v rs => Q v ∧ rs = []) (hc : cleanL args = true) (hk : ∀ v, Q v → clean v = true ∧ K (put env dst v) rows) : callD P f args un tk rows dst env K := by
  refine callD_of [] [] (by rw [okTk_none]; trivial) (by simp) (srows := []) (_root_.id rfl) (bindL_clean args hc) hA ?_
  rintro v rs ⟨hq, rfl⟩
  obtain ⟨h1, h2⟩ := hk v hq
  refine ⟨.inl rfl, ?_⟩
  rw [renV_clean _ _ h1]
  simpa [mergeR] using h2

theorem callD_det {P : Program} {f : FuncId} {args : List AVal} {un : List Nat} {tk : Tk} {rows : List Row} {dst : Option Nat} {env : Env} {K : Env → List Row → Prop} {r : AVal}
    (hA : AFn P f args [] fun v rs => v = r ∧ rs = []) (hc : cleanL args = true) (hr : clean r = true) (hk : K (put env dst r) rows) : callD P f args un tk rows dst env K :=
  callD_fn hA hc fun v hv => by subst hv; exact ⟨hr, hk⟩

/-- weaker knowledge of the arguments -/
theorem AFn.weak {P : Program} {f : FuncId} {args args' : List AVal} {rows : List Row} {Q : AVal → List Row → Prop} (h : AFn P f args' rows Q) (hw : ∀ C vs, RepL C args vs → RepL C args' vs) : AFn P f args rows Q :=
  fun C cargs h1 h2 h3 => h C cargs h1 h2 (hw C cargs h3)

/-- a value that says more -/
def Says (a b : AVal) : Prop := ∀ C v, Rep C a v → Rep C b v
theorem Says.rfl {a : AVal} : Says a a := fun _ _ h => h
theorem says_nils {sz : Nat} : Says .nils (.pure sz []) := by
  intro C v h
  rw [Rep] at h
  obtain ⟨ao, rfl⟩ := h
  rw [Rep]
  exact ⟨ao, 0, by simp, by simp, .inl (by simp)⟩
inductive SaysL : List AVal → List AVal → Prop
  | nil : SaysL [] []
  | cons {a b : AVal} {as bs : List AVal} (h : Says a b) (k : SaysL as bs) : SaysL (a :: as) (b :: bs)
theorem SaysL.rep {as bs : List AVal} (h : SaysL as bs) : ∀ C vs, RepL C as vs → RepL C bs vs := by
  induction h with
  | nil => intro C vs h; exact h
  | cons h k ih =>
    intro C vs hr
    rw [RepL] at hr ⊢
    obtain ⟨v, rest, rfl, h1, h2⟩ := hr
    exact ⟨v, rest, rfl, h C v h1, ih C rest h2⟩
theorem AFn.says {P : Program} {f : FuncId} {args args' : List AVal} {rows : List Row} {Q : AVal → List Row → Prop} (h : AFn P f args' rows Q) (hw : SaysL args args') : AFn P f args rows Q := h.weak hw.rep

/-- numbers as the elements of a slice -/
def numsE (k : IntKind) (l : List Int) : List (List AVal) := l.map fun n => [.int k n]
theorem numsE_length {k : IntKind} {l : List Int} : (numsE k l).length = l.length := by simp [numsE]
theorem numsE_clean {k : IntKind} : ∀ {l : List Int}, cleanE (numsE k l) = true
  | [] => _root_.id rfl
  | n :: l => by simpa [numsE, cleanE, cleanL, clean] using (numsE_clean (k := k) (l := l))
theorem numsE_flat {k : IntKind} : ∀ {l : List Int}, flatE (numsE k l) = true
  | [] => _root_.id rfl
  | n :: l => by simpa [numsE, flatE, flatL, flat] using (numsE_flat (k := k) (l := l))
theorem numsE_append {k : IntKind} {a b : List Int} : numsE k a ++ numsE k b = numsE k (a ++ b) := by simp [numsE]
theorem numsE_snoc {k : IntKind} {a : List Int} {n : Int} : numsE k a ++ [[.int k n]] = numsE k (a ++ [n]) := by simp [numsE]
theorem numsE_nil {k : IntKind} : numsE k [] = [] := _root_.id rfl
theorem numsE_getD {k : IntKind} {l : List Int} {i : Nat} (h : i < l.length) : (numsE k l).getD i [] = [.int k (l.getD i 0)] := by
  simp [numsE, List.getD_eq_getElem?_getD, List.getElem?_eq_getElem h]
theorem numsE_take {k : IntKind} {l : List Int} {n : Nat} : (numsE k l).take n = numsE k (l.take n) := by simp [numsE]
theorem numsE_drop {k : IntKind} {l : List Int} {n : Nat} : (numsE k l).drop n = numsE k (l.drop n) := by simp [numsE]
theorem numsE_set {k : IntKind} {l : List Int} {i : Nat} {n : Int} : (numsE k l).set i [.int k n] = numsE k (l.set i n) := by simp [numsE, List.map_set]
theorem bytesE_nums : ∀ {l : List Int}, bytesE (numsE .u8 l) = some l
  | [] => _root_.id rfl
  | n :: l => by
    have := bytesE_nums (l := l)
    simp only [numsE] at this
    simp [numsE, bytesE, this]

/-- a slice of integers that came in: nil, or a row of 'cap' cells -/
def IsRow (k : IntKind) (w : World) (a : Option Addr) (len cap : Nat) (zs : List Int) : Prop :=
  (a = none ∧ len = 0 ∧ cap = 0 ∧ zs = []) ∨
  ∃ x, a = some x ∧ len ≤ cap ∧ cap ≤ maxLen ∧ zs.length = cap ∧ (∀ i, i < zs.length → w.cell? (x.add i) = some (.int k (zs.getD i 0))) ∧ ∀ n ∈ zs, (Lit.int k n).wf = true

def ctx0 (w : World) : Ctx := ⟨[], [], fun _ => False, w, false⟩
theorem ok0 (w : World) : Ok (ctx0 w) := ⟨_root_.id rfl, _root_.id rfl, fun r row h => by simp [ctx0] at h, fun r r' b c c' h => by simp [ctx0] at h, fun b h => h.elim⟩

theorem repE_ints {C : Ctx} {k : IntKind} {b : Nat} : ∀ (zs : List Int) (o : Nat), (∀ i, i < zs.length → C.w.cell? ⟨b, o + i, none⟩ = some (.int k (zs.getD i 0))) → RepE C b o 1 (numsE k zs)
  | [], o, _ => by simp [numsE, RepE]
  | z :: zs, o, h => by
    simp only [numsE, List.map_cons]
    rw [RepE]
    refine ⟨by simp, ?_, repE_ints zs (o + 1) fun i hi => ?_⟩
    · rw [RepC]
      exact ⟨⟨.int k z, by simpa using h 0 (by simp), _root_.id rfl, by rw [Rep]⟩, by rw [RepC]; trivial⟩
    · have := h (i + 1) (by simpa using hi)
      rw [show o + 1 + i = o + (i + 1) from by omega]
      simpa using this

theorem rep_ints {k : IntKind} {w : World} {a : Option Addr} {len cap : Nat} {zs : List Int} (h : IsRow k w a len cap zs) :
    Rep (ctx0 w) (.pure 1 (numsE k (zs.take len))) (.slice a len cap) ∧ (zs.take len).length = len ∧ len ≤ maxLen ∧ ∀ n ∈ zs.take len, k.min ≤ n ∧ n ≤ k.max := by
  rcases h with ⟨rfl, rfl, rfl, rfl⟩ | ⟨x, rfl, h1, h2, h3, h4, h5⟩
  · exact ⟨by rw [Rep]; exact ⟨none, 0, by simp [numsE], by simp [numsE], .inl (by simp [numsE])⟩, by simp, by simp, by simp⟩
  · have hl : (zs.take len).length = len := by simp; omega
    refine ⟨?_, hl, by omega, fun n hn => ?_⟩
    · rw [Rep]
      refine ⟨some x, cap, by rw [numsE_length, hl], by rw [numsE_length, hl]; exact h1, ?_⟩
      by_cases h0 : len = 0
      · exact .inl (by rw [numsE_length, hl]; exact h0)
      · right
        obtain ⟨b, off, rfl, hc⟩ := ints_at h4 (by omega)
        have hcell := hc 0 (by omega)
        refine ⟨b, off, _root_.id rfl, ⟨World.block_lt_of_cell? w _ hcell, fun h => h, fun r c hr => by simp [ctx0] at hr⟩, ?_⟩
        rw [← numsE_take]
        exact (repE_ints (C := (ctx0 w).p) zs off hc).take len
    · have := h5 n (List.mem_of_mem_take hn)
      simpa [Lit.wf] using this

theorem calls_of_afn {P : Program} {f : FuncId} {args : List AVal} {cargs : List Value} {w : World} (h : AFn P f args [] fun v _ => v = .bool true) (hr : RepL (ctx0 w) args cargs) :
    Calls P f cargs.toArray w fun e w' => e = .returned (.bool true) ∧ Below w.heap.size w w' := by
  refine (h (ctx0 w) cargs (_root_.id rfl) (ok0 w) hr).mono ?_
  rintro e w' ⟨cv, v, C', rfl, rfl, h1, h2, h3, rfl⟩
  rw [Rep] at h1
  subst h1
  exact ⟨_root_.id rfl, ⟨h3.os, h3.tape, h3.output, h3.size, fun b hb => h3.block b hb fun r c hr => by simp [ctx0] at hr⟩⟩

end Go.Abs
