/- Abstract values and how a world represents them: values, rows of memory that the running functions own, and the relation between them and the model's values. -/
import Derived.WalkKit
set_option linter.unusedSimpArgs false
set_option linter.unusedVariables false
set_option linter.unusedSectionVars false
namespace Go.Abs

/-- An abstract value. -/
inductive AVal where
  | int (k : IntKind) (n : Int)
  | bool (b : Bool)
  | str (s : ByteArray)
  | agg (cs : List AVal)
  | tup (vs : List AVal)
  /-- an empty slice without room, the nil slice for one -/
  | nils
  /-- a slice whose elements never change: each element is its list of cells -/
  | pure (sz : Nat) (vals : List (List AVal))
  /-- the elements off .. off + len of row r, seen when the row had n elements -/
  | own (r n off len : Nat)
  /-- a pointer to the cell off of the element i of row r, seen when the row had n elements -/
  | ref (r n i off : Nat)
  /-- a pointer to the cell off of cells that never change -/
  | pref (cells : List AVal) (off : Nat)
  | nilp
  | junk
  deriving Inhabited

/-- A row of memory that is owned. -/
inductive Row where
  | dead
  | live (elem : TypeId) (sz : Nat) (vals : List (List AVal))
  deriving Inhabited

structure Ctx where
  rows : List Row
  /-- the block and the capacity of each row -/
  phi : List (Option (Nat × Nat))
  /-- blocks that others own -/
  om : Nat → Prop
  w : World
  /-- is this about values that never change? -/
  pm : Bool

def Ctx.p (C : Ctx) : Ctx := { C with pm := true }

/-- a block that nobody changes -/
def Ctx.pureBlk (C : Ctx) (b : Nat) : Prop := b < C.w.heap.size ∧ ¬ C.om b ∧ ∀ r c : Nat, C.phi[r]? ≠ some (some (b, c))

/-- how a slice of an owned row looks -/
def ownv (p : Option (Nat × Nat)) (sz off len : Nat) (v : Value) : Prop :=
  match p with
  | none => (∃ ao, v = .slice ao 0 0) ∧ off = 0 ∧ len = 0
  | some (b, cap) => ∃ a c, v = .slice (some a) len c ∧ len ≤ c ∧ a.spot = none ∧ a.block = b ∧ (off = 0 → a.off = 0 ∧ c = cap) ∧ (0 < len → a.off = off * sz)

mutual
def Rep (C : Ctx) : AVal → Value → Prop
  | .int k n, v => v = .int k n
  | .bool b, v => v = .bool b
  | .str s, v => v = .string s
  | .agg cs, v => ∃ vs : Array Value, v = .agg vs ∧ RepL C cs vs.toList
  | .tup cs, v => ∃ vs : Array Value, v = .tuple vs ∧ RepL C cs vs.toList
  | .nils, v => ∃ ao, v = .slice ao 0 0
  | .pure sz vals, v => ∃ ao cap, v = .slice ao vals.length cap ∧ vals.length ≤ cap ∧ (vals.length = 0 ∨ ∃ b o, ao = some ⟨b, o, none⟩ ∧ C.pureBlk b ∧ RepE C.p b o sz vals)
  | .own r n off len, v => C.pm = false ∧ (∃ ao c, v = .slice ao len c) ∧ r < C.rows.length ∧ ∀ e sz vals, C.rows[r]? = some (.live e sz vals) → n ≤ vals.length ∧ (n = vals.length → off + len ≤ n ∧ ∃ p, C.phi[r]? = some p ∧ ownv p sz off len v)
  | .ref r n i off, v => C.pm = false ∧ (∃ a, v = .pointer (some a)) ∧ r < C.rows.length ∧ ∀ e sz vals, C.rows[r]? = some (.live e sz vals) → n ≤ vals.length ∧ (n = vals.length → i < n ∧ ∃ b c, C.phi[r]? = some (some (b, c)) ∧ v = .pointer (some ⟨b, i * sz + off, none⟩))
  | .pref cells off, v => ∃ b o, v = .pointer (some ⟨b, o + off, none⟩) ∧ C.pureBlk b ∧ RepC C.p b o cells
  | .nilp, v => v = .pointer none
  | .junk, _ => True
/-- value by value -/
def RepL (C : Ctx) : List AVal → List Value → Prop
  | [], vs => vs = []
  | c :: cs, vs => ∃ v rest, vs = v :: rest ∧ Rep C c v ∧ RepL C cs rest
/-- cells in memory -/
def RepC (C : Ctx) (b : Nat) (o : Nat) : List AVal → Prop
  | [] => True
  | c :: cs => (∃ v, C.w.cell? ⟨b, o, none⟩ = some v ∧ v.oneCell' = true ∧ Rep C c v) ∧ RepC C b (o + 1) cs
/-- elements in memory -/
def RepE (C : Ctx) (b : Nat) (o sz : Nat) : List (List AVal) → Prop
  | [] => True
  | e :: es => e.length = sz ∧ RepC C b o e ∧ RepE C b (o + sz) sz es
end

/-- C' comes later than C: what was represented is represented. -/
structure Ext (C C' : Ctx) : Prop where
  pm : C'.pm = C.pm
  keep : ∀ b, C.pureBlk b → C'.w.heap[b]? = C.w.heap[b]? ∧ C'.pureBlk b
  len : C.rows.length ≤ C'.rows.length
  rows : ∀ r e sz vals', r < C.rows.length → C'.rows[r]? = some (.live e sz vals') →
    ∃ vals, C.rows[r]? = some (.live e sz vals) ∧ vals.length ≤ vals'.length ∧ (vals.length = vals'.length → C'.phi[r]? = C.phi[r]?)

theorem Ext.refl (C : Ctx) : Ext C C := ⟨rfl, fun _ h => ⟨rfl, h⟩, Nat.le_refl _, fun _ _ _ vals _ h => ⟨vals, h, Nat.le_refl _, fun _ => rfl⟩⟩

theorem Ext.trans {A B C : Ctx} (h : Ext A B) (k : Ext B C) : Ext A C := by
  refine ⟨k.pm.trans h.pm, fun b hb => ?_, Nat.le_trans h.len k.len, fun r e sz vals' hr hv => ?_⟩
  · obtain ⟨h1, h2⟩ := h.keep b hb
    obtain ⟨k1, k2⟩ := k.keep b h2
    exact ⟨k1.trans h1, k2⟩
  · obtain ⟨v1, a1, a2, a3⟩ := k.rows r e sz vals' (by have := h.len; omega) hv
    obtain ⟨v2, b1, b2, b3⟩ := h.rows r e sz v1 hr a1
    refine ⟨v2, b1, by omega, fun hh => ?_⟩
    rw [a3 (by omega), b3 (by omega)]

theorem Ext.p {C C' : Ctx} (h : Ext C C') : Ext C.p C'.p := ⟨rfl, h.keep, h.len, h.rows⟩

theorem cell_lt {w : World} {b o : Nat} {v : Value} (h : w.cell? ⟨b, o, none⟩ = some v) : b < w.heap.size := World.block_lt_of_cell? w ⟨b, o, none⟩ h

mutual
theorem Rep.ext {C C' : Ctx} (h : Ext C C') : ∀ (a : AVal) (v : Value), Rep C a v → Rep C' a v
  | .int .., _, r => by simpa [Rep] using r
  | .bool .., _, r => by simpa [Rep] using r
  | .str .., _, r => by simpa [Rep] using r
  | .nils, _, r => by simpa [Rep] using r
  | .nilp, _, r => by simpa [Rep] using r
  | .junk, _, _ => by simp [Rep]
  | .agg cs, v, r => by
    rw [Rep] at r ⊢
    obtain ⟨vs, rfl, hr⟩ := r
    exact ⟨vs, rfl, RepL.ext h cs _ hr⟩
  | .tup cs, v, r => by
    rw [Rep] at r ⊢
    obtain ⟨vs, rfl, hr⟩ := r
    exact ⟨vs, rfl, RepL.ext h cs _ hr⟩
  | .pure sz vals, v, r => by
    rw [Rep] at r ⊢
    obtain ⟨ao, cap, rfl, hle, hr⟩ := r
    refine ⟨ao, cap, rfl, hle, ?_⟩
    rcases hr with hr | ⟨b, o, rfl, hb, he⟩
    · exact .inl hr
    · exact .inr ⟨b, o, rfl, (h.keep b hb).2, RepE.ext h.p b o sz hb vals he⟩
  | .own r n off len, v, hr => by
    rw [Rep] at hr ⊢
    obtain ⟨hm, h0, h1, h2⟩ := hr
    refine ⟨h.pm.trans hm, h0, Nat.lt_of_lt_of_le h1 h.len, fun e sz vals' hv => ?_⟩
    obtain ⟨vals, a1, a2, a3⟩ := h.rows r e sz vals' h1 hv
    obtain ⟨b1, b2⟩ := h2 e sz vals a1
    refine ⟨by omega, fun hn => ?_⟩
    obtain ⟨c1, p, c2, c3⟩ := b2 (by omega)
    exact ⟨c1, p, by rw [a3 (by omega)]; exact c2, c3⟩
  | .ref r n i off, v, hr => by
    rw [Rep] at hr ⊢
    obtain ⟨hm, h0, h1, h2⟩ := hr
    refine ⟨h.pm.trans hm, h0, Nat.lt_of_lt_of_le h1 h.len, fun e sz vals' hv => ?_⟩
    obtain ⟨vals, a1, a2, a3⟩ := h.rows r e sz vals' h1 hv
    obtain ⟨b1, b2⟩ := h2 e sz vals a1
    refine ⟨by omega, fun hn => ?_⟩
    obtain ⟨c1, b, c, c2, c3⟩ := b2 (by omega)
    exact ⟨c1, b, c, by rw [a3 (by omega)]; exact c2, c3⟩
  | .pref cells off, v, hr => by
    rw [Rep] at hr ⊢
    obtain ⟨b, o, rfl, hb, hc⟩ := hr
    exact ⟨b, o, rfl, (h.keep b hb).2, RepC.ext h.p b o hb cells hc⟩
theorem RepL.ext {C C' : Ctx} (h : Ext C C') : ∀ (as : List AVal) (vs : List Value), RepL C as vs → RepL C' as vs
  | [], vs, r => by simpa [RepL] using r
  | a :: as, vs, r => by
    rw [RepL] at r ⊢
    obtain ⟨v, rest, rfl, h1, h2⟩ := r
    exact ⟨v, rest, rfl, Rep.ext h a v h1, RepL.ext h as rest h2⟩
theorem RepC.ext {C C' : Ctx} (h : Ext C C') (b o : Nat) (hb : C.pureBlk b) : ∀ (as : List AVal), RepC C b o as → RepC C' b o as
  | [], _ => by simp [RepC]
  | a :: as, r => by
    rw [RepC] at r ⊢
    obtain ⟨⟨v, h1, h2, h3⟩, h4⟩ := r
    exact ⟨⟨v, by rw [World.cell?_of_block (w := C.w) (h.keep b hb).1]; exact h1, h2, Rep.ext h a v h3⟩, RepC.ext h b (o + 1) hb as h4⟩
theorem RepE.ext {C C' : Ctx} (h : Ext C C') (b o sz : Nat) (hb : C.pureBlk b) : ∀ (es : List (List AVal)), RepE C b o sz es → RepE C' b o sz es
  | [], _ => by simp [RepE]
  | e :: es, r => by
    rw [RepE] at r ⊢
    exact ⟨r.1, RepC.ext h b o hb e r.2.1, RepE.ext h b (o + sz) sz hb es r.2.2⟩
end

mutual
/-- what never changes may be met everywhere -/
theorem Rep.unp {C : Ctx} : ∀ (a : AVal) (v : Value), Rep C.p a v → Rep C a v
  | .int .., _, r => by simpa [Rep] using r
  | .bool .., _, r => by simpa [Rep] using r
  | .str .., _, r => by simpa [Rep] using r
  | .nils, _, r => by simpa [Rep] using r
  | .nilp, _, r => by simpa [Rep] using r
  | .junk, _, _ => by simp [Rep]
  | .agg cs, v, r => by
    rw [Rep] at r ⊢
    obtain ⟨vs, rfl, hr⟩ := r
    exact ⟨vs, rfl, RepL.unp cs _ hr⟩
  | .tup cs, v, r => by
    rw [Rep] at r ⊢
    obtain ⟨vs, rfl, hr⟩ := r
    exact ⟨vs, rfl, RepL.unp cs _ hr⟩
  | .pure sz vals, v, r => by rw [Rep] at r ⊢; exact r
  | .own r n off len, v, hr => by rw [Rep] at hr; cases hr.1
  | .ref r n i off, v, hr => by rw [Rep] at hr; cases hr.1
  | .pref cells off, v, hr => by rw [Rep] at hr ⊢; exact hr
theorem RepL.unp {C : Ctx} : ∀ (as : List AVal) (vs : List Value), RepL C.p as vs → RepL C as vs
  | [], vs, r => by simpa [RepL] using r
  | a :: as, vs, r => by
    rw [RepL] at r ⊢
    obtain ⟨v, rest, rfl, h1, h2⟩ := r
    exact ⟨v, rest, rfl, Rep.unp a v h1, RepL.unp as rest h2⟩
end

theorem RepC.unp {C : Ctx} (b : Nat) : ∀ (o : Nat) (as : List AVal), RepC C.p b o as → RepC C b o as
  | o, [], _ => by simp [RepC]
  | o, a :: as, r => by
    rw [RepC] at r ⊢
    obtain ⟨⟨v, h1, h2, h3⟩, h4⟩ := r
    exact ⟨⟨v, h1, h2, Rep.unp a v h3⟩, RepC.unp b (o + 1) as h4⟩

theorem RepE.unp {C : Ctx} (b sz : Nat) : ∀ (o : Nat) (es : List (List AVal)), RepE C.p b o sz es → RepE C b o sz es
  | o, [], _ => by simp [RepE]
  | o, e :: es, r => by
    rw [RepE] at r ⊢
    exact ⟨r.1, RepC.unp b o e r.2.1, RepE.unp b sz (o + sz) es r.2.2⟩

/-- what a row says of the memory -/
def RowOk (C : Ctx) (r : Nat) : Row → Prop
  | .dead => C.phi[r]? = some none
  | .live e sz vals => ∃ p, C.phi[r]? = some p ∧
    match p with
    | none => vals = []
    | some (b, cap) => ¬ C.om b ∧ ∃ cs, C.w.heap[b]? = some (.cells cs e (0, 0)) ∧ cs.size = cap * sz ∧ cap ≤ maxLen ∧ vals.length ≤ cap ∧ RepE C b 0 sz vals

structure Ok (C : Ctx) : Prop where
  pm : C.pm = false
  plen : C.phi.length = C.rows.length
  rows : ∀ r row, C.rows[r]? = some row → RowOk C r row
  inj : ∀ r r' b c c' : Nat, C.phi[r]? = some (some (b, c)) → C.phi[r']? = some (some (b, c')) → r = r'
  om : ∀ b, C.om b → b < C.w.heap.size

/-- C' comes later than C: nothing but what C owns has changed, and the first n rows are those of C -/
structure Later (n : Nat) (C C' : Ctx) : Prop where
  os : C'.w.os = C.w.os
  tape : C'.w.tape = C.w.tape
  output : C'.w.output = C.w.output
  size : C.w.heap.size ≤ C'.w.heap.size
  block : ∀ b, b < C.w.heap.size → (∀ r c : Nat, C.phi[r]? ≠ some (some (b, c))) → C'.w.heap[b]? = C.w.heap[b]?
  fresh : ∀ r b c : Nat, C'.phi[r]? = some (some (b, c)) → (∃ r' c' : Nat, C.phi[r']? = some (some (b, c'))) ∨ C.w.heap.size ≤ b
  om : C'.om = C.om
  pm : C'.pm = C.pm
  len : n ≤ C'.rows.length
  rows : ∀ r e sz vals', r < n → C'.rows[r]? = some (.live e sz vals') →
    ∃ vals, C.rows[r]? = some (.live e sz vals) ∧ vals.length ≤ vals'.length ∧ (vals.length = vals'.length → C'.phi[r]? = C.phi[r]?)

theorem Later.refl (C : Ctx) : Later C.rows.length C C :=
  ⟨rfl, rfl, rfl, Nat.le_refl _, fun _ _ _ => rfl, fun r _ c h => .inl ⟨r, c, h⟩, rfl, rfl, Nat.le_refl _, fun _ _ _ vals _ h => ⟨vals, h, Nat.le_refl _, fun _ => rfl⟩⟩

theorem Later.mono {n m : Nat} {C C' : Ctx} (h : Later n C C') (hm : m ≤ n) : Later m C C' :=
  ⟨h.os, h.tape, h.output, h.size, h.block, h.fresh, h.om, h.pm, Nat.le_trans hm h.len, fun r e sz v hr => h.rows r e sz v (by omega)⟩

theorem Later.trans {n m : Nat} {A B C : Ctx} (h : Later n A B) (k : Later m B C) (hn : n ≤ m) : Later n A C := by
  refine ⟨k.os.trans h.os, k.tape.trans h.tape, k.output.trans h.output, Nat.le_trans h.size k.size, fun b hb ho => ?_, fun r b c hc => ?_, k.om.trans h.om, k.pm.trans h.pm, Nat.le_trans hn k.len, fun r e sz vals' hr hv => ?_⟩
  · rw [← h.block b hb ho]
    refine k.block b (Nat.lt_of_lt_of_le hb h.size) fun r c hc => ?_
    rcases h.fresh r b c hc with ⟨r', c', h'⟩ | h'
    · exact ho r' c' h'
    · omega
  · rcases k.fresh r b c hc with ⟨r', c', h'⟩ | h'
    · exact h.fresh r' b c' h'
    · exact .inr (Nat.le_trans h.size h')
  · obtain ⟨v1, a1, a2, a3⟩ := k.rows r e sz vals' (by omega) hv
    obtain ⟨v2, b1, b2, b3⟩ := h.rows r e sz v1 hr a1
    exact ⟨v2, b1, by omega, fun hh => by rw [a3 (by omega), b3 (by omega)]⟩

theorem Later.keep {n : Nat} {C C' : Ctx} (h : Later n C C') (b : Nat) (hb : C.pureBlk b) : C'.w.heap[b]? = C.w.heap[b]? ∧ C'.pureBlk b := by
  obtain ⟨h1, h2, h3⟩ := hb
  refine ⟨h.block b h1 h3, Nat.lt_of_lt_of_le h1 h.size, by rw [h.om]; exact h2, fun r c hc => ?_⟩
  rcases h.fresh r b c hc with ⟨r', c', h'⟩ | h'
  · exact h3 r' c' h'
  · omega

theorem Later.ext {C C' : Ctx} (h : Later C.rows.length C C') : Ext C C' := ⟨h.pm, h.keep, h.len, h.rows⟩

end Go.Abs
