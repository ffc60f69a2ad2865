/- Abs0, Abs1, Abs2, Abs3, Abs4, Abs5, Abs6, Abs7, Abs8, Abs9, Abs10 joined. -/
import Derived.WalkKit
set_option linter.unusedSimpArgs false
set_option linter.unusedVariables false
set_option linter.unusedSectionVars false
section
/- The number of choices that were made never sinks. -/
namespace Go.Abs

theorem ask_drawn {α : Type} : ∀ (a : Ask α) (w : World), w.drawn ≤ (w.ask a).2.drawn
  | .done _, w => Nat.le_refl _
  | .ask what range k, w => by
    rw [World.ask]
    split
    · exact ask_drawn (k 0) w
    · exact Nat.le_trans (Nat.le_succ _) (ask_drawn _ { w with drawn := w.drawn + 1 })
theorem sys_drawn (w : World) (c : Sys) : w.drawn ≤ (w.sys c).2.drawn := by
  have h := ask_drawn (Kernel.perform c w.os) w
  unfold World.sys
  split
  · exact Nat.le_refl _
  · rename_i r os w' he
    rw [he] at h
    exact h
theorem bind_ok {ε α β : Type} {x : Except ε α} {f : α → Except ε β} {b : β} (h : (x >>= f) = .ok b) : ∃ a, x = .ok a ∧ f a = .ok b := by
  cases x with
  | error e => simp [bind, Except.bind] at h
  | ok a => exact ⟨a, rfl, by simpa [bind, Except.bind] using h⟩
theorem viewStore_drawn {p : Program} {w : World} {at_ : Addr} {u : TypeId} {k : Addr} {v : Value} {atomic : Bool} {r : World × List Addr} (h : w.viewStore p at_ u k v atomic = .ok r) : r.1.drawn = w.drawn := by
  unfold World.viewStore at h
  simp only at h
  split at h
  · obtain ⟨_, h1, _⟩ := bind_ok h
    simp [MonadExcept.throw, throwThe, MonadExceptOf.throw] at h1
  obtain ⟨⟨c, e, frozen, first, like, cells⟩, _, h⟩ := bind_ok h
  simp only at h
  split at h
  · split at h
    · obtain ⟨_, h1, _⟩ := bind_ok h
      simp [MonadExcept.throw, throwThe, MonadExceptOf.throw] at h1
    obtain ⟨c, _, h⟩ := bind_ok h
    simp only [pure, Except.pure, Except.ok.injEq] at h
    subst h
    rfl
  · simp [MonadExcept.throw, throwThe, MonadExceptOf.throw] at h
theorem farStore_drawn {p : Program} {w : World} {a : Addr} {v : Value} {atomic : Bool} {r : World × List Addr} (h : w.farStore p a v atomic = .ok r) : r.1.drawn = w.drawn := by
  unfold World.farStore at h
  split at h
  · split at h
    · rename_i hv
      simp at h
      subst h
      exact viewStore_drawn hv
    · cases h
  · cases h
theorem run_drawn {α : Type} {p : Program} : ∀ {s : Sem α} {w w' : World} {a : α}, s.run p w = .ok a w' → w.drawn ≤ w'.drawn
  | .pure a, w, w', _, h => by
    rw [Sem.run] at h; cases h; exact Nat.le_refl _
  | .load m a k, w, w', _, h => by
    rw [Sem.run] at h
    split at h
    · exact run_drawn h
    · split at h
      · exact run_drawn h
      · cases h
  | .store m a v k, w, w', y, h => by
    have key : (match w.cell? a with
      | some _ => if w.frozen? a then .halt (.unsupported (.unsafePointer "a write to bytes that a string shares")) w else k.run p (w.setCell a v)
      | none => match w.farStore p a v (m == .atomic) with
        | .ok (w, _) => k.run p w
        | .error h => .halt h w) = Result.ok y w' := by
      cases v <;> first | (rw [Sem.run] at h; cases h; done) | exact h
    split at key
    · split at key
      · cases key
      · exact run_drawn (w := w.setCell a v) key
    · split at key
      · rename_i hf
        have := farStore_drawn hf
        exact Nat.le_trans (Nat.le_of_eq this.symm) (run_drawn key)
      · cases key
  | .new o k, w, w', _, h => by
    rw [Sem.run] at h; exact run_drawn (w := { w with heap := w.heap.push o }) h
  | .shape r k, w, w', _, h => by
    rw [Sem.run] at h; exact run_drawn h
  | .freeze a n k, w, w', _, h => by
    rw [Sem.run] at h
    have hw : (w.freeze a n).drawn = w.drawn := by
      unfold World.freeze
      (repeat' split) <;> rfl
    exact Nat.le_trans (Nat.le_of_eq hw.symm) (run_drawn h)
  | .frozen a k, w, w', _, h => by
    rw [Sem.run] at h; exact run_drawn h
  | .getObj r k, w, w', _, h => by
    rw [Sem.run] at h
    split at h
    · cases h
    · exact run_drawn h
    · cases h
  | .setObj r o k, w, w', _, h => by
    rw [Sem.run] at h
    split at h
    · cases h
    · exact run_drawn (w := { w with heap := w.heap.setIfInBounds r o }) h
    · cases h
  | .choose q k, w, w', _, h => by
    rw [Sem.run] at h
    split at h
    · exact run_drawn h
    · exact Nat.le_trans (Nat.le_succ _) (run_drawn (w := { w with drawn := w.drawn + 1 }) h)
  | .sys c k, w, w', _, h => by
    rw [Sem.run] at h; exact Nat.le_trans (sys_drawn w c) (run_drawn h)
  | .program k, w, w', _, h => by
    rw [Sem.run] at h; exact run_drawn h
  | .mark m k, w, w', _, h => by
    rw [Sem.run] at h; exact run_drawn h
  | .halt hh, w, w', _, h => by
    rw [Sem.run] at h; cases h

end Go.Abs
end

section
/- Abstract values and how a world represents them: values, rows of memory that the running functions own, and the relation between them and the model's values. -/
namespace Go.Abs

/-- An abstract value. -/
inductive AVal where
  | int (k : IntKind) (n : Int)
  | bool (b : Bool)
  | str (s : ByteArray)
  | agg (cs : List AVal)
  | tup (vs : List AVal)
  /-- an empty slice without room, the nil slice for one -/
  | nils
  /-- a slice whose elements never change: each element is its list of cells -/
  | pure (sz : Nat) (vals : List (List AVal))
  /-- the elements off .. off + len of row r, seen when the row had n elements -/
  | own (r n off len : Nat)
  /-- a pointer to the cell off of the element i of row r, seen when the row had n elements -/
  | ref (r n i off : Nat)
  /-- a pointer to the cell off of cells that never change -/
  | pref (cells : List AVal) (off : Nat)
  | nilp
  /-- a function, with what it has caught -/
  | fn (f : FuncId) (cs : List AVal)
  /-- the map of row r -/
  | mref (r : Nat)
  | nilm
  /-- the iterator of row r over the map of row m -/
  | itref (r m : Nat)
  | junk
  deriving Inhabited

/-- the kind of a cell -/
inductive CK where
  | int (k : IntKind)
  | bool
  | str
  deriving Inhabited, DecidableEq

/-- what is no row of cells: a map (its keys are structs or not, the kinds of their cells, its entries in the order in which they were born); an iterator over a map of n entries, of which some were seen -/
inductive AObj where
  | map (ag : Bool) (ks : List CK) (ents : List (AVal × AVal))
  | iter (n : Nat) (seen : List Nat)
  deriving Inhabited

/-- cells of these kinds -/
def fits : List CK → List AVal → Prop
  | .int k :: ks, .int k' _ :: cs => k = k' ∧ fits ks cs
  | .bool :: ks, .bool _ :: cs => fits ks cs
  | .str :: ks, .str _ :: cs => fits ks cs
  | [], [] => True
  | _, _ => False

/-- the cells of a value -/
def acells : AVal → List AVal
  | .agg cs => cs
  | v => [v]

def isAg : AVal → Bool
  | .agg _ => true
  | _ => false

/-- a key of these kinds -/
def keyFits (ag : Bool) (ks : List CK) (k : AVal) : Prop := isAg k = ag ∧ fits ks (acells k)

/-- A row of memory that is owned. -/
inductive Row where
  | dead
  | live (elem : TypeId) (sz : Nat) (vals : List (List AVal))
  | obj (o : AObj)
  deriving Inhabited

structure Ctx where
  rows : List Row
  /-- the block and the capacity of each row -/
  phi : List (Option (Nat × Nat))
  /-- blocks that others own -/
  om : Nat → Prop
  w : World
  /-- is this about values that never change? -/
  pm : Bool

def Ctx.p (C : Ctx) : Ctx := { C with pm := true }

/-- a block that nobody changes -/
def Ctx.pureBlk (C : Ctx) (b : Nat) : Prop := b < C.w.heap.size ∧ ¬ C.om b ∧ ∀ r c : Nat, C.phi[r]? ≠ some (some (b, c))

/-- how a slice of an owned row looks -/
def ownv (p : Option (Nat × Nat)) (sz off len : Nat) (v : Value) : Prop :=
  match p with
  | none => (∃ ao, v = .slice ao 0 0) ∧ off = 0 ∧ len = 0
  | some (b, cap) => ∃ a c, v = .slice (some a) len c ∧ len ≤ c ∧ a.spot = none ∧ a.block = b ∧ (off = 0 → a.off = 0 ∧ c = cap) ∧ (0 < len → a.off = off * sz)

mutual
def Rep (C : Ctx) : AVal → Value → Prop
  | .int k n, v => v = .int k n
  | .bool b, v => v = .bool b
  | .str s, v => v = .string s
  | .agg cs, v => ∃ vs : Array Value, v = .agg vs ∧ RepL C cs vs.toList
  | .tup cs, v => ∃ vs : Array Value, v = .tuple vs ∧ RepL C cs vs.toList
  | .nils, v => ∃ ao, v = .slice ao 0 0
  | .pure sz vals, v => ∃ ao cap, v = .slice ao vals.length cap ∧ vals.length ≤ cap ∧ (vals.length = 0 ∨ ∃ b o, ao = some ⟨b, o, none⟩ ∧ C.pureBlk b ∧ RepE C.p b o sz vals)
  | .own r n off len, v => C.pm = false ∧ (∃ ao c, v = .slice ao len c) ∧ r < C.rows.length ∧ ∀ e sz vals, C.rows[r]? = some (.live e sz vals) → n ≤ vals.length ∧ (n = vals.length → off + len ≤ n ∧ ∃ p, C.phi[r]? = some p ∧ ownv p sz off len v)
  | .ref r n i off, v => C.pm = false ∧ (∃ a, v = .pointer (some a)) ∧ r < C.rows.length ∧ ∀ e sz vals, C.rows[r]? = some (.live e sz vals) → n ≤ vals.length ∧ (n = vals.length → i < n ∧ ∃ b c, C.phi[r]? = some (some (b, c)) ∧ v = .pointer (some ⟨b, i * sz + off, none⟩))
  | .pref cells off, v => ∃ b o, v = .pointer (some ⟨b, o + off, none⟩) ∧ C.pureBlk b ∧ RepC C.p b o cells
  | .nilp, v => v = .pointer none
  | .fn f cs, v => ∃ vs : Array Value, v = .func (.func f) #[] vs ∧ RepL C cs vs.toList
  | .mref r, v => C.pm = false ∧ (∃ b, v = .map (some b)) ∧ r < C.rows.length ∧ ∀ o, C.rows[r]? = some (.obj o) → ∃ b c, C.phi[r]? = some (some (b, c)) ∧ v = .map (some b)
  | .nilm, v => v = .map none
  | .itref r m, v => C.pm = false ∧ (∃ a, v = .pointer (some a)) ∧ r < C.rows.length ∧ m < C.rows.length ∧ ∀ o o', C.rows[r]? = some (.obj o) → C.rows[m]? = some (.obj o') →
      ∃ b bm c, C.phi[r]? = some (some (b, bm)) ∧ C.phi[m]? = some (some (bm, c)) ∧ v = .pointer (some ⟨b, 0, none⟩)
  | .junk, _ => True
/-- value by value -/
def RepL (C : Ctx) : List AVal → List Value → Prop
  | [], vs => vs = []
  | c :: cs, vs => ∃ v rest, vs = v :: rest ∧ Rep C c v ∧ RepL C cs rest
/-- cells in memory -/
def RepC (C : Ctx) (b : Nat) (o : Nat) : List AVal → Prop
  | [] => True
  | c :: cs => (∃ v, C.w.cell? ⟨b, o, none⟩ = some v ∧ v.oneCell' = true ∧ Rep C c v) ∧ RepC C b (o + 1) cs
/-- elements in memory -/
def RepE (C : Ctx) (b : Nat) (o sz : Nat) : List (List AVal) → Prop
  | [] => True
  | e :: es => e.length = sz ∧ RepC C b o e ∧ RepE C b (o + sz) sz es
end

/-- C' comes later than C: what was represented is represented. -/
structure Ext (C C' : Ctx) : Prop where
  pm : C'.pm = C.pm
  keep : ∀ b, C.pureBlk b → C'.w.heap[b]? = C.w.heap[b]? ∧ C'.pureBlk b
  len : C.rows.length ≤ C'.rows.length
  rows : ∀ r e sz vals', r < C.rows.length → C'.rows[r]? = some (.live e sz vals') →
    ∃ vals, C.rows[r]? = some (.live e sz vals) ∧ vals.length ≤ vals'.length ∧ (vals.length = vals'.length → C'.phi[r]? = C.phi[r]?)
  objs : ∀ r o', r < C.rows.length → C'.rows[r]? = some (.obj o') → ∃ o, C.rows[r]? = some (.obj o) ∧ C'.phi[r]? = C.phi[r]?

theorem Ext.refl (C : Ctx) : Ext C C := ⟨rfl, fun _ h => ⟨rfl, h⟩, Nat.le_refl _, fun _ _ _ vals _ h => ⟨vals, h, Nat.le_refl _, fun _ => rfl⟩, fun _ o _ h => ⟨o, h, rfl⟩⟩

theorem Ext.trans {A B C : Ctx} (h : Ext A B) (k : Ext B C) : Ext A C := by
  refine ⟨k.pm.trans h.pm, fun b hb => ?_, Nat.le_trans h.len k.len, fun r e sz vals' hr hv => ?_, fun r o' hr ho => ?_⟩
  · obtain ⟨h1, h2⟩ := h.keep b hb
    obtain ⟨k1, k2⟩ := k.keep b h2
    exact ⟨k1.trans h1, k2⟩
  · obtain ⟨v1, a1, a2, a3⟩ := k.rows r e sz vals' (by have := h.len; omega) hv
    obtain ⟨v2, b1, b2, b3⟩ := h.rows r e sz v1 hr a1
    refine ⟨v2, b1, by omega, fun hh => ?_⟩
    rw [a3 (by omega), b3 (by omega)]
  · obtain ⟨o1, a1, a2⟩ := k.objs r o' (by have := h.len; omega) ho
    obtain ⟨o2, b1, b2⟩ := h.objs r o1 hr a1
    exact ⟨o2, b1, a2.trans b2⟩

theorem Ext.p {C C' : Ctx} (h : Ext C C') : Ext C.p C'.p := ⟨rfl, h.keep, h.len, h.rows, h.objs⟩

mutual
theorem Rep.ext {C C' : Ctx} (h : Ext C C') : ∀ (a : AVal) (v : Value), Rep C a v → Rep C' a v
  | .int .., _, r => by simpa [Rep] using r
  | .bool .., _, r => by simpa [Rep] using r
  | .str .., _, r => by simpa [Rep] using r
  | .nils, _, r => by simpa [Rep] using r
  | .nilp, _, r => by simpa [Rep] using r
  | .junk, _, _ => by simp [Rep]
  | .agg cs, v, r => by
    rw [Rep] at r ⊢
    obtain ⟨vs, rfl, hr⟩ := r
    exact ⟨vs, rfl, RepL.ext h cs _ hr⟩
  | .tup cs, v, r => by
    rw [Rep] at r ⊢
    obtain ⟨vs, rfl, hr⟩ := r
    exact ⟨vs, rfl, RepL.ext h cs _ hr⟩
  | .pure sz vals, v, r => by
    rw [Rep] at r ⊢
    obtain ⟨ao, cap, rfl, hle, hr⟩ := r
    refine ⟨ao, cap, rfl, hle, ?_⟩
    rcases hr with hr | ⟨b, o, rfl, hb, he⟩
    · exact .inl hr
    · exact .inr ⟨b, o, rfl, (h.keep b hb).2, RepE.ext h.p b o sz hb vals he⟩
  | .own r n off len, v, hr => by
    rw [Rep] at hr ⊢
    obtain ⟨hm, h0, h1, h2⟩ := hr
    refine ⟨h.pm.trans hm, h0, Nat.lt_of_lt_of_le h1 h.len, fun e sz vals' hv => ?_⟩
    obtain ⟨vals, a1, a2, a3⟩ := h.rows r e sz vals' h1 hv
    obtain ⟨b1, b2⟩ := h2 e sz vals a1
    refine ⟨by omega, fun hn => ?_⟩
    obtain ⟨c1, p, c2, c3⟩ := b2 (by omega)
    exact ⟨c1, p, by rw [a3 (by omega)]; exact c2, c3⟩
  | .ref r n i off, v, hr => by
    rw [Rep] at hr ⊢
    obtain ⟨hm, h0, h1, h2⟩ := hr
    refine ⟨h.pm.trans hm, h0, Nat.lt_of_lt_of_le h1 h.len, fun e sz vals' hv => ?_⟩
    obtain ⟨vals, a1, a2, a3⟩ := h.rows r e sz vals' h1 hv
    obtain ⟨b1, b2⟩ := h2 e sz vals a1
    refine ⟨by omega, fun hn => ?_⟩
    obtain ⟨c1, b, c, c2, c3⟩ := b2 (by omega)
    exact ⟨c1, b, c, by rw [a3 (by omega)]; exact c2, c3⟩
  | .pref cells off, v, hr => by
    rw [Rep] at hr ⊢
    obtain ⟨b, o, rfl, hb, hc⟩ := hr
    exact ⟨b, o, rfl, (h.keep b hb).2, RepC.ext h.p b o hb cells hc⟩
  | .fn f cs, v, r => by
    rw [Rep] at r ⊢
    obtain ⟨vs, rfl, hr⟩ := r
    exact ⟨vs, rfl, RepL.ext h cs _ hr⟩
  | .nilm, _, r => by simpa [Rep] using r
  | .mref r, v, hr => by
    rw [Rep] at hr ⊢
    obtain ⟨hm, h0, h1, h2⟩ := hr
    refine ⟨h.pm.trans hm, h0, Nat.lt_of_lt_of_le h1 h.len, fun o' ho => ?_⟩
    obtain ⟨o, a1, a2⟩ := h.objs r o' h1 ho
    rw [a2]
    exact h2 o a1
  | .itref r m, v, hr => by
    rw [Rep] at hr ⊢
    obtain ⟨hm, h0, h1, h2, h3⟩ := hr
    refine ⟨h.pm.trans hm, h0, Nat.lt_of_lt_of_le h1 h.len, Nat.lt_of_lt_of_le h2 h.len, fun o1 o2 ho1 ho2 => ?_⟩
    obtain ⟨p1, a1, a2⟩ := h.objs r o1 h1 ho1
    obtain ⟨p2, b1, b2⟩ := h.objs m o2 h2 ho2
    rw [a2, b2]
    exact h3 p1 p2 a1 b1
theorem RepL.ext {C C' : Ctx} (h : Ext C C') : ∀ (as : List AVal) (vs : List Value), RepL C as vs → RepL C' as vs
  | [], vs, r => by simpa [RepL] using r
  | a :: as, vs, r => by
    rw [RepL] at r ⊢
    obtain ⟨v, rest, rfl, h1, h2⟩ := r
    exact ⟨v, rest, rfl, Rep.ext h a v h1, RepL.ext h as rest h2⟩
theorem RepC.ext {C C' : Ctx} (h : Ext C C') (b o : Nat) (hb : C.pureBlk b) : ∀ (as : List AVal), RepC C b o as → RepC C' b o as
  | [], _ => by simp [RepC]
  | a :: as, r => by
    rw [RepC] at r ⊢
    obtain ⟨⟨v, h1, h2, h3⟩, h4⟩ := r
    exact ⟨⟨v, by rw [World.cell?_of_block (w := C.w) (h.keep b hb).1]; exact h1, h2, Rep.ext h a v h3⟩, RepC.ext h b (o + 1) hb as h4⟩
theorem RepE.ext {C C' : Ctx} (h : Ext C C') (b o sz : Nat) (hb : C.pureBlk b) : ∀ (es : List (List AVal)), RepE C b o sz es → RepE C' b o sz es
  | [], _ => by simp [RepE]
  | e :: es, r => by
    rw [RepE] at r ⊢
    exact ⟨r.1, RepC.ext h b o hb e r.2.1, RepE.ext h b (o + sz) sz hb es r.2.2⟩
end

mutual
/-- what never changes may be met everywhere -/
theorem Rep.unp {C : Ctx} : ∀ (a : AVal) (v : Value), Rep C.p a v → Rep C a v
  | .int .., _, r => by simpa [Rep] using r
  | .bool .., _, r => by simpa [Rep] using r
  | .str .., _, r => by simpa [Rep] using r
  | .nils, _, r => by simpa [Rep] using r
  | .nilp, _, r => by simpa [Rep] using r
  | .junk, _, _ => by simp [Rep]
  | .agg cs, v, r => by
    rw [Rep] at r ⊢
    obtain ⟨vs, rfl, hr⟩ := r
    exact ⟨vs, rfl, RepL.unp cs _ hr⟩
  | .tup cs, v, r => by
    rw [Rep] at r ⊢
    obtain ⟨vs, rfl, hr⟩ := r
    exact ⟨vs, rfl, RepL.unp cs _ hr⟩
  | .pure sz vals, v, r => by rw [Rep] at r ⊢; exact r
  | .own r n off len, v, hr => by rw [Rep] at hr; cases hr.1
  | .ref r n i off, v, hr => by rw [Rep] at hr; cases hr.1
  | .pref cells off, v, hr => by rw [Rep] at hr ⊢; exact hr
  | .fn f cs, v, r => by
    rw [Rep] at r ⊢
    obtain ⟨vs, rfl, hr⟩ := r
    exact ⟨vs, rfl, RepL.unp cs _ hr⟩
  | .nilm, _, r => by simpa [Rep] using r
  | .mref r, v, hr => by rw [Rep] at hr; cases hr.1
  | .itref r m, v, hr => by rw [Rep] at hr; cases hr.1
theorem RepL.unp {C : Ctx} : ∀ (as : List AVal) (vs : List Value), RepL C.p as vs → RepL C as vs
  | [], vs, r => by simpa [RepL] using r
  | a :: as, vs, r => by
    rw [RepL] at r ⊢
    obtain ⟨v, rest, rfl, h1, h2⟩ := r
    exact ⟨v, rest, rfl, Rep.unp a v h1, RepL.unp as rest h2⟩
end

theorem RepC.unp {C : Ctx} (b : Nat) : ∀ (o : Nat) (as : List AVal), RepC C.p b o as → RepC C b o as
  | o, [], _ => by simp [RepC]
  | o, a :: as, r => by
    rw [RepC] at r ⊢
    obtain ⟨⟨v, h1, h2, h3⟩, h4⟩ := r
    exact ⟨⟨v, h1, h2, Rep.unp a v h3⟩, RepC.unp b (o + 1) as h4⟩

theorem RepE.unp {C : Ctx} (b sz : Nat) : ∀ (o : Nat) (es : List (List AVal)), RepE C.p b o sz es → RepE C b o sz es
  | o, [], _ => by simp [RepE]
  | o, e :: es, r => by
    rw [RepE] at r ⊢
    exact ⟨r.1, RepC.unp b o e r.2.1, RepE.unp b sz (o + sz) es r.2.2⟩

/-- what a row says of the memory -/
def RowOk (C : Ctx) (r : Nat) : Row → Prop
  | .dead => C.phi[r]? = some none
  | .live e sz vals => ∃ p, C.phi[r]? = some p ∧
    match p with
    | none => vals = []
    | some (b, cap) => ¬ C.om b ∧ ∃ cs, C.w.heap[b]? = some (.cells cs e (0, 0)) ∧ cs.size = cap * sz ∧ cap ≤ maxLen ∧ vals.length ≤ cap ∧ RepE C b 0 sz vals
  | .obj (.map ag ks ents) => ∃ b c es, C.phi[r]? = some (some (b, c)) ∧ ¬ C.om b ∧ C.w.heap[b]? = some (.map es es.size) ∧ (∀ (i : Nat) (e : MapEntry), es[i]? = some e → e.born = i) ∧
      RepL C (ents.map (·.1)) (es.toList.map (·.key)) ∧ RepL C (ents.map (·.2)) (es.toList.map (·.val)) ∧ ∀ p ∈ ents, keyFits ag ks p.1
  | .obj (.iter n seen) => ∃ b bm, C.phi[r]? = some (some (b, bm)) ∧ ¬ C.om b ∧ C.w.heap[b]? = some (.mapIter (some bm) n seen.toArray n)

structure Ok (C : Ctx) : Prop where
  pm : C.pm = false
  plen : C.phi.length = C.rows.length
  rows : ∀ r row, C.rows[r]? = some row → RowOk C r row
  inj : ∀ r r' b c c' : Nat, C.phi[r]? = some (some (b, c)) → C.phi[r']? = some (some (b, c')) → r = r'
  om : ∀ b, C.om b → b < C.w.heap.size

/-- are the choices that are drawn counted? (what compares for a sort needs it; what comes of the shelf without a word on them denies it) -/
class Dr where
  d : Prop := True
variable [Dr]

/-- C' comes later than C: nothing but what C owns has changed, and the first n rows are those of C -/
structure Later (n : Nat) (C C' : Ctx) : Prop where
  os : C'.w.os = C.w.os
  tape : C'.w.tape = C.w.tape
  output : C'.w.output = C.w.output
  size : C.w.heap.size ≤ C'.w.heap.size
  block : ∀ b, b < C.w.heap.size → (∀ r c : Nat, C.phi[r]? ≠ some (some (b, c))) → C'.w.heap[b]? = C.w.heap[b]?
  fresh : ∀ r b c : Nat, C'.phi[r]? = some (some (b, c)) → (∃ r' c' : Nat, C.phi[r']? = some (some (b, c'))) ∨ C.w.heap.size ≤ b
  om : C'.om = C.om
  pm : C'.pm = C.pm
  len : n ≤ C'.rows.length
  rows : ∀ r e sz vals', r < n → C'.rows[r]? = some (.live e sz vals') →
    ∃ vals, C.rows[r]? = some (.live e sz vals) ∧ vals.length ≤ vals'.length ∧ (vals.length = vals'.length → C'.phi[r]? = C.phi[r]?)
  objs : ∀ r o', r < n → C'.rows[r]? = some (.obj o') → ∃ o, C.rows[r]? = some (.obj o) ∧ C'.phi[r]? = C.phi[r]?
  drawn : Dr.d → C.w.drawn ≤ C'.w.drawn

theorem Later.refl (C : Ctx) : Later C.rows.length C C :=
  ⟨rfl, rfl, rfl, Nat.le_refl _, fun _ _ _ => rfl, fun r _ c h => .inl ⟨r, c, h⟩, rfl, rfl, Nat.le_refl _, fun _ _ _ vals _ h => ⟨vals, h, Nat.le_refl _, fun _ => rfl⟩, fun _ o _ h => ⟨o, h, rfl⟩, fun _ => Nat.le_refl _⟩

theorem Later.mono {n m : Nat} {C C' : Ctx} (h : Later n C C') (hm : m ≤ n) : Later m C C' :=
  ⟨h.os, h.tape, h.output, h.size, h.block, h.fresh, h.om, h.pm, Nat.le_trans hm h.len, fun r e sz v hr => h.rows r e sz v (by omega), fun r o hr => h.objs r o (by omega), h.drawn⟩

theorem Later.trans {n m : Nat} {A B C : Ctx} (h : Later n A B) (k : Later m B C) (hn : n ≤ m) : Later n A C := by
  refine ⟨k.os.trans h.os, k.tape.trans h.tape, k.output.trans h.output, Nat.le_trans h.size k.size, fun b hb ho => ?_, fun r b c hc => ?_, k.om.trans h.om, k.pm.trans h.pm, Nat.le_trans hn k.len, fun r e sz vals' hr hv => ?_, fun r o' hr ho => ?_, fun d => Nat.le_trans (h.drawn d) (k.drawn d)⟩
  · rw [← h.block b hb ho]
    refine k.block b (Nat.lt_of_lt_of_le hb h.size) fun r c hc => ?_
    rcases h.fresh r b c hc with ⟨r', c', h'⟩ | h'
    · exact ho r' c' h'
    · omega
  · rcases k.fresh r b c hc with ⟨r', c', h'⟩ | h'
    · exact h.fresh r' b c' h'
    · exact .inr (Nat.le_trans h.size h')
  · obtain ⟨v1, a1, a2, a3⟩ := k.rows r e sz vals' (by omega) hv
    obtain ⟨v2, b1, b2, b3⟩ := h.rows r e sz v1 hr a1
    exact ⟨v2, b1, by omega, fun hh => by rw [a3 (by omega), b3 (by omega)]⟩
  · obtain ⟨o1, a1, a2⟩ := k.objs r o' (by omega) ho
    obtain ⟨o2, b1, b2⟩ := h.objs r o1 hr a1
    exact ⟨o2, b1, a2.trans b2⟩

theorem Later.keep {n : Nat} {C C' : Ctx} (h : Later n C C') (b : Nat) (hb : C.pureBlk b) : C'.w.heap[b]? = C.w.heap[b]? ∧ C'.pureBlk b := by
  obtain ⟨h1, h2, h3⟩ := hb
  refine ⟨h.block b h1 h3, Nat.lt_of_lt_of_le h1 h.size, by rw [h.om]; exact h2, fun r c hc => ?_⟩
  rcases h.fresh r b c hc with ⟨r', c', h'⟩ | h'
  · exact h3 r' c' h'
  · omega

theorem Later.ext {C C' : Ctx} (h : Later C.rows.length C C') : Ext C C' := ⟨h.pm, h.keep, h.len, h.rows, h.objs⟩

end Go.Abs
end

section
/- Laws on representations: lists of values, cells and elements in memory. -/
namespace Go.Abs

theorem RepL.length {C : Ctx} : ∀ {as : List AVal} {vs : List Value}, RepL C as vs → vs.length = as.length
  | [], vs, h => by rw [RepL] at h; simp [h]
  | a :: as, vs, h => by
    rw [RepL] at h
    obtain ⟨v, rest, rfl, _, h2⟩ := h
    simp [RepL.length h2]

theorem RepL.get {C : Ctx} : ∀ {as : List AVal} {vs : List Value} (i : Nat), RepL C as vs → i < as.length → ∃ v, vs[i]? = some v ∧ Rep C (as.getD i .junk) v
  | [], _, i, _, hi => by simp at hi
  | a :: as, vs, i, h, hi => by
    rw [RepL] at h
    obtain ⟨v, rest, rfl, h1, h2⟩ := h
    cases i with
    | zero => exact ⟨v, rfl, h1⟩
    | succ i => simpa using RepL.get i h2 (by simpa using hi)

theorem RepL.append {C : Ctx} : ∀ {as bs : List AVal} {vs ws : List Value}, RepL C as vs → RepL C bs ws → RepL C (as ++ bs) (vs ++ ws)
  | [], bs, vs, ws, h, k => by rw [RepL] at h; subst h; exact k
  | a :: as, bs, vs, ws, h, k => by
    rw [RepL] at h
    obtain ⟨v, rest, rfl, h1, h2⟩ := h
    show RepL C (a :: (as ++ bs)) (v :: (rest ++ ws))
    rw [RepL]
    exact ⟨v, _, rfl, h1, RepL.append h2 k⟩

theorem RepL.take {C : Ctx} : ∀ {as : List AVal} {vs : List Value} (n : Nat), RepL C as vs → RepL C (as.take n) (vs.take n)
  | as, vs, 0, _ => by simp [RepL]
  | [], vs, n + 1, h => by rw [RepL] at h; subst h; simp [RepL]
  | a :: as, vs, n + 1, h => by
    rw [RepL] at h
    obtain ⟨v, rest, rfl, h1, h2⟩ := h
    show RepL C (a :: as.take n) (v :: rest.take n)
    rw [RepL]
    exact ⟨v, _, rfl, h1, RepL.take n h2⟩

theorem RepL.drop {C : Ctx} : ∀ {as : List AVal} {vs : List Value} (n : Nat), RepL C as vs → RepL C (as.drop n) (vs.drop n)
  | as, vs, 0, h => by simpa using h
  | [], vs, n + 1, h => by rw [RepL] at h; subst h; simp [RepL]
  | a :: as, vs, n + 1, h => by
    rw [RepL] at h
    obtain ⟨v, rest, rfl, h1, h2⟩ := h
    simpa using RepL.drop n h2

/-- values in memory -/
def CellsAt (w : World) (b o : Nat) (vs : List Value) : Prop := ∀ (j : Nat) (u : Value), vs[j]? = some u → w.cell? ⟨b, o + j, none⟩ = some u

def allOne (vs : List Value) : Prop := ∀ v ∈ vs, v.oneCell' = true

theorem RepC_iff {C : Ctx} {b : Nat} : ∀ {o : Nat} {cells : List AVal}, RepC C b o cells ↔ ∃ vs, RepL C cells vs ∧ CellsAt C.w b o vs ∧ allOne vs
  | o, [] => by
    simp only [RepC, RepL, true_iff]
    exact ⟨[], rfl, fun j u h => by simp at h, fun v h => by simp at h⟩
  | o, c :: cs => by
    rw [RepC, RepC_iff]
    constructor
    · rintro ⟨⟨v, h1, h2, h3⟩, vs, k1, k2, k3⟩
      refine ⟨v :: vs, by rw [RepL]; exact ⟨v, vs, rfl, h3, k1⟩, fun j u hj => ?_, fun u hu => ?_⟩
      · cases j with
        | zero => simp at hj; subst hj; exact h1
        | succ j => have := k2 j u (by simpa using hj); rw [show o + (j + 1) = o + 1 + j from by omega]; exact this
      · rcases List.mem_cons.1 hu with rfl | hu
        · exact h2
        · exact k3 u hu
    · rintro ⟨vs, k1, k2, k3⟩
      rw [RepL] at k1
      obtain ⟨v, rest, rfl, h1, h2⟩ := k1
      refine ⟨⟨v, by simpa using k2 0 v rfl, k3 v (by simp), h1⟩, rest, h2, fun j u hj => ?_, fun u hu => k3 u (by simp [hu])⟩
      have := k2 (j + 1) u (by simpa using hj)
      rw [show o + 1 + j = o + (j + 1) from by omega]; exact this

theorem RepC.drop {C : Ctx} {b o : Nat} {cells : List AVal} (n : Nat) (h : RepC C b o cells) : RepC C b (o + n) (cells.drop n) := by
  obtain ⟨vs, h1, h2, h3⟩ := RepC_iff.1 h
  refine RepC_iff.2 ⟨vs.drop n, h1.drop n, fun j u hj => ?_, fun u hu => h3 u (List.mem_of_mem_drop hu)⟩
  rw [List.getElem?_drop] at hj
  rw [Nat.add_assoc]
  exact h2 _ _ hj

theorem RepC.take {C : Ctx} {b o : Nat} {cells : List AVal} (n : Nat) (h : RepC C b o cells) : RepC C b o (cells.take n) := by
  obtain ⟨vs, h1, h2, h3⟩ := RepC_iff.1 h
  refine RepC_iff.2 ⟨vs.take n, h1.take n, fun j u hj => ?_, fun u hu => h3 u (List.mem_of_mem_take hu)⟩
  rw [List.getElem?_take] at hj
  split at hj
  · exact h2 _ _ hj
  · cases hj

theorem RepC.append {C : Ctx} {b o : Nat} {xs ys : List AVal} (h : RepC C b o xs) (k : RepC C b (o + xs.length) ys) : RepC C b o (xs ++ ys) := by
  obtain ⟨vs, h1, h2, h3⟩ := RepC_iff.1 h
  obtain ⟨ws, k1, k2, k3⟩ := RepC_iff.1 k
  refine RepC_iff.2 ⟨vs ++ ws, h1.append k1, fun j u hj => ?_, fun u hu => ?_⟩
  · rw [List.getElem?_append] at hj
    split at hj
    · exact h2 _ _ hj
    · have := k2 _ _ hj
      rw [h1.length] at this
      rename_i hlt
      rw [h1.length] at hlt
      rw [show o + j = o + xs.length + (j - xs.length) from by omega]
      exact this
  · rcases List.mem_append.1 hu with hu | hu
    · exact h3 u hu
    · exact k3 u hu

theorem RepE_iff {C : Ctx} {b sz : Nat} : ∀ {o : Nat} {es : List (List AVal)}, RepE C b o sz es ↔ (∀ e ∈ es, e.length = sz) ∧ RepC C b o es.flatten
  | o, [] => by simp [RepE, RepC]
  | o, e :: es => by
    rw [RepE, RepE_iff]
    constructor
    · rintro ⟨h1, h2, h3, h4⟩
      refine ⟨fun x hx => ?_, ?_⟩
      · rcases List.mem_cons.1 hx with rfl | hx
        · exact h1
        · exact h3 x hx
      · rw [List.flatten_cons]; exact h2.append (by rw [h1]; exact h4)
    · rintro ⟨h1, h2⟩
      have he := h1 e (by simp)
      rw [List.flatten_cons] at h2
      refine ⟨he, ?_, fun x hx => h1 x (by simp [hx]), ?_⟩
      · simpa using h2.take e.length
      · simpa [he] using h2.drop e.length

theorem RepE.get {C : Ctx} {b sz : Nat} : ∀ {o : Nat} {es : List (List AVal)} (i : Nat), RepE C b o sz es → i < es.length → (es.getD i []).length = sz ∧ RepC C b (o + i * sz) (es.getD i [])
  | o, [], i, _, hi => by simp at hi
  | o, e :: es, i, h, hi => by
    rw [RepE] at h
    cases i with
    | zero => exact ⟨h.1, by simpa using h.2.1⟩
    | succ i =>
      have := RepE.get i h.2.2 (by simpa using hi)
      refine ⟨by simpa using this.1, ?_⟩
      rw [show o + (i + 1) * sz = o + sz + i * sz from by rw [Nat.add_mul]; omega]
      simpa using this.2

theorem RepE.drop {C : Ctx} {b sz : Nat} : ∀ {o : Nat} {es : List (List AVal)} (n : Nat), RepE C b o sz es → RepE C b (o + n * sz) sz (es.drop n)
  | o, es, 0, h => by simpa using h
  | o, [], n + 1, h => by simp [RepE]
  | o, e :: es, n + 1, h => by
    rw [RepE] at h
    have := RepE.drop n h.2.2
    rw [show o + (n + 1) * sz = o + sz + n * sz from by rw [Nat.add_mul]; omega]
    simpa using this

theorem RepE.take {C : Ctx} {b sz : Nat} : ∀ {o : Nat} {es : List (List AVal)} (n : Nat), RepE C b o sz es → RepE C b o sz (es.take n)
  | o, es, 0, h => by simp [RepE]
  | o, [], n + 1, h => by simp [RepE]
  | o, e :: es, n + 1, h => by
    rw [RepE] at h
    show RepE C b o sz (e :: es.take n)
    rw [RepE]
    exact ⟨h.1, h.2.1, RepE.take n h.2.2⟩

/-- cells that lie where they lay -/
theorem RepC.move {C C' : Ctx} {b o : Nat} {cells : List AVal} (h : Ext C C') (hw : ∀ j, j < cells.length → C'.w.cell? ⟨b, o + j, none⟩ = C.w.cell? ⟨b, o + j, none⟩) (r : RepC C b o cells) : RepC C' b o cells := by
  obtain ⟨vs, h1, h2, h3⟩ := RepC_iff.1 r
  refine RepC_iff.2 ⟨vs, RepL.ext h _ _ h1, fun j u hj => ?_, h3⟩
  have hl : j < cells.length := by
    rw [← h1.length]
    rcases Nat.lt_or_ge j vs.length with h | h
    · exact h
    · rw [List.getElem?_eq_none h] at hj; cases hj
  rw [hw j hl]
  exact h2 j u hj

theorem RepE.move {C C' : Ctx} {b o sz : Nat} {es : List (List AVal)} (h : Ext C C') (hw : C'.w.heap[b]? = C.w.heap[b]?) (r : RepE C b o sz es) : RepE C' b o sz es := by
  obtain ⟨h1, h2⟩ := RepE_iff.1 r
  exact RepE_iff.2 ⟨h1, h2.move h fun j _ => World.cell?_of_block (w := C.w) hw⟩

theorem flatten_length {sz : Nat} : ∀ {es : List (List AVal)}, (∀ e ∈ es, e.length = sz) → es.flatten.length = es.length * sz
  | [], _ => by simp
  | e :: es, h => by
    simp only [List.flatten_cons, List.length_append, List.length_cons]
    rw [flatten_length fun x hx => h x (by simp [hx]), h e (by simp), Nat.add_mul]
    omega

/-- a value of one cell -/
def one : AVal → Bool
  | .agg _ | .tup _ | .junk => false
  | _ => true

theorem one_rep {C : Ctx} {a : AVal} {v : Value} (h : Rep C a v) (h1 : one a = true) : v.oneCell' = true := by
  cases a <;> simp [one] at h1 <;> simp only [Rep] at h
  case int => subst h; rfl
  case bool => subst h; rfl
  case str => subst h; rfl
  case nils => obtain ⟨ao, rfl⟩ := h; rfl
  case nilp => subst h; rfl
  case pure => obtain ⟨ao, cap, rfl, _⟩ := h; rfl
  case pref => obtain ⟨b, o, rfl, _⟩ := h; rfl
  case own => obtain ⟨_, ⟨ao, c, rfl⟩, _⟩ := h; rfl
  case ref => obtain ⟨_, ⟨ao, rfl⟩, _⟩ := h; rfl
  case fn => obtain ⟨vs, rfl, _⟩ := h; rfl
  case mref => obtain ⟨_, ⟨b, rfl⟩, _⟩ := h; rfl
  case nilm => subst h; rfl
  case itref => obtain ⟨_, ⟨a, rfl⟩, _⟩ := h; rfl

theorem ones_rep {C : Ctx} : ∀ {as : List AVal} {vs : List Value}, RepL C as vs → as.all one = true → allOne vs
  | [], vs, h, _ => by rw [RepL] at h; subst h; intro v hv; simp at hv
  | a :: as, vs, h, h1 => by
    rw [RepL] at h
    obtain ⟨v, rest, rfl, k1, k2⟩ := h
    simp only [List.all_cons, Bool.and_eq_true] at h1
    intro u hu
    rcases List.mem_cons.1 hu with rfl | hu
    · exact one_rep k1 h1.1
    · exact ones_rep k2 h1.2 u hu

/-- the cells of a value, abstract and in the model -/
theorem cells_rep {C : Ctx} {a : AVal} {v : Value} (h : Rep C a v) (h1 : (acells a).all one = true) : RepL C (acells a) v.cells.toList ∧ allOne v.cells.toList := by
  have key : ∀ (v : Value), v.oneCell' = true → v.cells.toList = [v] := by
    intro v hv
    cases v <;> first | rfl | simp [Value.oneCell'] at hv
  by_cases ha : ∃ cs, a = .agg cs
  · obtain ⟨cs, rfl⟩ := ha
    rw [Rep] at h
    obtain ⟨vs, rfl, hr⟩ := h
    exact ⟨hr, ones_rep hr h1⟩
  · have hc : acells a = [a] := by
      cases a <;> first | rfl | (exfalso; exact ha ⟨_, rfl⟩)
    rw [hc] at h1 ⊢
    have h2 : one a = true := by simpa using h1
    have h3 := one_rep h h2
    rw [key v h3]
    refine ⟨?_, fun u hu => by simp at hu; subst hu; exact h3⟩
    rw [RepL]
    exact ⟨v, [], rfl, h, by rw [RepL]⟩

end Go.Abs
end

section
/- Contexts that change: a new row, a row whose elements change. -/
namespace Go.Abs
variable [Dr]

theorem RowOk.move {C C' : Ctx} {r : Nat} {row : Row} (h : Ext C C') (ho : C'.om = C.om) (hp : C'.phi[r]? = C.phi[r]?)
    (hw : ∀ b c, C.phi[r]? = some (some (b, c)) → C'.w.heap[b]? = C.w.heap[b]?) (k : RowOk C r row) : RowOk C' r row := by
  cases row with
  | dead => rw [RowOk] at k ⊢; rw [hp]; exact k
  | live e sz vals =>
    rw [RowOk] at k ⊢
    obtain ⟨p, h1, h2⟩ := k
    refine ⟨p, hp.trans h1, ?_⟩
    cases p with
    | none => exact h2
    | some q =>
      obtain ⟨b, cap⟩ := q
      obtain ⟨k1, cs, k2, k3, k4, k5, k6⟩ := h2
      have := hw b cap h1
      exact ⟨by rw [ho]; exact k1, cs, by rw [this]; exact k2, k3, k4, k5, k6.move h this⟩
  | obj o =>
    cases o with
    | map ag ks ents =>
      rw [RowOk] at k ⊢
      obtain ⟨b, c, es, h1, h2, h3, h4, h5, h6, h7⟩ := k
      exact ⟨b, c, es, hp.trans h1, by rw [ho]; exact h2, by rw [hw b c h1]; exact h3, h4, RepL.ext h _ _ h5, RepL.ext h _ _ h6, h7⟩
    | iter n seen =>
      rw [RowOk] at k ⊢
      obtain ⟨b, bm, h1, h2, h3⟩ := k
      exact ⟨b, bm, hp.trans h1, by rw [ho]; exact h2, by rw [hw b bm h1]; exact h3⟩

theorem Ok.lt {C : Ctx} (h : Ok C) {r b c : Nat} (hp : C.phi[r]? = some (some (b, c))) : b < C.w.heap.size := by
  have hr : r < C.rows.length := by
    rw [← h.plen]
    rcases Nat.lt_or_ge r C.phi.length with h | h
    · exact h
    · rw [List.getElem?_eq_none h] at hp; cases hp
  have := h.rows r _ (List.getElem?_eq_getElem hr)
  cases hrow : C.rows[r] with
  | dead => rw [hrow, RowOk, hp] at this; cases this
  | live e sz vals =>
    rw [hrow, RowOk, hp] at this
    obtain ⟨p, hp', h2⟩ := this
    cases hp'
    obtain ⟨_, cs, k2, _⟩ := h2
    exact (Array.getElem?_eq_some_iff.1 k2).1
  | obj o =>
    cases o with
    | map ag ks ents =>
      rw [hrow, RowOk, hp] at this
      obtain ⟨b', c', es, h1, _, h3, _⟩ := this
      simp at h1
      obtain ⟨rfl, rfl⟩ := h1
      exact (Array.getElem?_eq_some_iff.1 h3).1
    | iter n seen =>
      rw [hrow, RowOk, hp] at this
      obtain ⟨b', c', h1, _, h3⟩ := this
      simp at h1
      obtain ⟨rfl, rfl⟩ := h1
      exact (Array.getElem?_eq_some_iff.1 h3).1

/-- the facts on a live row with a block -/
theorem Ok.live {C : Ctx} (h : Ok C) {r : Nat} {e : TypeId} {sz : Nat} {vals : List (List AVal)} (hr : C.rows[r]? = some (.live e sz vals)) :
    (C.phi[r]? = some none ∧ vals = []) ∨ ∃ b cap cs, C.phi[r]? = some (some (b, cap)) ∧ ¬ C.om b ∧ C.w.heap[b]? = some (.cells cs e (0, 0)) ∧ cs.size = cap * sz ∧ cap ≤ maxLen ∧ vals.length ≤ cap ∧ RepE C b 0 sz vals := by
  have := h.rows r _ hr
  rw [RowOk] at this
  obtain ⟨p, h1, h2⟩ := this
  cases p with
  | none => exact .inl ⟨h1, h2⟩
  | some q =>
    obtain ⟨b, cap⟩ := q
    obtain ⟨k1, cs, k2⟩ := h2
    exact .inr ⟨b, cap, cs, h1, k1, k2⟩

/-- what a list of the model's cells says of elements -/
structure Elems (C : Ctx) (sz : Nat) (vals : List (List AVal)) (vs : List Value) : Prop where
  szs : ∀ e ∈ vals, e.length = sz
  rep : RepL C vals.flatten vs
  one : allOne vs

theorem Elems.length {C : Ctx} {sz : Nat} {vals : List (List AVal)} {vs : List Value} (h : Elems C sz vals vs) : vs.length = vals.length * sz := by
  rw [h.rep.length, flatten_length h.szs]

theorem Elems.ext {C C' : Ctx} {sz : Nat} {vals : List (List AVal)} {vs : List Value} (h : Elems C sz vals vs) (k : Ext C C') : Elems C' sz vals vs :=
  ⟨h.szs, RepL.ext k _ _ h.rep, h.one⟩

theorem Elems.repE {C : Ctx} {sz b o : Nat} {vals : List (List AVal)} {vs : List Value} (h : Elems C sz vals vs) (hc : CellsAt C.w b o vs) : RepE C b o sz vals :=
  RepE_iff.2 ⟨h.szs, RepC_iff.2 ⟨vs, h.rep, hc, h.one⟩⟩

theorem RepE.elems {C : Ctx} {sz b o : Nat} {vals : List (List AVal)} (h : RepE C b o sz vals) : ∃ vs, Elems C sz vals vs ∧ CellsAt C.w b o vs := by
  obtain ⟨h1, h2⟩ := RepE_iff.1 h
  obtain ⟨vs, k1, k2, k3⟩ := RepC_iff.1 h2
  exact ⟨vs, ⟨h1, k1, k3⟩, k2⟩

theorem Elems.nil (C : Ctx) (sz : Nat) : Elems C sz [] [] := ⟨by simp, by simp [RepL], by intro v hv; simp at hv⟩

theorem Elems.append {C : Ctx} {sz : Nat} {xs ys : List (List AVal)} {vs ws : List Value} (h : Elems C sz xs vs) (k : Elems C sz ys ws) : Elems C sz (xs ++ ys) (vs ++ ws) := by
  refine ⟨fun e he => ?_, by rw [List.flatten_append]; exact h.rep.append k.rep, fun v hv => ?_⟩
  · rcases List.mem_append.1 he with he | he
    · exact h.szs e he
    · exact k.szs e he
  · rcases List.mem_append.1 hv with hv | hv
    · exact h.one v hv
    · exact k.one v hv

theorem cellsAt_row {w : World} {b : Nat} {cs : Array Value} {e : TypeId} {vs : List Value} (hg : w.heap[b]? = some (.cells cs e (0, 0))) (h : cs.toList.take vs.length = vs) : CellsAt w b 0 vs := by
  intro j u hj
  rw [Nat.zero_add, cell_of_row w b j cs e (0, 0) hg]
  rw [← h, List.getElem?_take] at hj
  split at hj
  · simpa using hj
  · cases hj

theorem take_of_cellsAt {w : World} {b : Nat} {cs : Array Value} {e : TypeId} {vs : List Value} (hg : w.heap[b]? = some (.cells cs e (0, 0))) (h : CellsAt w b 0 vs) : cs.toList.take vs.length = vs := by
  refine List.ext_getElem? fun j => ?_
  rw [List.getElem?_take]
  split
  · rename_i hj
    obtain ⟨u, hu⟩ : ∃ u, vs[j]? = some u := ⟨_, List.getElem?_eq_getElem hj⟩
    have := h j u hu
    rw [Nat.zero_add, cell_of_row w b j cs e (0, 0) hg] at this
    rw [hu]
    simpa using this
  · rename_i hj
    rw [List.getElem?_eq_none (by omega)]

/-- a new row in new memory -/
theorem push_row {C : Ctx} (h : Ok C) (e : TypeId) (sz cap : Nat) (cs : Array Value) (vals : List (List AVal)) (vs : List Value) (w' : World)
    (hw : w'.os = C.w.os ∧ w'.tape = C.w.tape ∧ w'.output = C.w.output ∧ w'.heap = C.w.heap.push (.cells cs e (0, 0)))
    (hs : cs.size = cap * sz) (hm : cap ≤ maxLen) (hv : vals.length ≤ cap) (he : Elems C sz vals vs) (ht : cs.toList.take vs.length = vs) (hd : C.w.drawn ≤ w'.drawn := by first | exact Nat.le_refl _ | exact Nat.le_succ _ | exact run_drawn (by assumption) | assumption) :
    Ok ⟨C.rows ++ [.live e sz vals], C.phi ++ [some (C.w.heap.size, cap)], C.om, w', C.pm⟩ ∧
    Later C.rows.length C ⟨C.rows ++ [.live e sz vals], C.phi ++ [some (C.w.heap.size, cap)], C.om, w', C.pm⟩ := by
  obtain ⟨w1, w2, w3, w4⟩ := hw
  have hold : ∀ b, b < C.w.heap.size → w'.heap[b]? = C.w.heap[b]? := fun b hb => by rw [w4, Array.getElem?_push, if_neg (by omega)]
  have hnew : w'.heap[C.w.heap.size]? = some (.cells cs e (0, 0)) := by rw [w4]; simp
  have later : Later C.rows.length C ⟨C.rows ++ [.live e sz vals], C.phi ++ [some (C.w.heap.size, cap)], C.om, w', C.pm⟩ := by
    refine ⟨w1, w2, w3, by simp [w4], fun b hb _ => hold b hb, fun r b c hr => ?_, rfl, rfl, by simp, fun r e' sz' vals' hr hv' => ?_, fun r o' hr hv' => ?_, fun _ => hd⟩
    · simp only [List.getElem?_append] at hr
      split at hr
      · exact .inl ⟨r, c, hr⟩
      · right
        rename_i hlt
        cases hk : r - C.phi.length with
        | zero => rw [hk] at hr; simp at hr; omega
        | succ k => rw [hk] at hr; simp at hr
    · simp only [List.getElem?_append, hr, if_true] at hv'
      refine ⟨vals', hv', Nat.le_refl _, fun _ => ?_⟩
      simp only [List.getElem?_append]
      rw [if_pos (by rw [h.plen]; exact hr)]
    · simp only [List.getElem?_append, hr, if_true] at hv'
      refine ⟨o', hv', ?_⟩
      simp only [List.getElem?_append]
      rw [if_pos (by rw [h.plen]; exact hr)]
  have hext := later.ext
  refine ⟨⟨h.pm, by simp [h.plen], fun r row hr => ?_, fun r r' b c c' h1 h2 => ?_, fun b hb => Nat.lt_of_lt_of_le (h.om b hb) later.size⟩, later⟩
  · simp only [List.getElem?_append] at hr
    split at hr
    · rename_i hlt
      refine RowOk.move hext rfl ?_ (fun b c hb => hold b (h.lt hb)) (h.rows r row hr)
      simp only [List.getElem?_append]
      rw [if_pos (by rw [h.plen]; exact hlt)]
    · rename_i hlt
      have hk : r = C.rows.length := by
        cases hk : r - C.rows.length with
        | zero => omega
        | succ k => rw [hk] at hr; simp at hr
      subst hk
      simp at hr
      subst hr
      rw [RowOk]
      refine ⟨some (C.w.heap.size, cap), ?_, fun ho => ?_, cs, hnew, hs, hm, hv, (he.ext hext).repE (cellsAt_row hnew ht)⟩
      · simp [h.plen.symm]
      · have := h.om _ ho; omega
  · simp only [List.getElem?_append] at h1 h2
    have last : ∀ {r : Nat} {b c : Nat}, ¬ r < C.phi.length → [some (C.w.heap.size, cap)][r - C.phi.length]? = some (some (b, c)) → r = C.phi.length ∧ b = C.w.heap.size := by
      intro r b c hr hh
      cases hk : r - C.phi.length with
      | zero => rw [hk] at hh; simp at hh; exact ⟨by omega, hh.1.symm⟩
      | succ k => rw [hk] at hh; simp at hh
    split at h1 <;> split at h2
    · exact h.inj r r' b c c' h1 h2
    · rename_i hr'
      obtain ⟨_, hb⟩ := last hr' h2
      have := h.lt h1; omega
    · rename_i hr _
      obtain ⟨_, hb⟩ := last hr h1
      have := h.lt h2; omega
    · rename_i hr hr'
      rw [(last hr h1).1, (last hr' h2).1]

/-- new memory that nobody looks at -/
theorem garbage {C : Ctx} (h : Ok C) (o : Obj) : Ok ⟨C.rows, C.phi, C.om, C.w.alloc o, C.pm⟩ ∧ Later C.rows.length C ⟨C.rows, C.phi, C.om, C.w.alloc o, C.pm⟩ := by
  have hold : ∀ b, b < C.w.heap.size → (C.w.alloc o).heap[b]? = C.w.heap[b]? := fun b hb => heap_alloc_old C.w o hb
  have later : Later C.rows.length C ⟨C.rows, C.phi, C.om, C.w.alloc o, C.pm⟩ :=
    ⟨rfl, rfl, rfl, by simp, fun b hb _ => hold b hb, fun r _ c h => .inl ⟨r, c, h⟩, rfl, rfl, Nat.le_refl _, fun _ _ _ vals _ h => ⟨vals, h, Nat.le_refl _, fun _ => rfl⟩, fun _ o _ h => ⟨o, h, rfl⟩, fun _ => Nat.le_refl _⟩
  refine ⟨⟨h.pm, h.plen, fun r row hr => ?_, h.inj, fun b hb => Nat.lt_of_lt_of_le (h.om b hb) later.size⟩, later⟩
  exact RowOk.move later.ext rfl rfl (fun b c hb => hold b (h.lt hb)) (h.rows r row hr)

/-- a new row without memory -/
theorem push_nil {C : Ctx} (h : Ok C) (e : TypeId) (sz : Nat) :
    Ok ⟨C.rows ++ [.live e sz []], C.phi ++ [none], C.om, C.w, C.pm⟩ ∧ Later C.rows.length C ⟨C.rows ++ [.live e sz []], C.phi ++ [none], C.om, C.w, C.pm⟩ := by
  have old : ∀ {r : Nat} {q : Nat × Nat}, (C.phi ++ [none])[r]? = some (some q) → C.phi[r]? = some (some q) := by
    intro r q hr
    simp only [List.getElem?_append] at hr
    split at hr
    · exact hr
    · cases hk : r - C.phi.length with
      | zero => rw [hk] at hr; simp at hr
      | succ k => rw [hk] at hr; simp at hr
  have later : Later C.rows.length C ⟨C.rows ++ [.live e sz []], C.phi ++ [none], C.om, C.w, C.pm⟩ := by
    refine ⟨rfl, rfl, rfl, Nat.le_refl _, fun b hb _ => rfl, fun r b c hr => .inl ⟨r, c, old hr⟩, rfl, rfl, by simp, fun r e' sz' vals' hr hv' => ?_, fun r o' hr hv' => ?_, fun _ => Nat.le_refl _⟩
    · simp only [List.getElem?_append, hr, if_true] at hv'
      refine ⟨vals', hv', Nat.le_refl _, fun _ => ?_⟩
      simp only [List.getElem?_append]
      rw [if_pos (by rw [h.plen]; exact hr)]
    · simp only [List.getElem?_append, hr, if_true] at hv'
      refine ⟨o', hv', ?_⟩
      simp only [List.getElem?_append]
      rw [if_pos (by rw [h.plen]; exact hr)]
  refine ⟨⟨h.pm, by simp [h.plen], fun r row hr => ?_, fun r r' b c c' h1 h2 => h.inj r r' b c c' (old h1) (old h2), h.om⟩, later⟩
  simp only [List.getElem?_append] at hr
  split at hr
  · rename_i hlt
    refine RowOk.move later.ext rfl ?_ (fun b c hb => rfl) (h.rows r row hr)
    simp only [List.getElem?_append]
    rw [if_pos (by rw [h.plen]; exact hlt)]
  · rename_i hlt
    have hk : r = C.rows.length := by
      cases hk : r - C.rows.length with
      | zero => omega
      | succ k => rw [hk] at hr; simp at hr
    subst hk
    simp at hr
    subst hr
    rw [RowOk]
    exact ⟨none, by simp [h.plen.symm], rfl⟩

/-- a row whose elements change, in its place or elsewhere -/
theorem set_row {C : Ctx} (h : Ok C) {r : Nat} {e : TypeId} {sz : Nat} {vals : List (List AVal)} (hr : C.rows[r]? = some (.live e sz vals))
    {p : Option (Nat × Nat)} (hp : C.phi[r]? = some p) (b' cap' : Nat) (cs' : Array Value) (vals' : List (List AVal)) (vs' : List Value) (w' : World)
    (hg : C.w.grownBy w' (p.map (·.1))) (hb : p.map (·.1) = some b' ∨ C.w.heap.size ≤ b') (hh : w'.heap[b']? = some (.cells cs' e (0, 0)))
    (hs : cs'.size = cap' * sz) (hm : cap' ≤ maxLen) (hv : vals'.length ≤ cap') (he : Elems C sz vals' vs') (ht : cs'.toList.take vs'.length = vs')
    (hmono : vals.length ≤ vals'.length) (hsame : vals.length = vals'.length → p = some (b', cap')) (hd : C.w.drawn ≤ w'.drawn := by first | exact Nat.le_refl _ | exact Nat.le_succ _ | exact run_drawn (by assumption) | assumption) :
    Ok ⟨C.rows.set r (.live e sz vals'), C.phi.set r (some (b', cap')), C.om, w', C.pm⟩ ∧
    Later C.rows.length C ⟨C.rows.set r (.live e sz vals'), C.phi.set r (some (b', cap')), C.om, w', C.pm⟩ := by
  have hrl : r < C.rows.length := (List.getElem?_eq_some_iff.1 hr).1
  have hrp : r < C.phi.length := by rw [h.plen]; exact hrl
  have pm : ∀ {b : Nat}, p.map (·.1) = some b → ∃ c, C.phi[r]? = some (some (b, c)) := by
    intro b hb
    cases p with
    | none => simp at hb
    | some q => obtain ⟨x, y⟩ := q; simp at hb; subst hb; exact ⟨y, hp⟩
  have phi' : ∀ {r' : Nat}, r' ≠ r → (C.phi.set r (some (b', cap')))[r']? = C.phi[r']? := fun hne => by rw [List.getElem?_set, if_neg (fun e => hne e.symm)]
  have phir : (C.phi.set r (some (b', cap')))[r]? = some (some (b', cap')) := by rw [List.getElem?_set, if_pos rfl, if_pos hrp]
  have later : Later C.rows.length C ⟨C.rows.set r (.live e sz vals'), C.phi.set r (some (b', cap')), C.om, w', C.pm⟩ := by
    refine ⟨hg.os, hg.tape, hg.output, hg.size, fun b hb' ho => hg.block b hb' fun heq => ?_, fun r' b c hr' => ?_, rfl, rfl, by simp, fun r' e' sz' vals2 hr' hv' => ?_, fun r' o' hr' hv' => ?_, fun _ => hd⟩
    · obtain ⟨c, hc⟩ := pm heq.symm
      exact ho r c hc
    · by_cases hne : r' = r
      · subst hne
        rw [phir] at hr'
        simp at hr'
        obtain ⟨rfl, rfl⟩ := hr'
        rcases hb with hb | hb
        · obtain ⟨c, hc⟩ := pm hb; exact .inl ⟨r', c, hc⟩
        · exact .inr hb
      · rw [phi' hne] at hr'; exact .inl ⟨r', c, hr'⟩
    · by_cases hne : r' = r
      · subst hne
        simp only [List.getElem?_set, if_true, hrl] at hv'
        simp at hv'
        obtain ⟨rfl, rfl, rfl⟩ := hv'
        exact ⟨vals, hr, hmono, fun heq => by rw [hp, hsame heq]; exact phir⟩
      · simp only [List.getElem?_set] at hv'
        rw [if_neg (fun e => hne e.symm)] at hv'
        exact ⟨vals2, hv', Nat.le_refl _, fun _ => phi' hne⟩
    · by_cases hne : r' = r
      · subst hne
        simp only [List.getElem?_set, if_true, hrl] at hv'
        simp at hv'
      · simp only [List.getElem?_set] at hv'
        rw [if_neg (fun e => hne e.symm)] at hv'
        exact ⟨o', hv', phi' hne⟩
  refine ⟨⟨h.pm, by simp [h.plen], fun r' row hr' => ?_, fun r1 r2 b c c' h1 h2 => ?_, fun b hb => Nat.lt_of_lt_of_le (h.om b hb) later.size⟩, later⟩
  · by_cases hne : r' = r
    · subst hne
      simp only [List.getElem?_set, if_true, hrl] at hr'
      simp at hr'
      subst hr'
      rw [RowOk]
      refine ⟨some (b', cap'), phir, fun ho => ?_, cs', hh, hs, hm, hv, (he.ext later.ext).repE (cellsAt_row hh ht)⟩
      rcases hb with hb | hb
      · obtain ⟨c, hc⟩ := pm hb
        rcases h.live hr with ⟨hl, _⟩ | ⟨b2, cap2, cs2, hl, k1, _⟩
        · rw [hc] at hl; simp at hl
        · rw [hc] at hl; simp at hl; obtain ⟨rfl, rfl⟩ := hl; exact k1 ho
      · have := h.om _ ho; omega
    · simp only [List.getElem?_set] at hr'
      rw [if_neg (fun e => hne e.symm)] at hr'
      refine RowOk.move later.ext rfl (phi' hne) (fun b c hb' => hg.block b (h.lt hb') fun heq => ?_) (h.rows r' row hr')
      obtain ⟨c', hc'⟩ := pm heq.symm
      exact hne (h.inj _ _ _ _ _ hb' hc')
  · have key : ∀ {r1 r2 b c c' : Nat}, r1 ≠ r → r2 = r → (C.phi.set r (some (b', cap')))[r1]? = some (some (b, c)) → (C.phi.set r (some (b', cap')))[r2]? = some (some (b, c')) → False := by
      intro r1 r2 b c c' hn he h1 h2
      subst he
      rw [phir] at h2
      rw [phi' hn] at h1
      simp at h2
      obtain ⟨rfl, rfl⟩ := h2
      rcases hb with hb | hb
      · obtain ⟨c2, hc2⟩ := pm hb
        exact hn (h.inj _ _ _ _ _ h1 hc2)
      · have := h.lt h1; omega
    by_cases e1 : r1 = r <;> by_cases e2 : r2 = r
    · rw [e1, e2]
    · exact (key e2 e1 h2 h1).elim
    · exact (key e1 e2 h1 h2).elim
    · refine h.inj r1 r2 b c c' ?_ ?_
      · simpa [phi' e1] using h1
      · simpa [phi' e2] using h2

/-- a new object in new memory -/
theorem push_obj {C : Ctx} (h : Ok C) (o : AObj) (ob : Obj) (c : Nat) (w' : World)
    (hw : w'.os = C.w.os ∧ w'.tape = C.w.tape ∧ w'.output = C.w.output ∧ w'.heap = C.w.heap.push ob)
    (hR : ∀ C' : Ctx, Ext C C' → C'.om = C.om → C'.w = w' → C'.phi[C.rows.length]? = some (some (C.w.heap.size, c)) → RowOk C' C.rows.length (.obj o)) (hd : C.w.drawn ≤ w'.drawn := by first | exact Nat.le_refl _ | exact Nat.le_succ _ | exact run_drawn (by assumption) | assumption) :
    Ok ⟨C.rows ++ [.obj o], C.phi ++ [some (C.w.heap.size, c)], C.om, w', C.pm⟩ ∧
    Later C.rows.length C ⟨C.rows ++ [.obj o], C.phi ++ [some (C.w.heap.size, c)], C.om, w', C.pm⟩ := by
  obtain ⟨w1, w2, w3, w4⟩ := hw
  have hold : ∀ b, b < C.w.heap.size → w'.heap[b]? = C.w.heap[b]? := fun b hb => by rw [w4, Array.getElem?_push, if_neg (by omega)]
  have later : Later C.rows.length C ⟨C.rows ++ [.obj o], C.phi ++ [some (C.w.heap.size, c)], C.om, w', C.pm⟩ := by
    refine ⟨w1, w2, w3, by simp [w4], fun b hb _ => hold b hb, fun r b c hr => ?_, rfl, rfl, by simp, fun r e' sz' vals' hr hv' => ?_, fun r o' hr hv' => ?_, fun _ => hd⟩
    · simp only [List.getElem?_append] at hr
      split at hr
      · exact .inl ⟨r, c, hr⟩
      · right
        rename_i hlt
        cases hk : r - C.phi.length with
        | zero => rw [hk] at hr; simp at hr; omega
        | succ k => rw [hk] at hr; simp at hr
    · simp only [List.getElem?_append, hr, if_true] at hv'
      refine ⟨vals', hv', Nat.le_refl _, fun _ => ?_⟩
      simp only [List.getElem?_append]
      rw [if_pos (by rw [h.plen]; exact hr)]
    · simp only [List.getElem?_append, hr, if_true] at hv'
      refine ⟨o', hv', ?_⟩
      simp only [List.getElem?_append]
      rw [if_pos (by rw [h.plen]; exact hr)]
  have hext := later.ext
  refine ⟨⟨h.pm, by simp [h.plen], fun r row hr => ?_, fun r r' b c1 c' h1 h2 => ?_, fun b hb => Nat.lt_of_lt_of_le (h.om b hb) later.size⟩, later⟩
  · simp only [List.getElem?_append] at hr
    split at hr
    · rename_i hlt
      refine RowOk.move hext rfl ?_ (fun b c hb => hold b (h.lt hb)) (h.rows r row hr)
      simp only [List.getElem?_append]
      rw [if_pos (by rw [h.plen]; exact hlt)]
    · rename_i hlt
      have hk : r = C.rows.length := by
        cases hk : r - C.rows.length with
        | zero => omega
        | succ k => rw [hk] at hr; simp at hr
      subst hk
      simp at hr
      subst hr
      exact hR _ hext rfl rfl (by simp [h.plen.symm])
  · simp only [List.getElem?_append] at h1 h2
    have last : ∀ {r : Nat} {b d : Nat}, ¬ r < C.phi.length → [some (C.w.heap.size, c)][r - C.phi.length]? = some (some (b, d)) → r = C.phi.length ∧ b = C.w.heap.size := by
      intro r b d hr hh
      cases hk : r - C.phi.length with
      | zero => rw [hk] at hh; simp at hh; exact ⟨by omega, hh.1.symm⟩
      | succ k => rw [hk] at hh; simp at hh
    split at h1 <;> split at h2
    · exact h.inj r r' b _ c' h1 h2
    · rename_i hr'
      obtain ⟨_, hb⟩ := last hr' h2
      have := h.lt h1; omega
    · rename_i hr _
      obtain ⟨_, hb⟩ := last hr h1
      have := h.lt h2; omega
    · rename_i hr hr'
      rw [(last hr h1).1, (last hr' h2).1]

/-- an object that changes in its place -/
theorem set_obj {C : Ctx} (h : Ok C) {r : Nat} {o : AObj} (hr : C.rows[r]? = some (.obj o)) {b c : Nat} (hp : C.phi[r]? = some (some (b, c))) (o' : AObj) (w' : World) (hg : C.w.grownBy w' (some b))
    (hR : ∀ C' : Ctx, Ext C C' → C'.om = C.om → C'.w = w' → C'.phi[r]? = some (some (b, c)) → RowOk C' r (.obj o')) (hd : C.w.drawn ≤ w'.drawn := by first | exact Nat.le_refl _ | exact Nat.le_succ _ | exact run_drawn (by assumption) | assumption) :
    Ok ⟨C.rows.set r (.obj o'), C.phi, C.om, w', C.pm⟩ ∧ Later C.rows.length C ⟨C.rows.set r (.obj o'), C.phi, C.om, w', C.pm⟩ := by
  have hrl : r < C.rows.length := (List.getElem?_eq_some_iff.1 hr).1
  have later : Later C.rows.length C ⟨C.rows.set r (.obj o'), C.phi, C.om, w', C.pm⟩ := by
    refine ⟨hg.os, hg.tape, hg.output, hg.size, fun b' hb' ho => hg.block b' hb' fun heq => ?_, fun r' b c hr' => .inl ⟨r', c, hr'⟩, rfl, rfl, by simp, fun r' e' sz' vals2 hr' hv' => ?_, fun r' o2 hr' hv' => ?_, fun _ => hd⟩
    · simp at heq
      subst heq
      exact ho r c hp
    · by_cases hne : r' = r
      · subst hne
        simp only [List.getElem?_set, if_true, hrl] at hv'
        simp at hv'
      · simp only [List.getElem?_set] at hv'
        rw [if_neg (fun e => hne e.symm)] at hv'
        exact ⟨vals2, hv', Nat.le_refl _, fun _ => rfl⟩
    · by_cases hne : r' = r
      · subst hne
        exact ⟨o, hr, rfl⟩
      · simp only [List.getElem?_set] at hv'
        rw [if_neg (fun e => hne e.symm)] at hv'
        exact ⟨o2, hv', rfl⟩
  refine ⟨⟨h.pm, by simp [h.plen], fun r' row hr' => ?_, h.inj, fun b hb => Nat.lt_of_lt_of_le (h.om b hb) later.size⟩, later⟩
  by_cases hne : r' = r
  · subst hne
    simp only [List.getElem?_set, if_true, hrl] at hr'
    simp at hr'
    subst hr'
    exact hR _ later.ext rfl rfl hp
  · simp only [List.getElem?_set] at hr'
    rw [if_neg (fun e => hne e.symm)] at hr'
    refine RowOk.move later.ext rfl rfl (fun b' c' hb' => hg.block b' (h.lt hb') fun heq => ?_) (h.rows r' row hr')
    simp at heq
    subst heq
    exact hne (h.inj _ _ _ _ _ hb' hp)

end Go.Abs
end

section
/- What the operations do to abstract values. -/
namespace Go.Abs

mutual
/-- no reference to an owned row -/
def clean : AVal → Bool
  | .own .. | .ref .. => false
  | .mref _ | .itref .. => false
  | .agg cs => cleanL cs
  | .tup cs => cleanL cs
  | .fn _ cs => cleanL cs
  | _ => true
def cleanL : List AVal → Bool
  | [] => true
  | c :: cs => clean c && cleanL cs
end

def cleanE : List (List AVal) → Bool
  | [] => true
  | e :: es => cleanL e && cleanE es

mutual
theorem Rep.toP {C : Ctx} : ∀ (a : AVal) (v : Value), clean a = true → Rep C a v → Rep C.p a v
  | .int .., _, _, r => by simpa [Rep] using r
  | .bool .., _, _, r => by simpa [Rep] using r
  | .str .., _, _, r => by simpa [Rep] using r
  | .nils, _, _, r => by simpa [Rep] using r
  | .nilp, _, _, r => by simpa [Rep] using r
  | .junk, _, _, _ => by simp [Rep]
  | .agg cs, v, h, r => by
    rw [clean] at h
    rw [Rep] at r ⊢
    obtain ⟨vs, rfl, hr⟩ := r
    exact ⟨vs, rfl, RepL.toP cs _ h hr⟩
  | .tup cs, v, h, r => by
    rw [clean] at h
    rw [Rep] at r ⊢
    obtain ⟨vs, rfl, hr⟩ := r
    exact ⟨vs, rfl, RepL.toP cs _ h hr⟩
  | .pure sz vals, v, _, r => by rw [Rep] at r ⊢; exact r
  | .own .., v, h, _ => by simp [clean] at h
  | .ref .., v, h, _ => by simp [clean] at h
  | .pref cells off, v, _, hr => by rw [Rep] at hr ⊢; exact hr
  | .fn f cs, v, h, r => by
    rw [clean] at h
    rw [Rep] at r ⊢
    obtain ⟨vs, rfl, hr⟩ := r
    exact ⟨vs, rfl, RepL.toP cs _ h hr⟩
  | .nilm, _, _, r => by simpa [Rep] using r
  | .mref _, v, h, _ => by simp [clean] at h
  | .itref .., v, h, _ => by simp [clean] at h
theorem RepL.toP {C : Ctx} : ∀ (as : List AVal) (vs : List Value), cleanL as = true → RepL C as vs → RepL C.p as vs
  | [], vs, _, r => by simpa [RepL] using r
  | a :: as, vs, h, r => by
    simp only [cleanL, Bool.and_eq_true] at h
    rw [RepL] at r ⊢
    obtain ⟨v, rest, rfl, h1, h2⟩ := r
    exact ⟨v, rest, rfl, Rep.toP a v h.1 h1, RepL.toP as rest h.2 h2⟩
end

theorem RepC.toP {C : Ctx} (b : Nat) : ∀ (o : Nat) (as : List AVal), cleanL as = true → RepC C b o as → RepC C.p b o as
  | o, [], _, _ => by simp [RepC]
  | o, a :: as, h, r => by
    simp only [cleanL, Bool.and_eq_true] at h
    rw [RepC] at r ⊢
    obtain ⟨⟨v, h1, h2, h3⟩, h4⟩ := r
    exact ⟨⟨v, h1, h2, Rep.toP a v h.1 h3⟩, RepC.toP b (o + 1) as h.2 h4⟩

theorem RepE.toP {C : Ctx} (b sz : Nat) : ∀ (o : Nat) (es : List (List AVal)), cleanE es = true → RepE C b o sz es → RepE C.p b o sz es
  | o, [], _, _ => by simp [RepE]
  | o, e :: es, h, r => by
    simp only [cleanE, Bool.and_eq_true] at h
    rw [RepE] at r ⊢
    exact ⟨r.1, RepC.toP b o e h.1 r.2.1, RepE.toP b sz (o + sz) es h.2 r.2.2⟩

/-- operations -/
inductive AOp where
  | mv
  | pick
  | alloc (e : TypeId) (zero : List AVal)
  | box (e : TypeId) (sz : Nat)
  /-- the zero cells, and of each part its offset and its size -/
  | build (zero : List AVal) (places : List (Nat × Nat))
  | bslice (e : TypeId) (sz : Nat) (zero : List AVal) (len : Nat) (idx : List Nat)
  | nilsl
  | mkslice (e : TypeId) (sz bytes : Nat) (zero : List AVal)
  | load1
  | loadA (sz : Nat)
  | store (sz : Nat)
  | nilchk
  | bin (op : BinOp)
  | eqA (neg : Bool) (ks : List CK)
  | eqB (neg : Bool)
  | not
  | neg
  | conv (k : IntKind)
  | fieldAddr (off : Nat)
  | field1 (off : Nat)
  | fieldA (off sz : Nat)
  | indexAddr (sz : Nat)
  | index
  | slice (lo hi : Bool) (sz : Nat)
  | sliceS (lo hi : Bool)
  | len
  | lenS
  | append (e : TypeId) (sz bytes : Nat)
  | extract (i : Nat)
  | minmax (max : Bool)
  /-- bytes as a string -/
  | b2s
  /-- a row that never changes from now on -/
  | frz
  | copy (sz : Nat)
  /-- the element of an array behind a pointer -/
  | indexArr (len sz : Nat)
  /-- the element of an array -/
  | arr1 (len : Nat)
  | arrA (len sz : Nat)
  | mkfn (f : FuncId)
  | mkmap (ag : Bool) (ks : List CK)
  | look (ok ag : Bool) (ks : List CK) (zero : AVal)
  | mset (ag : Bool) (ks : List CK)
  | ment (ag : Bool) (ks : List CK) (zero : AVal)
  | estore
  | lenM
  | iter
  | next
  | entry
  | cap
  /-- is a slice that has elements nil? -/
  | isnil (sz : Nat) (neg : Bool)
  /-- zero elements put behind nil -/
  | appendZ (e : TypeId) (sz bytes : Nat) (zero : List AVal)
  | clear (sz : Nat) (zero : List AVal)
  /-- a call of a function value: the first operand -/
  | callv
  | call (f : FuncId)
  deriving Inhabited

section
variable (rows : List Row)

/-- the elements of a slice -/
def elems? (rows : List Row) (sz : Nat) : AVal → Option (List (List AVal))
  | .pure sz' vals => if sz' = sz then some vals else none
  | .nils => some []
  | .own r n off len =>
    match rows[r]? with
    | some (.live _ sz' vals) => if sz' = sz ∧ n = vals.length ∧ off + len ≤ n then some ((vals.drop off).take len) else none
    | _ => none
  | _ => none

def bytesE : List (List AVal) → Option (List Int)
  | [] => some []
  | [.int .u8 n] :: es =>
    match bytesE es with
    | some ns => some (n :: ns)
    | none => none
  | _ :: _ => none

def strOf (ns : List Int) : ByteArray := ns.foldl (fun r n => r.push (UInt8.ofNat n.toNat)) ByteArray.empty

def evB2s (x : AVal) (K : AVal → Prop) : Prop :=
  match elems? rows 1 x with
  | none => False
  | some ys =>
    match bytesE ys with
    | some ns => K (.str (strOf ns))
    | none => False

def evFrz (x : AVal) (K : AVal → List Row → Prop) : Prop :=
  match x with
  | .own r n off len =>
    match rows[r]? with
    | some (.live _ sz vals) => n = vals.length ∧ off = 0 ∧ len = n ∧ 0 < n ∧ cleanE vals = true ∧ K (.pure sz vals) (rows.set r .dead)
    | _ => False
  | _ => False

/-- the length of a slice -/
def len? : AVal → Option Nat
  | .pure _ vals => some vals.length
  | .nils => some 0
  | .own _ _ _ len => some len
  | _ => none

def evBin (op : BinOp) (x y : AVal) (K : AVal → Prop) : Prop :=
  match x, y with
  | .int k a, .int k' b =>
    match op with
    | .shl => 0 ≤ b ∧ K (.int k (k.wrap (a * 2 ^ (min b.toNat k.bits))))
    | .shr => 0 ≤ b ∧ K (.int k (a.fdiv (2 ^ (min b.toNat k.bits))))
    | .add => k = k' ∧ K (.int k (k.wrap (a + b)))
    | .sub => k = k' ∧ K (.int k (k.wrap (a - b)))
    | .mul => k = k' ∧ K (.int k (k.wrap (a * b)))
    | .quo => k = k' ∧ b ≠ 0 ∧ K (.int k (k.wrap (a.tdiv b)))
    | .rem => k = k' ∧ b ≠ 0 ∧ K (.int k (a.tmod b))
    | .and => k = k' ∧ K (.int k (k.wrap (BitVec.ofInt k.bits a &&& BitVec.ofInt k.bits b).toNat))
    | .or => k = k' ∧ K (.int k (k.wrap (BitVec.ofInt k.bits a ||| BitVec.ofInt k.bits b).toNat))
    | .xor => k = k' ∧ K (.int k (k.wrap (BitVec.ofInt k.bits a ^^^ BitVec.ofInt k.bits b).toNat))
    | .eql => k = k' ∧ K (.bool (a == b))
    | .neq => k = k' ∧ K (.bool (a != b))
    | .lss => k = k' ∧ K (.bool (a < b))
    | .leq => k = k' ∧ K (.bool (a ≤ b))
    | .gtr => k = k' ∧ K (.bool (a > b))
    | .geq => k = k' ∧ K (.bool (a ≥ b))
    | _ => False
  | .str a, .str b =>
    match op with
    | .eql => K (.bool (a.toList == b.toList))
    | .neq => K (.bool !(a.toList == b.toList))
    | .lss => K (.bool (Op.bytesLess a.toList b.toList))
    | .leq => K (.bool (Op.bytesLess a.toList b.toList || a.toList == b.toList))
    | .gtr => K (.bool !(Op.bytesLess a.toList b.toList || a.toList == b.toList))
    | .geq => K (.bool !(Op.bytesLess a.toList b.toList))
    | .add => ((a.size + b.size : Nat) : Int) ≤ IntKind.i64.max ∧ K (.str (a ++ b))
    | _ => False
  | _, _ => False

/-- equality of two lists of cells -/
def eqCells : List AVal → List AVal → Bool
  | .int _ a :: cs, .int _ b :: ds => a == b && eqCells cs ds
  | .bool a :: cs, .bool b :: ds => a == b && eqCells cs ds
  | .str a :: cs, .str b :: ds => a.toList == b.toList && eqCells cs ds
  | _, _ => true

/-- put parts into cells -/
def splice (l : List AVal) (off : Nat) (cs : List AVal) : List AVal := l.take off ++ cs ++ l.drop (off + cs.length)

def fillC : List AVal → List (Nat × Nat) → List AVal → Option (List AVal)
  | cells, (off, sz) :: ps, v :: vs => if (acells v).length = sz ∧ off + sz ≤ cells.length then fillC (splice cells off (acells v)) ps vs else none
  | cells, [], [] => some cells
  | _, _, _ => none

def fillE : List (List AVal) → Nat → List Nat → List AVal → Option (List (List AVal))
  | es, sz, i :: is, v :: vs => if (acells v).length = sz ∧ i < es.length then fillE (es.set i (acells v)) sz is vs else none
  | es, _, [], [] => some es
  | _, _, _, _ => none

def evLoad1 (x : AVal) (K : AVal → Prop) : Prop :=
  match x with
  | .ref r n i off =>
    match rows[r]? with
    | some (.live _ sz vals) => n = vals.length ∧ off < sz ∧ K ((vals.getD i []).getD off .junk)
    | _ => False
  | .pref cells off => off < cells.length ∧ K (cells.getD off .junk)
  | _ => False

def evLoadA (m : Nat) (x : AVal) (K : AVal → Prop) : Prop :=
  match x with
  | .ref r n i off =>
    match rows[r]? with
    | some (.live _ sz vals) => n = vals.length ∧ off + m ≤ sz ∧ K (.agg (((vals.getD i []).drop off).take m))
    | _ => False
  | .pref cells off => off + m ≤ cells.length ∧ K (.agg ((cells.drop off).take m))
  | _ => False

def evStore (m : Nat) (x y : AVal) (K : List Row → Prop) : Prop :=
  match x with
  | .ref r n i off =>
    match rows[r]? with
    | some (.live e sz vals) => n = vals.length ∧ off + m ≤ sz ∧ (acells y).length = m ∧ (acells y).all one = true ∧
        K (rows.set r (.live e sz (vals.set i (splice (vals.getD i []) off (acells y)))))
    | _ => False
  | _ => False

def evFieldAddr (d : Nat) (x : AVal) (K : AVal → Prop) : Prop :=
  match x with
  | .ref r n i off => K (.ref r n i (off + d))
  | .pref cells off => K (.pref cells (off + d))
  | _ => False

def evIndexAddr (sz : Nat) (x y : AVal) (K : AVal → Prop) : Prop :=
  match x, y with
  | .pure sz' vals, .int _ i => sz' = sz ∧ 0 ≤ i ∧ i < vals.length ∧ K (.pref (vals.getD i.toNat []) 0)
  | .own r n off len, .int _ i =>
    match rows[r]? with
    | some (.live _ sz' vals) => sz' = sz ∧ n = vals.length ∧ 0 ≤ i ∧ i < len ∧ K (.ref r n (off + i.toNat) 0)
    | _ => False
  | _, _ => False

def evSlice (lo hi : Option AVal) (sz : Nat) (x : AVal) (K : AVal → Prop) : Prop :=
  match len? x with
  | none => False
  | some l =>
    match lo.getD (.int .i64 0), hi.getD (.int .i64 l) with
    | .int _ a, .int _ b => 0 ≤ a ∧ a ≤ b ∧ b ≤ l ∧
      match x with
      | .pure sz' vals => sz' = sz ∧ K (.pure sz' ((vals.drop a.toNat).take (b.toNat - a.toNat)))
      | .nils => K .nils
      | .own r n off _ =>
        match rows[r]? with
        | some (.live _ sz' vals) => sz' = sz ∧ n = vals.length ∧ K (.own r n (off + a.toNat) (b.toNat - a.toNat))
        | _ => False
      | _ => False
    | _, _ => False

def evSliceS (lo hi : Option AVal) (x : AVal) (K : AVal → Prop) : Prop :=
  match x with
  | .str s =>
    match lo.getD (.int .i64 0), hi.getD (.int .i64 s.size) with
    | .int _ a, .int _ b => 0 ≤ a ∧ a ≤ b ∧ b ≤ s.size ∧ K (.str (s.extract a.toNat b.toNat))
    | _, _ => False
  | _ => False

def evAppend (e : TypeId) (sz bytes : Nat) (x y : AVal) (K : AVal → List Row → Prop) : Prop :=
  match elems? rows sz y with
  | none => False
  | some ys =>
    match x with
    | .nils => ys.length * bytes ≤ 140737488355328 ∧ K (.own rows.length ys.length 0 ys.length) (rows ++ [.live e sz ys])
    | .own r n off len =>
      match rows[r]? with
      | some (.live e' sz' vals) => e' = e ∧ sz' = sz ∧ n = vals.length ∧ off = 0 ∧ len = n ∧ (n + ys.length) * bytes ≤ 140737488355328 ∧
          K (.own r (n + ys.length) 0 (n + ys.length)) (rows.set r (.live e sz (vals ++ ys)))
      | _ => False
    | _ => False

/-- keys of these kinds -/
def entsFit (ag : Bool) (ks : List CK) (ents : List (AVal × AVal)) : Prop := ∀ p ∈ ents, keyFits ag ks p.1
/-- the entries of a map -/
def ments (rows : List Row) (ag : Bool) (ks : List CK) : AVal → Option (List (AVal × AVal))
  | .mref r =>
    match rows[r]? with
    | some (.obj (.map ag' ks' ents)) => if ag' = ag ∧ ks' = ks then some ents else none
    | _ => none
  | .nilm => some []
  | _ => none

/-- is this the key? -/
def isKey (k k' : AVal) : Bool := eqCells (acells k) (acells k')

/-- where a key is -/
def kpos (k : AVal) : List (AVal × AVal) → Option Nat
  | [] => none
  | p :: ps => if isKey k p.1 then some 0 else (kpos k ps).map (· + 1)

/-- what a key has -/
def kfind (k : AVal) : List (AVal × AVal) → Option AVal
  | [] => none
  | p :: ps => if isKey k p.1 then some p.2 else kfind k ps

def kput (k v : AVal) : List (AVal × AVal) → List (AVal × AVal)
  | [] => [(k, v)]
  | p :: ps => if isKey k p.1 then (k, v) :: ps else p :: kput k v ps

def evLook (ok ag : Bool) (ks : List CK) (zero x k : AVal) (K : AVal → Prop) : Prop :=
  match ments rows ag ks x with
  | none => False
  | some ents => keyFits ag ks k ∧ K (if ok then .tup [(kfind k ents).getD zero, .bool (kfind k ents).isSome] else (kfind k ents).getD zero)

def evMset (ag : Bool) (ks : List CK) (x k v : AVal) (K : List Row → Prop) : Prop :=
  match x with
  | .mref r =>
    match rows[r]? with
    | some (.obj (.map ag' ks' ents)) => (ag' = ag ∧ ks' = ks) ∧ keyFits ag ks k ∧ K (rows.set r (.obj (.map ag ks (kput k v ents))))
    | _ => False
  | _ => False

def evMent (ag : Bool) (ks : List CK) (zero x k : AVal) (K : AVal → List Row → Prop) : Prop :=
  match x with
  | .mref r =>
    match rows[r]? with
    | some (.obj (.map ag' ks' ents)) => (ag' = ag ∧ ks' = ks) ∧ (keyFits ag ks k ∧ entsFit ag ks ents) ∧
        K (.tup [(kfind k ents).getD zero, .int .i64 ((kpos k ents).getD ents.length)]) (rows.set r (.obj (.map ag ks (kput k ((kfind k ents).getD zero) ents))))
    | _ => False
  | _ => False

def evEstore (x i v : AVal) (K : List Row → Prop) : Prop :=
  match x, i with
  | .mref r, .int _ n =>
    match rows[r]? with
    | some (.obj (.map ag ks ents)) => 0 ≤ n ∧ n < ents.length ∧ K (rows.set r (.obj (.map ag ks (ents.set n.toNat ((ents.getD n.toNat (.junk, .junk)).1, v)))))
    | _ => False
  | _, _ => False

def evIter (x : AVal) (K : AVal → List Row → Prop) : Prop :=
  match x with
  | .mref m =>
    match rows[m]? with
    | some (.obj (.map _ _ ents)) => K (.itref rows.length m) (rows ++ [.obj (.iter ents.length [])])
    | _ => False
  | _ => False

/-- the next entry of a map: whichever was not yet seen -/
def evNext (x : AVal) (K : AVal → List Row → Prop) : Prop :=
  match x with
  | .itref r m =>
    match rows[r]?, rows[m]? with
    | some (.obj (.iter n seen)), some (.obj (.map _ _ ents)) => n = ents.length ∧ r ≠ m ∧ ((∀ i, i < n → i ∈ seen) → K (.tup [.bool false]) rows) ∧
        ∀ i, i < n → i ∉ seen → K (.tup [.bool true, (ents.getD i (.junk, .junk)).1, (ents.getD i (.junk, .junk)).2]) (rows.set r (.obj (.iter n (seen ++ [i]))))
    | _, _ => False
  | _ => False

/-- the entry that the last step gave -/
def evEntry (x : AVal) (K : AVal → Prop) : Prop :=
  match x with
  | .itref r m =>
    match rows[r]?, rows[m]? with
    | some (.obj (.iter n seen)), some (.obj (.map _ _ ents)) => n = ents.length ∧ 0 < seen.length ∧ seen.getLastD 0 < n ∧
        K (.tup [(ents.getD (seen.getLastD 0) (.junk, .junk)).1, (ents.getD (seen.getLastD 0) (.junk, .junk)).2])
    | _, _ => False
  | _ => False

/-- elements put over others, from 'off' on -/
def over (vals : List (List AVal)) (off : Nat) (ys : List (List AVal)) : List (List AVal) := vals.take off ++ ys ++ vals.drop (off + ys.length)

def evCopy (sz : Nat) (x y : AVal) (K : AVal → List Row → Prop) : Prop :=
  match elems? rows sz y with
  | none => False
  | some ys =>
    match x with
    | .own r n off len =>
      match rows[r]? with
      | some (.live e sz' vals) => sz' = sz ∧ n = vals.length ∧ off + len ≤ n ∧
          K (.int .i64 ((min ys.length len : Nat) : Int)) (rows.set r (.live e sz (over vals off (ys.take (min ys.length len)))))
      | _ => False
    | _ => False

/-- elements that become zero -/
def evClear (sz : Nat) (zero : List AVal) (x : AVal) (K : List Row → Prop) : Prop :=
  match x with
  | .own r n off len =>
    match rows[r]? with
    | some (.live e sz' vals) => sz' = sz ∧ n = vals.length ∧ off + len ≤ n ∧ K (rows.set r (.live e sz (over vals off (List.replicate len zero))))
    | _ => False
  | _ => False

def evIndexArr (len sz : Nat) (x y : AVal) (K : AVal → Prop) : Prop :=
  match x, y with
  | .ref r n i off, .int _ j => 0 ≤ j ∧ j < len ∧ K (.ref r n i (off + j.toNat * sz))
  | .pref cells off, .int _ j => 0 ≤ j ∧ j < len ∧ K (.pref cells (off + j.toNat * sz))
  | _, _ => False

/-- a slice that has elements is not nil -/
def evIsnil (sz : Nat) (neg : Bool) (x : AVal) (K : AVal → Prop) : Prop :=
  match elems? rows sz x with
  | some ys => 0 < ys.length ∧ K (.bool neg)
  | none => False

end

/-- what an operation other than a call does -/
def ev (op : AOp) (args : List AVal) (rows : List Row) (K : AVal → List Row → Prop) : Prop :=
  match op, args with
  | .mv, [x] => K x rows
  | .pick, [.bool c, a, b] => K (if c then a else b) rows
  | .alloc e zero, [] => K (.ref rows.length 1 0 0) (rows ++ [.live e zero.length [zero]])
  | .box e sz, [x] => (acells x).length = sz ∧ (acells x).all one = true ∧ K (.ref rows.length 1 0 0) (rows ++ [.live e sz [acells x]])
  | .build zero ps, vs =>
    match fillC zero ps vs with
    | some cs => (vs.all fun v => (acells v).all one) = true ∧ K (.agg cs) rows
    | none => False
  | .bslice e sz zero len idx, vs =>
    match fillE (List.replicate len zero) sz idx vs with
    | some es => (vs.all fun v => (acells v).all one) = true ∧ K (.own rows.length len 0 len) (rows ++ [.live e sz es])
    | none => False
  | .nilsl, [] => K .nils rows
  | .mkslice e sz bytes zero, [.int _ l, .int _ c] => 0 ≤ l ∧ l ≤ c ∧ c * bytes ≤ 140737488355328 ∧ c ≤ 140737488355328 ∧
      K (.own rows.length l.toNat 0 l.toNat) (rows ++ [.live e sz (List.replicate l.toNat zero)])
  | .load1, [x] => evLoad1 rows x fun v => K v rows
  | .loadA n, [x] => evLoadA rows n x fun v => K v rows
  | .store n, [x, y] => evStore rows n x y fun rows => K (.tup []) rows
  | .nilchk, [.ref r n i o] => K (.ref r n i o) rows
  | .nilchk, [.pref c o] => K (.pref c o) rows
  | .bin op, [x, y] => evBin op x y fun v => K v rows
  | .eqA neg ks, [.agg xs, .agg ys] => fits ks xs ∧ fits ks ys ∧ K (.bool (eqCells xs ys != neg)) rows
  | .eqB neg, [.bool a, .bool b] => K (.bool ((a == b) != neg)) rows
  | .not, [.bool b] => K (.bool !b) rows
  | .neg, [.int k n] => K (.int k (k.wrap (0 - n))) rows
  | .conv k, [.int _ n] => K (.int k (k.wrap n)) rows
  | .fieldAddr d, [x] => evFieldAddr d x fun v => K v rows
  | .field1 off, [.agg cs] => off < cs.length ∧ K (cs.getD off .junk) rows
  | .fieldA off sz, [.agg cs] => off + sz ≤ cs.length ∧ K (.agg ((cs.drop off).take sz)) rows
  | .indexAddr sz, [x, y] => evIndexAddr rows sz x y fun v => K v rows
  | .index, [.str s, .int _ i] => 0 ≤ i ∧ i < s.size ∧ K (.int .u8 ((s.data.getD i.toNat 0).toNat)) rows
  | .slice true true sz, [x, a, b] => evSlice rows (some a) (some b) sz x fun v => K v rows
  | .slice true false sz, [x, a] => evSlice rows (some a) none sz x fun v => K v rows
  | .slice false true sz, [x, b] => evSlice rows none (some b) sz x fun v => K v rows
  | .slice false false sz, [x] => evSlice rows none none sz x fun v => K v rows
  | .sliceS true true, [x, a, b] => evSliceS (some a) (some b) x fun v => K v rows
  | .sliceS true false, [x, a] => evSliceS (some a) none x fun v => K v rows
  | .sliceS false true, [x, b] => evSliceS none (some b) x fun v => K v rows
  | .sliceS false false, [x] => evSliceS none none x fun v => K v rows
  | .lenS, [.str s] => K (.int .i64 s.size) rows
  | .len, [x] =>
    match len? x with
    | some l => K (.int .i64 l) rows
    | none => False
  | .append e sz bytes, [x, y] => evAppend rows e sz bytes x y K
  | .extract i, [.tup vs] => i < vs.length ∧ K (vs.getD i .junk) rows
  | .minmax mx, [.int k a, .int k' b] => k = k' ∧ K (.int k (if mx then max a b else min a b)) rows
  | .b2s, [x] => evB2s rows x fun v => K v rows
  | .frz, [x] => evFrz rows x K
  | .copy sz, [x, y] => evCopy rows sz x y K
  | .indexArr len sz, [x, y] => evIndexArr len sz x y fun v => K v rows
  | .arr1 len, [.agg cs, .int _ j] => (0 ≤ j ∧ j < len) ∧ j.toNat < cs.length ∧ K (cs.getD j.toNat .junk) rows
  | .arrA len sz, [.agg cs, .int _ j] => (0 ≤ j ∧ j < len) ∧ j.toNat * sz + sz ≤ cs.length ∧ K (.agg ((cs.drop (j.toNat * sz)).take sz)) rows
  | .mkfn f, cs => K (.fn f cs) rows
  | .mkmap ag ks, [] => K (.mref rows.length) (rows ++ [.obj (.map ag ks [])])
  | .look ok ag ks zero, [x, k] => evLook rows ok ag ks zero x k fun v => K v rows
  | .mset ag ks, [x, k, v] => evMset rows ag ks x k v fun rows => K (.tup []) rows
  | .ment ag ks zero, [x, k] => evMent rows ag ks zero x k K
  | .estore, [x, i, v] => evEstore rows x i v fun rows => K (.tup []) rows
  | .lenM, [.mref r] =>
    match rows[r]? with
    | some (.obj (.map _ _ ents)) => K (.int .i64 ents.length) rows
    | _ => False
  | .iter, [x] => evIter rows x K
  | .entry, [x] => evEntry rows x fun v => K v rows
  | .cap, [.nils] => K (.int .i64 0) rows
  | .appendZ e sz bytes zero, [.nils, .int _ n] => 0 < n ∧ n * bytes ≤ 140737488355328 ∧ K (.own rows.length n.toNat 0 n.toNat) (rows ++ [.live e sz (List.replicate n.toNat zero)])
  | .clear sz zero, [x] => evClear rows sz zero x fun rows => K (.tup []) rows
  | .isnil sz neg, [x] => evIsnil rows sz neg x fun v => K v rows
  | _, _ => False

end Go.Abs
end

section
/- Laws on lists of cells: a part put in its place; zero cells. -/
namespace Go.Abs

theorem splice_take {α : Type} (l ws : List α) (n o : Nat) (h : o + ws.length ≤ n) (hn : n ≤ l.length) :
    (l.take o ++ ws ++ l.drop (o + ws.length)).take n = (l.take n).take o ++ ws ++ (l.take n).drop (o + ws.length) := by
  refine List.ext_getElem? fun j => ?_
  simp only [List.getElem?_take, List.getElem?_append, List.getElem?_drop, List.length_append, List.length_take]
  have h1 : min o l.length = o := by omega
  have h2 : min n l.length = n := by omega
  have h3 : min o (min n l.length) = o := by omega
  simp only [h1, h3]
  by_cases a : j < n
  · by_cases b : j < o
    · have c : j < o + ws.length := by omega
      simp [a, b, c]
    · by_cases c : j < o + ws.length
      · simp [a, b, c]
      · simp only [a, c, if_true, if_false]
        rw [if_pos (by omega)]
  · have b : ¬ j < o + ws.length := by omega
    have c : ¬ o + ws.length + (j - (o + ws.length)) < n := by omega
    simp [a, b, c]

theorem flatten_set {sz : Nat} (c : List AVal) (off : Nat) : ∀ (vals : List (List AVal)) (i : Nat), (∀ e ∈ vals, e.length = sz) → i < vals.length → off + c.length ≤ sz →
    (vals.set i (splice (vals.getD i []) off c)).flatten = splice vals.flatten (i * sz + off) c
  | [], i, _, h, _ => by simp at h
  | e :: es, 0, hs, _, ho => by
    have he := hs e (by simp)
    simp only [List.set_cons_zero, List.getD_cons_zero, List.flatten_cons, Nat.zero_mul, Nat.zero_add, splice]
    rw [List.take_append_of_le_length (by omega), List.drop_append_of_le_length (by omega)]
    simp
  | e :: es, i + 1, hs, hi, ho => by
    have he := hs e (by simp)
    have ih := flatten_set c off es i (fun x hx => hs x (by simp [hx])) (by simpa using hi) ho
    simp only [List.set_cons_succ, List.getD_cons_succ, List.flatten_cons, ih]
    simp only [splice]
    have e1 : (i + 1) * sz + off = e.length + (i * sz + off) := by rw [he, Nat.add_mul]; omega
    rw [e1, List.take_length_add_append, Nat.add_assoc e.length, List.drop_length_add_append]
    simp

theorem splice_length {l c : List AVal} {off : Nat} (h : off + c.length ≤ l.length) : (splice l off c).length = l.length := by
  simp only [splice, List.length_append, List.length_take, List.length_drop]; omega

theorem RepL.splice {C : Ctx} {xs c : List AVal} {vs ws : List Value} {o : Nat} (h : RepL C xs vs) (k : RepL C c ws) :
    RepL C (Abs.splice xs o c) (vs.take o ++ ws ++ vs.drop (o + ws.length)) := by
  unfold Abs.splice
  rw [← k.length]
  exact ((h.take o).append k).append (h.drop _)

theorem allOne.splice {vs ws : List Value} {o k : Nat} (h : allOne vs) (h' : allOne ws) : allOne (vs.take o ++ ws ++ vs.drop k) := by
  intro v hv
  rcases List.mem_append.1 hv with hv | hv
  · rcases List.mem_append.1 hv with hv | hv
    · exact h v (List.mem_of_mem_take hv)
    · exact h' v hv
  · exact h v (List.mem_of_mem_drop hv)

theorem foldl_set (off : Nat) : ∀ (ws : List Value) (k : Nat) (cells : Array Value), off + k + ws.length ≤ cells.size →
    ((ws.zipIdx k).foldl (fun cs (x : Value × Nat) => cs.setIfInBounds (off + x.2) x.1) cells).toList = cells.toList.take (off + k) ++ ws ++ cells.toList.drop (off + k + ws.length)
  | [], k, cells, _ => by simp
  | v :: rest, k, cells, h => by
    simp only [List.zipIdx_cons, List.foldl_cons]
    rw [foldl_set off rest (k + 1) _ (by simp at h ⊢; omega)]
    have e := list_seg_step cells.toList (off + k) v rest (by simp at h ⊢; omega)
    simpa [Array.toList_setIfInBounds, Nat.add_assoc] using e

theorem fill_step (cells : Array Value) (off : Nat) (v : Value) (h : off + v.cells.size ≤ cells.size) :
    (v.cells.zipIdx.foldl (fun cs (x : Value × Nat) => cs.setIfInBounds (off + x.2) x.1) cells).toList = cells.toList.take off ++ v.cells.toList ++ cells.toList.drop (off + v.cells.toList.length) := by
  have := foldl_set off v.cells.toList 0 cells (by simpa using h)
  simp only [Nat.add_zero] at this
  rw [← this, ← Array.foldl_toList]
  simp

/-- 'fill' puts parts where 'fillC' puts them -/
theorem fill_rep {C : Ctx} (place : Nat → Option (Nat × Nat)) : ∀ (idx : List Nat) (ps : List (Nat × Nat)) (vs : List AVal) (ws : List Value) (cs cs' : List AVal) (cells : Array Value),
    ps = idx.filterMap place → idx.all (fun i => (place i).isSome) = true → RepL C vs ws → fillC cs ps vs = some cs' → (vs.all fun v => (acells v).all one) = true → RepL C cs cells.toList →
    ∃ r, Instr.fill place cells (idx.zip ws) = some r ∧ RepL C cs' r.toList ∧ (allOne cells.toList → allOne r.toList)
  | [], ps, vs, ws, cs, cs', cells, hp, _, hv, hf, h1, hc => by
    simp at hp; subst hp
    cases vs with
    | nil => simp [fillC] at hf; subst hf; exact ⟨cells, by simp [Instr.fill], hc, fun h => h⟩
    | cons v vs => simp [fillC] at hf
  | i :: idx, ps, vs, ws, cs, cs', cells, hp, ha, hv, hf, h1, hc => by
    simp only [List.all_cons, Bool.and_eq_true] at ha
    obtain ⟨q, hq⟩ := Option.isSome_iff_exists.1 ha.1
    obtain ⟨off, sz⟩ := q
    simp only [List.filterMap_cons, hq] at hp
    subst hp
    cases vs with
    | nil => simp [fillC] at hf
    | cons v vs =>
      rw [RepL] at hv
      obtain ⟨u, rest, rfl, hu, hrest⟩ := hv
      simp only [List.all_cons, Bool.and_eq_true] at h1
      simp only [fillC] at hf
      split at hf
      · rename_i hcond
        obtain ⟨k1, k2⟩ := cells_rep hu h1.1
        have hlen : u.cells.toList.length = (acells v).length := k1.length
        have hcl := hc.length
        simp only [Array.length_toList] at hlen hcl
        have hst := fill_step cells off u (by omega)
        have hrep : RepL C (splice cs off (acells v)) (u.cells.zipIdx.foldl (fun cs (x : Value × Nat) => cs.setIfInBounds (off + x.2) x.1) cells).toList := by
          rw [hst]; exact hc.splice k1
        obtain ⟨r, r1, r2, r3⟩ := fill_rep place idx _ vs rest _ cs' _ rfl ha.2 hrest hf h1.2 hrep
        refine ⟨r, ?_, r2, fun hone => r3 ?_⟩
        · simp only [List.zip_cons_cons, Instr.fill, hq]
          rw [if_neg (by simp; omega)]
          exact r1
        · rw [hst]; exact hone.splice k2
      · cases hf

theorem zeroRow (z : Array Value) : ∀ (n : Nat), ((Array.range (n * z.size)).map (z[· % z.size]!)).toList = (List.replicate n z.toList).flatten
  | 0 => by simp
  | n + 1 => by
    rw [List.replicate_succ', List.flatten_append, ← zeroRow z n]
    refine List.ext_getElem? fun j => ?_
    simp only [Array.toList_map, Array.toList_range, List.getElem?_map, List.getElem?_append, List.length_map, List.length_range, List.flatten_cons, List.flatten_nil, List.append_nil]
    by_cases h : j < n * z.size
    · rw [if_pos h, List.getElem?_range h, List.getElem?_range (by rw [Nat.add_mul]; omega)]
    · rw [if_neg h]
      by_cases h2 : j < (n + 1) * z.size
      · have h3 : j - n * z.size < z.size := by rw [Nat.add_mul] at h2; omega
        rw [List.getElem?_range h2]
        have : j % z.size = j - n * z.size := by
          rw [Nat.mod_eq_sub_mul_div]
          have : j / z.size = n := by
            refine Nat.div_eq_of_lt_le ?_ ?_
            · omega
            · exact h2
          rw [this, Nat.mul_comm]
        simp [this, h3]
      · rw [Nat.add_mul] at h2
        rw [List.getElem?_eq_none (by simp [Nat.add_mul]; omega), List.getElem?_eq_none (by simp; omega)]
        rfl

theorem fillE_fillC {sz : Nat} : ∀ (idx : List Nat) (vs : List AVal) (es es' : List (List AVal)), fillE es sz idx vs = some es' → (∀ e ∈ es, e.length = sz) →
    fillC es.flatten (idx.map fun i => (i * sz, sz)) vs = some es'.flatten ∧ (∀ e ∈ es', e.length = sz) ∧ es'.length = es.length
  | [], [], es, es', h, hs => by simp [fillE] at h; subst h; exact ⟨by simp [fillC], hs, rfl⟩
  | [], v :: vs, es, es', h, hs => by simp [fillE] at h
  | i :: idx, [], es, es', h, hs => by simp [fillE] at h
  | i :: idx, v :: vs, es, es', h, hs => by
    simp only [fillE] at h
    split at h
    · rename_i hc
      have hget : es.getD i [] ∈ es := by
        rw [List.getD_eq_getElem?_getD, List.getElem?_eq_getElem hc.2]; simp
      have hsp : splice (es.getD i []) 0 (acells v) = acells v := by
        have := hs _ hget
        simp only [splice, List.take_zero, List.nil_append, Nat.zero_add]
        rw [List.drop_eq_nil_of_le (by omega)]
        simp
      have hf := flatten_set (sz := sz) (acells v) 0 es i hs hc.2 (by omega)
      rw [hsp, Nat.add_zero] at hf
      have hs' : ∀ e ∈ es.set i (acells v), e.length = sz := by
        intro e he
        rcases List.mem_or_eq_of_mem_set he with he | rfl
        · exact hs e he
        · exact hc.1
      obtain ⟨k1, k2, k3⟩ := fillE_fillC idx vs _ es' h hs'
      refine ⟨?_, k2, by simpa using k3⟩
      simp only [List.map_cons, fillC]
      have hle : i * sz + sz ≤ es.flatten.length := by
        rw [flatten_length hs]
        have : (i + 1) * sz ≤ es.length * sz := Nat.mul_le_mul_right _ hc.2
        rw [Nat.add_mul] at this; omega
      rw [if_pos ⟨hc.1, hle⟩, ← hf]
      exact k1
    · cases h

end Go.Abs
end

section
/- The model's operations as abstract ones. -/
namespace Go.Abs

/-- a constant -/
def absV : Value → Option AVal
  | .int k n => some (.int k n)
  | .bool b => some (.bool b)
  | .string s => some (.str s)
  | .slice none 0 0 => some .nils
  | .pointer none => some .nilp
  | .map none => some .nilm
  | _ => none

theorem absV_rep {C : Ctx} {v : Value} {a : AVal} (h : absV v = some a) : Rep C a v ∧ one a = true := by
  unfold absV at h
  split at h <;> simp at h <;> subst h <;> simp [Rep, one]

def absVs : List Value → Option (List AVal)
  | [] => some []
  | v :: vs =>
    match absV v, absVs vs with
    | some a, some as => some (a :: as)
    | _, _ => none

theorem absVs_rep {C : Ctx} : ∀ {vs : List Value} {as : List AVal}, absVs vs = some as → RepL C as vs ∧ as.all one = true
  | [], as, h => by simp [absVs] at h; subst h; simp [RepL]
  | v :: vs, as, h => by
    simp only [absVs] at h
    split at h
    · rename_i a bs ha hb
      simp at h; subst h
      obtain ⟨h1, h2⟩ := absV_rep (C := C) ha
      obtain ⟨k1, k2⟩ := absVs_rep (C := C) hb
      refine ⟨?_, by simp only [List.all_cons, h2, k2, Bool.and_self]⟩
      rw [RepL]
      exact ⟨v, vs, rfl, h1, k1⟩
    · cases h

/-- the cells of a type's zero value -/
def zeroOf (P : Program) (t : TypeId) : Option (List AVal) :=
  match P.info? t with
  | some i =>
    match i.zero with
    | some z =>
      match absVs z.cells.toList with
      | some cs => if cs.length = i.size ∧ 0 < i.size then some cs else none
      | none => none
    | none => none
  | none => none

theorem zeroOf_spec {P : Program} {t : TypeId} {cs : List AVal} (h : zeroOf P t = some cs) :
    ∃ i z, P.info? t = some i ∧ i.zero = some z ∧ absVs z.cells.toList = some cs ∧ cs.length = i.size ∧ 0 < i.size ∧ z.cells.size = i.size := by
  unfold zeroOf at h
  split at h
  · rename_i i hi
    split at h
    · rename_i z hz
      split at h
      · rename_i cs' hc
        split at h
        · rename_i hl
          simp at h; subst h
          have := (absVs_rep (C := ⟨[], [], fun _ => False, default, false⟩) hc).1.length
          simp only [Array.length_toList] at this
          exact ⟨i, z, hi, hz, hc, hl.1, hl.2, by omega⟩
        · cases h
      · cases h
    · cases h
  · cases h

def isAggT (P : Program) (t : TypeId) : Option Bool :=
  match P.underlying t with
  | some (.struct _) | some (.array _ _) => some true
  | some _ => some false
  | none => none

def sizeT (P : Program) (t : TypeId) : Option Nat := (P.info? t).map (·.size)

/-- the kinds of the cells of a struct of integers, bools and strings, or of such structs -/
def flatFs (P : Program) (sub : TypeId → Option (List CK)) : List Field → Nat → Option (List CK)
  | [], _ => some []
  | f :: fs, off =>
    if f.name ≠ "_" ∧ f.offset = off then
      match sub f.type with
      | some ks =>
        if sizeT P f.type = some ks.length then
          match flatFs P sub fs (off + ks.length) with
          | some rest => some (ks ++ rest)
          | none => none
        else none
      | none => none
    else none

def flatK (P : Program) : Nat → TypeId → Option (List CK)
  | 0, _ => none
  | d + 1, t =>
    match P.underlying t with
    | some (.int k) => some [.int k]
    | some .bool => some [.bool]
    | some .string => some [.str]
    | some (.struct fs) => if P.stoodInHeld t then none else flatFs P (flatK P d) fs.toList 0
    | _ => none

/-- the zero value of a type -/
def zeroV (P : Program) (t : TypeId) : Option AVal :=
  match P.info? t with
  | some i =>
    match i.zero with
    | some (.agg cs) => (absVs cs.toList).map .agg
    | some z => absV z
    | none => none
  | none => none

theorem zeroV_spec {P : Program} {t : TypeId} {a : AVal} (h : zeroV P t = some a) : ∃ i z, P.info? t = some i ∧ i.zero = some z ∧ ∀ C, Rep C a z := by
  unfold zeroV at h
  split at h
  · rename_i i hi
    split at h
    · rename_i cs hz
      cases hv : absVs cs.toList with
      | none => rw [hv] at h; simp at h
      | some as =>
        rw [hv] at h; simp at h; subst h
        exact ⟨i, _, hi, hz, fun C => by rw [Rep]; exact ⟨cs, rfl, (absVs_rep hv).1⟩⟩
    · rename_i z _ hz
      exact ⟨i, z, hi, hz, fun C => (absV_rep h).1⟩
    · cases h
  · cases h

/-- the keys of a map's type: are they structs, the kinds of their cells -/
def keyK (P : Program) (t : TypeId) : Option (Bool × List CK) :=
  match isAggT P t, flatK P 20 t with
  | some ag, some ks => some (ag, ks)
  | _, _ => none

def compileOp (P : Program) (o : Oper) : Option (AOp × List Operand) :=
  match o.op with
  | .move x | .assign x => some (.mv, [x])
  | .pick c a b => some (.pick, [c, a, b])
  | .alloc t =>
    match zeroOf P t with
    | some z => some (.alloc t z, [])
    | none => none
  | .box t x =>
    match sizeT P t with
    | some n => some (.box t n, [x])
    | none => none
  | .build t parts =>
    match zeroOf P t, P.underlying t with
    | some z, some (.struct fields) =>
      match fields.toList.mapM (fun f => (sizeT P f.type).map fun n => (f.offset, n)) with
      | some places =>
        if (parts.toList.map (·.1)).all (fun i => (places[i]?).isSome) then some (.build z ((parts.toList.map (·.1)).filterMap (places[·]?)), parts.toList.map (·.2)) else none
      | none => none
    | some z, some (.array _ e) =>
      match sizeT P e with
      | some n => some (.build z ((parts.toList.map (·.1)).map fun i => (i * n, n)), parts.toList.map (·.2))
      | none => none
    | _, _ => none
  | .buildSlice t len parts =>
    match P.underlying t with
    | some (.slice e) =>
      match zeroOf P e with
      | some z => if len = 0 ∧ parts.size = 0 then some (.nilsl, []) else if len * z.length ≤ 16777216 then some (.bslice e z.length z len (parts.toList.map (·.1)), parts.toList.map (·.2)) else none
      | none => none
    | _ => none
  | .makeSlice t l c =>
    match P.underlying t with
    | some (.slice e) =>
      match zeroOf P e, (P.info? e).map (·.bytes) with
      | some z, some by_ => if by_ = 0 then none else some (.mkslice e z.length by_ z, [l, c])
      | _, _ => none
    | _ => none
  | .load t x =>
    match isAggT P t, sizeT P t with
    | some true, some n => some (.loadA n, [x])
    | some false, _ => some (.load1, [x])
    | _, _ => none
  | .store t x y =>
    match sizeT P t with
    | some n => some (.store n, [x, y])
    | none => none
  | .nilCheck x => some (.nilchk, [x])
  | .binOp op t x y _ =>
    match P.underlying t with
    | some (.int _) | some .string => some (.bin op, [x, y])
    | some .bool =>
      match op with
      | .eql => some (.eqB false, [x, y])
      | .neq => some (.eqB true, [x, y])
      | _ => none
    | some (.struct _) =>
      match flatK P 20 t with
      | some ks =>
        if P.eqGuardType P.depth t then none else
        match op with
        | .eql => some (.eqA false ks, [x, y])
        | .neq => some (.eqA true ks, [x, y])
        | _ => none
      | none => none
    | some (.slice e) =>
      match sizeT P e, op, y with
      | some n, .eql, .const (.slice none 0 0) => some (.isnil n false, [x])
      | some n, .neq, .const (.slice none 0 0) => some (.isnil n true, [x])
      | _, _, _ => none
    | _ => none
  | .unOp .not _ x => some (.not, [x])
  | .unOp .neg _ x => some (.neg, [x])
  | .convert s d x =>
    match P.underlying s, P.underlying d with
    | some (.int _), some (.int k) => some (.conv k, [x])
    | some (.slice e), some .string =>
      match P.underlying e with
      | some (.int .u8) => some (.b2s, [x])
      | _ => none
    | some (.slice e), some (.slice _) =>
      if s = d then
        match P.underlying e with
        | some (.int .u8) => some (.frz, [x])
        | _ => none
      else none
    | _, _ => none
  | .fieldAddr s x f =>
    match P.underlying s with
    | some (.struct fields) =>
      match fields[f]? with
      | some fd =>
        match sizeT P fd.type with
        | some n => if n = 0 then none else some (.fieldAddr fd.offset, [x])
        | none => none
      | none => none
    | _ => none
  | .field s x f =>
    match P.underlying s with
    | some (.struct fields) =>
      match fields[f]? with
      | some fd =>
        match isAggT P fd.type, sizeT P fd.type with
        | some true, some n => some (.fieldA fd.offset n, [x])
        | some false, _ => some (.field1 fd.offset, [x])
        | _, _ => none
      | none => none
    | _ => none
  | .indexAddr t x i =>
    match P.underlying t with
    | some (.slice e) =>
      match sizeT P e with
      | some n => some (.indexAddr n, [x, i])
      | none => none
    | some (.array len e) =>
      match sizeT P e with
      | some n => if 1 < len then some (.indexArr len n, [x, i]) else none
      | none => none
    | _ => none
  | .index t x i =>
    match P.underlying t with
    | some .string => some (.index, [x, i])
    | some (.array len e) =>
      match isAggT P e, sizeT P e with
      | some true, some n => some (.arrA len n, [x, i])
      | some false, some 1 => some (.arr1 len, [x, i])
      | _, _ => none
    | _ => none
  | .slice t x lo hi none =>
    match P.underlying t with
    | some (.slice e) =>
      match sizeT P e with
      | some n => some (.slice lo.isSome hi.isSome n, x :: (lo.toList ++ hi.toList))
      | none => none
    | some .string => some (.sliceS lo.isSome hi.isSome, x :: (lo.toList ++ hi.toList))
    | _ => none
  | .extract x i => some (.extract i, [x])
  | .call { callee := .builtin .len, args := ⟨[x]⟩, argTypes := ⟨[t]⟩ } =>
    match P.underlying t with
    | some (.slice _) => some (.len, [x])
    | some .string => some (.lenS, [x])
    | some (.map _ _) => some (.lenM, [x])
    | _ => none
  | .call { callee := .builtin .append, args := ⟨[x, y]⟩, argTypes := ⟨[t, u]⟩ } =>
    if t = u then
      match P.underlying t with
      | some (.slice e) =>
        match zeroOf P e, (P.info? e).map (·.bytes) with
        | some z, some by_ => if by_ = 0 then none else some (.append e z.length by_, [x, y])
        | _, _ => none
      | _ => none
    else
      match P.underlying t, P.underlying u with
      | some (.slice e), some (.int .i64) =>
        match zeroOf P e, (P.info? e).map (·.bytes) with
        | some z, some by_ => if by_ = 0 then none else some (.appendZ e z.length by_ z, [x, y])
        | _, _ => none
      | _, _ => none
  | .call { callee := .builtin .min, args := ⟨[x, y]⟩, argTypes := _ } => some (.minmax false, [x, y])
  | .call { callee := .builtin .max, args := ⟨[x, y]⟩, argTypes := _ } => some (.minmax true, [x, y])
  | .call { callee := .value (.func f), args := args, argTypes := _ } =>
    match P.funcs[f]? with
    | some fn => if fn.body.isSome && fn.name != "runtime.NumGoroutine" then some (.call f, args.toList) else none
    | none => none
  | .call { callee := .builtin .copy, args := ⟨[x, y]⟩, argTypes := ⟨[t, u]⟩ } =>
    if t = u then
      match P.underlying t with
      | some (.slice e) =>
        match sizeT P e with
        | some n => some (.copy n, [x, y])
        | none => none
      | _ => none
    else none
  | .makeFunc (.func f) ⟨[]⟩ captured => some (.mkfn f, captured.toList)
  | .makeMap t none =>
    match P.underlying t with
    | some (.map k _) =>
      match keyK P k with
      | some (ag, ks) => some (.mkmap ag ks, [])
      | none => none
    | _ => none
  | .lookup t x i ok =>
    match P.underlying t with
    | some (.map k e) =>
      match keyK P k, zeroV P e with
      | some (ag, ks), some z => some (.look ok ag ks z, [x, i])
      | _, _ => none
    | _ => none
  | .mapUpdate t m i v =>
    match P.underlying t with
    | some (.map k _) =>
      match keyK P k with
      | some (ag, ks) => some (.mset ag ks, [m, i, v])
      | none => none
    | _ => none
  | .mapEntry t m i =>
    match P.underlying t with
    | some (.map k e) =>
      match keyK P k, zeroV P e with
      | some (ag, ks), some z => some (.ment ag ks z, [m, i])
      | _, _ => none
    | _ => none
  | .entryStore _ m s v => some (.estore, [m, s, v])
  | .range t x =>
    match P.underlying t with
    | some (.map _ _) => some (.iter, [x])
    | _ => none
  | .next x false => some (.next, [x])
  | .entry x => some (.entry, [x])
  | .call { callee := .builtin .cap, args := ⟨[x]⟩, argTypes := ⟨[t]⟩ } =>
    match P.underlying t with
    | some (.slice _) => some (.cap, [x])
    | _ => none
  | .call { callee := .builtin .clear, args := ⟨[x]⟩, argTypes := ⟨[t]⟩ } =>
    match P.underlying t with
    | some (.slice e) =>
      match zeroOf P e with
      | some z => some (.clear z.length z, [x])
      | none => none
    | _ => none
  | .call { callee := .value (.tmp t), args := args, argTypes := _ } => some (.callv, .tmp t :: args.toList)
  | _ => none

end Go.Abs
end

section
/- Each operation does what its abstract form says (1). -/
namespace Go.Abs
variable [Dr]

def Runs (P : Program) (C : Ctx) (s : Sem Next) (K : AVal → List Row → Prop) : Prop :=
  ∃ n cv v C', s.run P C.w = .ok n C'.w ∧ (n = .value cv ∨ (n = .skip ∧ cv = undef)) ∧ Rep C' v cv ∧ Ok C' ∧ Later C.rows.length C C' ∧ K v C'.rows

theorem repL0 {C : Ctx} {as : List AVal} (h : RepL C as []) : as = [] := by
  have := h.length; simp at this; exact List.eq_nil_of_length_eq_zero this.symm

theorem repL1 {C : Ctx} {as : List AVal} {v : Value} (h : RepL C as [v]) : ∃ a, as = [a] ∧ Rep C a v := by
  cases as with
  | nil => rw [RepL] at h; cases h
  | cons a as =>
    rw [RepL] at h
    obtain ⟨u, rest, he, h1, h2⟩ := h
    simp at he; obtain ⟨rfl, rfl⟩ := he
    rw [repL0 h2]; exact ⟨a, rfl, h1⟩

theorem repL2 {C : Ctx} {as : List AVal} {v w : Value} (h : RepL C as [v, w]) : ∃ a b, as = [a, b] ∧ Rep C a v ∧ Rep C b w := by
  cases as with
  | nil => rw [RepL] at h; cases h
  | cons a as =>
    rw [RepL] at h
    obtain ⟨u, rest, he, h1, h2⟩ := h
    simp at he; obtain ⟨rfl, rfl⟩ := he
    obtain ⟨b, rfl, hb⟩ := repL1 h2
    exact ⟨a, b, rfl, h1, hb⟩

theorem repL3 {C : Ctx} {as : List AVal} {v w x : Value} (h : RepL C as [v, w, x]) : ∃ a b c, as = [a, b, c] ∧ Rep C a v ∧ Rep C b w ∧ Rep C c x := by
  cases as with
  | nil => rw [RepL] at h; cases h
  | cons a as =>
    rw [RepL] at h
    obtain ⟨u, rest, he, h1, h2⟩ := h
    simp at he; obtain ⟨rfl, rfl⟩ := he
    obtain ⟨b, c, rfl, hb, hc⟩ := repL2 h2
    exact ⟨a, b, c, rfl, h1, hb, hc⟩

section
variable {P : Program} {C : Ctx} {K : AVal → List Row → Prop}

theorem Runs.of (hok : Ok C) {s : Sem Value} {v : AVal} {cv : Value} (hs : s.run P C.w = .ok cv C.w) (hr : Rep C v cv) (hk : K v C.rows) :
    Runs P C (do pure (.value (← s))) K :=
  ⟨.value cv, cv, v, C, by simp [hs], .inl rfl, hr, hok, Later.refl C, hk⟩

theorem Runs.of' {C' : Ctx} (hok : Ok C') (hl : Later C.rows.length C C') {s : Sem Value} {v : AVal} {cv : Value} (hs : s.run P C.w = .ok cv C'.w) (hr : Rep C' v cv) (hk : K v C'.rows) :
    Runs P C (do pure (.value (← s))) K :=
  ⟨.value cv, cv, v, C', by simp [hs], .inl rfl, hr, hok, hl, hk⟩

theorem Runs.unit {C' : Ctx} (hok : Ok C') (hl : Later C.rows.length C C') {s : Sem Unit} (hs : s.run P C.w = .ok () C'.w) (hk : K (.tup []) C'.rows) :
    Runs P C (do s; pure .skip) K :=
  ⟨.skip, undef, .tup [], C', by simp [hs], .inr ⟨rfl, rfl⟩, by rw [Rep]; exact ⟨#[], rfl, by simp [RepL]⟩, hok, hl, hk⟩

theorem RepC.get {b o : Nat} {cells : List AVal} (j : Nat) (h : RepC C b o cells) (hj : j < cells.length) :
    ∃ v, C.w.cell? ⟨b, o + j, none⟩ = some v ∧ Rep C (cells.getD j .junk) v := by
  obtain ⟨vs, h1, h2, _⟩ := RepC_iff.1 h
  obtain ⟨v, k1, k2⟩ := h1.get j hj
  exact ⟨v, h2 j v k1, k2⟩

theorem addr_add (b o n : Nat) : (⟨b, o, none⟩ : Addr).add n = ⟨b, o + n, none⟩ := by
  unfold Addr.add; split <;> simp_all

theorem run_isAgg {t : TypeId} {x : Bool} (h : isAggT P t = some x) (w : World) : (isAgg t).run P w = .ok x w := by
  unfold isAggT at h
  cases hd : P.underlying t with
  | none => rw [hd] at h; simp at h
  | some d =>
    rw [hd] at h
    unfold isAgg
    simp only [Sem.run_bind, run_underlying hd, Result.andThen_ok]
    cases d <;> simp at h <;> subst h <;> simp

theorem run_sizeOf {t : TypeId} {n : Nat} (h : sizeT P t = some n) (w : World) : (sizeOf t).run P w = .ok n w := by
  unfold sizeT at h
  cases hi : P.info? t with
  | none => rw [hi] at h; simp at h
  | some i => rw [hi] at h; simp at h; subst h; simp [sizeOf, typeInfo, hi]

theorem run_zero {t : TypeId} {i : TypeInfo} {z : Value} (hi : P.info? t = some i) (hz : i.zero = some z) (w : World) : (zeroValue t).run P w = .ok z w := by
  simp [zeroValue, typeInfo, hi, hz]

/-- cells at an address, by a list -/
theorem run_loadC {b o : Nat} {vs : List Value} {w : World} (h : CellsAt w b o vs) : (loadCells ⟨b, o, none⟩ vs.length).run P w = .ok vs.toArray w :=
  run_loadCells_list w ⟨b, o, none⟩ vs fun j v hj => by rw [addr_add]; exact h j v hj

theorem run_load1 (hok : Ok C) {t : TypeId} {x : AVal} {cx : Value} (hr : Rep C x cx) (ha : isAggT P t = some false)
    (h : evLoad1 C.rows x fun v => K v C.rows) : ∃ cv v, (Instr.loadAt t cx).run P C.w = .ok cv C.w ∧ Rep C v cv ∧ K v C.rows := by
  cases x <;> simp only [evLoad1] at h
  case ref r n i off =>
    split at h
    · rename_i e sz vals hrow
      obtain ⟨hn, hoff, hk⟩ := h
      rw [Rep] at hr
      obtain ⟨_, _, hrl, hr⟩ := hr
      obtain ⟨hi, b, c, hp, rfl⟩ := (hr e sz vals hrow).2 hn
      rcases hok.live hrow with ⟨hl, _⟩ | ⟨b', cap, cs, hl, h1, h2, h3, h4, h5, h6⟩
      · rw [hp] at hl; simp at hl
      · rw [hp] at hl; simp at hl; obtain ⟨rfl, rfl⟩ := hl
        obtain ⟨k1, k2⟩ := h6.get i (by omega)
        obtain ⟨v, c1, c2⟩ := k2.get off (by omega)
        refine ⟨v, _, ?_, c2, hk⟩
        simp only [Nat.zero_add] at c1
        simp [Instr.loadAt, Instr.sureAddr, loadVar, run_isAgg ha, c1]
    · exact h.elim
  case pref cells off =>
    rw [Rep] at hr
    obtain ⟨b, o, rfl, hb, hc⟩ := hr
    have hc := RepC.unp b o cells hc
    obtain ⟨v, c1, c2⟩ := hc.get off h.1
    refine ⟨v, _, ?_, c2, h.2⟩
    simp [Instr.loadAt, Instr.sureAddr, loadVar, run_isAgg ha, c1]

theorem run_loadA (hok : Ok C) {t : TypeId} {m : Nat} {x : AVal} {cx : Value} (hr : Rep C x cx) (ha : isAggT P t = some true) (hs : sizeT P t = some m)
    (h : evLoadA C.rows m x fun v => K v C.rows) : ∃ cv v, (Instr.loadAt t cx).run P C.w = .ok cv C.w ∧ Rep C v cv ∧ K v C.rows := by
  have key : ∀ {b o : Nat} {cells : List AVal}, RepC C b o cells → cells.length = m → ∃ cv, (Instr.loadAt t (.pointer (some ⟨b, o, none⟩))).run P C.w = .ok cv C.w ∧ Rep C (.agg cells) cv := by
    intro b o cells hc hl
    obtain ⟨vs, h1, h2, _⟩ := RepC_iff.1 hc
    have := h1.length
    refine ⟨.agg vs.toArray, ?_, by rw [Rep]; exact ⟨_, rfl, by simpa using h1⟩⟩
    have hload := run_loadC (P := P) h2
    rw [show vs.length = m from by omega] at hload
    simp [Instr.loadAt, Instr.sureAddr, loadVar, run_isAgg ha, run_sizeOf hs, hload]
  cases x <;> simp only [evLoadA] at h
  case ref r n i off =>
    split at h
    · rename_i e sz vals hrow
      obtain ⟨hn, hoff, hk⟩ := h
      rw [Rep] at hr
      obtain ⟨_, _, hrl, hr⟩ := hr
      obtain ⟨hi, b, c, hp, rfl⟩ := (hr e sz vals hrow).2 hn
      rcases hok.live hrow with ⟨hl, _⟩ | ⟨b', cap, cs, hl, h1, h2, h3, h4, h5, h6⟩
      · rw [hp] at hl; simp at hl
      · rw [hp] at hl; simp at hl; obtain ⟨rfl, rfl⟩ := hl
        obtain ⟨k1, k2⟩ := h6.get i (by omega)
        have k3 := (k2.drop off).take m
        rw [Nat.zero_add] at k3
        obtain ⟨cv, c1, c2⟩ := key k3 (by rw [List.length_take, List.length_drop]; omega)
        exact ⟨cv, _, c1, c2, hk⟩
    · exact h.elim
  case pref cells off =>
    rw [Rep] at hr
    obtain ⟨b, o, rfl, hb, hc⟩ := hr
    have hc := RepC.unp b o cells hc
    obtain ⟨cv, c1, c2⟩ := key ((hc.drop off).take m) (by rw [List.length_take, List.length_drop]; omega)
    exact ⟨cv, _, c1, c2, h.2⟩

theorem run_store' (hok : Ok C) {t : TypeId} {m : Nat} {x y : AVal} {cx cy : Value} (hr : Rep C x cx) (hy : Rep C y cy) (hs : sizeT P t = some m) {K : List Row → Prop}
    (h : evStore C.rows m x y K) : ∃ C', (Instr.storeAt t cx cy).run P C.w = .ok () C'.w ∧ Ok C' ∧ Later C.rows.length C C' ∧ K C'.rows := by
  cases x <;> simp only [evStore] at h
  case ref r n i off =>
    split at h
    · rename_i e sz vals hrow
      obtain ⟨hn, hoff, hlen, hone, hk⟩ := h
      rw [Rep] at hr
      obtain ⟨_, _, hrl, hr⟩ := hr
      obtain ⟨hi, b, c, hp, rfl⟩ := (hr e sz vals hrow).2 hn
      rcases hok.live hrow with ⟨hl, _⟩ | ⟨b', cap, cs, hl, h1, h2, h3, h4, h5, h6⟩
      · rw [hp] at hl; simp at hl
      · rw [hp] at hl; simp at hl; obtain ⟨rfl, rfl⟩ := hl
        obtain ⟨vs, he, hca⟩ := h6.elems
        have htake := take_of_cellsAt h2 hca
        have hvl := he.length
        obtain ⟨c1, c2⟩ := cells_rep hy hone
        have hcl := c1.length
        have hil : (i + 1) * sz ≤ vals.length * sz := Nat.mul_le_mul_right _ (by omega)
        have hcap : vals.length * sz ≤ c * sz := Nat.mul_le_mul_right _ h5
        rw [Nat.add_mul] at hil
        have hst := run_storeCells_at P b (i * sz + off) e cy.cells.toList 0 cs C.w h2 (by omega) c2
        simp only [Nat.add_zero] at hst
        have hsz : cy.cells.size = m := by have := hcl; simp only [Array.length_toList] at this; omega
        have hnew := set_row hok hrow hp b c (cs.toList.take (i * sz + off) ++ cy.cells.toList ++ cs.toList.drop (i * sz + off + cy.cells.toList.length)).toArray
          (vals.set i (splice (vals.getD i []) off (acells y))) (vs.take (i * sz + off) ++ cy.cells.toList ++ vs.drop (i * sz + off + cy.cells.toList.length))
          (C.w.setRow b (cs.toList.take (i * sz + off) ++ cy.cells.toList ++ cs.toList.drop (i * sz + off + cy.cells.toList.length)).toArray)
          ⟨rfl, rfl, rfl, by simp, fun k _ hk' => setRow_other C.w b k _ (fun e => hk' (by simp [e]))⟩ (.inl rfl) (setRow_heap C.w b cs _ e _ h2)
          (by simp only [List.size_toArray, List.length_append, List.length_take, List.length_drop, Array.length_toList]; simp only [Array.length_toList] at hcl; omega)
          h4 (by simpa using h5)
          ⟨fun x hx => ?_, ?_, he.one.splice c2⟩ ?_ (by simp) (fun _ => rfl)
        · refine ⟨⟨C.rows.set r (.live e sz (vals.set i (splice (vals.getD i []) off (acells y)))), C.phi.set r (some (b, c)), C.om, C.w.setRow b (cs.toList.take (i * sz + off) ++ cy.cells.toList ++ cs.toList.drop (i * sz + off + cy.cells.toList.length)).toArray, C.pm⟩, ?_, hnew.1, hnew.2, hk⟩
          simp only [Instr.storeAt, Instr.sureAddr, storeVar, Sem.run_bind, Sem.run_pure, Result.andThen_ok, run_sizeOf hs]
          rw [if_neg (by simpa using hsz)]
          simp only [Sem.run_bind, Sem.run_pure, Result.andThen_ok, hst]
        · rcases List.mem_or_eq_of_mem_set hx with hx | rfl
          · exact he.szs x hx
          · have hmem : vals.getD i [] ∈ vals := by
              rw [List.getD_eq_getElem?_getD, List.getElem?_eq_getElem (by omega)]; simp
            have hl2 := he.szs _ hmem
            rw [splice_length (by omega)]
            exact hl2
        · rw [flatten_set (sz := sz) (acells y) off vals i he.szs (by omega) (by omega)]
          exact he.rep.splice c1
        · simp only [List.length_append, List.length_take, List.length_drop]
          have hvc : vs.length ≤ cs.toList.length := by simp only [Array.length_toList]; omega
          have e1 : min (i * sz + off) vs.length + cy.cells.toList.length + (vs.length - (i * sz + off + cy.cells.toList.length)) = vs.length := by omega
          rw [e1]
          show List.take vs.length (cs.toList.take (i * sz + off) ++ cy.cells.toList ++ cs.toList.drop (i * sz + off + cy.cells.toList.length)) = _
          rw [splice_take cs.toList cy.cells.toList vs.length (i * sz + off) (by omega) hvc, htake]
    · exact h.elim

end
end Go.Abs
end

section
/- Each operation does what its abstract form says (2): slices. -/
namespace Go.Abs
variable [Dr]
section
variable {P : Program} {C : Ctx} {K : AVal → List Row → Prop}

/-- a pointer to a new row of one element -/
theorem new_ref {rows : List Row} {phi : List (Option (Nat × Nat))} {om : Nat → Prop} {w : World} {e : TypeId} {sz b cap : Nat} {cells : List AVal} (hl : phi.length = rows.length) :
    Rep ⟨rows ++ [.live e sz [cells]], phi ++ [some (b, cap)], om, w, false⟩ (.ref rows.length 1 0 0) (.pointer (some ⟨b, 0, none⟩)) := by
  rw [Rep]
  refine ⟨rfl, ⟨_, rfl⟩, by simp, fun e' sz' vals h => ?_⟩
  simp at h
  obtain ⟨rfl, rfl, rfl⟩ := h
  exact ⟨by simp, fun _ => ⟨by simp, b, cap, by simp [← hl], by simp⟩⟩

/-- the slice of a new row -/
theorem new_own {rows : List Row} {phi : List (Option (Nat × Nat))} {om : Nat → Prop} {w : World} {e : TypeId} {sz b cap : Nat} {vals : List (List AVal)} (hl : phi.length = rows.length) (hc : vals.length ≤ cap) :
    Rep ⟨rows ++ [.live e sz vals], phi ++ [some (b, cap)], om, w, false⟩ (.own rows.length vals.length 0 vals.length) (.slice (some ⟨b, 0, none⟩) vals.length cap) := by
  rw [Rep]
  refine ⟨rfl, ⟨_, _, rfl⟩, by simp, fun e' sz' vals' h => ?_⟩
  simp at h
  obtain ⟨rfl, rfl, rfl⟩ := h
  exact ⟨by simp, fun _ => ⟨by simp, some (b, cap), by simp [← hl], ⟨b, 0, none⟩, cap, rfl, hc, rfl, rfl, fun _ => ⟨rfl, rfl⟩, fun _ => by simp⟩⟩

theorem elems_one {sz : Nat} {cells : List AVal} {vs : List Value} (hl : cells.length = sz) (h : RepL C cells vs) (h1 : allOne vs) : Elems C sz [cells] vs :=
  ⟨by simp [hl], by simpa using h, h1⟩

/-- the elements of a slice that is read -/
theorem source {C : Ctx} (hok : Ok C) {sz : Nat} {y : AVal} {cy : Value} {ys : List (List AVal)} (hr : Rep C y cy) (h : elems? C.rows sz y = some ys) :
    ∃ ao c, cy = .slice ao ys.length c ∧ ((ao = none ∧ ys = []) ∨ ∃ a vs, ao = some a ∧ Elems C sz ys vs ∧ ∀ (j : Nat) (u : Value), vs[j]? = some u → C.w.cell? (a.add j) = some u) := by
  cases y
  case nils =>
    simp only [elems?] at h
    simp at h; subst h
    rw [Rep] at hr
    obtain ⟨ao, rfl⟩ := hr
    cases ao with
    | none => exact ⟨none, 0, rfl, .inl ⟨rfl, rfl⟩⟩
    | some a => exact ⟨some a, 0, rfl, .inr ⟨a, [], rfl, Elems.nil C sz, fun j u hj => by simp at hj⟩⟩
  case pure sz' vals =>
    simp only [elems?] at h
    split at h
    · rename_i hs
      simp at h; subst h; subst hs
      rw [Rep] at hr
      obtain ⟨ao, cap, rfl, _, hr⟩ := hr
      refine ⟨ao, cap, rfl, ?_⟩
      rcases hr with hr | ⟨b, o, rfl, _, he⟩
      · have : vals = [] := List.eq_nil_of_length_eq_zero hr
        subst this
        cases ao with
        | none => exact .inl ⟨rfl, rfl⟩
        | some a => exact .inr ⟨a, [], rfl, Elems.nil C sz', fun j u hj => by simp at hj⟩
      · obtain ⟨vs, h1, h2⟩ := (RepE.unp b sz' o vals he).elems
        exact .inr ⟨_, vs, rfl, h1, fun j u hj => by rw [addr_add]; exact h2 j u hj⟩
    · cases h
  case own r n off len =>
    simp only [elems?] at h
    split at h
    · rename_i e sz' vals hrow
      split at h
      · rename_i hc
        obtain ⟨rfl, hn, hol⟩ := hc
        simp at h
        rw [Rep] at hr
        obtain ⟨_, _, _, hr⟩ := hr
        obtain ⟨_, p, hp, hv⟩ := (hr e sz' vals hrow).2 hn
        have hyl : ys.length = len := by rw [← h, List.length_take, List.length_drop]; omega
        rcases hok.live hrow with ⟨hl, hnil⟩ | ⟨b, cap, cs, hl, h1, h2, h3, h4, h5, h6⟩
        · rw [hp] at hl; simp at hl; subst hl
          simp only [ownv] at hv
          obtain ⟨⟨ao, rfl⟩, _, rfl⟩ := hv
          have hy0 : ys = [] := List.eq_nil_of_length_eq_zero hyl
          subst hy0
          cases ao with
          | none => exact ⟨none, 0, rfl, .inl ⟨rfl, rfl⟩⟩
          | some a => exact ⟨some a, 0, rfl, .inr ⟨a, [], rfl, Elems.nil C sz', fun j u hj => by simp at hj⟩⟩
        · rw [hp] at hl; simp at hl; subst hl
          simp only [ownv] at hv
          obtain ⟨a, c, rfl, _, hsp, hb, _, ho⟩ := hv
          rw [hyl]
          refine ⟨some a, c, rfl, .inr ⟨a, ?_⟩⟩
          by_cases hz : len = 0
          · have : ys = [] := List.eq_nil_of_length_eq_zero (by omega)
            subst this
            exact ⟨[], rfl, Elems.nil C sz', fun j u hj => by simp at hj⟩
          · obtain ⟨vs, k1, k2⟩ := ((h6.drop off).take len).elems
            rw [h] at k1
            refine ⟨vs, rfl, k1, fun j u hj => ?_⟩
            have := k2 j u hj
            have ha : a = ⟨b, off * sz', none⟩ := by
              obtain ⟨x, y, z⟩ := a
              simp only at hsp hb ho
              rw [hsp, hb, ho (by omega)]
            rw [ha, addr_add]
            simpa using this
      · cases h
    · cases h
  all_goals (simp only [elems?] at h; cases h)

/-- append: what it yields, and where -/
theorem run_append' (w : World) (t ty e : TypeId) (i : TypeInfo) (z : Value) (ht : P.underlying t = some (.slice e)) (hi : P.info? e = some i) (hz : i.zero = some z) (hzs : z.cells.size = i.size) (hby : i.bytes ≠ 0)
    (p : Option (Nat × Nat)) (n : Nat) (xs : List Value) (cs : Array Value) (v : Value)
    (hp : match p with | none => (∃ ao, v = .slice ao 0 0) ∧ n = 0 ∧ xs = [] | some (g, cap) => v = .slice (some ⟨g, 0, none⟩) n cap ∧ w.heap[g]? = some (.cells cs e (0, 0)) ∧ cs.size = cap * i.size ∧ n ≤ cap ∧ cap ≤ maxLen ∧ cs.toList.take xs.length = xs ∧ xs.length = n * i.size)
    (a : Addr) (m c : Nat) (news : List Value) (hl : news.length = m * i.size) (hnews : ∀ j u, news[j]? = some u → w.cell? (a.add j) = some u) (h1 : ∀ u ∈ news, u.oneCell' = true) (hm0 : p = none → 0 < m)
    (hbytes : (n + m) * i.bytes ≤ 140737488355328) :
    ∃ b' cap' cs' w', (Builtin.append_ #[t, t] ty #[v, .slice (some a) m c]).run P w = .ok (.slice (some ⟨b', 0, none⟩) (n + m) cap') w' ∧ w.grownBy w' (p.map (·.1)) ∧ (p.map (·.1) = some b' ∨ w.heap.size ≤ b') ∧
      w'.heap[b']? = some (.cells cs' e (0, 0)) ∧ cs'.size = cap' * i.size ∧ cap' ≤ maxLen ∧ n + m ≤ cap' ∧ cs'.toList.take (xs ++ news).length = xs ++ news ∧ (m = 0 → p = some (b', cap')) := by
  have hsmall : n + m ≤ 140737488355328 := Nat.le_trans (Nat.le_mul_of_pos_right _ (by omega)) hbytes
  have h63 : n + m ≤ maxLen := by simp only [maxLen]; omega
  cases p with
  | none =>
    obtain ⟨⟨ao, rfl⟩, rfl, rfl⟩ := hp
    have hm := hm0 rfl
    cases ao with
    | some b =>
      have hr := run_append_grow (P := P) w t ty e i z ht hi hz b 0 0 [] (by simp) (by simp) a m c news hl hnews (by omega) (by omega) (growslice_fits (by omega) hbytes)
      have hge := grownCap_ge w (0 + m) 0 e
      refine ⟨w.heap.size, grownCap w (0 + m) 0 e, _, _, hr, ⟨rfl, rfl, rfl, by simp, fun k hk _ => ?_⟩, .inr (Nat.le_refl _), heap_alloc_new w.drew _, ?_, grownCap_le_maxLen w (0 + m) 0 e (by omega), by omega, ?_, fun h => by omega⟩
      · exact heap_alloc_old w.drew _ hk
      · simp only [Array.size_append, List.size_toArray, size_zeroCells, hzs, hl, List.length_nil]
        rw [show 0 + m * i.size + (grownCap w (0 + m) 0 e - (0 + m)) * i.size = (m + (grownCap w (0 + m) 0 e - (0 + m))) * i.size from by rw [Nat.add_mul]; omega]
        congr 1; omega
      · simp
    | none =>
    have hr := run_append_nil (P := P) w t ty e i z ht hi hz a m c news hl hnews hm (by omega) (by simp only [Nat.zero_add] at hbytes; omega)
    have hge := grownCap_ge w m 0 e
    rw [Nat.zero_add]
    refine ⟨w.heap.size, grownCap w m 0 e, _, _, hr, ⟨rfl, rfl, rfl, by simp, fun k hk _ => ?_⟩, .inr (Nat.le_refl _), heap_alloc_new w.drew _, ?_, grownCap_le_maxLen w m 0 e (by omega), by omega, ?_, fun h => by omega⟩
    · exact heap_alloc_old w.drew _ hk
    · simp only [Array.size_append, List.size_toArray, size_zeroCells, hzs, hl, ← Nat.add_mul]
      congr 1; omega
    · simp
  | some q =>
    obtain ⟨g, cap⟩ := q
    obtain ⟨rfl, hg, hcs, hnc, hcm, htake, hxl⟩ := hp
    by_cases hroom : n + m ≤ cap
    · have hfit : n * i.size + news.length ≤ cs.size := by rw [hl, hcs, ← Nat.add_mul]; exact Nat.mul_le_mul_right _ hroom
      have hr := run_append_room (P := P) w t ty e i ht hi g n cap cs hg a m c news hl hnews h1 hroom hfit
      refine ⟨g, cap, _, _, hr, ⟨rfl, rfl, rfl, by simp, fun k _ hk => setRow_other w g k _ (fun e => hk (by simp [e]))⟩, .inl rfl, setRow_heap w g cs _ e _ hg, ?_, hcm, hroom, ?_, fun _ => rfl⟩
      · simp only [List.size_toArray, List.length_append, List.length_take, List.length_drop, Array.length_toList]
        omega
      · rw [← hxl, htake]
        exact List.take_left
    · have holds : ∀ j u, xs[j]? = some u → w.cell? ((⟨g, 0, none⟩ : Addr).add j) = some u := fun j u hj => by
        rw [addr_add]; exact cellsAt_row hg htake j u hj
      have hr := run_append_grow (P := P) w t ty e i z ht hi hz ⟨g, 0, none⟩ n cap xs hxl holds a m c news hl hnews (by omega) (by omega) (growslice_fits (by omega) hbytes)
      have hge := grownCap_ge w (n + m) cap e
      refine ⟨w.heap.size, grownCap w (n + m) cap e, _, _, hr, ⟨rfl, rfl, rfl, by simp, fun k hk _ => ?_⟩, .inr (Nat.le_refl _), heap_alloc_new w.drew _, ?_, grownCap_le_maxLen w (n + m) cap e h63, hge, ?_, fun h => by omega⟩
      · exact heap_alloc_old w.drew _ hk
      · simp only [Array.size_append, List.size_toArray, size_zeroCells, hzs, hl, hxl, ← Nat.add_mul]
        congr 1; omega
      · simp only [Array.toList_append, List.append_assoc]
        rw [← List.append_assoc]
        exact List.take_left

theorem run_append_nothing (w : World) (t ty e : TypeId) (i : TypeInfo) (ht : P.underlying t = some (.slice e)) (hi : P.info? e = some i) (ao : Option Addr) (n cap c : Nat) (hn : n ≤ cap) :
    (Builtin.append_ #[t, t] ty #[.slice ao n cap, .slice none 0 c]).run P w = .ok (.slice ao n cap) w := by
  cases ao <;> simp [Builtin.append_, run_underlying ht, sizeOf, typeInfo, hi, Builtin.lenOf, hn, Builtin.firstCells, storeCells]

theorem run_appendA (hok : Ok C) {t ty e : TypeId} {i : TypeInfo} {z : Value} (ht : P.underlying t = some (.slice e)) (hi : P.info? e = some i) (hz : i.zero = some z) (hzs : z.cells.size = i.size) (hby : i.bytes ≠ 0)
    {x y : AVal} {cx cy : Value} (hx : Rep C x cx) (hy : Rep C y cy) (h : evAppend C.rows e i.size i.bytes x y K) :
    ∃ cv v C', (Builtin.append_ #[t, t] ty #[cx, cy]).run P C.w = .ok cv C'.w ∧ Rep C' v cv ∧ Ok C' ∧ Later C.rows.length C C' ∧ K v C'.rows := by
  unfold evAppend at h
  split at h
  · exact h.elim
  rename_i ys hys
  obtain ⟨ao, c, rfl, hsrc⟩ := source hok hy hys
  split at h
  · -- nil
    obtain ⟨hb, hk⟩ := h
    rw [Rep] at hx
    obtain ⟨ax, rfl⟩ := hx
    by_cases hz0 : ys = []
    · subst hz0
      have hnil := push_nil hok e i.size
      refine ⟨.slice ax 0 0, _, ⟨C.rows ++ [.live e i.size []], C.phi ++ [none], C.om, C.w, C.pm⟩, ?_, ?_, hnil.1, hnil.2, hk⟩
      · rcases hsrc with ⟨rfl, _⟩ | ⟨a, vs, rfl, he, hc⟩
        · exact run_append_nothing C.w t ty e i ht hi ax 0 0 c (Nat.le_refl _)
        · cases ax <;> simp [Builtin.append_, run_underlying ht, sizeOf, typeInfo, hi, Builtin.lenOf, Builtin.firstCells, loadCells, loadCellsFrom, storeCells]
      · rw [Rep]
        refine ⟨hok.pm, ⟨_, _, rfl⟩, by simp, fun e' sz' vals' h => ?_⟩
        simp at h
        obtain ⟨rfl, rfl, rfl⟩ := h
        exact ⟨by simp, fun _ => ⟨by simp, none, by simp [← hok.plen], ⟨_, rfl⟩, rfl, rfl⟩⟩
    · rcases hsrc with ⟨rfl, hnil⟩ | ⟨a, vs, rfl, he, hc⟩
      · exact (hz0 hnil).elim
      · have hpos : 0 < ys.length := List.length_pos_iff.2 hz0
        obtain ⟨b', cap', cs', w', r1, r2, r3, r4, r5, r6, r7, r8, r9⟩ := run_append' (P := P) C.w t ty e i z ht hi hz hzs hby none 0 [] #[] (.slice ax 0 0) ⟨⟨_, rfl⟩, rfl, rfl⟩ a ys.length c vs he.length hc he.one (fun _ => hpos) (by simpa using hb)
        rw [Nat.zero_add] at r1 r7
        rw [List.nil_append] at r8
        simp only [Option.map_none] at r2 r3
        have hbs : C.w.heap.size ≤ b' := by rcases r3 with r3 | r3; · cases r3
                                            · exact r3
        -- the new block is some block past the old ones: first the row without memory, then its place
        have hnil := push_nil hok e i.size
        have hrow : (C.rows ++ [Row.live e i.size []])[C.rows.length]? = some (.live e i.size []) := by simp
        have hphi : (C.phi ++ [none])[C.rows.length]? = some (none : Option (Nat × Nat)) := by simp [← hok.plen]
        have hset := set_row hnil.1 (r := C.rows.length) hrow hphi b' cap' cs' ys vs w' (by simpa using r2) (.inr hbs) r4 r5 r6 r7 (he.ext hnil.2.ext) r8 (by simp) (fun h => by simp at h; omega)
        refine ⟨_, .own C.rows.length ys.length 0 ys.length, _, r1, ?_, hset.1, (hnil.2.trans hset.2 (by simp)), ?_⟩
        · rw [Rep]
          refine ⟨hok.pm, ⟨_, _, rfl⟩, by simp, fun e' sz' vals' h => ?_⟩
          simp at h
          obtain ⟨rfl, rfl, rfl⟩ := h
          exact ⟨by simp, fun _ => ⟨by simp, some (b', cap'), by simp [← hok.plen], ⟨b', 0, none⟩, cap', rfl, r7, rfl, rfl, fun _ => ⟨rfl, rfl⟩, fun _ => by simp⟩⟩
        · simpa using hk
  · -- a row
    rename_i r n off len
    split at h
    · rename_i e' sz' vals hrow
      obtain ⟨rfl, rfl, hn, rfl, rfl, hb, hk⟩ := h
      rw [Rep] at hx
      obtain ⟨_, _, hrl, hx⟩ := hx
      obtain ⟨_, p, hp, hv⟩ := (hx e' i.size vals hrow).2 hn
      have hpl : r < C.phi.length := by rw [hok.plen]; exact hrl
      -- what there is
      have hown : ∃ cs xs, Elems C i.size vals xs ∧ (match p with | none => (∃ ao, cx = .slice ao 0 0) ∧ len = 0 ∧ xs = [] | some (g, cap) => cx = .slice (some ⟨g, 0, none⟩) len cap ∧ C.w.heap[g]? = some (.cells cs e' (0, 0)) ∧ cs.size = cap * i.size ∧ len ≤ cap ∧ cap ≤ maxLen ∧ cs.toList.take xs.length = xs ∧ xs.length = len * i.size) := by
        rcases hok.live hrow with ⟨hl, hnil⟩ | ⟨b, cap, cs, hl, h1, h2, h3, h4, h5, h6⟩
        · rw [hp] at hl; simp at hl; subst hl; subst hnil
          simp only [ownv] at hv
          exact ⟨#[], [], Elems.nil C _, hv.1, hv.2.2, rfl⟩
        · rw [hp] at hl; simp at hl; subst hl
          simp only [ownv] at hv
          obtain ⟨a, c', rfl, hlc, hsp, hbk, hoff, _⟩ := hv
          obtain ⟨vs, k1, k2⟩ := h6.elems
          obtain ⟨ho, rfl⟩ := hoff trivial
          have ha : a = ⟨b, 0, none⟩ := by
            obtain ⟨x, y, z⟩ := a
            simp only at hsp hbk ho
            rw [hsp, hbk, ho]
          subst ha
          exact ⟨cs, vs, k1, rfl, h2, h3, hlc, h4, take_of_cellsAt h2 k2, by rw [k1.length, hn]⟩
      obtain ⟨cs, xs, hxe, hst⟩ := hown
      have hcx : ∃ ax cc, cx = .slice ax len cc ∧ len ≤ cc := by
        cases p with
        | none => obtain ⟨⟨ao, e⟩, e2, _⟩ := hst; exact ⟨ao, 0, by rw [e, e2], by omega⟩
        | some q => exact ⟨_, _, hst.1, hst.2.2.2.1⟩
      obtain ⟨ax, cc, hcx⟩ := hcx
      have nothing : ys = [] → (Builtin.append_ #[t, t] ty #[cx, .slice ao ys.length c]).run P C.w = .ok cx C.w → ∃ cv v C', (Builtin.append_ #[t, t] ty #[cx, .slice ao ys.length c]).run P C.w = .ok cv C'.w ∧ Rep C' v cv ∧ Ok C' ∧ Later C.rows.length C C' ∧ K v C'.rows := by
        intro hy0 hrun
        subst hy0
        refine ⟨cx, .own r len 0 len, C, hrun, ?_, hok, Later.refl C, ?_⟩
        · rw [Rep]
          exact ⟨hok.pm, ⟨_, _, hcx.1⟩, hrl, hx⟩
        · have hset : C.rows.set r (.live e' i.size (vals ++ [])) = C.rows := by
            rw [List.append_nil]
            have hre : C.rows[r] = .live e' i.size vals := by
              rw [List.getElem?_eq_getElem hrl] at hrow; exact Option.some.inj hrow
            rw [← hre]
            exact List.set_getElem_self hrl
          rw [hset] at hk
          simpa using hk
      rcases hsrc with ⟨rfl, hy0⟩ | ⟨a, vs, rfl, he, hc⟩
      · refine nothing hy0 ?_
        rw [hcx.1, hy0]
        exact run_append_nothing C.w t ty e' i ht hi _ _ _ _ hcx.2
      · by_cases hcase : p = none ∧ ys = []
        · obtain ⟨hpn, hy0⟩ := hcase
          refine nothing hy0 ?_
          subst hpn; subst hy0
          obtain ⟨⟨ao, e⟩, _⟩ := hst
          rw [e]
          cases ao <;> simp [Builtin.append_, run_underlying ht, sizeOf, typeInfo, hi, Builtin.lenOf, Builtin.firstCells, loadCells, loadCellsFrom, storeCells]
        · obtain ⟨b', cap', cs', w', r1, r2, r3, r4, r5, r6, r7, r8, r9⟩ := run_append' (P := P) C.w t ty e' i z ht hi hz hzs hby p len xs cs cx hst a ys.length c vs he.length hc he.one
            (fun hpn => List.length_pos_iff.2 fun hy0 => hcase ⟨hpn, hy0⟩) hb
          have hset := set_row hok hrow hp b' cap' cs' (vals ++ ys) (xs ++ vs) w' r2 r3 r4 r5 r6 (by rw [List.length_append, ← hn]; exact r7) (hxe.append he) r8 (by simp)
            (fun h => r9 (by simp at h; simp [h]))
          refine ⟨_, .own r (len + ys.length) 0 (len + ys.length), _, r1, ?_, hset.1, hset.2, hk⟩
          rw [Rep]
          refine ⟨hok.pm, ⟨_, _, rfl⟩, by simpa using hrl, fun e2 sz2 vals2 h2 => ?_⟩
          simp only [List.getElem?_set, if_true, hrl] at h2
          simp at h2
          obtain ⟨rfl, rfl, rfl⟩ := h2
          refine ⟨by simp [hn], fun _ => ⟨by simp, some (b', cap'), ?_, ⟨b', 0, none⟩, cap', rfl, r7, rfl, rfl, fun _ => ⟨rfl, rfl⟩, fun _ => by simp⟩⟩
          show (C.phi.set r (some (b', cap')))[r]? = _
          rw [List.getElem?_set, if_pos rfl, if_pos hpl]
    · exact h.elim
  · exact h.elim

end
end Go.Abs
end

section
/- Each operation does what its abstract form says (3). -/
namespace Go.Abs
variable [Dr]
section
variable {P : Program} {C : Ctx} {K : AVal → List Row → Prop}

theorem run_alloc' (hok : Ok C) {t : TypeId} {z : List AVal} (hz : zeroOf P t = some z) (h : K (.ref C.rows.length 1 0 0) (C.rows ++ [.live t z.length [z]])) :
    ∃ cv v C', (Instr.alloc t true (.tuple #[])).run P C.w = .ok cv C'.w ∧ Rep C' v cv ∧ Ok C' ∧ Later C.rows.length C C' ∧ K v C'.rows := by
  obtain ⟨i, zv, hi, hzv, habs, hl, hpos, hsz⟩ := zeroOf_spec hz
  obtain ⟨k1, k2⟩ := absVs_rep (C := C) habs
  have hlen := k1.length
  have hp := push_row hok t z.length 1 zv.cells [z] zv.cells.toList (C.w.alloc (.cells zv.cells t)) ⟨rfl, rfl, rfl, rfl⟩ (by omega) (by simp [maxLen]) (by simp) (elems_one rfl k1 (ones_rep k1 k2)) List.take_length
  refine ⟨.pointer (some ⟨C.w.heap.size, 0, none⟩), _, _, ?_, (hok.pm ▸ new_ref hok.plen), hp.1, hp.2, h⟩
  simp [Instr.alloc, run_zero hi hzv, newVar, newRow]

theorem run_box' (hok : Ok C) {t : TypeId} {n : Nat} {x : AVal} {cx : Value} (hx : Rep C x cx) (h1 : (acells x).length = n) (h2 : (acells x).all one = true)
    (h : K (.ref C.rows.length 1 0 0) (C.rows ++ [.live t n [acells x]])) :
    ∃ cv v C', (Instr.box t cx).run P C.w = .ok cv C'.w ∧ Rep C' v cv ∧ Ok C' ∧ Later C.rows.length C C' ∧ K v C'.rows := by
  obtain ⟨k1, k2⟩ := cells_rep hx h2
  have hlen := k1.length
  simp only [Array.length_toList] at hlen
  have hp := push_row hok t n 1 cx.cells [acells x] cx.cells.toList (C.w.alloc (.cells cx.cells t)) ⟨rfl, rfl, rfl, rfl⟩ (by omega) (by simp [maxLen]) (by simp) (elems_one h1 k1 k2) List.take_length
  refine ⟨.pointer (some ⟨C.w.heap.size, 0, none⟩), _, _, ?_, (hok.pm ▸ new_ref hok.plen), hp.1, hp.2, h⟩
  simp [Instr.box, newVar, newRow]

theorem run_mapM_places {w : World} : ∀ (fs : List Field) (ps : List (Nat × Nat)), fs.mapM (fun f => (sizeT P f.type).map fun n => (f.offset, n)) = some ps →
    (fs.mapM (m := Sem) fun f => do pure (f.offset, ← sizeOf f.type)).run P w = .ok ps w
  | [], ps, h => by simp at h; subst h; simp
  | f :: fs, ps, h => by
    simp only [List.mapM_cons] at h
    cases hs : sizeT P f.type with
    | none => simp [hs] at h
    | some n =>
      cases hr : fs.mapM (fun f => (sizeT P f.type).map fun n => (f.offset, n)) with
      | none => simp [hs, hr] at h
      | some rest =>
        simp [hs, hr] at h
        subst h
        have ih := run_mapM_places (w := w) fs rest hr
        simp only [List.mapM_cons, Sem.run_bind, run_sizeOf hs, Result.andThen_ok, Sem.run_pure, ih]

theorem zip_map_pair (parts : List (Nat × Operand)) (ρ : Operand → Value) : (parts.map fun p => (p.1, ρ p.2)) = (parts.map (·.1)).zip ((parts.map (·.2)).map ρ) := by
  induction parts with
  | nil => rfl
  | cons p ps ih => simp [ih]

theorem run_build' {t : TypeId} {z : List AVal} {fields : Array Field} {places : List (Nat × Nat)} {parts : Array (Nat × Operand)} {ρ : Operand → Value} {vs cs : List AVal} {w : World}
    (hz : zeroOf P t = some z) (hu : P.underlying t = some (.struct fields)) (hp : fields.toList.mapM (fun f => (sizeT P f.type).map fun n => (f.offset, n)) = some places)
    (ha : (parts.toList.map (·.1)).all (fun i => (places[i]?).isSome) = true) (hr : RepL C vs ((parts.toList.map (·.2)).map ρ))
    (hf : fillC z ((parts.toList.map (·.1)).filterMap (places[·]?)) vs = some cs) (h1 : (vs.all fun v => (acells v).all one) = true) :
    ∃ cv, (Instr.build t (parts.map fun (i, x) => (i, ρ x))).run P w = .ok cv w ∧ Rep C (.agg cs) cv := by
  obtain ⟨i, zv, hi, hzv, habs, hl, hpos, hsz⟩ := zeroOf_spec hz
  obtain ⟨k1, k2⟩ := absVs_rep (C := C) habs
  obtain ⟨r, r1, r2, _⟩ := fill_rep (C := C) (fun (i : Nat) => places[i]?) (parts.toList.map (·.1)) _ vs _ z cs zv.cells rfl ha hr hf h1 k1
  refine ⟨.agg r, ?_, by rw [Rep]; exact ⟨r, rfl, r2⟩⟩
  have hm := run_mapM_places (P := P) (w := w) fields.toList places hp
  have hm' : (fields.mapM (m := Sem) fun f => do pure (f.offset, ← sizeOf f.type)).run P w = .ok places.toArray w := by
    rw [Array.mapM_eq_mapM_toList]
    simp only [Sem.run_map, hm, Result.andThen_ok]
  have hz2 : (parts.map fun (i, x) => (i, ρ x)).toList = (parts.toList.map (·.1)).zip ((parts.toList.map (·.2)).map ρ) := by
    rw [Array.toList_map]; exact zip_map_pair _ _
  simp only [Instr.build, Sem.run_bind, run_zero hi hzv, Result.andThen_ok, run_underlying hu, hm']
  have : (fun (x : Nat) => places.toArray[x]?) = fun (i : Nat) => places[i]? := by funext x; simp
  rw [hz2, this, r1]
  simp

theorem run_bslice' (hok : Ok C) {t e : TypeId} {z : List AVal} {len : Nat} {parts : Array (Nat × Operand)} {ρ : Operand → Value} {vs : List AVal} {es : List (List AVal)}
    (hu : P.underlying t = some (.slice e)) (hz : zeroOf P e = some z) (hlen : len * z.length ≤ 16777216)
    (hr : RepL C vs ((parts.toList.map (·.2)).map ρ)) (hf : fillE (List.replicate len z) z.length (parts.toList.map (·.1)) vs = some es) (h1 : (vs.all fun v => (acells v).all one) = true)
    (h : K (.own C.rows.length len 0 len) (C.rows ++ [.live e z.length es])) :
    ∃ cv v C', (Instr.buildSlice t len (parts.map fun (i, x) => (i, ρ x))).run P C.w = .ok cv C'.w ∧ Rep C' v cv ∧ Ok C' ∧ Later C.rows.length C C' ∧ K v C'.rows := by
  obtain ⟨i, zv, hi, hzv, habs, hl, hpos, hsz⟩ := zeroOf_spec hz
  obtain ⟨k1, k2⟩ := absVs_rep (C := C) habs
  have ho := ones_rep k1 k2
  obtain ⟨f1, f2, f3⟩ := fillE_fillC _ vs _ es hf (by intro x hx; rw [List.eq_of_mem_replicate hx])
  rw [List.length_replicate] at f3
  -- the zero cells
  have hz0 : RepL C (List.replicate len z).flatten (List.replicate len zv.cells.toList).flatten ∧ allOne (List.replicate len zv.cells.toList).flatten := by
    clear hf f1 f3 hlen h
    induction len with
    | zero => simp [RepL, allOne]
    | succ n ih =>
      rw [List.replicate_succ, List.replicate_succ, List.flatten_cons, List.flatten_cons]
      refine ⟨k1.append ih.1, fun v hv => ?_⟩
      rcases List.mem_append.1 hv with hv | hv
      · exact ho v hv
      · exact ih.2 v hv
  have hsize : i.size = z.length := hl.symm
  have hinit : ((Array.range (len * i.size)).map (zv.cells[· % zv.cells.size]!)).toList = (List.replicate len zv.cells.toList).flatten := by
    rw [← hsz]; exact zeroRow zv.cells len
  obtain ⟨r, r1, r2, r3⟩ := fill_rep (C := C) (fun j => some (j * z.length, z.length)) (parts.toList.map (·.1)) ((parts.toList.map (·.1)).map fun j => (j * z.length, z.length)) vs _ _ es.flatten
    ((Array.range (len * i.size)).map (zv.cells[· % zv.cells.size]!)) (by rw [← List.filterMap_eq_map]; rfl) (by simp) hr f1 h1 (by rw [hinit]; exact hz0.1)
  have r4 := r3 (by rw [hinit]; exact hz0.2)
  have helems : Elems C z.length es r.toList := ⟨f2, r2, r4⟩
  have hrl := helems.length
  simp only [Array.length_toList] at hrl
  have hlm : len ≤ maxLen := by
    have : len ≤ len * z.length := Nat.le_mul_of_pos_right _ (by omega)
    simp only [maxLen]; omega
  have hp := push_row hok e z.length len r es r.toList (C.w.alloc (.cells r e)) ⟨rfl, rfl, rfl, rfl⟩ (by rw [hrl, f3]) hlm (by omega) helems List.take_length
  refine ⟨.slice (some ⟨C.w.heap.size, 0, none⟩) len len, .own C.rows.length len 0 len, _, ?_, ?_, hp.1, hp.2, h⟩
  · have hz2 : (parts.map fun (i, x) => (i, ρ x)).toList = (parts.toList.map (·.1)).zip ((parts.toList.map (·.2)).map ρ) := by
      rw [Array.toList_map]; exact zip_map_pair _ _
    have hso : (sizeOf e).run P C.w = .ok i.size C.w := by simp [sizeOf, typeInfo, hi]
    rw [← hsize] at r1 hlen
    simp only [Instr.buildSlice, Sem.run_bind, run_underlying hu, Result.andThen_ok, hso, Sem.run_ite]
    rw [if_neg (by omega)]
    by_cases h0 : len * i.size = 0
    · have hlen0 : len = 0 := by
        rcases Nat.mul_eq_zero.1 h0 with h | h
        · exact h
        · omega
      subst hlen0
      have er : Array.map (fun x => zv.cells[x % zv.cells.size]!) (Array.range (0 * i.size)) = #[] := by simp
      have eg : Array.map (fun x => (#[] : Array Value)[x % (#[] : Array Value).size]!) (Array.range (0 * i.size)) = #[] := by simp
      rw [er] at r1
      rw [if_pos h0]
      simp only [Sem.run_pure, Result.andThen_ok]
      rw [eg, hz2, r1]
      simp [newRow]
    · simp only [h0, if_false, Sem.run_bind, run_zero hi hzv, Sem.run_pure, Result.andThen_ok]
      rw [hz2, r1]
      simp [newRow]
  · have := new_own (rows := C.rows) (phi := C.phi) (om := C.om) (w := C.w.alloc (.cells r e)) (e := e) (sz := z.length) (b := C.w.heap.size) (cap := len) (vals := es) hok.plen (by omega)
    rw [f3] at this
    rw [hok.pm]
    exact this

end
end Go.Abs
end

section
/- Each operation does what its abstract form says (4). -/
namespace Go.Abs
variable [Dr]
section
variable {P : Program} {C : Ctx} {K : AVal → List Row → Prop}

theorem run_mkslice' (hok : Ok C) {t e : TypeId} {z : List AVal} {by_ : Nat} (hu : P.underlying t = some (.slice e)) (hz : zeroOf P e = some z) (hb : (P.info? e).map (·.bytes) = some by_)
    {k k' : IntKind} {l c : Int} (h1 : 0 ≤ l) (h2 : l ≤ c) (h3 : c * by_ ≤ 140737488355328) (h4 : c ≤ 140737488355328)
    (h : K (.own C.rows.length l.toNat 0 l.toNat) (C.rows ++ [.live e z.length (List.replicate l.toNat z)])) :
    ∃ cv v C', (Instr.makeSlice t (.int k l) (.int k' c)).run P C.w = .ok cv C'.w ∧ Rep C' v cv ∧ Ok C' ∧ Later C.rows.length C C' ∧ K v C'.rows := by
  obtain ⟨i, zv, hi, hzv, habs, hl, hpos, hsz⟩ := zeroOf_spec hz
  obtain ⟨k1, k2⟩ := absVs_rep (C := C) habs
  have ho := ones_rep k1 k2
  have hby : i.bytes = by_ := by simpa [hi] using hb
  subst hby
  have hz0 : ∀ n, RepL C (List.replicate n z).flatten (List.replicate n zv.cells.toList).flatten ∧ allOne (List.replicate n zv.cells.toList).flatten := by
    intro n
    induction n with
    | zero => simp [RepL, allOne]
    | succ n ih =>
      rw [List.replicate_succ, List.replicate_succ, List.flatten_cons, List.flatten_cons]
      refine ⟨k1.append ih.1, fun v hv => ?_⟩
      rcases List.mem_append.1 hv with hv | hv
      · exact ho v hv
      · exact ih.2 v hv
  have hinit : ((Array.range (c.toNat * i.size)).map (zv.cells[· % zv.cells.size]!)).toList = (List.replicate c.toNat zv.cells.toList).flatten := by
    rw [← hsz]; exact zeroRow zv.cells c.toNat
  have hcs : ((Array.range (c.toNat * i.size)).map (zv.cells[· % zv.cells.size]!)).size = c.toNat * z.length := by simp [hl]
  have helems : Elems C z.length (List.replicate l.toNat z) (List.replicate l.toNat zv.cells.toList).flatten :=
    ⟨fun x hx => by rw [List.eq_of_mem_replicate hx], (hz0 _).1, (hz0 _).2⟩
  have htake : ((Array.range (c.toNat * i.size)).map (zv.cells[· % zv.cells.size]!)).toList.take (List.replicate l.toNat zv.cells.toList).flatten.length = (List.replicate l.toNat zv.cells.toList).flatten := by
    rw [hinit, show c.toNat = l.toNat + (c.toNat - l.toNat) from by omega, ← List.replicate_append_replicate, List.flatten_append]
    exact List.take_left
  have hp := push_row hok e z.length c.toNat _ (List.replicate l.toNat z) _ (C.w.alloc (.cells ((Array.range (c.toNat * i.size)).map (zv.cells[· % zv.cells.size]!)) e)) ⟨rfl, rfl, rfl, rfl⟩ hcs (by simp only [maxLen]; omega) (by simp; omega) helems htake
  refine ⟨.slice (some ⟨C.w.heap.size, 0, none⟩) l.toNat c.toNat, .own C.rows.length l.toNat 0 l.toNat, _, ?_, ?_, hp.1, hp.2, h⟩
  · have wl : IntKind.i64.wrap l = l := by simp only [IntKind.wrap, IntKind.bits, IntKind.signed]; simp; omega
    have wc : IntKind.i64.wrap c = c := by simp only [IntKind.wrap, IntKind.bits, IntKind.signed]; simp; omega
    have hso : (sizeOf e).run P C.w = .ok i.size C.w := by simp [sizeOf, typeInfo, hi]
    have hti : (typeInfo e).run P C.w = .ok i C.w := by simp [typeInfo, hi]
    have hb2 : (i.bytes : Int) * c ≤ 140737488355328 := by rw [Int.mul_comm]; exact h3
    have t1 : decide (c < 0) = false := by simp; omega
    have t2 : decide ((281474976710656 : Int) < i.bytes * c) = false := by simp; omega
    have t3 : decide (l < 0) = false := by simp; omega
    have t4 : decide (c < l) = false := by simp; omega
    simp only [Instr.makeSlice, Sem.run_bind, run_underlying hu, Result.andThen_ok, asInt, asIntOf, Sem.run_pure, hti, wl, wc]
    have hcond : ¬ ((decide (c < 0) || decide ((i.bytes : Int) * c > 2 ^ 48) || decide (l < 0) || decide (l > c)) = true) := by
      simp; omega
    rw [if_neg hcond]
    simp only [Sem.run_bind, run_askRoom, Result.andThen_ok, hso, Sem.run_pure, Sem.run_ite]
    by_cases h0 : c.toNat * i.size = 0
    · have hc0 : c.toNat = 0 := by
        rcases Nat.mul_eq_zero.1 h0 with h | h
        · exact h
        · omega
      rw [if_pos h0]
      have hr0 : Array.range 0 = #[] := rfl
      simp [hc0, newRow, hr0]
    · rw [if_neg h0]
      simp [run_zero hi hzv, newRow]
  · have := new_own (rows := C.rows) (phi := C.phi) (om := C.om) (w := C.w.alloc (.cells ((Array.range (c.toNat * i.size)).map (zv.cells[· % zv.cells.size]!)) e)) (e := e) (sz := z.length) (b := C.w.heap.size) (cap := c.toNat) (vals := List.replicate l.toNat z) hok.plen (by simp; omega)
    rw [hok.pm]
    simpa using this

theorem run_append_zeros (w : World) (t u ty e : TypeId) (i : TypeInfo) (z : Value) (ht : P.underlying t = some (.slice e)) (hu : P.underlying u = some (.int .i64)) (hi : P.info? e = some i) (hz : i.zero = some z) (hs : 0 < i.size) (hby : i.bytes ≠ 0)
    (ao : Option Addr) (k : IntKind) (n : Nat) (h0 : 0 < n) (h48 : n * i.bytes ≤ 140737488355328) :
    (Builtin.append_ #[t, u] ty #[.slice ao 0 0, .int k n]).run P w =
      .ok (.slice (some ⟨w.heap.size, 0, none⟩) n (grownCap w n 0 e)) (w.drew.alloc (.cells (Builtin.zeroCells z.cells n ++ Builtin.zeroCells z.cells (grownCap w n 0 e - n)) e)) := by
  have hsmall : n ≤ 140737488355328 := Nat.le_trans (Nat.le_mul_of_pos_right _ (by omega)) h48
  have wl : IntKind.i64.wrap (n : Int) = n := by simp only [IntKind.wrap, IntKind.bits, IntKind.signed]; simp; omega
  have hn : n ≠ 0 := by omega
  have h63' : ¬ (9223372036854775807 < (n : Int)) := by omega
  have h48' : ¬ (281474976710656 < Builtin.nextslicecap n 0 * i.bytes) := by rw [nextslicecap_zero h0]; omega
  have h48i : ¬ ((281474976710656 : Int) < (n : Int) * (i.bytes : Int)) := by
    have : ((n * i.bytes : Nat) : Int) ≤ 140737488355328 := by omega
    rw [Int.natCast_mul] at this
    omega
  have hneg : ¬ ((n : Int) < 0) := by omega
  have hns : ¬ (n * i.size = 0) := by
    intro h
    rcases Nat.mul_eq_zero.1 h with h | h <;> omega
  have hs0 : ¬ (i.size = 0) := by omega
  cases ao <;> simp [Builtin.append_, run_underlying ht, run_underlying hu, sizeOf, typeInfo, zeroValue, hi, hz, asInt, asIntOf, wl, hn, hns, hs0, hneg, h63', h48', h48i, Question.forced, Builtin.firstCells, loadCells, loadCellsFrom, newRow, grownCap, run_askRoom]

theorem run_appendZ (hok : Ok C) {t u ty e : TypeId} {z : List AVal} {by_ : Nat} (ht : P.underlying t = some (.slice e)) (hu : P.underlying u = some (.int .i64)) (hz : zeroOf P e = some z) (hb : (P.info? e).map (·.bytes) = some by_) (hb0 : by_ ≠ 0)
    {cx : Value} {k : IntKind} {n : Int} (hx : Rep C .nils cx) (h0 : 0 < n) (h48 : n * by_ ≤ 140737488355328)
    (h : K (.own C.rows.length n.toNat 0 n.toNat) (C.rows ++ [.live e z.length (List.replicate n.toNat z)])) :
    ∃ cv v C', (Builtin.append_ #[t, u] ty #[cx, .int k n]).run P C.w = .ok cv C'.w ∧ Rep C' v cv ∧ Ok C' ∧ Later C.rows.length C C' ∧ K v C'.rows := by
  obtain ⟨i, zv, hi, hzv, habs, hl, hpos, hsz⟩ := zeroOf_spec hz
  obtain ⟨k1, k2⟩ := absVs_rep (C := C) habs
  have ho := ones_rep k1 k2
  have hby : i.bytes = by_ := by simpa [hi] using hb
  subst hby
  obtain ⟨m, rfl⟩ : ∃ m : Nat, n = m := ⟨n.toNat, by omega⟩
  have h48' : m * i.bytes ≤ 140737488355328 := by
    have : ((m * i.bytes : Nat) : Int) ≤ 140737488355328 := by rw [Int.natCast_mul]; exact h48
    omega
  rw [Int.toNat_natCast] at h
  rw [Rep] at hx
  obtain ⟨ao, rfl⟩ := hx
  have hz0 : ∀ n, RepL C (List.replicate n z).flatten (List.replicate n zv.cells.toList).flatten ∧ allOne (List.replicate n zv.cells.toList).flatten := by
    intro n
    induction n with
    | zero => simp [RepL, allOne]
    | succ n ih =>
      rw [List.replicate_succ, List.replicate_succ, List.flatten_cons, List.flatten_cons]
      refine ⟨k1.append ih.1, fun v hv => ?_⟩
      rcases List.mem_append.1 hv with hv | hv
      · exact ho v hv
      · exact ih.2 v hv
  have hzc : ∀ n, (Builtin.zeroCells zv.cells n).toList = (List.replicate n zv.cells.toList).flatten := fun n => by unfold Builtin.zeroCells; exact zeroRow zv.cells n
  have hge := grownCap_ge C.w m 0 e
  have hsmall : m ≤ 140737488355328 := Nat.le_trans (Nat.le_mul_of_pos_right _ (by omega)) h48'
  have hrun := run_append_zeros (P := P) C.w t u ty e i zv ht hu hi hzv hpos hb0 ao k m (by omega) h48'
  have helems : Elems C z.length (List.replicate m z) (List.replicate m zv.cells.toList).flatten :=
    ⟨fun x hx => by rw [List.eq_of_mem_replicate hx], (hz0 _).1, (hz0 _).2⟩
  have hcs : (Builtin.zeroCells zv.cells m ++ Builtin.zeroCells zv.cells (grownCap C.w m 0 e - m)).size = grownCap C.w m 0 e * z.length := by
    simp only [Array.size_append, size_zeroCells, hsz, hl, ← Nat.add_mul]
    congr 1; omega
  have hp := push_row hok e z.length (grownCap C.w m 0 e) _ (List.replicate m z) _ (C.w.drew.alloc (.cells (Builtin.zeroCells zv.cells m ++ Builtin.zeroCells zv.cells (grownCap C.w m 0 e - m)) e)) ⟨rfl, rfl, rfl, rfl⟩ hcs (grownCap_le_maxLen C.w m 0 e (by simp only [maxLen]; omega)) (by simp; omega) helems
    (by rw [Array.toList_append, hzc]; exact List.take_left)
  refine ⟨_, .own C.rows.length m 0 m, _, hrun, ?_, hp.1, hp.2, h⟩
  have := new_own (rows := C.rows) (phi := C.phi) (om := C.om) (w := C.w.drew.alloc (.cells (Builtin.zeroCells zv.cells m ++ Builtin.zeroCells zv.cells (grownCap C.w m 0 e - m)) e)) (e := e) (sz := z.length) (b := C.w.heap.size) (cap := grownCap C.w m 0 e) (vals := List.replicate m z) hok.plen (by simp; omega)
  rw [hok.pm]
  simpa using this

theorem run_indexAddr' (hok : Ok C) {t e : TypeId} {n : Nat} (hu : P.underlying t = some (.slice e)) (hs : sizeT P e = some n) {x y : AVal} {cx cy : Value} (hx : Rep C x cx) (hy : Rep C y cy)
    (h : evIndexAddr C.rows n x y fun v => K v C.rows) : ∃ cv v, (Instr.indexAt t cx cy).run P C.w = .ok cv C.w ∧ Rep C v cv ∧ K v C.rows := by
  unfold evIndexAddr at h
  split at h
  · rename_i sz' vals k i
    obtain ⟨rfl, h0, h1, hk⟩ := h
    simp only [Rep] at hx hy
    subst hy
    obtain ⟨ao, cap, rfl, _, hr⟩ := hx
    rcases hr with hr | ⟨b, o, rfl, hb, he⟩
    · omega
    · have hi : i.toNat < vals.length := by omega
      obtain ⟨g1, g2⟩ := he.get i.toNat hi
      refine ⟨.pointer (some ⟨b, o + i.toNat * sz', none⟩), _, ?_, ?_, hk⟩
      · simp [Instr.indexAt, asIntOf, run_underlying hu, h0, h1, run_sizeOf hs, addr_add]
      · rw [Rep]; exact ⟨b, o + i.toNat * sz', rfl, hb, g2⟩
  · rename_i r m off len k i
    split at h
    · rename_i e' sz' vals hrow
      obtain ⟨rfl, hn, h0, h1, hk⟩ := h
      rw [Rep] at hy
      subst hy
      have hx' := hx
      rw [Rep] at hx
      obtain ⟨_, _, hrl, hx⟩ := hx
      obtain ⟨hol, p, hp, hv⟩ := (hx e' sz' vals hrow).2 hn
      rcases hok.live hrow with ⟨hl, hnil⟩ | ⟨b, cap, cs, hl, k1, k2, k3, k4, k5, k6⟩
      · subst hnil; simp at hn; omega
      · rw [hp] at hl; simp at hl; subst hl
        simp only [ownv] at hv
        obtain ⟨a, c, rfl, _, hsp, hbk, _, ho⟩ := hv
        have ha : a = ⟨b, off * sz', none⟩ := by
          obtain ⟨x, y, z⟩ := a
          simp only at hsp hbk ho
          rw [hsp, hbk, ho (by omega)]
        subst ha
        refine ⟨.pointer (some ⟨b, off * sz' + i.toNat * sz', none⟩), _, ?_, ?_, hk⟩
        · simp [Instr.indexAt, asIntOf, run_underlying hu, h0, h1, run_sizeOf hs, addr_add]
        · rw [Rep]
          refine ⟨hok.pm, ⟨_, rfl⟩, hrl, fun e2 sz2 vals2 h2 => ?_⟩
          rw [hrow] at h2
          simp at h2
          obtain ⟨rfl, rfl, rfl⟩ := h2
          exact ⟨by omega, fun _ => ⟨by omega, b, cap, hp, by rw [Nat.add_mul]; rfl⟩⟩
    · exact h.elim
  · exact h.elim

theorem run_sliceBounds {len cap : Nat} {lo hi : Option Value} {k k' : IntKind} {a b : Int} {w : World} (hlo : lo = some (.int k a) ∨ (lo = none ∧ a = 0)) (hhi : hi = some (.int k' b) ∨ (hi = none ∧ b = len))
    (h0 : 0 ≤ a) (h1 : a ≤ b) (h2 : b ≤ cap) (isSlice : Bool) : (Instr.sliceBounds isSlice len cap lo hi none).run P w = .ok (a.toNat, b.toNat, cap) w := by
  have hab : a ≤ (b.toNat : Int) := by omega
  rcases hlo with rfl | ⟨rfl, rfl⟩ <;> rcases hhi with rfl | ⟨rfl, rfl⟩ <;>
    simp only [Instr.sliceBounds, Instr.sliceBound, asIntOf, Sem.run_bind, Sem.run_pure, Result.andThen_ok, Sem.run_ite]
  · rw [if_pos ⟨by omega, h2⟩]
    simp only [Result.andThen_ok]
    rw [if_pos ⟨h0, hab⟩]
    rfl
  · rw [if_pos ⟨h0, by omega⟩]
    simp
  · rw [if_pos ⟨by omega, h2⟩]
    simp
  · simp

theorem run_slice' {t e : TypeId} {n : Nat} {x : AVal} {cx : Value} {lo hi : Option AVal} {clo chi : Option Value} (hx : Rep C x cx)
    (hu : P.underlying t = some (.slice e)) (hs : sizeT P e = some n)
    (hlo : (∃ l cl, lo = some l ∧ clo = some cl ∧ Rep C l cl) ∨ (lo = none ∧ clo = none)) (hhi : (∃ l cl, hi = some l ∧ chi = some cl ∧ Rep C l cl) ∨ (hi = none ∧ chi = none))
    (h : evSlice C.rows lo hi n x fun v => K v C.rows) : ∃ cv v, (Instr.sliceAt t cx clo chi none).run P C.w = .ok cv C.w ∧ Rep C v cv ∧ K v C.rows := by
  unfold evSlice at h
  split at h
  · exact h.elim
  rename_i l hl
  split at h
  · rename_i ka a kb b ea eb
    obtain ⟨h0, h1, h2, hk⟩ := h
    have hlo' : clo = some (.int ka a) ∨ (clo = none ∧ a = 0) := by
      rcases hlo with ⟨x, cl, rfl, rfl, hr⟩ | ⟨rfl, rfl⟩
      · simp at ea; subst ea; rw [Rep] at hr; subst hr; exact .inl rfl
      · simp at ea; exact .inr ⟨rfl, ea.2.symm⟩
    have hhi' : chi = some (.int kb b) ∨ (chi = none ∧ b = l) := by
      rcases hhi with ⟨x, cl, rfl, rfl, hr⟩ | ⟨rfl, rfl⟩
      · simp at eb; subst eb; rw [Rep] at hr; subst hr; exact .inl rfl
      · simp at eb; exact .inr ⟨rfl, eb.2.symm⟩
    -- a slice of the model
    have slc : ∀ {ao : Option Addr} {cap : Nat}, l ≤ cap →
        (Instr.sliceAt t (.slice ao l cap) clo chi none).run P C.w = .ok (.slice (if cap = a.toNat then ao else ao.map (·.add (a.toNat * n))) (b.toNat - a.toNat) (cap - a.toNat)) C.w := by
      intro ao cap hc
      simp [Instr.sliceAt, Instr.slice, run_underlying hu, run_sliceBounds (P := P) (w := C.w) (cap := cap) hlo' hhi' h0 h1 (by omega) true, run_sizeOf hs]
    cases x <;> simp only at hk
    case pure sz' vals =>
      obtain ⟨rfl, hk⟩ := hk
      simp [len?] at hl
      subst hl
      rw [Rep] at hx
      obtain ⟨ao, cap, rfl, hle, hr⟩ := hx
      refine ⟨_, _, slc hle, ?_, hk⟩
      rw [Rep]
      have hlen : ((vals.drop a.toNat).take (b.toNat - a.toNat)).length = b.toNat - a.toNat := by rw [List.length_take, List.length_drop]; omega
      refine ⟨_, _, by rw [hlen], by rw [hlen]; omega, ?_⟩
      rcases hr with hr | ⟨bb, o, rfl, hb, he⟩
      · exact .inl (by rw [hlen]; omega)
      · by_cases hz : b.toNat - a.toNat = 0
        · exact .inl (by rw [hlen]; exact hz)
        · right
          refine ⟨bb, o + a.toNat * sz', ?_, hb, (he.drop a.toNat).take _⟩
          rw [if_neg (by omega)]
          simp [addr_add]
    case nils =>
      simp [len?] at hl
      subst hl
      rw [Rep] at hx
      obtain ⟨ao, rfl⟩ := hx
      have ha : a.toNat = 0 := by omega
      have hb : b.toNat = 0 := by omega
      refine ⟨_, _, slc (Nat.le_refl _), ?_, hk⟩
      rw [Rep, ha, hb]
      exact ⟨_, rfl⟩
    case own r m off len =>
      simp [len?] at hl
      subst hl
      split at hk
      · rename_i e' sz' vals hrow
        obtain ⟨rfl, hn, hk⟩ := hk
        rw [Rep] at hx
        obtain ⟨hpm, _, hrl, hx⟩ := hx
        obtain ⟨hol, p, hp, hv⟩ := (hx e' sz' vals hrow).2 hn
        cases p with
        | none =>
          simp only [ownv] at hv
          obtain ⟨⟨ao, rfl⟩, rfl, rfl⟩ := hv
          have ha : a.toNat = 0 := by omega
          have hb : b.toNat = 0 := by omega
          refine ⟨_, _, slc (Nat.le_refl _), ?_, hk⟩
          rw [Rep, ha, hb]
          refine ⟨hpm, ⟨_, _, rfl⟩, hrl, fun e2 sz2 vals2 h2 => ⟨(hx e2 sz2 vals2 h2).1, fun _ => ⟨by omega, none, hp, ?_⟩⟩⟩
          simp [ownv]
        | some q =>
          obtain ⟨bk, cap⟩ := q
          simp only [ownv] at hv
          obtain ⟨ad, c, rfl, hlc, hsp, hbk, hoff, ho⟩ := hv
          refine ⟨_, _, slc hlc, ?_, hk⟩
          rw [Rep]
          refine ⟨hpm, ⟨_, _, rfl⟩, hrl, fun e2 sz2 vals2 h2 => ⟨(hx e2 sz2 vals2 h2).1, fun _ => ⟨by omega, _, hp, ?_⟩⟩⟩
          rw [hrow] at h2
          simp at h2
          obtain ⟨rfl, rfl, rfl⟩ := h2
          simp only [ownv]
          by_cases hca : c = a.toNat
          · rw [if_pos hca]
            refine ⟨ad, _, rfl, by omega, hsp, hbk, fun hz => ?_, fun hz => by omega⟩
            obtain ⟨g1, g2⟩ := hoff (by omega)
            exact ⟨g1, by omega⟩
          · rw [if_neg hca]
            have hadd : ad.add (a.toNat * sz') = ⟨bk, ad.off + a.toNat * sz', none⟩ := by
              obtain ⟨x, y, z⟩ := ad
              simp only at hsp hbk
              subst hsp; subst hbk
              exact addr_add _ _ _
            refine ⟨_, _, by rw [Option.map_some, hadd], by omega, rfl, rfl, fun hz => ?_, fun hz => ?_⟩
            · obtain ⟨g1, g2⟩ := hoff (by omega)
              have ha : a.toNat = 0 := by omega
              simp [ha, g1, g2]
            · show ad.off + a.toNat * sz' = _
              rw [ho (by omega), Nat.add_mul]
      · exact hk.elim
    all_goals exact hk.elim
  · exact h.elim

theorem run_sliceS' {t : TypeId} {x : AVal} {cx : Value} {lo hi : Option AVal} {clo chi : Option Value} (hx : Rep C x cx) (hu : P.underlying t = some .string)
    (hlo : (∃ l cl, lo = some l ∧ clo = some cl ∧ Rep C l cl) ∨ (lo = none ∧ clo = none)) (hhi : (∃ l cl, hi = some l ∧ chi = some cl ∧ Rep C l cl) ∨ (hi = none ∧ chi = none))
    (h : evSliceS lo hi x fun v => K v C.rows) : ∃ cv v, (Instr.sliceAt t cx clo chi none).run P C.w = .ok cv C.w ∧ Rep C v cv ∧ K v C.rows := by
  unfold evSliceS at h
  split at h
  · rename_i s
    split at h
    · rename_i ka a kb b ea eb
      obtain ⟨h0, h1, h2, hk⟩ := h
      rw [Rep] at hx
      subst hx
      have hlo' : clo = some (.int ka a) ∨ (clo = none ∧ a = 0) := by
        rcases hlo with ⟨x, cl, rfl, rfl, hr⟩ | ⟨rfl, rfl⟩
        · simp at ea; subst ea; rw [Rep] at hr; subst hr; exact .inl rfl
        · simp at ea; exact .inr ⟨rfl, ea.2.symm⟩
      have hhi' : chi = some (.int kb b) ∨ (chi = none ∧ b = s.size) := by
        rcases hhi with ⟨x, cl, rfl, rfl, hr⟩ | ⟨rfl, rfl⟩
        · simp at eb; subst eb; rw [Rep] at hr; subst hr; exact .inl rfl
        · simp at eb; exact .inr ⟨rfl, eb.2.symm⟩
      refine ⟨.string (s.extract a.toNat b.toNat), _, ?_, ?_, hk⟩
      · simp [Instr.sliceAt, Instr.slice, run_underlying hu, run_sliceBounds (P := P) (w := C.w) (cap := s.size) hlo' hhi' h0 h1 h2 false]
      · rw [Rep]
    · exact h.elim
  · exact h.elim

end
end Go.Abs
end
