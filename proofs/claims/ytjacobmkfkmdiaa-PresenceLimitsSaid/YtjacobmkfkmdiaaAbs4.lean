/- What the operations do to abstract values. -/
import Derived.Test.YtjacobmkfkmdiaaAbs3
set_option linter.unusedSimpArgs false
set_option linter.unusedVariables false
set_option linter.unusedSectionVars false
namespace Go.Abs

mutual
/-- no reference to an owned row -/
def clean : AVal → Bool
  | .own .. | .ref .. => false
  | .agg cs => cleanL cs
  | .tup cs => cleanL cs
  | _ => true
def cleanL : List AVal → Bool
  | [] => true
  | c :: cs => clean c && cleanL cs
end

def cleanE : List (List AVal) → Bool
  | [] => true
  | e :: es => cleanL e && cleanE es

mutual
theorem Rep.toP {C : Ctx} : ∀ (a : AVal) (v : Value), clean a = true → Rep C a v → Rep C.p a v
  | .int .., _, _, r => by simpa [Rep] using r
  | .bool .., _, _, r => by simpa [Rep] using r
  | .str .., _, _, r => by simpa [Rep] using r
  | .nils, _, _, r => by simpa [Rep] using r
  | .nilp, _, _, r => by simpa [Rep] using r
  | .junk, _, _, _ => by simp [Rep]
  | .agg cs, v, h, r => by
    rw [clean] at h
    rw [Rep] at r ⊢
    obtain ⟨vs, rfl, hr⟩ := r
    exact ⟨vs, rfl, RepL.toP cs _ h hr⟩
  | .tup cs, v, h, r => by
    rw [clean] at h
    rw [Rep] at r ⊢
    obtain ⟨vs, rfl, hr⟩ := r
    exact ⟨vs, rfl, RepL.toP cs _ h hr⟩
  | .pure sz vals, v, _, r => by rw [Rep] at r ⊢; exact r
  | .own .., v, h, _ => by simp [clean] at h
  | .ref .., v, h, _ => by simp [clean] at h
  | .pref cells off, v, _, hr => by rw [Rep] at hr ⊢; exact hr
theorem RepL.toP {C : Ctx} : ∀ (as : List AVal) (vs : List Value), cleanL as = true → RepL C as vs → RepL C.p as vs
  | [], vs, _, r => by simpa [RepL] using r
  | a :: as, vs, h, r => by
    simp only [cleanL, Bool.and_eq_true] at h
    rw [RepL] at r ⊢
    obtain ⟨v, rest, rfl, h1, h2⟩ := r
    exact ⟨v, rest, rfl, Rep.toP a v h.1 h1, RepL.toP as rest h.2 h2⟩
end

theorem RepC.toP {C : Ctx} (b : Nat) : ∀ (o : Nat) (as : List AVal), cleanL as = true → RepC C b o as → RepC C.p b o as
  | o, [], _, _ => by simp [RepC]
  | o, a :: as, h, r => by
    simp only [cleanL, Bool.and_eq_true] at h
    rw [RepC] at r ⊢
    obtain ⟨⟨v, h1, h2, h3⟩, h4⟩ := r
    exact ⟨⟨v, h1, h2, Rep.toP a v h.1 h3⟩, RepC.toP b (o + 1) as h.2 h4⟩

theorem RepE.toP {C : Ctx} (b sz : Nat) : ∀ (o : Nat) (es : List (List AVal)), cleanE es = true → RepE C b o sz es → RepE C.p b o sz es
  | o, [], _, _ => by simp [RepE]
  | o, e :: es, h, r => by
    simp only [cleanE, Bool.and_eq_true] at h
    rw [RepE] at r ⊢
    exact ⟨r.1, RepC.toP b o e h.1 r.2.1, RepE.toP b sz (o + sz) es h.2 r.2.2⟩

/-- the kind of a cell -/
inductive CK where
  | int (k : IntKind)
  | bool
  | str
  deriving Inhabited

/-- operations -/
inductive AOp where
  | mv
  | pick
  | alloc (e : TypeId) (zero : List AVal)
  | box (e : TypeId) (sz : Nat)
  /-- the zero cells, and of each part its offset and its size -/
  | build (zero : List AVal) (places : List (Nat × Nat))
  | bslice (e : TypeId) (sz : Nat) (zero : List AVal) (len : Nat) (idx : List Nat)
  | nilsl
  | mkslice (e : TypeId) (sz bytes : Nat) (zero : List AVal)
  | load1
  | loadA (sz : Nat)
  | store (sz : Nat)
  | nilchk
  | bin (op : BinOp)
  | eqA (neg : Bool) (ks : List CK)
  | eqB (neg : Bool)
  | not
  | neg
  | conv (k : IntKind)
  | fieldAddr (off : Nat)
  | field1 (off : Nat)
  | fieldA (off sz : Nat)
  | indexAddr (sz : Nat)
  | index
  | slice (lo hi : Bool) (sz : Nat)
  | sliceS (lo hi : Bool)
  | len
  | lenS
  | append (e : TypeId) (sz bytes : Nat)
  | extract (i : Nat)
  | minmax (max : Bool)
  /-- bytes as a string -/
  | b2s
  /-- a row that never changes from now on -/
  | frz
  | call (f : FuncId)
  deriving Inhabited

section
variable (rows : List Row)

/-- the elements of a slice -/
def elems? (rows : List Row) (sz : Nat) : AVal → Option (List (List AVal))
  | .pure sz' vals => if sz' = sz then some vals else none
  | .nils => some []
  | .own r n off len =>
    match rows[r]? with
    | some (.live _ sz' vals) => if sz' = sz ∧ n = vals.length ∧ off + len ≤ n then some ((vals.drop off).take len) else none
    | _ => none
  | _ => none

def bytesE : List (List AVal) → Option (List Int)
  | [] => some []
  | [.int .u8 n] :: es =>
    match bytesE es with
    | some ns => some (n :: ns)
    | none => none
  | _ :: _ => none

def strOf (ns : List Int) : ByteArray := ns.foldl (fun r n => r.push (UInt8.ofNat n.toNat)) ByteArray.empty

def evB2s (x : AVal) (K : AVal → Prop) : Prop :=
  match elems? rows 1 x with
  | none => False
  | some ys =>
    match bytesE ys with
    | some ns => K (.str (strOf ns))
    | none => False

def evFrz (x : AVal) (K : AVal → List Row → Prop) : Prop :=
  match x with
  | .own r n off len =>
    match rows[r]? with
    | some (.live _ sz vals) => n = vals.length ∧ off = 0 ∧ len = n ∧ 0 < n ∧ cleanE vals = true ∧ K (.pure sz vals) (rows.set r .dead)
    | _ => False
  | _ => False

/-- the length of a slice -/
def len? : AVal → Option Nat
  | .pure _ vals => some vals.length
  | .nils => some 0
  | .own _ _ _ len => some len
  | _ => none

def evBin (op : BinOp) (x y : AVal) (K : AVal → Prop) : Prop :=
  match x, y with
  | .int k a, .int k' b =>
    match op with
    | .shl => 0 ≤ b ∧ K (.int k (k.wrap (a * 2 ^ (min b.toNat k.bits))))
    | .shr => 0 ≤ b ∧ K (.int k (a.fdiv (2 ^ (min b.toNat k.bits))))
    | .add => k = k' ∧ K (.int k (k.wrap (a + b)))
    | .sub => k = k' ∧ K (.int k (k.wrap (a - b)))
    | .mul => k = k' ∧ K (.int k (k.wrap (a * b)))
    | .quo => k = k' ∧ b ≠ 0 ∧ K (.int k (k.wrap (a.tdiv b)))
    | .rem => k = k' ∧ b ≠ 0 ∧ K (.int k (a.tmod b))
    | .and => k = k' ∧ K (.int k (k.wrap (BitVec.ofInt k.bits a &&& BitVec.ofInt k.bits b).toNat))
    | .or => k = k' ∧ K (.int k (k.wrap (BitVec.ofInt k.bits a ||| BitVec.ofInt k.bits b).toNat))
    | .xor => k = k' ∧ K (.int k (k.wrap (BitVec.ofInt k.bits a ^^^ BitVec.ofInt k.bits b).toNat))
    | .eql => k = k' ∧ K (.bool (a == b))
    | .neq => k = k' ∧ K (.bool (a != b))
    | .lss => k = k' ∧ K (.bool (a < b))
    | .leq => k = k' ∧ K (.bool (a ≤ b))
    | .gtr => k = k' ∧ K (.bool (a > b))
    | .geq => k = k' ∧ K (.bool (a ≥ b))
    | _ => False
  | .str a, .str b =>
    match op with
    | .eql => K (.bool (a.toList == b.toList))
    | .neq => K (.bool !(a.toList == b.toList))
    | .lss => K (.bool (Op.bytesLess a.toList b.toList))
    | .leq => K (.bool (Op.bytesLess a.toList b.toList || a.toList == b.toList))
    | .gtr => K (.bool !(Op.bytesLess a.toList b.toList || a.toList == b.toList))
    | .geq => K (.bool !(Op.bytesLess a.toList b.toList))
    | .add => ((a.size + b.size : Nat) : Int) ≤ IntKind.i64.max ∧ K (.str (a ++ b))
    | _ => False
  | _, _ => False

/-- equality of two lists of cells -/
def eqCells : List AVal → List AVal → Bool
  | .int _ a :: cs, .int _ b :: ds => a == b && eqCells cs ds
  | .bool a :: cs, .bool b :: ds => a == b && eqCells cs ds
  | .str a :: cs, .str b :: ds => a.toList == b.toList && eqCells cs ds
  | _, _ => true

/-- cells of these kinds -/
def fits : List CK → List AVal → Prop
  | .int k :: ks, .int k' _ :: cs => k = k' ∧ fits ks cs
  | .bool :: ks, .bool _ :: cs => fits ks cs
  | .str :: ks, .str _ :: cs => fits ks cs
  | [], [] => True
  | _, _ => False

/-- put parts into cells -/
def splice (l : List AVal) (off : Nat) (cs : List AVal) : List AVal := l.take off ++ cs ++ l.drop (off + cs.length)

def fillC : List AVal → List (Nat × Nat) → List AVal → Option (List AVal)
  | cells, (off, sz) :: ps, v :: vs => if (acells v).length = sz ∧ off + sz ≤ cells.length then fillC (splice cells off (acells v)) ps vs else none
  | cells, [], [] => some cells
  | _, _, _ => none

def fillE : List (List AVal) → Nat → List Nat → List AVal → Option (List (List AVal))
  | es, sz, i :: is, v :: vs => if (acells v).length = sz ∧ i < es.length then fillE (es.set i (acells v)) sz is vs else none
  | es, _, [], [] => some es
  | _, _, _, _ => none

def evLoad1 (x : AVal) (K : AVal → Prop) : Prop :=
  match x with
  | .ref r n i off =>
    match rows[r]? with
    | some (.live _ sz vals) => n = vals.length ∧ off < sz ∧ K ((vals.getD i []).getD off .junk)
    | _ => False
  | .pref cells off => off < cells.length ∧ K (cells.getD off .junk)
  | _ => False

def evLoadA (m : Nat) (x : AVal) (K : AVal → Prop) : Prop :=
  match x with
  | .ref r n i off =>
    match rows[r]? with
    | some (.live _ sz vals) => n = vals.length ∧ off + m ≤ sz ∧ K (.agg (((vals.getD i []).drop off).take m))
    | _ => False
  | .pref cells off => off + m ≤ cells.length ∧ K (.agg ((cells.drop off).take m))
  | _ => False

def evStore (m : Nat) (x y : AVal) (K : List Row → Prop) : Prop :=
  match x with
  | .ref r n i off =>
    match rows[r]? with
    | some (.live e sz vals) => n = vals.length ∧ off + m ≤ sz ∧ (acells y).length = m ∧ (acells y).all one = true ∧
        K (rows.set r (.live e sz (vals.set i (splice (vals.getD i []) off (acells y)))))
    | _ => False
  | _ => False

def evFieldAddr (d : Nat) (x : AVal) (K : AVal → Prop) : Prop :=
  match x with
  | .ref r n i off => K (.ref r n i (off + d))
  | .pref cells off => K (.pref cells (off + d))
  | _ => False

def evIndexAddr (sz : Nat) (x y : AVal) (K : AVal → Prop) : Prop :=
  match x, y with
  | .pure sz' vals, .int _ i => sz' = sz ∧ 0 ≤ i ∧ i < vals.length ∧ K (.pref (vals.getD i.toNat []) 0)
  | .own r n off len, .int _ i =>
    match rows[r]? with
    | some (.live _ sz' vals) => sz' = sz ∧ n = vals.length ∧ 0 ≤ i ∧ i < len ∧ K (.ref r n (off + i.toNat) 0)
    | _ => False
  | _, _ => False

def evSlice (lo hi : Option AVal) (sz : Nat) (x : AVal) (K : AVal → Prop) : Prop :=
  match len? x with
  | none => False
  | some l =>
    match lo.getD (.int .i64 0), hi.getD (.int .i64 l) with
    | .int _ a, .int _ b => 0 ≤ a ∧ a ≤ b ∧ b ≤ l ∧
      match x with
      | .pure sz' vals => sz' = sz ∧ K (.pure sz' ((vals.drop a.toNat).take (b.toNat - a.toNat)))
      | .nils => K .nils
      | .own r n off _ =>
        match rows[r]? with
        | some (.live _ sz' vals) => sz' = sz ∧ n = vals.length ∧ K (.own r n (off + a.toNat) (b.toNat - a.toNat))
        | _ => False
      | _ => False
    | _, _ => False

def evSliceS (lo hi : Option AVal) (x : AVal) (K : AVal → Prop) : Prop :=
  match x with
  | .str s =>
    match lo.getD (.int .i64 0), hi.getD (.int .i64 s.size) with
    | .int _ a, .int _ b => 0 ≤ a ∧ a ≤ b ∧ b ≤ s.size ∧ K (.str (s.extract a.toNat b.toNat))
    | _, _ => False
  | _ => False

def evAppend (e : TypeId) (sz bytes : Nat) (x y : AVal) (K : AVal → List Row → Prop) : Prop :=
  match elems? rows sz y with
  | none => False
  | some ys =>
    match x with
    | .nils => ys.length * bytes ≤ 140737488355328 ∧ K (.own rows.length ys.length 0 ys.length) (rows ++ [.live e sz ys])
    | .own r n off len =>
      match rows[r]? with
      | some (.live e' sz' vals) => e' = e ∧ sz' = sz ∧ n = vals.length ∧ off = 0 ∧ len = n ∧ (n + ys.length) * bytes ≤ 140737488355328 ∧
          K (.own r (n + ys.length) 0 (n + ys.length)) (rows.set r (.live e sz (vals ++ ys)))
      | _ => False
    | _ => False

end

/-- what an operation other than a call does -/
def ev (op : AOp) (args : List AVal) (rows : List Row) (K : AVal → List Row → Prop) : Prop :=
  match op, args with
  | .mv, [x] => K x rows
  | .pick, [.bool c, a, b] => K (if c then a else b) rows
  | .alloc e zero, [] => K (.ref rows.length 1 0 0) (rows ++ [.live e zero.length [zero]])
  | .box e sz, [x] => (acells x).length = sz ∧ (acells x).all one = true ∧ K (.ref rows.length 1 0 0) (rows ++ [.live e sz [acells x]])
  | .build zero ps, vs =>
    match fillC zero ps vs with
    | some cs => (vs.all fun v => (acells v).all one) = true ∧ K (.agg cs) rows
    | none => False
  | .bslice e sz zero len idx, vs =>
    match fillE (List.replicate len zero) sz idx vs with
    | some es => (vs.all fun v => (acells v).all one) = true ∧ K (.own rows.length len 0 len) (rows ++ [.live e sz es])
    | none => False
  | .nilsl, [] => K .nils rows
  | .mkslice e sz bytes zero, [.int _ l, .int _ c] => 0 ≤ l ∧ l ≤ c ∧ c * bytes ≤ 140737488355328 ∧ c ≤ 140737488355328 ∧
      K (.own rows.length l.toNat 0 l.toNat) (rows ++ [.live e sz (List.replicate l.toNat zero)])
  | .load1, [x] => evLoad1 rows x fun v => K v rows
  | .loadA n, [x] => evLoadA rows n x fun v => K v rows
  | .store n, [x, y] => evStore rows n x y fun rows => K (.tup []) rows
  | .nilchk, [.ref r n i o] => K (.ref r n i o) rows
  | .nilchk, [.pref c o] => K (.pref c o) rows
  | .bin op, [x, y] => evBin op x y fun v => K v rows
  | .eqA neg ks, [.agg xs, .agg ys] => fits ks xs ∧ fits ks ys ∧ K (.bool (eqCells xs ys != neg)) rows
  | .eqB neg, [.bool a, .bool b] => K (.bool ((a == b) != neg)) rows
  | .not, [.bool b] => K (.bool !b) rows
  | .neg, [.int k n] => K (.int k (k.wrap (0 - n))) rows
  | .conv k, [.int _ n] => K (.int k (k.wrap n)) rows
  | .fieldAddr d, [x] => evFieldAddr d x fun v => K v rows
  | .field1 off, [.agg cs] => off < cs.length ∧ K (cs.getD off .junk) rows
  | .fieldA off sz, [.agg cs] => off + sz ≤ cs.length ∧ K (.agg ((cs.drop off).take sz)) rows
  | .indexAddr sz, [x, y] => evIndexAddr rows sz x y fun v => K v rows
  | .index, [.str s, .int _ i] => 0 ≤ i ∧ i < s.size ∧ K (.int .u8 ((s.data.getD i.toNat 0).toNat)) rows
  | .slice true true sz, [x, a, b] => evSlice rows (some a) (some b) sz x fun v => K v rows
  | .slice true false sz, [x, a] => evSlice rows (some a) none sz x fun v => K v rows
  | .slice false true sz, [x, b] => evSlice rows none (some b) sz x fun v => K v rows
  | .slice false false sz, [x] => evSlice rows none none sz x fun v => K v rows
  | .sliceS true true, [x, a, b] => evSliceS (some a) (some b) x fun v => K v rows
  | .sliceS true false, [x, a] => evSliceS (some a) none x fun v => K v rows
  | .sliceS false true, [x, b] => evSliceS none (some b) x fun v => K v rows
  | .sliceS false false, [x] => evSliceS none none x fun v => K v rows
  | .lenS, [.str s] => K (.int .i64 s.size) rows
  | .len, [x] =>
    match len? x with
    | some l => K (.int .i64 l) rows
    | none => False
  | .append e sz bytes, [x, y] => evAppend rows e sz bytes x y K
  | .extract i, [.tup vs] => i < vs.length ∧ K (vs.getD i .junk) rows
  | .minmax mx, [.int k a, .int k' b] => k = k' ∧ K (.int k (if mx then max a b else min a b)) rows
  | .b2s, [x] => evB2s rows x fun v => K v rows
  | .frz, [x] => evFrz rows x K
  | _, _ => False

end Go.Abs
