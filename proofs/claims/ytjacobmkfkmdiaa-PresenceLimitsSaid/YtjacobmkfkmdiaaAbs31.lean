/- Bytes, and operations on bits of numbers that are not negative. -/
import Derived.Test.YtjacobmkfkmdiaaAbs30
set_option linter.unusedSimpArgs false
set_option linter.unusedVariables false
set_option linter.unusedSectionVars false
namespace Go.Abs

instance : Cel UInt8 := ⟨fun b => [.int .u8 b.toNat], 1, fun _ => _root_.id rfl, fun _ => _root_.id rfl, fun _ => _root_.id rfl⟩
instance : Flt UInt8 := ⟨fun _ => _root_.id rfl⟩
theorem cel_u8 (b : UInt8) : Cel.c b = [.int .u8 b.toNat] := _root_.id rfl
theorem cel_u8_sz : Cel.sz UInt8 = 1 := _root_.id rfl
attribute [go_sem] cel_u8_sz
theorem u8_cell (n : Nat) : [AVal.int .u8 ((n : Int) % 256)] = Cel.c (UInt8.ofNat n) := by
  rw [cel_u8]
  congr 2
theorem els_u8 (l : List UInt8) : els l = numsE .u8 (l.map fun b => (b.toNat : Int)) := by simp [els, numsE, cel_u8]
theorem nums_u8 (l : List Int) (h : ∀ n ∈ l, 0 ≤ n ∧ n < 256) : numsE .u8 l = els (l.map fun n => UInt8.ofNat n.toNat) := by
  rw [els_u8]
  congr 1
  rw [List.map_map]
  conv => lhs; rw [← List.map_id l]
  apply List.map_congr_left
  intro n hn
  have := h n hn
  simp
  omega

theorem ofInt_nat {w n : Nat} : BitVec.ofInt w (n : Int) = BitVec.ofNat w n := by simp

theorem bits_i64 : IntKind.i64.bits = 64 := _root_.id rfl
theorem bits_u64 : IntKind.u64.bits = 64 := _root_.id rfl
theorem bits_u16 : IntKind.u16.bits = 16 := _root_.id rfl
theorem bits_u8 : IntKind.u8.bits = 8 := _root_.id rfl

theorem xor_i64 {a b : Nat} (ha : a < 9223372036854775808) (hb : b < 9223372036854775808) : bxor .i64 (a : Int) (b : Int) = ((a ^^^ b : Nat) : Int) := by
  show IntKind.i64.wrap ((BitVec.ofInt 64 _ ^^^ BitVec.ofInt 64 _).toNat : Int) = _
  have h := Nat.xor_lt_two_pow (n := 63) (x := a) (y := b) (by simpa using ha) (by simpa using hb)
  rw [ofInt_nat, ofInt_nat, BitVec.toNat_xor, BitVec.toNat_ofNat, BitVec.toNat_ofNat, Nat.mod_eq_of_lt (by omega), Nat.mod_eq_of_lt (by omega), wrap_i64 (by omega) (by omega)]
theorem and_i64 {a b : Nat} (ha : a < 9223372036854775808) (hb : b < 9223372036854775808) : band .i64 (a : Int) (b : Int) = ((a &&& b : Nat) : Int) := by
  show IntKind.i64.wrap ((BitVec.ofInt 64 _ &&& BitVec.ofInt 64 _).toNat : Int) = _
  have h := Nat.and_lt_two_pow (n := 63) a (y := b) (by simpa using hb)
  rw [ofInt_nat, ofInt_nat, BitVec.toNat_and, BitVec.toNat_ofNat, BitVec.toNat_ofNat, Nat.mod_eq_of_lt (by omega), Nat.mod_eq_of_lt (by omega), wrap_i64 (by omega) (by omega)]
theorem or_i64 {a b : Nat} (ha : a < 9223372036854775808) (hb : b < 9223372036854775808) : bor .i64 (a : Int) (b : Int) = ((a ||| b : Nat) : Int) := by
  show IntKind.i64.wrap ((BitVec.ofInt 64 _ ||| BitVec.ofInt 64 _).toNat : Int) = _
  have h := Nat.or_lt_two_pow (n := 63) (x := a) (y := b) (by simpa using ha) (by simpa using hb)
  rw [ofInt_nat, ofInt_nat, BitVec.toNat_or, BitVec.toNat_ofNat, BitVec.toNat_ofNat, Nat.mod_eq_of_lt (by omega), Nat.mod_eq_of_lt (by omega), wrap_i64 (by omega) (by omega)]
theorem xor_u16 {a b : Nat} (ha : a < 65536) (hb : b < 65536) : bxor .u16 (a : Int) (b : Int) = ((a ^^^ b : Nat) : Int) := by
  show IntKind.u16.wrap ((BitVec.ofInt 16 _ ^^^ BitVec.ofInt 16 _).toNat : Int) = _
  have h := Nat.xor_lt_two_pow (n := 16) (x := a) (y := b) (by simpa using ha) (by simpa using hb)
  rw [ofInt_nat, ofInt_nat, BitVec.toNat_xor, BitVec.toNat_ofNat, BitVec.toNat_ofNat, Nat.mod_eq_of_lt (by omega), Nat.mod_eq_of_lt (by omega), wrap_u16]
  omega
theorem and_u16 {a b : Nat} (ha : a < 65536) (hb : b < 65536) : band .u16 (a : Int) (b : Int) = ((a &&& b : Nat) : Int) := by
  show IntKind.u16.wrap ((BitVec.ofInt 16 _ &&& BitVec.ofInt 16 _).toNat : Int) = _
  have h := Nat.and_lt_two_pow (n := 16) a (y := b) (by simpa using hb)
  rw [ofInt_nat, ofInt_nat, BitVec.toNat_and, BitVec.toNat_ofNat, BitVec.toNat_ofNat, Nat.mod_eq_of_lt (by omega), Nat.mod_eq_of_lt (by omega), wrap_u16]
  omega
theorem xor_u8 {a b : UInt8} : bxor .u8 (a.toNat : Int) (b.toNat : Int) = ((a ^^^ b).toNat : Int) := by
  show IntKind.u8.wrap ((BitVec.ofInt 8 _ ^^^ BitVec.ofInt 8 _).toNat : Int) = _
  have ha := a.toNat_lt
  have hb := b.toNat_lt
  have h := Nat.xor_lt_two_pow (n := 8) (x := a.toNat) (y := b.toNat) (by simpa using ha) (by simpa using hb)
  rw [ofInt_nat, ofInt_nat, BitVec.toNat_xor, BitVec.toNat_ofNat, BitVec.toNat_ofNat, Nat.mod_eq_of_lt (by omega), Nat.mod_eq_of_lt (by omega), wrap_u8, UInt8.toNat_xor]
  omega
theorem or_u8 {a b : UInt8} : bor .u8 (a.toNat : Int) (b.toNat : Int) = ((a ||| b).toNat : Int) := by
  show IntKind.u8.wrap ((BitVec.ofInt 8 _ ||| BitVec.ofInt 8 _).toNat : Int) = _
  have ha := a.toNat_lt
  have hb := b.toNat_lt
  have h := Nat.or_lt_two_pow (n := 8) (x := a.toNat) (y := b.toNat) (by simpa using ha) (by simpa using hb)
  rw [ofInt_nat, ofInt_nat, BitVec.toNat_or, BitVec.toNat_ofNat, BitVec.toNat_ofNat, Nat.mod_eq_of_lt (by omega), Nat.mod_eq_of_lt (by omega), wrap_u8, UInt8.toNat_or]
  omega
theorem shl_i64 {a : Int} {n : Nat} (hn : n ≤ 64) : bshl .i64 a n = IntKind.i64.wrap (a * 2 ^ n) := by
  show IntKind.i64.wrap (a * 2 ^ (min n 64)) = _
  rw [Nat.min_eq_left hn]
theorem shl_u16 {a : Int} {n : Nat} (hn : n ≤ 16) : bshl .u16 a n = a * 2 ^ n % 65536 := by
  show IntKind.u16.wrap (a * 2 ^ (min n 16)) = _
  rw [Nat.min_eq_left hn, wrap_u16]
theorem shr_i64 {a n : Nat} (hn : n ≤ 64) : bshr .i64 (a : Int) n = ((a / 2 ^ n : Nat) : Int) := by
  show Int.fdiv (a : Int) (2 ^ (min n 64)) = _
  rw [Nat.min_eq_left hn, Int.fdiv_eq_ediv_of_nonneg _ (by exact Int.pow_nonneg (by omega))]
  simp
theorem or_byte {n c : Nat} (hc : c < 256) : n * 256 ||| c = n * 256 + c := by
  have := Nat.two_pow_add_eq_or_of_lt (i := 8) (b := c) hc n
  rw [Nat.mul_comm]
  exact this.symm
/-- a call that changes one row -/
theorem callC_row {P : Program} {f : FuncId} {rest : List AVal} {rows : List Row} {dst : Option Nat} {env : Env} {K : Env → List Row → Prop} {r n m : Nat} {e : TypeId} {sz : Nat} {vals vals' : List (List AVal)}
    (hA : AFn P f (.own 0 n 0 n :: rest) [.live e sz vals] fun v rs => v = .own 0 m 0 m ∧ rs = [.live e sz vals']) (hr : rows[r]? = some (.live e sz vals)) (hv : cleanE vals = true) (hv' : cleanE vals' = true) (hc : cleanL rest = true)
    (hk : K (put env dst (.own r m 0 m)) (rows.set r (.live e sz vals'))) : callC P f (.own r n 0 n :: rest) rows dst env K := by
  refine callC_of [r] [] (by simp) (srows := [.live e sz vals]) ?_ (by simp [bindL, bindV, pos?, bindL_clean rest hc]) hA ?_
  · simp only [List.map_cons, List.map_nil, getRows, hr]
    simp [bindRow, bindE, hv]
  · rintro v rs ⟨rfl, rfl⟩
    refine ⟨.inl rfl, ?_⟩
    simpa [renV, back, mergeR, renRow, renE, hv'] using hk

/-- a call that looks at one row, whole or in part -/
theorem callC_look {P : Program} {f : FuncId} {rows : List Row} {dst : Option Nat} {env : Env} {K : Env → List Row → Prop} {r n off len : Nat} {e : TypeId} {sz : Nat} {vals : List (List AVal)} {v : AVal}
    (hA : AFn P f [.pure sz ((vals.drop off).take len)] [] fun w rs => w = v ∧ rs = []) (hr : rows[r]? = some (.live e sz vals)) (hn : n = vals.length) (ho : off + len ≤ n) (hv : cleanE vals = true) (hc : clean v = true) (hf : flat v = true)
    (hk : K (put env dst v) rows) : callC P f [.own r n off len] rows dst env K := by
  refine callC_view [r] hA ?_ fun w hw => by subst hw; exact ⟨hc, hf, hk⟩
  rw [bindL, bindL, bindV_view (by simp) hr hn ho hv]
theorem callC_lookAll {P : Program} {f : FuncId} {rows : List Row} {dst : Option Nat} {env : Env} {K : Env → List Row → Prop} {r n : Nat} {e : TypeId} {sz : Nat} {vals : List (List AVal)} {v : AVal}
    (hA : AFn P f [.pure sz vals] [] fun w rs => w = v ∧ rs = []) (hr : rows[r]? = some (.live e sz vals)) (hn : n = vals.length) (hv : cleanE vals = true) (hc : clean v = true) (hf : flat v = true)
    (hk : K (put env dst v) rows) : callC P f [.own r n 0 n] rows dst env K := by
  refine callC_view [r] hA ?_ fun w hw => by subst hw; exact ⟨hc, hf, hk⟩
  rw [bindL, bindL, bindV_viewAll (by simp) hr hn hv]

theorem callD_view {P : Program} {f : FuncId} {args bargs : List AVal} {un : List Nat} {tk : Tk} {rows : List Row} {dst : Option Nat} {env : Env} {K : Env → List Row → Prop} {Q : AVal → Prop} (vw : List Nat)
    (hA : AFn P f bargs [] fun v rs => Q v ∧ rs = []) (ht : okTk un tk [] vw) (hb : bindL rows [] vw args = bargs) (hk : ∀ v, Q v → clean v = true ∧ flat v = true ∧ K (put env dst v) rows) : callD P f args un tk rows dst env K := by
  refine callD_of [] vw ht (by simp) (srows := []) (_root_.id rfl) hb hA ?_
  rintro v rs ⟨hq, rfl⟩
  obtain ⟨h1, h2, h3⟩ := hk v hq
  refine ⟨.inr ⟨h2, by simp⟩, ?_⟩
  rw [renV_clean _ _ h1]
  simpa [mergeR] using h3
theorem callD_row {P : Program} {f : FuncId} {rest : List AVal} {un : List Nat} {tk : Tk} {rows : List Row} {dst : Option Nat} {env : Env} {K : Env → List Row → Prop} {r n m : Nat} {e : TypeId} {sz : Nat} {vals vals' : List (List AVal)}
    (hA : AFn P f (.own 0 n 0 n :: rest) [.live e sz vals] fun v rs => v = .own 0 m 0 m ∧ rs = [.live e sz vals']) (ht : okTk un tk [r] []) (hr : rows[r]? = some (.live e sz vals)) (hv : cleanE vals = true) (hv' : cleanE vals' = true) (hc : cleanL rest = true)
    (hk : K (put env dst (.own r m 0 m)) (rows.set r (.live e sz vals'))) : callD P f (.own r n 0 n :: rest) un tk rows dst env K := by
  refine callD_of [r] [] ht (by simp) (srows := [.live e sz vals]) ?_ (by simp [bindL, bindV, pos?, bindL_clean rest hc]) hA ?_
  · simp only [List.map_cons, List.map_nil, getRows, hr]
    simp [bindRow, bindE, hv]
  · rintro v rs ⟨rfl, rfl⟩
    refine ⟨.inl rfl, ?_⟩
    simpa [renV, back, mergeR, renRow, renE, hv'] using hk
theorem callD_look {P : Program} {f : FuncId} {un : List Nat} {tk : Tk} {rows : List Row} {dst : Option Nat} {env : Env} {K : Env → List Row → Prop} {r n off len : Nat} {e : TypeId} {sz : Nat} {vals : List (List AVal)} {v : AVal}
    (hA : AFn P f [.pure sz ((vals.drop off).take len)] [] fun w rs => w = v ∧ rs = []) (ht : okTk un tk [] [r]) (hr : rows[r]? = some (.live e sz vals)) (hn : n = vals.length) (ho : off + len ≤ n) (hv : cleanE vals = true) (hc : clean v = true) (hf : flat v = true)
    (hk : K (put env dst v) rows) : callD P f [.own r n off len] un tk rows dst env K := by
  refine callD_view [r] hA ht ?_ fun w hw => by subst hw; exact ⟨hc, hf, hk⟩
  rw [bindL, bindL, bindV_view (by simp) hr hn ho hv]
theorem callD_lookAll {P : Program} {f : FuncId} {un : List Nat} {tk : Tk} {rows : List Row} {dst : Option Nat} {env : Env} {K : Env → List Row → Prop} {r n : Nat} {e : TypeId} {sz : Nat} {vals : List (List AVal)} {v : AVal}
    (hA : AFn P f [.pure sz vals] [] fun w rs => w = v ∧ rs = []) (ht : okTk un tk [] [r]) (hr : rows[r]? = some (.live e sz vals)) (hn : n = vals.length) (hv : cleanE vals = true) (hc : clean v = true) (hf : flat v = true)
    (hk : K (put env dst v) rows) : callD P f [.own r n 0 n] un tk rows dst env K := by
  refine callD_view [r] hA ht ?_ fun w hw => by subst hw; exact ⟨hc, hf, hk⟩
  rw [bindL, bindL, bindV_viewAll (by simp) hr hn hv]

/-- a call that looks at one slice, and makes rows -/
theorem callC_lookNew {P : Program} {f : FuncId} {rows : List Row} {dst : Option Nat} {env : Env} {K : Env → List Row → Prop} {r n off len : Nat} {e : TypeId} {sz : Nat} {vals : List (List AVal)} {Q : AVal → List Row → Prop}
    (hA : AFn P f [.pure sz ((vals.drop off).take len)] [] Q) (hr : rows[r]? = some (.live e sz vals)) (hn : n = vals.length) (ho : off + len ≤ n) (hv : cleanE vals = true)
    (hk : ∀ v rs, Q v rs → flat v = true ∧ rs.all flatRow = true ∧ K (put env dst (renV (back rows.length []) v)) (rows ++ rs.map (renRow (back rows.length [])))) : callC P f [.own r n off len] rows dst env K := by
  refine callC_of [] [r] (by simp) (srows := []) (_root_.id rfl) (by rw [bindL, bindL]; exact congrArg (· :: []) (bindV_view (by simp) hr hn ho hv)) hA ?_
  intro v rs hq
  obtain ⟨h1, h2, h3⟩ := hk v rs hq
  exact ⟨.inr ⟨h1, h2⟩, by simpa [mergeR] using h3⟩
theorem callC_lookNewAll {P : Program} {f : FuncId} {rows : List Row} {dst : Option Nat} {env : Env} {K : Env → List Row → Prop} {r n : Nat} {e : TypeId} {sz : Nat} {vals : List (List AVal)} {Q : AVal → List Row → Prop}
    (hA : AFn P f [.pure sz vals] [] Q) (hr : rows[r]? = some (.live e sz vals)) (hn : n = vals.length) (hv : cleanE vals = true)
    (hk : ∀ v rs, Q v rs → flat v = true ∧ rs.all flatRow = true ∧ K (put env dst (renV (back rows.length []) v)) (rows ++ rs.map (renRow (back rows.length [])))) : callC P f [.own r n 0 n] rows dst env K :=
  callC_lookNew (by rw [List.drop_zero, hn, List.take_length]; exact hA) hr hn (by omega) hv hk

theorem tape_of {l : List Int} {n : Nat} (h1 : l.length = n) (h2 : n ≤ maxLen) (h : ∀ x ∈ l, IntKind.i64.min ≤ x ∧ x ≤ IntKind.i64.max) : TapeOk l := by
  refine ⟨by rw [h1]; exact h2, fun x hx => ?_⟩
  have := h x hx
  rw [show IntKind.i64.min = -9223372036854775808 from _root_.id rfl, show IntKind.i64.max = 9223372036854775807 from _root_.id rfl] at this
  exact this
theorem bytes_of {l : List Int} (h : ∀ x ∈ l, IntKind.u8.min ≤ x ∧ x ≤ IntKind.u8.max) : numsE .u8 l = els (l.map fun n => UInt8.ofNat n.toNat) := by
  refine nums_u8 l fun x hx => ?_
  have := h x hx
  rw [show IntKind.u8.min = 0 from _root_.id rfl, show IntKind.u8.max = 255 from _root_.id rfl] at this
  omega
theorem int_of {x : Int} (h : (Lit.int .i64 x).wf = true) : -9223372036854775808 ≤ x ∧ x ≤ 9223372036854775807 := by
  have : IntKind.i64.min ≤ x ∧ x ≤ IntKind.i64.max := by simpa [Lit.wf] using h
  rw [show IntKind.i64.min = -9223372036854775808 from _root_.id rfl, show IntKind.i64.max = 9223372036854775807 from _root_.id rfl] at this
  exact this
theorem u8_of {x : Int} (h : (Lit.int .u8 x).wf = true) : ∃ b : UInt8, x = (b.toNat : Int) := by
  have : IntKind.u8.min ≤ x ∧ x ≤ IntKind.u8.max := by simpa [Lit.wf] using h
  rw [show IntKind.u8.min = 0 from _root_.id rfl, show IntKind.u8.max = 255 from _root_.id rfl] at this
  refine ⟨UInt8.ofNat x.toNat, ?_⟩
  simp
  omega
theorem rep_int {w : World} {k : IntKind} {x : Int} : Rep (ctx0 w) (.int k x) (.int k x) := by rw [Rep]
theorem repL_nil {C : Ctx} : RepL C [] [] := by rw [RepL]
theorem repL_cons {C : Ctx} {a : AVal} {as : List AVal} {v : Value} {vs : List Value} (h : Rep C a v) (k : RepL C as vs) : RepL C (a :: as) (v :: vs) := by rw [RepL]; exact ⟨v, vs, _root_.id rfl, h, k⟩

end Go.Abs
