/- How a condition on code is reckoned out, step by step: constants that stop where something is not known, and their equations. -/
import Derived.Test.YtjacobmkfkmdiaaAbs20
set_option linter.unusedSimpArgs false
set_option linter.unusedVariables false
set_option linter.unusedSectionVars false
namespace Go.Abs

/-- a region, and what is kept behind it -/
def regK (P : Program) (ops : List IOp) (live : List Nat) (K : Env → List Row → Prop) (env : Env) (rows : List Row) : Prop :=
  listK P ops (fun env rows => K (norm live env) rows) env rows
/-- a branch -/
def condC (P : Program) (n0 : Nat) (v : AVal) (a b : ACode) (K : Post) (env : Env) (rows : List Row) : Prop := condK v (avc P n0 a K env rows) (avc P n0 b K env rows)
/-- an operation under a guard's value -/
def grdC (P : Program) (v : AVal) (want : Bool) (o : IOp) (env : Env) (rows : List Row) (K : Env → List Row → Prop) : Prop :=
  match v with
  | .bool b => gK b want (runK P o env rows K) (K (put env o.dst (.tup [])) rows)
  | .tup [] => K (put env o.dst (.tup [])) rows
  | _ => False
/-- an operation on values -/
def evC (op : AOp) (args : List AVal) (rows : List Row) (dst : Option Nat) (env : Env) (K : Env → List Row → Prop) : Prop := ev op args rows fun v rows' => K (put env dst v) rows'
/-- a call -/
def callC (P : Program) (f : FuncId) (args : List AVal) (rows : List Row) (dst : Option Nat) (env : Env) (K : Env → List Row → Prop) : Prop := callK P f args rows fun v rows' => K (put env dst v) rows'
/-- a condition, and what follows -/
def needs (c : Prop) (K : Env → List Row → Prop) (env : Env) (rows : List Row) : Prop := c ∧ K env rows
/-- the exits of a block -/
def blockX (id : Nat) (K : Post) (j : Nat) (env : Env) (rows : List Row) : Prop := if j = id then K.n env rows else K.x j env rows

section
variable {P : Program} {n0 : Nat} {K : Post} {env : Env} {rows : List Row}
theorem avc_skip : avc P n0 .skip K env rows = K.n env rows := _root_.id rfl
theorem avc_region {ops : List IOp} {live : List Nat} : avc P n0 (.region ops live) K env rows = regK P ops live K.n env rows := _root_.id rfl
theorem avc_seq {a b : ACode} : avc P n0 (.seq a b) K env rows = avc P n0 a ⟨avc P n0 b K, K.x, K.r⟩ env rows := _root_.id rfl
theorem avc_cond {c : Opd} {a b : ACode} : avc P n0 (.cond c a b) K env rows = condC P n0 (c.ev env) a b K env rows := _root_.id rfl
theorem avc_block {id : Nat} {c : ACode} : avc P n0 (.block id c) K env rows = avc P n0 c ⟨K.n, blockX id K, K.r⟩ env rows := by
  rw [avc]
  congr 1
  congr 1
  funext j env rows
  unfold blockX
  split <;> rfl
theorem avc_exit {id : Nat} : avc P n0 (.exit id) K env rows = K.x id env rows := _root_.id rfl
theorem avc_ret : avc P n0 .ret K env rows = K.r env rows := _root_.id rfl
theorem avc_loop {c : ACode} (I : Env → List Row → Prop) (μ : Env → List Row → Nat) (h0 : Cl n0 I env rows)
    (h : ∀ env rows, I env rows → avc P n0 c ⟨Cl n0 fun env' rows' => I env' rows' ∧ μ env' rows' < μ env rows, K.x, K.r⟩ env rows) : avc P n0 (.loop c) K env rows := ⟨I, μ, h0, h⟩
theorem blockX_eq {id j : Nat} : blockX id K j env rows = if j = id then K.n env rows else K.x j env rows := _root_.id rfl
theorem condC_true {a b : ACode} : condC P n0 (.bool true) a b K env rows = avc P n0 a K env rows := by simp [condC, condK]
theorem condC_false {a b : ACode} : condC P n0 (.bool false) a b K env rows = avc P n0 b K env rows := by simp [condC, condK]
theorem condC_intro {b : Bool} {x y : ACode} (h1 : b = true → avc P n0 x K env rows) (h2 : b = false → avc P n0 y K env rows) : condC P n0 (.bool b) x y K env rows := ⟨h1, h2⟩
end

section
variable {P : Program} {live : List Nat} {K : Env → List Row → Prop} {env : Env} {rows : List Row}
theorem regK_nil : regK P [] live K env rows = K (norm live env) rows := _root_.id rfl
theorem regK_none {d : Option Nat} {op : AOp} {args : List Opd} {os : List IOp} : regK P (⟨d, op, args, none⟩ :: os) live K env rows = runK P ⟨d, op, args, none⟩ env rows (regK P os live K) := _root_.id rfl
theorem regK_some {d : Option Nat} {op : AOp} {args : List Opd} {s : Nat} {want : Bool} {os : List IOp} :
    regK P (⟨d, op, args, some (s, want)⟩ :: os) live K env rows = grdC P (slot env s) want ⟨d, op, args, some (s, want)⟩ env rows (regK P os live K) := _root_.id rfl
theorem grdC_tt {o : IOp} : grdC P (.bool true) true o env rows K = runK P o env rows K := _root_.id rfl
theorem grdC_ff {o : IOp} : grdC P (.bool false) false o env rows K = runK P o env rows K := _root_.id rfl
theorem grdC_tf {o : IOp} : grdC P (.bool true) false o env rows K = K (put env o.dst (.tup [])) rows := _root_.id rfl
theorem grdC_ft {o : IOp} : grdC P (.bool false) true o env rows K = K (put env o.dst (.tup [])) rows := _root_.id rfl
theorem grdC_un {o : IOp} {want : Bool} : grdC P (.tup []) want o env rows K = K (put env o.dst (.tup [])) rows := _root_.id rfl
theorem grdC_intro {b want : Bool} {o : IOp} (h1 : b = true → grdC P (.bool true) want o env rows K) (h2 : b = false → grdC P (.bool false) want o env rows K) : grdC P (.bool b) want o env rows K := by
  cases b
  · exact h2 rfl
  · exact h1 rfl
theorem runK_call {d : Option Nat} {f : FuncId} {args : List Opd} {g : Option (Nat × Bool)} : runK P ⟨d, .call f, args, g⟩ env rows K = callC P f (args.map (Opd.ev env)) rows d env K := _root_.id rfl
end

section
variable {P : Program} {K : Env → List Row → Prop} {env : Env} {rows : List Row} {d : Option Nat} {args : List Opd} {g : Option (Nat × Bool)}
theorem runK_mv : runK P ⟨d, .mv, args, g⟩ env rows K = evC .mv (args.map (Opd.ev env)) rows d env K := _root_.id rfl
theorem runK_pick : runK P ⟨d, .pick, args, g⟩ env rows K = evC .pick (args.map (Opd.ev env)) rows d env K := _root_.id rfl
theorem runK_alloc {e z} : runK P ⟨d, .alloc e z, args, g⟩ env rows K = evC (.alloc e z) (args.map (Opd.ev env)) rows d env K := _root_.id rfl
theorem runK_box {e z} : runK P ⟨d, .box e z, args, g⟩ env rows K = evC (.box e z) (args.map (Opd.ev env)) rows d env K := _root_.id rfl
theorem runK_build {z p} : runK P ⟨d, .build z p, args, g⟩ env rows K = evC (.build z p) (args.map (Opd.ev env)) rows d env K := _root_.id rfl
theorem runK_bslice {e sz z l i} : runK P ⟨d, .bslice e sz z l i, args, g⟩ env rows K = evC (.bslice e sz z l i) (args.map (Opd.ev env)) rows d env K := _root_.id rfl
theorem runK_mkslice {e sz b z} : runK P ⟨d, .mkslice e sz b z, args, g⟩ env rows K = evC (.mkslice e sz b z) (args.map (Opd.ev env)) rows d env K := _root_.id rfl
theorem runK_nilsl : runK P ⟨d, .nilsl, args, g⟩ env rows K = evC .nilsl (args.map (Opd.ev env)) rows d env K := _root_.id rfl
theorem runK_load1 : runK P ⟨d, .load1, args, g⟩ env rows K = evC .load1 (args.map (Opd.ev env)) rows d env K := _root_.id rfl
theorem runK_loadA {n} : runK P ⟨d, .loadA n, args, g⟩ env rows K = evC (.loadA n) (args.map (Opd.ev env)) rows d env K := _root_.id rfl
theorem runK_store {n} : runK P ⟨d, .store n, args, g⟩ env rows K = evC (.store n) (args.map (Opd.ev env)) rows d env K := _root_.id rfl
theorem runK_nilchk : runK P ⟨d, .nilchk, args, g⟩ env rows K = evC .nilchk (args.map (Opd.ev env)) rows d env K := _root_.id rfl
theorem runK_bin {op} : runK P ⟨d, .bin op, args, g⟩ env rows K = evC (.bin op) (args.map (Opd.ev env)) rows d env K := _root_.id rfl
theorem runK_eqA {n ks} : runK P ⟨d, .eqA n ks, args, g⟩ env rows K = evC (.eqA n ks) (args.map (Opd.ev env)) rows d env K := _root_.id rfl
theorem runK_eqB {n} : runK P ⟨d, .eqB n, args, g⟩ env rows K = evC (.eqB n) (args.map (Opd.ev env)) rows d env K := _root_.id rfl
theorem runK_not : runK P ⟨d, .not, args, g⟩ env rows K = evC .not (args.map (Opd.ev env)) rows d env K := _root_.id rfl
theorem runK_neg : runK P ⟨d, .neg, args, g⟩ env rows K = evC .neg (args.map (Opd.ev env)) rows d env K := _root_.id rfl
theorem runK_conv {k} : runK P ⟨d, .conv k, args, g⟩ env rows K = evC (.conv k) (args.map (Opd.ev env)) rows d env K := _root_.id rfl
theorem runK_fieldAddr {n} : runK P ⟨d, .fieldAddr n, args, g⟩ env rows K = evC (.fieldAddr n) (args.map (Opd.ev env)) rows d env K := _root_.id rfl
theorem runK_field1 {n} : runK P ⟨d, .field1 n, args, g⟩ env rows K = evC (.field1 n) (args.map (Opd.ev env)) rows d env K := _root_.id rfl
theorem runK_fieldA {n m} : runK P ⟨d, .fieldA n m, args, g⟩ env rows K = evC (.fieldA n m) (args.map (Opd.ev env)) rows d env K := _root_.id rfl
theorem runK_indexAddr {n} : runK P ⟨d, .indexAddr n, args, g⟩ env rows K = evC (.indexAddr n) (args.map (Opd.ev env)) rows d env K := _root_.id rfl
theorem runK_index : runK P ⟨d, .index, args, g⟩ env rows K = evC .index (args.map (Opd.ev env)) rows d env K := _root_.id rfl
theorem runK_slice {a b n} : runK P ⟨d, .slice a b n, args, g⟩ env rows K = evC (.slice a b n) (args.map (Opd.ev env)) rows d env K := _root_.id rfl
theorem runK_sliceS {a b} : runK P ⟨d, .sliceS a b, args, g⟩ env rows K = evC (.sliceS a b) (args.map (Opd.ev env)) rows d env K := _root_.id rfl
theorem runK_len : runK P ⟨d, .len, args, g⟩ env rows K = evC .len (args.map (Opd.ev env)) rows d env K := _root_.id rfl
theorem runK_lenS : runK P ⟨d, .lenS, args, g⟩ env rows K = evC .lenS (args.map (Opd.ev env)) rows d env K := _root_.id rfl
theorem runK_append {e sz b} : runK P ⟨d, .append e sz b, args, g⟩ env rows K = evC (.append e sz b) (args.map (Opd.ev env)) rows d env K := _root_.id rfl
theorem runK_extract {i} : runK P ⟨d, .extract i, args, g⟩ env rows K = evC (.extract i) (args.map (Opd.ev env)) rows d env K := _root_.id rfl
theorem runK_b2s : runK P ⟨d, .b2s, args, g⟩ env rows K = evC .b2s (args.map (Opd.ev env)) rows d env K := _root_.id rfl
theorem runK_frz : runK P ⟨d, .frz, args, g⟩ env rows K = evC .frz (args.map (Opd.ev env)) rows d env K := _root_.id rfl
theorem runK_minmax {m} : runK P ⟨d, .minmax m, args, g⟩ env rows K = evC (.minmax m) (args.map (Opd.ev env)) rows d env K := _root_.id rfl
end

/-- operations on bits -/
def band (k : IntKind) (a b : Int) : Int := k.wrap (BitVec.ofInt k.bits a &&& BitVec.ofInt k.bits b).toNat
def bor (k : IntKind) (a b : Int) : Int := k.wrap (BitVec.ofInt k.bits a ||| BitVec.ofInt k.bits b).toNat
def bxor (k : IntKind) (a b : Int) : Int := k.wrap (BitVec.ofInt k.bits a ^^^ BitVec.ofInt k.bits b).toNat
def bshl (k : IntKind) (a : Int) (n : Nat) : Int := k.wrap (a * 2 ^ (min n k.bits))
def bshr (k : IntKind) (a : Int) (n : Nat) : Int := a.fdiv (2 ^ (min n k.bits))

/-- looking into a row -/
def load1C (r : Option Row) (n i off : Nat) (rows : List Row) (dst : Option Nat) (env : Env) (K : Env → List Row → Prop) : Prop :=
  match r with
  | some (.live _ sz vals) => n = vals.length ∧ off < sz ∧ K (put env dst ((vals.getD i []).getD off .junk)) rows
  | _ => False
def loadAC (r : Option Row) (m n i off : Nat) (rows : List Row) (dst : Option Nat) (env : Env) (K : Env → List Row → Prop) : Prop :=
  match r with
  | some (.live _ sz vals) => n = vals.length ∧ off + m ≤ sz ∧ K (put env dst (.agg (((vals.getD i []).drop off).take m))) rows
  | _ => False
def storeC (row : Option Row) (m r n i off : Nat) (cells : List AVal) (rows : List Row) (dst : Option Nat) (env : Env) (K : Env → List Row → Prop) : Prop :=
  match row with
  | some (.live e sz vals) => n = vals.length ∧ off + m ≤ sz ∧ cells.length = m ∧ cells.all one = true ∧ K (put env dst (.tup [])) (rows.set r (.live e sz (vals.set i (splice (vals.getD i []) off cells))))
  | _ => False
def indexC (row : Option Row) (sz r n off len : Nat) (i : Int) (rows : List Row) (dst : Option Nat) (env : Env) (K : Env → List Row → Prop) : Prop :=
  match row with
  | some (.live _ sz' vals) => sz' = sz ∧ n = vals.length ∧ 0 ≤ i ∧ i < len ∧ K (put env dst (.ref r n (off + i.toNat) 0)) rows
  | _ => False
def sliceC (row : Option Row) (sz r n off : Nat) (len : Nat) (a b : Int) (rows : List Row) (dst : Option Nat) (env : Env) (K : Env → List Row → Prop) : Prop :=
  match row with
  | some (.live _ sz' vals) => 0 ≤ a ∧ a ≤ b ∧ b ≤ len ∧ sz' = sz ∧ n = vals.length ∧ K (put env dst (.own r n (off + a.toNat) (b.toNat - a.toNat))) rows
  | _ => False
def appC (row : Option Row) (ys : Option (List (List AVal))) (e : TypeId) (sz bytes r n off len : Nat) (rows : List Row) (dst : Option Nat) (env : Env) (K : Env → List Row → Prop) : Prop :=
  match ys, row with
  | some ys, some (.live e' sz' vals) => e' = e ∧ sz' = sz ∧ n = vals.length ∧ off = 0 ∧ len = n ∧ (n + ys.length) * bytes ≤ 140737488355328 ∧
      K (put env dst (.own r (n + ys.length) 0 (n + ys.length))) (rows.set r (.live e sz (vals ++ ys)))
  | _, _ => False
def appNilC (ys : Option (List (List AVal))) (e : TypeId) (sz bytes : Nat) (rows : List Row) (dst : Option Nat) (env : Env) (K : Env → List Row → Prop) : Prop :=
  match ys with
  | some ys => ys.length * bytes ≤ 140737488355328 ∧ K (put env dst (.own rows.length ys.length 0 ys.length)) (rows ++ [.live e sz ys])
  | none => False
def buildC (cs : Option (List AVal)) (vs : List AVal) (rows : List Row) (dst : Option Nat) (env : Env) (K : Env → List Row → Prop) : Prop :=
  match cs with
  | some cs => (vs.all fun v => (acells v).all one) = true ∧ K (put env dst (.agg cs)) rows
  | none => False
def bsliceC (es : Option (List (List AVal))) (e : TypeId) (sz len : Nat) (vs : List AVal) (rows : List Row) (dst : Option Nat) (env : Env) (K : Env → List Row → Prop) : Prop :=
  match es with
  | some es => (vs.all fun v => (acells v).all one) = true ∧ K (put env dst (.own rows.length len 0 len)) (rows ++ [.live e sz es])
  | none => False
def b2sC (ns : Option (List Int)) (rows : List Row) (dst : Option Nat) (env : Env) (K : Env → List Row → Prop) : Prop :=
  match ns with
  | some ns => K (put env dst (.str (strOf ns))) rows
  | none => False
def bytesO (ys : Option (List (List AVal))) : Option (List Int) :=
  match ys with
  | some ys => bytesE ys
  | none => none
def frzC (row : Option Row) (r n off len : Nat) (rows : List Row) (dst : Option Nat) (env : Env) (K : Env → List Row → Prop) : Prop :=
  match row with
  | some (.live _ sz vals) => n = vals.length ∧ off = 0 ∧ len = n ∧ 0 < n ∧ cleanE vals = true ∧ K (put env dst (.pure sz vals)) (rows.set r .dead)
  | _ => False
/-- the elements of a slice of a row -/
def elemsC (row : Option Row) (sz n off len : Nat) : Option (List (List AVal)) :=
  match row with
  | some (.live _ sz' vals) => if sz' = sz ∧ n = vals.length ∧ off + len ≤ n then some ((vals.drop off).take len) else none
  | _ => none

section
variable {K : Env → List Row → Prop} {env : Env} {rows : List Row} {d : Option Nat}
theorem evC_nilsl : evC .nilsl [] rows d env K = K (put env d .nils) rows := _root_.id rfl
theorem evC_mv {x : AVal} : evC .mv [x] rows d env K = K (put env d x) rows := _root_.id rfl
theorem evC_pick_t {a b : AVal} : evC .pick [.bool true, a, b] rows d env K = K (put env d a) rows := _root_.id rfl
theorem evC_pick_f {a b : AVal} : evC .pick [.bool false, a, b] rows d env K = K (put env d b) rows := _root_.id rfl
theorem evC_alloc {e z} : evC (.alloc e z) [] rows d env K = K (put env d (.ref rows.length 1 0 0)) (rows ++ [.live e z.length [z]]) := _root_.id rfl
theorem evC_box {e sz x} : evC (.box e sz) [x] rows d env K = ((acells x).length = sz ∧ (acells x).all one = true ∧ K (put env d (.ref rows.length 1 0 0)) (rows ++ [.live e sz [acells x]])) := _root_.id rfl
theorem evC_build {z p vs} : evC (.build z p) vs rows d env K = buildC (fillC z p vs) vs rows d env K := by
  unfold evC buildC; simp only [ev]; split <;> simp_all
theorem evC_bslice {e sz z len idx vs} : evC (.bslice e sz z len idx) vs rows d env K = bsliceC (fillE (List.replicate len z) sz idx vs) e sz len vs rows d env K := by
  unfold evC bsliceC; simp only [ev]; split <;> simp_all
theorem evC_mkslice {e sz b z k k' l c} : evC (.mkslice e sz b z) [.int k l, .int k' c] rows d env K = (0 ≤ l ∧ l ≤ c ∧ c * b ≤ 140737488355328 ∧ c ≤ 140737488355328 ∧
      K (put env d (.own rows.length l.toNat 0 l.toNat)) (rows ++ [.live e sz (List.replicate l.toNat z)])) := _root_.id rfl
theorem evC_load1_ref {r n i off} : evC .load1 [.ref r n i off] rows d env K = load1C rows[r]? n i off rows d env K := by
  unfold evC load1C; simp only [ev, evLoad1]; exact _root_.id rfl
theorem evC_load1_pref {cells off} : evC .load1 [.pref cells off] rows d env K = (off < cells.length ∧ K (put env d (cells.getD off .junk)) rows) := _root_.id rfl
theorem evC_loadA_ref {m r n i off} : evC (.loadA m) [.ref r n i off] rows d env K = loadAC rows[r]? m n i off rows d env K := by
  unfold evC loadAC; simp only [ev, evLoadA]; exact _root_.id rfl
theorem evC_loadA_pref {m cells off} : evC (.loadA m) [.pref cells off] rows d env K = (off + m ≤ cells.length ∧ K (put env d (.agg ((cells.drop off).take m))) rows) := _root_.id rfl
theorem evC_store {m r n i off y} : evC (.store m) [.ref r n i off, y] rows d env K = storeC rows[r]? m r n i off (acells y) rows d env K := by
  unfold evC storeC; simp only [ev, evStore]; exact _root_.id rfl
theorem evC_nilchk_ref {r n i o} : evC .nilchk [.ref r n i o] rows d env K = K (put env d (.ref r n i o)) rows := _root_.id rfl
theorem evC_nilchk_pref {c o} : evC .nilchk [.pref c o] rows d env K = K (put env d (.pref c o)) rows := _root_.id rfl
theorem evC_add {k a b} : evC (.bin .add) [.int k a, .int k b] rows d env K = K (put env d (.int k (k.wrap (a + b)))) rows := by simp [evC, ev, evBin]
theorem evC_sub {k a b} : evC (.bin .sub) [.int k a, .int k b] rows d env K = K (put env d (.int k (k.wrap (a - b)))) rows := by simp [evC, ev, evBin]
theorem evC_mul {k a b} : evC (.bin .mul) [.int k a, .int k b] rows d env K = K (put env d (.int k (k.wrap (a * b)))) rows := by simp [evC, ev, evBin]
theorem evC_quo {k a b} : evC (.bin .quo) [.int k a, .int k b] rows d env K = (b ≠ 0 ∧ K (put env d (.int k (k.wrap (a.tdiv b)))) rows) := by simp [evC, ev, evBin]
theorem evC_rem {k a b} : evC (.bin .rem) [.int k a, .int k b] rows d env K = (b ≠ 0 ∧ K (put env d (.int k (a.tmod b))) rows) := by simp [evC, ev, evBin]
theorem evC_and {k a b} : evC (.bin .and) [.int k a, .int k b] rows d env K = K (put env d (.int k (band k a b))) rows := by simp [evC, ev, evBin, band]
theorem evC_or {k a b} : evC (.bin .or) [.int k a, .int k b] rows d env K = K (put env d (.int k (bor k a b))) rows := by simp [evC, ev, evBin, bor]
theorem evC_xor {k a b} : evC (.bin .xor) [.int k a, .int k b] rows d env K = K (put env d (.int k (bxor k a b))) rows := by simp [evC, ev, evBin, bxor]
theorem evC_shl {k k' a b} : evC (.bin .shl) [.int k a, .int k' b] rows d env K = (0 ≤ b ∧ K (put env d (.int k (bshl k a b.toNat))) rows) := _root_.id rfl
theorem evC_shr {k k' a b} : evC (.bin .shr) [.int k a, .int k' b] rows d env K = (0 ≤ b ∧ K (put env d (.int k (bshr k a b.toNat))) rows) := _root_.id rfl
theorem evC_eql {k a b} : evC (.bin .eql) [.int k a, .int k b] rows d env K = K (put env d (.bool (a == b))) rows := by simp [evC, ev, evBin]
theorem evC_neq {k a b} : evC (.bin .neq) [.int k a, .int k b] rows d env K = K (put env d (.bool (a != b))) rows := by simp [evC, ev, evBin]
theorem evC_lss {k a b} : evC (.bin .lss) [.int k a, .int k b] rows d env K = K (put env d (.bool (decide (a < b)))) rows := by simp [evC, ev, evBin]
theorem evC_leq {k a b} : evC (.bin .leq) [.int k a, .int k b] rows d env K = K (put env d (.bool (decide (a ≤ b)))) rows := by simp [evC, ev, evBin]
theorem evC_gtr {k a b} : evC (.bin .gtr) [.int k a, .int k b] rows d env K = K (put env d (.bool (decide (b < a)))) rows := by simp [evC, ev, evBin]
theorem evC_geq {k a b} : evC (.bin .geq) [.int k a, .int k b] rows d env K = K (put env d (.bool (decide (b ≤ a)))) rows := by simp [evC, ev, evBin]
theorem evC_seql {a b} : evC (.bin .eql) [.str a, .str b] rows d env K = K (put env d (.bool (a.toList == b.toList))) rows := _root_.id rfl
theorem evC_sneq {a b} : evC (.bin .neq) [.str a, .str b] rows d env K = K (put env d (.bool !(a.toList == b.toList))) rows := _root_.id rfl
theorem evC_slss {a b} : evC (.bin .lss) [.str a, .str b] rows d env K = K (put env d (.bool (Op.bytesLess a.toList b.toList))) rows := _root_.id rfl
theorem evC_sadd {a b} : evC (.bin .add) [.str a, .str b] rows d env K = (((a.size + b.size : Nat) : Int) ≤ IntKind.i64.max ∧ K (put env d (.str (a ++ b))) rows) := _root_.id rfl
theorem evC_eqA {neg ks xs ys} : evC (.eqA neg ks) [.agg xs, .agg ys] rows d env K = (fits ks xs ∧ fits ks ys ∧ K (put env d (.bool (eqCells xs ys != neg))) rows) := _root_.id rfl
theorem evC_eqB {neg a b} : evC (.eqB neg) [.bool a, .bool b] rows d env K = K (put env d (.bool ((a == b) != neg))) rows := _root_.id rfl
theorem evC_not {b} : evC .not [.bool b] rows d env K = K (put env d (.bool !b)) rows := _root_.id rfl
theorem evC_neg {k n} : evC .neg [.int k n] rows d env K = K (put env d (.int k (k.wrap (0 - n)))) rows := _root_.id rfl
theorem evC_conv {k k' n} : evC (.conv k) [.int k' n] rows d env K = K (put env d (.int k (k.wrap n))) rows := _root_.id rfl
theorem evC_fieldAddr_ref {m r n i off} : evC (.fieldAddr m) [.ref r n i off] rows d env K = K (put env d (.ref r n i (off + m))) rows := _root_.id rfl
theorem evC_fieldAddr_pref {m cells off} : evC (.fieldAddr m) [.pref cells off] rows d env K = K (put env d (.pref cells (off + m))) rows := _root_.id rfl
theorem evC_field1 {off cs} : evC (.field1 off) [.agg cs] rows d env K = (off < cs.length ∧ K (put env d (cs.getD off .junk)) rows) := _root_.id rfl
theorem evC_fieldA {off sz cs} : evC (.fieldA off sz) [.agg cs] rows d env K = (off + sz ≤ cs.length ∧ K (put env d (.agg ((cs.drop off).take sz))) rows) := _root_.id rfl
theorem evC_indexAddr_pure {sz sz' vals k i} : evC (.indexAddr sz) [.pure sz' vals, .int k i] rows d env K = (sz' = sz ∧ 0 ≤ i ∧ i < vals.length ∧ K (put env d (.pref (vals.getD i.toNat []) 0)) rows) := _root_.id rfl
theorem evC_indexAddr_own {sz r n off len k i} : evC (.indexAddr sz) [.own r n off len, .int k i] rows d env K = indexC rows[r]? sz r n off len i rows d env K := by
  unfold evC indexC; simp only [ev, evIndexAddr]; exact _root_.id rfl
theorem evC_index {s k i} : evC .index [.str s, .int k i] rows d env K = (0 ≤ i ∧ i < s.size ∧ K (put env d (.int .u8 ((s.data.getD i.toNat 0).toNat))) rows) := _root_.id rfl
theorem evC_slice_pure_tt {sz sz' vals k k' a b} : evC (.slice true true sz) [.pure sz' vals, .int k a, .int k' b] rows d env K = (0 ≤ a ∧ a ≤ b ∧ b ≤ vals.length ∧ sz' = sz ∧ K (put env d (.pure sz' ((vals.drop a.toNat).take (b.toNat - a.toNat)))) rows) := _root_.id rfl
theorem evC_slice_pure_tf {sz sz' vals k a} : evC (.slice true false sz) [.pure sz' vals, .int k a] rows d env K = (0 ≤ a ∧ a ≤ vals.length ∧ (vals.length : Int) ≤ vals.length ∧ sz' = sz ∧ K (put env d (.pure sz' ((vals.drop a.toNat).take ((vals.length : Int).toNat - a.toNat)))) rows) := _root_.id rfl
theorem evC_slice_pure_ft {sz sz' vals k b} : evC (.slice false true sz) [.pure sz' vals, .int k b] rows d env K = ((0 : Int) ≤ 0 ∧ 0 ≤ b ∧ b ≤ vals.length ∧ sz' = sz ∧ K (put env d (.pure sz' ((vals.drop (0 : Int).toNat).take (b.toNat - (0 : Int).toNat)))) rows) := _root_.id rfl
theorem evC_slice_own_tt {sz r n off len k k' a b} : evC (.slice true true sz) [.own r n off len, .int k a, .int k' b] rows d env K = sliceC rows[r]? sz r n off len a b rows d env K := by
  unfold evC sliceC; simp only [ev, evSlice, len?, Option.getD_some]; split <;> simp_all
theorem evC_slice_own_tf {sz r n off len k a} : evC (.slice true false sz) [.own r n off len, .int k a] rows d env K = sliceC rows[r]? sz r n off len a len rows d env K := by
  unfold evC sliceC; simp only [ev, evSlice, len?, Option.getD_some, Option.getD_none]; split <;> simp_all
theorem evC_slice_own_ft {sz r n off len k b} : evC (.slice false true sz) [.own r n off len, .int k b] rows d env K = sliceC rows[r]? sz r n off len 0 b rows d env K := by
  unfold evC sliceC; simp only [ev, evSlice, len?, Option.getD_some, Option.getD_none]; split <;> simp_all
theorem evC_sliceS_tt {s k k' a b} : evC (.sliceS true true) [.str s, .int k a, .int k' b] rows d env K = (0 ≤ a ∧ a ≤ b ∧ b ≤ s.size ∧ K (put env d (.str (s.extract a.toNat b.toNat))) rows) := _root_.id rfl
theorem evC_sliceS_tf {s k a} : evC (.sliceS true false) [.str s, .int k a] rows d env K = (0 ≤ a ∧ a ≤ s.size ∧ (s.size : Int) ≤ s.size ∧ K (put env d (.str (s.extract a.toNat (s.size : Int).toNat))) rows) := _root_.id rfl
theorem evC_sliceS_ft {s k b} : evC (.sliceS false true) [.str s, .int k b] rows d env K = ((0 : Int) ≤ 0 ∧ 0 ≤ b ∧ b ≤ s.size ∧ K (put env d (.str (s.extract (0 : Int).toNat b.toNat))) rows) := _root_.id rfl
theorem evC_len_pure {sz vals} : evC .len [.pure sz vals] rows d env K = K (put env d (.int .i64 (vals.length : Nat))) rows := _root_.id rfl
theorem evC_len_own {r n off len} : evC .len [.own r n off len] rows d env K = K (put env d (.int .i64 len)) rows := _root_.id rfl
theorem evC_len_nils : evC .len [.nils] rows d env K = K (put env d (.int .i64 (0 : Nat))) rows := _root_.id rfl
theorem evC_lenS {s} : evC .lenS [.str s] rows d env K = K (put env d (.int .i64 s.size)) rows := _root_.id rfl
theorem evC_append_nils {e sz b y} : evC (.append e sz b) [.nils, y] rows d env K = appNilC (elems? rows sz y) e sz b rows d env K := by
  unfold evC appNilC; simp only [ev, evAppend]; split <;> simp_all
theorem evC_append_own {e sz b r n off len y} : evC (.append e sz b) [.own r n off len, y] rows d env K = appC rows[r]? (elems? rows sz y) e sz b r n off len rows d env K := by
  unfold evC appC
  simp only [ev, evAppend]
  cases elems? rows sz y with
  | none => simp
  | some ys => cases hr : rows[r]? with
    | none => simp
    | some row => cases row <;> simp
theorem evC_b2s {x} : evC .b2s [x] rows d env K = b2sC (bytesO (elems? rows 1 x)) rows d env K := by
  unfold evC b2sC bytesO
  simp only [ev, evB2s]
  cases elems? rows 1 x with
  | none => rfl
  | some ys => simp only; cases bytesE ys <;> rfl
theorem b2sC_some {ns} : b2sC (some ns) rows d env K = K (put env d (.str (strOf ns))) rows := _root_.id rfl
theorem bytesO_some {ys} : bytesO (some ys) = bytesE ys := _root_.id rfl
theorem evC_frz {r n off len} : evC .frz [.own r n off len] rows d env K = frzC rows[r]? r n off len rows d env K := by
  unfold evC frzC; simp only [ev, evFrz]; exact _root_.id rfl
theorem frzC_live {e sz vals r n off len} : frzC (some (.live e sz vals)) r n off len rows d env K = (n = vals.length ∧ off = 0 ∧ len = n ∧ 0 < n ∧ cleanE vals = true ∧ K (put env d (.pure sz vals)) (rows.set r .dead)) := _root_.id rfl
theorem evC_extract {i vs} : evC (.extract i) [.tup vs] rows d env K = (i < vs.length ∧ K (put env d (vs.getD i .junk)) rows) := _root_.id rfl
theorem evC_min {k a b} : evC (.minmax false) [.int k a, .int k b] rows d env K = K (put env d (.int k (min a b))) rows := by simp [evC, ev]
theorem evC_max {k a b} : evC (.minmax true) [.int k a, .int k b] rows d env K = K (put env d (.int k (max a b))) rows := by simp [evC, ev]
theorem load1C_live {e sz vals n i off} : load1C (some (.live e sz vals)) n i off rows d env K = (n = vals.length ∧ off < sz ∧ K (put env d ((vals.getD i []).getD off .junk)) rows) := _root_.id rfl
theorem loadAC_live {e sz vals m n i off} : loadAC (some (.live e sz vals)) m n i off rows d env K = (n = vals.length ∧ off + m ≤ sz ∧ K (put env d (.agg (((vals.getD i []).drop off).take m))) rows) := _root_.id rfl
theorem storeC_live {e sz vals m r n i off cells} : storeC (some (.live e sz vals)) m r n i off cells rows d env K =
    (n = vals.length ∧ off + m ≤ sz ∧ cells.length = m ∧ cells.all one = true ∧ K (put env d (.tup [])) (rows.set r (.live e sz (vals.set i (splice (vals.getD i []) off cells))))) := _root_.id rfl
theorem indexC_live {e sz' vals sz r n off len i} : indexC (some (.live e sz' vals)) sz r n off len i rows d env K = (sz' = sz ∧ n = vals.length ∧ 0 ≤ i ∧ i < len ∧ K (put env d (.ref r n (off + i.toNat) 0)) rows) := _root_.id rfl
theorem sliceC_live {e sz' vals sz r n off len a b} : sliceC (some (.live e sz' vals)) sz r n off len a b rows d env K = (0 ≤ a ∧ a ≤ b ∧ b ≤ len ∧ sz' = sz ∧ n = vals.length ∧ K (put env d (.own r n (off + a.toNat) (b.toNat - a.toNat))) rows) := _root_.id rfl
theorem appC_live {ys e' sz' vals e sz b r n off len} : appC (some (.live e' sz' vals)) (some ys) e sz b r n off len rows d env K = (e' = e ∧ sz' = sz ∧ n = vals.length ∧ off = 0 ∧ len = n ∧ (n + ys.length) * b ≤ 140737488355328 ∧
      K (put env d (.own r (n + ys.length) 0 (n + ys.length))) (rows.set r (.live e sz (vals ++ ys)))) := _root_.id rfl
theorem appNilC_some {ys e sz b} : appNilC (some ys) e sz b rows d env K = (ys.length * b ≤ 140737488355328 ∧ K (put env d (.own rows.length ys.length 0 ys.length)) (rows ++ [.live e sz ys])) := _root_.id rfl
theorem buildC_some {cs vs} : buildC (some cs) vs rows d env K = ((vs.all fun v => (acells v).all one) = true ∧ K (put env d (.agg cs)) rows) := _root_.id rfl
theorem bsliceC_some {es e sz len vs} : bsliceC (some es) e sz len vs rows d env K = ((vs.all fun v => (acells v).all one) = true ∧ K (put env d (.own rows.length len 0 len)) (rows ++ [.live e sz es])) := _root_.id rfl
end

theorem elems_pure {rows : List Row} {sz sz' : Nat} {vals : List (List AVal)} : elems? rows sz (.pure sz' vals) = if sz' = sz then some vals else none := _root_.id rfl
theorem elems_nils {rows : List Row} {sz : Nat} : elems? rows sz .nils = some [] := _root_.id rfl
theorem elems_own {rows : List Row} {sz r n off len : Nat} : elems? rows sz (.own r n off len) = elemsC rows[r]? sz n off len := by
  unfold elemsC; simp only [elems?]; exact _root_.id rfl
theorem elemsC_live {e : TypeId} {sz' sz n off len : Nat} {vals : List (List AVal)} : elemsC (some (.live e sz' vals)) sz n off len = if sz' = sz ∧ n = vals.length ∧ off + len ≤ n then some ((vals.drop off).take len) else none := _root_.id rfl
theorem fillC_nil {cells : List AVal} : fillC cells [] [] = some cells := _root_.id rfl
theorem fillC_cons {cells : List AVal} {off sz : Nat} {ps : List (Nat × Nat)} {v : AVal} {vs : List AVal} : fillC cells ((off, sz) :: ps) (v :: vs) = if (acells v).length = sz ∧ off + sz ≤ cells.length then fillC (splice cells off (acells v)) ps vs else none := _root_.id rfl
theorem fillE_nil {es : List (List AVal)} {sz : Nat} : fillE es sz [] [] = some es := _root_.id rfl
theorem fillE_cons {es : List (List AVal)} {sz i : Nat} {is : List Nat} {v : AVal} {vs : List AVal} : fillE es sz (i :: is) (v :: vs) = if (acells v).length = sz ∧ i < es.length then fillE (es.set i (acells v)) sz is vs else none := _root_.id rfl
theorem acells_agg {cs : List AVal} : acells (.agg cs) = cs := _root_.id rfl
theorem acells_int {k : IntKind} {n : Int} : acells (.int k n) = [.int k n] := _root_.id rfl
theorem acells_bool {b : Bool} : acells (.bool b) = [.bool b] := _root_.id rfl
theorem acells_str {s : ByteArray} : acells (.str s) = [.str s] := _root_.id rfl
theorem acells_nils : acells .nils = [.nils] := _root_.id rfl
theorem acells_pure {sz : Nat} {vals : List (List AVal)} : acells (.pure sz vals) = [.pure sz vals] := _root_.id rfl
theorem acells_own {r n o l : Nat} : acells (.own r n o l) = [.own r n o l] := _root_.id rfl
theorem acells_ref {r n o l : Nat} : acells (.ref r n o l) = [.ref r n o l] := _root_.id rfl
theorem one_int {k : IntKind} {n : Int} : one (.int k n) = true := _root_.id rfl
theorem one_bool {b : Bool} : one (.bool b) = true := _root_.id rfl
theorem one_str {s : ByteArray} : one (.str s) = true := _root_.id rfl
theorem one_nils : one .nils = true := _root_.id rfl
theorem one_pure {sz : Nat} {vals : List (List AVal)} : one (.pure sz vals) = true := _root_.id rfl
theorem one_own {r n o l : Nat} : one (.own r n o l) = true := _root_.id rfl
theorem one_ref {r n o l : Nat} : one (.ref r n o l) = true := _root_.id rfl

theorem slot_nil {t : Nat} : slot [] t = .junk := _root_.id rfl
theorem slot_cons {s t : Nat} {v : AVal} {r : Env} : slot ((s, v) :: r) t = if s = t then v else slot r t := _root_.id rfl
theorem put_some {env : Env} {d : Nat} {v : AVal} : put env (some d) v = (d, v) :: env := _root_.id rfl
theorem put_none {env : Env} {v : AVal} : put env none v = env := _root_.id rfl
theorem norm_nil {env : Env} : norm [] env = [] := _root_.id rfl
theorem norm_cons {s : Nat} {ss : List Nat} {env : Env} : norm (s :: ss) env = (s, slot env s) :: norm ss env := _root_.id rfl
theorem opd_t {env : Env} {s : Nat} : Opd.ev env (.t s) = slot env s := _root_.id rfl
theorem opd_c {env : Env} {v : AVal} : Opd.ev env (.c v) = v := _root_.id rfl
theorem splice_eq {l : List AVal} {off : Nat} {cs : List AVal} : splice l off cs = l.take off ++ cs ++ l.drop (off + cs.length) := _root_.id rfl
theorem eqCells_int {k k' : IntKind} {a b : Int} {cs ds : List AVal} : eqCells (.int k a :: cs) (.int k' b :: ds) = (a == b && eqCells cs ds) := _root_.id rfl
theorem eqCells_bool {a b : Bool} {cs ds : List AVal} : eqCells (.bool a :: cs) (.bool b :: ds) = (a == b && eqCells cs ds) := _root_.id rfl
theorem eqCells_str {a b : ByteArray} {cs ds : List AVal} : eqCells (.str a :: cs) (.str b :: ds) = (a.toList == b.toList && eqCells cs ds) := _root_.id rfl
theorem eqCells_nil : eqCells [] [] = true := _root_.id rfl
theorem fits_int {k k' : IntKind} {n : Int} {ks : List CK} {cs : List AVal} : fits (.int k :: ks) (.int k' n :: cs) = (k = k' ∧ fits ks cs) := _root_.id rfl
theorem fits_bool {b : Bool} {ks : List CK} {cs : List AVal} : fits (.bool :: ks) (.bool b :: cs) = fits ks cs := _root_.id rfl
theorem fits_str {s : ByteArray} {ks : List CK} {cs : List AVal} : fits (.str :: ks) (.str s :: cs) = fits ks cs := _root_.id rfl
theorem fits_nil : fits [] [] = True := _root_.id rfl
theorem argEnv_nil {k : Nat} : argEnv [] k = [] := _root_.id rfl
theorem argEnv_cons {a : AVal} {as : List AVal} {k : Nat} : argEnv (a :: as) k = (k, a) :: argEnv as (k + 1) := _root_.id rfl

/-- the end of a function: its results, one by one -/
def finK (Q : AVal → List Row → Prop) (env : Env) (rows : List Row) : Prop := Q (slot env 0) rows
def retK (n0 : Nat) (Q : AVal → List Row → Prop) (acc : List AVal) (rs : List ARes) (env : Env) (rows : List Row) : Prop :=
  resK rows env rs fun vs => Cl n0 (finK Q) [(0, oneOrTup (acc ++ vs))] rows
def noX (_ : Nat) (_ : Env) (_ : List Row) : Prop := False

def ret1C (r : Option Row) (n i off : Nat) (n0 : Nat) (Q : AVal → List Row → Prop) (acc : List AVal) (rs : List ARes) (env : Env) (rows : List Row) : Prop :=
  match r with
  | some (.live _ sz vals) => n = vals.length ∧ off < sz ∧ retK n0 Q (acc ++ [(vals.getD i []).getD off .junk]) rs env rows
  | _ => False
def retAC (r : Option Row) (m n i off : Nat) (n0 : Nat) (Q : AVal → List Row → Prop) (acc : List AVal) (rs : List ARes) (env : Env) (rows : List Row) : Prop :=
  match r with
  | some (.live _ sz vals) => n = vals.length ∧ off + m ≤ sz ∧ retK n0 Q (acc ++ [.agg (((vals.getD i []).drop off).take m)]) rs env rows
  | _ => False
def cellA (v : AVal) (m : Nat) (n0 : Nat) (Q : AVal → List Row → Prop) (acc : List AVal) (rs : List ARes) (env : Env) (rows : List Row) : Prop :=
  evLoadA rows m v fun v => retK n0 Q (acc ++ [v]) rs env rows
def cell1 (v : AVal) (n0 : Nat) (Q : AVal → List Row → Prop) (acc : List AVal) (rs : List ARes) (env : Env) (rows : List Row) : Prop :=
  evLoad1 rows v fun v => retK n0 Q (acc ++ [v]) rs env rows

section
variable {n0 : Nat} {Q : AVal → List Row → Prop} {acc : List AVal} {rs : List ARes} {env : Env} {rows : List Row}
theorem retK_nil : retK n0 Q acc [] env rows = Cl n0 (finK Q) [(0, oneOrTup acc)] rows := by simp [retK, resK]
theorem retK_tmp {t : Nat} : retK n0 Q acc (.tmp t :: rs) env rows = retK n0 Q (acc ++ [slot env t]) rs env rows := by simp [retK, resK]
theorem retK_cellA {t m : Nat} : retK n0 Q acc (.cellA t m :: rs) env rows = cellA (slot env t) m n0 Q acc rs env rows := by simp [retK, resK, cellA]
theorem retK_cell1 {t : Nat} : retK n0 Q acc (.cell1 t :: rs) env rows = cell1 (slot env t) n0 Q acc rs env rows := by simp [retK, resK, cell1]
theorem cellA_ref {m r n i off : Nat} : cellA (.ref r n i off) m n0 Q acc rs env rows = retAC rows[r]? m n i off n0 Q acc rs env rows := by unfold cellA retAC; simp only [evLoadA]; exact _root_.id rfl
theorem cell1_ref {r n i off : Nat} : cell1 (.ref r n i off) n0 Q acc rs env rows = ret1C rows[r]? n i off n0 Q acc rs env rows := by unfold cell1 ret1C; simp only [evLoad1]; exact _root_.id rfl
theorem retAC_live {e sz vals m n i off} : retAC (some (.live e sz vals)) m n i off n0 Q acc rs env rows = (n = vals.length ∧ off + m ≤ sz ∧ retK n0 Q (acc ++ [.agg (((vals.getD i []).drop off).take m)]) rs env rows) := _root_.id rfl
theorem ret1C_live {e sz vals n i off} : ret1C (some (.live e sz vals)) n i off n0 Q acc rs env rows = (n = vals.length ∧ off < sz ∧ retK n0 Q (acc ++ [(vals.getD i []).getD off .junk]) rs env rows) := _root_.id rfl
theorem oneOrTup_one {v : AVal} : oneOrTup [v] = v := _root_.id rfl
theorem oneOrTup_nil : oneOrTup [] = .tup [] := _root_.id rfl
theorem oneOrTup_two {v w : AVal} {vs : List AVal} : oneOrTup (v :: w :: vs) = .tup (v :: w :: vs) := _root_.id rfl
end

/-- the condition on a function -/
theorem fnVC_of {P : Program} {af : AFunc} {args : List AVal} {rows : List Row} {Q : AVal → List Row → Prop}
    (h : avc P rows.length af.body ⟨retK rows.length Q [] af.results, noX, retK rows.length Q [] af.results⟩ (argEnv args 0) rows) : fnVC P af args rows Q := h

theorem afn {P : Program} {f : FuncId} {fn : Func} {live : Nat → Info} {af : AFunc} (hf : P.funcs[f]? = some fn) (hc : compileF P live fn = some af) {args : List AVal} {rows : List Row} {Q : AVal → List Row → Prop}
    (hn : args.length ≤ af.ntmps) (h : avc P rows.length af.body ⟨retK rows.length Q [] af.results, noX, retK rows.length Q [] af.results⟩ (argEnv args 0) rows) : AFn P f args rows Q :=
  afn_of_vc hf hc hn (fnVC_of h)

/-- tests for 'once' and 'keeps' -/
def onceB : List (Option Nat) → Bool
  | [] => true
  | none :: ss => onceB ss
  | some r :: ss => !ss.contains (some r) && onceB ss

theorem onceB_spec : ∀ {sel : List (Option Nat)}, onceB sel = true → once sel
  | [], _ => by intro i j r h; simp at h
  | none :: ss, h => by
    intro i j r h1 h2
    have ih := onceB_spec (sel := ss) h
    cases i with
    | zero => simp at h1
    | succ i =>
      cases j with
      | zero => simp at h2
      | succ j => rw [ih i j r (by simpa using h1) (by simpa using h2)]
  | some s :: ss, h => by
    simp only [onceB, Bool.and_eq_true, Bool.not_eq_true', List.contains_eq_mem, decide_eq_false_iff_not] at h
    have ih := onceB_spec (sel := ss) h.2
    intro i j r h1 h2
    cases i with
    | zero =>
      simp at h1
      subst h1
      cases j with
      | zero => rfl
      | succ j => exact (h.1 (List.mem_of_getElem? (by simpa using h2))).elim
    | succ i =>
      cases j with
      | zero =>
        simp at h2
        subst h2
        exact (h.1 (List.mem_of_getElem? (by simpa using h1))).elim
      | succ j => rw [ih i j r (by simpa using h1) (by simpa using h2)]

def keepsB : Nat → Nat → List (Option Nat) → Bool
  | 0, _, _ => true
  | _ + 1, _, [] => false
  | n + 1, k, s :: ss => (s == some k || s == none) && keepsB n (k + 1) ss

theorem keepsB_spec : ∀ {n k : Nat} {sel : List (Option Nat)}, keepsB n k sel = true → n ≤ sel.length ∧ ∀ i, i < n → sel[i]? = some (some (k + i)) ∨ sel[i]? = some none
  | 0, k, sel, _ => ⟨by simp, fun i hi => by omega⟩
  | n + 1, k, [], h => by simp [keepsB] at h
  | n + 1, k, s :: ss, h => by
    simp only [keepsB, Bool.and_eq_true, Bool.or_eq_true, beq_iff_eq] at h
    obtain ⟨h1, h2⟩ := keepsB_spec h.2
    refine ⟨by simp; omega, fun i hi => ?_⟩
    cases i with
    | zero => simpa using h.1
    | succ i =>
      have := h2 i (by omega)
      rw [show k + (i + 1) = k + 1 + i from by omega]
      simpa using this

theorem keeps_of {n0 : Nat} {sel : List (Option Nat)} (h : keepsB n0 0 sel = true) : keeps n0 sel := by
  obtain ⟨h1, h2⟩ := keepsB_spec h
  exact ⟨h1, fun i hi => by simpa using h2 i hi⟩

/-- rows under new names, or gone, or unchangeable from now on -/
theorem Cl.tr {n0 : Nat} {K : Env → List Row → Prop} {env : Env} {rows srows : List Row} (sel : List (Option Nat)) (vw : List Nat) (h1 : onceB sel = true) (h2 : keepsB n0 0 sel = true) (hg : getRows rows vw sel sel = some srows)
    (h : Cl n0 K (env.map fun p => (p.1, bindV rows sel vw p.2)) srows) : Cl n0 K env rows := Cl.step (.tr sel vw (onceB_spec h1) (keeps_of h2) hg) h

theorem Cl.ghost {n0 : Nat} {K : Env → List Row → Prop} {env : Env} {rows : List Row} (s : Nat) (e : TypeId) (sz : Nat) (h : slot env s = .nils)
    (k : Cl n0 K ((s, .own rows.length 0 0 0) :: env) (rows ++ [.live e sz []])) : Cl n0 K env rows := Cl.step (.ghost s e sz h) k

theorem Cl.norm {n0 : Nat} {K : Env → List Row → Prop} {env : Env} {rows : List Row} (live : List Nat) (h : Cl n0 K (norm live env) rows) : Cl n0 K env rows :=
  Cl.step (.env fun t => slot_norm live env t) h

mutual
theorem bindV_clean {rows : List Row} {sel : List (Option Nat)} {vw : List Nat} : ∀ (a : AVal), clean a = true → bindV rows sel vw a = a
  | .own .., h => by simp [clean] at h
  | .ref .., h => by simp [clean] at h
  | .agg cs, h => by rw [clean] at h; rw [bindV, bindL_clean cs h]
  | .tup cs, h => by rw [clean] at h; rw [bindV, bindL_clean cs h]
  | .int .., _ => by simp [bindV]
  | .bool .., _ => by simp [bindV]
  | .str .., _ => by simp [bindV]
  | .nils, _ => by simp [bindV]
  | .nilp, _ => by simp [bindV]
  | .junk, _ => by simp [bindV]
  | .pure .., _ => by simp [bindV]
  | .pref .., _ => by simp [bindV]
theorem bindL_clean {rows : List Row} {sel : List (Option Nat)} {vw : List Nat} : ∀ (as : List AVal), cleanL as = true → bindL rows sel vw as = as
  | [], _ => by simp [bindL]
  | a :: as, h => by
    simp only [cleanL, Bool.and_eq_true] at h
    rw [bindL, bindV_clean a h.1, bindL_clean as h.2]
end

/-- the end of a function whose rows are all gone -/
theorem Cl.fin {Q : AVal → List Row → Prop} {v : AVal} {rows : List Row} (hv : clean v = true) (h : Q v []) : Cl 0 (finK Q) [(0, v)] rows := by
  refine Cl.tr (srows := []) [] [] (by decide) (by decide) (by exact _root_.id rfl) (Cl.here ?_)
  have hb : ∀ (v : AVal), clean v = true → bindV rows [] [] v = v := fun v hv => bindV_clean v hv
  simp only [finK, List.map_cons, List.map_nil, slot_cons, if_true, hb v hv]
  exact h

/-- a call by its contract: the rows that are handed over, the rows that are lent -/
theorem callC_of {P : Program} {f : FuncId} {args : List AVal} {rows : List Row} {dst : Option Nat} {env : Env} {K : Env → List Row → Prop} (sel vw : List Nat) {srows : List Row} {bargs : List AVal} {Q : AVal → List Row → Prop}
    (hn : sel.Nodup) (hg : getRows rows vw (sel.map some) (sel.map some) = some srows) (hb : bindL rows (sel.map some) vw args = bargs) (hA : AFn P f bargs srows Q)
    (hk : ∀ v rs, Q v rs → (vw = [] ∨ (flat v = true ∧ (rs.all flatRow) = true)) ∧ K (put env dst (renV (back rows.length sel) v)) (mergeR rows sel (rs.map (renRow (back rows.length sel))))) :
    callC P f args rows dst env K :=
  ⟨sel, vw, srows, hn, hg, by rw [hb]; exact hA.mono hk⟩

end Go.Abs
