/- Abs43, Abs44, Abs47, Abs48 joined. -/
import Derived.Test.YtpincjkjoeopkaaGreatDoorAbsMg
set_option linter.unusedSimpArgs false
set_option linter.unusedVariables false
set_option linter.unusedSectionVars false
section
/- A way to run functions: what an operation does, with tests instead of conditions; the answers are of any type. -/
namespace Go.Abs
variable [Glb]

structure Ans (ρ : Type) where
  no : ρ
  all : List ρ → ρ
def AP : Ans Prop := ⟨False, fun l => l.foldr And True⟩
def chk {ρ : Type} (A : Ans ρ) (b : Bool) (k : ρ) : ρ := match b with | true => k | false => A.no
theorem chk_P {b : Bool} {k : Prop} : chk AP b k = (b = true ∧ k) := by cases b <;> simp [chk, AP]
theorem all_P {l : List Prop} : AP.all l ↔ ∀ p ∈ l, p := by
  show l.foldr And True ↔ _
  induction l with
  | nil => exact ⟨fun _ p h => (by simp at h), fun _ => trivial⟩
  | cons x l ih =>
    constructor
    · rintro ⟨h1, h2⟩ p hp
      rcases List.mem_cons.1 hp with rfl | hp
      · exact h1
      · exact ih.1 h2 p hp
    · exact fun h => ⟨h x List.mem_cons_self, ih.2 fun p hp => h p (List.mem_cons_of_mem _ hp)⟩
def fitsB : List CK → List AVal → Bool
  | .int k :: ks, .int k' _ :: cs => decide (k = k') && fitsB ks cs
  | .bool :: ks, .bool _ :: cs => fitsB ks cs
  | .str :: ks, .str _ :: cs => fitsB ks cs
  | [], [] => true
  | _, _ => false
theorem fitsB_ok : ∀ {ks : List CK} {cs : List AVal}, fitsB ks cs = true → fits ks cs := by
  intro ks
  induction ks with
  | nil => intro cs h; cases cs <;> simp [fitsB] at h; exact trivial
  | cons k ks ih =>
    intro cs h
    cases cs with
    | nil => cases k <;> simp [fitsB] at h
    | cons c cs => cases k <;> cases c <;> simp [fitsB] at h <;> simp [fits] <;> first | exact ⟨h.1, ih h.2⟩ | exact ih h
def keyB (ag : Bool) (ks : List CK) (k : AVal) : Bool := decide (isAg k = ag) && fitsB ks (acells k)
theorem keyB_ok {ag : Bool} {ks : List CK} {k : AVal} (h : keyB ag ks k = true) : keyFits ag ks k := by
  simp only [keyB, Bool.and_eq_true, decide_eq_true_eq] at h
  exact ⟨h.1, fitsB_ok h.2⟩
def xvFrz {ρ : Type} (A : Ans ρ) (rows : List Row) (x : AVal) (K : AVal → List Row → ρ) : ρ :=
  match x with
  | .own r n off len =>
    match rows[r]? with
    | some (.live _ sz vals) => chk A (decide (n = vals.length) && decide (off = 0) && decide (len = n) && decide (0 < n) && cleanE vals) (K (.pure sz vals) (rows.set r .dead))
    | _ => A.no
  | _ => A.no
def xvBin {ρ : Type} (A : Ans ρ) (op : BinOp) (x y : AVal) (K : AVal → ρ) : ρ :=
  match x, y with
  | .int k a, .int k' b =>
    match op with
    | .shl => chk A (decide (0 ≤ b)) (K (.int k (k.wrap (a * 2 ^ (min b.toNat k.bits)))))
    | .shr => chk A (decide (0 ≤ b)) (K (.int k (a.fdiv (2 ^ (min b.toNat k.bits)))))
    | .add => chk A (decide (k = k')) (K (.int k (k.wrap (a + b))))
    | .sub => chk A (decide (k = k')) (K (.int k (k.wrap (a - b))))
    | .mul => chk A (decide (k = k')) (K (.int k (k.wrap (a * b))))
    | .quo => chk A (decide (k = k') && decide (b ≠ 0)) (K (.int k (k.wrap (a.tdiv b))))
    | .rem => chk A (decide (k = k') && decide (b ≠ 0)) (K (.int k (a.tmod b)))
    | .and => chk A (decide (k = k')) (K (.int k (k.wrap (BitVec.ofInt k.bits a &&& BitVec.ofInt k.bits b).toNat)))
    | .or => chk A (decide (k = k')) (K (.int k (k.wrap (BitVec.ofInt k.bits a ||| BitVec.ofInt k.bits b).toNat)))
    | .xor => chk A (decide (k = k')) (K (.int k (k.wrap (BitVec.ofInt k.bits a ^^^ BitVec.ofInt k.bits b).toNat)))
    | .eql => chk A (decide (k = k')) (K (.bool (a == b)))
    | .neq => chk A (decide (k = k')) (K (.bool (a != b)))
    | .lss => chk A (decide (k = k')) (K (.bool (a < b)))
    | .leq => chk A (decide (k = k')) (K (.bool (a ≤ b)))
    | .gtr => chk A (decide (k = k')) (K (.bool (a > b)))
    | .geq => chk A (decide (k = k')) (K (.bool (a ≥ b)))
    | _ => A.no
  | .str a, .str b =>
    match op with
    | .eql => K (.bool (a.toList == b.toList))
    | .neq => K (.bool !(a.toList == b.toList))
    | .lss => K (.bool (Op.bytesLess a.toList b.toList))
    | .leq => K (.bool (Op.bytesLess a.toList b.toList || a.toList == b.toList))
    | .gtr => K (.bool !(Op.bytesLess a.toList b.toList || a.toList == b.toList))
    | .geq => K (.bool !(Op.bytesLess a.toList b.toList))
    | .add => chk A (decide (((a.size + b.size : Nat) : Int) ≤ IntKind.i64.max)) (K (.str (a ++ b)))
    | _ => A.no
  | _, _ => A.no
def xvLoad1 {ρ : Type} (A : Ans ρ) (rows : List Row) (x : AVal) (K : AVal → ρ) : ρ :=
  match x with
  | .ref r n i off =>
    match rows[r]? with
    | some (.live _ sz vals) => chk A (decide (n = vals.length) && decide (off < sz)) (K ((vals.getD i []).getD off .junk))
    | _ => A.no
  | .pref cells off => chk A (decide (off < cells.length)) (K (cells.getD off .junk))
  | _ => A.no
def xvLoadA {ρ : Type} (A : Ans ρ) (rows : List Row) (m : Nat) (x : AVal) (K : AVal → ρ) : ρ :=
  match x with
  | .ref r n i off =>
    match rows[r]? with
    | some (.live _ sz vals) => chk A (decide (n = vals.length) && decide (off + m ≤ sz)) (K (.agg (((vals.getD i []).drop off).take m)))
    | _ => A.no
  | .pref cells off => chk A (decide (off + m ≤ cells.length)) (K (.agg ((cells.drop off).take m)))
  | _ => A.no
def xvStore {ρ : Type} (A : Ans ρ) (rows : List Row) (m : Nat) (x y : AVal) (K : List Row → ρ) : ρ :=
  match x with
  | .ref r n i off =>
    match rows[r]? with
    | some (.live e sz vals) => chk A (decide (n = vals.length) && decide (off + m ≤ sz) && decide ((acells y).length = m) && (acells y).all one) (K (rows.set r (.live e sz (vals.set i (splice (vals.getD i []) off (acells y))))))
    | _ => A.no
  | _ => A.no
def xvFieldAddr {ρ : Type} (A : Ans ρ) (d : Nat) (x : AVal) (K : AVal → ρ) : ρ :=
  match x with
  | .ref r n i off => K (.ref r n i (off + d))
  | .pref cells off => K (.pref cells (off + d))
  | _ => A.no
def xvIndexAddr {ρ : Type} (A : Ans ρ) (rows : List Row) (sz : Nat) (x y : AVal) (K : AVal → ρ) : ρ :=
  match x, y with
  | .pure sz' vals, .int _ i => chk A (decide (sz' = sz) && decide (0 ≤ i) && decide (i < vals.length)) (K (.pref (vals.getD i.toNat []) 0))
  | .own r n off len, .int _ i =>
    match rows[r]? with
    | some (.live _ sz' vals) => chk A (decide (sz' = sz) && decide (n = vals.length) && decide (0 ≤ i) && decide (i < len)) (K (.ref r n (off + i.toNat) 0))
    | _ => A.no
  | _, _ => A.no
def xvSlice {ρ : Type} (A : Ans ρ) (rows : List Row) (lo hi : Option AVal) (sz : Nat) (x : AVal) (K : AVal → ρ) : ρ :=
  match len? x with
  | none => A.no
  | some l =>
    match lo.getD (.int .i64 0), hi.getD (.int .i64 l) with
    | .int _ a, .int _ b => chk A (decide (0 ≤ a) && decide (a ≤ b) && decide (b ≤ l)) (match x with
      | .pure sz' vals => chk A (decide (sz' = sz)) (K (.pure sz' ((vals.drop a.toNat).take (b.toNat - a.toNat))))
      | .nils => K .nils
      | .own r n off _ =>
        match rows[r]? with
        | some (.live _ sz' vals) => chk A (decide (sz' = sz) && decide (n = vals.length)) (K (.own r n (off + a.toNat) (b.toNat - a.toNat)))
        | _ => A.no
      | _ => A.no)
    | _, _ => A.no
def xvSliceS {ρ : Type} (A : Ans ρ) (lo hi : Option AVal) (x : AVal) (K : AVal → ρ) : ρ :=
  match x with
  | .str s =>
    match lo.getD (.int .i64 0), hi.getD (.int .i64 s.size) with
    | .int _ a, .int _ b => chk A (decide (0 ≤ a) && decide (a ≤ b) && decide (b ≤ s.size)) (K (.str (s.extract a.toNat b.toNat)))
    | _, _ => A.no
  | _ => A.no
def xvB2s {ρ : Type} (A : Ans ρ) (rows : List Row) (x : AVal) (K : AVal → ρ) : ρ :=
  match elems? rows 1 x with
  | none => A.no
  | some ys =>
    match bytesE ys with
    | some ns => K (.str (strOf ns))
    | none => A.no
def xvAppend {ρ : Type} (A : Ans ρ) (rows : List Row) (e : TypeId) (sz bytes : Nat) (x y : AVal) (K : AVal → List Row → ρ) : ρ :=
  match elems? rows sz y with
  | none => A.no
  | some ys =>
    match x with
    | .nils => chk A (decide (ys.length * bytes ≤ 140737488355328)) (K (.own rows.length ys.length 0 ys.length) (rows ++ [.live e sz ys]))
    | .own r n off len =>
      match rows[r]? with
      | some (.live e' sz' vals) => chk A (decide (e' = e) && decide (sz' = sz) && decide (n = vals.length) && decide (off = 0) && decide (len = n) && decide ((n + ys.length) * bytes ≤ 140737488355328)) (K (.own r (n + ys.length) 0 (n + ys.length)) (rows.set r (.live e sz (vals ++ ys))))
      | _ => A.no
    | _ => A.no
def xvLook {ρ : Type} (A : Ans ρ) (rows : List Row) (ok ag : Bool) (ks : List CK) (zero x k : AVal) (K : AVal → ρ) : ρ :=
  match ments rows ag ks x with
  | none => A.no
  | some ents => chk A (keyB ag ks k) (K (if ok then .tup [(kfind k ents).getD zero, .bool (kfind k ents).isSome] else (kfind k ents).getD zero))
def xvMset {ρ : Type} (A : Ans ρ) (rows : List Row) (ag : Bool) (ks : List CK) (x k v : AVal) (K : List Row → ρ) : ρ :=
  match x with
  | .mref r =>
    match rows[r]? with
    | some (.obj (.map ag' ks' ents)) => chk A (decide ((ag' = ag ∧ ks' = ks)) && keyB ag ks k) (K (rows.set r (.obj (.map ag ks (kput k v ents)))))
    | _ => A.no
  | _ => A.no
def xvMent {ρ : Type} (A : Ans ρ) (rows : List Row) (ag : Bool) (ks : List CK) (zero x k : AVal) (K : AVal → List Row → ρ) : ρ :=
  match x with
  | .mref r =>
    match rows[r]? with
    | some (.obj (.map ag' ks' ents)) => chk A (decide ((ag' = ag ∧ ks' = ks)) && (keyB ag ks k && ents.all fun p => keyB ag ks p.1)) (K (.tup [(kfind k ents).getD zero, .int .i64 ((kpos k ents).getD ents.length)]) (rows.set r (.obj (.map ag ks (kput k ((kfind k ents).getD zero) ents)))))
    | _ => A.no
  | _ => A.no
def xvEstore {ρ : Type} (A : Ans ρ) (rows : List Row) (x i v : AVal) (K : List Row → ρ) : ρ :=
  match x, i with
  | .mref r, .int _ n =>
    match rows[r]? with
    | some (.obj (.map ag ks ents)) => chk A (decide (0 ≤ n) && decide (n < ents.length)) (K (rows.set r (.obj (.map ag ks (ents.set n.toNat ((ents.getD n.toNat (.junk, .junk)).1, v))))))
    | _ => A.no
  | _, _ => A.no
def xvIter {ρ : Type} (A : Ans ρ) (rows : List Row) (x : AVal) (K : AVal → List Row → ρ) : ρ :=
  match x with
  | .mref m =>
    match rows[m]? with
    | some (.obj (.map _ _ ents)) => K (.itref rows.length m) (rows ++ [.obj (.iter ents.length [])])
    | _ => A.no
  | _ => A.no
def xvEntry {ρ : Type} (A : Ans ρ) (rows : List Row) (x : AVal) (K : AVal → ρ) : ρ :=
  match x with
  | .itref r m =>
    match rows[r]?, rows[m]? with
    | some (.obj (.iter n seen)), some (.obj (.map _ _ ents)) => chk A (decide (n = ents.length) && decide (0 < seen.length) && decide (seen.getLastD 0 < n)) (K (.tup [(ents.getD (seen.getLastD 0) (.junk, .junk)).1, (ents.getD (seen.getLastD 0) (.junk, .junk)).2]))
    | _, _ => A.no
  | _ => A.no
def xvCopy {ρ : Type} (A : Ans ρ) (rows : List Row) (sz : Nat) (x y : AVal) (K : AVal → List Row → ρ) : ρ :=
  match elems? rows sz y with
  | none => A.no
  | some ys =>
    match x with
    | .own r n off len =>
      match rows[r]? with
      | some (.live e sz' vals) => chk A (decide (sz' = sz) && decide (n = vals.length) && decide (off + len ≤ n)) (K (.int .i64 ((min ys.length len : Nat) : Int)) (rows.set r (.live e sz (over vals off (ys.take (min ys.length len))))))
      | _ => A.no
    | _ => A.no
def xvClear {ρ : Type} (A : Ans ρ) (rows : List Row) (sz : Nat) (zero : List AVal) (x : AVal) (K : List Row → ρ) : ρ :=
  match x with
  | .own r n off len =>
    match rows[r]? with
    | some (.live e sz' vals) => chk A (decide (sz' = sz) && decide (n = vals.length) && decide (off + len ≤ n)) (K (rows.set r (.live e sz (over vals off (List.replicate len zero)))))
    | _ => A.no
  | _ => A.no
def xvIndexArr {ρ : Type} (A : Ans ρ) (len sz : Nat) (x y : AVal) (K : AVal → ρ) : ρ :=
  match x, y with
  | .ref r n i off, .int _ j => chk A (decide (0 ≤ j) && decide (j < len)) (K (.ref r n i (off + j.toNat * sz)))
  | .pref cells off, .int _ j => chk A (decide (0 ≤ j) && decide (j < len)) (K (.pref cells (off + j.toNat * sz)))
  | _, _ => A.no
theorem xvFrz_ok {rows : List Row} {x : AVal} {K : AVal → List Row → Prop} (h : xvFrz AP rows x K) : evFrz rows x K := by
  unfold xvFrz at h; unfold evFrz
  (repeat' (split at h)) <;> (try simp only [chk_P, Bool.and_eq_true, decide_eq_true_eq, and_assoc] at h) <;> (try simp only [and_assoc]) <;> first
    | exact h.elim
    | exact h
    | (rename_i h1; simp only [h1]; exact h)
    | (rename_i h1 h2; simp only [h1, h2]; exact h)
    | (rename_i h1; simp only [h1, and_assoc]; exact h)
    | (rename_i h1 h2; simp only [h1, h2, and_assoc]; exact h)
    | (rename_i h1 h2 h3; simp only [h1, h2, h3, and_assoc]; exact h)
    | (rename_i h1; simp only [h1, and_assoc]; exact ⟨h.1, h.2.1, keyB_ok h.2.2.1, h.2.2.2⟩)
    | (rename_i h1; simp only [h1, and_assoc]; exact ⟨keyB_ok h.1, h.2⟩)
theorem xvBin_ok {op : BinOp} {x : AVal} {y : AVal} {K : AVal → Prop} (h : xvBin AP op x y K) : evBin op x y K := by
  unfold xvBin at h; unfold evBin
  (repeat' (split at h)) <;> (try simp only [chk_P, Bool.and_eq_true, decide_eq_true_eq, and_assoc] at h) <;> (try simp only [and_assoc]) <;> first
    | exact h.elim
    | exact h
    | (rename_i h1; simp only [h1]; exact h)
    | (rename_i h1 h2; simp only [h1, h2]; exact h)
    | (rename_i h1; simp only [h1, and_assoc]; exact h)
    | (rename_i h1 h2; simp only [h1, h2, and_assoc]; exact h)
    | (rename_i h1 h2 h3; simp only [h1, h2, h3, and_assoc]; exact h)
    | (rename_i h1; simp only [h1, and_assoc]; exact ⟨h.1, h.2.1, keyB_ok h.2.2.1, h.2.2.2⟩)
    | (rename_i h1; simp only [h1, and_assoc]; exact ⟨keyB_ok h.1, h.2⟩)
theorem xvLoad1_ok {rows : List Row} {x : AVal} {K : AVal → Prop} (h : xvLoad1 AP rows x K) : evLoad1 rows x K := by
  unfold xvLoad1 at h; unfold evLoad1
  (repeat' (split at h)) <;> (try simp only [chk_P, Bool.and_eq_true, decide_eq_true_eq, and_assoc] at h) <;> (try simp only [and_assoc]) <;> first
    | exact h.elim
    | exact h
    | (rename_i h1; simp only [h1]; exact h)
    | (rename_i h1 h2; simp only [h1, h2]; exact h)
    | (rename_i h1; simp only [h1, and_assoc]; exact h)
    | (rename_i h1 h2; simp only [h1, h2, and_assoc]; exact h)
    | (rename_i h1 h2 h3; simp only [h1, h2, h3, and_assoc]; exact h)
    | (rename_i h1; simp only [h1, and_assoc]; exact ⟨h.1, h.2.1, keyB_ok h.2.2.1, h.2.2.2⟩)
    | (rename_i h1; simp only [h1, and_assoc]; exact ⟨keyB_ok h.1, h.2⟩)
theorem xvLoadA_ok {rows : List Row} {m : Nat} {x : AVal} {K : AVal → Prop} (h : xvLoadA AP rows m x K) : evLoadA rows m x K := by
  unfold xvLoadA at h; unfold evLoadA
  (repeat' (split at h)) <;> (try simp only [chk_P, Bool.and_eq_true, decide_eq_true_eq, and_assoc] at h) <;> (try simp only [and_assoc]) <;> first
    | exact h.elim
    | exact h
    | (rename_i h1; simp only [h1]; exact h)
    | (rename_i h1 h2; simp only [h1, h2]; exact h)
    | (rename_i h1; simp only [h1, and_assoc]; exact h)
    | (rename_i h1 h2; simp only [h1, h2, and_assoc]; exact h)
    | (rename_i h1 h2 h3; simp only [h1, h2, h3, and_assoc]; exact h)
    | (rename_i h1; simp only [h1, and_assoc]; exact ⟨h.1, h.2.1, keyB_ok h.2.2.1, h.2.2.2⟩)
    | (rename_i h1; simp only [h1, and_assoc]; exact ⟨keyB_ok h.1, h.2⟩)
theorem xvStore_ok {rows : List Row} {m : Nat} {x : AVal} {y : AVal} {K : List Row → Prop} (h : xvStore AP rows m x y K) : evStore rows m x y K := by
  unfold xvStore at h; unfold evStore
  (repeat' (split at h)) <;> (try simp only [chk_P, Bool.and_eq_true, decide_eq_true_eq, and_assoc] at h) <;> (try simp only [and_assoc]) <;> first
    | exact h.elim
    | exact h
    | (rename_i h1; simp only [h1]; exact h)
    | (rename_i h1 h2; simp only [h1, h2]; exact h)
    | (rename_i h1; simp only [h1, and_assoc]; exact h)
    | (rename_i h1 h2; simp only [h1, h2, and_assoc]; exact h)
    | (rename_i h1 h2 h3; simp only [h1, h2, h3, and_assoc]; exact h)
    | (rename_i h1; simp only [h1, and_assoc]; exact ⟨h.1, h.2.1, keyB_ok h.2.2.1, h.2.2.2⟩)
    | (rename_i h1; simp only [h1, and_assoc]; exact ⟨keyB_ok h.1, h.2⟩)
theorem xvFieldAddr_ok {d : Nat} {x : AVal} {K : AVal → Prop} (h : xvFieldAddr AP d x K) : evFieldAddr d x K := by
  unfold xvFieldAddr at h; unfold evFieldAddr
  (repeat' (split at h)) <;> (try simp only [chk_P, Bool.and_eq_true, decide_eq_true_eq, and_assoc] at h) <;> (try simp only [and_assoc]) <;> first
    | exact h.elim
    | exact h
    | (rename_i h1; simp only [h1]; exact h)
    | (rename_i h1 h2; simp only [h1, h2]; exact h)
    | (rename_i h1; simp only [h1, and_assoc]; exact h)
    | (rename_i h1 h2; simp only [h1, h2, and_assoc]; exact h)
    | (rename_i h1 h2 h3; simp only [h1, h2, h3, and_assoc]; exact h)
    | (rename_i h1; simp only [h1, and_assoc]; exact ⟨h.1, h.2.1, keyB_ok h.2.2.1, h.2.2.2⟩)
    | (rename_i h1; simp only [h1, and_assoc]; exact ⟨keyB_ok h.1, h.2⟩)
theorem xvIndexAddr_ok {rows : List Row} {sz : Nat} {x : AVal} {y : AVal} {K : AVal → Prop} (h : xvIndexAddr AP rows sz x y K) : evIndexAddr rows sz x y K := by
  unfold xvIndexAddr at h; unfold evIndexAddr
  (repeat' (split at h)) <;> (try simp only [chk_P, Bool.and_eq_true, decide_eq_true_eq, and_assoc] at h) <;> (try simp only [and_assoc]) <;> first
    | exact h.elim
    | exact h
    | (rename_i h1; simp only [h1]; exact h)
    | (rename_i h1 h2; simp only [h1, h2]; exact h)
    | (rename_i h1; simp only [h1, and_assoc]; exact h)
    | (rename_i h1 h2; simp only [h1, h2, and_assoc]; exact h)
    | (rename_i h1 h2 h3; simp only [h1, h2, h3, and_assoc]; exact h)
    | (rename_i h1; simp only [h1, and_assoc]; exact ⟨h.1, h.2.1, keyB_ok h.2.2.1, h.2.2.2⟩)
    | (rename_i h1; simp only [h1, and_assoc]; exact ⟨keyB_ok h.1, h.2⟩)
theorem xvSlice_ok {rows : List Row} {lo : Option AVal} {hi : Option AVal} {sz : Nat} {x : AVal} {K : AVal → Prop} (h : xvSlice AP rows lo hi sz x K) : evSlice rows lo hi sz x K := by
  unfold xvSlice at h; unfold evSlice
  cases hl : len? x with
  | none => rw [hl] at h; exact h.elim
  | some l =>
    rw [hl] at h
    simp only at h ⊢
    split at h
    · rename_i a b ha hb
      simp only [ha, hb]
      rw [chk_P] at h
      obtain ⟨h1, h⟩ := h
      simp only [Bool.and_eq_true, decide_eq_true_eq] at h1
      refine ⟨h1.1.1, h1.1.2, h1.2, ?_⟩
      split at h
      · rw [chk_P] at h; exact ⟨of_decide_eq_true h.1, h.2⟩
      · exact h
      · split at h
        · rename_i hr
          simp only [hr]
          simp only [chk_P, Bool.and_eq_true, decide_eq_true_eq, and_assoc] at h
          exact h
        · exact h.elim
      · exact h.elim
    · exact h.elim

theorem xvSliceS_ok {lo : Option AVal} {hi : Option AVal} {x : AVal} {K : AVal → Prop} (h : xvSliceS AP lo hi x K) : evSliceS lo hi x K := by
  unfold xvSliceS at h; unfold evSliceS
  (repeat' (split at h)) <;> (try simp only [chk_P, Bool.and_eq_true, decide_eq_true_eq, and_assoc] at h) <;> (try simp only [and_assoc]) <;> first
    | exact h.elim
    | exact h
    | (rename_i h1; simp only [h1]; exact h)
    | (rename_i h1 h2; simp only [h1, h2]; exact h)
    | (rename_i h1; simp only [h1, and_assoc]; exact h)
    | (rename_i h1 h2; simp only [h1, h2, and_assoc]; exact h)
    | (rename_i h1 h2 h3; simp only [h1, h2, h3, and_assoc]; exact h)
    | (rename_i h1; simp only [h1, and_assoc]; exact ⟨h.1, h.2.1, keyB_ok h.2.2.1, h.2.2.2⟩)
    | (rename_i h1; simp only [h1, and_assoc]; exact ⟨keyB_ok h.1, h.2⟩)
theorem xvB2s_ok {rows : List Row} {x : AVal} {K : AVal → Prop} (h : xvB2s AP rows x K) : evB2s rows x K := by
  unfold xvB2s at h; unfold evB2s
  cases hl : elems? rows 1 x with
  | none => rw [hl] at h; exact h.elim
  | some l =>
    rw [hl] at h
    simp only at h ⊢
    cases hb : bytesE l with
    | none => rw [hb] at h; exact h.elim
    | some ns => rw [hb] at h; exact h

theorem xvAppend_ok {rows : List Row} {e : TypeId} {sz : Nat} {bytes : Nat} {x : AVal} {y : AVal} {K : AVal → List Row → Prop} (h : xvAppend AP rows e sz bytes x y K) : evAppend rows e sz bytes x y K := by
  unfold xvAppend at h; unfold evAppend
  cases hl : elems? rows sz y with
  | none => rw [hl] at h; exact h.elim
  | some l =>
    rw [hl] at h
    simp only at h ⊢
    split at h
    · simp only [chk_P, Bool.and_eq_true, decide_eq_true_eq, and_assoc] at h; exact h
    · split at h
      · rename_i hr
        simp only [hr]
        simp only [chk_P, Bool.and_eq_true, decide_eq_true_eq, and_assoc] at h
        exact h
      · exact h.elim
    · exact h.elim

theorem xvLook_ok {rows : List Row} {ok : Bool} {ag : Bool} {ks : List CK} {zero : AVal} {x : AVal} {k : AVal} {K : AVal → Prop} (h : xvLook AP rows ok ag ks zero x k K) : evLook rows ok ag ks zero x k K := by
  unfold xvLook at h; unfold evLook
  cases hl : ments rows ag ks x with
  | none => rw [hl] at h; exact h.elim
  | some l =>
    rw [hl] at h
    simp only [chk_P] at h ⊢
    exact ⟨keyB_ok h.1, h.2⟩

theorem xvMset_ok {rows : List Row} {ag : Bool} {ks : List CK} {x : AVal} {k : AVal} {v : AVal} {K : List Row → Prop} (h : xvMset AP rows ag ks x k v K) : evMset rows ag ks x k v K := by
  unfold xvMset at h; unfold evMset
  (repeat' (split at h)) <;> (try simp only [chk_P, Bool.and_eq_true, decide_eq_true_eq, and_assoc] at h) <;> (try simp only [and_assoc]) <;> first
    | exact h.elim
    | exact h
    | (rename_i h1; simp only [h1]; exact h)
    | (rename_i h1 h2; simp only [h1, h2]; exact h)
    | (rename_i h1; simp only [h1, and_assoc]; exact h)
    | (rename_i h1 h2; simp only [h1, h2, and_assoc]; exact h)
    | (rename_i h1 h2 h3; simp only [h1, h2, h3, and_assoc]; exact h)
    | (rename_i h1; simp only [h1, and_assoc]; exact ⟨h.1, h.2.1, keyB_ok h.2.2.1, h.2.2.2⟩)
    | (rename_i h1; simp only [h1, and_assoc]; exact ⟨keyB_ok h.1, h.2⟩)
theorem xvMent_ok {rows : List Row} {ag : Bool} {ks : List CK} {zero : AVal} {x : AVal} {k : AVal} {K : AVal → List Row → Prop} (h : xvMent AP rows ag ks zero x k K) : evMent rows ag ks zero x k K := by
  unfold xvMent at h; unfold evMent
  split at h
  · split at h
    · rename_i hr
      simp only [chk_P, Bool.and_eq_true, decide_eq_true_eq] at h
      simp only [hr]
      exact ⟨h.1.1, ⟨keyB_ok h.1.2.1, fun p hp => keyB_ok (List.all_eq_true.1 h.1.2.2 p hp)⟩, h.2⟩
    · exact h.elim
  · exact h.elim
theorem xvEstore_ok {rows : List Row} {x : AVal} {i : AVal} {v : AVal} {K : List Row → Prop} (h : xvEstore AP rows x i v K) : evEstore rows x i v K := by
  unfold xvEstore at h; unfold evEstore
  (repeat' (split at h)) <;> (try simp only [chk_P, Bool.and_eq_true, decide_eq_true_eq, and_assoc] at h) <;> (try simp only [and_assoc]) <;> first
    | exact h.elim
    | exact h
    | (rename_i h1; simp only [h1]; exact h)
    | (rename_i h1 h2; simp only [h1, h2]; exact h)
    | (rename_i h1; simp only [h1, and_assoc]; exact h)
    | (rename_i h1 h2; simp only [h1, h2, and_assoc]; exact h)
    | (rename_i h1 h2 h3; simp only [h1, h2, h3, and_assoc]; exact h)
    | (rename_i h1; simp only [h1, and_assoc]; exact ⟨h.1, h.2.1, keyB_ok h.2.2.1, h.2.2.2⟩)
    | (rename_i h1; simp only [h1, and_assoc]; exact ⟨keyB_ok h.1, h.2⟩)
theorem xvIter_ok {rows : List Row} {x : AVal} {K : AVal → List Row → Prop} (h : xvIter AP rows x K) : evIter rows x K := by
  unfold xvIter at h; unfold evIter
  (repeat' (split at h)) <;> (try simp only [chk_P, Bool.and_eq_true, decide_eq_true_eq, and_assoc] at h) <;> (try simp only [and_assoc]) <;> first
    | exact h.elim
    | exact h
    | (rename_i h1; simp only [h1]; exact h)
    | (rename_i h1 h2; simp only [h1, h2]; exact h)
    | (rename_i h1; simp only [h1, and_assoc]; exact h)
    | (rename_i h1 h2; simp only [h1, h2, and_assoc]; exact h)
    | (rename_i h1 h2 h3; simp only [h1, h2, h3, and_assoc]; exact h)
    | (rename_i h1; simp only [h1, and_assoc]; exact ⟨h.1, h.2.1, keyB_ok h.2.2.1, h.2.2.2⟩)
    | (rename_i h1; simp only [h1, and_assoc]; exact ⟨keyB_ok h.1, h.2⟩)
theorem xvEntry_ok {rows : List Row} {x : AVal} {K : AVal → Prop} (h : xvEntry AP rows x K) : evEntry rows x K := by
  unfold xvEntry at h; unfold evEntry
  (repeat' (split at h)) <;> (try simp only [chk_P, Bool.and_eq_true, decide_eq_true_eq, and_assoc] at h) <;> (try simp only [and_assoc]) <;> first
    | exact h.elim
    | exact h
    | (rename_i h1; simp only [h1]; exact h)
    | (rename_i h1 h2; simp only [h1, h2]; exact h)
    | (rename_i h1; simp only [h1, and_assoc]; exact h)
    | (rename_i h1 h2; simp only [h1, h2, and_assoc]; exact h)
    | (rename_i h1 h2 h3; simp only [h1, h2, h3, and_assoc]; exact h)
    | (rename_i h1; simp only [h1, and_assoc]; exact ⟨h.1, h.2.1, keyB_ok h.2.2.1, h.2.2.2⟩)
    | (rename_i h1; simp only [h1, and_assoc]; exact ⟨keyB_ok h.1, h.2⟩)
theorem xvCopy_ok {rows : List Row} {sz : Nat} {x : AVal} {y : AVal} {K : AVal → List Row → Prop} (h : xvCopy AP rows sz x y K) : evCopy rows sz x y K := by
  unfold xvCopy at h; unfold evCopy
  cases hl : elems? rows sz y with
  | none => rw [hl] at h; exact h.elim
  | some l =>
    rw [hl] at h
    simp only at h ⊢
    split at h
    · split at h
      · rename_i hr
        simp only [hr]
        simp only [chk_P, Bool.and_eq_true, decide_eq_true_eq, and_assoc] at h
        exact h
      · exact h.elim
    · exact h.elim

theorem xvClear_ok {rows : List Row} {sz : Nat} {zero : List AVal} {x : AVal} {K : List Row → Prop} (h : xvClear AP rows sz zero x K) : evClear rows sz zero x K := by
  unfold xvClear at h; unfold evClear
  (repeat' (split at h)) <;> (try simp only [chk_P, Bool.and_eq_true, decide_eq_true_eq, and_assoc] at h) <;> (try simp only [and_assoc]) <;> first
    | exact h.elim
    | exact h
    | (rename_i h1; simp only [h1]; exact h)
    | (rename_i h1 h2; simp only [h1, h2]; exact h)
    | (rename_i h1; simp only [h1, and_assoc]; exact h)
    | (rename_i h1 h2; simp only [h1, h2, and_assoc]; exact h)
    | (rename_i h1 h2 h3; simp only [h1, h2, h3, and_assoc]; exact h)
    | (rename_i h1; simp only [h1, and_assoc]; exact ⟨h.1, h.2.1, keyB_ok h.2.2.1, h.2.2.2⟩)
    | (rename_i h1; simp only [h1, and_assoc]; exact ⟨keyB_ok h.1, h.2⟩)
theorem xvIndexArr_ok {len : Nat} {sz : Nat} {x : AVal} {y : AVal} {K : AVal → Prop} (h : xvIndexArr AP len sz x y K) : evIndexArr len sz x y K := by
  unfold xvIndexArr at h; unfold evIndexArr
  (repeat' (split at h)) <;> (try simp only [chk_P, Bool.and_eq_true, decide_eq_true_eq, and_assoc] at h) <;> (try simp only [and_assoc]) <;> first
    | exact h.elim
    | exact h
    | (rename_i h1; simp only [h1]; exact h)
    | (rename_i h1 h2; simp only [h1, h2]; exact h)
    | (rename_i h1; simp only [h1, and_assoc]; exact h)
    | (rename_i h1 h2; simp only [h1, h2, and_assoc]; exact h)
    | (rename_i h1 h2 h3; simp only [h1, h2, h3, and_assoc]; exact h)
    | (rename_i h1; simp only [h1, and_assoc]; exact ⟨h.1, h.2.1, keyB_ok h.2.2.1, h.2.2.2⟩)
    | (rename_i h1; simp only [h1, and_assoc]; exact ⟨keyB_ok h.1, h.2⟩)
def xv {ρ : Type} (A : Ans ρ) (op : AOp) (args : List AVal) (rows : List Row) (K : AVal → List Row → ρ) : ρ :=
  match op, args with
  | .mv, [x] => K x rows
  | .pick, [.bool c, a, b] => K (if c then a else b) rows
  | .alloc e zero, [] => K (.ref rows.length 1 0 0) (rows ++ [.live e zero.length [zero]])
  | .box e sz, [x] => chk A (decide ((acells x).length = sz) && (acells x).all one) (K (.ref rows.length 1 0 0) (rows ++ [.live e sz [acells x]]))
  | .build zero ps, vs =>
    match fillC zero ps vs with
    | some cs => chk A ((vs.all fun v => (acells v).all one)) (K (.agg cs) rows)
    | none => A.no
  | .bslice e sz zero len idx, vs =>
    match fillE (List.replicate len zero) sz idx vs with
    | some es => chk A ((vs.all fun v => (acells v).all one)) (K (.own rows.length len 0 len) (rows ++ [.live e sz es]))
    | none => A.no
  | .nilsl, [] => K .nils rows
  | .mkslice e sz bytes zero, [.int _ l, .int _ c] => chk A (decide (0 ≤ l) && decide (l ≤ c) && decide (c * bytes ≤ 140737488355328) && decide (c ≤ 140737488355328)) (K (.own rows.length l.toNat 0 l.toNat) (rows ++ [.live e sz (List.replicate l.toNat zero)]))
  | .load1, [x] => xvLoad1 A rows x fun v => K v rows
  | .loadA n, [x] => xvLoadA A rows n x fun v => K v rows
  | .store n, [x, y] => xvStore A rows n x y fun rows => K (.tup []) rows
  | .nilchk, [.ref r n i o] => K (.ref r n i o) rows
  | .nilchk, [.pref c o] => K (.pref c o) rows
  | .bin op, [x, y] => xvBin A op x y fun v => K v rows
  | .eqA neg ks, [.agg xs, .agg ys] => chk A (fitsB ks xs && fitsB ks ys) (K (.bool (eqCells xs ys != neg)) rows)
  | .eqB neg, [.bool a, .bool b] => K (.bool ((a == b) != neg)) rows
  | .not, [.bool b] => K (.bool !b) rows
  | .neg, [.int k n] => K (.int k (k.wrap (0 - n))) rows
  | .conv k, [.int _ n] => K (.int k (k.wrap n)) rows
  | .fieldAddr d, [x] => xvFieldAddr A d x fun v => K v rows
  | .field1 off, [.agg cs] => chk A (decide (off < cs.length)) (K (cs.getD off .junk) rows)
  | .fieldA off sz, [.agg cs] => chk A (decide (off + sz ≤ cs.length)) (K (.agg ((cs.drop off).take sz)) rows)
  | .indexAddr sz, [x, y] => xvIndexAddr A rows sz x y fun v => K v rows
  | .index, [.str s, .int _ i] => chk A (decide (0 ≤ i) && decide (i < s.size)) (K (.int .u8 ((s.data.getD i.toNat 0).toNat)) rows)
  | .slice true true sz, [x, a, b] => xvSlice A rows (some a) (some b) sz x fun v => K v rows
  | .slice true false sz, [x, a] => xvSlice A rows (some a) none sz x fun v => K v rows
  | .slice false true sz, [x, b] => xvSlice A rows none (some b) sz x fun v => K v rows
  | .slice false false sz, [x] => xvSlice A rows none none sz x fun v => K v rows
  | .sliceS true true, [x, a, b] => xvSliceS A (some a) (some b) x fun v => K v rows
  | .sliceS true false, [x, a] => xvSliceS A (some a) none x fun v => K v rows
  | .sliceS false true, [x, b] => xvSliceS A none (some b) x fun v => K v rows
  | .sliceS false false, [x] => xvSliceS A none none x fun v => K v rows
  | .lenS, [.str s] => K (.int .i64 s.size) rows
  | .len, [x] =>
    match len? x with
    | some l => K (.int .i64 l) rows
    | none => A.no
  | .append e sz bytes, [x, y] => xvAppend A rows e sz bytes x y K
  | .extract i, [.tup vs] => chk A (decide (i < vs.length)) (K (vs.getD i .junk) rows)
  | .minmax mx, [.int k a, .int k' b] => chk A (decide (k = k')) (K (.int k (if mx then max a b else min a b)) rows)
  | .b2s, [x] => xvB2s A rows x fun v => K v rows
  | .frz, [x] => xvFrz A rows x K
  | .copy sz, [x, y] => xvCopy A rows sz x y K
  | .indexArr len sz, [x, y] => xvIndexArr A len sz x y fun v => K v rows
  | .arr1 len, [.agg cs, .int _ j] => chk A (decide ((0 ≤ j ∧ j < len)) && decide (j.toNat < cs.length)) (K (cs.getD j.toNat .junk) rows)
  | .arrA len sz, [.agg cs, .int _ j] => chk A (decide ((0 ≤ j ∧ j < len)) && decide (j.toNat * sz + sz ≤ cs.length)) (K (.agg ((cs.drop (j.toNat * sz)).take sz)) rows)
  | .mkfn f, cs => K (.fn f cs) rows
  | .mkmap ag ks, [] => K (.mref rows.length) (rows ++ [.obj (.map ag ks [])])
  | .look ok ag ks zero, [x, k] => xvLook A rows ok ag ks zero x k fun v => K v rows
  | .mset ag ks, [x, k, v] => xvMset A rows ag ks x k v fun rows => K (.tup []) rows
  | .ment ag ks zero, [x, k] => xvMent A rows ag ks zero x k K
  | .estore, [x, i, v] => xvEstore A rows x i v fun rows => K (.tup []) rows
  | .lenM, [.mref r] =>
    match rows[r]? with
    | some (.obj (.map _ _ ents)) => K (.int .i64 ents.length) rows
    | _ => A.no
  | .iter, [x] => xvIter A rows x K
  | .entry, [x] => xvEntry A rows x fun v => K v rows
  | .cap, [.nils] => K (.int .i64 0) rows
  | .appendZ e sz bytes zero, [.nils, .int _ n] => chk A (decide (0 < n) && decide (n * bytes ≤ 140737488355328)) (K (.own rows.length n.toNat 0 n.toNat) (rows ++ [.live e sz (List.replicate n.toNat zero)]))
  | .clear sz zero, [x] => xvClear A rows sz zero x fun rows => K (.tup []) rows
  | .isnil sz neg, [x] =>
    match elems? rows sz x with
    | some ys => chk A (decide (0 < ys.length)) (K (.bool neg) rows)
    | none => A.no
  | _, _ => A.no
theorem xv_ok {op : AOp} {args : List AVal} {rows : List Row} {K : AVal → List Row → Prop} (h : xv AP op args rows K) : ev op args rows K := by
  unfold xv at h
  split at h
  all_goals first
    | exact h.elim
    | exact h
    | exact xvLoad1_ok h
    | exact xvLoadA_ok h
    | exact xvStore_ok h
    | exact xvBin_ok h
    | exact xvFieldAddr_ok h
    | exact xvIndexAddr_ok h
    | exact xvSlice_ok h
    | exact xvSliceS_ok h
    | exact xvAppend_ok h
    | exact xvB2s_ok h
    | exact xvFrz_ok h
    | exact xvCopy_ok h
    | exact xvIndexArr_ok h
    | exact xvLook_ok h
    | exact xvMset_ok h
    | exact xvMent_ok h
    | exact xvEstore_ok h
    | exact xvIter_ok h
    | exact xvEntry_ok h
    | exact xvClear_ok h
    | skip
  all_goals (try simp only [chk_P, Bool.and_eq_true, decide_eq_true_eq, and_assoc] at h)
  all_goals first
    | (simp only [ev, and_assoc]; exact h)
    | (simp only [ev]; exact ⟨fitsB_ok h.1, fitsB_ok h.2.1, h.2.2⟩)
    | skip
  all_goals (split at h <;> first | exact h.elim | (rename_i h1; simp only [ev, evIsnil, h1]; rw [chk_P] at h; exact ⟨of_decide_eq_true h.1, h.2⟩) | (rename_i h1; simp only [ev, h1]; simp only [chk_P] at h; exact h) | (rename_i h1; simp only [ev, h1]; exact h))

end Go.Abs
end

section
/- A way to run functions: code, calls, functions. -/
namespace Go.Abs
variable [Glb]

mutual
def refsV : AVal → List Nat
  | .own r _ _ _ => [r]
  | .ref r _ _ _ => [r]
  | .mref r => [r]
  | .itref r m => [r, m]
  | .agg cs => refsL cs
  | .tup cs => refsL cs
  | .fn _ cs => refsL cs
  | _ => []
def refsL : List AVal → List Nat
  | [] => []
  | c :: cs => refsV c ++ refsL cs
end
def refsRow : Row → List Nat
  | .dead => []
  | .live _ _ vals => vals.flatMap refsL
  | .obj (.map _ _ ents) => ents.flatMap fun p => refsV p.1 ++ refsV p.2
  | .obj (.iter _ _) => []
/-- the rows that can be reached -/
def reach (rows : List Row) : Nat → List Nat → List Nat → List Nat
  | 0, _, seen => seen
  | _ + 1, [], seen => seen
  | n + 1, r :: todo, seen => if seen.contains r then reach rows n todo seen else reach rows n (refsRow (rows.getD r .dead) ++ todo) (seen ++ [r])
def nodupB : List Nat → Bool
  | [] => true
  | x :: xs => !xs.contains x && nodupB xs
theorem nodupB_ok : ∀ {l : List Nat}, nodupB l = true → l.Nodup
  | [], _ => List.nodup_nil
  | x :: xs, h => by
    simp only [nodupB, Bool.and_eq_true, Bool.not_eq_true', List.contains_eq_mem, decide_eq_false_iff_not] at h
    exact List.nodup_cons.2 ⟨h.1, nodupB_ok h.2⟩

section
variable {ρ : Type} (A : Ans ρ) (P : Program) (call : FuncId → List AVal → List Row → (AVal → List Row → ρ) → ρ)

def xCallS (sel : List Nat) (f : FuncId) (args : List AVal) (rows : List Row) (K : AVal → List Row → ρ) : ρ :=
  match getRows rows [] (sel.map some) (sel.map some) with
  | some srows => chk A (nodupB sel) (call f (bindL rows (sel.map some) [] args) srows fun v rs => K (renV (back rows.length sel) v) (mergeR rows sel (rs.map (renRow (back rows.length sel)))))
  | none => A.no
def xCall (f : FuncId) (args : List AVal) (rows : List Row) (K : AVal → List Row → ρ) : ρ := xCallS A call (reach rows 100000 (refsL args) []) f args rows K

def fnOkB (f : FuncId) : Bool :=
  match P.funcs[f]? with
  | some fn => fn.body.isSome && fn.name != "runtime.NumGoroutine"
  | none => false

def xCallV (vs : List AVal) (rows : List Row) (K : AVal → List Row → ρ) : ρ :=
  match vs with
  | .fn f cs :: xs => chk A (fnOkB P f) (xCall A call f (xs ++ cs) rows K)
  | _ => A.no

def xNext (rows : List Row) (x : AVal) (K : AVal → List Row → ρ) : ρ :=
  match x with
  | .itref r m =>
    match rows[r]?, rows[m]? with
    | some (.obj (.iter n seen)), some (.obj (.map _ _ ents)) => chk A (decide (n = ents.length) && decide (r ≠ m))
        (if (List.range n).all (fun i => seen.contains i) then K (.tup [.bool false]) rows
        else A.all (((List.range n).filter fun i => !seen.contains i).map fun i => K (.tup [.bool true, (ents.getD i (.junk, .junk)).1, (ents.getD i (.junk, .junk)).2]) (rows.set r (.obj (.iter n (seen ++ [i]))))))
    | _, _ => A.no
  | _ => A.no

def xRun (o : IOp) (env : Env) (rows : List Row) (K : Env → List Row → ρ) : ρ :=
  match o.op with
  | .call f => xCall A call f (o.args.map (Opd.ev env)) rows fun v rows' => K (put env o.dst v) rows'
  | .next =>
    match o.args.map (Opd.ev env) with
    | [x] => xNext A rows x fun v rows' => K (put env o.dst v) rows'
    | _ => A.no
  | .callv => xCallV A P call (o.args.map (Opd.ev env)) rows fun v rows' => K (put env o.dst v) rows'
  | op => xv A op (o.args.map (Opd.ev env)) rows fun v rows' => K (put env o.dst v) rows'

def xStep (o : IOp) (env : Env) (rows : List Row) (K : Env → List Row → ρ) : ρ :=
  match o.guard with
  | none => xRun A P call o env rows K
  | some (s, want) =>
    match slot env s with
    | .bool b => if b = want then xRun A P call o env rows K else K (put env o.dst (.tup [])) rows
    | .tup [] => K (put env o.dst (.tup [])) rows
    | _ => A.no

def xList : List IOp → (Env → List Row → ρ) → Env → List Row → ρ
  | [], K, env, rows => K env rows
  | o :: os, K, env, rows => xStep A P call o env rows (xList os K)

def okTkB (un : List Nat) (tk : Tk) (W R : List Nat) : Bool := tk.all fun p => !un.contains p.1 || (!W.contains p.2.1 && (!p.2.2 || !R.contains p.2.1))

def xCallT (f : FuncId) (args : List AVal) (un : List Nat) (tk : Tk) (rows : List Row) (K : AVal → List Row → ρ) : ρ :=
  if okTkB un tk (reach rows 100000 (refsL args) []) [] then xCallS A call (reach rows 100000 (refsL args) []) f args rows K
  else chk A (okTkB un tk [] (reach rows 100000 (refsL args) [])) (call f (bindL rows [] (reach rows 100000 (refsL args) []) args) [] fun v rs => chk A (flat v && rs.all flatRow) (K (renV (back rows.length []) v) (mergeR rows [] (rs.map (renRow (back rows.length []))))))

def xCallVT (vs : List AVal) (un : List Nat) (tk : Tk) (rows : List Row) (K : AVal → List Row → ρ) : ρ :=
  match vs with
  | .fn f cs :: xs => chk A (fnOkB P f) (xCallT A call f (xs ++ cs) un tk rows K)
  | _ => A.no

/-- is this row reserved? -/
def resB (rows : List Row) (k : Nat) (e : TypeId) (sz : Nat) : Bool :=
  match rows[k]? with
  | some (.live e' sz' []) => decide (e' = e) && decide (sz' = sz)
  | _ => false

def xR (op : AOp) (args : List AVal) (k : Nat) (rows : List Row) (K : AVal → List Row → ρ) : ρ :=
  match op, args with
  | .alloc e zero, [] => chk A (resB rows k e zero.length) (K (.ref k 1 0 0) (rows.set k (.live e zero.length [zero])))
  | .box e sz, [x] => chk A ((decide ((acells x).length = sz) && (acells x).all one) && resB rows k e sz) (K (.ref k 1 0 0) (rows.set k (.live e sz [acells x])))
  | .bslice e sz zero len idx, vs =>
    match fillE (List.replicate len zero) sz idx vs with
    | some es => chk A (((vs.all fun v => (acells v).all one) && decide (0 < len)) && resB rows k e sz) (K (.own k len 0 len) (rows.set k (.live e sz es)))
    | none => A.no
  | .mkslice e sz b zero, [.int _ l, .int _ c] => chk A ((decide (0 < l) && (decide (l ≤ c) && (decide (c * b ≤ 140737488355328) && decide (c ≤ 140737488355328)))) && resB rows k e sz) (K (.own k l.toNat 0 l.toNat) (rows.set k (.live e sz (List.replicate l.toNat zero))))
  | _, _ => A.no

def xRunD (base i : Nat) (d : DOp) (tk : Tk) (env : Env) (rows : List Row) (K : Tk → Env → List Row → ρ) : ρ :=
  match d.res with
  | some q => chk A (okTkB d.un tk [base + q] []) (xR A d.io.op (d.io.args.map (Opd.ev env)) (base + q) rows fun v rows' => K ((i, base + q, true) :: tk) (put env d.io.dst v) rows')
  | none =>
    match d.io.op with
    | .call f => xCallT A call f (d.io.args.map (Opd.ev env)) d.un tk rows fun v rows' => K tk (put env d.io.dst v) rows'
    | .callv => xCallVT A P call (d.io.args.map (Opd.ev env)) d.un tk rows fun v rows' => K tk (put env d.io.dst v) rows'
    | op => chk A (okTkB d.un tk (tW op (d.io.args.map (Opd.ev env))) (tR op (d.io.args.map (Opd.ev env))))
        (xv A op (d.io.args.map (Opd.ev env)) rows fun v rows' => K (if isE op then tk else tkOf i (tR op (d.io.args.map (Opd.ev env))) tk) (put env d.io.dst v) rows')

def xDraw (base : Nat) : List (Nat × DOp) → List Nat → (Env → List Row → ρ) → Tk → Env → List Row → ρ
  | [], live, K, _, env, rows => K (live.map fun s => (s, slot env s)) rows
  | (i, d) :: ds, live, K, tk, env, rows =>
    match d.io.guard with
    | none => xRunD A P call base i d tk env rows (xDraw base ds live K)
    | some (s, want) =>
      match slot env s with
      | .bool b => if b = want then xRunD A P call base i d tk env rows (xDraw base ds live K) else xDraw base ds live K tk (put env d.io.dst (.tup [])) rows
      | .tup [] => xDraw base ds live K tk (put env d.io.dst (.tup [])) rows
      | _ => A.no

structure XPost (ρ : Type) where
  n : Env → List Row → ρ
  x : Nat → Env → List Row → ρ
  r : Env → List Row → ρ

def xCode : Nat → ACode → XPost ρ → Env → List Row → ρ
  | 0, _, _, _, _ => A.no
  | m + 1, c, K, env, rows =>
    match c with
    | .skip => K.n env rows
    | .region ops live => xList A P call ops (fun env rows => K.n (norm live env) rows) env rows
    | .draw ops res live => xDraw A P call rows.length ops live K.n [] env (rows ++ reserved res)
    | .seq a b => xCode m a ⟨xCode m b K, K.x, K.r⟩ env rows
    | .cond c a b =>
      match c.ev env with
      | .bool true => xCode m a K env rows
      | .bool false => xCode m b K env rows
      | _ => A.no
    | .block id c => xCode m c ⟨K.n, fun j => if j = id then K.n else K.x j, K.r⟩ env rows
    | .loop c => xCode m c ⟨xCode m (.loop c) K, K.x, K.r⟩ env rows
    | .exit id => K.x id env rows
    | .ret => K.r env rows

def xRes (rows : List Row) (env : Env) : List ARes → (List AVal → ρ) → ρ
  | [], K => K []
  | .tmp t :: rs, K => xRes rows env rs fun vs => K (slot env t :: vs)
  | .cell1 t :: rs, K => xvLoad1 A rows (slot env t) fun v => xRes rows env rs fun vs => K (v :: vs)
  | .cellA t n :: rs, K => xvLoadA A rows n (slot env t) fun v => xRes rows env rs fun vs => K (v :: vs)

/-- at the end only what can be reached is kept -/
def xEnd (n0 : Nat) (sel : List (Option Nat)) (v : AVal) (rows : List Row) (K : AVal → List Row → ρ) : ρ :=
  match getRows rows [] sel sel with
  | some srows => chk A (onceB sel && keepsB n0 0 sel) (K (bindV rows sel [] v) srows)
  | none => A.no
end

/-- a function with its form -/
structure XForm (P : Program) where
  f : FuncId
  af : AFunc
  ok : ∃ fn live, P.funcs[f]? = some fn ∧ compileF P live fn = some af

def form? {P : Program} : List (XForm P) → FuncId → Option (XForm P)
  | [], _ => none
  | x :: xs, f => if x.f = f then some x else form? xs f
theorem form?_f {P : Program} : ∀ {l : List (XForm P)} {f : FuncId} {x : XForm P}, form? l f = some x → x.f = f
  | [], _, _, h => by cases h
  | y :: ys, f, x, h => by
    rw [form?] at h
    split at h
    · simp at h; subst h; assumption
    · exact form?_f h

section
variable {P : Program} {call : FuncId → List AVal → List Row → (AVal → List Row → Prop) → Prop} (hc : ∀ f args rows K, call f args rows K → AFn P f args rows K)

theorem okTkB_ok {un : List Nat} {tk : Tk} {W R : List Nat} (h : okTkB un tk W R = true) : okTk un tk W R := by
  intro i r w hm hi
  have := List.all_eq_true.1 h _ hm
  simp only [Bool.or_eq_true, Bool.not_eq_true', Bool.and_eq_true, List.contains_eq_mem, decide_eq_false_iff_not] at this
  rcases this with h1 | h1
  · exact absurd hi h1
  · refine ⟨h1.1, fun hw => ?_⟩
    rcases h1.2 with h2 | h2
    · rw [hw] at h2; cases h2
    · exact h2
theorem fnOkB_ok {f : FuncId} (h : fnOkB P f = true) : fnOk P f := by
  unfold fnOkB at h
  split at h
  · exact ⟨_, ‹_›, h⟩
  · cases h
include hc
theorem xCall_ok {f : FuncId} {args : List AVal} {rows : List Row} {K : AVal → List Row → Prop} (h : xCall AP call f args rows K) : callK P f args rows K := by
  unfold xCall xCallS at h
  split at h
  · rename_i srows hg
    rw [chk_P] at h
    exact ⟨_, [], srows, nodupB_ok h.1, hg, (hc _ _ _ _ h.2).mono fun v rs hk => ⟨.inl rfl, hk⟩⟩
  · exact h.elim
theorem xCallV_ok {vs : List AVal} {rows : List Row} {K : AVal → List Row → Prop} (h : xCallV AP P call vs rows K) : callV P vs rows K := by
  unfold xCallV at h; unfold callV
  split at h
  · rw [chk_P] at h; exact ⟨fnOkB_ok h.1, xCall_ok hc h.2⟩
  · exact h.elim
omit hc in
theorem xNext_ok {rows : List Row} {x : AVal} {K : AVal → List Row → Prop} (h : xNext AP rows x K) : evNext rows x K := by
  unfold xNext at h; unfold evNext
  split at h
  · split at h
    · rename_i h1 h2
      simp only [h1, h2]
      rw [chk_P] at h
      obtain ⟨h0, h⟩ := h
      simp only [Bool.and_eq_true, decide_eq_true_eq] at h0
      refine ⟨h0.1, h0.2, fun ha => ?_, fun i hi hn => ?_⟩
      · rw [if_pos] at h
        · exact h
        · rw [List.all_eq_true]
          intro i hi
          simpa using ha i (List.mem_range.1 hi)
      · rw [if_neg] at h
        · exact (all_P.1 h) _ (List.mem_map.2 ⟨i, List.mem_filter.2 ⟨List.mem_range.2 hi, by simpa using hn⟩, rfl⟩)
        · rw [List.all_eq_true]
          intro ha
          have := ha i (List.mem_range.2 hi)
          simp at this
          exact hn this
    · exact h.elim
  · exact h.elim
theorem xRun_ok {o : IOp} {env : Env} {rows : List Row} {K : Env → List Row → Prop} (h : xRun AP P call o env rows K) : runK P o env rows K := by
  unfold xRun at h; unfold runK
  split at h
  · rename_i hop; simp only [hop]; exact xCall_ok hc h
  · rename_i hop
    simp only [hop]
    split at h
    · rename_i ha; simp only [ha]; exact xNext_ok h
    · exact h.elim
  · rename_i hop; simp only [hop]; exact xCallV_ok hc h
  · rename_i h1 h2 h3
    split
    · rename_i f hf; exact absurd hf (h1 f)
    · rename_i hf; exact absurd hf h2
    · rename_i hf; exact absurd hf h3
    · exact xv_ok h
theorem xStep_ok {o : IOp} {env : Env} {rows : List Row} {K : Env → List Row → Prop} (h : xStep AP P call o env rows K) : stepK P o env rows K := by
  unfold xStep at h; unfold stepK
  split at h
  · rename_i hg; simp only [hg]; exact xRun_ok hc h
  · rename_i hg
    simp only [hg]
    split at h
    · rename_i hs
      simp only [hs, gK]
      split at h
      · rename_i hb; rw [if_pos hb]; exact xRun_ok hc h
      · rename_i hb; rw [if_neg hb]; exact h
    · rename_i hs; simp only [hs]; exact h
    · exact h.elim
theorem xList_ok : ∀ {os : List IOp} {K : Env → List Row → Prop} {env : Env} {rows : List Row}, xList AP P call os K env rows → listK P os K env rows
  | [], _, _, _, h => h
  | o :: os, K, env, rows, h => by
    rw [xList] at h
    rw [listK]
    exact stepK_mono (fun _ _ hk => xList_ok hk) (xStep_ok hc h)
theorem xCallT_ok {f : FuncId} {args : List AVal} {un : List Nat} {tk : Tk} {rows : List Row} {K : AVal → List Row → Prop} (h : xCallT AP call f args un tk rows K) : callT P f args un tk rows K := by
  unfold xCallT at h
  split at h
  · rename_i hk
    unfold xCallS at h
    split at h
    · rename_i srows hg
      rw [chk_P] at h
      exact ⟨_, [], srows, okTkB_ok hk, nodupB_ok h.1, hg, (hc _ _ _ _ h.2).mono fun v rs hk => ⟨.inl rfl, hk⟩⟩
    · exact h.elim
  · rw [chk_P] at h
    refine ⟨[], _, [], okTkB_ok h.1, List.nodup_nil, rfl, (hc _ _ _ _ h.2).mono fun v rs hk => ?_⟩
    rw [chk_P, Bool.and_eq_true] at hk
    exact ⟨.inr hk.1, hk.2⟩
theorem xCallVT_ok {vs : List AVal} {un : List Nat} {tk : Tk} {rows : List Row} {K : AVal → List Row → Prop} (h : xCallVT AP P call vs un tk rows K) : callVT P vs un tk rows K := by
  unfold xCallVT at h; unfold callVT
  split at h
  · rw [chk_P] at h; exact ⟨fnOkB_ok h.1, xCallT_ok hc h.2⟩
  · exact h.elim
omit hc in
theorem resB_ok {rows : List Row} {k : Nat} {e : TypeId} {sz : Nat} (h : resB rows k e sz = true) : rows[k]? = some (.live e sz []) := by
  unfold resB at h
  split at h
  · rename_i hr
    simp only [Bool.and_eq_true, decide_eq_true_eq] at h
    rw [hr, h.1, h.2]
  · cases h
omit hc in
theorem xR_ok {op : AOp} {args : List AVal} {k : Nat} {rows : List Row} {K : AVal → List Row → Prop} (h : xR AP op args k rows K) : evR op args k rows K := by
  unfold xR at h
  split at h
  · rw [chk_P] at h; exact ⟨resB_ok h.1, h.2⟩
  · simp only [chk_P, Bool.and_eq_true, decide_eq_true_eq] at h; exact ⟨h.1.1, resB_ok h.1.2, h.2⟩
  · split at h
    · rename_i hf
      simp only [chk_P, Bool.and_eq_true, decide_eq_true_eq] at h
      simp only [evR, hf]
      exact ⟨h.1.1, resB_ok h.1.2, h.2⟩
    · exact h.elim
  · simp only [chk_P, Bool.and_eq_true, decide_eq_true_eq] at h; exact ⟨h.1.1, resB_ok h.1.2, h.2⟩
  · exact h.elim
theorem xRunD_ok {base i : Nat} {d : DOp} {tk : Tk} {env : Env} {rows : List Row} {K : Tk → Env → List Row → Prop} (h : xRunD AP P call base i d tk env rows K) : runD P base i d tk env rows K := by
  unfold xRunD at h; unfold runD
  split at h
  · rename_i hq
    simp only [hq]
    rw [chk_P] at h
    exact ⟨okTkB_ok h.1, xR_ok h.2⟩
  · rename_i hq
    simp only [hq]
    split at h
    · rename_i hop; simp only [hop]; exact xCallT_ok hc h
    · rename_i hop; simp only [hop]; exact xCallVT_ok hc h
    · rename_i h1 h2
      split
      · rename_i f hf; exact absurd hf (h1 f)
      · rename_i hf; exact absurd hf h2
      · rw [chk_P] at h
        exact ⟨okTkB_ok h.1, xv_ok h.2⟩
theorem xDraw_ok {base : Nat} : ∀ {ds : List (Nat × DOp)} {live : List Nat} {K : Env → List Row → Prop} {tk : Tk} {env : Env} {rows : List Row}, xDraw AP P call base ds live K tk env rows → drawK P base ds live K tk env rows
  | [], _, _, _, _, _, h => h
  | (i, d) :: ds, live, K, tk, env, rows, h => by
    rw [xDraw] at h
    rw [drawK]
    split at h
    · rename_i hg
      simp only [hg]
      exact runD_mono (fun _ _ _ hk => xDraw_ok hk) (xRunD_ok hc h)
    · rename_i hg
      simp only [hg, grdD]
      split at h
      · rename_i hs
        simp only [hs, gK]
        split at h
        · rename_i hb; rw [if_pos hb]; exact runD_mono (fun _ _ _ hk => xDraw_ok hk) (xRunD_ok hc h)
        · rename_i hb; rw [if_neg hb]; exact xDraw_ok h
      · rename_i hs; simp only [hs]; exact xDraw_ok h
      · exact h.elim

omit hc in
theorem least {p : Nat → Prop} (h : ∃ n, p n) : ∃ n, p n ∧ ∀ m, p m → n ≤ m := by
  obtain ⟨n, hn⟩ := h
  induction n using Nat.strongRecOn with
  | ind n ih =>
    by_cases hm : ∃ m, m < n ∧ p m
    · obtain ⟨m, h1, h2⟩ := hm; exact ih m h1 h2
    · exact ⟨n, hn, fun m h => Nat.le_of_not_lt fun hl => hm ⟨m, hl, h⟩⟩
omit hc in
open Classical in
noncomputable def leastN (p : Nat → Prop) : Nat := if h : ∃ n, p n then (least h).choose else 0
omit hc in
theorem leastN_ok {p : Nat → Prop} (h : ∃ n, p n) : p (leastN p) ∧ ∀ m, p m → leastN p ≤ m := by
  unfold leastN
  rw [dif_pos h]
  exact (least h).choose_spec

def XPost.p (K : XPost Prop) : Post := ⟨K.n, K.x, K.r⟩
theorem xCode_ok {n0 : Nat} : ∀ (c : ACode) (m : Nat) (K : XPost Prop) (env : Env) (rows : List Row), xCode AP P call m c K env rows → avc P n0 c K.p env rows
  | _, 0, _, _, _, h => h.elim
  | .skip, m + 1, K, env, rows, h => h
  | .region ops live, m + 1, K, env, rows, h => xList_ok hc h
  | .draw ops res live, m + 1, K, env, rows, h => xDraw_ok hc h
  | .seq a b, m + 1, K, env, rows, h => by
    rw [xCode] at h
    rw [avc]
    exact avc_mono a (K := ⟨xCode AP P call m b K, K.x, K.r⟩) (fun e r hk => xCode_ok b m K e r hk) (fun _ _ _ hk => hk) (fun _ _ hk => hk) (xCode_ok a m _ env rows h)
  | .cond c a b, m + 1, K, env, rows, h => by
    simp only [xCode] at h
    rw [avc]
    split at h
    · rename_i hb; simp only [hb, condK]; exact ⟨fun _ => xCode_ok a m K env rows h, fun e => (by cases e)⟩
    · rename_i hb; simp only [hb, condK]; exact ⟨fun e => (by cases e), fun _ => xCode_ok b m K env rows h⟩
    · exact h.elim
  | .block id c, m + 1, K, env, rows, h => by
    rw [xCode] at h
    rw [avc]
    exact avc_mono c (fun _ _ hk => hk) (fun j e r hk => by
      simp only [XPost.p] at hk ⊢
      split
      · rename_i hj; rw [if_pos hj] at hk; exact hk
      · rename_i hj; rw [if_neg hj] at hk; exact hk) (fun _ _ hk => hk) (xCode_ok c m _ env rows h)
  | .loop c, m + 1, K, env, rows, h => by
    rw [avc]
    refine ⟨fun e r => ∃ f, xCode AP P call f (.loop c) K e r, fun e r => leastN fun f => xCode AP P call f (.loop c) K e r, Cl.here ⟨m + 1, h⟩, ?_⟩
    intro e r hI
    have hl := leastN_ok hI
    generalize hf : leastN (fun f => xCode AP P call f (.loop c) K e r) = f at hl
    cases f with
    | zero => exact hl.1.elim
    | succ g =>
      have h1 := hl.1
      rw [xCode] at h1
      refine avc_mono c (K := ⟨xCode AP P call g (.loop c) K, K.x, K.r⟩) (fun e' r' hk => Cl.here ⟨⟨g, hk⟩, ?_⟩) (fun _ _ _ hk => hk) (fun _ _ hk => hk) (xCode_ok c g _ e r h1)
      exact Nat.lt_of_le_of_lt ((leastN_ok (p := fun f => xCode AP P call f (.loop c) K e' r') ⟨g, hk⟩).2 g hk) (by show g < leastN (fun f => xCode AP P call f (.loop c) K e r); omega)
  | .exit id, m + 1, K, env, rows, h => h
  | .ret, m + 1, K, env, rows, h => h
omit hc in
theorem evLoad1_mono {rows : List Row} {x : AVal} {K K' : AVal → Prop} (hk : ∀ v, K v → K' v) (h : evLoad1 rows x K) : evLoad1 rows x K' := by
  unfold evLoad1 at h ⊢
  split at h
  · split at h
    · rename_i hr; first | exact ⟨h.1, h.2.1, hk _ h.2.2⟩ | (simp only [hr]; exact ⟨h.1, h.2.1, hk _ h.2.2⟩)
    · exact h.elim
  · exact ⟨h.1, hk _ h.2⟩
  · exact h.elim
omit hc in
theorem evLoadA_mono {rows : List Row} {n : Nat} {x : AVal} {K K' : AVal → Prop} (hk : ∀ v, K v → K' v) (h : evLoadA rows n x K) : evLoadA rows n x K' := by
  unfold evLoadA at h ⊢
  split at h
  · split at h
    · rename_i hr; first | exact ⟨h.1, h.2.1, hk _ h.2.2⟩ | (simp only [hr]; exact ⟨h.1, h.2.1, hk _ h.2.2⟩)
    · exact h.elim
  · exact ⟨h.1, hk _ h.2⟩
  · exact h.elim
omit hc in
theorem resK_mono2 {rows : List Row} {env : Env} : ∀ {rs : List ARes} {K K' : List AVal → Prop}, (∀ vs, K vs → K' vs) → xRes AP rows env rs K → resK rows env rs K'
  | [], _, _, hk, h => hk _ h
  | .tmp t :: rs, K, K', hk, h => resK_mono2 (rs := rs) (fun vs => hk _) h
  | .cell1 t :: rs, K, K', hk, h => by
    rw [xRes] at h
    rw [resK]
    exact evLoad1_mono (fun v hv => resK_mono2 (fun vs => hk _) hv) (xvLoad1_ok h)
  | .cellA t n :: rs, K, K', hk, h => by
    rw [xRes] at h
    rw [resK]
    exact evLoadA_mono (fun v hv => resK_mono2 (fun vs => hk _) hv) (xvLoadA_ok h)
end

end Go.Abs
end

section
/- The forms of functions by computation: which slots live, in which order a region that draws is taken. Sets of slots are numbers: those are computed at once. -/
namespace Go.Abs

def fmBit (t : Nat) : Nat := Nat.shiftLeft 1 t
def fmSlot : Operand → Nat
  | .tmp t => fmBit t
  | _ => 0
def fmSlots : List Operand → Nat
  | [] => 0
  | x :: xs => Nat.lor (fmSlot x) (fmSlots xs)
def fmDst (all : Array Oper) (j : Nat) : Nat :=
  match all[j]? with
  | some o => match o.dst with | some s => fmBit s | none => 0
  | none => 0
def fmReg (all : Array Oper) : List Oper → Nat → Nat
  | [], out => out
  | o :: os, out => Nat.lor (Nat.lor (match o.dst with | some d => Nat.xor (Nat.lor (fmReg all os out) (fmBit d)) (fmBit d) | none => fmReg all os out) (fmSlots o.op.operands.toList)) (match o.guard with | some (j, _) => fmDst all j | none => 0)
def fmGet (id : Nat) : List (Nat × Nat) → Nat
  | [] => 0
  | p :: ps => match Nat.beq p.1 id with | true => p.2 | false => fmGet id ps
/-- the slots that live at the beginning of code -/
def fmM (rt : Nat) : Code → (ex : List (Nat × Nat)) → (out : Nat) → Nat
  | .skip, _, out => out
  | .region _ ops _, _, out => fmReg ops ops.toList out
  | .seq a b, ex, out => fmM rt a ex (fmM rt b ex out)
  | .cond c a b, ex, out => Nat.lor (Nat.lor (fmM rt a ex out) (fmM rt b ex out)) (fmSlot c)
  | .block id c, ex, out => fmM rt c ((id, out) :: ex) out
  | .loop c, ex, _ => fmM rt c ex 0
  | .exit id, ex, _ => fmGet id ex
  | .ret, _, _ => rt
  | _, _, out => out
def fmPreds : List Edge → Nat
  | [] => 0
  | e :: es => match Region.binds .any e with | true => Nat.lor (fmBit e.on) (fmPreds es) | false => fmPreds es
/-- the members of a set -/
def fmList (s : Nat) : Nat → Nat → List Nat
  | 0, _ => []
  | k + 1, i => match Nat.land (Nat.shiftRight s i) 1 with | 0 => fmList s k (i + 1) | _ => i :: fmList s k (i + 1)
/-- all the ops that come before each op, as sets, side by side in one number (n bits each) -/
def fmAncN (n : Nat) : List Oper → Nat → Nat → Nat
  | [], _, acc => acc
  | o :: os, i, acc => fmAncN n os (i + 1) (Nat.lor acc (Nat.shiftLeft (fmUp n acc (fmPreds o.after.toList) n 0) (Nat.mul n i)))
where
  fmUp (n acc s : Nat) : Nat → Nat → Nat
    | 0, _ => 0
    | k + 1, i => Nat.lor (Nat.mul (Nat.land (Nat.shiftRight s i) 1) (Nat.lor (fmBit i) (Nat.mod (Nat.shiftRight acc (Nat.mul n i)) (fmBit n)))) (fmUp n acc s k (i + 1))
def fmAncL (n anc : Nat) : Nat → Nat → List (List Nat)
  | 0, _ => []
  | k + 1, i => fmList (Nat.mod (Nat.shiftRight anc (Nat.mul n i)) (fmBit n)) n 0 :: fmAncL n anc k (i + 1)
def fmFlat (P : Program) : Nat → TypeId → List CK
  | 0, _ => []
  | d + 1, t =>
    match P.underlying t with
    | some (.int k) => [.int k]
    | some .bool => [.bool]
    | some .string => [.str]
    | some (.struct fs) => fs.toList.flatMap fun f => fmFlat P d f.type
    | _ => []
def fmAg (P : Program) (t : TypeId) : Bool := match isAggT P t with | some b => b | none => false
def fmOp (P : Program) (o : Oper) : Option (AOp × List Operand) :=
  match o.op with
  | .binOp op t x y _ =>
    match P.underlying t with
    | some (.struct _) =>
      match op with
      | .eql => some (.eqA false (fmFlat P 20 t), [x, y])
      | .neq => some (.eqA true (fmFlat P 20 t), [x, y])
      | _ => none
    | _ => compileOp P o
  | .call { callee := .value (.func f), args := args, argTypes := _ } => some (.call f, args.toList)
  | .makeMap t none =>
    match P.underlying t with
    | some (.map k _) => some (.mkmap (fmAg P k) (fmFlat P 20 k), [])
    | _ => none
  | .lookup t x i ok =>
    match P.underlying t with
    | some (.map k e) => match zeroV P e with | some z => some (.look ok (fmAg P k) (fmFlat P 20 k) z, [x, i]) | none => none
    | _ => none
  | .mapUpdate t m i v =>
    match P.underlying t with
    | some (.map k _) => some (.mset (fmAg P k) (fmFlat P 20 k), [m, i, v])
    | _ => none
  | .mapEntry t m i =>
    match P.underlying t with
    | some (.map k e) => match zeroV P e with | some z => some (.ment (fmAg P k) (fmFlat P 20 k) z, [m, i]) | none => none
    | _ => none
  | _ => compileOp P o
def fmG (ops : Array Oper) (o : Oper) : Option (Nat × Bool) :=
  match o.guard with
  | none => none
  | some (j, want) =>
    match ops[j]? with
    | some q => match q.dst with | some s => some (s, want) | none => none
    | none => none
def fmOne (P : Program) (ops : Array Oper) (o : Oper) : IOp :=
  match fmOp P o with
  | some (op, xs) => match compileOpds xs with | some args => ⟨o.dst, op, args, fmG ops o⟩ | none => ⟨o.dst, .mv, [], fmG ops o⟩
  | none => ⟨o.dst, .mv, [], fmG ops o⟩
def fmEasy (rt : AOp → Option (TypeId × Nat)) (P : Program) (ops : Array Oper) (o : Oper) : Nat :=
  match (rt (fmOne P ops o).op).isSome || !isE (fmOne P ops o).op with | true => 1 | false => 0
def fmEasies (rt : AOp → Option (TypeId × Nat)) (P : Program) (ops : Array Oper) : List Oper → Nat → Nat
  | [], _ => 0
  | o :: os, i => Nat.lor (Nat.shiftLeft (fmEasy rt P ops o) i) (fmEasies rt P ops os (i + 1))
def fmReady (listed : Nat) : List Oper → Nat → Nat
  | [], _ => 0
  | o :: os, i => Nat.lor (match Nat.beq (Nat.land (fmPreds o.after.toList) listed) (fmPreds o.after.toList) with | true => Nat.xor (Nat.lor (fmBit i) (Nat.land listed (fmBit i))) (Nat.land listed (fmBit i)) | false => 0) (fmReady listed os (i + 1))
/-- the lowest member -/
def fmLow (s : Nat) : Nat := Nat.log2 (Nat.xor s (Nat.land s (Nat.sub s 1)))
def fmPick (ready easy : Nat) : Nat := match Nat.land ready easy with | 0 => fmLow ready | r => fmLow r
/-- the order, ten bits each, the first one lowest -/
def fmOrd (ops : List Oper) (easy : Nat) : Nat → Nat → Nat → Nat → Nat
  | 0, _, _, acc => acc
  | k + 1, listed, i, acc =>
    match fmReady listed ops 0 with
    | 0 => acc
    | r => fmOrd ops easy k (Nat.lor listed (fmBit (fmPick r easy))) (Nat.add i 10) (Nat.lor acc (Nat.shiftLeft (fmPick r easy) i))
def fmOrdL (o : Nat) : Nat → Nat → List Nat
  | 0, _ => []
  | k + 1, i => Nat.mod (Nat.shiftRight o i) 1024 :: fmOrdL o k (i + 10)
def fmI (rt : AOp → Option (TypeId × Nat)) (P : Program) (n : Nat) (ops : Array Oper) (live : List Nat) : Info :=
  ⟨live, fmAncL ops.size (fmAncN ops.size ops.toList 0 0) ops.size 0, fmOrdL (fmOrd ops.toList (fmEasies rt P ops ops.toList 0) ops.size 0 0 0) ops.size 0⟩
/-- what is told of each region -/
def fmR (P : Program) (n rt : Nat) : Code → (ex : List (Nat × Nat)) → (out : Nat) → List (Nat × Info)
  | .region id _ false, _, out => [(id, ⟨fmList out n 0, [], []⟩)]
  | .region id ops true, _, out =>
    match compileC P n (fun _ => fmI resT P n ops []) (.region id ops true) with
    | some _ => [(id, fmI resT P n ops (fmList out n 0))]
    | none => [(id, fmI resM P n ops (fmList out n 0))]
  | .seq a b, ex, out => fmR P n rt a ex (fmM rt b ex out) ++ fmR P n rt b ex out
  | .cond _ a b, ex, out => fmR P n rt a ex out ++ fmR P n rt b ex out
  | .block id c, ex, out => fmR P n rt c ((id, out) :: ex) out
  | .loop c, ex, _ => fmR P n rt c ex (fmM rt c ex 0)
  | _, _, _ => []
def fmRes : List ResultVar → Nat
  | [] => 0
  | .tmp t :: rs => Nat.lor (fmBit t) (fmRes rs)
  | .cell a _ :: rs => Nat.lor (fmBit a) (fmRes rs)
def fmLk (P : Program) (fn : Func) : List (Nat × Info) :=
  match fn.body with
  | some c => fmR P fn.ntmps (fmRes fn.results.toList) c [] (fmRes fn.results.toList)
  | none => []
theorem fm_int {n : Nat} : Int.ofNat n = (n : Int) := rfl
theorem fm_u8 {n : Nat} {h : n < 2 ^ 8} : (⟨⟨⟨n, h⟩⟩⟩ : UInt8) = UInt8.ofNatLT n h := rfl
/-! the form itself, with no tests: this is what is worked out while a text is built -/
def fmIs (P : Program) (ops : Array Oper) : List Oper → List IOp
  | [] => []
  | o :: os => fmOne P ops o :: fmIs P ops os
def fmIo : List IOp → Nat → IOp
  | [], _ => default
  | x :: xs, i => match i with | 0 => x | i + 1 => fmIo xs i
def fmRs (rt : AOp → Option (TypeId × Nat)) : List IOp → List (TypeId × Nat)
  | [] => []
  | x :: xs => match rt x.op with | some p => p :: fmRs rt xs | none => fmRs rt xs
def fmQ (rt : AOp → Option (TypeId × Nat)) : List IOp → Nat → Nat → Option Nat
  | [], _, _ => none
  | x :: xs, i, q => match i with
    | 0 => match rt x.op with | some _ => some q | none => none
    | i + 1 => match rt x.op with | some _ => fmQ rt xs i (Nat.add q 1) | none => fmQ rt xs i q
def fmBen (x y : IOp) : Bool :=
  match x.op, x.guard, y.op, y.guard with
  | .look false _ _ (.int _ _), none, .ment _ _ (.int _ _), none => true
  | _, _, _, _ => false
/-- the ops of which op j must know nothing -/
def fmUn (ios : List IOp) (n anc j : Nat) : Nat → Nat → List Nat
  | 0, _ => []
  | k + 1, i => match Nat.lor (match fmBen (fmIo ios i) (fmIo ios j) with | true => 1 | false => 0) <| Nat.lor (Nat.lor (match Nat.beq i j with | true => 1 | false => 0) (Nat.land (Nat.shiftRight anc (Nat.add (Nat.mul n j) i)) 1)) (Nat.land (Nat.shiftRight anc (Nat.add (Nat.mul n i) j)) 1) with
    | 0 => i :: fmUn ios n anc j k (i + 1)
    | _ => fmUn ios n anc j k (i + 1)
def fmDs (rt : AOp → Option (TypeId × Nat)) (ios : List IOp) (n anc : Nat) : List Nat → List (Nat × DOp)
  | [] => []
  | i :: is => (i, ⟨fmIo ios i, fmQ rt ios i 0, fmUn ios n anc i n 0⟩) :: fmDs rt ios n anc is
def fmDraw (rt : AOp → Option (TypeId × Nat)) (P : Program) (n : Nat) (ops : Array Oper) (live : List Nat) : ACode :=
  .draw (fmDs rt (fmIs P ops ops.toList) ops.size (fmAncN ops.size ops.toList 0 0) (fmOrdL (fmOrd ops.toList (fmEasies rt P ops ops.toList 0) ops.size 0 0 0) ops.size 0)) (fmRs rt (fmIs P ops ops.toList)) live
def fmMem (id : Nat) : List Nat → Bool
  | [] => false
  | x :: xs => match Nat.beq x id with | true => true | false => fmMem id xs
/-- m: the regions that make more than one slice -/
def fmX (P : Program) (m : List Nat) (n rt : Nat) : Code → (ex : List (Nat × Nat)) → (out : Nat) → ACode
  | .skip, _, _ => .skip
  | .region _ ops false, _, out => .region (fmIs P ops ops.toList) (fmList out n 0)
  | .region id ops true, _, out => match fmMem id m with | true => fmDraw resM P n ops (fmList out n 0) | false => fmDraw resT P n ops (fmList out n 0)
  | .seq a b, ex, out => .seq (fmX P m n rt a ex (fmM rt b ex out)) (fmX P m n rt b ex out)
  | .cond c a b, ex, out => .cond (match compileOpd c with | some x => x | none => default) (fmX P m n rt a ex out) (fmX P m n rt b ex out)
  | .block id c, ex, out => .block id (fmX P m n rt c ((id, out) :: ex) out)
  | .loop c, ex, _ => .loop (fmX P m n rt c ex (fmM rt c ex 0))
  | .exit id, _, _ => .exit id
  | .ret, _, _ => .ret
  | _, _, _ => .skip
def fmXF (P : Program) (m : List Nat) (fn : Func) : AFunc :=
  match fn.body with
  | some c => ⟨fn.ntmps, (match compileRes P fn.results.toList with | some l => l | none => []), fmX P m fn.ntmps (fmRes fn.results.toList) c [] (fmRes fn.results.toList)⟩
  | none => default
/-- a form that was worked out -/
structure FmX (P : Program) (m : List Nat) (fn : Func) where
  af : AFunc
  ok : fmXF P m fn = af
end Go.Abs
end

section
/- What functions answer, worked out: the evaluator with lists of answers; functions whose answers are known otherwise. -/
namespace Go.Abs
variable [Glb]

/-- answers that belong together -/
structure Par {ρ ρ' : Type} (A : Ans ρ) (A' : Ans ρ') (r : ρ → ρ' → Prop) : Prop where
  no : ∀ p, r A.no p
  all : ∀ (l : List Nat) (f : Nat → ρ) (g : Nat → ρ'), (∀ i ∈ l, r (f i) (g i)) → r (A.all (l.map f)) (A'.all (l.map g))

section
variable {ρ ρ' : Type} {A : Ans ρ} {A' : Ans ρ'} {r : ρ → ρ' → Prop} (hp : Par A A' r)
include hp
theorem chk_par {b : Bool} {k : ρ} {k' : ρ'} (h : r k k') : r (chk A b k) (chk A' b k') := by
  cases b
  · exact hp.no _
  · exact h
theorem xvFrz_par {rows : List Row} {x : AVal} {K : AVal → List Row → ρ} {K' : AVal → List Row → ρ'} (hk : ∀ v rs, r (K v rs) (K' v rs)) : r (xvFrz A rows x K) (xvFrz A' rows x K') := by
  unfold xvFrz
  repeat' split
  all_goals first | exact hp.no _ | exact chk_par hp (hk _ _)
theorem xvBin_par {op : BinOp} {x y : AVal} {K : AVal → ρ} {K' : AVal → ρ'} (hk : ∀ v, r (K v) (K' v)) : r (xvBin A op x y K) (xvBin A' op x y K') := by
  unfold xvBin
  repeat' split
  all_goals first | exact hp.no _ | exact chk_par hp (hk _) | exact hk _
theorem xvLoad1_par {rows : List Row} {x : AVal} {K : AVal → ρ} {K' : AVal → ρ'} (hk : ∀ v, r (K v) (K' v)) : r (xvLoad1 A rows x K) (xvLoad1 A' rows x K') := by
  unfold xvLoad1
  repeat' split
  all_goals first | exact hp.no _ | exact chk_par hp (hk _) | exact hk _
theorem xvLoadA_par {rows : List Row} {m : Nat} {x : AVal} {K : AVal → ρ} {K' : AVal → ρ'} (hk : ∀ v, r (K v) (K' v)) : r (xvLoadA A rows m x K) (xvLoadA A' rows m x K') := by
  unfold xvLoadA
  repeat' split
  all_goals first | exact hp.no _ | exact chk_par hp (hk _) | exact hk _
theorem xvStore_par {rows : List Row} {m : Nat} {x y : AVal} {K : List Row → ρ} {K' : List Row → ρ'} (hk : ∀ v, r (K v) (K' v)) : r (xvStore A rows m x y K) (xvStore A' rows m x y K') := by
  unfold xvStore
  repeat' split
  all_goals first | exact hp.no _ | exact chk_par hp (hk _) | exact hk _
theorem xvFieldAddr_par {d : Nat} {x : AVal} {K : AVal → ρ} {K' : AVal → ρ'} (hk : ∀ v, r (K v) (K' v)) : r (xvFieldAddr A d x K) (xvFieldAddr A' d x K') := by
  unfold xvFieldAddr
  repeat' split
  all_goals first | exact hp.no _ | exact chk_par hp (hk _) | exact hk _
theorem xvIndexAddr_par {rows : List Row} {sz : Nat} {x y : AVal} {K : AVal → ρ} {K' : AVal → ρ'} (hk : ∀ v, r (K v) (K' v)) : r (xvIndexAddr A rows sz x y K) (xvIndexAddr A' rows sz x y K') := by
  unfold xvIndexAddr
  repeat' split
  all_goals first | exact hp.no _ | exact chk_par hp (hk _) | exact hk _
theorem xvSlice_par {rows : List Row} {lo hi : Option AVal} {sz : Nat} {x : AVal} {K : AVal → ρ} {K' : AVal → ρ'} (hk : ∀ v, r (K v) (K' v)) : r (xvSlice A rows lo hi sz x K) (xvSlice A' rows lo hi sz x K') := by
  unfold xvSlice
  cases len? x with
  | none => exact hp.no _
  | some l =>
    dsimp only
    split
    · refine chk_par hp ?_
      repeat' split
      all_goals first | exact hp.no _ | exact chk_par hp (hk _) | exact hk _
    · exact hp.no _
theorem xvSliceS_par {lo hi : Option AVal} {x : AVal} {K : AVal → ρ} {K' : AVal → ρ'} (hk : ∀ v, r (K v) (K' v)) : r (xvSliceS A lo hi x K) (xvSliceS A' lo hi x K') := by
  unfold xvSliceS
  repeat' split
  all_goals first | exact hp.no _ | exact chk_par hp (hk _) | exact hk _
theorem xvB2s_par {rows : List Row} {x : AVal} {K : AVal → ρ} {K' : AVal → ρ'} (hk : ∀ v, r (K v) (K' v)) : r (xvB2s A rows x K) (xvB2s A' rows x K') := by
  unfold xvB2s
  repeat' split
  all_goals first | exact hp.no _ | exact chk_par hp (hk _) | exact hk _
theorem xvAppend_par {rows : List Row} {e : TypeId} {sz b : Nat} {x y : AVal} {K : AVal → List Row → ρ} {K' : AVal → List Row → ρ'} (hk : ∀ v rs, r (K v rs) (K' v rs)) : r (xvAppend A rows e sz b x y K) (xvAppend A' rows e sz b x y K') := by
  unfold xvAppend
  repeat' split
  all_goals first | exact hp.no _ | exact chk_par hp (hk _ _)
theorem xvLook_par {rows : List Row} {ok ag : Bool} {ks : List CK} {zero x k : AVal} {K : AVal → ρ} {K' : AVal → ρ'} (hk : ∀ v, r (K v) (K' v)) : r (xvLook A rows ok ag ks zero x k K) (xvLook A' rows ok ag ks zero x k K') := by
  unfold xvLook
  split
  · exact hp.no _
  · exact chk_par hp (hk _)
theorem xvMset_par {rows : List Row} {ag : Bool} {ks : List CK} {x k v : AVal} {K : List Row → ρ} {K' : List Row → ρ'} (hk : ∀ v, r (K v) (K' v)) : r (xvMset A rows ag ks x k v K) (xvMset A' rows ag ks x k v K') := by
  unfold xvMset
  repeat' split
  all_goals first | exact hp.no _ | exact chk_par hp (hk _) | exact hk _
theorem xvMent_par {rows : List Row} {ag : Bool} {ks : List CK} {zero x k : AVal} {K : AVal → List Row → ρ} {K' : AVal → List Row → ρ'} (hk : ∀ v rs, r (K v rs) (K' v rs)) : r (xvMent A rows ag ks zero x k K) (xvMent A' rows ag ks zero x k K') := by
  unfold xvMent
  repeat' split
  all_goals first | exact hp.no _ | exact chk_par hp (hk _ _)
theorem xvEstore_par {rows : List Row} {x i v : AVal} {K : List Row → ρ} {K' : List Row → ρ'} (hk : ∀ v, r (K v) (K' v)) : r (xvEstore A rows x i v K) (xvEstore A' rows x i v K') := by
  unfold xvEstore
  repeat' split
  all_goals first | exact hp.no _ | exact chk_par hp (hk _) | exact hk _
theorem xvIter_par {rows : List Row} {x : AVal} {K : AVal → List Row → ρ} {K' : AVal → List Row → ρ'} (hk : ∀ v rs, r (K v rs) (K' v rs)) : r (xvIter A rows x K) (xvIter A' rows x K') := by
  unfold xvIter
  repeat' split
  all_goals first | exact hp.no _ | exact hk _ _
theorem xvEntry_par {rows : List Row} {x : AVal} {K : AVal → ρ} {K' : AVal → ρ'} (hk : ∀ v, r (K v) (K' v)) : r (xvEntry A rows x K) (xvEntry A' rows x K') := by
  unfold xvEntry
  repeat' split
  all_goals first | exact hp.no _ | exact chk_par hp (hk _) | exact hk _
theorem xvCopy_par {rows : List Row} {sz : Nat} {x y : AVal} {K : AVal → List Row → ρ} {K' : AVal → List Row → ρ'} (hk : ∀ v rs, r (K v rs) (K' v rs)) : r (xvCopy A rows sz x y K) (xvCopy A' rows sz x y K') := by
  unfold xvCopy
  repeat' split
  all_goals first | exact hp.no _ | exact chk_par hp (hk _ _)
theorem xvClear_par {rows : List Row} {sz : Nat} {zero : List AVal} {x : AVal} {K : List Row → ρ} {K' : List Row → ρ'} (hk : ∀ v, r (K v) (K' v)) : r (xvClear A rows sz zero x K) (xvClear A' rows sz zero x K') := by
  unfold xvClear
  repeat' split
  all_goals first | exact hp.no _ | exact chk_par hp (hk _) | exact hk _
theorem xvIndexArr_par {len sz : Nat} {x y : AVal} {K : AVal → ρ} {K' : AVal → ρ'} (hk : ∀ v, r (K v) (K' v)) : r (xvIndexArr A len sz x y K) (xvIndexArr A' len sz x y K') := by
  unfold xvIndexArr
  repeat' split
  all_goals first | exact hp.no _ | exact chk_par hp (hk _) | exact hk _
theorem xv_par {op : AOp} {args : List AVal} {rows : List Row} {K : AVal → List Row → ρ} {K' : AVal → List Row → ρ'} (hk : ∀ v rs, r (K v rs) (K' v rs)) : r (xv A op args rows K) (xv A' op args rows K') := by
  unfold xv
  split
  all_goals first
    | exact hp.no _
    | exact hk _ _
    | exact chk_par hp (hk _ _)
    | exact xvLoad1_par hp fun _ => hk _ _
    | exact xvLoadA_par hp fun _ => hk _ _
    | exact xvStore_par hp fun _ => hk _ _
    | exact xvBin_par hp fun _ => hk _ _
    | exact xvFieldAddr_par hp fun _ => hk _ _
    | exact xvIndexAddr_par hp fun _ => hk _ _
    | exact xvSlice_par hp fun _ => hk _ _
    | exact xvSliceS_par hp fun _ => hk _ _
    | exact xvAppend_par hp hk
    | exact xvB2s_par hp fun _ => hk _ _
    | exact xvFrz_par hp hk
    | exact xvCopy_par hp hk
    | exact xvIndexArr_par hp fun _ => hk _ _
    | exact xvLook_par hp fun _ => hk _ _
    | exact xvMset_par hp fun _ => hk _ _
    | exact xvMent_par hp hk
    | exact xvEstore_par hp fun _ => hk _ _
    | exact xvIter_par hp hk
    | exact xvEntry_par hp fun _ => hk _ _
    | exact xvClear_par hp fun _ => hk _ _
    | (split <;> first | exact hp.no _ | exact hk _ _ | exact chk_par hp (hk _ _))

variable {P : Program} {call : FuncId → List AVal → List Row → (AVal → List Row → ρ) → ρ} {call' : FuncId → List AVal → List Row → (AVal → List Row → ρ') → ρ'}
  (hc : ∀ f args rows K K', (∀ v rs, r (K v rs) (K' v rs)) → r (call f args rows K) (call' f args rows K'))
include hc
theorem xCallS_par {sel : List Nat} {f : FuncId} {args : List AVal} {rows : List Row} {K : AVal → List Row → ρ} {K' : AVal → List Row → ρ'} (hk : ∀ v rs, r (K v rs) (K' v rs)) : r (xCallS A call sel f args rows K) (xCallS A' call' sel f args rows K') := by
  unfold xCallS
  split
  · exact chk_par hp (hc _ _ _ _ _ fun _ _ => hk _ _)
  · exact hp.no _
theorem xCall_par {f : FuncId} {args : List AVal} {rows : List Row} {K : AVal → List Row → ρ} {K' : AVal → List Row → ρ'} (hk : ∀ v rs, r (K v rs) (K' v rs)) : r (xCall A call f args rows K) (xCall A' call' f args rows K') := xCallS_par hp hc hk
theorem xCallV_par {vs : List AVal} {rows : List Row} {K : AVal → List Row → ρ} {K' : AVal → List Row → ρ'} (hk : ∀ v rs, r (K v rs) (K' v rs)) : r (xCallV A P call vs rows K) (xCallV A' P call' vs rows K') := by
  unfold xCallV
  split
  · exact chk_par hp (xCall_par hp hc hk)
  · exact hp.no _
omit hc in
theorem xNext_par {rows : List Row} {x : AVal} {K : AVal → List Row → ρ} {K' : AVal → List Row → ρ'} (hk : ∀ v rs, r (K v rs) (K' v rs)) : r (xNext A rows x K) (xNext A' rows x K') := by
  unfold xNext
  split
  · split
    · refine chk_par hp ?_
      split
      · exact hk _ _
      · exact hp.all _ _ _ fun _ _ => hk _ _
    · exact hp.no _
  · exact hp.no _
theorem xRun_par {o : IOp} {env : Env} {rows : List Row} {K : Env → List Row → ρ} {K' : Env → List Row → ρ'} (hk : ∀ e rs, r (K e rs) (K' e rs)) : r (xRun A P call o env rows K) (xRun A' P call' o env rows K') := by
  unfold xRun
  split
  · exact xCall_par hp hc fun _ _ => hk _ _
  · split
    · exact xNext_par hp fun _ _ => hk _ _
    · exact hp.no _
  · exact xCallV_par hp hc fun _ _ => hk _ _
  · exact xv_par hp fun _ _ => hk _ _
theorem xStep_par {o : IOp} {env : Env} {rows : List Row} {K : Env → List Row → ρ} {K' : Env → List Row → ρ'} (hk : ∀ e rs, r (K e rs) (K' e rs)) : r (xStep A P call o env rows K) (xStep A' P call' o env rows K') := by
  unfold xStep
  split
  · exact xRun_par hp hc hk
  · split
    · split
      · exact xRun_par hp hc hk
      · exact hk _ _
    · exact hk _ _
    · exact hp.no _
theorem xList_par : ∀ {os : List IOp} {K : Env → List Row → ρ} {K' : Env → List Row → ρ'} {env : Env} {rows : List Row}, (∀ e rs, r (K e rs) (K' e rs)) → r (xList A P call os K env rows) (xList A' P call' os K' env rows)
  | [], _, _, _, _, hk => hk _ _
  | _ :: _, _, _, _, _, hk => xStep_par hp hc fun _ _ => xList_par hk
theorem xCallT_par {f : FuncId} {args : List AVal} {un : List Nat} {tk : Tk} {rows : List Row} {K : AVal → List Row → ρ} {K' : AVal → List Row → ρ'} (hk : ∀ v rs, r (K v rs) (K' v rs)) : r (xCallT A call f args un tk rows K) (xCallT A' call' f args un tk rows K') := by
  unfold xCallT
  split
  · exact xCallS_par hp hc hk
  · exact chk_par hp (hc _ _ _ _ _ fun _ _ => chk_par hp (hk _ _))
theorem xCallVT_par {vs : List AVal} {un : List Nat} {tk : Tk} {rows : List Row} {K : AVal → List Row → ρ} {K' : AVal → List Row → ρ'} (hk : ∀ v rs, r (K v rs) (K' v rs)) : r (xCallVT A P call vs un tk rows K) (xCallVT A' P call' vs un tk rows K') := by
  unfold xCallVT
  split
  · exact chk_par hp (xCallT_par hp hc hk)
  · exact hp.no _
omit hc in
theorem xR_par {op : AOp} {args : List AVal} {k : Nat} {rows : List Row} {K : AVal → List Row → ρ} {K' : AVal → List Row → ρ'} (hk : ∀ v rs, r (K v rs) (K' v rs)) : r (xR A op args k rows K) (xR A' op args k rows K') := by
  unfold xR
  split
  all_goals first
    | exact hp.no _
    | exact chk_par hp (hk _ _)
    | (split <;> first | exact hp.no _ | exact chk_par hp (hk _ _))
theorem xRunD_par {base i : Nat} {d : DOp} {tk : Tk} {env : Env} {rows : List Row} {K : Tk → Env → List Row → ρ} {K' : Tk → Env → List Row → ρ'} (hk : ∀ t e rs, r (K t e rs) (K' t e rs)) : r (xRunD A P call base i d tk env rows K) (xRunD A' P call' base i d tk env rows K') := by
  unfold xRunD
  split
  · exact chk_par hp (xR_par hp fun _ _ => hk _ _ _)
  · split
    · exact xCallT_par hp hc fun _ _ => hk _ _ _
    · exact xCallVT_par hp hc fun _ _ => hk _ _ _
    · exact chk_par hp (xv_par hp fun _ _ => hk _ _ _)
theorem xDraw_par {base : Nat} : ∀ {ds : List (Nat × DOp)} {live : List Nat} {K : Env → List Row → ρ} {K' : Env → List Row → ρ'} {tk : Tk} {env : Env} {rows : List Row}, (∀ e rs, r (K e rs) (K' e rs)) → r (xDraw A P call base ds live K tk env rows) (xDraw A' P call' base ds live K' tk env rows)
  | [], _, _, _, _, _, _, hk => hk _ _
  | (i, d) :: ds, live, K, K', tk, env, rows, hk => by
    rw [xDraw, xDraw]
    split
    · exact xRunD_par hp hc fun _ _ _ => xDraw_par hk
    · split
      · split
        · exact xRunD_par hp hc fun _ _ _ => xDraw_par hk
        · exact xDraw_par hk
      · exact xDraw_par hk
      · exact hp.no _
theorem xCode_par : ∀ (m : Nat) (c : ACode) (K : XPost ρ) (K' : XPost ρ') (env : Env) (rows : List Row), (∀ e rs, r (K.n e rs) (K'.n e rs)) → (∀ j e rs, r (K.x j e rs) (K'.x j e rs)) → (∀ e rs, r (K.r e rs) (K'.r e rs)) → r (xCode A P call m c K env rows) (xCode A' P call' m c K' env rows)
  | 0, _, _, _, _, _, _, _, _ => hp.no _
  | m + 1, c, K, K', env, rows, h1, h2, h3 => by
    cases c with
    | skip => exact h1 _ _
    | region ops live => exact xList_par hp hc fun _ _ => h1 _ _
    | draw ops res live => exact xDraw_par hp hc h1
    | seq a b => exact xCode_par m a _ _ _ _ (fun e rs => xCode_par m b _ _ _ _ h1 h2 h3) h2 h3
    | cond c a b =>
      simp only [xCode]
      split
      · exact xCode_par m a _ _ _ _ h1 h2 h3
      · exact xCode_par m b _ _ _ _ h1 h2 h3
      · exact hp.no _
    | block id c =>
      refine xCode_par m c _ _ _ _ h1 (fun j e rs => ?_) h3
      dsimp only
      split
      · exact h1 _ _
      · exact h2 _ _ _
    | loop c => exact xCode_par m c _ _ _ _ (fun e rs => xCode_par m (.loop c) _ _ _ _ h1 h2 h3) h2 h3
    | exit id => exact h2 _ _ _
    | ret => exact h3 _ _
omit hc in
theorem xRes_par {rows : List Row} {env : Env} : ∀ {l : List ARes} {K : List AVal → ρ} {K' : List AVal → ρ'}, (∀ vs, r (K vs) (K' vs)) → r (xRes A rows env l K) (xRes A' rows env l K')
  | [], _, _, hk => hk _
  | .tmp t :: l, K, K', hk => xRes_par (l := l) fun vs => hk _
  | .cell1 t :: l, K, K', hk => xvLoad1_par hp fun v => xRes_par fun vs => hk _
  | .cellA t n :: l, K, K', hk => xvLoadA_par hp fun v => xRes_par fun vs => hk _
end

/-- an answer that is the first part of a row becomes a row of its own -/
def xCut (n0 : Nat) (v : AVal) (rows : List Row) : AVal × List Row :=
  match v with
  | .own r n 0 k =>
    match rows[r]? with
    | some (.live e sz vals) => if k < n ∧ n0 ≤ r ∧ n = vals.length then (.own rows.length k 0 k, rows.set r .dead ++ [.live e sz (vals.take k)]) else (v, rows)
    | _ => (v, rows)
  | _ => (v, rows)
theorem xCut_ok {n0 : Nat} {v : AVal} {rows : List Row} {K : Env → List Row → Prop} (h : Cl n0 K [(0, (xCut n0 v rows).1)] (xCut n0 v rows).2) : Cl n0 K [(0, v)] rows := by
  unfold xCut at h
  split at h
  · split at h
    · rename_i hr
      split at h
      · rename_i hc
        refine Cl.step (.cut 0 _ _ _ rfl hr hc.2.2) (Cl.norm [0] ?_)
        exact h
      · exact h
    · exact h
  · exact h
def xEndC {ρ : Type} (A : Ans ρ) (n0 : Nat) (K : AVal → List Row → ρ) (p : AVal × List Row) : ρ := xEnd A n0 ((List.range n0 ++ (reach p.2 100000 (List.range n0 ++ refsV p.1) []).filter fun r => decide (n0 ≤ r)).map some) p.1 p.2 K
def xFinC {ρ : Type} (A : Ans ρ) (n0 : Nat) (af : AFunc) (K : AVal → List Row → ρ) (env : Env) (rows : List Row) : ρ :=
  xRes A rows env af.results fun vs => xEndC A n0 K (xCut n0 (oneOrTup vs) rows)
theorem xFinC_par {ρ ρ' : Type} {A : Ans ρ} {A' : Ans ρ'} {r : ρ → ρ' → Prop} (hp : Par A A' r) {n0 : Nat} {af : AFunc} {K : AVal → List Row → ρ} {K' : AVal → List Row → ρ'} (hk : ∀ v rs, r (K v rs) (K' v rs)) (env : Env) (rows : List Row) : r (xFinC A n0 af K env rows) (xFinC A' n0 af K' env rows) := by
  unfold xFinC
  refine xRes_par hp fun vs => ?_
  unfold xEndC xEnd
  split
  · exact chk_par hp (hk _ _)
  · exact hp.no _
/-- a function whose answer is known otherwise -/
structure XLeaf (P : Program) where
  f : FuncId
  run : List AVal → List Row → Option (AVal × List Row)
  ok : ∀ args rows v rs, run args rows = some (v, rs) → AFn P f args rows fun v' rs' => v' = v ∧ rs' = rs

def leaf? {P : Program} : List (XLeaf P) → FuncId → Option (XLeaf P)
  | [], _ => none
  | x :: xs, f => if x.f = f then some x else leaf? xs f
theorem leaf?_f {P : Program} : ∀ {l : List (XLeaf P)} {f : FuncId} {x : XLeaf P}, leaf? l f = some x → x.f = f
  | [], _, _, h => by cases h
  | y :: ys, f, x, h => by
    rw [leaf?] at h
    split at h
    · simp at h; subst h; assumption
    · exact leaf?_f h

def xFunL {ρ : Type} (A : Ans ρ) (P : Program) (T : List (XForm P)) (L : List (XLeaf P)) : Nat → FuncId → List AVal → List Row → (AVal → List Row → ρ) → ρ
  | 0, _, _, _, _ => A.no
  | d + 1, f, args, rows, K =>
    match leaf? L f with
    | some x =>
      match x.run args rows with
      | some (v, rs) => K v rs
      | none => A.no
    | none =>
      match form? T f with
      | some x => chk A (decide (args.length ≤ x.af.ntmps)) (xCode A P (xFunL A P T L d) 1000000 x.af.body ⟨xFinC A rows.length x.af K, fun _ _ _ => A.no, xFinC A rows.length x.af K⟩ (argEnv args 0) rows)
      | none => A.no

theorem xFunL_par {ρ ρ' : Type} {A : Ans ρ} {A' : Ans ρ'} {r : ρ → ρ' → Prop} (hp : Par A A' r) {P : Program} {T : List (XForm P)} {L : List (XLeaf P)} : ∀ (d : Nat) (f : FuncId) (args : List AVal) (rows : List Row) (K : AVal → List Row → ρ) (K' : AVal → List Row → ρ'), (∀ v rs, r (K v rs) (K' v rs)) → r (xFunL A P T L d f args rows K) (xFunL A' P T L d f args rows K')
  | 0, _, _, _, _, _, _ => hp.no _
  | d + 1, f, args, rows, K, K', hk => by
    rw [xFunL, xFunL]
    split
    · split
      · exact hk _ _
      · exact hp.no _
    · split
      · exact chk_par hp (xCode_par hp (fun f args rows K K' h => xFunL_par hp d f args rows K K' h) _ _ _ _ _ _ (fun e rs => xFinC_par hp hk e rs) (fun _ _ _ => hp.no _) (fun e rs => xFinC_par hp hk e rs))
      · exact hp.no _

theorem xFunL_ok {P : Program} {T : List (XForm P)} {L : List (XLeaf P)} : ∀ (d : Nat) (f : FuncId) (args : List AVal) (rows : List Row) (K : AVal → List Row → Prop), xFunL AP P T L d f args rows K → AFn P f args rows K
  | 0, _, _, _, _, h => h.elim
  | d + 1, f, args, rows, K, h => by
    rw [xFunL] at h
    split at h
    · rename_i x hx
      split at h
      · rename_i v rs hr
        have := leaf?_f hx
        subst this
        exact (x.ok _ _ _ _ hr).mono fun v' rs' hv => by obtain ⟨rfl, rfl⟩ := hv; exact h
      · exact h.elim
    · split at h
      · rename_i x hx
        rw [chk_P] at h
        obtain ⟨hn, h⟩ := h
        obtain ⟨fn, live, h1, h2⟩ := x.ok
        rw [form?_f hx] at h1
        refine afn h1 h2 (of_decide_eq_true hn) ?_
        have fin : ∀ env rs, xFinC AP rows.length x.af K env rs → retK rows.length K [] x.af.results env rs := by
          intro env rs hk
          unfold xFinC at hk
          unfold retK
          refine resK_mono2 (fun vs hv => ?_) hk
          unfold xEndC xEnd at hv
          split at hv
          · rename_i srows hg
            rw [chk_P, Bool.and_eq_true] at hv
            refine xCut_ok (Cl.tr _ [] hv.1.1 hv.1.2 hg (Cl.here ?_))
            simp only [finK, List.nil_append, List.map_cons, List.map_nil, slot, if_true]
            exact hv.2
          · exact hv.elim
        exact avc_mono _ (K := (⟨xFinC AP rows.length x.af K, fun _ _ _ => AP.no, xFinC AP rows.length x.af K⟩ : XPost Prop).p) (fun e r hk => fin e r hk) (fun _ _ _ hk => hk) (fun e r hk => fin e r hk) (xCode_ok (xFunL_ok d) x.af.body 1000000 _ (argEnv args 0) rows h)
      · exact h.elim

/-- lists of answers; none: it cannot be told -/
def AL : Ans (Option (List (AVal × List Row))) := ⟨none, fun l => l.foldr (fun x acc => match x, acc with | some a, some b => some (a ++ b) | _, _ => none) (some [])⟩
theorem al_par (G : AVal → List Row → Prop) : Par AL AP fun x p => ∀ outs, x = some outs → (∀ o ∈ outs, G o.1 o.2) → p where
  no := fun p outs h => by cases h
  all := by
    intro l f g h
    induction l with
    | nil => intro outs _ _; exact trivial
    | cons i l ih =>
      intro outs ho hG
      have ih := ih fun j hj => h j (List.mem_cons_of_mem _ hj)
      have e : AL.all ((i :: l).map f) = match f i, AL.all (l.map f) with | some a, some b => some (a ++ b) | _, _ => none := rfl
      rw [e] at ho
      split at ho
      · rename_i a b ha hb
        simp only [Option.some.injEq] at ho
        subst ho
        exact ⟨h i List.mem_cons_self a ha fun o hm => hG o (List.mem_append_left _ hm), ih b hb fun o hm => hG o (List.mem_append_right _ hm)⟩
      · cases ho
/-- what a run answers holds -/
theorem run_afn {P : Program} {T : List (XForm P)} {L : List (XLeaf P)} {f : FuncId} {args : List AVal} {rows : List Row} {Q : AVal → List Row → Prop} (d : Nat) (outs : List (AVal × List Row))
    (h : xFunL AL P T L d f args rows (fun v rs => some [(v, rs)]) = some outs) (hQ : ∀ o ∈ outs, Q o.1 o.2) : AFn P f args rows Q :=
  xFunL_ok d f args rows Q (xFunL_par (al_par Q) d f args rows _ Q (fun v rs outs ho hG => by cases ho; exact hG (v, rs) List.mem_cons_self) outs h hQ)

end Go.Abs
end
