/- How a region that draws is reckoned out. -/
import Derived.Test.YtpincjkjoeopkaaGreatDoorAbsMc
set_option linter.unusedSimpArgs false
set_option linter.unusedVariables false
set_option linter.unusedSectionVars false
namespace Go.Abs
variable [Glb]

def rowH : List AVal → List Nat
  | x :: _ => rowOf x
  | [] => []
def rowT : List AVal → List Nat
  | [_, y] => rowOf y
  | _ => []

theorem rowH_cons {x : AVal} {xs : List AVal} : rowH (x :: xs) = rowOf x := _root_.id rfl
theorem rowT_two {x y : AVal} : rowT [x, y] = rowOf y := _root_.id rfl
theorem rowOf_own {r n o l : Nat} : rowOf (.own r n o l) = [r] := _root_.id rfl
theorem rowOf_ref {r n o l : Nat} : rowOf (.ref r n o l) = [r] := _root_.id rfl
theorem rowOf_pure {sz : Nat} {vals : List (List AVal)} : rowOf (.pure sz vals) = [] := _root_.id rfl
theorem rowOf_pref {cs : List AVal} {o : Nat} : rowOf (.pref cs o) = [] := _root_.id rfl
theorem rowOf_nils : rowOf .nils = [] := _root_.id rfl
theorem rowOf_mref {r : Nat} : rowOf (.mref r) = [r] := _root_.id rfl
theorem rowOf_itref {r m : Nat} : rowOf (.itref r m) = [r, m] := _root_.id rfl
theorem tkOf_nil {i : Nat} {tk : Tk} : tkOf i [] tk = tk := _root_.id rfl
theorem tkOf_cons {i r : Nat} {rs : List Nat} {tk : Tk} : tkOf i (r :: rs) tk = (i, r, false) :: tkOf i rs tk := _root_.id rfl

section
variable {un : List Nat} {tk : Tk} {W R : List Nat}
theorem okTk_none : okTk un tk [] [] = True := by simp [okTk]
theorem okTk_nil : okTk un [] W R = True := by simp [okTk]
theorem okTk_cons {i r : Nat} {w : Bool} : okTk un ((i, r, w) :: tk) W R ↔ (i ∈ un → r ∉ W ∧ (w = true → r ∉ R)) ∧ okTk un tk W R := by
  constructor
  · intro h
    exact ⟨fun hi => h i r w (List.mem_cons_self ..) hi, fun j s v hm hj => h j s v (List.mem_cons_of_mem _ hm) hj⟩
  · rintro ⟨h1, h2⟩ j s v hm hj
    rcases List.mem_cons.1 hm with he | hm
    · cases he; exact h1 hj
    · exact h2 j s v hm hj
theorem okTk_r {i r : Nat} : okTk un ((i, r, false) :: tk) W R = if un.contains i && W.contains r then False else okTk un tk W R := by
  apply propext
  rw [okTk_cons]
  by_cases h1 : i ∈ un <;> by_cases h2 : r ∈ W <;> simp [h1, h2]
theorem okTk_w {i r : Nat} : okTk un ((i, r, true) :: tk) W R = if un.contains i && (W.contains r || R.contains r) then False else okTk un tk W R := by
  apply propext
  rw [okTk_cons]
  by_cases h1 : i ∈ un <;> by_cases h2 : r ∈ W <;> by_cases h3 : r ∈ R <;> simp [h1, h2, h3]
end

/-- a call in a region that draws -/
def callD (P : Program) (f : FuncId) (args : List AVal) (un : List Nat) (tk : Tk) (rows : List Row) (dst : Option Nat) (env : Env) (K : Env → List Row → Prop) : Prop := callT P f args un tk rows fun v rows' => K (put env dst v) rows'
/-- a region that draws -/
def drawC (P : Program) (ops : List (Nat × DOp)) (res : List (TypeId × Nat)) (live : List Nat) (K : Env → List Row → Prop) (base : Nat) (env : Env) (rows : List Row) : Prop := drawK P base ops live K [] env (rows ++ reserved res)
/-- new memory at its row -/
def bresC (es : Option (List (List AVal))) (row : Option Row) (k : Nat) (e : TypeId) (sz len : Nat) (vs : List AVal) (rows : List Row) (dst : Option Nat) (env : Env) (K : Env → List Row → Prop) : Prop :=
  match es with
  | some es => ((vs.all fun v => (acells v).all one) = true ∧ 0 < len) ∧ row = some (.live e sz []) ∧ K (put env dst (.own k len 0 len)) (rows.set k (.live e sz es))
  | none => False

section
variable {P : Program} {base i : Nat} {un : List Nat} {tk : Tk} {live : List Nat} {env : Env} {rows : List Row} {d : Option Nat} {args : List Opd} {g : Option (Nat × Bool)}

theorem avc_draw {n0 : Nat} {K : Post} {ops : List (Nat × DOp)} {res : List (TypeId × Nat)} : avc P n0 (.draw ops res live) K env rows = drawC P ops res live K.n rows.length env rows := _root_.id rfl
theorem drawC_eq {K : Env → List Row → Prop} {ops : List (Nat × DOp)} {res : List (TypeId × Nat)} : drawC P ops res live K base env rows = drawK P base ops live K [] env (rows ++ reserved res) := _root_.id rfl
theorem reserved_nil : reserved [] = [] := _root_.id rfl
theorem reserved_cons {e : TypeId} {sz : Nat} {rs : List (TypeId × Nat)} : reserved ((e, sz) :: rs) = .live e sz [] :: reserved rs := _root_.id rfl
theorem drawK_nil {K : Env → List Row → Prop} : drawK P base [] live K tk env rows = K (norm live env) rows := _root_.id rfl
theorem drawK_none {K : Env → List Row → Prop} {op : AOp} {res : Option Nat} {ds : List (Nat × DOp)} :
    drawK P base ((i, ⟨⟨d, op, args, none⟩, res, un⟩) :: ds) live K tk env rows = runD P base i ⟨⟨d, op, args, none⟩, res, un⟩ tk env rows (drawK P base ds live K) := _root_.id rfl
theorem drawK_some {K : Env → List Row → Prop} {op : AOp} {res : Option Nat} {s : Nat} {want : Bool} {ds : List (Nat × DOp)} :
    drawK P base ((i, ⟨⟨d, op, args, some (s, want)⟩, res, un⟩) :: ds) live K tk env rows = grdD P base (slot env s) want i ⟨⟨d, op, args, some (s, want)⟩, res, un⟩ tk env rows (drawK P base ds live K) := _root_.id rfl

variable {K : Tk → Env → List Row → Prop}
theorem grdD_tt {o : DOp} : grdD P base (.bool true) true i o tk env rows K = runD P base i o tk env rows K := _root_.id rfl
theorem grdD_ff {o : DOp} : grdD P base (.bool false) false i o tk env rows K = runD P base i o tk env rows K := _root_.id rfl
theorem grdD_tf {o : DOp} : grdD P base (.bool true) false i o tk env rows K = K tk (put env o.io.dst (.tup [])) rows := _root_.id rfl
theorem grdD_ft {o : DOp} : grdD P base (.bool false) true i o tk env rows K = K tk (put env o.io.dst (.tup [])) rows := _root_.id rfl
theorem grdD_un {o : DOp} {want : Bool} : grdD P base (.tup []) want i o tk env rows K = K tk (put env o.io.dst (.tup [])) rows := _root_.id rfl
theorem grdD_intro {b want : Bool} {o : DOp} (h1 : b = true → grdD P base (.bool true) want i o tk env rows K) (h2 : b = false → grdD P base (.bool false) want i o tk env rows K) : grdD P base (.bool b) want i o tk env rows K := by
  cases b
  · exact h2 rfl
  · exact h1 rfl
def callVD (P : Program) (vs : List AVal) (un : List Nat) (tk : Tk) (rows : List Row) (dst : Option Nat) (env : Env) (K : Env → List Row → Prop) : Prop := callVT P vs un tk rows fun v rows' => K (put env dst v) rows'
theorem callVD_fn {f : FuncId} {cs xs : List AVal} {K : Env → List Row → Prop} : callVD P (.fn f cs :: xs) un tk rows d env K = (fnOk P f ∧ callD P f (xs ++ cs) un tk rows d env K) := _root_.id rfl
theorem runD_callv : runD P base i ⟨⟨d, .callv, args, g⟩, none, un⟩ tk env rows K = callVD P (args.map (Opd.ev env)) un tk rows d env (K tk) := _root_.id rfl
theorem runD_call {f : FuncId} : runD P base i ⟨⟨d, .call f, args, g⟩, none, un⟩ tk env rows K = callD P f (args.map (Opd.ev env)) un tk rows d env (K tk) := _root_.id rfl
theorem pureD {op : AOp} {vs : List AVal} (hW : tW op vs = []) (hR : tR op vs = []) (tk' : Tk) (ht : tk' = tk) {A : Tk → Prop} : (okTk un tk (tW op vs) (tR op vs) ∧ A tk') = A tk := by
  rw [hW, hR, ht, okTk_none, true_and]

theorem runD_cap  : runD P base i ⟨⟨d, .cap, args, g⟩, none, un⟩ tk env rows K = evC .cap (args.map (Opd.ev env)) rows d env (K tk) := by
  exact pureD (op := .cap) (vs := args.map (Opd.ev env)) (_root_.id rfl) (_root_.id rfl) (tkOf i [] tk) rfl (A := fun tk' => evC .cap (args.map (Opd.ev env)) rows d env (K tk'))
theorem runD_mv  : runD P base i ⟨⟨d, .mv, args, g⟩, none, un⟩ tk env rows K = evC .mv (args.map (Opd.ev env)) rows d env (K tk) := by
  exact pureD (op := .mv) (vs := args.map (Opd.ev env)) (_root_.id rfl) (_root_.id rfl) (tkOf i [] tk) rfl (A := fun tk' => evC .mv (args.map (Opd.ev env)) rows d env (K tk'))
theorem runD_pick  : runD P base i ⟨⟨d, .pick, args, g⟩, none, un⟩ tk env rows K = evC .pick (args.map (Opd.ev env)) rows d env (K tk) := by
  exact pureD (op := .pick) (vs := args.map (Opd.ev env)) (_root_.id rfl) (_root_.id rfl) (tkOf i [] tk) rfl (A := fun tk' => evC .pick (args.map (Opd.ev env)) rows d env (K tk'))
theorem runD_build {z p} : runD P base i ⟨⟨d, (.build z p), args, g⟩, none, un⟩ tk env rows K = evC (.build z p) (args.map (Opd.ev env)) rows d env (K tk) := by
  exact pureD (op := (.build z p)) (vs := args.map (Opd.ev env)) (_root_.id rfl) (_root_.id rfl) (tkOf i [] tk) rfl (A := fun tk' => evC (.build z p) (args.map (Opd.ev env)) rows d env (K tk'))
theorem runD_nilsl  : runD P base i ⟨⟨d, .nilsl, args, g⟩, none, un⟩ tk env rows K = evC .nilsl (args.map (Opd.ev env)) rows d env (K tk) := by
  exact pureD (op := .nilsl) (vs := args.map (Opd.ev env)) (_root_.id rfl) (_root_.id rfl) (tkOf i [] tk) rfl (A := fun tk' => evC .nilsl (args.map (Opd.ev env)) rows d env (K tk'))
theorem runD_nilchk  : runD P base i ⟨⟨d, .nilchk, args, g⟩, none, un⟩ tk env rows K = evC .nilchk (args.map (Opd.ev env)) rows d env (K tk) := by
  exact pureD (op := .nilchk) (vs := args.map (Opd.ev env)) (_root_.id rfl) (_root_.id rfl) (tkOf i [] tk) rfl (A := fun tk' => evC .nilchk (args.map (Opd.ev env)) rows d env (K tk'))
theorem runD_bin {o} : runD P base i ⟨⟨d, (.bin o), args, g⟩, none, un⟩ tk env rows K = evC (.bin o) (args.map (Opd.ev env)) rows d env (K tk) := by
  exact pureD (op := (.bin o)) (vs := args.map (Opd.ev env)) (_root_.id rfl) (_root_.id rfl) (tkOf i [] tk) rfl (A := fun tk' => evC (.bin o) (args.map (Opd.ev env)) rows d env (K tk'))
theorem runD_eqA {n ks} : runD P base i ⟨⟨d, (.eqA n ks), args, g⟩, none, un⟩ tk env rows K = evC (.eqA n ks) (args.map (Opd.ev env)) rows d env (K tk) := by
  exact pureD (op := (.eqA n ks)) (vs := args.map (Opd.ev env)) (_root_.id rfl) (_root_.id rfl) (tkOf i [] tk) rfl (A := fun tk' => evC (.eqA n ks) (args.map (Opd.ev env)) rows d env (K tk'))
theorem runD_eqB {n} : runD P base i ⟨⟨d, (.eqB n), args, g⟩, none, un⟩ tk env rows K = evC (.eqB n) (args.map (Opd.ev env)) rows d env (K tk) := by
  exact pureD (op := (.eqB n)) (vs := args.map (Opd.ev env)) (_root_.id rfl) (_root_.id rfl) (tkOf i [] tk) rfl (A := fun tk' => evC (.eqB n) (args.map (Opd.ev env)) rows d env (K tk'))
theorem runD_not  : runD P base i ⟨⟨d, .not, args, g⟩, none, un⟩ tk env rows K = evC .not (args.map (Opd.ev env)) rows d env (K tk) := by
  exact pureD (op := .not) (vs := args.map (Opd.ev env)) (_root_.id rfl) (_root_.id rfl) (tkOf i [] tk) rfl (A := fun tk' => evC .not (args.map (Opd.ev env)) rows d env (K tk'))
theorem runD_neg  : runD P base i ⟨⟨d, .neg, args, g⟩, none, un⟩ tk env rows K = evC .neg (args.map (Opd.ev env)) rows d env (K tk) := by
  exact pureD (op := .neg) (vs := args.map (Opd.ev env)) (_root_.id rfl) (_root_.id rfl) (tkOf i [] tk) rfl (A := fun tk' => evC .neg (args.map (Opd.ev env)) rows d env (K tk'))
theorem runD_conv {k} : runD P base i ⟨⟨d, (.conv k), args, g⟩, none, un⟩ tk env rows K = evC (.conv k) (args.map (Opd.ev env)) rows d env (K tk) := by
  exact pureD (op := (.conv k)) (vs := args.map (Opd.ev env)) (_root_.id rfl) (_root_.id rfl) (tkOf i [] tk) rfl (A := fun tk' => evC (.conv k) (args.map (Opd.ev env)) rows d env (K tk'))
theorem runD_fieldAddr {n} : runD P base i ⟨⟨d, (.fieldAddr n), args, g⟩, none, un⟩ tk env rows K = evC (.fieldAddr n) (args.map (Opd.ev env)) rows d env (K tk) := by
  exact pureD (op := (.fieldAddr n)) (vs := args.map (Opd.ev env)) (_root_.id rfl) (_root_.id rfl) (tkOf i [] tk) rfl (A := fun tk' => evC (.fieldAddr n) (args.map (Opd.ev env)) rows d env (K tk'))
theorem runD_field1 {n} : runD P base i ⟨⟨d, (.field1 n), args, g⟩, none, un⟩ tk env rows K = evC (.field1 n) (args.map (Opd.ev env)) rows d env (K tk) := by
  exact pureD (op := (.field1 n)) (vs := args.map (Opd.ev env)) (_root_.id rfl) (_root_.id rfl) (tkOf i [] tk) rfl (A := fun tk' => evC (.field1 n) (args.map (Opd.ev env)) rows d env (K tk'))
theorem runD_fieldA {n m} : runD P base i ⟨⟨d, (.fieldA n m), args, g⟩, none, un⟩ tk env rows K = evC (.fieldA n m) (args.map (Opd.ev env)) rows d env (K tk) := by
  exact pureD (op := (.fieldA n m)) (vs := args.map (Opd.ev env)) (_root_.id rfl) (_root_.id rfl) (tkOf i [] tk) rfl (A := fun tk' => evC (.fieldA n m) (args.map (Opd.ev env)) rows d env (K tk'))
theorem runD_index  : runD P base i ⟨⟨d, .index, args, g⟩, none, un⟩ tk env rows K = evC .index (args.map (Opd.ev env)) rows d env (K tk) := by
  exact pureD (op := .index) (vs := args.map (Opd.ev env)) (_root_.id rfl) (_root_.id rfl) (tkOf i [] tk) rfl (A := fun tk' => evC .index (args.map (Opd.ev env)) rows d env (K tk'))
theorem runD_sliceS {a b} : runD P base i ⟨⟨d, (.sliceS a b), args, g⟩, none, un⟩ tk env rows K = evC (.sliceS a b) (args.map (Opd.ev env)) rows d env (K tk) := by
  exact pureD (op := (.sliceS a b)) (vs := args.map (Opd.ev env)) (_root_.id rfl) (_root_.id rfl) (tkOf i [] tk) rfl (A := fun tk' => evC (.sliceS a b) (args.map (Opd.ev env)) rows d env (K tk'))
theorem runD_len  : runD P base i ⟨⟨d, .len, args, g⟩, none, un⟩ tk env rows K = evC .len (args.map (Opd.ev env)) rows d env (K tk) := by
  exact pureD (op := .len) (vs := args.map (Opd.ev env)) (_root_.id rfl) (_root_.id rfl) (tkOf i [] tk) rfl (A := fun tk' => evC .len (args.map (Opd.ev env)) rows d env (K tk'))
theorem runD_lenS  : runD P base i ⟨⟨d, .lenS, args, g⟩, none, un⟩ tk env rows K = evC .lenS (args.map (Opd.ev env)) rows d env (K tk) := by
  exact pureD (op := .lenS) (vs := args.map (Opd.ev env)) (_root_.id rfl) (_root_.id rfl) (tkOf i [] tk) rfl (A := fun tk' => evC .lenS (args.map (Opd.ev env)) rows d env (K tk'))
theorem runD_extract {j} : runD P base i ⟨⟨d, (.extract j), args, g⟩, none, un⟩ tk env rows K = evC (.extract j) (args.map (Opd.ev env)) rows d env (K tk) := by
  exact pureD (op := (.extract j)) (vs := args.map (Opd.ev env)) (_root_.id rfl) (_root_.id rfl) (tkOf i [] tk) rfl (A := fun tk' => evC (.extract j) (args.map (Opd.ev env)) rows d env (K tk'))
theorem runD_minmax {m} : runD P base i ⟨⟨d, (.minmax m), args, g⟩, none, un⟩ tk env rows K = evC (.minmax m) (args.map (Opd.ev env)) rows d env (K tk) := by
  exact pureD (op := (.minmax m)) (vs := args.map (Opd.ev env)) (_root_.id rfl) (_root_.id rfl) (tkOf i [] tk) rfl (A := fun tk' => evC (.minmax m) (args.map (Opd.ev env)) rows d env (K tk'))
theorem runD_load1  : runD P base i ⟨⟨d, .load1, args, g⟩, none, un⟩ tk env rows K = (okTk un tk [] (rowH (args.map (Opd.ev env))) ∧ evC .load1 (args.map (Opd.ev env)) rows d env (K (tkOf i (rowH (args.map (Opd.ev env))) tk))) := by
  show (okTk un tk (tW .load1 (args.map (Opd.ev env))) (tR .load1 (args.map (Opd.ev env))) ∧ evC .load1 (args.map (Opd.ev env)) rows d env (K (tkOf i (tR .load1 (args.map (Opd.ev env))) tk))) = _
  have h1 : tW .load1 (args.map (Opd.ev env)) = [] := _root_.id rfl
  have h2 : tR .load1 (args.map (Opd.ev env)) = rowH (args.map (Opd.ev env)) := by cases args <;> exact _root_.id rfl
  rw [h1, h2]
theorem runD_loadA {n} : runD P base i ⟨⟨d, (.loadA n), args, g⟩, none, un⟩ tk env rows K = (okTk un tk [] (rowH (args.map (Opd.ev env))) ∧ evC (.loadA n) (args.map (Opd.ev env)) rows d env (K (tkOf i (rowH (args.map (Opd.ev env))) tk))) := by
  show (okTk un tk (tW (.loadA n) (args.map (Opd.ev env))) (tR (.loadA n) (args.map (Opd.ev env))) ∧ evC (.loadA n) (args.map (Opd.ev env)) rows d env (K (tkOf i (tR (.loadA n) (args.map (Opd.ev env))) tk))) = _
  have h1 : tW (.loadA n) (args.map (Opd.ev env)) = [] := _root_.id rfl
  have h2 : tR (.loadA n) (args.map (Opd.ev env)) = rowH (args.map (Opd.ev env)) := by cases args <;> exact _root_.id rfl
  rw [h1, h2]
theorem runD_indexAddr {n} : runD P base i ⟨⟨d, (.indexAddr n), args, g⟩, none, un⟩ tk env rows K = (okTk un tk [] (rowH (args.map (Opd.ev env))) ∧ evC (.indexAddr n) (args.map (Opd.ev env)) rows d env (K (tkOf i (rowH (args.map (Opd.ev env))) tk))) := by
  show (okTk un tk (tW (.indexAddr n) (args.map (Opd.ev env))) (tR (.indexAddr n) (args.map (Opd.ev env))) ∧ evC (.indexAddr n) (args.map (Opd.ev env)) rows d env (K (tkOf i (tR (.indexAddr n) (args.map (Opd.ev env))) tk))) = _
  have h1 : tW (.indexAddr n) (args.map (Opd.ev env)) = [] := _root_.id rfl
  have h2 : tR (.indexAddr n) (args.map (Opd.ev env)) = rowH (args.map (Opd.ev env)) := by cases args <;> exact _root_.id rfl
  rw [h1, h2]
theorem runD_slice {a b n} : runD P base i ⟨⟨d, (.slice a b n), args, g⟩, none, un⟩ tk env rows K = (okTk un tk [] (rowH (args.map (Opd.ev env))) ∧ evC (.slice a b n) (args.map (Opd.ev env)) rows d env (K (tkOf i (rowH (args.map (Opd.ev env))) tk))) := by
  show (okTk un tk (tW (.slice a b n) (args.map (Opd.ev env))) (tR (.slice a b n) (args.map (Opd.ev env))) ∧ evC (.slice a b n) (args.map (Opd.ev env)) rows d env (K (tkOf i (tR (.slice a b n) (args.map (Opd.ev env))) tk))) = _
  have h1 : tW (.slice a b n) (args.map (Opd.ev env)) = [] := _root_.id rfl
  have h2 : tR (.slice a b n) (args.map (Opd.ev env)) = rowH (args.map (Opd.ev env)) := by cases args <;> exact _root_.id rfl
  rw [h1, h2]
theorem runD_b2s  : runD P base i ⟨⟨d, .b2s, args, g⟩, none, un⟩ tk env rows K = (okTk un tk [] (rowH (args.map (Opd.ev env))) ∧ evC .b2s (args.map (Opd.ev env)) rows d env (K (tkOf i (rowH (args.map (Opd.ev env))) tk))) := by
  show (okTk un tk (tW .b2s (args.map (Opd.ev env))) (tR .b2s (args.map (Opd.ev env))) ∧ evC .b2s (args.map (Opd.ev env)) rows d env (K (tkOf i (tR .b2s (args.map (Opd.ev env))) tk))) = _
  have h1 : tW .b2s (args.map (Opd.ev env)) = [] := _root_.id rfl
  have h2 : tR .b2s (args.map (Opd.ev env)) = rowH (args.map (Opd.ev env)) := by cases args <;> exact _root_.id rfl
  rw [h1, h2]
theorem runD_isnil {sz neg} : runD P base i ⟨⟨d, .isnil sz neg, args, g⟩, none, un⟩ tk env rows K = (okTk un tk [] (rowH (args.map (Opd.ev env))) ∧ evC (.isnil sz neg) (args.map (Opd.ev env)) rows d env (K (tkOf i (rowH (args.map (Opd.ev env))) tk))) := by
  show (okTk un tk (tW (.isnil sz neg) (args.map (Opd.ev env))) (tR (.isnil sz neg) (args.map (Opd.ev env))) ∧ evC (.isnil sz neg) (args.map (Opd.ev env)) rows d env (K (tkOf i (tR (.isnil sz neg) (args.map (Opd.ev env))) tk))) = _
  have h1 : tW (.isnil sz neg) (args.map (Opd.ev env)) = [] := _root_.id rfl
  have h2 : tR (.isnil sz neg) (args.map (Opd.ev env)) = rowH (args.map (Opd.ev env)) := by cases args <;> exact _root_.id rfl
  rw [h1, h2]
theorem runD_indexArr {l sz} : runD P base i ⟨⟨d, .indexArr l sz, args, g⟩, none, un⟩ tk env rows K = evC (.indexArr l sz) (args.map (Opd.ev env)) rows d env (K tk) := by
  exact pureD (op := (.indexArr l sz)) (vs := args.map (Opd.ev env)) (_root_.id rfl) (_root_.id rfl) (tkOf i [] tk) rfl (A := fun tk' => evC (.indexArr l sz) (args.map (Opd.ev env)) rows d env (K tk'))
theorem runD_arr1 {l} : runD P base i ⟨⟨d, .arr1 l, args, g⟩, none, un⟩ tk env rows K = evC (.arr1 l) (args.map (Opd.ev env)) rows d env (K tk) := by
  exact pureD (op := (.arr1 l)) (vs := args.map (Opd.ev env)) (_root_.id rfl) (_root_.id rfl) (tkOf i [] tk) rfl (A := fun tk' => evC (.arr1 l) (args.map (Opd.ev env)) rows d env (K tk'))
theorem runD_arrA {l sz} : runD P base i ⟨⟨d, .arrA l sz, args, g⟩, none, un⟩ tk env rows K = evC (.arrA l sz) (args.map (Opd.ev env)) rows d env (K tk) := by
  exact pureD (op := (.arrA l sz)) (vs := args.map (Opd.ev env)) (_root_.id rfl) (_root_.id rfl) (tkOf i [] tk) rfl (A := fun tk' => evC (.arrA l sz) (args.map (Opd.ev env)) rows d env (K tk'))
theorem runD_mkfn {f} : runD P base i ⟨⟨d, .mkfn f, args, g⟩, none, un⟩ tk env rows K = evC (.mkfn f) (args.map (Opd.ev env)) rows d env (K tk) := by
  exact pureD (op := (.mkfn f)) (vs := args.map (Opd.ev env)) (_root_.id rfl) (_root_.id rfl) (tkOf i [] tk) rfl (A := fun tk' => evC (.mkfn f) (args.map (Opd.ev env)) rows d env (K tk'))
theorem runD_mkmap {ag ks} : runD P base i ⟨⟨d, .mkmap ag ks, args, g⟩, none, un⟩ tk env rows K = evC (.mkmap ag ks) (args.map (Opd.ev env)) rows d env (K tk) := by
  exact pureD (op := (.mkmap ag ks)) (vs := args.map (Opd.ev env)) (_root_.id rfl) (_root_.id rfl) tk rfl (A := fun tk' => evC (.mkmap ag ks) (args.map (Opd.ev env)) rows d env (K tk'))
theorem runD_look {ok ag ks z} : runD P base i ⟨⟨d, .look ok ag ks z, args, g⟩, none, un⟩ tk env rows K = (okTk un tk [] (rowH (args.map (Opd.ev env))) ∧ evC (.look ok ag ks z) (args.map (Opd.ev env)) rows d env (K (tkOf i (rowH (args.map (Opd.ev env))) tk))) := by
  show (okTk un tk (tW (.look ok ag ks z) (args.map (Opd.ev env))) (tR (.look ok ag ks z) (args.map (Opd.ev env))) ∧ evC (.look ok ag ks z) (args.map (Opd.ev env)) rows d env (K (tkOf i (tR (.look ok ag ks z) (args.map (Opd.ev env))) tk))) = _
  have h1 : tW (.look ok ag ks z) (args.map (Opd.ev env)) = [] := _root_.id rfl
  have h2 : tR (.look ok ag ks z) (args.map (Opd.ev env)) = rowH (args.map (Opd.ev env)) := by cases args <;> exact _root_.id rfl
  rw [h1, h2]
theorem runD_lenM  : runD P base i ⟨⟨d, .lenM, args, g⟩, none, un⟩ tk env rows K = (okTk un tk [] (rowH (args.map (Opd.ev env))) ∧ evC .lenM (args.map (Opd.ev env)) rows d env (K (tkOf i (rowH (args.map (Opd.ev env))) tk))) := by
  show (okTk un tk (tW .lenM (args.map (Opd.ev env))) (tR .lenM (args.map (Opd.ev env))) ∧ evC .lenM (args.map (Opd.ev env)) rows d env (K (tkOf i (tR .lenM (args.map (Opd.ev env))) tk))) = _
  have h1 : tW .lenM (args.map (Opd.ev env)) = [] := _root_.id rfl
  have h2 : tR .lenM (args.map (Opd.ev env)) = rowH (args.map (Opd.ev env)) := by cases args <;> exact _root_.id rfl
  rw [h1, h2]
theorem runD_entry  : runD P base i ⟨⟨d, .entry, args, g⟩, none, un⟩ tk env rows K = (okTk un tk [] (rowH (args.map (Opd.ev env))) ∧ evC .entry (args.map (Opd.ev env)) rows d env (K (tkOf i (rowH (args.map (Opd.ev env))) tk))) := by
  show (okTk un tk (tW .entry (args.map (Opd.ev env))) (tR .entry (args.map (Opd.ev env))) ∧ evC .entry (args.map (Opd.ev env)) rows d env (K (tkOf i (tR .entry (args.map (Opd.ev env))) tk))) = _
  have h1 : tW .entry (args.map (Opd.ev env)) = [] := _root_.id rfl
  have h2 : tR .entry (args.map (Opd.ev env)) = rowH (args.map (Opd.ev env)) := by cases args <;> exact _root_.id rfl
  rw [h1, h2]
theorem runD_iter : runD P base i ⟨⟨d, .iter, args, g⟩, none, un⟩ tk env rows K = (okTk un tk [] (rowH (args.map (Opd.ev env))) ∧ evC .iter (args.map (Opd.ev env)) rows d env (K tk)) := by
  show (okTk un tk (tW .iter (args.map (Opd.ev env))) (tR .iter (args.map (Opd.ev env))) ∧ evC .iter (args.map (Opd.ev env)) rows d env (K tk)) = _
  have h1 : tW .iter (args.map (Opd.ev env)) = [] := _root_.id rfl
  have h2 : tR .iter (args.map (Opd.ev env)) = rowH (args.map (Opd.ev env)) := by cases args <;> exact _root_.id rfl
  rw [h1, h2]
theorem runD_mset {ag ks} : runD P base i ⟨⟨d, .mset ag ks, args, g⟩, none, un⟩ tk env rows K = (okTk un tk (rowH (args.map (Opd.ev env))) [] ∧ evC (.mset ag ks) (args.map (Opd.ev env)) rows d env (K tk)) := by
  show (okTk un tk (tW (.mset ag ks) (args.map (Opd.ev env))) (tR (.mset ag ks) (args.map (Opd.ev env))) ∧ evC (.mset ag ks) (args.map (Opd.ev env)) rows d env (K tk)) = _
  have h1 : tW (.mset ag ks) (args.map (Opd.ev env)) = rowH (args.map (Opd.ev env)) := by cases args <;> exact _root_.id rfl
  have h2 : tR (.mset ag ks) (args.map (Opd.ev env)) = [] := _root_.id rfl
  rw [h1, h2]
theorem runD_ment {ag ks z} : runD P base i ⟨⟨d, .ment ag ks z, args, g⟩, none, un⟩ tk env rows K = (okTk un tk (rowH (args.map (Opd.ev env))) [] ∧ evC (.ment ag ks z) (args.map (Opd.ev env)) rows d env (K tk)) := by
  show (okTk un tk (tW (.ment ag ks z) (args.map (Opd.ev env))) (tR (.ment ag ks z) (args.map (Opd.ev env))) ∧ evC (.ment ag ks z) (args.map (Opd.ev env)) rows d env (K tk)) = _
  have h1 : tW (.ment ag ks z) (args.map (Opd.ev env)) = rowH (args.map (Opd.ev env)) := by cases args <;> exact _root_.id rfl
  have h2 : tR (.ment ag ks z) (args.map (Opd.ev env)) = [] := _root_.id rfl
  rw [h1, h2]
theorem runD_estore  : runD P base i ⟨⟨d, .estore, args, g⟩, none, un⟩ tk env rows K = (okTk un tk (rowH (args.map (Opd.ev env))) [] ∧ evC .estore (args.map (Opd.ev env)) rows d env (K tk)) := by
  show (okTk un tk (tW .estore (args.map (Opd.ev env))) (tR .estore (args.map (Opd.ev env))) ∧ evC .estore (args.map (Opd.ev env)) rows d env (K tk)) = _
  have h1 : tW .estore (args.map (Opd.ev env)) = rowH (args.map (Opd.ev env)) := by cases args <;> exact _root_.id rfl
  have h2 : tR .estore (args.map (Opd.ev env)) = [] := _root_.id rfl
  rw [h1, h2]
theorem runD_copy {sz} : runD P base i ⟨⟨d, .copy sz, args, g⟩, none, un⟩ tk env rows K = (okTk un tk (rowH (args.map (Opd.ev env))) (rowT (args.map (Opd.ev env))) ∧ evC (.copy sz) (args.map (Opd.ev env)) rows d env (K tk)) := by
  show (okTk un tk (tW (.copy sz) (args.map (Opd.ev env))) (tR (.copy sz) (args.map (Opd.ev env))) ∧ evC (.copy sz) (args.map (Opd.ev env)) rows d env (K tk)) = _
  have h1 : tW (.copy sz) (args.map (Opd.ev env)) = rowH (args.map (Opd.ev env)) := by cases args <;> exact _root_.id rfl
  have h2 : tR (.copy sz) (args.map (Opd.ev env)) = rowT (args.map (Opd.ev env)) := by
    generalize args.map (Opd.ev env) = vs
    rcases vs with _ | ⟨x, _ | ⟨y, _ | ⟨z, vs⟩⟩⟩ <;> exact _root_.id rfl
  rw [h1, h2]
theorem runD_store {n} : runD P base i ⟨⟨d, .store n, args, g⟩, none, un⟩ tk env rows K = (okTk un tk (rowH (args.map (Opd.ev env))) [] ∧ evC (.store n) (args.map (Opd.ev env)) rows d env (K tk)) := by
  show (okTk un tk (tW (.store n) (args.map (Opd.ev env))) (tR (.store n) (args.map (Opd.ev env))) ∧ evC (.store n) (args.map (Opd.ev env)) rows d env (K tk)) = _
  have h1 : tW (.store n) (args.map (Opd.ev env)) = rowH (args.map (Opd.ev env)) := by cases args <;> exact _root_.id rfl
  have h2 : tR (.store n) (args.map (Opd.ev env)) = [] := _root_.id rfl
  rw [h1, h2]
theorem runD_frz : runD P base i ⟨⟨d, .frz, args, g⟩, none, un⟩ tk env rows K = (okTk un tk (rowH (args.map (Opd.ev env))) [] ∧ evC .frz (args.map (Opd.ev env)) rows d env (K tk)) := by
  show (okTk un tk (tW .frz (args.map (Opd.ev env))) (tR .frz (args.map (Opd.ev env))) ∧ evC .frz (args.map (Opd.ev env)) rows d env (K tk)) = _
  have h1 : tW .frz (args.map (Opd.ev env)) = rowH (args.map (Opd.ev env)) := by cases args <;> exact _root_.id rfl
  have h2 : tR .frz (args.map (Opd.ev env)) = [] := _root_.id rfl
  rw [h1, h2]
theorem runD_append {e sz b} : runD P base i ⟨⟨d, .append e sz b, args, g⟩, none, un⟩ tk env rows K = (okTk un tk (rowH (args.map (Opd.ev env))) (rowT (args.map (Opd.ev env))) ∧ evC (.append e sz b) (args.map (Opd.ev env)) rows d env (K tk)) := by
  show (okTk un tk (tW (.append e sz b) (args.map (Opd.ev env))) (tR (.append e sz b) (args.map (Opd.ev env))) ∧ evC (.append e sz b) (args.map (Opd.ev env)) rows d env (K tk)) = _
  have h1 : tW (.append e sz b) (args.map (Opd.ev env)) = rowH (args.map (Opd.ev env)) := by cases args <;> exact _root_.id rfl
  have h2 : tR (.append e sz b) (args.map (Opd.ev env)) = rowT (args.map (Opd.ev env)) := by
    generalize args.map (Opd.ev env) = vs
    rcases vs with _ | ⟨x, _ | ⟨y, _ | ⟨z, vs⟩⟩⟩ <;> exact _root_.id rfl
  rw [h1, h2]
theorem runD_mkslice {e sz b z} : runD P base i ⟨⟨d, .mkslice e sz b z, args, g⟩, none, un⟩ tk env rows K = evC (.mkslice e sz b z) (args.map (Opd.ev env)) rows d env (K tk) := by
  exact pureD (op := .mkslice e sz b z) (vs := args.map (Opd.ev env)) (_root_.id rfl) (_root_.id rfl) tk rfl (A := fun tk' => evC (.mkslice e sz b z) (args.map (Opd.ev env)) rows d env (K tk'))
theorem runD_alloc {q e z} : runD P base i ⟨⟨d, .alloc e z, [], g⟩, some q, un⟩ tk env rows K =
    (okTk un tk [base + q] [] ∧ rows[base + q]? = some (.live e z.length []) ∧ K ((i, base + q, true) :: tk) (put env d (.ref (base + q) 1 0 0)) (rows.set (base + q) (.live e z.length [z]))) := _root_.id rfl
def boxC (x : AVal) (k : Nat) (e : TypeId) (sz : Nat) (rows : List Row) (dst : Option Nat) (env : Env) (K : Env → List Row → Prop) : Prop :=
  ((acells x).length = sz ∧ (acells x).all one = true) ∧ rows[k]? = some (.live e sz []) ∧ K (put env dst (.ref k 1 0 0)) (rows.set k (.live e sz [acells x]))
theorem runD_box {q e sz} {x : Opd} : runD P base i ⟨⟨d, .box e sz, [x], g⟩, some q, un⟩ tk env rows K =
    (okTk un tk [base + q] [] ∧ boxC (x.ev env) (base + q) e sz rows d env (K ((i, base + q, true) :: tk))) := _root_.id rfl
theorem boxC_eq {x : AVal} {k : Nat} {e : TypeId} {sz : Nat} {K : Env → List Row → Prop} : boxC x k e sz rows d env K =
    (((acells x).length = sz ∧ (acells x).all one = true) ∧ rows[k]? = some (.live e sz []) ∧ K (put env d (.ref k 1 0 0)) (rows.set k (.live e sz [acells x]))) := _root_.id rfl
theorem runD_bslice {q e sz z len idx} : runD P base i ⟨⟨d, .bslice e sz z len idx, args, g⟩, some q, un⟩ tk env rows K =
    (okTk un tk [base + q] [] ∧ bresC (fillE (List.replicate len z) sz idx (args.map (Opd.ev env))) rows[base + q]? (base + q) e sz len (args.map (Opd.ev env)) rows d env (K ((i, base + q, true) :: tk))) := by
  show (okTk un tk [base + q] [] ∧ evR (.bslice e sz z len idx) (args.map (Opd.ev env)) (base + q) rows _) = _
  unfold bresC
  simp only [evR]
  split <;> simp_all
def msliceC (x y : AVal) (row : Option Row) (k e sz b : Nat) (z : List AVal) (rows : List Row) (dst : Option Nat) (env : Env) (K : Env → List Row → Prop) : Prop :=
  match x, y with
  | .int _ l, .int _ c => (0 < l ∧ l ≤ c ∧ c * b ≤ 140737488355328 ∧ c ≤ 140737488355328) ∧ row = some (.live e sz []) ∧ K (put env dst (.own k l.toNat 0 l.toNat)) (rows.set k (.live e sz (List.replicate l.toNat z)))
  | _, _ => False
theorem runD_mkslR {q e sz b z} {x y : Opd} : runD P base i ⟨⟨d, .mkslice e sz b z, [x, y], g⟩, some q, un⟩ tk env rows K =
    (okTk un tk [base + q] [] ∧ msliceC (x.ev env) (y.ev env) rows[base + q]? (base + q) e sz b z rows d env (K ((i, base + q, true) :: tk))) := by
  show (okTk un tk [base + q] [] ∧ evR (.mkslice e sz b z) [x.ev env, y.ev env] (base + q) rows _) = _
  unfold msliceC
  generalize x.ev env = X
  generalize y.ev env = Y
  cases X <;> first | rfl | (cases Y <;> rfl)
theorem msliceC_int {k1 k2 l c row k e sz b z} {K : Env → List Row → Prop} : msliceC (.int k1 l) (.int k2 c) row k e sz b z rows d env K =
    ((0 < l ∧ l ≤ c ∧ c * b ≤ 140737488355328 ∧ c ≤ 140737488355328) ∧ row = some (.live e sz []) ∧ K (put env d (.own k l.toNat 0 l.toNat)) (rows.set k (.live e sz (List.replicate l.toNat z)))) := _root_.id rfl
theorem bresC_some {es row k e sz len vs} {K : Env → List Row → Prop} : bresC (some es) row k e sz len vs rows d env K =
    (((vs.all fun v => (acells v).all one) = true ∧ 0 < len) ∧ row = some (.live e sz []) ∧ K (put env d (.own k len 0 len)) (rows.set k (.live e sz es))) := _root_.id rfl
end

/-- a call by its contract -/
theorem callD_of {P : Program} {f : FuncId} {args : List AVal} {un : List Nat} {tk : Tk} {rows : List Row} {dst : Option Nat} {env : Env} {K : Env → List Row → Prop} (sel vw : List Nat) {srows : List Row} {bargs : List AVal} {Q : AVal → List Row → Prop}
    (ht : okTk un tk sel vw) (hn : sel.Nodup) (hg : getRows rows vw (sel.map some) (sel.map some) = some srows) (hb : bindL rows (sel.map some) vw args = bargs) (hA : AFn P f bargs srows Q)
    (hk : ∀ v rs, Q v rs → (vw = [] ∨ (flat v = true ∧ (rs.all flatRow) = true)) ∧ K (put env dst (renV (back rows.length sel) v)) (mergeR rows sel (rs.map (renRow (back rows.length sel))))) :
    callD P f args un tk rows dst env K :=
  ⟨sel, vw, srows, ht, hn, hg, by rw [hb]; exact hA.mono hk⟩

end Go.Abs
