/- The model's operations as abstract ones. -/
import Derived.Test.YtjacobmkfkmdiaaAbs5
set_option linter.unusedSimpArgs false
set_option linter.unusedVariables false
set_option linter.unusedSectionVars false
namespace Go.Abs

/-- a constant -/
def absV : Value → Option AVal
  | .int k n => some (.int k n)
  | .bool b => some (.bool b)
  | .string s => some (.str s)
  | .slice none 0 0 => some .nils
  | .pointer none => some .nilp
  | _ => none

theorem absV_rep {C : Ctx} {v : Value} {a : AVal} (h : absV v = some a) : Rep C a v ∧ one a = true := by
  unfold absV at h
  split at h <;> simp at h <;> subst h <;> simp [Rep, one]

def absVs : List Value → Option (List AVal)
  | [] => some []
  | v :: vs =>
    match absV v, absVs vs with
    | some a, some as => some (a :: as)
    | _, _ => none

theorem absVs_rep {C : Ctx} : ∀ {vs : List Value} {as : List AVal}, absVs vs = some as → RepL C as vs ∧ as.all one = true
  | [], as, h => by simp [absVs] at h; subst h; simp [RepL]
  | v :: vs, as, h => by
    simp only [absVs] at h
    split at h
    · rename_i a bs ha hb
      simp at h; subst h
      obtain ⟨h1, h2⟩ := absV_rep (C := C) ha
      obtain ⟨k1, k2⟩ := absVs_rep (C := C) hb
      refine ⟨?_, by simp only [List.all_cons, h2, k2, Bool.and_self]⟩
      rw [RepL]
      exact ⟨v, vs, rfl, h1, k1⟩
    · cases h

/-- the cells of a type's zero value -/
def zeroOf (P : Program) (t : TypeId) : Option (List AVal) :=
  match P.info? t with
  | some i =>
    match i.zero with
    | some z =>
      match absVs z.cells.toList with
      | some cs => if cs.length = i.size ∧ 0 < i.size then some cs else none
      | none => none
    | none => none
  | none => none

theorem zeroOf_spec {P : Program} {t : TypeId} {cs : List AVal} (h : zeroOf P t = some cs) :
    ∃ i z, P.info? t = some i ∧ i.zero = some z ∧ absVs z.cells.toList = some cs ∧ cs.length = i.size ∧ 0 < i.size ∧ z.cells.size = i.size := by
  unfold zeroOf at h
  split at h
  · rename_i i hi
    split at h
    · rename_i z hz
      split at h
      · rename_i cs' hc
        split at h
        · rename_i hl
          simp at h; subst h
          have := (absVs_rep (C := ⟨[], [], fun _ => False, default, false⟩) hc).1.length
          simp only [Array.length_toList] at this
          exact ⟨i, z, hi, hz, hc, hl.1, hl.2, by omega⟩
        · cases h
      · cases h
    · cases h
  · cases h

def isAggT (P : Program) (t : TypeId) : Option Bool :=
  match P.underlying t with
  | some (.struct _) | some (.array _ _) => some true
  | some _ => some false
  | none => none

def sizeT (P : Program) (t : TypeId) : Option Nat := (P.info? t).map (·.size)

/-- the kinds of the cells of a struct of integers, bools and strings, or of such structs -/
def flatFs (P : Program) (sub : TypeId → Option (List CK)) : List Field → Nat → Option (List CK)
  | [], _ => some []
  | f :: fs, off =>
    if f.name ≠ "_" ∧ f.offset = off then
      match sub f.type with
      | some ks =>
        if sizeT P f.type = some ks.length then
          match flatFs P sub fs (off + ks.length) with
          | some rest => some (ks ++ rest)
          | none => none
        else none
      | none => none
    else none

def flatK (P : Program) : Nat → TypeId → Option (List CK)
  | 0, _ => none
  | d + 1, t =>
    match P.underlying t with
    | some (.int k) => some [.int k]
    | some .bool => some [.bool]
    | some .string => some [.str]
    | some (.struct fs) => if P.stoodInHeld t then none else flatFs P (flatK P d) fs.toList 0
    | _ => none

def compileOp (P : Program) (o : Oper) : Option (AOp × List Operand) :=
  match o.op with
  | .move x | .assign x => some (.mv, [x])
  | .pick c a b => some (.pick, [c, a, b])
  | .alloc t =>
    match zeroOf P t with
    | some z => some (.alloc t z, [])
    | none => none
  | .box t x =>
    match sizeT P t with
    | some n => some (.box t n, [x])
    | none => none
  | .build t parts =>
    match zeroOf P t, P.underlying t with
    | some z, some (.struct fields) =>
      match fields.toList.mapM (fun f => (sizeT P f.type).map fun n => (f.offset, n)) with
      | some places =>
        if (parts.toList.map (·.1)).all (fun i => (places[i]?).isSome) then some (.build z ((parts.toList.map (·.1)).filterMap (places[·]?)), parts.toList.map (·.2)) else none
      | none => none
    | _, _ => none
  | .buildSlice t len parts =>
    match P.underlying t with
    | some (.slice e) =>
      match zeroOf P e with
      | some z => if len = 0 ∧ parts.size = 0 then some (.nilsl, []) else if len * z.length ≤ 16777216 then some (.bslice e z.length z len (parts.toList.map (·.1)), parts.toList.map (·.2)) else none
      | none => none
    | _ => none
  | .makeSlice t l c =>
    match P.underlying t with
    | some (.slice e) =>
      match zeroOf P e, (P.info? e).map (·.bytes) with
      | some z, some by_ => if by_ = 0 then none else some (.mkslice e z.length by_ z, [l, c])
      | _, _ => none
    | _ => none
  | .load t x =>
    match isAggT P t, sizeT P t with
    | some true, some n => some (.loadA n, [x])
    | some false, _ => some (.load1, [x])
    | _, _ => none
  | .store t x y =>
    match sizeT P t with
    | some n => some (.store n, [x, y])
    | none => none
  | .nilCheck x => some (.nilchk, [x])
  | .binOp op t x y _ =>
    match P.underlying t with
    | some (.int _) | some .string => some (.bin op, [x, y])
    | some .bool =>
      match op with
      | .eql => some (.eqB false, [x, y])
      | .neq => some (.eqB true, [x, y])
      | _ => none
    | some (.struct _) =>
      match flatK P 20 t with
      | some ks =>
        if P.eqGuardType P.depth t then none else
        match op with
        | .eql => some (.eqA false ks, [x, y])
        | .neq => some (.eqA true ks, [x, y])
        | _ => none
      | none => none
    | _ => none
  | .unOp .not _ x => some (.not, [x])
  | .unOp .neg _ x => some (.neg, [x])
  | .convert s d x =>
    match P.underlying s, P.underlying d with
    | some (.int _), some (.int k) => some (.conv k, [x])
    | some (.slice e), some .string =>
      match P.underlying e with
      | some (.int .u8) => some (.b2s, [x])
      | _ => none
    | some (.slice e), some (.slice _) =>
      if s = d then
        match P.underlying e with
        | some (.int .u8) => some (.frz, [x])
        | _ => none
      else none
    | _, _ => none
  | .fieldAddr s x f =>
    match P.underlying s with
    | some (.struct fields) =>
      match fields[f]? with
      | some fd =>
        match sizeT P fd.type with
        | some n => if n = 0 then none else some (.fieldAddr fd.offset, [x])
        | none => none
      | none => none
    | _ => none
  | .field s x f =>
    match P.underlying s with
    | some (.struct fields) =>
      match fields[f]? with
      | some fd =>
        match isAggT P fd.type, sizeT P fd.type with
        | some true, some n => some (.fieldA fd.offset n, [x])
        | some false, _ => some (.field1 fd.offset, [x])
        | _, _ => none
      | none => none
    | _ => none
  | .indexAddr t x i =>
    match P.underlying t with
    | some (.slice e) =>
      match sizeT P e with
      | some n => some (.indexAddr n, [x, i])
      | none => none
    | _ => none
  | .index t x i =>
    match P.underlying t with
    | some .string => some (.index, [x, i])
    | _ => none
  | .slice t x lo hi none =>
    match P.underlying t with
    | some (.slice e) =>
      match sizeT P e with
      | some n => some (.slice lo.isSome hi.isSome n, x :: (lo.toList ++ hi.toList))
      | none => none
    | some .string => some (.sliceS lo.isSome hi.isSome, x :: (lo.toList ++ hi.toList))
    | _ => none
  | .extract x i => some (.extract i, [x])
  | .call { callee := .builtin .len, args := ⟨[x]⟩, argTypes := ⟨[t]⟩ } =>
    match P.underlying t with
    | some (.slice _) => some (.len, [x])
    | some .string => some (.lenS, [x])
    | _ => none
  | .call { callee := .builtin .append, args := ⟨[x, y]⟩, argTypes := ⟨[t, u]⟩ } =>
    if t = u then
      match P.underlying t with
      | some (.slice e) =>
        match zeroOf P e, (P.info? e).map (·.bytes) with
        | some z, some by_ => if by_ = 0 then none else some (.append e z.length by_, [x, y])
        | _, _ => none
      | _ => none
    else none
  | .call { callee := .builtin .min, args := ⟨[x, y]⟩, argTypes := _ } => some (.minmax false, [x, y])
  | .call { callee := .builtin .max, args := ⟨[x, y]⟩, argTypes := _ } => some (.minmax true, [x, y])
  | .call { callee := .value (.func f), args := args, argTypes := _ } =>
    match P.funcs[f]? with
    | some fn => if fn.body.isSome && fn.name != "runtime.NumGoroutine" then some (.call f, args.toList) else none
    | none => none
  | _ => none

end Go.Abs
