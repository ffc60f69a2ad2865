/- Laws on representations: lists of values, cells and elements in memory. -/
import Derived.Test.YtjacobmkfkmdiaaAbs1
set_option linter.unusedSimpArgs false
set_option linter.unusedVariables false
set_option linter.unusedSectionVars false
namespace Go.Abs

theorem RepL.length {C : Ctx} : ∀ {as : List AVal} {vs : List Value}, RepL C as vs → vs.length = as.length
  | [], vs, h => by rw [RepL] at h; simp [h]
  | a :: as, vs, h => by
    rw [RepL] at h
    obtain ⟨v, rest, rfl, _, h2⟩ := h
    simp [RepL.length h2]

theorem RepL.get {C : Ctx} : ∀ {as : List AVal} {vs : List Value} (i : Nat), RepL C as vs → i < as.length → ∃ v, vs[i]? = some v ∧ Rep C (as.getD i .junk) v
  | [], _, i, _, hi => by simp at hi
  | a :: as, vs, i, h, hi => by
    rw [RepL] at h
    obtain ⟨v, rest, rfl, h1, h2⟩ := h
    cases i with
    | zero => exact ⟨v, rfl, h1⟩
    | succ i => simpa using RepL.get i h2 (by simpa using hi)

theorem RepL.append {C : Ctx} : ∀ {as bs : List AVal} {vs ws : List Value}, RepL C as vs → RepL C bs ws → RepL C (as ++ bs) (vs ++ ws)
  | [], bs, vs, ws, h, k => by rw [RepL] at h; subst h; exact k
  | a :: as, bs, vs, ws, h, k => by
    rw [RepL] at h
    obtain ⟨v, rest, rfl, h1, h2⟩ := h
    show RepL C (a :: (as ++ bs)) (v :: (rest ++ ws))
    rw [RepL]
    exact ⟨v, _, rfl, h1, RepL.append h2 k⟩

theorem RepL.take {C : Ctx} : ∀ {as : List AVal} {vs : List Value} (n : Nat), RepL C as vs → RepL C (as.take n) (vs.take n)
  | as, vs, 0, _ => by simp [RepL]
  | [], vs, n + 1, h => by rw [RepL] at h; subst h; simp [RepL]
  | a :: as, vs, n + 1, h => by
    rw [RepL] at h
    obtain ⟨v, rest, rfl, h1, h2⟩ := h
    show RepL C (a :: as.take n) (v :: rest.take n)
    rw [RepL]
    exact ⟨v, _, rfl, h1, RepL.take n h2⟩

theorem RepL.drop {C : Ctx} : ∀ {as : List AVal} {vs : List Value} (n : Nat), RepL C as vs → RepL C (as.drop n) (vs.drop n)
  | as, vs, 0, h => by simpa using h
  | [], vs, n + 1, h => by rw [RepL] at h; subst h; simp [RepL]
  | a :: as, vs, n + 1, h => by
    rw [RepL] at h
    obtain ⟨v, rest, rfl, h1, h2⟩ := h
    simpa using RepL.drop n h2

/-- values in memory -/
def CellsAt (w : World) (b o : Nat) (vs : List Value) : Prop := ∀ (j : Nat) (u : Value), vs[j]? = some u → w.cell? ⟨b, o + j, none⟩ = some u

def allOne (vs : List Value) : Prop := ∀ v ∈ vs, v.oneCell' = true

theorem RepC_iff {C : Ctx} {b : Nat} : ∀ {o : Nat} {cells : List AVal}, RepC C b o cells ↔ ∃ vs, RepL C cells vs ∧ CellsAt C.w b o vs ∧ allOne vs
  | o, [] => by
    simp only [RepC, RepL, true_iff]
    exact ⟨[], rfl, fun j u h => by simp at h, fun v h => by simp at h⟩
  | o, c :: cs => by
    rw [RepC, RepC_iff]
    constructor
    · rintro ⟨⟨v, h1, h2, h3⟩, vs, k1, k2, k3⟩
      refine ⟨v :: vs, by rw [RepL]; exact ⟨v, vs, rfl, h3, k1⟩, fun j u hj => ?_, fun u hu => ?_⟩
      · cases j with
        | zero => simp at hj; subst hj; exact h1
        | succ j => have := k2 j u (by simpa using hj); rw [show o + (j + 1) = o + 1 + j from by omega]; exact this
      · rcases List.mem_cons.1 hu with rfl | hu
        · exact h2
        · exact k3 u hu
    · rintro ⟨vs, k1, k2, k3⟩
      rw [RepL] at k1
      obtain ⟨v, rest, rfl, h1, h2⟩ := k1
      refine ⟨⟨v, by simpa using k2 0 v rfl, k3 v (by simp), h1⟩, rest, h2, fun j u hj => ?_, fun u hu => k3 u (by simp [hu])⟩
      have := k2 (j + 1) u (by simpa using hj)
      rw [show o + 1 + j = o + (j + 1) from by omega]; exact this

theorem RepC.drop {C : Ctx} {b o : Nat} {cells : List AVal} (n : Nat) (h : RepC C b o cells) : RepC C b (o + n) (cells.drop n) := by
  obtain ⟨vs, h1, h2, h3⟩ := RepC_iff.1 h
  refine RepC_iff.2 ⟨vs.drop n, h1.drop n, fun j u hj => ?_, fun u hu => h3 u (List.mem_of_mem_drop hu)⟩
  rw [List.getElem?_drop] at hj
  rw [Nat.add_assoc]
  exact h2 _ _ hj

theorem RepC.take {C : Ctx} {b o : Nat} {cells : List AVal} (n : Nat) (h : RepC C b o cells) : RepC C b o (cells.take n) := by
  obtain ⟨vs, h1, h2, h3⟩ := RepC_iff.1 h
  refine RepC_iff.2 ⟨vs.take n, h1.take n, fun j u hj => ?_, fun u hu => h3 u (List.mem_of_mem_take hu)⟩
  rw [List.getElem?_take] at hj
  split at hj
  · exact h2 _ _ hj
  · cases hj

theorem RepC.append {C : Ctx} {b o : Nat} {xs ys : List AVal} (h : RepC C b o xs) (k : RepC C b (o + xs.length) ys) : RepC C b o (xs ++ ys) := by
  obtain ⟨vs, h1, h2, h3⟩ := RepC_iff.1 h
  obtain ⟨ws, k1, k2, k3⟩ := RepC_iff.1 k
  refine RepC_iff.2 ⟨vs ++ ws, h1.append k1, fun j u hj => ?_, fun u hu => ?_⟩
  · rw [List.getElem?_append] at hj
    split at hj
    · exact h2 _ _ hj
    · have := k2 _ _ hj
      rw [h1.length] at this
      rename_i hlt
      rw [h1.length] at hlt
      rw [show o + j = o + xs.length + (j - xs.length) from by omega]
      exact this
  · rcases List.mem_append.1 hu with hu | hu
    · exact h3 u hu
    · exact k3 u hu

theorem RepE_iff {C : Ctx} {b sz : Nat} : ∀ {o : Nat} {es : List (List AVal)}, RepE C b o sz es ↔ (∀ e ∈ es, e.length = sz) ∧ RepC C b o es.flatten
  | o, [] => by simp [RepE, RepC]
  | o, e :: es => by
    rw [RepE, RepE_iff]
    constructor
    · rintro ⟨h1, h2, h3, h4⟩
      refine ⟨fun x hx => ?_, ?_⟩
      · rcases List.mem_cons.1 hx with rfl | hx
        · exact h1
        · exact h3 x hx
      · rw [List.flatten_cons]; exact h2.append (by rw [h1]; exact h4)
    · rintro ⟨h1, h2⟩
      have he := h1 e (by simp)
      rw [List.flatten_cons] at h2
      refine ⟨he, ?_, fun x hx => h1 x (by simp [hx]), ?_⟩
      · simpa using h2.take e.length
      · simpa [he] using h2.drop e.length

theorem RepE.get {C : Ctx} {b sz : Nat} : ∀ {o : Nat} {es : List (List AVal)} (i : Nat), RepE C b o sz es → i < es.length → (es.getD i []).length = sz ∧ RepC C b (o + i * sz) (es.getD i [])
  | o, [], i, _, hi => by simp at hi
  | o, e :: es, i, h, hi => by
    rw [RepE] at h
    cases i with
    | zero => exact ⟨h.1, by simpa using h.2.1⟩
    | succ i =>
      have := RepE.get i h.2.2 (by simpa using hi)
      refine ⟨by simpa using this.1, ?_⟩
      rw [show o + (i + 1) * sz = o + sz + i * sz from by rw [Nat.add_mul]; omega]
      simpa using this.2

theorem RepE.drop {C : Ctx} {b sz : Nat} : ∀ {o : Nat} {es : List (List AVal)} (n : Nat), RepE C b o sz es → RepE C b (o + n * sz) sz (es.drop n)
  | o, es, 0, h => by simpa using h
  | o, [], n + 1, h => by simp [RepE]
  | o, e :: es, n + 1, h => by
    rw [RepE] at h
    have := RepE.drop n h.2.2
    rw [show o + (n + 1) * sz = o + sz + n * sz from by rw [Nat.add_mul]; omega]
    simpa using this

theorem RepE.take {C : Ctx} {b sz : Nat} : ∀ {o : Nat} {es : List (List AVal)} (n : Nat), RepE C b o sz es → RepE C b o sz (es.take n)
  | o, es, 0, h => by simp [RepE]
  | o, [], n + 1, h => by simp [RepE]
  | o, e :: es, n + 1, h => by
    rw [RepE] at h
    show RepE C b o sz (e :: es.take n)
    rw [RepE]
    exact ⟨h.1, h.2.1, RepE.take n h.2.2⟩

/-- cells that lie where they lay -/
theorem RepC.move {C C' : Ctx} {b o : Nat} {cells : List AVal} (h : Ext C C') (hw : ∀ j, j < cells.length → C'.w.cell? ⟨b, o + j, none⟩ = C.w.cell? ⟨b, o + j, none⟩) (r : RepC C b o cells) : RepC C' b o cells := by
  obtain ⟨vs, h1, h2, h3⟩ := RepC_iff.1 r
  refine RepC_iff.2 ⟨vs, RepL.ext h _ _ h1, fun j u hj => ?_, h3⟩
  have hl : j < cells.length := by
    rw [← h1.length]
    rcases Nat.lt_or_ge j vs.length with h | h
    · exact h
    · rw [List.getElem?_eq_none h] at hj; cases hj
  rw [hw j hl]
  exact h2 j u hj

theorem RepE.move {C C' : Ctx} {b o sz : Nat} {es : List (List AVal)} (h : Ext C C') (hw : C'.w.heap[b]? = C.w.heap[b]?) (r : RepE C b o sz es) : RepE C' b o sz es := by
  obtain ⟨h1, h2⟩ := RepE_iff.1 r
  exact RepE_iff.2 ⟨h1, h2.move h fun j _ => World.cell?_of_block (w := C.w) hw⟩

theorem flatten_length {sz : Nat} : ∀ {es : List (List AVal)}, (∀ e ∈ es, e.length = sz) → es.flatten.length = es.length * sz
  | [], _ => by simp
  | e :: es, h => by
    simp only [List.flatten_cons, List.length_append, List.length_cons]
    rw [flatten_length fun x hx => h x (by simp [hx]), h e (by simp), Nat.add_mul]
    omega

/-- the cells of a value -/
def acells : AVal → List AVal
  | .agg cs => cs
  | v => [v]

/-- a value of one cell -/
def one : AVal → Bool
  | .agg _ | .tup _ | .junk => false
  | _ => true

theorem one_rep {C : Ctx} {a : AVal} {v : Value} (h : Rep C a v) (h1 : one a = true) : v.oneCell' = true := by
  cases a <;> simp [one] at h1 <;> simp only [Rep] at h
  case int => subst h; rfl
  case bool => subst h; rfl
  case str => subst h; rfl
  case nils => obtain ⟨ao, rfl⟩ := h; rfl
  case nilp => subst h; rfl
  case pure => obtain ⟨ao, cap, rfl, _⟩ := h; rfl
  case pref => obtain ⟨b, o, rfl, _⟩ := h; rfl
  case own => obtain ⟨_, ⟨ao, c, rfl⟩, _⟩ := h; rfl
  case ref => obtain ⟨_, ⟨ao, rfl⟩, _⟩ := h; rfl

theorem ones_rep {C : Ctx} : ∀ {as : List AVal} {vs : List Value}, RepL C as vs → as.all one = true → allOne vs
  | [], vs, h, _ => by rw [RepL] at h; subst h; intro v hv; simp at hv
  | a :: as, vs, h, h1 => by
    rw [RepL] at h
    obtain ⟨v, rest, rfl, k1, k2⟩ := h
    simp only [List.all_cons, Bool.and_eq_true] at h1
    intro u hu
    rcases List.mem_cons.1 hu with rfl | hu
    · exact one_rep k1 h1.1
    · exact ones_rep k2 h1.2 u hu

/-- the cells of a value, abstract and in the model -/
theorem cells_rep {C : Ctx} {a : AVal} {v : Value} (h : Rep C a v) (h1 : (acells a).all one = true) : RepL C (acells a) v.cells.toList ∧ allOne v.cells.toList := by
  have key : ∀ (v : Value), v.oneCell' = true → v.cells.toList = [v] := by
    intro v hv
    cases v <;> first | rfl | simp [Value.oneCell'] at hv
  by_cases ha : ∃ cs, a = .agg cs
  · obtain ⟨cs, rfl⟩ := ha
    rw [Rep] at h
    obtain ⟨vs, rfl, hr⟩ := h
    exact ⟨hr, ones_rep hr h1⟩
  · have hc : acells a = [a] := by
      cases a <;> first | rfl | (exfalso; exact ha ⟨_, rfl⟩)
    rw [hc] at h1 ⊢
    have h2 : one a = true := by simpa using h1
    have h3 := one_rep h h2
    rw [key v h3]
    refine ⟨?_, fun u hu => by simp at hu; subst hu; exact h3⟩
    rw [RepL]
    exact ⟨v, [], rfl, h, by rw [RepL]⟩

end Go.Abs
