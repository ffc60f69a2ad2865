/- Effective stamps: what counts, and their order. -/
import Derived.Test.YtodbafiepdcfbaaA5Mer
set_option linter.unusedSimpArgs false
set_option linter.unusedVariables false
set_option linter.unusedSectionVars false
namespace Go.Proofs.Ytodbafiepdcfbaa
open Go Go.Abs
set_option linter.unusedSimpArgs false
set_option linter.unusedVariables false

def Ev.key (e : Ev) : Ky := ⟨e.kt, e.ks⟩
def Ev.tg (e : Ev) : Ky := ⟨e.tt, e.ts⟩
def Stamp.key (s : Stamp) : Ky := ⟨s.kt, s.ks⟩
theorem getLast?_take {α : Type} {l : List α} {i : Nat} (h0 : 0 < i) (h : i ≤ l.length) : (l.take i).getLast? = some (l[i - 1]'(by omega)) := by
  rw [List.getLast?_eq_getElem?, List.length_take, show min i l.length - 1 = i - 1 from by omega, List.getElem?_take, if_pos (by omega), List.getElem?_eq_getElem (by omega)]

def fkS (acc : List Ev × Option Ky) (e : Ev) : List Ev × Option Ky := (if acc.2 = some e.key then acc.1 else acc.1 ++ [e], some e.key)
/-- the first event of each key -/
def fk (U : List Ev) : List Ev := (U.foldl fkS ([], none)).1
theorem fk_prev (U : List Ev) : (U.foldl fkS ([], none)).2 = U.getLast?.map Ev.key := by
  induction U using snoc_ind with
  | h0 => rfl
  | h1 l x ih => simp [fkS]
theorem fk_snoc (U : List Ev) (e : Ev) : fk (U ++ [e]) = if U.getLast?.map Ev.key = some e.key then fk U else fk U ++ [e] := by
  unfold fk
  rw [List.foldl_append, List.foldl_cons, List.foldl_nil]
  show (if (U.foldl fkS ([], none)).2 = some e.key then _ else _) = _
  rw [fk_prev]
theorem fk_take0 {U : List Ev} (h : 0 < U.length) : fk (U.take 1) = [U[0]] := by
  cases U with
  | nil => simp at h
  | cons x xs => simp [fk, fkS]
theorem fk_take {U : List Ev} {i : Nat} (h0 : 0 < i) (h : i < U.length) : fk (U.take (i + 1)) = if U[i].key = (U[i - 1]'(by omega)).key then fk (U.take i) else fk (U.take i) ++ [U[i]] := by
  rw [List.take_succ_eq_append_getElem h, fk_snoc, getLast?_take h0 (by omega)]
  by_cases h2 : U[i].key = (U[i - 1]'(by omega)).key
  · rw [if_pos h2, if_pos (by simp [h2])]
  · rw [if_neg h2, if_neg (fun h3 => h2 (by simpa using h3.symm))]
theorem mem_fk {U : List Ev} {e : Ev} (h : e ∈ fk U) : e ∈ U := by
  induction U using snoc_ind with
  | h0 => simp [fk] at h
  | h1 l x ih =>
    rw [fk_snoc] at h
    split at h
    · exact List.mem_append_left _ (ih h)
    · rcases List.mem_append.1 h with h | h
      · exact List.mem_append_left _ (ih h)
      · exact List.mem_append_right _ h
theorem kLt_of {a b : Ev} (h : eLt a b) (hk : a.key ≠ b.key) : kLt a.key b.key := by
  have : ¬ (a.kt = b.kt ∧ a.ks = b.ks) := fun h => hk (Ky.ext' h.1 h.2)
  unfold eLt at h
  unfold kLt Ev.key
  simp only
  omega
theorem eLt_key {a b : Ev} (h : eLt a b) : ¬ kLt b.key a.key := by
  unfold eLt at h
  unfold kLt Ev.key
  simp only
  omega
theorem kLt_le {a b c : Ky} (h1 : ¬ kLt b a) (h2 : kLt b c) : kLt a c := by unfold kLt at *; omega
theorem fk_asc {U : List Ev} (h : strictE U) : (fk U).Pairwise fun a b => kLt a.key b.key := by
  induction U using snoc_ind with
  | h0 => simp [fk]
  | h1 l x ih =>
    unfold strictE at *
    rw [List.pairwise_append] at h
    rw [fk_snoc]
    split
    · exact ih h.1
    · next hne =>
      rw [List.pairwise_append]
      refine ⟨ih h.1, by simp, fun a ha b hb => ?_⟩
      rw [List.mem_singleton] at hb; subst hb
      have ha' := mem_fk ha
      cases hl : l.getLast? with
      | none => rw [List.getLast?_eq_none_iff] at hl; subst hl; simp at ha'
      | some z =>
        rw [hl] at hne
        have hzk : z.key ≠ b.key := fun e => hne (by simp [e])
        have hzm := List.mem_of_getLast? hl
        have hzb := kLt_of (h.2.2 z hzm b (by simp)) hzk
        obtain ⟨ys, rfl⟩ := List.getLast?_eq_some_iff.1 hl
        rcases List.mem_append.1 ha' with ha2 | ha2
        · have := (List.pairwise_append.1 h.1).2.2 a ha2 z (by simp)
          exact kLt_le (eLt_key this) hzb
        · rw [List.mem_singleton] at ha2; subst ha2; exact hzb

def kaS (acc : List Ky × Option Ky) (e : Ev) : List Ky × Option Ky := (if acc.2 = some e.key then acc.1 ++ [e.key] else acc.1, some e.key)
/-- the keys that come again -/
def kadj (U : List Ev) : List Ky := (U.foldl kaS ([], none)).1
theorem ka_prev (U : List Ev) : (U.foldl kaS ([], none)).2 = U.getLast?.map Ev.key := by
  induction U using snoc_ind with
  | h0 => rfl
  | h1 l x ih => simp [kaS]
theorem kadj_take0 (U : List Ev) : kadj (U.take 1) = [] := by
  cases U with
  | nil => rfl
  | cons x xs => simp [kadj, kaS]
theorem kadj_take {U : List Ev} {i : Nat} (h0 : 0 < i) (h : i < U.length) : kadj (U.take (i + 1)) = if U[i].key = (U[i - 1]'(by omega)).key then kadj (U.take i) ++ [U[i].key] else kadj (U.take i) := by
  rw [List.take_succ_eq_append_getElem h]
  unfold kadj
  rw [List.foldl_append, List.foldl_cons, List.foldl_nil]
  show (if ((U.take i).foldl kaS ([], none)).2 = some U[i].key then _ else _) = _
  rw [ka_prev, getLast?_take h0 (by omega)]
  by_cases h2 : U[i].key = (U[i - 1]'(by omega)).key
  · rw [if_pos h2, if_pos (by simp [h2])]
  · rw [if_neg h2, if_neg (fun h3 => h2 (by simpa using h3.symm))]
theorem kadj_len (U : List Ev) : (kadj U).length ≤ U.length := by
  induction U using snoc_ind with
  | h0 => simp [kadj]
  | h1 l x ih =>
    unfold kadj at *
    rw [List.foldl_append, List.foldl_cons, List.foldl_nil]
    show (if _ then _ else _ : List Ky).length ≤ _
    split <;> simp <;> omega

/-- the counting events of an employee -/
def forE (n : Int) (l : List Ev) : List Ev := l.filter fun e => decide (e.emp = n)
theorem forE_snoc (n : Int) (l : List Ev) (e : Ev) : forE n (l ++ [e]) = if e.emp = n then forE n l ++ [e] else forE n l := by
  unfold forE
  rw [List.filter_append]
  by_cases h : e.emp = n <;> simp [h]
def canc (F : List Ev) (k : Ky) : Bool := F.any fun y => decide (y.kind = 5 ∧ y.tg = k)
def corr (F : List Ev) (k : Ky) : Option Int := F.foldl (fun acc y => if y.kind = 6 ∧ y.tg = k then some y.time else acc) none
theorem canc_snoc (F : List Ev) (y : Ev) (k : Ky) : canc (F ++ [y]) k = (canc F k || decide (y.kind = 5 ∧ y.tg = k)) := by simp [canc]
theorem corr_snoc (F : List Ev) (y : Ev) (k : Ky) : corr (F ++ [y]) k = if y.kind = 6 ∧ y.tg = k then some y.time else corr F k := by simp [corr]
def stOf (F : List Ev) (e : Ev) : Option Stamp := if e.kind = 5 ∨ e.kind = 6 ∨ canc F e.key = true then none else some ⟨(corr F e.key).getD e.time, e.kind, e.kt, e.ks⟩
def stamps (F : List Ev) : List Stamp := F.filterMap (stOf F)
def effF (l : List Ev) (n : Int) : List Ev := forE n (fk (uni l))
theorem effF_asc (l : List Ev) (n : Int) : (effF l n).Pairwise fun a b => kLt a.key b.key := (fk_asc (strict_uni l)).filter _
theorem stOf_key {F : List Ev} {e : Ev} {s : Stamp} (h : stOf F e = some s) : s.key = e.key ∧ s.kind = e.kind := by
  unfold stOf at h
  split at h
  · simp at h
  · simp only [Option.some.injEq] at h; subst h; exact ⟨rfl, rfl⟩
theorem kLt_irrefl (a : Ky) : ¬ kLt a a := by unfold kLt; omega
theorem stamps_asc {F G : List Ev} (h : F.Pairwise fun a b => kLt a.key b.key) : (F.filterMap (stOf G)).Pairwise fun a b => kLt a.key b.key := by
  rw [List.pairwise_filterMap]
  refine h.imp fun {a b} hab x hx y hy => ?_
  rw [(stOf_key hx).1, (stOf_key hy).1]
  exact hab
theorem sLt_asymm {a b : Stamp} : sLt a b → ¬ sLt b a := by unfold sLt; omega
theorem sLt_tot {a b : Stamp} (h : ¬ sLt b a) (hk : a.key ≠ b.key) : sLt a b := by
  have : ¬ (a.kt = b.kt ∧ a.ks = b.ks) := fun h => hk (Ky.ext' h.1 h.2)
  unfold sLt at *
  omega
theorem sorted_unique {a b : List Stamp} (hp : a.Perm b) (ha : a.Pairwise sLt) (hb : b.Pairwise sLt) : a = b :=
  hp.eq_of_pairwise (fun x y _ _ h1 h2 => (sLt_asymm h1 h2).elim) ha hb
theorem sorted_of {a b : List Stamp} (hp : a.Perm b) (ha : a.Pairwise fun x y => ¬ sLt y x) (hb : b.Pairwise fun x y => kLt x.key y.key) : a.Pairwise sLt := by
  have hn : b.Pairwise fun x y => x.key ≠ y.key := List.Pairwise.imp (S := fun x y : Stamp => x.key ≠ y.key) (fun {x y} h (e : x.key = y.key) => kLt_irrefl y.key (by rw [e] at h; exact h)) hb
  have hn2 : a.Pairwise fun x y => x.key ≠ y.key := (hp.pairwise_iff (fun {x y} h e => h e.symm)).2 hn
  exact (ha.and hn2).imp fun {x y} h => sLt_tot h.1 h.2
theorem canc_for (n : Int) (l : List Ev) (k : Ky) : canc (forE n l) k = l.any fun y => decide (y.emp = n ∧ y.kind = 5 ∧ y.tg = k) := by
  induction l using snoc_ind with
  | h0 => rfl
  | h1 l x ih =>
    rw [forE_snoc, List.any_append]
    by_cases h : x.emp = n
    · rw [if_pos h, canc_snoc, ih]; simp [h]
    · rw [if_neg h, ih]; simp [h]
theorem stamps_ins {S : List Stamp} {s : Stamp} {k : Nat} (hS : S.Pairwise sLt) (hk : k ≤ S.length) (hkey : ∀ x ∈ S, kLt x.key s.key) (h1 : ∀ q (h : q < S.length), k ≤ q → s.time < S[q].time) (h2 : ∀ (h : 0 < k), (S[k - 1]'(by omega)).time ≤ s.time) : (S.take k ++ s :: S.drop k).Pairwise sLt := by
  have hS' := List.pairwise_append.1 (by rw [← List.take_append_drop k S] at hS; exact hS)
  have a1 : ∀ x ∈ S.take k, sLt x s := by
    intro x hx
    have hkx := hkey x (List.mem_of_mem_take hx)
    obtain ⟨i, hi, rfl⟩ := List.mem_iff_getElem.1 hx
    rw [List.length_take] at hi
    rw [List.getElem_take] at hkx ⊢
    have hle : (S[i]'(by omega)).time ≤ s.time := by
      by_cases hik : i = k - 1
      · subst hik; exact h2 (by omega)
      · have := List.pairwise_iff_getElem.1 hS i (k - 1) (by omega) (by omega) (by omega)
        have := h2 (by omega)
        unfold sLt at *
        omega
    unfold sLt kLt Stamp.key at *
    simp only at *
    omega
  have a2 : ∀ x ∈ S.drop k, sLt s x := by
    intro x hx
    obtain ⟨i, hi, rfl⟩ := List.mem_iff_getElem.1 hx
    rw [List.length_drop] at hi
    rw [List.getElem_drop]
    exact .inl (h1 _ _ (by omega))
  rw [List.pairwise_append, List.pairwise_cons]
  refine ⟨hS'.1, ⟨a2, hS'.2.1⟩, fun x hx y hy => ?_⟩
  rcases List.mem_cons.1 hy with rfl | hy
  · exact a1 x hx
  · exact hS'.2.2 x hx y hy
/-- a map whose keys are keys of events -/
def mapK {β : Type} (f : β → AVal) (l : List (Ky × β)) : List (AVal × AVal) := l.map fun p => (.agg [.int .i64 p.1.t, .int .i64 p.1.s], f p.2)
def lookK {β : Type} (l : List (Ky × β)) (k : Ky) : Option β := (l.find? fun p => decide (k = p.1)).map (·.2)
def putK {β : Type} (k : Ky) (v : β) : List (Ky × β) → List (Ky × β)
  | [] => [(k, v)]
  | p :: ps => if k = p.1 then (k, v) :: ps else p :: putK k v ps
theorem isKey_ky (a b : Ky) : isKey (.agg [.int .i64 a.t, .int .i64 a.s]) (.agg [.int .i64 b.t, .int .i64 b.s]) = decide (a = b) := eqc_ky a b
theorem kfind_mapK {β : Type} {f : β → AVal} {k : Ky} : ∀ {l : List (Ky × β)}, kfind (.agg [.int .i64 k.t, .int .i64 k.s]) (mapK f l) = (lookK l k).map f
  | [] => rfl
  | p :: l => by
    have ih := kfind_mapK (f := f) (k := k) (l := l)
    unfold mapK lookK at *
    rw [List.map_cons, kfind, List.find?_cons, isKey_ky]
    by_cases h : k = p.1
    · simp [h]
    · simp [h]; simpa using ih
theorem kput_mapK {β : Type} {f : β → AVal} {k : Ky} {v : β} : ∀ {l : List (Ky × β)}, kput (.agg [.int .i64 k.t, .int .i64 k.s]) (f v) (mapK f l) = mapK f (putK k v l)
  | [] => rfl
  | p :: l => by
    have ih := kput_mapK (f := f) (k := k) (v := v) (l := l)
    unfold mapK at *
    rw [List.map_cons, kput, isKey_ky, putK]
    by_cases h : k = p.1
    · simp [h]
    · simp [h]; exact ih
theorem lookK_put {β : Type} {k k' : Ky} {v : β} : ∀ {l : List (Ky × β)}, lookK (putK k v l) k' = if k' = k then some v else lookK l k'
  | [] => by
    unfold lookK putK
    by_cases h : k' = k <;> simp [h]
  | p :: l => by
    have ih := lookK_put (k := k) (k' := k') (v := v) (l := l)
    unfold lookK at *
    rw [putK]
    by_cases h : k = p.1
    · subst h
      by_cases h2 : k' = p.1
      · simp [h2]
      · simp [h2]
    · rw [if_neg h]
      by_cases h2 : k' = p.1
      · have : ¬ k' = k := fun e => h (by rw [← e, h2])
        simp [h2]
        intro e; exact (h e.symm).elim
      · simp only [List.find?_cons, h2, decide_false, ih]

end Go.Proofs.Ytodbafiepdcfbaa
