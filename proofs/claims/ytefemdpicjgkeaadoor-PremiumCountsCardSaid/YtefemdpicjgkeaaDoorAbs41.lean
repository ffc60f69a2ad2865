/- An element put into its place: append, copy, store. -/
import Derived.Test.YtefemdpicjgkeaaDoorAbsMd
set_option linter.unusedSimpArgs false
set_option linter.unusedVariables false
set_option linter.unusedSectionVars false
namespace Go.Abs
variable [Glb]

theorem over_ins {vals : List (List AVal)} {z x : List AVal} {k m : Nat} (hk : k ≤ vals.length) (hm : m = vals.length - k) :
    (over (vals ++ [z]) (k + 1) (((vals ++ [z]).drop k).take m)).set k x = vals.take k ++ x :: vals.drop k := by
  subst hm
  have e1 : ((vals ++ [z]).drop k).take (vals.length - k) = vals.drop k := by
    rw [List.drop_append_of_le_length hk, List.take_append_of_le_length (by simp), List.take_of_length_le (by simp)]
  unfold over
  rw [e1, List.length_drop, show k + 1 + (vals.length - k) = vals.length + 1 from by omega]
  have e2 : (vals ++ [z]).drop (vals.length + 1) = [] := List.drop_eq_nil_of_le (by simp)
  rw [e2, List.append_nil]
  have e3 : (vals ++ [z]).take (k + 1) = vals.take k ++ [(vals ++ [z])[k]'(by simp; omega)] := by
    rw [List.take_add_one, List.getElem?_eq_getElem (by simp; omega), Option.toList_some, List.take_append_of_le_length hk]
  rw [e3, List.append_assoc, List.set_append_right _ _ (by rw [List.length_take]; omega)]
  rw [List.length_take, show k - min k vals.length = 0 from by omega]
  simp

/-- elements put over others -/
def overL {α : Type} (zs : List α) (off : Nat) (ys : List α) : List α := zs.take off ++ ys ++ zs.drop (off + ys.length)
theorem over_numsE {k : IntKind} {a b : List Int} {off : Nat} : over (numsE k a) off (numsE k b) = numsE k (overL a off b) := by
  simp [over, overL, numsE]
theorem over_els {α : Type} [Cel α] {a b : List α} {off : Nat} : over (els a) off (els b) = els (overL a off b) := by
  simp [over, overL, els]
theorem overL_part {α : Type} {zs : List α} {z : α} {k a m : Nat} (hk : k ≤ zs.length) (hm : m = zs.length - k) (ha : m ≤ a) : (((zs ++ [z]).drop k).take a).take m = zs.drop k := by
  subst hm
  rw [List.take_take, show min (zs.length - k) a = zs.length - k from by omega, List.drop_append_of_le_length hk, List.take_append_of_le_length (by simp), List.take_of_length_le (by simp)]
theorem overL_length {α : Type} {zs : List α} {z : α} {k : Nat} (hk : k ≤ zs.length) : (overL (zs ++ [z]) (k + 1) (zs.drop k)).length = zs.length + 1 := by
  unfold overL
  simp only [List.length_append, List.length_take, List.length_drop, List.length_cons, List.length_nil]
  omega
theorem overL_set {α : Type} {zs : List α} {z x : α} {k : Nat} (hk : k ≤ zs.length) : (overL (zs ++ [z]) (k + 1) (zs.drop k)).set k x = zs.take k ++ x :: zs.drop k := by
  unfold overL
  rw [List.length_drop, show k + 1 + (zs.length - k) = zs.length + 1 from by omega]
  have e2 : (zs ++ [z]).drop (zs.length + 1) = [] := List.drop_eq_nil_of_le (by simp)
  rw [e2, List.append_nil]
  have e3 : (zs ++ [z]).take (k + 1) = zs.take k ++ [(zs ++ [z])[k]'(by simp; omega)] := by
    rw [List.take_add_one, List.getElem?_eq_getElem (by simp; omega), Option.toList_some, List.take_append_of_le_length hk]
  rw [e3, List.append_assoc, List.set_append_right _ _ (by rw [List.length_take]; omega)]
  rw [List.length_take, show k - min k zs.length = 0 from by omega]
  simp
attribute [go_sem] over_numsE over_els

theorem numsE_ins {k : IntKind} {l : List Int} {i : Nat} {x : Int} : (numsE k l).take i ++ [.int k x] :: (numsE k l).drop i = numsE k (l.take i ++ x :: l.drop i) := by
  simp [numsE]
theorem els_ins {α : Type} [Cel α] {l : List α} {i : Nat} {x : α} : (els l).take i ++ Cel.c x :: (els l).drop i = els (l.take i ++ x :: l.drop i) := by
  simp [els]

theorem avcW_cut {P : Program} {n0 : Nat} {c : ACode} {K : Post} {env : Env} {rows : List Row} (R : Env → List Row → Prop) (h : avcW P n0 c ⟨R, K.x, K.r⟩ env rows) (hR : ∀ e r, R e r → K.n e r) : avcW P n0 c K env rows :=
  avcW_mono (K := ⟨R, K.x, K.r⟩) (K' := K) c hR (fun _ _ _ h => h) (fun _ _ h => h) h
/-- ways that meet behind a statement -/
theorem avcW_seq_cut {P : Program} {n0 : Nat} {a b : ACode} {K : Post} {env : Env} {rows : List Row} (R : Env → List Row → Prop) (h : avcW P n0 a ⟨R, K.x, K.r⟩ env rows) (hR : ∀ e r, R e r → Cl n0 (avcW P n0 b K) e r) : avcW P n0 (.seq a b) K env rows := by
  rw [avcW_seq]
  exact avcW_cut (K := ⟨Cl n0 (avcW P n0 b K), K.x, K.r⟩) R h hR
theorem avc_seq_cut {P : Program} {n0 : Nat} {a b : ACode} {K : Post} {env : Env} {rows : List Row} (R : Env → List Row → Prop) (h : avc P n0 a ⟨R, K.x, K.r⟩ env rows) (hR : ∀ e r, R e r → avc P n0 b K e r) : avc P n0 (.seq a b) K env rows := by
  rw [avc_seq]
  exact avc_cut (K := ⟨avc P n0 b K, K.x, K.r⟩) R h hR

/-- maps from numbers to numbers -/
def mapI (l : List (Int × Int)) : List (AVal × AVal) := l.map fun p => (.int .i64 p.1, .int .i64 p.2)
def look (l : List (Int × Int)) (k : Int) : Option Int := (l.find? fun p => k == p.1).map (·.2)
def putI (k v : Int) : List (Int × Int) → List (Int × Int)
  | [] => [(k, v)]
  | p :: ps => if k == p.1 then (k, v) :: ps else p :: putI k v ps
theorem mapI_clean : ∀ {l : List (Int × Int)}, cleanM (mapI l) = true
  | [] => _root_.id rfl
  | p :: l => by
    have := mapI_clean (l := l)
    simp only [cleanM, mapI, List.map_map, Bool.and_eq_true] at this ⊢
    simp only [List.map_cons, cleanL, Function.comp_apply, clean, Bool.true_and]
    exact this
theorem kfind_mapI {k : Int} : ∀ {l : List (Int × Int)}, kfind (.int .i64 k) (mapI l) = (look l k).map (.int .i64 ·)
  | [] => _root_.id rfl
  | p :: l => by
    have ih := kfind_mapI (k := k) (l := l)
    unfold mapI look at *
    rw [List.map_cons, kfind, List.find?_cons]
    have : isKey (.int .i64 k) (.int .i64 p.1) = (k == p.1) := by simp [isKey, acells, eqCells]
    simp only [this]
    cases hk : k == p.1
    · simpa using ih
    · rfl
theorem kput_mapI {k v : Int} : ∀ {l : List (Int × Int)}, kput (.int .i64 k) (.int .i64 v) (mapI l) = mapI (putI k v l)
  | [] => _root_.id rfl
  | p :: l => by
    have ih := kput_mapI (k := k) (v := v) (l := l)
    unfold mapI at *
    rw [List.map_cons, kput, putI]
    have : isKey (.int .i64 k) (.int .i64 p.1) = (k == p.1) := by simp [isKey, acells, eqCells]
    simp only [this]
    cases hk : k == p.1
    · simp only [Bool.false_eq_true, if_false, List.map_cons, ih]
    · rfl
theorem look_put {k v k' : Int} : ∀ {l : List (Int × Int)}, look (putI k v l) k' = if k' = k then some v else look l k'
  | [] => by
    unfold look putI
    by_cases h : k' = k <;> simp [h]
  | p :: l => by
    have ih := look_put (k := k) (v := v) (k' := k') (l := l)
    unfold look at *
    rw [putI]
    cases hk : k == p.1
    · simp only [Bool.false_eq_true, if_false, List.find?_cons]
      cases hk' : k' == p.1
      · exact ih
      · have : ¬ k' = k := by
          intro e; subst e; rw [hk] at hk'; cases hk'
        simp [this]
    · have e : k = p.1 := by simpa using hk
      simp only [if_true, List.find?_cons]
      by_cases h : k' = k
      · simp [h]
      · have h1 : (k' == k) = false := by simpa using h
        have h2 : (k' == p.1) = false := by rw [← e]; exact h1
        simp [h1, h2, h]

attribute [go_sem] Option.isSome_some Option.isSome_none Option.getD_some Option.getD_none mapI_clean kfind_mapI kput_mapI

end Go.Abs
