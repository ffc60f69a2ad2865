/- An element put into its place: append, copy, store. -/
import Derived.Test.YtefemdpicjgkeaaGreatDoorAbsMd
set_option linter.unusedSimpArgs false
set_option linter.unusedVariables false
set_option linter.unusedSectionVars false
namespace Go.Abs
variable [Glb]

/-- elements put over others -/
def overL {α : Type} (zs : List α) (off : Nat) (ys : List α) : List α := zs.take off ++ ys ++ zs.drop (off + ys.length)
theorem over_numsE {k : IntKind} {a b : List Int} {off : Nat} : over (numsE k a) off (numsE k b) = numsE k (overL a off b) := by
  simp [over, overL, numsE]
theorem over_els {α : Type} [Cel α] {a b : List α} {off : Nat} : over (els a) off (els b) = els (overL a off b) := by
  simp [over, overL, els]
theorem overL_part {α : Type} {zs : List α} {z : α} {k a m : Nat} (hk : k ≤ zs.length) (hm : m = zs.length - k) (ha : m ≤ a) : (((zs ++ [z]).drop k).take a).take m = zs.drop k := by
  subst hm
  rw [List.take_take, show min (zs.length - k) a = zs.length - k from by omega, List.drop_append_of_le_length hk, List.take_append_of_le_length (by simp), List.take_of_length_le (by simp)]
theorem overL_length {α : Type} {zs : List α} {z : α} {k : Nat} (hk : k ≤ zs.length) : (overL (zs ++ [z]) (k + 1) (zs.drop k)).length = zs.length + 1 := by
  unfold overL
  simp only [List.length_append, List.length_take, List.length_drop, List.length_cons, List.length_nil]
  omega
theorem overL_set {α : Type} {zs : List α} {z x : α} {k : Nat} (hk : k ≤ zs.length) : (overL (zs ++ [z]) (k + 1) (zs.drop k)).set k x = zs.take k ++ x :: zs.drop k := by
  unfold overL
  rw [List.length_drop, show k + 1 + (zs.length - k) = zs.length + 1 from by omega]
  have e2 : (zs ++ [z]).drop (zs.length + 1) = [] := List.drop_eq_nil_of_le (by simp)
  rw [e2, List.append_nil]
  have e3 : (zs ++ [z]).take (k + 1) = zs.take k ++ [(zs ++ [z])[k]'(by simp; omega)] := by
    rw [List.take_add_one, List.getElem?_eq_getElem (by simp; omega), Option.toList_some, List.take_append_of_le_length hk]
  rw [e3, List.append_assoc, List.set_append_right _ _ (by rw [List.length_take]; omega)]
  rw [List.length_take, show k - min k zs.length = 0 from by omega]
  simp
attribute [go_sem] over_numsE over_els

/-- maps from numbers to numbers -/
def mapI (l : List (Int × Int)) : List (AVal × AVal) := l.map fun p => (.int .i64 p.1, .int .i64 p.2)
def look (l : List (Int × Int)) (k : Int) : Option Int := (l.find? fun p => k == p.1).map (·.2)
def putI (k v : Int) : List (Int × Int) → List (Int × Int)
  | [] => [(k, v)]
  | p :: ps => if k == p.1 then (k, v) :: ps else p :: putI k v ps
theorem mapI_clean : ∀ {l : List (Int × Int)}, cleanM (mapI l) = true
  | [] => _root_.id rfl
  | p :: l => by
    have := mapI_clean (l := l)
    simp only [cleanM, mapI, List.map_map, Bool.and_eq_true] at this ⊢
    simp only [List.map_cons, cleanL, Function.comp_apply, clean, Bool.true_and]
    exact this
theorem kfind_mapI {k : Int} : ∀ {l : List (Int × Int)}, kfind (.int .i64 k) (mapI l) = (look l k).map (.int .i64 ·)
  | [] => _root_.id rfl
  | p :: l => by
    have ih := kfind_mapI (k := k) (l := l)
    unfold mapI look at *
    rw [List.map_cons, kfind, List.find?_cons]
    have : isKey (.int .i64 k) (.int .i64 p.1) = (k == p.1) := by simp [isKey, acells, eqCells]
    simp only [this]
    cases hk : k == p.1
    · simpa using ih
    · rfl
theorem kput_mapI {k v : Int} : ∀ {l : List (Int × Int)}, kput (.int .i64 k) (.int .i64 v) (mapI l) = mapI (putI k v l)
  | [] => _root_.id rfl
  | p :: l => by
    have ih := kput_mapI (k := k) (v := v) (l := l)
    unfold mapI at *
    rw [List.map_cons, kput, putI]
    have : isKey (.int .i64 k) (.int .i64 p.1) = (k == p.1) := by simp [isKey, acells, eqCells]
    simp only [this]
    cases hk : k == p.1
    · simp only [Bool.false_eq_true, if_false, List.map_cons, ih]
    · rfl
attribute [go_sem] Option.isSome_some Option.isSome_none Option.getD_some Option.getD_none mapI_clean kfind_mapI kput_mapI

end Go.Abs
