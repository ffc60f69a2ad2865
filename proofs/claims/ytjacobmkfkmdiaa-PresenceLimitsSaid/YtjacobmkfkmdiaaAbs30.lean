/- Structs as the elements of slices; more everyday laws. -/
import Derived.Test.YtjacobmkfkmdiaaAbs29
set_option linter.unusedSimpArgs false
set_option linter.unusedVariables false
set_option linter.unusedSectionVars false
namespace Go.Abs

/-- a type of values whose cells hold no references to memory -/
class Cel (α : Type) where
  c : α → List AVal
  sz : Nat
  len : ∀ x, (c x).length = sz
  cl : ∀ x, cleanL (c x) = true
  on : ∀ x, (c x).all one = true
/-- no references at all -/
class Flt (α : Type) [Cel α] : Prop where
  fl : ∀ x : α, flatL (Cel.c x) = true

def els {α : Type} [Cel α] (l : List α) : List (List AVal) := l.map Cel.c

section
variable {α : Type} [Cel α]
theorem els_length {l : List α} : (els l).length = l.length := by simp [els]
theorem els_clean : ∀ {l : List α}, cleanE (els l) = true
  | [] => _root_.id rfl
  | x :: l => by
    show (cleanL (Cel.c x) && cleanE (els l)) = true
    rw [Cel.cl, els_clean]; exact _root_.id rfl
theorem els_flat [Flt α] : ∀ {l : List α}, flatE (els l) = true
  | [] => _root_.id rfl
  | x :: l => by
    show (flatL (Cel.c x) && flatE (els l)) = true
    rw [Flt.fl, els_flat]; exact _root_.id rfl
theorem els_nil : els ([] : List α) = [] := _root_.id rfl
theorem els_append {a b : List α} : els a ++ els b = els (a ++ b) := by simp [els]
theorem els_snoc {a : List α} {x : α} : els a ++ [Cel.c x] = els (a ++ [x]) := by simp [els]
theorem els_take {l : List α} {n : Nat} : (els l).take n = els (l.take n) := by simp [els]
theorem els_drop {l : List α} {n : Nat} : (els l).drop n = els (l.drop n) := by simp [els]
theorem els_set {l : List α} {i : Nat} {x : α} : (els l).set i (Cel.c x) = els (l.set i x) := by simp [els, List.map_set]
theorem els_getD {l : List α} {i : Nat} (h : i < l.length) : (els l).getD i [] = Cel.c (l[i]'h) := by
  simp [els, List.getD_eq_getElem?_getD, List.getElem?_eq_getElem h]
theorem cel_agg_clean {x : α} : clean (.agg (Cel.c x)) = true := by rw [clean]; exact Cel.cl x
theorem cel_agg_flat [Flt α] {x : α} : flat (.agg (Cel.c x)) = true := by rw [flat]; exact Flt.fl x
end
theorem tape_bindRow {rows : List Row} {sel : List (Option Nat)} {vw : List Nat} {T : TypeId} {l : List Int} {a : Int} : bindRow rows sel vw (tapeRow T l a) = tapeRow T l a := by
  simp [tapeRow, bindRow, bindE, cleanE, cleanL, clean]
attribute [go_sem] tape_bindRow tape_ren Option.map_some Option.map_none
attribute [go_sem] els_snoc els_append els_take els_drop els_length els_clean els_flat Cel.len Cel.cl Flt.fl Cel.on

/-- the rows of a slice of an owned row that is lent, whole or in part -/
theorem bindV_view {rows : List Row} {vw : List Nat} {r n off len : Nat} {e : TypeId} {sz : Nat} {vals : List (List AVal)} (hv : vw.contains r = true) (hr : rows[r]? = some (.live e sz vals)) (hn : n = vals.length) (ho : off + len ≤ n) (hc : cleanE vals = true) :
    bindV rows [] vw (.own r n off len) = .pure sz ((vals.drop off).take len) := by
  rw [bindV]
  simp only [pos?, hv, if_true, hr]
  rw [if_pos ⟨hn, ho, hc⟩]
theorem bindV_viewAll {rows : List Row} {vw : List Nat} {r n : Nat} {e : TypeId} {sz : Nat} {vals : List (List AVal)} (hv : vw.contains r = true) (hr : rows[r]? = some (.live e sz vals)) (hn : n = vals.length) (hc : cleanE vals = true) :
    bindV rows [] vw (.own r n 0 n) = .pure sz vals := by
  rw [bindV_view hv hr hn (by omega) hc]
  simp [hn]

end Go.Abs
