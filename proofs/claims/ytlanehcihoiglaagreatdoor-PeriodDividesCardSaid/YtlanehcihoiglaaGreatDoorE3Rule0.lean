/- Which rules are valid (the walks of the months are printed by gen_rule.py). -/
import Derived.Test.YtlanehcihoiglaaGreatDoorE3Sort
set_option linter.unusedSimpArgs false
set_option linter.unusedVariables false
set_option linter.unusedSectionVars false
namespace Go.Proofs.YtlanehcihoiglaaGreatDoor
open Go Go.Abs
open Go.RowKit (Below)
set_option linter.unusedSimpArgs false

/-- a rule of a holiday -/
structure Hol where
  kind : Int
  month : Int
  day : Int
  weekday : Int
  offset : Int
  moved : Bool
def Hol.cells (p : Hol) : List AVal := [.int .i64 p.kind, .int .i64 p.month, .int .i64 p.day, .int .i64 p.weekday, .int .i64 p.offset, .bool p.moved]
instance : Cel Hol := ⟨Hol.cells, 6, fun _ => rfl, fun _ => rfl, fun _ => rfl⟩
theorem cel_hol (p : Hol) : Cel.c p = [.int .i64 p.kind, .int .i64 p.month, .int .i64 p.day, .int .i64 p.weekday, .int .i64 p.offset, .bool p.moved] := rfl
theorem vr_walk1 (d : Int) (b : Bool) (w : World) (h : tabAt w 0 .i64 lensTab) : Calls Tryz.prog 52 #[.agg #[.int .i64 0, .int .i64 1, .int .i64 d, .int .i64 0, .int .i64 0, .bool b]] w fun e w' => e = .returned (.bool (decide (1 ≤ d ∧ d ≤ 31))) ∧ (Below w.heap.size w w' ∧ w.drawn ≤ w'.drawn) := by
  have hc := tab_cell h (i := 0) rfl
  have hlt : 0 < w.heap.size := by obtain ⟨_, _, h⟩ := h; exact (Array.getElem?_eq_some_iff.1 h).1
  clear h
  go_enter Tryz.func52, Tryz.ntmps52
  go_wp2
  · rename_i hd
    go_ret
    exact ⟨by simp [hd], ⟨rfl, rfl, rfl, by simp, fun b hb => heap_alloc_old w _ hb⟩, Nat.le_refl _⟩
  · rename_i hd
    go_ret
    exact ⟨by simp [show ¬ (1 ≤ d) from by omega], ⟨rfl, rfl, rfl, by simp, fun b hb => heap_alloc_old w _ hb⟩, Nat.le_refl _⟩
theorem vr_walk2 (d : Int) (b : Bool) (w : World) (h : tabAt w 0 .i64 lensTab) : Calls Tryz.prog 52 #[.agg #[.int .i64 0, .int .i64 2, .int .i64 d, .int .i64 0, .int .i64 0, .bool b]] w fun e w' => e = .returned (.bool (decide (1 ≤ d ∧ d ≤ 29))) ∧ (Below w.heap.size w w' ∧ w.drawn ≤ w'.drawn) := by
  have hc := tab_cell h (i := 1) rfl
  have hlt : 0 < w.heap.size := by obtain ⟨_, _, h⟩ := h; exact (Array.getElem?_eq_some_iff.1 h).1
  clear h
  go_enter Tryz.func52, Tryz.ntmps52
  go_wp2
  · rename_i hd
    go_ret
    exact ⟨by simp [hd], ⟨rfl, rfl, rfl, by simp, fun b hb => heap_alloc_old w _ hb⟩, Nat.le_refl _⟩
  · rename_i hd
    go_ret
    exact ⟨by simp [show ¬ (1 ≤ d) from by omega], ⟨rfl, rfl, rfl, by simp, fun b hb => heap_alloc_old w _ hb⟩, Nat.le_refl _⟩
theorem vr_walk3 (d : Int) (b : Bool) (w : World) (h : tabAt w 0 .i64 lensTab) : Calls Tryz.prog 52 #[.agg #[.int .i64 0, .int .i64 3, .int .i64 d, .int .i64 0, .int .i64 0, .bool b]] w fun e w' => e = .returned (.bool (decide (1 ≤ d ∧ d ≤ 31))) ∧ (Below w.heap.size w w' ∧ w.drawn ≤ w'.drawn) := by
  have hc := tab_cell h (i := 2) rfl
  have hlt : 0 < w.heap.size := by obtain ⟨_, _, h⟩ := h; exact (Array.getElem?_eq_some_iff.1 h).1
  clear h
  go_enter Tryz.func52, Tryz.ntmps52
  go_wp2
  · rename_i hd
    go_ret
    exact ⟨by simp [hd], ⟨rfl, rfl, rfl, by simp, fun b hb => heap_alloc_old w _ hb⟩, Nat.le_refl _⟩
  · rename_i hd
    go_ret
    exact ⟨by simp [show ¬ (1 ≤ d) from by omega], ⟨rfl, rfl, rfl, by simp, fun b hb => heap_alloc_old w _ hb⟩, Nat.le_refl _⟩
theorem vr_walk4 (d : Int) (b : Bool) (w : World) (h : tabAt w 0 .i64 lensTab) : Calls Tryz.prog 52 #[.agg #[.int .i64 0, .int .i64 4, .int .i64 d, .int .i64 0, .int .i64 0, .bool b]] w fun e w' => e = .returned (.bool (decide (1 ≤ d ∧ d ≤ 30))) ∧ (Below w.heap.size w w' ∧ w.drawn ≤ w'.drawn) := by
  have hc := tab_cell h (i := 3) rfl
  have hlt : 0 < w.heap.size := by obtain ⟨_, _, h⟩ := h; exact (Array.getElem?_eq_some_iff.1 h).1
  clear h
  go_enter Tryz.func52, Tryz.ntmps52
  go_wp2
  · rename_i hd
    go_ret
    exact ⟨by simp [hd], ⟨rfl, rfl, rfl, by simp, fun b hb => heap_alloc_old w _ hb⟩, Nat.le_refl _⟩
  · rename_i hd
    go_ret
    exact ⟨by simp [show ¬ (1 ≤ d) from by omega], ⟨rfl, rfl, rfl, by simp, fun b hb => heap_alloc_old w _ hb⟩, Nat.le_refl _⟩
theorem vr_walk5 (d : Int) (b : Bool) (w : World) (h : tabAt w 0 .i64 lensTab) : Calls Tryz.prog 52 #[.agg #[.int .i64 0, .int .i64 5, .int .i64 d, .int .i64 0, .int .i64 0, .bool b]] w fun e w' => e = .returned (.bool (decide (1 ≤ d ∧ d ≤ 31))) ∧ (Below w.heap.size w w' ∧ w.drawn ≤ w'.drawn) := by
  have hc := tab_cell h (i := 4) rfl
  have hlt : 0 < w.heap.size := by obtain ⟨_, _, h⟩ := h; exact (Array.getElem?_eq_some_iff.1 h).1
  clear h
  go_enter Tryz.func52, Tryz.ntmps52
  go_wp2
  · rename_i hd
    go_ret
    exact ⟨by simp [hd], ⟨rfl, rfl, rfl, by simp, fun b hb => heap_alloc_old w _ hb⟩, Nat.le_refl _⟩
  · rename_i hd
    go_ret
    exact ⟨by simp [show ¬ (1 ≤ d) from by omega], ⟨rfl, rfl, rfl, by simp, fun b hb => heap_alloc_old w _ hb⟩, Nat.le_refl _⟩
theorem vr_walk6 (d : Int) (b : Bool) (w : World) (h : tabAt w 0 .i64 lensTab) : Calls Tryz.prog 52 #[.agg #[.int .i64 0, .int .i64 6, .int .i64 d, .int .i64 0, .int .i64 0, .bool b]] w fun e w' => e = .returned (.bool (decide (1 ≤ d ∧ d ≤ 30))) ∧ (Below w.heap.size w w' ∧ w.drawn ≤ w'.drawn) := by
  have hc := tab_cell h (i := 5) rfl
  have hlt : 0 < w.heap.size := by obtain ⟨_, _, h⟩ := h; exact (Array.getElem?_eq_some_iff.1 h).1
  clear h
  go_enter Tryz.func52, Tryz.ntmps52
  go_wp2
  · rename_i hd
    go_ret
    exact ⟨by simp [hd], ⟨rfl, rfl, rfl, by simp, fun b hb => heap_alloc_old w _ hb⟩, Nat.le_refl _⟩
  · rename_i hd
    go_ret
    exact ⟨by simp [show ¬ (1 ≤ d) from by omega], ⟨rfl, rfl, rfl, by simp, fun b hb => heap_alloc_old w _ hb⟩, Nat.le_refl _⟩
theorem vr_walk7 (d : Int) (b : Bool) (w : World) (h : tabAt w 0 .i64 lensTab) : Calls Tryz.prog 52 #[.agg #[.int .i64 0, .int .i64 7, .int .i64 d, .int .i64 0, .int .i64 0, .bool b]] w fun e w' => e = .returned (.bool (decide (1 ≤ d ∧ d ≤ 31))) ∧ (Below w.heap.size w w' ∧ w.drawn ≤ w'.drawn) := by
  have hc := tab_cell h (i := 6) rfl
  have hlt : 0 < w.heap.size := by obtain ⟨_, _, h⟩ := h; exact (Array.getElem?_eq_some_iff.1 h).1
  clear h
  go_enter Tryz.func52, Tryz.ntmps52
  go_wp2
  · rename_i hd
    go_ret
    exact ⟨by simp [hd], ⟨rfl, rfl, rfl, by simp, fun b hb => heap_alloc_old w _ hb⟩, Nat.le_refl _⟩
  · rename_i hd
    go_ret
    exact ⟨by simp [show ¬ (1 ≤ d) from by omega], ⟨rfl, rfl, rfl, by simp, fun b hb => heap_alloc_old w _ hb⟩, Nat.le_refl _⟩
theorem vr_walk8 (d : Int) (b : Bool) (w : World) (h : tabAt w 0 .i64 lensTab) : Calls Tryz.prog 52 #[.agg #[.int .i64 0, .int .i64 8, .int .i64 d, .int .i64 0, .int .i64 0, .bool b]] w fun e w' => e = .returned (.bool (decide (1 ≤ d ∧ d ≤ 31))) ∧ (Below w.heap.size w w' ∧ w.drawn ≤ w'.drawn) := by
  have hc := tab_cell h (i := 7) rfl
  have hlt : 0 < w.heap.size := by obtain ⟨_, _, h⟩ := h; exact (Array.getElem?_eq_some_iff.1 h).1
  clear h
  go_enter Tryz.func52, Tryz.ntmps52
  go_wp2
  · rename_i hd
    go_ret
    exact ⟨by simp [hd], ⟨rfl, rfl, rfl, by simp, fun b hb => heap_alloc_old w _ hb⟩, Nat.le_refl _⟩
  · rename_i hd
    go_ret
    exact ⟨by simp [show ¬ (1 ≤ d) from by omega], ⟨rfl, rfl, rfl, by simp, fun b hb => heap_alloc_old w _ hb⟩, Nat.le_refl _⟩
theorem vr_walk9 (d : Int) (b : Bool) (w : World) (h : tabAt w 0 .i64 lensTab) : Calls Tryz.prog 52 #[.agg #[.int .i64 0, .int .i64 9, .int .i64 d, .int .i64 0, .int .i64 0, .bool b]] w fun e w' => e = .returned (.bool (decide (1 ≤ d ∧ d ≤ 30))) ∧ (Below w.heap.size w w' ∧ w.drawn ≤ w'.drawn) := by
  have hc := tab_cell h (i := 8) rfl
  have hlt : 0 < w.heap.size := by obtain ⟨_, _, h⟩ := h; exact (Array.getElem?_eq_some_iff.1 h).1
  clear h
  go_enter Tryz.func52, Tryz.ntmps52
  go_wp2
  · rename_i hd
    go_ret
    exact ⟨by simp [hd], ⟨rfl, rfl, rfl, by simp, fun b hb => heap_alloc_old w _ hb⟩, Nat.le_refl _⟩
  · rename_i hd
    go_ret
    exact ⟨by simp [show ¬ (1 ≤ d) from by omega], ⟨rfl, rfl, rfl, by simp, fun b hb => heap_alloc_old w _ hb⟩, Nat.le_refl _⟩
theorem vr_walk10 (d : Int) (b : Bool) (w : World) (h : tabAt w 0 .i64 lensTab) : Calls Tryz.prog 52 #[.agg #[.int .i64 0, .int .i64 10, .int .i64 d, .int .i64 0, .int .i64 0, .bool b]] w fun e w' => e = .returned (.bool (decide (1 ≤ d ∧ d ≤ 31))) ∧ (Below w.heap.size w w' ∧ w.drawn ≤ w'.drawn) := by
  have hc := tab_cell h (i := 9) rfl
  have hlt : 0 < w.heap.size := by obtain ⟨_, _, h⟩ := h; exact (Array.getElem?_eq_some_iff.1 h).1
  clear h
  go_enter Tryz.func52, Tryz.ntmps52
  go_wp2
  · rename_i hd
    go_ret
    exact ⟨by simp [hd], ⟨rfl, rfl, rfl, by simp, fun b hb => heap_alloc_old w _ hb⟩, Nat.le_refl _⟩
  · rename_i hd
    go_ret
    exact ⟨by simp [show ¬ (1 ≤ d) from by omega], ⟨rfl, rfl, rfl, by simp, fun b hb => heap_alloc_old w _ hb⟩, Nat.le_refl _⟩
theorem vr_walk11 (d : Int) (b : Bool) (w : World) (h : tabAt w 0 .i64 lensTab) : Calls Tryz.prog 52 #[.agg #[.int .i64 0, .int .i64 11, .int .i64 d, .int .i64 0, .int .i64 0, .bool b]] w fun e w' => e = .returned (.bool (decide (1 ≤ d ∧ d ≤ 30))) ∧ (Below w.heap.size w w' ∧ w.drawn ≤ w'.drawn) := by
  have hc := tab_cell h (i := 10) rfl
  have hlt : 0 < w.heap.size := by obtain ⟨_, _, h⟩ := h; exact (Array.getElem?_eq_some_iff.1 h).1
  clear h
  go_enter Tryz.func52, Tryz.ntmps52
  go_wp2
  · rename_i hd
    go_ret
    exact ⟨by simp [hd], ⟨rfl, rfl, rfl, by simp, fun b hb => heap_alloc_old w _ hb⟩, Nat.le_refl _⟩
  · rename_i hd
    go_ret
    exact ⟨by simp [show ¬ (1 ≤ d) from by omega], ⟨rfl, rfl, rfl, by simp, fun b hb => heap_alloc_old w _ hb⟩, Nat.le_refl _⟩
theorem vr_walk12 (d : Int) (b : Bool) (w : World) (h : tabAt w 0 .i64 lensTab) : Calls Tryz.prog 52 #[.agg #[.int .i64 0, .int .i64 12, .int .i64 d, .int .i64 0, .int .i64 0, .bool b]] w fun e w' => e = .returned (.bool (decide (1 ≤ d ∧ d ≤ 31))) ∧ (Below w.heap.size w w' ∧ w.drawn ≤ w'.drawn) := by
  have hc := tab_cell h (i := 11) rfl
  have hlt : 0 < w.heap.size := by obtain ⟨_, _, h⟩ := h; exact (Array.getElem?_eq_some_iff.1 h).1
  clear h
  go_enter Tryz.func52, Tryz.ntmps52
  go_wp2
  · rename_i hd
    go_ret
    exact ⟨by simp [hd], ⟨rfl, rfl, rfl, by simp, fun b hb => heap_alloc_old w _ hb⟩, Nat.le_refl _⟩
  · rename_i hd
    go_ret
    exact ⟨by simp [show ¬ (1 ≤ d) from by omega], ⟨rfl, rfl, rfl, by simp, fun b hb => heap_alloc_old w _ hb⟩, Nat.le_refl _⟩

def lens29 (m : Int) : Int := if m = 2 then 29 else lensTab.getD (m - 1).toNat 0
def ruleP (h : Hol) : Bool :=
  if h.kind = 0 then decide (1 ≤ h.month ∧ h.month ≤ 12 ∧ h.weekday = 0 ∧ h.offset = 0 ∧ 1 ≤ h.day ∧ h.day ≤ lens29 h.month)
  else if h.kind = 1 then decide (-100 ≤ h.offset ∧ h.offset ≤ 100 ∧ h.month = 0 ∧ h.day = 0 ∧ h.weekday = 0)
  else if h.kind = 2 then decide (1 ≤ h.month ∧ h.month ≤ 12 ∧ (h.day = -1 ∨ 1 ≤ h.day ∧ h.day ≤ 5) ∧ 0 ≤ h.weekday ∧ h.weekday ≤ 6 ∧ -7 ≤ h.offset ∧ h.offset ≤ 7)
  else false
theorem rule0_ok (m d : Int) (b : Bool) (h1 : 1 ≤ m) (h2 : m ≤ 12) : AFn Tryz.prog 52 [.agg [.int .i64 0, .int .i64 m, .int .i64 d, .int .i64 0, .int .i64 0, .bool b]] [] (fun v rs => v = .bool (decide (1 ≤ d ∧ d ≤ lens29 m)) ∧ rs = []) := by
  refine AFn.leaf ?_
  rintro C cargs hr hok ⟨_, _, ht⟩ hrep
  simp only [RepL, Rep] at hrep
  obtain ⟨v1, r1, rfl, ⟨vs, rfl, hv⟩, rfl⟩ := hrep
  obtain ⟨a0, q0, g0, rfl, a1, q1, g1, rfl, a2, q2, g2, rfl, a3, q3, g3, rfl, a4, q4, g4, rfl, a5, q5, g5, rfl, rfl⟩ := hv
  have hvs : vs = #[.int .i64 0, .int .i64 m, .int .i64 d, .int .i64 0, .int .i64 0, .bool b] := by
    cases vs; simp_all
  subst hvs
  have key : ∀ {z : Int}, lens29 m = z → (Calls Tryz.prog 52 #[.agg #[.int .i64 0, .int .i64 m, .int .i64 d, .int .i64 0, .int .i64 0, .bool b]] C.w fun e w' => e = .returned (.bool (decide (1 ≤ d ∧ d ≤ z))) ∧ (Below C.w.heap.size C.w w' ∧ C.w.drawn ≤ w'.drawn)) →
      Calls Tryz.prog 52 #[.agg #[.int .i64 0, .int .i64 m, .int .i64 d, .int .i64 0, .int .i64 0, .bool b]] C.w fun e w' => ∃ cv v, e = .returned cv ∧ (Below C.w.heap.size C.w w' ∧ C.w.drawn ≤ w'.drawn) ∧ (∀ C' : Ctx, Ext C C' → Rep C' v cv) ∧ v = .bool (decide (1 ≤ d ∧ d ≤ lens29 m)) ∧ [] = ([] : List Row) := by
    intro z hz h
    refine h.mono ?_
    rintro e w' ⟨rfl, hb⟩
    exact ⟨_, .bool (decide (1 ≤ d ∧ d ≤ z)), rfl, hb, fun C' _ => by rw [Rep], by rw [hz], rfl⟩
  obtain rfl | rfl | rfl | rfl | rfl | rfl | rfl | rfl | rfl | rfl | rfl | rfl : m = 1 ∨ m = 2 ∨ m = 3 ∨ m = 4 ∨ m = 5 ∨ m = 6 ∨ m = 7 ∨ m = 8 ∨ m = 9 ∨ m = 10 ∨ m = 11 ∨ m = 12 := by omega
  · exact key (by simp [lens29, lensTab]) (vr_walk1 d b C.w ht)
  · exact key (by simp [lens29, lensTab]) (vr_walk2 d b C.w ht)
  · exact key (by simp [lens29, lensTab]) (vr_walk3 d b C.w ht)
  · exact key (by simp [lens29, lensTab]) (vr_walk4 d b C.w ht)
  · exact key (by simp [lens29, lensTab]) (vr_walk5 d b C.w ht)
  · exact key (by simp [lens29, lensTab]) (vr_walk6 d b C.w ht)
  · exact key (by simp [lens29, lensTab]) (vr_walk7 d b C.w ht)
  · exact key (by simp [lens29, lensTab]) (vr_walk8 d b C.w ht)
  · exact key (by simp [lens29, lensTab]) (vr_walk9 d b C.w ht)
  · exact key (by simp [lens29, lensTab]) (vr_walk10 d b C.w ht)
  · exact key (by simp [lens29, lensTab]) (vr_walk11 d b C.w ht)
  · exact key (by simp [lens29, lensTab]) (vr_walk12 d b C.w ht)

end Go.Proofs.YtlanehcihoiglaaGreatDoor
