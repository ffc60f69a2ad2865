/- The package-level variables, and the lengths of months. -/
import Derived.Test.YtpincjkjoeopkaaGreatDoorAbsMd
import Derived.Test.YtpincjkjoeopkaaGreatDoorB4Forms
import Derived.Lib.LaidTab
import Derived.WalkKit
set_option linter.unusedSimpArgs false
set_option linter.unusedVariables false
set_option linter.unusedSectionVars false
namespace Go.Proofs.YtpincjkjoeopkaaGreatDoor
open Go Go.Abs
open Go.RowKit (Below)
set_option linter.unusedSimpArgs false

def lensTab : List Int := [31, 28, 31, 30, 31, 30, 31, 31, 30, 31, 30, 31]
def tabAt (w : World) (g : Nat) (k : IntKind) (zs : List Int) : Prop := ∃ t z, w.heap[g]? = some (.cells (zs.map fun z => Value.int k z).toArray t z)
instance : Glb where
  d := False
  n := 1
  H := fun w => tabAt w 0 .i64 lensTab
  keep := by
    rintro w w' h ⟨t, z, h1⟩
    exact ⟨t, z, by rw [h 0 (by decide)]; exact h1⟩

def leapP (y : Int) : Bool := decide (y % 4 = 0) && (!decide (y % 100 = 0) || decide (y % 400 = 0))
def lenP (y m : Int) : Int := if m = 2 ∧ leapP y = true then 29 else lensTab.getD (m - 1).toNat 0

theorem tab_cell {w : World} {g : Nat} {k : IntKind} {zs : List Int} (h : tabAt w g k zs) {i : Nat} {z : Int} (hz : zs[i]? = some z) : w.cell? ⟨g, i, none⟩ = some (.int k z) := by
  obtain ⟨t, z', h⟩ := h
  unfold World.cell?
  simp [h, hz]

def len2 (y : Int) : Int := if leapP y = true then 29 else 28
theorem len2_yes {y : Int} (h : y % 4 = 0 ∧ (¬ y % 100 = 0 ∨ (y % 400 == 0) = true)) : len2 y = 29 := by
  rw [beq_iff_eq] at h
  rw [len2, if_pos]
  simp only [leapP, Bool.and_eq_true, Bool.or_eq_true, Bool.not_eq_true', decide_eq_true_eq, decide_eq_false_iff_not]
  omega
theorem len2_no {y : Int} (h : ¬ y % 4 = 0 ∨ (y % 100 = 0 ∧ (y % 400 == 0) = false)) : len2 y = 28 := by
  rw [beq_eq_false_iff_ne] at h
  rw [len2, if_neg]
  simp only [leapP, Bool.and_eq_true, Bool.or_eq_true, Bool.not_eq_true', decide_eq_true_eq, decide_eq_false_iff_not]
  omega
theorem length_walk1 (y : Int) (w : World) (h : tabAt w 0 .i64 lensTab) : Calls Tryz.prog 255 #[.int .i64 y, .int .i64 1] w fun e w' => e = .returned (.int .i64 31) ∧ w' = w := by
  have hc := tab_cell h (i := 0) rfl
  clear h
  go_enter Tryz.func255, Tryz.ntmps255
  go_wp2
  go_ret
  exact ⟨rfl, rfl⟩
theorem length_walk3 (y : Int) (w : World) (h : tabAt w 0 .i64 lensTab) : Calls Tryz.prog 255 #[.int .i64 y, .int .i64 3] w fun e w' => e = .returned (.int .i64 31) ∧ w' = w := by
  have hc := tab_cell h (i := 2) rfl
  clear h
  go_enter Tryz.func255, Tryz.ntmps255
  go_wp2
  go_ret
  exact ⟨rfl, rfl⟩
theorem length_walk4 (y : Int) (w : World) (h : tabAt w 0 .i64 lensTab) : Calls Tryz.prog 255 #[.int .i64 y, .int .i64 4] w fun e w' => e = .returned (.int .i64 30) ∧ w' = w := by
  have hc := tab_cell h (i := 3) rfl
  clear h
  go_enter Tryz.func255, Tryz.ntmps255
  go_wp2
  go_ret
  exact ⟨rfl, rfl⟩
theorem length_walk5 (y : Int) (w : World) (h : tabAt w 0 .i64 lensTab) : Calls Tryz.prog 255 #[.int .i64 y, .int .i64 5] w fun e w' => e = .returned (.int .i64 31) ∧ w' = w := by
  have hc := tab_cell h (i := 4) rfl
  clear h
  go_enter Tryz.func255, Tryz.ntmps255
  go_wp2
  go_ret
  exact ⟨rfl, rfl⟩
theorem length_walk6 (y : Int) (w : World) (h : tabAt w 0 .i64 lensTab) : Calls Tryz.prog 255 #[.int .i64 y, .int .i64 6] w fun e w' => e = .returned (.int .i64 30) ∧ w' = w := by
  have hc := tab_cell h (i := 5) rfl
  clear h
  go_enter Tryz.func255, Tryz.ntmps255
  go_wp2
  go_ret
  exact ⟨rfl, rfl⟩
theorem length_walk7 (y : Int) (w : World) (h : tabAt w 0 .i64 lensTab) : Calls Tryz.prog 255 #[.int .i64 y, .int .i64 7] w fun e w' => e = .returned (.int .i64 31) ∧ w' = w := by
  have hc := tab_cell h (i := 6) rfl
  clear h
  go_enter Tryz.func255, Tryz.ntmps255
  go_wp2
  go_ret
  exact ⟨rfl, rfl⟩
theorem length_walk8 (y : Int) (w : World) (h : tabAt w 0 .i64 lensTab) : Calls Tryz.prog 255 #[.int .i64 y, .int .i64 8] w fun e w' => e = .returned (.int .i64 31) ∧ w' = w := by
  have hc := tab_cell h (i := 7) rfl
  clear h
  go_enter Tryz.func255, Tryz.ntmps255
  go_wp2
  go_ret
  exact ⟨rfl, rfl⟩
theorem length_walk9 (y : Int) (w : World) (h : tabAt w 0 .i64 lensTab) : Calls Tryz.prog 255 #[.int .i64 y, .int .i64 9] w fun e w' => e = .returned (.int .i64 30) ∧ w' = w := by
  have hc := tab_cell h (i := 8) rfl
  clear h
  go_enter Tryz.func255, Tryz.ntmps255
  go_wp2
  go_ret
  exact ⟨rfl, rfl⟩
theorem length_walk10 (y : Int) (w : World) (h : tabAt w 0 .i64 lensTab) : Calls Tryz.prog 255 #[.int .i64 y, .int .i64 10] w fun e w' => e = .returned (.int .i64 31) ∧ w' = w := by
  have hc := tab_cell h (i := 9) rfl
  clear h
  go_enter Tryz.func255, Tryz.ntmps255
  go_wp2
  go_ret
  exact ⟨rfl, rfl⟩
theorem length_walk11 (y : Int) (w : World) (h : tabAt w 0 .i64 lensTab) : Calls Tryz.prog 255 #[.int .i64 y, .int .i64 11] w fun e w' => e = .returned (.int .i64 30) ∧ w' = w := by
  have hc := tab_cell h (i := 10) rfl
  clear h
  go_enter Tryz.func255, Tryz.ntmps255
  go_wp2
  go_ret
  exact ⟨rfl, rfl⟩
theorem length_walk12 (y : Int) (w : World) (h : tabAt w 0 .i64 lensTab) : Calls Tryz.prog 255 #[.int .i64 y, .int .i64 12] w fun e w' => e = .returned (.int .i64 31) ∧ w' = w := by
  have hc := tab_cell h (i := 11) rfl
  clear h
  go_enter Tryz.func255, Tryz.ntmps255
  go_wp2
  go_ret
  exact ⟨rfl, rfl⟩

theorem length_walk2 (y : Int) (h0 : 0 ≤ y) (w : World) (h : tabAt w 0 .i64 lensTab) : Calls Tryz.prog 255 #[.int .i64 y, .int .i64 2] w fun e w' => e = .returned (.int .i64 (len2 y)) ∧ w' = w := by
  have hc := tab_cell h (i := 1) rfl
  clear h
  go_enter Tryz.func255, Tryz.ntmps255
  go_wp2
  · rename_i a b c
    go_ret
    exact ⟨by rw [len2_yes ⟨a, .inr c⟩]; rfl, rfl⟩
  · rename_i a b c
    go_ret
    exact ⟨by rw [len2_no (.inr ⟨b, c⟩)]; rfl, rfl⟩
  · rename_i a b
    go_ret
    exact ⟨by rw [len2_yes ⟨a, .inl b⟩]; rfl, rfl⟩
  · rename_i a
    go_ret
    exact ⟨by rw [len2_no (.inl a)]; rfl, rfl⟩

theorem length_ok (y m : Int) (h0 : 0 ≤ y) (h1 : 1 ≤ m) (h2 : m ≤ 12) : AFn Tryz.prog 255 [.int .i64 y, .int .i64 m] [] (fun v rs => v = .int .i64 (lenP y m) ∧ rs = []) := by
  refine AFn.leaf ?_
  rintro C cargs hr hok ⟨_, _, ht⟩ hrep
  simp only [RepL, Rep] at hrep
  obtain ⟨v1, r1, rfl, rfl, v2, r2, rfl, rfl, rfl⟩ := hrep
  have key : ∀ {z : Int}, lenP y m = z → (Calls Tryz.prog 255 #[.int .i64 y, .int .i64 m] C.w fun e w' => e = .returned (.int .i64 z) ∧ w' = C.w) →
      Calls Tryz.prog 255 [Value.int .i64 y, .int .i64 m].toArray C.w fun e w' => ∃ cv v, e = .returned cv ∧ (Below C.w.heap.size C.w w' ∧ C.w.drawn ≤ w'.drawn) ∧ (∀ C' : Ctx, Ext C C' → Rep C' v cv) ∧ v = .int .i64 (lenP y m) ∧ [] = ([] : List Row) := by
    intro z hz h
    refine h.mono ?_
    rintro e w' ⟨rfl, rfl⟩
    exact ⟨_, .int .i64 z, rfl, ⟨Below.refl _ _, Nat.le_refl _⟩, fun C' _ => by rw [Rep], by rw [hz], rfl⟩
  obtain rfl | rfl | rfl | rfl | rfl | rfl | rfl | rfl | rfl | rfl | rfl | rfl : m = 1 ∨ m = 2 ∨ m = 3 ∨ m = 4 ∨ m = 5 ∨ m = 6 ∨ m = 7 ∨ m = 8 ∨ m = 9 ∨ m = 10 ∨ m = 11 ∨ m = 12 := by omega
  · exact key (by simp [lenP, lensTab]) (length_walk1 y C.w ht)
  · exact key (by simp [lenP, lensTab, len2]) (length_walk2 y h0 C.w ht)
  · exact key (by simp [lenP, lensTab]) (length_walk3 y C.w ht)
  · exact key (by simp [lenP, lensTab]) (length_walk4 y C.w ht)
  · exact key (by simp [lenP, lensTab]) (length_walk5 y C.w ht)
  · exact key (by simp [lenP, lensTab]) (length_walk6 y C.w ht)
  · exact key (by simp [lenP, lensTab]) (length_walk7 y C.w ht)
  · exact key (by simp [lenP, lensTab]) (length_walk8 y C.w ht)
  · exact key (by simp [lenP, lensTab]) (length_walk9 y C.w ht)
  · exact key (by simp [lenP, lensTab]) (length_walk10 y C.w ht)
  · exact key (by simp [lenP, lensTab]) (length_walk11 y C.w ht)
  · exact key (by simp [lenP, lensTab]) (length_walk12 y C.w ht)

end Go.Proofs.YtpincjkjoeopkaaGreatDoor
