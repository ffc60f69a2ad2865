/- The sheet, frozen. -/
import Derived.Test.YtpincjkjoeopkaaGreatDoorF9Nil
set_option linter.unusedSimpArgs false
set_option linter.unusedVariables false
set_option linter.unusedSectionVars false
namespace Go.Proofs.YtpincjkjoeopkaaGreatDoor
open Go Go.Abs
set_option linter.unusedSimpArgs false
set_option linter.unusedVariables false

/-- the lists of a day, frozen -/
def shP (V : Int → Bool → List (List AVal)) (d : Int) (k : Bool) : AVal := if (V d k).length = 0 then .nils else .pure 2 (V d k)
def shQ (V : Int → Bool → List (List AVal)) (d : Int) : AVal := .agg [.int .i64 d, shP V d false, shP V d true]
theorem sh_frzV {W : List Row} {s m : Nat} {fr to : Int} {ks : List Int} {V : Int → Bool → List (List AVal)} {X : Int → Bool → Nat} (h : ShX W s m fr to ks V X) (d : Int) (k : Bool) :
    bindV W [some s, some m] (List.range W.length) (shV X V d k) = shP V d k := by
  unfold shV shP
  split
  · rfl
  · rename_i hv
    have hne : V d k ≠ [] := fun e => hv (by rw [e]; rfl)
    have hx := h.x d k hne
    have h1 : X d k ≠ s := fun e => by
      have := h.s; rw [← e, hx] at this
      simp only [Option.some.injEq, Row.live.injEq] at this
      have := this.2.1; omega
    have h2 : X d k ≠ m := fun e => by have := h.m; rw [← e, hx] at this; cases this
    refine bindV_frz ?_ ?_ hx rfl (h.cl d k)
    · simp [pos?, h1.symm, h2.symm]
    · simp; exact row_lt hx
theorem sh_frz {W : List Row} {s m : Nat} {fr to : Int} {ks : List Int} {V : Int → Bool → List (List AVal)} {X : Int → Bool → Nat} (h : ShX W s m fr to ks V X) :
    getRows W (List.range W.length) [some s, some m] [some s, some m] = some [.live 118 3 [[.int .i64 fr, .int .i64 to, .mref 1]], .obj (.map false [.int .i64] (mapF (shQ V) ks))] := by
  have hms : s ≠ m := fun e => by have h1 := h.s; rw [e, h.m] at h1; cases h1
  have hb : bindV W [some s, some m] (List.range W.length) (.mref m) = .mref 1 := by
    simp [bindV, pos?, hms]
  have hd : ∀ d, bindV W [some s, some m] (List.range W.length) (shD X V d) = shQ V d := fun d => by
    unfold shD shQ
    rw [bindV]; simp only [bindL, sh_frzV h]; rfl
  simp only [getRows, h.s, h.m]
  congr 1
  have hr1 : bindRow W [some s, some m] (List.range W.length) (.live 118 3 [[.int .i64 fr, .int .i64 to, .mref m]]) = .live 118 3 [[.int .i64 fr, .int .i64 to, .mref 1]] := by
    simp only [bindRow, bindE, List.map_cons, List.map_nil, bindL, hb]
    rfl
  have hr2 : bindRow W [some s, some m] (List.range W.length) (.obj (.map false [.int .i64] (mapF (shD X V) ks))) = .obj (.map false [.int .i64] (mapF (shQ V) ks)) := by
    simp only [bindRow, mapF, List.map_map]
    congr 2
    refine List.map_congr_left fun d _ => ?_
    simp only [Function.comp_apply, hd]
    rfl
  rw [hr1, hr2]

end Go.Proofs.YtpincjkjoeopkaaGreatDoor
