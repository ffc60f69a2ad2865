/- Overtime: the first example of the chapter. -/
import Derived.Test.YtaloobgfgehhdaaGreatR5Tot2
set_option linter.unusedSimpArgs false
set_option linter.unusedVariables false
set_option linter.unusedSectionVars false
namespace Go.Proofs.YtaloobgfgehhdaaGreat
open Go Go.Abs
set_option linter.unusedSimpArgs false
set_option linter.unusedVariables false

theorem spE_of {ws : List Wk} (h1 : ws.length ≤ 1024) (h2 : ∀ w ∈ ws, w.iv.length ≤ 1024) (h3 : ∀ w ∈ ws, wkP w) (h4 : (flatS ws).Pairwise disj) (h5 : sumS (flatS ws) ≤ 100000) : spE ws = 0 := by
  unfold spE
  rw [if_neg (by omega), if_neg (fun ⟨w, hw, h⟩ => by have := h2 w hw; omega), if_neg (fun h => h h3), if_neg (fun h => h h4), if_neg (by omega)]

def bs (l : List UInt8) : ByteArray := ⟨l.toArray⟩
def nmN : ByteArray := ⟨#[110, 111, 114, 109, 97, 108]⟩
def nmO1 : ByteArray := ⟨#[111, 116, 49]⟩
def nmO2 : ByteArray := ⟨#[111, 116, 50]⟩
def exR : Rl := ⟨nmN, [⟨nmO1, 480⟩, ⟨nmO2, 600⟩], []⟩
def exW : List Wk := [⟨5, [⟨7200, 7860⟩]⟩]
def exP : List Pc := [⟨5, 7200, 7680, nmN⟩, ⟨5, 7680, 7800, nmO1⟩, ⟨5, 7800, 7860, nmO2⟩]
theorem exR_ok : vR exR = 0 := by kernel_rfl
theorem exW_ok : spE exW = 0 := by
  refine spE_of (by decide) (by simp [exW]) ?_ (by simp [exW, flatS, flatW]) (by simp [exW, flatS, flatW, sumS])
  intro w hw
  simp only [exW, List.mem_singleton] at hw
  subst hw
  exact ⟨by decide, by simp [ivP]⟩
theorem exP_ok : (run exR (mins [⟨5, 7200, 7860⟩])).ps = exP := by kernel_rfl
theorem exT_ok : totals exP 5 = [⟨nmN, 480⟩, ⟨nmO1, 120⟩, ⟨nmO2, 60⟩] := by kernel_rfl

theorem exDiv : AFn Tryz.prog 17 [.agg [.str nmN, .pure 2 (els [Bd.mk nmO1 480, Bd.mk nmO2 600]), .nils], .pure 2 (els exW)] [] (fun v rs => v = .tup [.own 0 3 0 3, .int .i64 0] ∧ rs = [.live 81 4 (els exP)]) := by
  refine ((divide_ok exR exW (by decide)).le (by simp [leL, le, Rl.v, exR, els])).mono ?_
  rintro v rs (⟨h, _⟩ | ⟨_, h, _⟩ | ⟨_, _, S, hp, _, rfl, rfl⟩)
  · exact (h exR_ok).elim
  · exact (h exW_ok).elim
  · have hS : S = [⟨5, 7200, 7860⟩] := List.perm_singleton.1 hp
    subst hS
    rw [exP_ok]
    exact ⟨rfl, rfl⟩

theorem exVal : AFn Tryz.prog 24 [.agg [.str nmN, .pure 2 (els [Bd.mk nmO1 480, Bd.mk nmO2 600]), .nils]] [] (fun v rs => v = .int .i64 0 ∧ rs = []) := by
  refine ((valid_ok exR).le (by simp [leL, le, Rl.v, exR, els])).mono ?_
  rintro v rs ⟨rfl, rfl⟩
  rw [exR_ok]
  exact ⟨rfl, rfl⟩
theorem els_cons {α : Type} [Cel α] (x : α) (l : List α) : els (x :: l) = Cel.c x :: els l := rfl

end Go.Proofs.YtaloobgfgehhdaaGreat
