/- From the row's condition on the package-level variable to what the walk knows. -/
import Derived.Test.YtpincjkjoeopkaaGreatDoorF3Gen
import Derived.Test.YtpincjkjoeopkaaGreatDoorRows
import Derived.Lib.LaidU8
set_option linter.unusedSimpArgs false
set_option linter.unusedVariables false
set_option linter.unusedSectionVars false
namespace Go.Proofs.YtpincjkjoeopkaaGreatDoor
open Go Go.Abs

theorem tab_of_reads {w : World} {s : String} {d : DataW Unit} (h : Lib.VarReads Tryz.prog w s d) {g : Nat} {t e : TypeId} {n : Nat} {k : IntKind} {zs : List Int} (hd : d = Lib.tabData k zs)
    (hg : Tryz.prog.globalNamed s = some g) (hty : (Tryz.prog.globals[g]?).map (·.type) = some t) (ht : Tryz.prog.underlying t = some (.array n e)) (he : Tryz.prog.underlying e = some (.int k)) (hce : Tryz.prog.cellsOf e = 1) (hct : Tryz.prog.cellsOf t = n) : tabAt w g k zs := by
  subst hd
  obtain ⟨g', t', cs, fuel, p, hg', ht', hvar, hdd⟩ := h
  obtain rfl := Option.some.inj (hg.symm.trans hg')
  obtain rfl := Option.some.inj (hty.symm.trans ht')
  have hcs := Lib.cells_of_tab ht he hce hct hdd
  unfold World.var? at hvar
  rw [hg, Option.bind_some] at hvar
  split at hvar
  · rename_i cs' e' z' hh
    cases hvar
    refine ⟨e', z', ?_⟩
    rw [hh, ← hcs]
  · cases hvar

set_option maxRecDepth 100000 in
theorem gok_of_laid {w : World} (h : laidMet Tryz.prog Rows.timesheetLimitsRow.laid w) : GOk (ctx0 w) := by
  have h1 : tabAt w 0 .i64 lensTab := tab_of_reads (Lib.laidMet.reads h (List.Mem.head _)) (t := 394) (e := 3) (n := 12) (by rfl) (by kernel_rfl) (by kernel_rfl) Tryz.underlying394 Tryz.underlying3 (by kernel_rfl) (by kernel_rfl)
  refine ⟨?_, fun b hb r c hc => by simp [ctx0] at hc, h1⟩
  obtain ⟨t, z, h2⟩ := h1
  show 1 ≤ w.heap.size
  rcases Nat.lt_or_ge 0 w.heap.size with h | h
  · exact h
  · rw [Array.getElem?_eq_none h] at h2; cases h2

end Go.Proofs.YtpincjkjoeopkaaGreatDoor
