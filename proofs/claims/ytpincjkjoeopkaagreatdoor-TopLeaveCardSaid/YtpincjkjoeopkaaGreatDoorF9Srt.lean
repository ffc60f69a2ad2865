/- slices.SortedFunc over the keys of the absences' map. -/
import Derived.Test.YtpincjkjoeopkaaGreatDoorF9Cll
import Derived.Test.YtpincjkjoeopkaaGreatDoorAbs42
set_option linter.unusedSimpArgs false
set_option linter.unusedVariables false
set_option linter.unusedSectionVars false
namespace Go.Proofs.YtpincjkjoeopkaaGreatDoor
open Go Go.Abs
open Go.Sort (SWO)
set_option linter.unusedSimpArgs false
set_option linter.unusedVariables false

def renAk : Go.Shelf.Ren :=
  { f := fun x => match x with | 6 => 206 | 15 => 158 | 14 => 262 | 28 => 241 | 29 => 242 | 20 => 325 | 21 => 326 | 22 => 327 | 23 => 328 | 24 => 329 | 25 => 330 | 26 => 331 | 27 => 332 | 46 => 354 | 47 => 290 | 48 => 291 | 49 => 355 | 50 => 356 | 57 => 367 | n => n,
    t := fun x => match x with | 22 => 236 | 24 => 235 | 25 => 242 | 3 => 3 | 39 => 284 | 0 => 0 | 53 => 347 | 55 => 349 | 4 => 4 | 46 => 341 | 45 => 340 | 50 => 206 | 5 => 5 | 9 => 9 | 66 => 376 | 70 => 380 | 76 => 412 | 77 => 308 | n => n,
    g := fun n => n }
set_option maxRecDepth 100000 in
theorem laysAk : SlLaysF0.n6 Tryz.prog renAk where
  mixed := by kernel_rfl
  f6 := ⟨"slices.SortFunc[[]payroll/timesheet.key,payroll/timesheet.key]", by decide, Eq.trans Tryz.func206 (congrArg some (by kernel_rfl))⟩
  f14 := ⟨"slices.pdqsortCmpFunc[payroll/timesheet.key]", by decide, Eq.trans Tryz.func262 (congrArg some (by kernel_rfl))⟩
  f15 := Eq.trans Tryz.func158 (congrArg some (by kernel_rfl))
  f20 := ⟨"slices.insertionSortCmpFunc[payroll/timesheet.key]", by decide, Eq.trans Tryz.func325 (congrArg some (by kernel_rfl))⟩
  f21 := ⟨"slices.heapSortCmpFunc[payroll/timesheet.key]", by decide, Eq.trans Tryz.func326 (congrArg some (by kernel_rfl))⟩
  f22 := ⟨"slices.breakPatternsCmpFunc[payroll/timesheet.key]", by decide, Eq.trans Tryz.func327 (congrArg some (by kernel_rfl))⟩
  f23 := ⟨"slices.choosePivotCmpFunc[payroll/timesheet.key]", by decide, Eq.trans Tryz.func328 (congrArg some (by kernel_rfl))⟩
  f24 := ⟨"slices.reverseRangeCmpFunc[payroll/timesheet.key]", by decide, Eq.trans Tryz.func329 (congrArg some (by kernel_rfl))⟩
  f25 := ⟨"slices.partialInsertionSortCmpFunc[payroll/timesheet.key]", by decide, Eq.trans Tryz.func330 (congrArg some (by kernel_rfl))⟩
  f26 := ⟨"slices.partitionEqualCmpFunc[payroll/timesheet.key]", by decide, Eq.trans Tryz.func331 (congrArg some (by kernel_rfl))⟩
  f27 := ⟨"slices.partitionCmpFunc[payroll/timesheet.key]", by decide, Eq.trans Tryz.func332 (congrArg some (by kernel_rfl))⟩
  f28 := Eq.trans Tryz.func241 (congrArg some (by kernel_rfl))
  f29 := Eq.trans Tryz.func242 (congrArg some (by kernel_rfl))
  f46 := ⟨"slices.siftDownCmpFunc[payroll/timesheet.key]", by decide, Eq.trans Tryz.func354 (congrArg some (by kernel_rfl))⟩
  f47 := Eq.trans Tryz.func290 (congrArg some (by kernel_rfl))
  f48 := Eq.trans Tryz.func291 (congrArg some (by kernel_rfl))
  f49 := ⟨"slices.medianAdjacentCmpFunc[payroll/timesheet.key]", by decide, Eq.trans Tryz.func355 (congrArg some (by kernel_rfl))⟩
  f50 := ⟨"slices.medianCmpFunc[payroll/timesheet.key]", by decide, Eq.trans Tryz.func356 (congrArg some (by kernel_rfl))⟩
  f57 := ⟨"slices.order2CmpFunc[payroll/timesheet.key]", by decide, Eq.trans Tryz.func367 (congrArg some (by kernel_rfl))⟩
  t0 := Tryz.underlying0
  a0 := Tryz.isAgg0
  z0 := Tryz.sizeOf0
  v0 := Tryz.zeroValue0
  t3 := Tryz.underlying3
  a3 := Tryz.isAgg3
  z3 := Tryz.sizeOf3
  v3 := Tryz.zeroValue3
  t4 := Tryz.underlying4
  a4 := Tryz.isAgg4
  z4 := Tryz.sizeOf4
  v4 := Tryz.zeroValue4
  t5 := Tryz.underlying5
  a5 := Tryz.isAgg5
  z5 := Tryz.sizeOf5
  v5 := Tryz.zeroValue5
  t9 := Tryz.underlying9
  a9 := Tryz.isAgg9
  z9 := Tryz.sizeOf9
  v9 := Tryz.zeroValue9
  t22 := Tryz.underlying236
  a22 := Tryz.isAgg236
  z22 := Tryz.sizeOf236
  v22 := Tryz.zeroValue236
  t25 := Tryz.underlying242
  a25 := Tryz.isAgg242
  z25 := Tryz.sizeOf242
  v25 := Tryz.zeroValue242
  t39 := Tryz.underlying284
  a39 := Tryz.isAgg284
  z39 := Tryz.sizeOf284
  v39 := Tryz.zeroValue284
  t45 := Tryz.underlying340
  a45 := Tryz.isAgg340
  z45 := Tryz.sizeOf340
  v45 := Tryz.zeroValue340
  t46 := Tryz.underlying341
  a46 := Tryz.isAgg341
  z46 := Tryz.sizeOf341
  v46 := Tryz.zeroValue341
  t50 := Tryz.underlying206
  a50 := Tryz.isAgg206
  z50 := Tryz.sizeOf206
  v50 := Tryz.zeroValue206
  t53 := Tryz.underlying347
  a53 := Tryz.isAgg347
  z53 := Tryz.sizeOf347
  v53 := Tryz.zeroValue347
  t55 := Tryz.underlying349
  a55 := Tryz.isAgg349
  z55 := Tryz.sizeOf349
  v55 := Tryz.zeroValue349
  t66 := Tryz.underlying376
  a66 := Tryz.isAgg376
  z66 := Tryz.sizeOf376
  v66 := Tryz.zeroValue376
  t70 := Tryz.underlying380
  a70 := Tryz.isAgg380
  z70 := Tryz.sizeOf380
  v70 := Tryz.zeroValue380
  t76 := Tryz.underlying412
  a76 := Tryz.isAgg412
  z76 := Tryz.sizeOf412
  v76 := Tryz.zeroValue412
  t77 := Tryz.underlying308
  a77 := Tryz.isAgg308
  z77 := Tryz.sizeOf308
  v77 := Tryz.zeroValue308

theorem swo_of {α : Type} {cf : α → α → Int} {R : α → α → Prop} (h : ∀ a b, cf a b < 0 ↔ R a b) (h1 : ∀ a, ¬ R a a) (h2 : ∀ a b c, R a b → R b c → R a c) (h3 : ∀ a b c, ¬ R a b → ¬ R b c → ¬ R a c) : SWO (ltOf cf) := by
  refine ⟨fun x => ?_, fun x y z => ?_, fun x y z => ?_⟩ <;> simp only [ltOf, decide_eq_true_eq, decide_eq_false_iff_not, h]
  · exact h1 x
  · exact h2 x y z
  · exact h3 x y z
theorem swoAK : SWO (ltOf cmpAK) := by
  refine swo_of (R := akLt) (fun a b => cmpAK_neg) (fun a => ?_) (fun a b c => ?_) (fun a b c => ?_) <;> unfold akLt
  · rintro (h | ⟨_, h⟩)
    · omega
    · exact bl_irrefl _ h
  · rintro (h | ⟨e, h⟩) (k | ⟨e', k⟩)
    · exact .inl (by omega)
    · exact .inl (by omega)
    · exact .inl (by omega)
    · exact .inr ⟨by omega, bl_trans h k⟩
  · intro h k hac
    rcases hac with hac | ⟨e, hac⟩
    · have h1 : ¬ a.d < b.d := fun e => h (.inl e)
      have h2 : ¬ b.d < c.d := fun e => k (.inl e)
      omega
    · have h1 : ¬ a.d < b.d := fun e => h (.inl e)
      have h2 : ¬ b.d < c.d := fun e => k (.inl e)
      have e1 : a.d = b.d := by omega
      have e2 : b.d = c.d := by omega
      have h3 : ¬ a.n.toList < b.n.toList := fun e => h (.inr ⟨e1, e⟩)
      have h4 : ¬ b.n.toList < c.n.toList := fun e => k (.inr ⟨e2, e⟩)
      rcases bl_tri h3 with e3 | e3
      · rw [e3] at hac; exact h4 hac
      · exact h4 (bl_trans e3 hac)
theorem sortK_ok (l : List AKey) (hl : l.length < 4611686018427387904) : AFn Tryz.prog 206 [.own 0 l.length 0 l.length, .fn 122 []] [.live 235 2 (els l)]
    (fun v rs => v = .tup [] ∧ ∃ l' : List AKey, l'.Perm l ∧ l'.Pairwise (fun x y => ¬ akLt y x) ∧ rs = [.live 235 2 (els l')]) := by
  refine AFn.ofD inferInstance ?_
  refine @AFn.mono (Glb.D inferInstance) _ _ _ _ _ _ (@AFn.sortFunc (Glb.D inferInstance) trivial AKey _ _ _ _ _ _ _ 235 laysAk rfl Tryz.isAgg235 Tryz.sizeOf235 cmpAK swoAK (@cmpAK_ok (Glb.D inferInstance)) (enters_of Tryz.func122 (by kernel_rfl) rfl) l hl) ?_
  rintro v rs ⟨rfl, l', h1, h2, rfl⟩
  exact ⟨rfl, l', h1, h2.imp fun h e => h (cmpAK_neg.2 e), rfl⟩

end Go.Proofs.YtpincjkjoeopkaaGreatDoor
