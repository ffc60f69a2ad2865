/- slices.Sort and slices.Compact at this program: the shelf's contracts, laid (the fields are printed by lays.py after the kit's own laying). -/
import Derived.Test.YtefemdpicjgkeaaDoorQ3Ref3
import Derived.Test.YtefemdpicjgkeaaDoorAbsMd
import Derived.Shelf.Sort.Plain
import Derived.Shelf.Slices.In.SortNone
import Derived.Shelf.Slices.CompactI
import Derived.Lib.SlicesCompact
set_option linter.unusedSimpArgs false
set_option linter.unusedVariables false
set_option linter.unusedSectionVars false
namespace Go.Proofs.YtefemdpicjgkeaaDoor
open Go Go.Abs
open Go.RowKit (Below)
set_option linter.unusedSimpArgs false

def sortRen : Go.Shelf.Ren :=
  { f := fun x => match x with | 189 => 40 | 125 => 54 | 257 => 53 | 128 => 73 | 129 => 74 | 294 => 64 | 295 => 65 | 296 => 66 | 297 => 67 | 298 => 68 | 299 => 69 | 216 => 70 | 300 => 71 | 301 => 72 | 328 => 86 | 329 => 87 | 330 => 88 | 331 => 89 | 332 => 90 | 215 => 91 | 343 => 95 | n => n,
    t := fun x => match x with | 28 => 42 | 3 => 3 | 46 => 100 | 0 => 0 | 51 => 120 | 53 => 122 | 4 => 4 | 183 => 114 | 182 => 113 | 131 => 89 | 5 => 5 | 9 => 9 | 218 => 128 | 222 => 132 | 228 => 135 | 229 => 84 | n => n,
    g := fun n => n }
set_option maxRecDepth 100000 in
theorem laysSort : Lays.n189 Tryd.prog sortRen where
  mixed := by kernel_rfl
  f125 := Eq.trans Tryd.func54 (congrArg some (by kernel_rfl))
  f128 := Eq.trans Tryd.func73 (congrArg some (by kernel_rfl))
  f129 := Eq.trans Tryd.func74 (congrArg some (by kernel_rfl))
  f189 := Eq.trans Tryd.func40 (congrArg some (by kernel_rfl))
  f215 := Eq.trans Tryd.func91 (congrArg some (by kernel_rfl))
  f216 := Eq.trans Tryd.func70 (congrArg some (by kernel_rfl))
  f257 := Eq.trans Tryd.func53 (congrArg some (by kernel_rfl))
  f294 := Eq.trans Tryd.func64 (congrArg some (by kernel_rfl))
  f295 := Eq.trans Tryd.func65 (congrArg some (by kernel_rfl))
  f296 := Eq.trans Tryd.func66 (congrArg some (by kernel_rfl))
  f297 := Eq.trans Tryd.func67 (congrArg some (by kernel_rfl))
  f298 := Eq.trans Tryd.func68 (congrArg some (by kernel_rfl))
  f299 := Eq.trans Tryd.func69 (congrArg some (by kernel_rfl))
  f300 := Eq.trans Tryd.func71 (congrArg some (by kernel_rfl))
  f301 := Eq.trans Tryd.func72 (congrArg some (by kernel_rfl))
  f328 := Eq.trans Tryd.func86 (congrArg some (by kernel_rfl))
  f329 := Eq.trans Tryd.func87 (congrArg some (by kernel_rfl))
  f330 := Eq.trans Tryd.func88 (congrArg some (by kernel_rfl))
  f331 := Eq.trans Tryd.func89 (congrArg some (by kernel_rfl))
  f332 := Eq.trans Tryd.func90 (congrArg some (by kernel_rfl))
  f343 := Eq.trans Tryd.func95 (congrArg some (by kernel_rfl))
  t0 := Tryd.underlying0
  a0 := Tryd.isAgg0
  z0 := Tryd.sizeOf0
  v0 := Tryd.zeroValue0
  t3 := Tryd.underlying3
  a3 := Tryd.isAgg3
  z3 := Tryd.sizeOf3
  v3 := Tryd.zeroValue3
  t4 := Tryd.underlying4
  a4 := Tryd.isAgg4
  z4 := Tryd.sizeOf4
  v4 := Tryd.zeroValue4
  t5 := Tryd.underlying5
  a5 := Tryd.isAgg5
  z5 := Tryd.sizeOf5
  v5 := Tryd.zeroValue5
  t9 := Tryd.underlying9
  a9 := Tryd.isAgg9
  z9 := Tryd.sizeOf9
  v9 := Tryd.zeroValue9
  t28 := Tryd.underlying42
  a28 := Tryd.isAgg42
  z28 := Tryd.sizeOf42
  v28 := Tryd.zeroValue42
  t46 := Tryd.underlying100
  a46 := Tryd.isAgg100
  z46 := Tryd.sizeOf100
  v46 := Tryd.zeroValue100
  t51 := Tryd.underlying120
  a51 := Tryd.isAgg120
  z51 := Tryd.sizeOf120
  v51 := Tryd.zeroValue120
  t53 := Tryd.underlying122
  a53 := Tryd.isAgg122
  z53 := Tryd.sizeOf122
  v53 := Tryd.zeroValue122
  t131 := Tryd.underlying89
  a131 := Tryd.isAgg89
  z131 := Tryd.sizeOf89
  v131 := Tryd.zeroValue89
  t182 := Tryd.underlying113
  a182 := Tryd.isAgg113
  z182 := Tryd.sizeOf113
  v182 := Tryd.zeroValue113
  t183 := Tryd.underlying114
  a183 := Tryd.isAgg114
  z183 := Tryd.sizeOf114
  v183 := Tryd.zeroValue114
  t218 := Tryd.underlying128
  a218 := Tryd.isAgg128
  z218 := Tryd.sizeOf128
  v218 := Tryd.zeroValue128
  t222 := Tryd.underlying132
  a222 := Tryd.isAgg132
  z222 := Tryd.sizeOf132
  v222 := Tryd.zeroValue132
  t228 := Tryd.underlying135
  a228 := Tryd.isAgg135
  z228 := Tryd.sizeOf135
  v228 := Tryd.zeroValue135
  t229 := Tryd.underlying84
  a229 := Tryd.isAgg84
  z229 := Tryd.sizeOf84
  v229 := Tryd.zeroValue84
def compRen : Go.Shelf.Ren :=
  { f := fun x => match x with | 20 => 97 | n => n,
    t := fun x => match x with | 22 => 42 | 3 => 3 | 4 => 4 | 0 => 0 | n => n,
    g := fun n => n }
set_option maxRecDepth 100000 in
theorem laysComp : Lays2.n20 Tryd.prog compRen where
  mixed := by kernel_rfl
  f20 := Eq.trans Tryd.func97 (congrArg some (by kernel_rfl))
  t0 := Tryd.underlying0
  a0 := Tryd.isAgg0
  z0 := Tryd.sizeOf0
  v0 := Tryd.zeroValue0
  t3 := Tryd.underlying3
  a3 := Tryd.isAgg3
  z3 := Tryd.sizeOf3
  v3 := Tryd.zeroValue3
  t4 := Tryd.underlying4
  a4 := Tryd.isAgg4
  z4 := Tryd.sizeOf4
  v4 := Tryd.zeroValue4
  t22 := Tryd.underlying42
  a22 := Tryd.isAgg42
  z22 := Tryd.sizeOf42
  v22 := Tryd.zeroValue42
  i3 := by kernel_rfl

def srt (zs : List Int) : List Int := zs.mergeSort fun x y => decide (x ≤ y)
theorem srt_length (zs : List Int) : (srt zs).length = zs.length := by unfold srt; exact List.length_mergeSort zs
theorem compact_le (zs : List Int) : (Lib.compact zs).length ≤ zs.length := by
  unfold Lib.compact Lib.compactUpTo
  rw [List.length_map]
  refine Nat.le_trans (List.length_filter_le _ _) ?_
  simp
theorem sortN_ok (zs : List Int) (hz : zs.length < 4611686018427387904) : AFn Tryd.prog 40 [.own 0 zs.length 0 zs.length] [.live 3 1 (numsE .i64 zs)] (fun v rs => v = .tup [] ∧ rs = [.live 3 1 (numsE .i64 (srt zs))]) := by
  by_cases h0 : 0 < zs.length
  · refine AFn.inPlace (srt_length zs) h0 (fun w b cap h1 h2 => ?_)
    exact Any.slices_Sort_int laysSort b 0 cap zs w h1 h2 hz
  · obtain rfl : zs = [] := List.length_eq_zero_iff.1 (by omega)
    refine AFn.leaf ?_
    rintro C cargs hr hok hG hrep
    rw [RepL] at hrep
    obtain ⟨v1, r1, rfl, hv, hn⟩ := hrep
    rw [RepL] at hn
    subst hn
    rw [Rep] at hv
    obtain ⟨_, ⟨ao, c, rfl⟩, _⟩ := hv
    refine (calls_of_every_depth fun D => AnyS.slices_Sort_int_none_in laysSort D ao c C.w).mono ?_
    rintro e w' ⟨rfl, rfl⟩
    exact ⟨_, .tup [], rfl, ⟨Below.refl _ _, Nat.le_refl _⟩, fun C' _ => by rw [Rep]; exact ⟨#[], rfl, by simp [RepL]⟩, rfl, by simp [srt]⟩
theorem compactN_ok (zs : List Int) (hz : zs.length < 4611686018427387904) : AFn Tryd.prog 97 [.own 0 zs.length 0 zs.length] [.live 3 1 (numsE .i64 zs)]
    (fun v rs => v = .own 0 zs.length 0 (Lib.compact zs).length ∧ rs = [.live 3 1 (numsE .i64 (Lib.compact zs ++ List.replicate (zs.length - (Lib.compact zs).length) 0))]) := by
  have hle := compact_le zs
  by_cases h0 : 0 < zs.length
  · refine AFn.inPlaceCut (by simp; omega) h0 hle (fun w b cap h1 h2 h3 => ?_)
    refine (Any.slices_Compact_int laysComp b 0 cap zs w h1 (by omega) h3).mono ?_
    rintro e w' ⟨rfl, q, rfl⟩
    exact ⟨rfl, q, #[], by simp [Go.Sort.grow]; rfl⟩
  · obtain rfl : zs = [] := List.length_eq_zero_iff.1 (by omega)
    refine AFn.leaf ?_
    rintro C cargs hr hok hG hrep
    rw [RepL] at hrep
    obtain ⟨v1, r1, rfl, hv, hn⟩ := hrep
    rw [RepL] at hn
    subst hn
    have hv' := hv
    rw [Rep] at hv'
    obtain ⟨_, ⟨ao, c, rfl⟩, _⟩ := hv'
    refine (Any.slices_Compact_int_empty laysComp ao c C.w).mono ?_
    rintro e w' ⟨rfl, rfl⟩
    exact ⟨_, .own 0 0 0 0, rfl, ⟨Below.refl _ _, Nat.le_refl _⟩, fun C' hx => Rep.ext hx _ _ hv, rfl, rfl⟩

end Go.Proofs.YtefemdpicjgkeaaDoor
