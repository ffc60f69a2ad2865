/- slices.Sort and slices.Compact at this program: the shelf's contracts, laid (the fields are printed by lays.py after the kit's own laying). -/
import Derived.Test.YtefemdpicjgkeaaGreatDoorZ3Ref3
import Derived.Test.YtefemdpicjgkeaaGreatDoorAbsMd
import Derived.Shelf.Sort.Plain
import Derived.Shelf.Slices.In.SortNone
import Derived.Shelf.Slices.CompactI
import Derived.Lib.SlicesCompact
set_option linter.unusedSimpArgs false
set_option linter.unusedVariables false
set_option linter.unusedSectionVars false
namespace Go.Proofs.YtefemdpicjgkeaaGreatDoor
open Go Go.Abs
open Go.RowKit (Below)
set_option linter.unusedSimpArgs false

def sortRen : Go.Shelf.Ren :=
  { f := fun x => match x with | 189 => 39 | 125 => 55 | 257 => 54 | 128 => 72 | 129 => 73 | 294 => 63 | 295 => 64 | 296 => 65 | 297 => 66 | 298 => 67 | 299 => 68 | 216 => 69 | 300 => 70 | 301 => 71 | 328 => 82 | 329 => 83 | 330 => 84 | 331 => 85 | 332 => 86 | 215 => 87 | 343 => 95 | n => n,
    t := fun x => match x with | 28 => 22 | 3 => 3 | 46 => 106 | 0 => 0 | 51 => 123 | 53 => 125 | 4 => 4 | 183 => 116 | 182 => 115 | 131 => 87 | 5 => 5 | 9 => 9 | 218 => 131 | 222 => 135 | 228 => 139 | 229 => 91 | n => n,
    g := fun n => n }
set_option maxRecDepth 100000 in
theorem laysSort : Lays.n189 Tryz.prog sortRen where
  mixed := by kernel_rfl
  f125 := Eq.trans Tryz.func55 (congrArg some (by kernel_rfl))
  f128 := Eq.trans Tryz.func72 (congrArg some (by kernel_rfl))
  f129 := Eq.trans Tryz.func73 (congrArg some (by kernel_rfl))
  f189 := Eq.trans Tryz.func39 (congrArg some (by kernel_rfl))
  f215 := Eq.trans Tryz.func87 (congrArg some (by kernel_rfl))
  f216 := Eq.trans Tryz.func69 (congrArg some (by kernel_rfl))
  f257 := Eq.trans Tryz.func54 (congrArg some (by kernel_rfl))
  f294 := Eq.trans Tryz.func63 (congrArg some (by kernel_rfl))
  f295 := Eq.trans Tryz.func64 (congrArg some (by kernel_rfl))
  f296 := Eq.trans Tryz.func65 (congrArg some (by kernel_rfl))
  f297 := Eq.trans Tryz.func66 (congrArg some (by kernel_rfl))
  f298 := Eq.trans Tryz.func67 (congrArg some (by kernel_rfl))
  f299 := Eq.trans Tryz.func68 (congrArg some (by kernel_rfl))
  f300 := Eq.trans Tryz.func70 (congrArg some (by kernel_rfl))
  f301 := Eq.trans Tryz.func71 (congrArg some (by kernel_rfl))
  f328 := Eq.trans Tryz.func82 (congrArg some (by kernel_rfl))
  f329 := Eq.trans Tryz.func83 (congrArg some (by kernel_rfl))
  f330 := Eq.trans Tryz.func84 (congrArg some (by kernel_rfl))
  f331 := Eq.trans Tryz.func85 (congrArg some (by kernel_rfl))
  f332 := Eq.trans Tryz.func86 (congrArg some (by kernel_rfl))
  f343 := Eq.trans Tryz.func95 (congrArg some (by kernel_rfl))
  t0 := Tryz.underlying0
  a0 := Tryz.isAgg0
  z0 := Tryz.sizeOf0
  v0 := Tryz.zeroValue0
  t3 := Tryz.underlying3
  a3 := Tryz.isAgg3
  z3 := Tryz.sizeOf3
  v3 := Tryz.zeroValue3
  t4 := Tryz.underlying4
  a4 := Tryz.isAgg4
  z4 := Tryz.sizeOf4
  v4 := Tryz.zeroValue4
  t5 := Tryz.underlying5
  a5 := Tryz.isAgg5
  z5 := Tryz.sizeOf5
  v5 := Tryz.zeroValue5
  t9 := Tryz.underlying9
  a9 := Tryz.isAgg9
  z9 := Tryz.sizeOf9
  v9 := Tryz.zeroValue9
  t28 := Tryz.underlying22
  a28 := Tryz.isAgg22
  z28 := Tryz.sizeOf22
  v28 := Tryz.zeroValue22
  t46 := Tryz.underlying106
  a46 := Tryz.isAgg106
  z46 := Tryz.sizeOf106
  v46 := Tryz.zeroValue106
  t51 := Tryz.underlying123
  a51 := Tryz.isAgg123
  z51 := Tryz.sizeOf123
  v51 := Tryz.zeroValue123
  t53 := Tryz.underlying125
  a53 := Tryz.isAgg125
  z53 := Tryz.sizeOf125
  v53 := Tryz.zeroValue125
  t131 := Tryz.underlying87
  a131 := Tryz.isAgg87
  z131 := Tryz.sizeOf87
  v131 := Tryz.zeroValue87
  t182 := Tryz.underlying115
  a182 := Tryz.isAgg115
  z182 := Tryz.sizeOf115
  v182 := Tryz.zeroValue115
  t183 := Tryz.underlying116
  a183 := Tryz.isAgg116
  z183 := Tryz.sizeOf116
  v183 := Tryz.zeroValue116
  t218 := Tryz.underlying131
  a218 := Tryz.isAgg131
  z218 := Tryz.sizeOf131
  v218 := Tryz.zeroValue131
  t222 := Tryz.underlying135
  a222 := Tryz.isAgg135
  z222 := Tryz.sizeOf135
  v222 := Tryz.zeroValue135
  t228 := Tryz.underlying139
  a228 := Tryz.isAgg139
  z228 := Tryz.sizeOf139
  v228 := Tryz.zeroValue139
  t229 := Tryz.underlying91
  a229 := Tryz.isAgg91
  z229 := Tryz.sizeOf91
  v229 := Tryz.zeroValue91
def compRen : Go.Shelf.Ren :=
  { f := fun x => match x with | 20 => 97 | n => n,
    t := fun x => match x with | 22 => 22 | 3 => 3 | 4 => 4 | 0 => 0 | n => n,
    g := fun n => n }
set_option maxRecDepth 100000 in
theorem laysComp : Lays2.n20 Tryz.prog compRen where
  mixed := by kernel_rfl
  f20 := Eq.trans Tryz.func97 (congrArg some (by kernel_rfl))
  t0 := Tryz.underlying0
  a0 := Tryz.isAgg0
  z0 := Tryz.sizeOf0
  v0 := Tryz.zeroValue0
  t3 := Tryz.underlying3
  a3 := Tryz.isAgg3
  z3 := Tryz.sizeOf3
  v3 := Tryz.zeroValue3
  t4 := Tryz.underlying4
  a4 := Tryz.isAgg4
  z4 := Tryz.sizeOf4
  v4 := Tryz.zeroValue4
  t22 := Tryz.underlying22
  a22 := Tryz.isAgg22
  z22 := Tryz.sizeOf22
  v22 := Tryz.zeroValue22
  i3 := by kernel_rfl

def srt (zs : List Int) : List Int := zs.mergeSort fun x y => decide (x ≤ y)
theorem srt_length (zs : List Int) : (srt zs).length = zs.length := by unfold srt; exact List.length_mergeSort zs
theorem compact_le (zs : List Int) : (Lib.compact zs).length ≤ zs.length := by
  unfold Lib.compact Lib.compactUpTo
  rw [List.length_map]
  refine Nat.le_trans (List.length_filter_le _ _) ?_
  simp
theorem sortN_ok (zs : List Int) (hz : zs.length < 4611686018427387904) : AFn Tryz.prog 39 [.own 0 zs.length 0 zs.length] [.live 3 1 (numsE .i64 zs)] (fun v rs => v = .tup [] ∧ rs = [.live 3 1 (numsE .i64 (srt zs))]) := by
  by_cases h0 : 0 < zs.length
  · refine AFn.inPlace (srt_length zs) h0 (fun w b cap h1 h2 => ?_)
    exact Any.slices_Sort_int laysSort b 0 cap zs w h1 h2 hz
  · obtain rfl : zs = [] := List.length_eq_zero_iff.1 (by omega)
    refine AFn.leaf ?_
    rintro C cargs hr hok hG hrep
    rw [RepL] at hrep
    obtain ⟨v1, r1, rfl, hv, hn⟩ := hrep
    rw [RepL] at hn
    subst hn
    rw [Rep] at hv
    obtain ⟨_, ⟨ao, c, rfl⟩, _⟩ := hv
    refine (calls_of_every_depth fun D => AnyS.slices_Sort_int_none_in laysSort D ao c C.w).mono ?_
    rintro e w' ⟨rfl, rfl⟩
    exact ⟨_, .tup [], rfl, ⟨Below.refl _ _, Nat.le_refl _⟩, fun C' _ => by rw [Rep]; exact ⟨#[], rfl, by simp [RepL]⟩, rfl, by simp [srt]⟩
theorem compactN_ok (zs : List Int) (hz : zs.length < 4611686018427387904) : AFn Tryz.prog 97 [.own 0 zs.length 0 zs.length] [.live 3 1 (numsE .i64 zs)]
    (fun v rs => v = .own 0 zs.length 0 (Lib.compact zs).length ∧ rs = [.live 3 1 (numsE .i64 (Lib.compact zs ++ List.replicate (zs.length - (Lib.compact zs).length) 0))]) := by
  have hle := compact_le zs
  by_cases h0 : 0 < zs.length
  · refine AFn.inPlaceCut (by simp; omega) h0 hle (fun w b cap h1 h2 h3 => ?_)
    refine (Any.slices_Compact_int laysComp b 0 cap zs w h1 (by omega) h3).mono ?_
    rintro e w' ⟨rfl, q, rfl⟩
    exact ⟨rfl, q, #[], by simp [Go.Sort.grow]; rfl⟩
  · obtain rfl : zs = [] := List.length_eq_zero_iff.1 (by omega)
    refine AFn.leaf ?_
    rintro C cargs hr hok hG hrep
    rw [RepL] at hrep
    obtain ⟨v1, r1, rfl, hv, hn⟩ := hrep
    rw [RepL] at hn
    subst hn
    have hv' := hv
    rw [Rep] at hv'
    obtain ⟨_, ⟨ao, c, rfl⟩, _⟩ := hv'
    refine (Any.slices_Compact_int_empty laysComp ao c C.w).mono ?_
    rintro e w' ⟨rfl, rfl⟩
    exact ⟨_, .own 0 0 0 0, rfl, ⟨Below.refl _ _, Nat.le_refl _⟩, fun C' hx => Rep.ext hx _ _ hv, rfl, rfl⟩

end Go.Proofs.YtefemdpicjgkeaaGreatDoor
