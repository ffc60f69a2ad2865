/- slices.Sort and slices.Compact at this program: the shelf's contracts, laid (the fields are printed by lays.py after the kit's own laying). -/
import Derived.Test.YtlanehcihoiglaaGreatDoorE3Ref3
import Derived.Test.YtlanehcihoiglaaGreatDoorAbsMd
import Derived.Shelf.Sort.Plain
import Derived.Shelf.Slices.In.SortNone
import Derived.Shelf.Slices.CompactI
import Derived.Lib.SlicesCompact
set_option linter.unusedSimpArgs false
set_option linter.unusedVariables false
set_option linter.unusedSectionVars false
namespace Go.Proofs.YtlanehcihoiglaaGreatDoor
open Go Go.Abs
open Go.RowKit (Below)
set_option linter.unusedSimpArgs false

def sortRen : Go.Shelf.Ren :=
  { f := fun x => match x with | 189 => 71 | 125 => 86 | 257 => 85 | 128 => 100 | 129 => 101 | 294 => 91 | 295 => 92 | 296 => 93 | 297 => 94 | 298 => 95 | 299 => 96 | 216 => 97 | 300 => 98 | 301 => 99 | 328 => 105 | 329 => 106 | 330 => 107 | 331 => 108 | 332 => 109 | 215 => 89 | 343 => 111 | n => n,
    t := fun x => match x with | 28 => 22 | 3 => 3 | 46 => 85 | 0 => 0 | 51 => 108 | 53 => 83 | 4 => 4 | 183 => 101 | 182 => 100 | 131 => 50 | 5 => 5 | 9 => 9 | 218 => 112 | 222 => 115 | 228 => 117 | 229 => 76 | n => n,
    g := fun n => n }
set_option maxRecDepth 100000 in
theorem laysSort : Lays.n189 Tryz.prog sortRen where
  mixed := by kernel_rfl
  f125 := Eq.trans Tryz.func86 (congrArg some (by kernel_rfl))
  f128 := Eq.trans Tryz.func100 (congrArg some (by kernel_rfl))
  f129 := Eq.trans Tryz.func101 (congrArg some (by kernel_rfl))
  f189 := Eq.trans Tryz.func71 (congrArg some (by kernel_rfl))
  f215 := Eq.trans Tryz.func89 (congrArg some (by kernel_rfl))
  f216 := Eq.trans Tryz.func97 (congrArg some (by kernel_rfl))
  f257 := Eq.trans Tryz.func85 (congrArg some (by kernel_rfl))
  f294 := Eq.trans Tryz.func91 (congrArg some (by kernel_rfl))
  f295 := Eq.trans Tryz.func92 (congrArg some (by kernel_rfl))
  f296 := Eq.trans Tryz.func93 (congrArg some (by kernel_rfl))
  f297 := Eq.trans Tryz.func94 (congrArg some (by kernel_rfl))
  f298 := Eq.trans Tryz.func95 (congrArg some (by kernel_rfl))
  f299 := Eq.trans Tryz.func96 (congrArg some (by kernel_rfl))
  f300 := Eq.trans Tryz.func98 (congrArg some (by kernel_rfl))
  f301 := Eq.trans Tryz.func99 (congrArg some (by kernel_rfl))
  f328 := Eq.trans Tryz.func105 (congrArg some (by kernel_rfl))
  f329 := Eq.trans Tryz.func106 (congrArg some (by kernel_rfl))
  f330 := Eq.trans Tryz.func107 (congrArg some (by kernel_rfl))
  f331 := Eq.trans Tryz.func108 (congrArg some (by kernel_rfl))
  f332 := Eq.trans Tryz.func109 (congrArg some (by kernel_rfl))
  f343 := Eq.trans Tryz.func111 (congrArg some (by kernel_rfl))
  t0 := Tryz.underlying0
  a0 := Tryz.isAgg0
  z0 := Tryz.sizeOf0
  v0 := Tryz.zeroValue0
  t3 := Tryz.underlying3
  a3 := Tryz.isAgg3
  z3 := Tryz.sizeOf3
  v3 := Tryz.zeroValue3
  t4 := Tryz.underlying4
  a4 := Tryz.isAgg4
  z4 := Tryz.sizeOf4
  v4 := Tryz.zeroValue4
  t5 := Tryz.underlying5
  a5 := Tryz.isAgg5
  z5 := Tryz.sizeOf5
  v5 := Tryz.zeroValue5
  t9 := Tryz.underlying9
  a9 := Tryz.isAgg9
  z9 := Tryz.sizeOf9
  v9 := Tryz.zeroValue9
  t28 := Tryz.underlying22
  a28 := Tryz.isAgg22
  z28 := Tryz.sizeOf22
  v28 := Tryz.zeroValue22
  t46 := Tryz.underlying85
  a46 := Tryz.isAgg85
  z46 := Tryz.sizeOf85
  v46 := Tryz.zeroValue85
  t51 := Tryz.underlying108
  a51 := Tryz.isAgg108
  z51 := Tryz.sizeOf108
  v51 := Tryz.zeroValue108
  t53 := Tryz.underlying83
  a53 := Tryz.isAgg83
  z53 := Tryz.sizeOf83
  v53 := Tryz.zeroValue83
  t131 := Tryz.underlying50
  a131 := Tryz.isAgg50
  z131 := Tryz.sizeOf50
  v131 := Tryz.zeroValue50
  t182 := Tryz.underlying100
  a182 := Tryz.isAgg100
  z182 := Tryz.sizeOf100
  v182 := Tryz.zeroValue100
  t183 := Tryz.underlying101
  a183 := Tryz.isAgg101
  z183 := Tryz.sizeOf101
  v183 := Tryz.zeroValue101
  t218 := Tryz.underlying112
  a218 := Tryz.isAgg112
  z218 := Tryz.sizeOf112
  v218 := Tryz.zeroValue112
  t222 := Tryz.underlying115
  a222 := Tryz.isAgg115
  z222 := Tryz.sizeOf115
  v222 := Tryz.zeroValue115
  t228 := Tryz.underlying117
  a228 := Tryz.isAgg117
  z228 := Tryz.sizeOf117
  v228 := Tryz.zeroValue117
  t229 := Tryz.underlying76
  a229 := Tryz.isAgg76
  z229 := Tryz.sizeOf76
  v229 := Tryz.zeroValue76
def compRen : Go.Shelf.Ren :=
  { f := fun x => match x with | 20 => 72 | n => n,
    t := fun x => match x with | 22 => 22 | 3 => 3 | 4 => 4 | 0 => 0 | n => n,
    g := fun n => n }
set_option maxRecDepth 100000 in
theorem laysComp : Lays2.n20 Tryz.prog compRen where
  mixed := by kernel_rfl
  f20 := Eq.trans Tryz.func72 (congrArg some (by kernel_rfl))
  t0 := Tryz.underlying0
  a0 := Tryz.isAgg0
  z0 := Tryz.sizeOf0
  v0 := Tryz.zeroValue0
  t3 := Tryz.underlying3
  a3 := Tryz.isAgg3
  z3 := Tryz.sizeOf3
  v3 := Tryz.zeroValue3
  t4 := Tryz.underlying4
  a4 := Tryz.isAgg4
  z4 := Tryz.sizeOf4
  v4 := Tryz.zeroValue4
  t22 := Tryz.underlying22
  a22 := Tryz.isAgg22
  z22 := Tryz.sizeOf22
  v22 := Tryz.zeroValue22
  i3 := by kernel_rfl

def srt (zs : List Int) : List Int := zs.mergeSort fun x y => decide (x ≤ y)
theorem srt_length (zs : List Int) : (srt zs).length = zs.length := by unfold srt; exact List.length_mergeSort zs
theorem compact_le (zs : List Int) : (Lib.compact zs).length ≤ zs.length := by
  unfold Lib.compact Lib.compactUpTo
  rw [List.length_map]
  refine Nat.le_trans (List.length_filter_le _ _) ?_
  simp
theorem sortN_ok (zs : List Int) (hz : zs.length < 4611686018427387904) : AFn Tryz.prog 71 [.own 0 zs.length 0 zs.length] [.live 3 1 (numsE .i64 zs)] (fun v rs => v = .tup [] ∧ rs = [.live 3 1 (numsE .i64 (srt zs))]) := by
  by_cases h0 : 0 < zs.length
  · refine AFn.inPlace (srt_length zs) h0 (fun w b cap h1 h2 => ?_)
    exact Any.slices_Sort_int laysSort b 0 cap zs w h1 h2 hz
  · obtain rfl : zs = [] := List.length_eq_zero_iff.1 (by omega)
    refine AFn.leaf ?_
    rintro C cargs hr hok hG hrep
    rw [RepL] at hrep
    obtain ⟨v1, r1, rfl, hv, hn⟩ := hrep
    rw [RepL] at hn
    subst hn
    rw [Rep] at hv
    obtain ⟨_, ⟨ao, c, rfl⟩, _⟩ := hv
    refine (calls_of_every_depth fun D => AnyS.slices_Sort_int_none_in laysSort D ao c C.w).mono ?_
    rintro e w' ⟨rfl, rfl⟩
    exact ⟨_, .tup [], rfl, ⟨Below.refl _ _, Nat.le_refl _⟩, fun C' _ => by rw [Rep]; exact ⟨#[], rfl, by simp [RepL]⟩, rfl, by simp [srt]⟩
theorem compactN_ok (zs : List Int) (hz : zs.length < 4611686018427387904) : AFn Tryz.prog 72 [.own 0 zs.length 0 zs.length] [.live 3 1 (numsE .i64 zs)]
    (fun v rs => v = .own 0 zs.length 0 (Lib.compact zs).length ∧ rs = [.live 3 1 (numsE .i64 (Lib.compact zs ++ List.replicate (zs.length - (Lib.compact zs).length) 0))]) := by
  have hle := compact_le zs
  by_cases h0 : 0 < zs.length
  · refine AFn.inPlaceCut (by simp; omega) h0 hle (fun w b cap h1 h2 h3 => ?_)
    refine (Any.slices_Compact_int laysComp b 0 cap zs w h1 (by omega) h3).mono ?_
    rintro e w' ⟨rfl, q, rfl⟩
    exact ⟨rfl, q, #[], by simp [Go.Sort.grow]; rfl⟩
  · obtain rfl : zs = [] := List.length_eq_zero_iff.1 (by omega)
    refine AFn.leaf ?_
    rintro C cargs hr hok hG hrep
    rw [RepL] at hrep
    obtain ⟨v1, r1, rfl, hv, hn⟩ := hrep
    rw [RepL] at hn
    subst hn
    have hv' := hv
    rw [Rep] at hv'
    obtain ⟨_, ⟨ao, c, rfl⟩, _⟩ := hv'
    refine (Any.slices_Compact_int_empty laysComp ao c C.w).mono ?_
    rintro e w' ⟨rfl, rfl⟩
    exact ⟨_, .own 0 0 0 0, rfl, ⟨Below.refl _ _, Nat.le_refl _⟩, fun C' hx => Rep.ext hx _ _ hv, rfl, rfl⟩

end Go.Proofs.YtlanehcihoiglaaGreatDoor
