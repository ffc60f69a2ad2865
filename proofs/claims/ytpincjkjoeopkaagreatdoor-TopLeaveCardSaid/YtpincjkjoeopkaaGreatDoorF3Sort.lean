/- slices.Sort and slices.Compact at this program: the shelf's contracts, laid (the fields are printed by lays.py after the kit's own laying). -/
import Derived.Test.YtpincjkjoeopkaaGreatDoorF3Gen
import Derived.Test.YtpincjkjoeopkaaGreatDoorAbsMd
import Derived.Shelf.Sort.Plain
import Derived.Shelf.Slices.In.SortNone
import Derived.Shelf.Slices.CompactI
import Derived.Lib.SlicesCompact
set_option linter.unusedSimpArgs false
set_option linter.unusedVariables false
set_option linter.unusedSectionVars false
namespace Go.Proofs.YtpincjkjoeopkaaGreatDoor
open Go Go.Abs
open Go.RowKit (Below)
set_option linter.unusedSimpArgs false

def sortRen : Go.Shelf.Ren :=
  { f := fun x => match x with | 189 => 127 | 125 => 158 | 257 => 211 | 128 => 241 | 129 => 242 | 294 => 263 | 295 => 264 | 296 => 265 | 297 => 266 | 298 => 267 | 299 => 268 | 216 => 269 | 300 => 270 | 301 => 271 | 328 => 333 | 329 => 290 | 330 => 291 | 331 => 334 | 332 => 335 | 215 => 159 | 343 => 357 | n => n,
    t := fun x => match x with | 28 => 47 | 3 => 3 | 46 => 284 | 0 => 0 | 51 => 347 | 53 => 349 | 4 => 4 | 183 => 341 | 182 => 340 | 131 => 206 | 5 => 5 | 9 => 9 | 218 => 376 | 222 => 380 | 228 => 412 | 229 => 308 | n => n,
    g := fun n => n }
set_option maxRecDepth 100000 in
theorem laysSort : Lays.n189 Tryz.prog sortRen where
  mixed := by kernel_rfl
  f125 := Eq.trans Tryz.func158 (congrArg some (by kernel_rfl))
  f128 := Eq.trans Tryz.func241 (congrArg some (by kernel_rfl))
  f129 := Eq.trans Tryz.func242 (congrArg some (by kernel_rfl))
  f189 := Eq.trans Tryz.func127 (congrArg some (by kernel_rfl))
  f215 := Eq.trans Tryz.func159 (congrArg some (by kernel_rfl))
  f216 := Eq.trans Tryz.func269 (congrArg some (by kernel_rfl))
  f257 := Eq.trans Tryz.func211 (congrArg some (by kernel_rfl))
  f294 := Eq.trans Tryz.func263 (congrArg some (by kernel_rfl))
  f295 := Eq.trans Tryz.func264 (congrArg some (by kernel_rfl))
  f296 := Eq.trans Tryz.func265 (congrArg some (by kernel_rfl))
  f297 := Eq.trans Tryz.func266 (congrArg some (by kernel_rfl))
  f298 := Eq.trans Tryz.func267 (congrArg some (by kernel_rfl))
  f299 := Eq.trans Tryz.func268 (congrArg some (by kernel_rfl))
  f300 := Eq.trans Tryz.func270 (congrArg some (by kernel_rfl))
  f301 := Eq.trans Tryz.func271 (congrArg some (by kernel_rfl))
  f328 := Eq.trans Tryz.func333 (congrArg some (by kernel_rfl))
  f329 := Eq.trans Tryz.func290 (congrArg some (by kernel_rfl))
  f330 := Eq.trans Tryz.func291 (congrArg some (by kernel_rfl))
  f331 := Eq.trans Tryz.func334 (congrArg some (by kernel_rfl))
  f332 := Eq.trans Tryz.func335 (congrArg some (by kernel_rfl))
  f343 := Eq.trans Tryz.func357 (congrArg some (by kernel_rfl))
  t0 := Tryz.underlying0
  a0 := Tryz.isAgg0
  z0 := Tryz.sizeOf0
  v0 := Tryz.zeroValue0
  t3 := Tryz.underlying3
  a3 := Tryz.isAgg3
  z3 := Tryz.sizeOf3
  v3 := Tryz.zeroValue3
  t4 := Tryz.underlying4
  a4 := Tryz.isAgg4
  z4 := Tryz.sizeOf4
  v4 := Tryz.zeroValue4
  t5 := Tryz.underlying5
  a5 := Tryz.isAgg5
  z5 := Tryz.sizeOf5
  v5 := Tryz.zeroValue5
  t9 := Tryz.underlying9
  a9 := Tryz.isAgg9
  z9 := Tryz.sizeOf9
  v9 := Tryz.zeroValue9
  t28 := Tryz.underlying47
  a28 := Tryz.isAgg47
  z28 := Tryz.sizeOf47
  v28 := Tryz.zeroValue47
  t46 := Tryz.underlying284
  a46 := Tryz.isAgg284
  z46 := Tryz.sizeOf284
  v46 := Tryz.zeroValue284
  t51 := Tryz.underlying347
  a51 := Tryz.isAgg347
  z51 := Tryz.sizeOf347
  v51 := Tryz.zeroValue347
  t53 := Tryz.underlying349
  a53 := Tryz.isAgg349
  z53 := Tryz.sizeOf349
  v53 := Tryz.zeroValue349
  t131 := Tryz.underlying206
  a131 := Tryz.isAgg206
  z131 := Tryz.sizeOf206
  v131 := Tryz.zeroValue206
  t182 := Tryz.underlying340
  a182 := Tryz.isAgg340
  z182 := Tryz.sizeOf340
  v182 := Tryz.zeroValue340
  t183 := Tryz.underlying341
  a183 := Tryz.isAgg341
  z183 := Tryz.sizeOf341
  v183 := Tryz.zeroValue341
  t218 := Tryz.underlying376
  a218 := Tryz.isAgg376
  z218 := Tryz.sizeOf376
  v218 := Tryz.zeroValue376
  t222 := Tryz.underlying380
  a222 := Tryz.isAgg380
  z222 := Tryz.sizeOf380
  v222 := Tryz.zeroValue380
  t228 := Tryz.underlying412
  a228 := Tryz.isAgg412
  z228 := Tryz.sizeOf412
  v228 := Tryz.zeroValue412
  t229 := Tryz.underlying308
  a229 := Tryz.isAgg308
  z229 := Tryz.sizeOf308
  v229 := Tryz.zeroValue308
def compRen : Go.Shelf.Ren :=
  { f := fun x => match x with | 20 => 186 | n => n,
    t := fun x => match x with | 22 => 47 | 3 => 3 | 4 => 4 | 0 => 0 | n => n,
    g := fun n => n }
set_option maxRecDepth 100000 in
theorem laysComp : Lays2.n20 Tryz.prog compRen where
  mixed := by kernel_rfl
  f20 := Eq.trans Tryz.func186 (congrArg some (by kernel_rfl))
  t0 := Tryz.underlying0
  a0 := Tryz.isAgg0
  z0 := Tryz.sizeOf0
  v0 := Tryz.zeroValue0
  t3 := Tryz.underlying3
  a3 := Tryz.isAgg3
  z3 := Tryz.sizeOf3
  v3 := Tryz.zeroValue3
  t4 := Tryz.underlying4
  a4 := Tryz.isAgg4
  z4 := Tryz.sizeOf4
  v4 := Tryz.zeroValue4
  t22 := Tryz.underlying47
  a22 := Tryz.isAgg47
  z22 := Tryz.sizeOf47
  v22 := Tryz.zeroValue47
  i3 := by kernel_rfl

def srt (zs : List Int) : List Int := zs.mergeSort fun x y => decide (x ≤ y)
theorem srt_length (zs : List Int) : (srt zs).length = zs.length := by unfold srt; exact List.length_mergeSort zs
theorem compact_le (zs : List Int) : (Lib.compact zs).length ≤ zs.length := by
  unfold Lib.compact Lib.compactUpTo
  rw [List.length_map]
  refine Nat.le_trans (List.length_filter_le _ _) ?_
  simp
theorem sortN_ok (zs : List Int) (hz : zs.length < 4611686018427387904) : AFn Tryz.prog 127 [.own 0 zs.length 0 zs.length] [.live 3 1 (numsE .i64 zs)] (fun v rs => v = .tup [] ∧ rs = [.live 3 1 (numsE .i64 (srt zs))]) := by
  by_cases h0 : 0 < zs.length
  · refine AFn.inPlace (srt_length zs) h0 (fun w b cap h1 h2 => ?_)
    exact Any.slices_Sort_int laysSort b 0 cap zs w h1 h2 hz
  · obtain rfl : zs = [] := List.length_eq_zero_iff.1 (by omega)
    refine AFn.leaf ?_
    rintro C cargs hr hok hG hrep
    rw [RepL] at hrep
    obtain ⟨v1, r1, rfl, hv, hn⟩ := hrep
    rw [RepL] at hn
    subst hn
    rw [Rep] at hv
    obtain ⟨_, ⟨ao, c, rfl⟩, _⟩ := hv
    refine (calls_of_every_depth fun D => AnyS.slices_Sort_int_none_in laysSort D ao c C.w).mono ?_
    rintro e w' ⟨rfl, rfl⟩
    exact ⟨_, .tup [], rfl, ⟨Below.refl _ _, Nat.le_refl _⟩, fun C' _ => by rw [Rep]; exact ⟨#[], rfl, by simp [RepL]⟩, rfl, by simp [srt]⟩
theorem compactN_ok (zs : List Int) (hz : zs.length < 4611686018427387904) : AFn Tryz.prog 186 [.own 0 zs.length 0 zs.length] [.live 3 1 (numsE .i64 zs)]
    (fun v rs => v = .own 0 zs.length 0 (Lib.compact zs).length ∧ rs = [.live 3 1 (numsE .i64 (Lib.compact zs ++ List.replicate (zs.length - (Lib.compact zs).length) 0))]) := by
  have hle := compact_le zs
  by_cases h0 : 0 < zs.length
  · refine AFn.inPlaceCut (by simp; omega) h0 hle (fun w b cap h1 h2 h3 => ?_)
    refine (Any.slices_Compact_int laysComp b 0 cap zs w h1 (by omega) h3).mono ?_
    rintro e w' ⟨rfl, q, rfl⟩
    exact ⟨rfl, q, #[], by simp [Go.Sort.grow]; rfl⟩
  · obtain rfl : zs = [] := List.length_eq_zero_iff.1 (by omega)
    refine AFn.leaf ?_
    rintro C cargs hr hok hG hrep
    rw [RepL] at hrep
    obtain ⟨v1, r1, rfl, hv, hn⟩ := hrep
    rw [RepL] at hn
    subst hn
    have hv' := hv
    rw [Rep] at hv'
    obtain ⟨_, ⟨ao, c, rfl⟩, _⟩ := hv'
    refine (Any.slices_Compact_int_empty laysComp ao c C.w).mono ?_
    rintro e w' ⟨rfl, rfl⟩
    exact ⟨_, .own 0 0 0 0, rfl, ⟨Below.refl _ _, Nat.le_refl _⟩, fun C' hx => Rep.ext hx _ _ hv, rfl, rfl⟩

end Go.Proofs.YtpincjkjoeopkaaGreatDoor
