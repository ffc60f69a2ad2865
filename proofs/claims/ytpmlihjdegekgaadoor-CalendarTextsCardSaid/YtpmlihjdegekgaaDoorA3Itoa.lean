/- strconv.Itoa at this program: the shelf's contract, laid (the fields are printed by a program after the kit's own laying). -/
import Derived.Test.YtpmlihjdegekgaaDoorA3Gen
import Derived.Shelf.Strconv.Itoa3
set_option linter.unusedSimpArgs false
set_option linter.unusedVariables false
set_option linter.unusedSectionVars false
namespace Go.Proofs.YtpmlihjdegekgaaDoor
open Go Go.Abs
open Go.RowKit (Below)

def itoaRen : Go.Shelf.Ren :=
  { f := fun x => match x with | 171 => 67 | 243 => 78 | 246 => 83 | 283 => 95 | 284 => 96 | 285 => 97 | 286 => 98 | 129 => 94 | 317 => 105 | 318 => 106 | 319 => 107 | 320 => 108 | 337 => 110 | 338 => 111 | n => n,
    t := fun x => match x with | 3 => 3 | 9 => 9 | 2 => 2 | 4 => 4 | 171 => 87 | 0 => 0 | 53 => 86 | 37 => 71 | 5 => 5 | 173 => 89 | 212 => 97 | 51 => 84 | 20 => 20 | 213 => 98 | 46 => 69 | 232 => 102 | 233 => 103 | n => n,
    g := fun x => match x with | 17 => 1 | 18 => 2 | 19 => 3 | n => n }
set_option maxRecDepth 100000 in
theorem laysItoa : LaysM.n171 Tryd.prog itoaRen where
  mixed := by kernel_rfl
  f129 := Eq.trans Tryd.func94 (congrArg some (by kernel_rfl))
  f171 := Eq.trans Tryd.func67 (congrArg some (by kernel_rfl))
  f243 := Eq.trans Tryd.func78 (congrArg some (by kernel_rfl))
  f246 := Eq.trans Tryd.func83 (congrArg some (by kernel_rfl))
  f283 := Eq.trans Tryd.func95 (congrArg some (by kernel_rfl))
  f284 := Eq.trans Tryd.func96 (congrArg some (by kernel_rfl))
  f285 := Eq.trans Tryd.func97 (congrArg some (by kernel_rfl))
  f286 := Eq.trans Tryd.func98 (congrArg some (by kernel_rfl))
  f317 := Eq.trans Tryd.func105 (congrArg some (by kernel_rfl))
  f318 := Eq.trans Tryd.func106 (congrArg some (by kernel_rfl))
  f319 := Eq.trans Tryd.func107 (congrArg some (by kernel_rfl))
  f320 := Eq.trans Tryd.func108 (congrArg some (by kernel_rfl))
  f337 := Eq.trans Tryd.func110 (congrArg some (by kernel_rfl))
  f338 := Eq.trans Tryd.func111 (congrArg some (by kernel_rfl))
  t0 := Tryd.underlying0
  a0 := Tryd.isAgg0
  z0 := Tryd.sizeOf0
  v0 := Tryd.zeroValue0
  t2 := Tryd.underlying2
  a2 := Tryd.isAgg2
  z2 := Tryd.sizeOf2
  v2 := Tryd.zeroValue2
  t3 := Tryd.underlying3
  a3 := Tryd.isAgg3
  z3 := Tryd.sizeOf3
  v3 := Tryd.zeroValue3
  t4 := Tryd.underlying4
  a4 := Tryd.isAgg4
  z4 := Tryd.sizeOf4
  v4 := Tryd.zeroValue4
  t5 := Tryd.underlying5
  a5 := Tryd.isAgg5
  z5 := Tryd.sizeOf5
  v5 := Tryd.zeroValue5
  t9 := Tryd.underlying9
  a9 := Tryd.isAgg9
  z9 := Tryd.sizeOf9
  v9 := Tryd.zeroValue9
  t20 := Tryd.underlying20
  a20 := Tryd.isAgg20
  z20 := Tryd.sizeOf20
  v20 := Tryd.zeroValue20
  t37 := Tryd.underlying71
  a37 := Tryd.isAgg71
  z37 := Tryd.sizeOf71
  v37 := Tryd.zeroValue71
  t46 := Tryd.underlying69
  a46 := Tryd.isAgg69
  z46 := Tryd.sizeOf69
  v46 := Tryd.zeroValue69
  t51 := Tryd.underlying84
  a51 := Tryd.isAgg84
  z51 := Tryd.sizeOf84
  v51 := Tryd.zeroValue84
  t53 := Tryd.underlying86
  a53 := Tryd.isAgg86
  z53 := Tryd.sizeOf86
  v53 := Tryd.zeroValue86
  t171 := Tryd.underlying87
  a171 := Tryd.isAgg87
  z171 := Tryd.sizeOf87
  v171 := Tryd.zeroValue87
  t173 := Tryd.underlying89
  a173 := Tryd.isAgg89
  z173 := Tryd.sizeOf89
  v173 := Tryd.zeroValue89
  t212 := Tryd.underlying97
  a212 := Tryd.isAgg97
  z212 := Tryd.sizeOf97
  v212 := Tryd.zeroValue97
  t213 := Tryd.underlying98
  a213 := Tryd.isAgg98
  z213 := Tryd.sizeOf98
  t232 := Tryd.underlying102
  a232 := Tryd.isAgg102
  z232 := Tryd.sizeOf102
  v232 := Tryd.zeroValue102
  t233 := Tryd.underlying103
  a233 := Tryd.isAgg103
  z233 := Tryd.sizeOf103
  v233 := Tryd.zeroValue103
  g17 := by kernel_rfl
  g18 := by kernel_rfl
  g19 := by kernel_rfl
  i0 := by kernel_rfl
  i2 := by kernel_rfl
  i3 := by kernel_rfl
  i4 := by kernel_rfl
  i5 := by kernel_rfl
  i9 := by kernel_rfl
  i20 := by kernel_rfl
  i37 := by kernel_rfl
  i46 := by kernel_rfl
  i51 := by kernel_rfl
  i53 := by kernel_rfl
  i171 := by kernel_rfl
  i173 := by kernel_rfl
  i212 := by kernel_rfl
  i232 := by kernel_rfl
  i233 := by kernel_rfl
  m17 := by kernel_rfl
  m18 := by kernel_rfl
  m19 := by kernel_rfl

theorem tabIs_of {w : World} (h : tabAt w 1 .u64 Lib.pow10Tab) {s : String} (hs : Tryd.prog.globalNamed s = some 1) : Lib.TabIs Tryd.prog w s .u64 Lib.pow10Tab := by
  obtain ⟨t, z, h⟩ := h
  unfold Lib.TabIs World.var?
  rw [hs]
  simp [h]
def itoaS (n : Int) : ByteArray := ⟨(Lib.itoa n).toArray⟩
theorem itoa_ok (n : Int) (h0 : -9223372036854775808 ≤ n) (h1 : n ≤ 9223372036854775807) : AFn Tryd.prog 67 [.int .i64 n] [] (fun v rs => v = .str (itoaS n) ∧ rs = []) := by
  refine AFn.leaf ?_
  rintro C cargs hr hok ⟨_, _, _, ht⟩ hrep
  simp only [RepL, Rep] at hrep
  obtain ⟨v1, r1, rfl, rfl, rfl⟩ := hrep
  refine (Any.strconv_Itoa laysItoa n h0 h1 C.w (tabIs_of ht (by kernel_rfl))).mono ?_
  rintro e w' ⟨rfl, k, os, rfl⟩
  refine ⟨_, .str (itoaS n), rfl, ?_, fun C' _ => by rw [Rep]; rfl, rfl, rfl⟩
  refine ⟨rfl, rfl, rfl, ?_, fun b hb => ?_⟩
  · show C.w.heap.size ≤ (C.w.heap ++ os).size
    simp
  · show (C.w.heap ++ os)[b]? = C.w.heap[b]?
    rw [Array.getElem?_append_left hb]

end Go.Proofs.YtpmlihjdegekgaaDoor
