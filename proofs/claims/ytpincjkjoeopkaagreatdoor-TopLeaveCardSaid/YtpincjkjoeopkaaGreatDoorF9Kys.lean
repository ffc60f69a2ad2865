/- slices.Sorted over the keys of a map whose keys are ints, for three maps: the shelf's contracts, laid; the answer is a slice that never changes. -/
import Derived.Test.YtpincjkjoeopkaaGreatDoorF9Add
import Derived.Test.YtpincjkjoeopkaaGreatDoorF3Sort
import Derived.Shelf.SlIterI.Sorted
import Derived.Shelf.SlIterI.Keys
set_option linter.unusedSimpArgs false
set_option linter.unusedVariables false
set_option linter.unusedSectionVars false
namespace Go.Proofs.YtpincjkjoeopkaaGreatDoor
open Go Go.Abs Go.Maps
open Go.RowKit (Below)
set_option linter.unusedSimpArgs false
set_option linter.unusedVariables false

def renSorted : Go.Shelf.Ren :=
  { f := fun x => match x with | 6 => 47 | 8 => 126 | 9 => 127 | 11 => 210 | 13 => 158 | 12 => 211 | 23 => 241 | 24 => 242 | 14 => 263 | 15 => 264 | 16 => 265 | 17 => 266 | 18 => 267 | 19 => 268 | 20 => 269 | 21 => 270 | 22 => 271 | 25 => 333 | 26 => 290 | 27 => 291 | 28 => 334 | 29 => 335 | 30 => 159 | 31 => 357 | n => n,
    t := fun x => match x with | 26 => 3 | 28 => 125 | 24 => 47 | 0 => 0 | 3 => 3 | 37 => 284 | 48 => 347 | 50 => 349 | 4 => 4 | 40 => 341 | 39 => 340 | 45 => 206 | 5 => 5 | 9 => 9 | 51 => 376 | 55 => 380 | 57 => 412 | 58 => 308 | 33 => 244 | n => n,
    g := fun n => n }
set_option maxRecDepth 100000 in
theorem laysSorted : SlLaysZI.n6 Tryz.prog renSorted where
  mixed := by kernel_rfl
  f6 := ⟨"slices.Sorted[int]", by decide, Eq.trans Tryz.func47 (congrArg some (by kernel_rfl))⟩
  f8 := ⟨"slices.Collect[int]", by decide, Eq.trans Tryz.func126 (congrArg some (by kernel_rfl))⟩
  f11 := ⟨"slices.AppendSeq[[]int,int]", by decide, Eq.trans Tryz.func210 (congrArg some (by kernel_rfl))⟩
  t0 := Tryz.underlying0
  a0 := Tryz.isAgg0
  z0 := Tryz.sizeOf0
  v0 := Tryz.zeroValue0
  t24 := Tryz.underlying47
  a24 := Tryz.isAgg47
  z24 := Tryz.sizeOf47
  v24 := Tryz.zeroValue47
  t26 := Tryz.underlying3
  a26 := Tryz.isAgg3
  z26 := Tryz.sizeOf3
  v26 := Tryz.zeroValue3
  t28 := Tryz.underlying125
  a28 := Tryz.isAgg125
  z28 := Tryz.sizeOf125
  v28 := Tryz.zeroValue125
  i26 := by kernel_rfl

theorem repE_nums {C : Ctx} {b : Nat} : ∀ (zs : List Int) (o : Nat), (∀ i (h : i < zs.length), C.w.cell? ⟨b, o + i, none⟩ = some (.int .i64 zs[i])) → RepE C b o 1 (numsE .i64 zs)
  | [], o, _ => by simp [numsE, RepE]
  | z :: zs, o, h => by
    rw [numsE, List.map_cons, RepE]
    refine ⟨rfl, ?_, repE_nums zs (o + 1) fun i hi => ?_⟩
    · rw [RepC]
      refine ⟨⟨.int .i64 z, h 0 (Nat.zero_lt_succ _), rfl, by rw [Rep]⟩, by rw [RepC]; trivial⟩
    · have := h (i + 1) (by simpa using hi)
      rw [show o + 1 + i = o + (i + 1) by omega]
      simpa using this
theorem repL_nums {C : Ctx} : ∀ {zs : List Int} {vs : List Value}, RepL C (zs.map (AVal.int .i64 ·)) vs → vs = zs.map (Value.int .i64 ·)
  | [], vs, h => by simpa [RepL] using h
  | z :: zs, vs, h => by
    rw [List.map_cons, RepL] at h
    obtain ⟨v, rest, rfl, hv, hr⟩ := h
    rw [Rep] at hv
    rw [List.map_cons, ← repL_nums hr, hv]
theorem sortsIn (m : Nat) : AnyZI.SortsIn Tryz.prog renSorted Fence.wide m :=
  ⟨fun blk off cap ss W hH hblk hsz => callsIn_wide.2 (Any.slices_Sort_int laysSort blk off cap ss W hH hblk hsz),
   fun p cap W => callsIn_wide.2 (calls_of_every_depth fun D => AnyS.slices_Sort_int_none_in laysSort D p cap W)⟩

def valZ : Value → Int
  | .int _ z => z
  | _ => 0
def renDr : Go.Shelf.Ren :=
  { f := fun x => match x with | 7 => 48 | 10 => 128 | n => n,
    t := fun x => match x with | 23 => 116 | 26 => 3 | 3 => 76 | 28 => 125 | 0 => 0 | 27 => 124 | 33 => 244 | 4 => 4 | n => n,
    g := fun n => n }
set_option maxRecDepth 100000 in
theorem laysDr : SlLaysZI.n7 Tryz.prog renDr where
  mixed := by kernel_rfl
  f7 := ⟨"maps.Keys[map[int]payroll/api.DayResult,int,payroll/api.DayResult]", by decide, Eq.trans Tryz.func48 (congrArg some (by kernel_rfl))⟩
  f10 := ⟨"maps.Keys[map[int]payroll/api.DayResult,int,payroll/api.DayResult]$1", by decide, Eq.trans Tryz.func128 (congrArg some (by kernel_rfl))⟩
  t0 := Tryz.underlying0
  a0 := Tryz.isAgg0
  z0 := Tryz.sizeOf0
  v0 := Tryz.zeroValue0
  t4 := Tryz.underlying4
  a4 := Tryz.isAgg4
  z4 := Tryz.sizeOf4
  v4 := Tryz.zeroValue4
  t23 := Tryz.underlying116
  a23 := Tryz.isAgg116
  z23 := Tryz.sizeOf116
  v23 := Tryz.zeroValue116
  t26 := Tryz.underlying3
  a26 := Tryz.isAgg3
  z26 := Tryz.sizeOf3
  v26 := Tryz.zeroValue3
  t27 := Tryz.underlying124
  a27 := Tryz.isAgg124
  z27 := Tryz.sizeOf124
  v27 := Tryz.zeroValue124
  t28 := Tryz.underlying125
  a28 := Tryz.isAgg125
  z28 := Tryz.sizeOf125
  v28 := Tryz.zeroValue125
  t33 := Tryz.underlying244
  a33 := Tryz.isAgg244
  z33 := Tryz.sizeOf244
  v33 := Tryz.zeroValue244
theorem sortedDr_ok {rows : List Row} {a b : Nat} {T : TypeId} {ents : List (AVal × AVal)} {ks : List Int} (ha : rows[a]? = some (.obj (.map false [.int .i64] ents))) (hb : rows[b]? = some (.live T 1 [[.mref a]])) (hk : ents.map (·.1) = ks.map (AVal.int .i64 ·)) (hnd : ks.Nodup) (hwf : ∀ x ∈ ks, (Lit.int .i64 x).wf = true) (hlen : ks.length ≤ 1000000) :
    AFn Tryz.prog 47 [.fn 128 [.ref b 1 0 0]] rows
      (fun v rs => v = .pure 1 (numsE .i64 (srt ks)) ∧ rs = rows) := by
  refine AFn.leafN (fun h => h) ?_
  intro C cargs hr hok hG hrep
  have hr0 : C.rows[a]? = some (.obj (.map false [.int .i64] ents)) := by rw [hr]; exact ha
  have hr1 : C.rows[b]? = some (.live T 1 [[.mref a]]) := by rw [hr]; exact hb
  rw [RepL] at hrep
  obtain ⟨v0, rest, rfl, hv, hn⟩ := hrep
  rw [RepL] at hn
  subst hn
  rw [Rep] at hv
  obtain ⟨vs, rfl, hvs⟩ := hv
  rw [RepL] at hvs
  obtain ⟨vp, rest, hvs', hp, hn⟩ := hvs
  rw [RepL] at hn
  subst hn
  rw [Rep] at hp
  obtain ⟨hpm, _, _, hall⟩ := hp
  obtain ⟨_, h2⟩ := hall _ _ _ hr1
  obtain ⟨_, Bm, c, hphi, rfl⟩ := h2 rfl
  obtain rfl : vs = #[.pointer (some ⟨Bm, 0, none⟩)] := by
    apply Array.toList_inj.1; rw [hvs']
  rcases hok.live hr1 with ⟨_, h0'⟩ | ⟨b1, cap, cs, hp1, hom, hheap, hcs, hcap, hle, hE⟩
  · cases h0'
  rw [hphi] at hp1
  simp only [Option.some.injEq, Prod.mk.injEq] at hp1
  obtain ⟨rfl, rfl⟩ := hp1
  rw [RepE, RepC] at hE
  obtain ⟨⟨vm, hcell, _, hvm⟩, _⟩ := hE.2.1
  rw [Rep] at hvm
  obtain ⟨_, _, _, hvm⟩ := hvm
  obtain ⟨b0, c0, hphi0, rfl⟩ := hvm _ hr0
  have hro := hok.rows _ _ hr0
  rw [RowOk] at hro
  obtain ⟨b0', c0', es, hphi0', hom0, hb0, hborn, hkeys, hvals, hfits⟩ := hro
  rw [hphi0] at hphi0'
  simp only [Option.some.injEq, Prod.mk.injEq] at hphi0'
  obtain ⟨rfl, rfl⟩ := hphi0'
  have hkl : es.toList.map (·.key) = ks.map (Value.int .i64 ·) := repL_nums (by rw [← hk]; exact hkeys)
  have hsz : es.size = ks.length := by
    have := congrArg List.length hkl
    simpa using this
  let R : Value → Option (DataW Unit × List MemPlace) := fun _ => some (.nil, [])
  have hint : Tryz.prog.underlying 3 = some (.int .i64) := Tryz.underlying3
  have hrd : ∀ x ∈ es.toList, ∃ z : Int, x.key = .int .i64 z ∧ z ∈ ks ∧ Go.WideElems.rd Tryz.prog 3 R x = some (.int .i64 z, .nil) := by
    intro x hx
    have : x.key ∈ ks.map (Value.int .i64 ·) := by rw [← hkl]; exact List.mem_map_of_mem hx
    obtain ⟨z, hz, hzk⟩ := List.mem_map.1 this
    refine ⟨z, hzk.symm, hz, ?_⟩
    unfold Go.WideElems.rd
    rw [← hzk, keyOf_int_mk hint (hwf z hz)]
    rfl
  have hfit : Go.WideElems.Fit Tryz.prog 3 R es es.size := by
    refine ⟨by rw [hsz]; unfold maxLen; omega, ⟨fun x hx => ?_, ?_, ?_⟩, fun x hx => ?_⟩
    · obtain ⟨i, hi, rfl⟩ := List.getElem_of_mem hx
      have := hborn i _ (by rw [← Array.getElem?_toList, List.getElem?_eq_getElem hi])
      rw [this]
      simpa using hi
    · have : es.toList.map (·.born) = List.range es.size := by
        refine List.ext_getElem? fun i => ?_
        by_cases hi : i < es.size
        · rw [List.getElem?_map, Array.getElem?_toList, Array.getElem?_eq_getElem hi, List.getElem?_range hi]
          simp [hborn i _ (Array.getElem?_eq_getElem hi)]
        · rw [List.getElem?_eq_none (by simp; omega), List.getElem?_eq_none (by simp; omega)]
      rw [this]
      exact List.nodup_range
    · rw [hkl]
      exact List.pairwise_map.2 (hnd.imp fun h e => h (by simpa using e))
    · obtain ⟨z, _, _, h⟩ := hrd x hx
      exact ⟨_, h⟩
  let E := es.toList.map (Go.WideElems.rg Tryz.prog 3 R)
  let D : DataW Unit := .map (E.foldr DataW.insert [])
  have hown : C.w.ownsMap Tryz.prog 3 R b0 es.size D := ⟨es, es.size, hb0, hfit, Nat.le_refl _, rfl⟩
  have hE2 : E.map (fun p => Go.intOf p.1) = ks := by
    have : ∀ x ∈ es.toList, ((fun p : Lit × DataW Unit => Go.intOf p.1) ∘ Go.WideElems.rg Tryz.prog 3 R) x = (valZ ∘ fun x : MapEntry => x.key) x := by
      intro x hx
      obtain ⟨z, h1, _, h2⟩ := hrd x hx
      simp only [Function.comp_apply]
      rw [Go.WideElems.rg_of h2, h1]; rfl
    show List.map _ (List.map _ es.toList) = ks
    rw [List.map_map, List.map_congr_left this, ← List.map_map, hkl, List.map_map]
    exact List.map_id' ks
  have hperm : (intKeys D).Perm ks := by
    rw [← hE2]
    exact (Go.WideShapes.sorted_perm E).map _
  have hN : Maps.size D = ks.length := by
    show (E.foldr DataW.insert []).length = _
    rw [length_sorted, List.length_map, Array.length_toList, hsz]
  have hseq : SeqGives Fence.wide 2 Tryz.prog 128 #[.pointer (some ⟨Bm, 0, none⟩)] encZ (fun ss : List Int => ss.Perm (intKeys D)) (Maps.size D) C.w :=
    AnyZI.keys_gives (ρ := renDr) { laysDr with } Fence.wide _ trivial rfl (by omega) Bm b0 es.size D C.w (Array.getElem?_eq_some_iff.1 hheap).1 hcell hown
  have cS := AnyZI.sorted_in laysSorted Fence.wide 5 trivial trivial trivial trivial rfl (by omega) (sortsIn _) (enters_of Tryz.func127 (by kernel_rfl) rfl) 128 #[.pointer (some ⟨Bm, 0, none⟩)] trivial (enters_of Tryz.func128 (by kernel_rfl) rfl) _ _ (by rw [hN]; unfold maxLen; omega) (by rw [hN]; omega) _ hseq
  refine (callsIn_wide.1 cS).mono ?_
  rintro e w' ⟨v, ss, rfl, hS, hrow, hnil, hb⟩
  have hss : (ss.mergeSort leI) = srt ks := mergeSort_of_perm_i (hS.trans hperm)
  have hsl : ss.length = (srt ks).length := by rw [srt_length]; exact (hS.trans hperm).length_eq
  refine ⟨v, _, rfl, hb, fun hok' => ?_, rfl, by rw [← hr]⟩
  rw [Rep]
  rcases hrow.2 with ⟨rfl, hz⟩ | ⟨g, cap, cur, rfl, hbase, hgb, r1, r2, r3, r4⟩
  · exact ⟨none, 0, by rw [numsE_length, ← hsl, hz], by rw [numsE_length, ← hsl, hz]; exact Nat.le_refl _, .inl (by rw [numsE_length, ← hsl, hz])⟩
  · refine ⟨_, cap, by rw [numsE_length, ← hsl], by rw [numsE_length, ← hsl]; exact r1, .inr ⟨g, 0, rfl, ⟨(Array.getElem?_eq_some_iff.1 hgb).1, fun ho => ?_, fun r c h => ?_⟩, ?_⟩⟩
    · have := hok.om _ ho
      omega
    · have := hok.lt h
      omega
    · refine repE_nums (C := Ctx.p _) _ _ fun i hi => ?_
      have h1 : (cur.toList.take (ss.length * 1))[i]? = ((ss.mergeSort leI).map encZ)[i]? := by rw [r4]
      rw [List.getElem?_take_of_lt (by rw [Nat.mul_one, hsl]; exact hi), List.getElem?_map, hss, List.getElem?_eq_getElem hi, Array.getElem?_toList] at h1
      show World.cell? w' _ = _
      simp only [World.cell?, hgb, Nat.zero_add]
      simpa using h1

def renBo : Go.Shelf.Ren :=
  { f := fun x => match x with | 7 => 82 | 10 => 168 | n => n,
    t := fun x => match x with | 23 => 169 | 26 => 3 | 3 => 4 | 28 => 125 | 0 => 0 | 27 => 124 | 33 => 244 | 4 => 4 | n => n,
    g := fun n => n }
set_option maxRecDepth 100000 in
theorem laysBo : SlLaysZI.n7 Tryz.prog renBo where
  mixed := by kernel_rfl
  f7 := ⟨"maps.Keys[map[int]bool,int,bool]", by decide, Eq.trans Tryz.func82 (congrArg some (by kernel_rfl))⟩
  f10 := ⟨"maps.Keys[map[int]bool,int,bool]$1", by decide, Eq.trans Tryz.func168 (congrArg some (by kernel_rfl))⟩
  t0 := Tryz.underlying0
  a0 := Tryz.isAgg0
  z0 := Tryz.sizeOf0
  v0 := Tryz.zeroValue0
  t4 := Tryz.underlying4
  a4 := Tryz.isAgg4
  z4 := Tryz.sizeOf4
  v4 := Tryz.zeroValue4
  t23 := Tryz.underlying169
  a23 := Tryz.isAgg169
  z23 := Tryz.sizeOf169
  v23 := Tryz.zeroValue169
  t26 := Tryz.underlying3
  a26 := Tryz.isAgg3
  z26 := Tryz.sizeOf3
  v26 := Tryz.zeroValue3
  t27 := Tryz.underlying124
  a27 := Tryz.isAgg124
  z27 := Tryz.sizeOf124
  v27 := Tryz.zeroValue124
  t28 := Tryz.underlying125
  a28 := Tryz.isAgg125
  z28 := Tryz.sizeOf125
  v28 := Tryz.zeroValue125
  t33 := Tryz.underlying244
  a33 := Tryz.isAgg244
  z33 := Tryz.sizeOf244
  v33 := Tryz.zeroValue244
theorem sortedBo_ok {rows : List Row} {a b : Nat} {T : TypeId} {ents : List (AVal × AVal)} {ks : List Int} (ha : rows[a]? = some (.obj (.map false [.int .i64] ents))) (hb : rows[b]? = some (.live T 1 [[.mref a]])) (hk : ents.map (·.1) = ks.map (AVal.int .i64 ·)) (hnd : ks.Nodup) (hwf : ∀ x ∈ ks, (Lit.int .i64 x).wf = true) (hlen : ks.length ≤ 1000000) :
    AFn Tryz.prog 47 [.fn 168 [.ref b 1 0 0]] rows
      (fun v rs => v = .pure 1 (numsE .i64 (srt ks)) ∧ rs = rows) := by
  refine AFn.leafN (fun h => h) ?_
  intro C cargs hr hok hG hrep
  have hr0 : C.rows[a]? = some (.obj (.map false [.int .i64] ents)) := by rw [hr]; exact ha
  have hr1 : C.rows[b]? = some (.live T 1 [[.mref a]]) := by rw [hr]; exact hb
  rw [RepL] at hrep
  obtain ⟨v0, rest, rfl, hv, hn⟩ := hrep
  rw [RepL] at hn
  subst hn
  rw [Rep] at hv
  obtain ⟨vs, rfl, hvs⟩ := hv
  rw [RepL] at hvs
  obtain ⟨vp, rest, hvs', hp, hn⟩ := hvs
  rw [RepL] at hn
  subst hn
  rw [Rep] at hp
  obtain ⟨hpm, _, _, hall⟩ := hp
  obtain ⟨_, h2⟩ := hall _ _ _ hr1
  obtain ⟨_, Bm, c, hphi, rfl⟩ := h2 rfl
  obtain rfl : vs = #[.pointer (some ⟨Bm, 0, none⟩)] := by
    apply Array.toList_inj.1; rw [hvs']
  rcases hok.live hr1 with ⟨_, h0'⟩ | ⟨b1, cap, cs, hp1, hom, hheap, hcs, hcap, hle, hE⟩
  · cases h0'
  rw [hphi] at hp1
  simp only [Option.some.injEq, Prod.mk.injEq] at hp1
  obtain ⟨rfl, rfl⟩ := hp1
  rw [RepE, RepC] at hE
  obtain ⟨⟨vm, hcell, _, hvm⟩, _⟩ := hE.2.1
  rw [Rep] at hvm
  obtain ⟨_, _, _, hvm⟩ := hvm
  obtain ⟨b0, c0, hphi0, rfl⟩ := hvm _ hr0
  have hro := hok.rows _ _ hr0
  rw [RowOk] at hro
  obtain ⟨b0', c0', es, hphi0', hom0, hb0, hborn, hkeys, hvals, hfits⟩ := hro
  rw [hphi0] at hphi0'
  simp only [Option.some.injEq, Prod.mk.injEq] at hphi0'
  obtain ⟨rfl, rfl⟩ := hphi0'
  have hkl : es.toList.map (·.key) = ks.map (Value.int .i64 ·) := repL_nums (by rw [← hk]; exact hkeys)
  have hsz : es.size = ks.length := by
    have := congrArg List.length hkl
    simpa using this
  let R : Value → Option (DataW Unit × List MemPlace) := fun _ => some (.nil, [])
  have hint : Tryz.prog.underlying 3 = some (.int .i64) := Tryz.underlying3
  have hrd : ∀ x ∈ es.toList, ∃ z : Int, x.key = .int .i64 z ∧ z ∈ ks ∧ Go.WideElems.rd Tryz.prog 3 R x = some (.int .i64 z, .nil) := by
    intro x hx
    have : x.key ∈ ks.map (Value.int .i64 ·) := by rw [← hkl]; exact List.mem_map_of_mem hx
    obtain ⟨z, hz, hzk⟩ := List.mem_map.1 this
    refine ⟨z, hzk.symm, hz, ?_⟩
    unfold Go.WideElems.rd
    rw [← hzk, keyOf_int_mk hint (hwf z hz)]
    rfl
  have hfit : Go.WideElems.Fit Tryz.prog 3 R es es.size := by
    refine ⟨by rw [hsz]; unfold maxLen; omega, ⟨fun x hx => ?_, ?_, ?_⟩, fun x hx => ?_⟩
    · obtain ⟨i, hi, rfl⟩ := List.getElem_of_mem hx
      have := hborn i _ (by rw [← Array.getElem?_toList, List.getElem?_eq_getElem hi])
      rw [this]
      simpa using hi
    · have : es.toList.map (·.born) = List.range es.size := by
        refine List.ext_getElem? fun i => ?_
        by_cases hi : i < es.size
        · rw [List.getElem?_map, Array.getElem?_toList, Array.getElem?_eq_getElem hi, List.getElem?_range hi]
          simp [hborn i _ (Array.getElem?_eq_getElem hi)]
        · rw [List.getElem?_eq_none (by simp; omega), List.getElem?_eq_none (by simp; omega)]
      rw [this]
      exact List.nodup_range
    · rw [hkl]
      exact List.pairwise_map.2 (hnd.imp fun h e => h (by simpa using e))
    · obtain ⟨z, _, _, h⟩ := hrd x hx
      exact ⟨_, h⟩
  let E := es.toList.map (Go.WideElems.rg Tryz.prog 3 R)
  let D : DataW Unit := .map (E.foldr DataW.insert [])
  have hown : C.w.ownsMap Tryz.prog 3 R b0 es.size D := ⟨es, es.size, hb0, hfit, Nat.le_refl _, rfl⟩
  have hE2 : E.map (fun p => Go.intOf p.1) = ks := by
    have : ∀ x ∈ es.toList, ((fun p : Lit × DataW Unit => Go.intOf p.1) ∘ Go.WideElems.rg Tryz.prog 3 R) x = (valZ ∘ fun x : MapEntry => x.key) x := by
      intro x hx
      obtain ⟨z, h1, _, h2⟩ := hrd x hx
      simp only [Function.comp_apply]
      rw [Go.WideElems.rg_of h2, h1]; rfl
    show List.map _ (List.map _ es.toList) = ks
    rw [List.map_map, List.map_congr_left this, ← List.map_map, hkl, List.map_map]
    exact List.map_id' ks
  have hperm : (intKeys D).Perm ks := by
    rw [← hE2]
    exact (Go.WideShapes.sorted_perm E).map _
  have hN : Maps.size D = ks.length := by
    show (E.foldr DataW.insert []).length = _
    rw [length_sorted, List.length_map, Array.length_toList, hsz]
  have hseq : SeqGives Fence.wide 2 Tryz.prog 168 #[.pointer (some ⟨Bm, 0, none⟩)] encZ (fun ss : List Int => ss.Perm (intKeys D)) (Maps.size D) C.w :=
    AnyZI.keys_gives (ρ := renBo) { laysBo with } Fence.wide _ trivial rfl (by omega) Bm b0 es.size D C.w (Array.getElem?_eq_some_iff.1 hheap).1 hcell hown
  have cS := AnyZI.sorted_in laysSorted Fence.wide 5 trivial trivial trivial trivial rfl (by omega) (sortsIn _) (enters_of Tryz.func127 (by kernel_rfl) rfl) 168 #[.pointer (some ⟨Bm, 0, none⟩)] trivial (enters_of Tryz.func168 (by kernel_rfl) rfl) _ _ (by rw [hN]; unfold maxLen; omega) (by rw [hN]; omega) _ hseq
  refine (callsIn_wide.1 cS).mono ?_
  rintro e w' ⟨v, ss, rfl, hS, hrow, hnil, hb⟩
  have hss : (ss.mergeSort leI) = srt ks := mergeSort_of_perm_i (hS.trans hperm)
  have hsl : ss.length = (srt ks).length := by rw [srt_length]; exact (hS.trans hperm).length_eq
  refine ⟨v, _, rfl, hb, fun hok' => ?_, rfl, by rw [← hr]⟩
  rw [Rep]
  rcases hrow.2 with ⟨rfl, hz⟩ | ⟨g, cap, cur, rfl, hbase, hgb, r1, r2, r3, r4⟩
  · exact ⟨none, 0, by rw [numsE_length, ← hsl, hz], by rw [numsE_length, ← hsl, hz]; exact Nat.le_refl _, .inl (by rw [numsE_length, ← hsl, hz])⟩
  · refine ⟨_, cap, by rw [numsE_length, ← hsl], by rw [numsE_length, ← hsl]; exact r1, .inr ⟨g, 0, rfl, ⟨(Array.getElem?_eq_some_iff.1 hgb).1, fun ho => ?_, fun r c h => ?_⟩, ?_⟩⟩
    · have := hok.om _ ho
      omega
    · have := hok.lt h
      omega
    · refine repE_nums (C := Ctx.p _) _ _ fun i hi => ?_
      have h1 : (cur.toList.take (ss.length * 1))[i]? = ((ss.mergeSort leI).map encZ)[i]? := by rw [r4]
      rw [List.getElem?_take_of_lt (by rw [Nat.mul_one, hsl]; exact hi), List.getElem?_map, hss, List.getElem?_eq_getElem hi, Array.getElem?_toList] at h1
      show World.cell? w' _ = _
      simp only [World.cell?, hgb, Nat.zero_add]
      simpa using h1

def renAr : Go.Shelf.Ren :=
  { f := fun x => match x with | 7 => 116 | 10 => 204 | n => n,
    t := fun x => match x with | 23 => 224 | 26 => 3 | 3 => 227 | 28 => 125 | 0 => 0 | 27 => 124 | 33 => 244 | 4 => 4 | n => n,
    g := fun n => n }
set_option maxRecDepth 100000 in
theorem laysAr : SlLaysZI.n7 Tryz.prog renAr where
  mixed := by kernel_rfl
  f7 := ⟨"maps.Keys[map[int][16]int,int,[16]int]", by decide, Eq.trans Tryz.func116 (congrArg some (by kernel_rfl))⟩
  f10 := ⟨"maps.Keys[map[int][16]int,int,[16]int]$1", by decide, Eq.trans Tryz.func204 (congrArg some (by kernel_rfl))⟩
  t0 := Tryz.underlying0
  a0 := Tryz.isAgg0
  z0 := Tryz.sizeOf0
  v0 := Tryz.zeroValue0
  t4 := Tryz.underlying4
  a4 := Tryz.isAgg4
  z4 := Tryz.sizeOf4
  v4 := Tryz.zeroValue4
  t23 := Tryz.underlying224
  a23 := Tryz.isAgg224
  z23 := Tryz.sizeOf224
  v23 := Tryz.zeroValue224
  t26 := Tryz.underlying3
  a26 := Tryz.isAgg3
  z26 := Tryz.sizeOf3
  v26 := Tryz.zeroValue3
  t27 := Tryz.underlying124
  a27 := Tryz.isAgg124
  z27 := Tryz.sizeOf124
  v27 := Tryz.zeroValue124
  t28 := Tryz.underlying125
  a28 := Tryz.isAgg125
  z28 := Tryz.sizeOf125
  v28 := Tryz.zeroValue125
  t33 := Tryz.underlying244
  a33 := Tryz.isAgg244
  z33 := Tryz.sizeOf244
  v33 := Tryz.zeroValue244
theorem sortedAr_ok {rows : List Row} {a b : Nat} {T : TypeId} {ents : List (AVal × AVal)} {ks : List Int} (ha : rows[a]? = some (.obj (.map false [.int .i64] ents))) (hb : rows[b]? = some (.live T 1 [[.mref a]])) (hk : ents.map (·.1) = ks.map (AVal.int .i64 ·)) (hnd : ks.Nodup) (hwf : ∀ x ∈ ks, (Lit.int .i64 x).wf = true) (hlen : ks.length ≤ 1000000) :
    AFn Tryz.prog 47 [.fn 204 [.ref b 1 0 0]] rows
      (fun v rs => v = .pure 1 (numsE .i64 (srt ks)) ∧ rs = rows) := by
  refine AFn.leafN (fun h => h) ?_
  intro C cargs hr hok hG hrep
  have hr0 : C.rows[a]? = some (.obj (.map false [.int .i64] ents)) := by rw [hr]; exact ha
  have hr1 : C.rows[b]? = some (.live T 1 [[.mref a]]) := by rw [hr]; exact hb
  rw [RepL] at hrep
  obtain ⟨v0, rest, rfl, hv, hn⟩ := hrep
  rw [RepL] at hn
  subst hn
  rw [Rep] at hv
  obtain ⟨vs, rfl, hvs⟩ := hv
  rw [RepL] at hvs
  obtain ⟨vp, rest, hvs', hp, hn⟩ := hvs
  rw [RepL] at hn
  subst hn
  rw [Rep] at hp
  obtain ⟨hpm, _, _, hall⟩ := hp
  obtain ⟨_, h2⟩ := hall _ _ _ hr1
  obtain ⟨_, Bm, c, hphi, rfl⟩ := h2 rfl
  obtain rfl : vs = #[.pointer (some ⟨Bm, 0, none⟩)] := by
    apply Array.toList_inj.1; rw [hvs']
  rcases hok.live hr1 with ⟨_, h0'⟩ | ⟨b1, cap, cs, hp1, hom, hheap, hcs, hcap, hle, hE⟩
  · cases h0'
  rw [hphi] at hp1
  simp only [Option.some.injEq, Prod.mk.injEq] at hp1
  obtain ⟨rfl, rfl⟩ := hp1
  rw [RepE, RepC] at hE
  obtain ⟨⟨vm, hcell, _, hvm⟩, _⟩ := hE.2.1
  rw [Rep] at hvm
  obtain ⟨_, _, _, hvm⟩ := hvm
  obtain ⟨b0, c0, hphi0, rfl⟩ := hvm _ hr0
  have hro := hok.rows _ _ hr0
  rw [RowOk] at hro
  obtain ⟨b0', c0', es, hphi0', hom0, hb0, hborn, hkeys, hvals, hfits⟩ := hro
  rw [hphi0] at hphi0'
  simp only [Option.some.injEq, Prod.mk.injEq] at hphi0'
  obtain ⟨rfl, rfl⟩ := hphi0'
  have hkl : es.toList.map (·.key) = ks.map (Value.int .i64 ·) := repL_nums (by rw [← hk]; exact hkeys)
  have hsz : es.size = ks.length := by
    have := congrArg List.length hkl
    simpa using this
  let R : Value → Option (DataW Unit × List MemPlace) := fun _ => some (.nil, [])
  have hint : Tryz.prog.underlying 3 = some (.int .i64) := Tryz.underlying3
  have hrd : ∀ x ∈ es.toList, ∃ z : Int, x.key = .int .i64 z ∧ z ∈ ks ∧ Go.WideElems.rd Tryz.prog 3 R x = some (.int .i64 z, .nil) := by
    intro x hx
    have : x.key ∈ ks.map (Value.int .i64 ·) := by rw [← hkl]; exact List.mem_map_of_mem hx
    obtain ⟨z, hz, hzk⟩ := List.mem_map.1 this
    refine ⟨z, hzk.symm, hz, ?_⟩
    unfold Go.WideElems.rd
    rw [← hzk, keyOf_int_mk hint (hwf z hz)]
    rfl
  have hfit : Go.WideElems.Fit Tryz.prog 3 R es es.size := by
    refine ⟨by rw [hsz]; unfold maxLen; omega, ⟨fun x hx => ?_, ?_, ?_⟩, fun x hx => ?_⟩
    · obtain ⟨i, hi, rfl⟩ := List.getElem_of_mem hx
      have := hborn i _ (by rw [← Array.getElem?_toList, List.getElem?_eq_getElem hi])
      rw [this]
      simpa using hi
    · have : es.toList.map (·.born) = List.range es.size := by
        refine List.ext_getElem? fun i => ?_
        by_cases hi : i < es.size
        · rw [List.getElem?_map, Array.getElem?_toList, Array.getElem?_eq_getElem hi, List.getElem?_range hi]
          simp [hborn i _ (Array.getElem?_eq_getElem hi)]
        · rw [List.getElem?_eq_none (by simp; omega), List.getElem?_eq_none (by simp; omega)]
      rw [this]
      exact List.nodup_range
    · rw [hkl]
      exact List.pairwise_map.2 (hnd.imp fun h e => h (by simpa using e))
    · obtain ⟨z, _, _, h⟩ := hrd x hx
      exact ⟨_, h⟩
  let E := es.toList.map (Go.WideElems.rg Tryz.prog 3 R)
  let D : DataW Unit := .map (E.foldr DataW.insert [])
  have hown : C.w.ownsMap Tryz.prog 3 R b0 es.size D := ⟨es, es.size, hb0, hfit, Nat.le_refl _, rfl⟩
  have hE2 : E.map (fun p => Go.intOf p.1) = ks := by
    have : ∀ x ∈ es.toList, ((fun p : Lit × DataW Unit => Go.intOf p.1) ∘ Go.WideElems.rg Tryz.prog 3 R) x = (valZ ∘ fun x : MapEntry => x.key) x := by
      intro x hx
      obtain ⟨z, h1, _, h2⟩ := hrd x hx
      simp only [Function.comp_apply]
      rw [Go.WideElems.rg_of h2, h1]; rfl
    show List.map _ (List.map _ es.toList) = ks
    rw [List.map_map, List.map_congr_left this, ← List.map_map, hkl, List.map_map]
    exact List.map_id' ks
  have hperm : (intKeys D).Perm ks := by
    rw [← hE2]
    exact (Go.WideShapes.sorted_perm E).map _
  have hN : Maps.size D = ks.length := by
    show (E.foldr DataW.insert []).length = _
    rw [length_sorted, List.length_map, Array.length_toList, hsz]
  have hseq : SeqGives Fence.wide 2 Tryz.prog 204 #[.pointer (some ⟨Bm, 0, none⟩)] encZ (fun ss : List Int => ss.Perm (intKeys D)) (Maps.size D) C.w :=
    AnyZI.keys_gives (ρ := renAr) { laysAr with } Fence.wide _ trivial rfl (by omega) Bm b0 es.size D C.w (Array.getElem?_eq_some_iff.1 hheap).1 hcell hown
  have cS := AnyZI.sorted_in laysSorted Fence.wide 5 trivial trivial trivial trivial rfl (by omega) (sortsIn _) (enters_of Tryz.func127 (by kernel_rfl) rfl) 204 #[.pointer (some ⟨Bm, 0, none⟩)] trivial (enters_of Tryz.func204 (by kernel_rfl) rfl) _ _ (by rw [hN]; unfold maxLen; omega) (by rw [hN]; omega) _ hseq
  refine (callsIn_wide.1 cS).mono ?_
  rintro e w' ⟨v, ss, rfl, hS, hrow, hnil, hb⟩
  have hss : (ss.mergeSort leI) = srt ks := mergeSort_of_perm_i (hS.trans hperm)
  have hsl : ss.length = (srt ks).length := by rw [srt_length]; exact (hS.trans hperm).length_eq
  refine ⟨v, _, rfl, hb, fun hok' => ?_, rfl, by rw [← hr]⟩
  rw [Rep]
  rcases hrow.2 with ⟨rfl, hz⟩ | ⟨g, cap, cur, rfl, hbase, hgb, r1, r2, r3, r4⟩
  · exact ⟨none, 0, by rw [numsE_length, ← hsl, hz], by rw [numsE_length, ← hsl, hz]; exact Nat.le_refl _, .inl (by rw [numsE_length, ← hsl, hz])⟩
  · refine ⟨_, cap, by rw [numsE_length, ← hsl], by rw [numsE_length, ← hsl]; exact r1, .inr ⟨g, 0, rfl, ⟨(Array.getElem?_eq_some_iff.1 hgb).1, fun ho => ?_, fun r c h => ?_⟩, ?_⟩⟩
    · have := hok.om _ ho
      omega
    · have := hok.lt h
      omega
    · refine repE_nums (C := Ctx.p _) _ _ fun i hi => ?_
      have h1 : (cur.toList.take (ss.length * 1))[i]? = ((ss.mergeSort leI).map encZ)[i]? := by rw [r4]
      rw [List.getElem?_take_of_lt (by rw [Nat.mul_one, hsl]; exact hi), List.getElem?_map, hss, List.getElem?_eq_getElem hi, Array.getElem?_toList] at h1
      show World.cell? w' _ = _
      simp only [World.cell?, hgb, Nat.zero_add]
      simpa using h1

end Go.Proofs.YtpincjkjoeopkaaGreatDoor
