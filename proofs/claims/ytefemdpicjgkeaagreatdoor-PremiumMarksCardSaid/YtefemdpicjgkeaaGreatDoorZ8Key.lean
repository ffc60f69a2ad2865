/- slices.Sorted over the keys of a map: the shelf's contracts, laid (the fields are printed by lays2.py after the kit's own laying); the answer is a slice that never changes. -/
import Derived.Test.YtefemdpicjgkeaaGreatDoorZ8Clk
import Derived.Shelf.SlIterI.Sorted
import Derived.Shelf.SlIterI.Keys
set_option linter.unusedSimpArgs false
set_option linter.unusedVariables false
set_option linter.unusedSectionVars false
namespace Go.Proofs.YtefemdpicjgkeaaGreatDoor
open Go Go.Abs Go.Maps
open Go.RowKit (Below)
set_option linter.unusedSimpArgs false
set_option linter.unusedVariables false

def renKeys : Go.Shelf.Ren :=
  { f := fun x => match x with | 7 => 23 | 10 => 40 | n => n,
    t := fun x => match x with | 23 => 62 | 26 => 3 | 3 => 68 | 28 => 66 | 0 => 0 | 27 => 65 | 33 => 90 | 4 => 4 | n => n,
    g := fun n => n }
set_option maxRecDepth 100000 in
theorem laysKeys : SlLaysZI.n7 Tryz.prog renKeys where
  mixed := by kernel_rfl
  f7 := ⟨"maps.Keys[map[int][16]int,int,[16]int]", by decide, Eq.trans Tryz.func23 (congrArg some (by kernel_rfl))⟩
  f10 := ⟨"maps.Keys[map[int][16]int,int,[16]int]$1", by decide, Eq.trans Tryz.func40 (congrArg some (by kernel_rfl))⟩
  t0 := Tryz.underlying0
  a0 := Tryz.isAgg0
  z0 := Tryz.sizeOf0
  v0 := Tryz.zeroValue0
  t4 := Tryz.underlying4
  a4 := Tryz.isAgg4
  z4 := Tryz.sizeOf4
  v4 := Tryz.zeroValue4
  t23 := Tryz.underlying62
  a23 := Tryz.isAgg62
  z23 := Tryz.sizeOf62
  v23 := Tryz.zeroValue62
  t26 := Tryz.underlying3
  a26 := Tryz.isAgg3
  z26 := Tryz.sizeOf3
  v26 := Tryz.zeroValue3
  t27 := Tryz.underlying65
  a27 := Tryz.isAgg65
  z27 := Tryz.sizeOf65
  v27 := Tryz.zeroValue65
  t28 := Tryz.underlying66
  a28 := Tryz.isAgg66
  z28 := Tryz.sizeOf66
  v28 := Tryz.zeroValue66
  t33 := Tryz.underlying90
  a33 := Tryz.isAgg90
  z33 := Tryz.sizeOf90
  v33 := Tryz.zeroValue90
def renSorted : Go.Shelf.Ren :=
  { f := fun x => match x with | 6 => 22 | 8 => 38 | 9 => 39 | 11 => 53 | 13 => 55 | 12 => 54 | 23 => 72 | 24 => 73 | 14 => 63 | 15 => 64 | 16 => 65 | 17 => 66 | 18 => 67 | 19 => 68 | 20 => 69 | 21 => 70 | 22 => 71 | 25 => 82 | 26 => 83 | 27 => 84 | 28 => 85 | 29 => 86 | 30 => 87 | 31 => 95 | n => n,
    t := fun x => match x with | 26 => 3 | 28 => 66 | 24 => 22 | 0 => 0 | 3 => 3 | 37 => 106 | 48 => 123 | 50 => 125 | 4 => 4 | 40 => 116 | 39 => 115 | 45 => 87 | 5 => 5 | 9 => 9 | 51 => 131 | 55 => 135 | 57 => 139 | 58 => 91 | 33 => 90 | n => n,
    g := fun n => n }
set_option maxRecDepth 100000 in
theorem laysSorted : SlLaysZI.n6 Tryz.prog renSorted where
  mixed := by kernel_rfl
  f6 := ⟨"slices.Sorted[int]", by decide, Eq.trans Tryz.func22 (congrArg some (by kernel_rfl))⟩
  f8 := ⟨"slices.Collect[int]", by decide, Eq.trans Tryz.func38 (congrArg some (by kernel_rfl))⟩
  f11 := ⟨"slices.AppendSeq[[]int,int]", by decide, Eq.trans Tryz.func53 (congrArg some (by kernel_rfl))⟩
  t0 := Tryz.underlying0
  a0 := Tryz.isAgg0
  z0 := Tryz.sizeOf0
  v0 := Tryz.zeroValue0
  t24 := Tryz.underlying22
  a24 := Tryz.isAgg22
  z24 := Tryz.sizeOf22
  v24 := Tryz.zeroValue22
  t26 := Tryz.underlying3
  a26 := Tryz.isAgg3
  z26 := Tryz.sizeOf3
  v26 := Tryz.zeroValue3
  t28 := Tryz.underlying66
  a28 := Tryz.isAgg66
  z28 := Tryz.sizeOf66
  v28 := Tryz.zeroValue66
  i26 := by kernel_rfl

theorem repE_nums {C : Ctx} {b : Nat} : ∀ (zs : List Int) (o : Nat), (∀ i (h : i < zs.length), C.w.cell? ⟨b, o + i, none⟩ = some (.int .i64 zs[i])) → RepE C b o 1 (numsE .i64 zs)
  | [], o, _ => by simp [numsE, RepE]
  | z :: zs, o, h => by
    rw [numsE, List.map_cons, RepE]
    refine ⟨rfl, ?_, repE_nums zs (o + 1) fun i hi => ?_⟩
    · rw [RepC]
      refine ⟨⟨.int .i64 z, h 0 (Nat.zero_lt_succ _), rfl, by rw [Rep]⟩, by rw [RepC]; trivial⟩
    · have := h (i + 1) (by simpa using hi)
      rw [show o + 1 + i = o + (i + 1) by omega]
      simpa using this
theorem repL_nums {C : Ctx} : ∀ {zs : List Int} {vs : List Value}, RepL C (zs.map (AVal.int .i64 ·)) vs → vs = zs.map (Value.int .i64 ·)
  | [], vs, h => by simpa [RepL] using h
  | z :: zs, vs, h => by
    rw [List.map_cons, RepL] at h
    obtain ⟨v, rest, rfl, hv, hr⟩ := h
    rw [Rep] at hv
    rw [List.map_cons, ← repL_nums hr, hv]
theorem sortsIn (m : Nat) : AnyZI.SortsIn Tryz.prog renSorted Fence.wide m :=
  ⟨fun blk off cap ss W hH hblk hsz => callsIn_wide.2 (Any.slices_Sort_int laysSort blk off cap ss W hH hblk hsz),
   fun p cap W => callsIn_wide.2 (calls_of_every_depth fun D => AnyS.slices_Sort_int_none_in laysSort D p cap W)⟩

def valZ : Value → Int
  | .int _ z => z
  | _ => 0
theorem sortedKeys_ok (T : TypeId) (ents : List (AVal × AVal)) (ks : List Int) (hk : ents.map (·.1) = ks.map (AVal.int .i64 ·)) (hnd : ks.Nodup) (hwf : ∀ x ∈ ks, (Lit.int .i64 x).wf = true) (hlen : ks.length ≤ 1000000) :
    AFn Tryz.prog 22 [.fn 40 [.ref 1 1 0 0]] [.obj (.map false [.int .i64] ents), .live T 1 [[.mref 0]]]
      (fun v rs => v = .pure 1 (numsE .i64 (srt ks)) ∧ rs = [.obj (.map false [.int .i64] ents), .live T 1 [[.mref 0]]]) := by
  refine AFn.leafN (fun h => h) ?_
  intro C cargs hr hok hG hrep
  have hr0 : C.rows[0]? = some (.obj (.map false [.int .i64] ents)) := by rw [hr]; rfl
  have hr1 : C.rows[1]? = some (.live T 1 [[.mref 0]]) := by rw [hr]; rfl
  rw [RepL] at hrep
  obtain ⟨v0, rest, rfl, hv, hn⟩ := hrep
  rw [RepL] at hn
  subst hn
  rw [Rep] at hv
  obtain ⟨vs, rfl, hvs⟩ := hv
  rw [RepL] at hvs
  obtain ⟨vp, rest, hvs', hp, hn⟩ := hvs
  rw [RepL] at hn
  subst hn
  rw [Rep] at hp
  obtain ⟨hpm, _, _, hall⟩ := hp
  obtain ⟨_, h2⟩ := hall _ _ _ hr1
  obtain ⟨_, Bm, c, hphi, rfl⟩ := h2 rfl
  obtain rfl : vs = #[.pointer (some ⟨Bm, 0, none⟩)] := by
    apply Array.toList_inj.1; rw [hvs']
  rcases hok.live hr1 with ⟨_, h0'⟩ | ⟨b, cap, cs, hp1, hom, hheap, hcs, hcap, hle, hE⟩
  · cases h0'
  rw [hphi] at hp1
  simp only [Option.some.injEq, Prod.mk.injEq] at hp1
  obtain ⟨rfl, rfl⟩ := hp1
  rw [RepE, RepC] at hE
  obtain ⟨⟨vm, hcell, _, hvm⟩, _⟩ := hE.2.1
  rw [Rep] at hvm
  obtain ⟨_, _, _, hvm⟩ := hvm
  obtain ⟨b0, c0, hphi0, rfl⟩ := hvm _ hr0
  have hro := hok.rows _ _ hr0
  rw [RowOk] at hro
  obtain ⟨b0', c0', es, hphi0', hom0, hb0, hborn, hkeys, hvals, hfits⟩ := hro
  rw [hphi0] at hphi0'
  simp only [Option.some.injEq, Prod.mk.injEq] at hphi0'
  obtain ⟨rfl, rfl⟩ := hphi0'
  have hkl : es.toList.map (·.key) = ks.map (Value.int .i64 ·) := repL_nums (by rw [← hk]; exact hkeys)
  have hsz : es.size = ks.length := by
    have := congrArg List.length hkl
    simpa using this
  let R : Value → Option (DataW Unit × List MemPlace) := fun _ => some (.nil, [])
  have hint : Tryz.prog.underlying 3 = some (.int .i64) := Tryz.underlying3
  have hrd : ∀ x ∈ es.toList, ∃ z : Int, x.key = .int .i64 z ∧ z ∈ ks ∧ Go.WideElems.rd Tryz.prog 3 R x = some (.int .i64 z, .nil) := by
    intro x hx
    have : x.key ∈ ks.map (Value.int .i64 ·) := by rw [← hkl]; exact List.mem_map_of_mem hx
    obtain ⟨z, hz, hzk⟩ := List.mem_map.1 this
    refine ⟨z, hzk.symm, hz, ?_⟩
    unfold Go.WideElems.rd
    rw [← hzk, keyOf_int_mk hint (hwf z hz)]
    rfl
  have hfit : Go.WideElems.Fit Tryz.prog 3 R es es.size := by
    refine ⟨by rw [hsz]; unfold maxLen; omega, ⟨fun x hx => ?_, ?_, ?_⟩, fun x hx => ?_⟩
    · obtain ⟨i, hi, rfl⟩ := List.getElem_of_mem hx
      have := hborn i _ (by rw [← Array.getElem?_toList, List.getElem?_eq_getElem hi])
      rw [this]
      simpa using hi
    · have : es.toList.map (·.born) = List.range es.size := by
        refine List.ext_getElem? fun i => ?_
        by_cases hi : i < es.size
        · rw [List.getElem?_map, Array.getElem?_toList, Array.getElem?_eq_getElem hi, List.getElem?_range hi]
          simp [hborn i _ (Array.getElem?_eq_getElem hi)]
        · rw [List.getElem?_eq_none (by simp; omega), List.getElem?_eq_none (by simp; omega)]
      rw [this]
      exact List.nodup_range
    · rw [hkl]
      exact List.pairwise_map.2 (hnd.imp fun h e => h (by simpa using e))
    · obtain ⟨z, _, _, h⟩ := hrd x hx
      exact ⟨_, h⟩
  let E := es.toList.map (Go.WideElems.rg Tryz.prog 3 R)
  let D : DataW Unit := .map (E.foldr DataW.insert [])
  have hown : C.w.ownsMap Tryz.prog 3 R b0 es.size D := ⟨es, es.size, hb0, hfit, Nat.le_refl _, rfl⟩
  have hE2 : E.map (fun p => Go.intOf p.1) = ks := by
    have : ∀ x ∈ es.toList, ((fun p : Lit × DataW Unit => Go.intOf p.1) ∘ Go.WideElems.rg Tryz.prog 3 R) x = (valZ ∘ fun x : MapEntry => x.key) x := by
      intro x hx
      obtain ⟨z, h1, _, h2⟩ := hrd x hx
      simp only [Function.comp_apply]
      rw [Go.WideElems.rg_of h2, h1]; rfl
    show List.map _ (List.map _ es.toList) = ks
    rw [List.map_map, List.map_congr_left this, ← List.map_map, hkl, List.map_map]
    exact List.map_id' ks
  have hperm : (intKeys D).Perm ks := by
    rw [← hE2]
    exact (Go.WideShapes.sorted_perm E).map _
  have hN : Maps.size D = ks.length := by
    show (E.foldr DataW.insert []).length = _
    rw [length_sorted, List.length_map, Array.length_toList, hsz]
  have hseq : SeqGives Fence.wide 2 Tryz.prog 40 #[.pointer (some ⟨Bm, 0, none⟩)] encZ (fun ss : List Int => ss.Perm (intKeys D)) (Maps.size D) C.w :=
    AnyZI.keys_gives (ρ := renKeys) { laysKeys with } Fence.wide _ trivial rfl (by omega) Bm b0 es.size D C.w (Array.getElem?_eq_some_iff.1 hheap).1 hcell hown
  have cS := AnyZI.sorted_in laysSorted Fence.wide 5 trivial trivial trivial trivial rfl (by omega) (sortsIn _) (enters_of Tryz.func39 (by kernel_rfl) rfl) 40 #[.pointer (some ⟨Bm, 0, none⟩)] trivial (enters_of Tryz.func40 (by kernel_rfl) rfl) _ _ (by rw [hN]; unfold maxLen; omega) (by rw [hN]; omega) _ hseq
  refine (callsIn_wide.1 cS).mono ?_
  rintro e w' ⟨v, ss, rfl, hS, hrow, hnil, hb⟩
  have hss : (ss.mergeSort leI) = srt ks := mergeSort_of_perm_i (hS.trans hperm)
  have hsl : ss.length = (srt ks).length := by rw [srt_length]; exact (hS.trans hperm).length_eq
  refine ⟨v, _, rfl, hb, fun hok' => ?_, rfl, by rw [← hr]⟩
  rw [Rep]
  rcases hrow.2 with ⟨rfl, hz⟩ | ⟨g, cap, cur, rfl, hbase, hgb, r1, r2, r3, r4⟩
  · exact ⟨none, 0, by rw [numsE_length, ← hsl, hz], by rw [numsE_length, ← hsl, hz]; exact Nat.le_refl _, .inl (by rw [numsE_length, ← hsl, hz])⟩
  · refine ⟨_, cap, by rw [numsE_length, ← hsl], by rw [numsE_length, ← hsl]; exact r1, .inr ⟨g, 0, rfl, ⟨(Array.getElem?_eq_some_iff.1 hgb).1, fun ho => ?_, fun r c h => ?_⟩, ?_⟩⟩
    · have := hok.om _ ho
      omega
    · have := hok.lt h
      omega
    · refine repE_nums (C := Ctx.p _) _ _ fun i hi => ?_
      have h1 : (cur.toList.take (ss.length * 1))[i]? = ((ss.mergeSort leI).map encZ)[i]? := by rw [r4]
      rw [List.getElem?_take_of_lt (by rw [Nat.mul_one, hsl]; exact hi), List.getElem?_map, hss, List.getElem?_eq_getElem hi, Array.getElem?_toList] at h1
      show World.cell? w' _ = _
      simp only [World.cell?, hgb, Nat.zero_add]
      simpa using h1

end Go.Proofs.YtefemdpicjgkeaaGreatDoor
