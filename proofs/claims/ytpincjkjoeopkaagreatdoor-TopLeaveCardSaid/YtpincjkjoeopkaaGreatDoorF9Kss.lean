/- slices.Sorted over the keys of a map whose keys are strings: the shelf's contracts, laid; the answer is a slice that never changes. -/
import Derived.Test.YtpincjkjoeopkaaGreatDoorF9Kys
import Derived.Shelf.SlIter.Sorted
import Derived.Shelf.SlIter.Keys
set_option linter.unusedSimpArgs false
set_option linter.unusedVariables false
set_option linter.unusedSectionVars false
namespace Go.Proofs.YtpincjkjoeopkaaGreatDoor
open Go Go.Abs Go.Maps
open Go.RowKit (Below)
set_option linter.unusedSimpArgs false
set_option linter.unusedVariables false

def renSoS : Go.Shelf.Ren :=
  { f := fun x => match x with | 125 => 158 | 128 => 241 | 129 => 242 | 190 => 188 | 258 => 251 | 302 => 303 | 303 => 304 | 304 => 305 | 305 => 306 | 306 => 307 | 307 => 308 | 308 => 309 | 309 => 310 | 310 => 311 | 329 => 290 | 330 => 291 | 333 => 346 | 334 => 347 | 335 => 348 | 336 => 208 | 344 => 364 | n => n,
    t := fun x => match x with | 0 => 0 | 3 => 3 | 4 => 4 | 5 => 5 | 9 => 9 | 31 => 166 | 46 => 284 | 51 => 347 | 53 => 349 | 131 => 206 | 182 => 340 | 183 => 341 | 218 => 376 | 222 => 380 | 228 => 412 | 229 => 308 | n => n,
    g := fun n => n }
set_option maxRecDepth 100000 in
theorem laysSoS : Lays.n190 Tryz.prog renSoS where
  mixed := by kernel_rfl
  f125 := Eq.trans Tryz.func158 (congrArg some (by kernel_rfl))
  f128 := Eq.trans Tryz.func241 (congrArg some (by kernel_rfl))
  f129 := Eq.trans Tryz.func242 (congrArg some (by kernel_rfl))
  f190 := Eq.trans Tryz.func188 (congrArg some (by kernel_rfl))
  f258 := Eq.trans Tryz.func251 (congrArg some (by kernel_rfl))
  f302 := Eq.trans Tryz.func303 (congrArg some (by kernel_rfl))
  f303 := Eq.trans Tryz.func304 (congrArg some (by kernel_rfl))
  f304 := Eq.trans Tryz.func305 (congrArg some (by kernel_rfl))
  f305 := Eq.trans Tryz.func306 (congrArg some (by kernel_rfl))
  f306 := Eq.trans Tryz.func307 (congrArg some (by kernel_rfl))
  f307 := Eq.trans Tryz.func308 (congrArg some (by kernel_rfl))
  f308 := Eq.trans Tryz.func309 (congrArg some (by kernel_rfl))
  f309 := Eq.trans Tryz.func310 (congrArg some (by kernel_rfl))
  f310 := Eq.trans Tryz.func311 (congrArg some (by kernel_rfl))
  f329 := Eq.trans Tryz.func290 (congrArg some (by kernel_rfl))
  f330 := Eq.trans Tryz.func291 (congrArg some (by kernel_rfl))
  f333 := Eq.trans Tryz.func346 (congrArg some (by kernel_rfl))
  f334 := Eq.trans Tryz.func347 (congrArg some (by kernel_rfl))
  f335 := Eq.trans Tryz.func348 (congrArg some (by kernel_rfl))
  f336 := Eq.trans Tryz.func208 (congrArg some (by kernel_rfl))
  f344 := Eq.trans Tryz.func364 (congrArg some (by kernel_rfl))
  t0 := Tryz.underlying0
  a0 := Tryz.isAgg0
  z0 := Tryz.sizeOf0
  v0 := Tryz.zeroValue0
  t3 := Tryz.underlying3
  a3 := Tryz.isAgg3
  z3 := Tryz.sizeOf3
  v3 := Tryz.zeroValue3
  t4 := Tryz.underlying4
  a4 := Tryz.isAgg4
  z4 := Tryz.sizeOf4
  v4 := Tryz.zeroValue4
  t5 := Tryz.underlying5
  a5 := Tryz.isAgg5
  z5 := Tryz.sizeOf5
  v5 := Tryz.zeroValue5
  t9 := Tryz.underlying9
  a9 := Tryz.isAgg9
  z9 := Tryz.sizeOf9
  v9 := Tryz.zeroValue9
  t31 := Tryz.underlying166
  a31 := Tryz.isAgg166
  z31 := Tryz.sizeOf166
  v31 := Tryz.zeroValue166
  t46 := Tryz.underlying284
  a46 := Tryz.isAgg284
  z46 := Tryz.sizeOf284
  v46 := Tryz.zeroValue284
  t51 := Tryz.underlying347
  a51 := Tryz.isAgg347
  z51 := Tryz.sizeOf347
  v51 := Tryz.zeroValue347
  t53 := Tryz.underlying349
  a53 := Tryz.isAgg349
  z53 := Tryz.sizeOf349
  v53 := Tryz.zeroValue349
  t131 := Tryz.underlying206
  a131 := Tryz.isAgg206
  z131 := Tryz.sizeOf206
  v131 := Tryz.zeroValue206
  t182 := Tryz.underlying340
  a182 := Tryz.isAgg340
  z182 := Tryz.sizeOf340
  v182 := Tryz.zeroValue340
  t183 := Tryz.underlying341
  a183 := Tryz.isAgg341
  z183 := Tryz.sizeOf341
  v183 := Tryz.zeroValue341
  t218 := Tryz.underlying376
  a218 := Tryz.isAgg376
  z218 := Tryz.sizeOf376
  v218 := Tryz.zeroValue376
  t222 := Tryz.underlying380
  a222 := Tryz.isAgg380
  z222 := Tryz.sizeOf380
  v222 := Tryz.zeroValue380
  t228 := Tryz.underlying412
  a228 := Tryz.isAgg412
  z228 := Tryz.sizeOf412
  v228 := Tryz.zeroValue412
  t229 := Tryz.underlying308
  a229 := Tryz.isAgg308
  z229 := Tryz.sizeOf308
  v229 := Tryz.zeroValue308
def renSdS : Go.Shelf.Ren :=
  { f := fun x => match x with | 6 => 104 | 8 => 187 | 9 => 188 | 11 => 250 | n => n,
    t := fun x => match x with | 26 => 9 | 28 => 204 | 24 => 166 | 0 => 0 | 3 => 3 | 4 => 4 | 33 => 208 | n => n,
    g := fun n => n }
set_option maxRecDepth 100000 in
theorem laysSdS : SlLaysZ.n6 Tryz.prog renSdS where
  mixed := by kernel_rfl
  f6 := ⟨"slices.Sorted[string]", by decide, Eq.trans Tryz.func104 (congrArg some (by kernel_rfl))⟩
  f8 := ⟨"slices.Collect[string]", by decide, Eq.trans Tryz.func187 (congrArg some (by kernel_rfl))⟩
  f11 := ⟨"slices.AppendSeq[[]string,string]", by decide, Eq.trans Tryz.func250 (congrArg some (by kernel_rfl))⟩
  t0 := Tryz.underlying0
  a0 := Tryz.isAgg0
  z0 := Tryz.sizeOf0
  v0 := Tryz.zeroValue0
  t24 := Tryz.underlying166
  a24 := Tryz.isAgg166
  z24 := Tryz.sizeOf166
  v24 := Tryz.zeroValue166
  t26 := Tryz.underlying9
  a26 := Tryz.isAgg9
  z26 := Tryz.sizeOf9
  v26 := Tryz.zeroValue9
  t28 := Tryz.underlying204
  a28 := Tryz.isAgg204
  z28 := Tryz.sizeOf204
  v28 := Tryz.zeroValue204
  i26 := by kernel_rfl
def renKeS : Go.Shelf.Ren :=
  { f := fun x => match x with | 7 => 105 | 10 => 189 | n => n,
    t := fun x => match x with | 23 => 201 | 26 => 9 | 3 => 3 | 28 => 204 | 0 => 0 | 27 => 203 | 33 => 208 | 4 => 4 | n => n,
    g := fun n => n }
set_option maxRecDepth 100000 in
theorem laysKeS : SlLaysZ.n7 Tryz.prog renKeS where
  mixed := by kernel_rfl
  f7 := ⟨"maps.Keys[map[string]int,string,int]", by decide, Eq.trans Tryz.func105 (congrArg some (by kernel_rfl))⟩
  f10 := ⟨"maps.Keys[map[string]int,string,int]$1", by decide, Eq.trans Tryz.func189 (congrArg some (by kernel_rfl))⟩
  t0 := Tryz.underlying0
  a0 := Tryz.isAgg0
  z0 := Tryz.sizeOf0
  v0 := Tryz.zeroValue0
  t4 := Tryz.underlying4
  a4 := Tryz.isAgg4
  z4 := Tryz.sizeOf4
  v4 := Tryz.zeroValue4
  t23 := Tryz.underlying201
  a23 := Tryz.isAgg201
  z23 := Tryz.sizeOf201
  v23 := Tryz.zeroValue201
  t26 := Tryz.underlying9
  a26 := Tryz.isAgg9
  z26 := Tryz.sizeOf9
  v26 := Tryz.zeroValue9
  t27 := Tryz.underlying203
  a27 := Tryz.isAgg203
  z27 := Tryz.sizeOf203
  v27 := Tryz.zeroValue203
  t28 := Tryz.underlying204
  a28 := Tryz.isAgg204
  z28 := Tryz.sizeOf204
  v28 := Tryz.zeroValue204
  t33 := Tryz.underlying208
  a33 := Tryz.isAgg208
  z33 := Tryz.sizeOf208
  v33 := Tryz.zeroValue208
theorem soSIn (m : Nat) : AnyZ.SortsIn Tryz.prog renSdS Fence.wide m :=
  ⟨fun blk off cap ss W hH hblk hsz => callsIn_wide.2 (Any.slices_Sort_string laysSoS blk off cap ss W hH hblk hsz),
   fun p cap W => callsIn_wide.2 (calls_of_every_depth fun D => AnyS.slices_Sort_string_none_in laysSoS D p cap W)⟩
def bS (x : List UInt8) : ByteArray := ⟨x.toArray⟩
def strsE (l : List ByteArray) : List (List AVal) := l.map fun s => [.str s]
theorem strsE_len (l : List ByteArray) : (strsE l).length = l.length := by simp [strsE]
/-- strings, sorted -/
def srtB (ks : List ByteArray) : List ByteArray := ((ks.map fun s => s.data.toList).mergeSort leB).map bS
theorem srtB_perm (ks : List ByteArray) : (srtB ks).Perm ks := by
  unfold srtB
  refine ((List.mergeSort_perm _ leB).map bS).trans ?_
  rw [List.map_map]
  have : (bS ∘ fun s : ByteArray => s.data.toList) = id := by funext s; cases s; simp [bS]
  rw [this, List.map_id]
theorem repE_strs {C : Ctx} {b : Nat} : ∀ (zs : List (List UInt8)) (o : Nat), (∀ i (h : i < zs.length), C.w.cell? ⟨b, o + i, none⟩ = some (encStr zs[i])) → RepE C b o 1 (strsE (zs.map bS))
  | [], o, _ => by simp [strsE, RepE]
  | z :: zs, o, h => by
    rw [List.map_cons, strsE, List.map_cons, RepE]
    refine ⟨rfl, ?_, repE_strs zs (o + 1) fun i hi => ?_⟩
    · rw [RepC]
      refine ⟨⟨encStr z, h 0 (Nat.zero_lt_succ _), rfl, by rw [Rep]; rfl⟩, by rw [RepC]; trivial⟩
    · have := h (i + 1) (by simpa using hi)
      rw [show o + 1 + i = o + (i + 1) by omega]
      simpa using this
theorem repL_strs {C : Ctx} : ∀ {zs : List ByteArray} {vs : List Value}, RepL C (zs.map (AVal.str ·)) vs → vs = zs.map (Value.string ·)
  | [], vs, h => by simpa [RepL] using h
  | z :: zs, vs, h => by
    rw [List.map_cons, RepL] at h
    obtain ⟨v, rest, rfl, hv, hr⟩ := h
    rw [Rep] at hv
    rw [List.map_cons, ← repL_strs hr, hv]
def valS : Value → List UInt8
  | .string s => s.data.toList
  | _ => []
theorem sortedSt_ok {rows : List Row} {a b : Nat} {T : TypeId} {ents : List (AVal × AVal)} {ks : List ByteArray} (ha : rows[a]? = some (.obj (.map false [.str] ents))) (hb : rows[b]? = some (.live T 1 [[.mref a]])) (hk : ents.map (·.1) = ks.map (AVal.str ·)) (hnd : ks.Nodup) (hwf : ∀ x ∈ ks, x.size ≤ maxLen) (hlen : ks.length ≤ 1000000) :
    AFn Tryz.prog 104 [.fn 189 [.ref b 1 0 0]] rows
      (fun v rs => v = .pure 1 (strsE (srtB ks)) ∧ rs = rows) := by
  refine AFn.leafN (fun h => h) ?_
  intro C cargs hr hok hG hrep
  have hr0 : C.rows[a]? = some (.obj (.map false [.str] ents)) := by rw [hr]; exact ha
  have hr1 : C.rows[b]? = some (.live T 1 [[.mref a]]) := by rw [hr]; exact hb
  rw [RepL] at hrep
  obtain ⟨v0, rest, rfl, hv, hn⟩ := hrep
  rw [RepL] at hn
  subst hn
  rw [Rep] at hv
  obtain ⟨vs, rfl, hvs⟩ := hv
  rw [RepL] at hvs
  obtain ⟨vp, rest, hvs', hp, hn⟩ := hvs
  rw [RepL] at hn
  subst hn
  rw [Rep] at hp
  obtain ⟨hpm, _, _, hall⟩ := hp
  obtain ⟨_, h2⟩ := hall _ _ _ hr1
  obtain ⟨_, Bm, c, hphi, rfl⟩ := h2 rfl
  obtain rfl : vs = #[.pointer (some ⟨Bm, 0, none⟩)] := by
    apply Array.toList_inj.1; rw [hvs']
  rcases hok.live hr1 with ⟨_, h0'⟩ | ⟨b1, cap, cs, hp1, hom, hheap, hcs, hcap, hle, hE⟩
  · cases h0'
  rw [hphi] at hp1
  simp only [Option.some.injEq, Prod.mk.injEq] at hp1
  obtain ⟨rfl, rfl⟩ := hp1
  rw [RepE, RepC] at hE
  obtain ⟨⟨vm, hcell, _, hvm⟩, _⟩ := hE.2.1
  rw [Rep] at hvm
  obtain ⟨_, _, _, hvm⟩ := hvm
  obtain ⟨b0, c0, hphi0, rfl⟩ := hvm _ hr0
  have hro := hok.rows _ _ hr0
  rw [RowOk] at hro
  obtain ⟨b0', c0', es, hphi0', hom0, hb0, hborn, hkeys, hvals, hfits⟩ := hro
  rw [hphi0] at hphi0'
  simp only [Option.some.injEq, Prod.mk.injEq] at hphi0'
  obtain ⟨rfl, rfl⟩ := hphi0'
  have hkl : es.toList.map (·.key) = ks.map (Value.string ·) := repL_strs (by rw [← hk]; exact hkeys)
  have hsz : es.size = ks.length := by
    have := congrArg List.length hkl
    simpa using this
  let R : Value → Option (DataW Unit × List MemPlace) := fun _ => some (.nil, [])
  have hint : Tryz.prog.underlying 9 = some .string := Tryz.underlying9
  have hrd : ∀ x ∈ es.toList, ∃ z : ByteArray, x.key = .string z ∧ z ∈ ks ∧ Go.WideElems.rd Tryz.prog 9 R x = some (.string z.data.toList, .nil) := by
    intro x hx
    have : x.key ∈ ks.map (Value.string ·) := by rw [← hkl]; exact List.mem_map_of_mem hx
    obtain ⟨z, hz, hzk⟩ := List.mem_map.1 this
    refine ⟨z, hzk.symm, hz, ?_⟩
    unfold Go.WideElems.rd
    have hs := hwf z hz
    have hkey : keyOf Tryz.prog 9 (.string z) = some (.string z.data.toList) := by
      have hs' : z.data.size ≤ maxLen := hs
      simp [keyOf, hint, mapKey, hs, hs']
    rw [← hzk, hkey]
    rfl
  have hfit : Go.WideElems.Fit Tryz.prog 9 R es es.size := by
    refine ⟨by rw [hsz]; unfold maxLen; omega, ⟨fun x hx => ?_, ?_, ?_⟩, fun x hx => ?_⟩
    · obtain ⟨i, hi, rfl⟩ := List.getElem_of_mem hx
      have := hborn i _ (by rw [← Array.getElem?_toList, List.getElem?_eq_getElem hi])
      rw [this]
      simpa using hi
    · have : es.toList.map (·.born) = List.range es.size := by
        refine List.ext_getElem? fun i => ?_
        by_cases hi : i < es.size
        · rw [List.getElem?_map, Array.getElem?_toList, Array.getElem?_eq_getElem hi, List.getElem?_range hi]
          simp [hborn i _ (Array.getElem?_eq_getElem hi)]
        · rw [List.getElem?_eq_none (by simp; omega), List.getElem?_eq_none (by simp; omega)]
      rw [this]
      exact List.nodup_range
    · rw [hkl]
      exact List.pairwise_map.2 (hnd.imp fun h e => h (by simpa using e))
    · obtain ⟨z, _, _, h⟩ := hrd x hx
      exact ⟨_, h⟩
  let E := es.toList.map (Go.WideElems.rg Tryz.prog 9 R)
  let D : DataW Unit := .map (E.foldr DataW.insert [])
  have hown : C.w.ownsMap Tryz.prog 9 R b0 es.size D := ⟨es, es.size, hb0, hfit, Nat.le_refl _, rfl⟩
  have hE2 : E.map (fun p => strOf p.1) = ks.map fun s => s.data.toList := by
    have : ∀ x ∈ es.toList, ((fun p : Lit × DataW Unit => strOf p.1) ∘ Go.WideElems.rg Tryz.prog 9 R) x = (valS ∘ fun x : MapEntry => x.key) x := by
      intro x hx
      obtain ⟨z, h1, _, h2⟩ := hrd x hx
      simp only [Function.comp_apply]
      rw [Go.WideElems.rg_of h2, h1]; rfl
    show List.map _ (List.map _ es.toList) = _
    rw [List.map_map, List.map_congr_left this, ← List.map_map, hkl, List.map_map]
    rfl
  have hperm : (strKeys D).Perm (ks.map fun s => s.data.toList) := by
    rw [← hE2]
    exact (Go.WideShapes.sorted_perm E).map _
  have hN : Maps.size D = ks.length := by
    show (E.foldr DataW.insert []).length = _
    rw [length_sorted, List.length_map, Array.length_toList, hsz]
  have hseq : SeqGives Fence.wide 2 Tryz.prog 189 #[.pointer (some ⟨Bm, 0, none⟩)] encStr (fun ss => ss.Perm (strKeys D)) (Maps.size D) C.w :=
    AnyZ.keys_gives (ρ := renKeS) { laysKeS with } Fence.wide _ trivial rfl (by omega) Bm b0 es.size D C.w (Array.getElem?_eq_some_iff.1 hheap).1 hcell hown
  have cS := AnyZ.sorted_in laysSdS Fence.wide 5 trivial trivial trivial trivial rfl (by omega) (soSIn _) (enters_of Tryz.func188 (by kernel_rfl) rfl) 189 #[.pointer (some ⟨Bm, 0, none⟩)] trivial (enters_of Tryz.func189 (by kernel_rfl) rfl) _ (Maps.size D) (by rw [hN]; unfold maxLen; omega) (by rw [hN]; omega) C.w hseq
  refine (callsIn_wide.1 cS).mono ?_
  rintro e w' ⟨v, ss, rfl, hS, hrow, hnil, hb⟩
  obtain ⟨L, hL⟩ : ∃ L, L = (ks.map fun s => s.data.toList).mergeSort leB := ⟨_, rfl⟩
  have hss : (ss.mergeSort leB) = L := by rw [hL]; exact mergeSort_of_perm (hS.trans hperm)
  have hsl : ss.length = L.length := by rw [← hss, List.length_mergeSort]
  refine ⟨v, .pure 1 (strsE (L.map bS)), rfl, hb, fun hok' => ?_, by unfold srtB; rw [hL], by rw [← hr]⟩
  have hsl' : (strsE (L.map bS)).length = ss.length := by rw [strsE_len, List.length_map, hsl]
  rw [Rep]
  rcases hrow.2 with ⟨rfl, hz⟩ | ⟨g, cap, cur, rfl, hbase, hgb, r1, r2, r3, r4⟩
  · exact ⟨none, 0, by rw [hsl', hz], by rw [hsl', hz]; exact Nat.le_refl _, .inl (by rw [hsl', hz])⟩
  · refine ⟨_, cap, by rw [hsl'], by rw [hsl']; exact r1, .inr ⟨g, 0, rfl, ⟨(Array.getElem?_eq_some_iff.1 hgb).1, fun ho => ?_, fun r c h => ?_⟩, ?_⟩⟩
    · have := hok.om _ ho
      omega
    · have := hok.lt h
      omega
    · refine repE_strs (C := Ctx.p _) _ _ fun i hi => ?_
      have h1 : (cur.toList.take (ss.length * 1))[i]? = ((ss.mergeSort leB).map encStr)[i]? := by rw [r4]
      rw [List.getElem?_take_of_lt (by rw [Nat.mul_one, hsl]; exact hi), List.getElem?_map, hss, List.getElem?_eq_getElem hi, Array.getElem?_toList] at h1
      show World.cell? w' _ = _
      simp only [World.cell?, hgb, Nat.zero_add]
      simpa using h1

end Go.Proofs.YtpincjkjoeopkaaGreatDoor
