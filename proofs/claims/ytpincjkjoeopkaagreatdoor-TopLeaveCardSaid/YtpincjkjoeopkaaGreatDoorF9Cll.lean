/- slices.AppendSeq and slices.Collect at keys that are structs, over an iterator; slices.Collect of the keys of the map of absences. -/
import Derived.Test.YtpincjkjoeopkaaGreatDoorF9App
import Derived.KernelRfl
set_option linter.unusedSimpArgs false
set_option linter.unusedVariables false
set_option linter.unusedSectionVars false
namespace Go.Proofs.YtpincjkjoeopkaaGreatDoor
open Go Go.Abs Go.Maps
open Go.RowKit Go.Sort Go.Shelf
set_option linter.unusedSimpArgs false
set_option linter.unusedVariables false
set_option maxRecDepth 100000

set_option maxHeartbeats 2000000 in
theorem appendSeq_in (F : Fence) (n : Nat) (h11 : F.fn 261) (hro : F.round = none) (hn : 2 ≤ n) (g : Nat) (lb : Array Value) (hFg : F.fn g) (eg : ∀ args w, (callFunc g args).run Tryz.prog w = .ok (.enter g args) w)
    (S : List Value → Prop) (N : Nat) (hN : N ≤ maxLen) (hNb : N * 24 ≤ 140737488355328) (w : World) (hseq : KGives Tryz.prog 235 F (n - 1) g lb S N w) :
    CallsIn F n Tryz.prog 261 #[.slice none 0 0, .func (.func g) #[] lb] w fun e w' => ∃ (v : Value) (ss : List Value), e = .returned v ∧ S ss ∧ w'.ownsRow w.heap.size 235 2 v ss.length (kcells ss) ∧ (v = .slice none 0 0 ↔ ss = []) ∧ Below w.heap.size w w' := by
  have h1 : 1 ≤ n := by omega
  have mixed : Tryz.prog.follows .mixedOrders = true := by kernel_rfl
  have t0 := Tryz.underlying0; have a0 := Tryz.isAgg0; have z0 := Tryz.sizeOf0; have v0 := Tryz.zeroValue0
  have t4 := Tryz.underlying4; have a4 := Tryz.isAgg4; have z4 := Tryz.sizeOf4; have v4 := Tryz.zeroValue4
  have t23 := Tryz.underlying232; have a23 := Tryz.isAgg232; have z23 := Tryz.sizeOf232; have v23 := Tryz.zeroValue232
  have t24 := Tryz.underlying236; have a24 := Tryz.isAgg236; have z24 := Tryz.sizeOf236; have v24 := Tryz.zeroValue236
  have t28 := Tryz.underlying239; have a28 := Tryz.isAgg239; have z28 := Tryz.sizeOf239; have v28 := Tryz.zeroValue239
  have t33 := Tryz.underlying322; have a33 := Tryz.isAgg322; have z33 := Tryz.sizeOf322; have v33 := Tryz.zeroValue322
  have t26 := Tryz.underlying235; have a26 := Tryz.isAgg235; have z26 := Tryz.sizeOf235; have v26 := Tryz.zeroValue235
  have u0 := run_underlying t0; have u4 := run_underlying t4; have u23 := run_underlying t23; have u33 := run_underlying t33; have u24 := run_underlying t24; have u28 := run_underlying t28; have u26 := run_underlying t26
  refine callsIn_of_wp_marks Tryz.func261 rfl h11 ?_ hro
  simp only [Tryz.ntmps261, List.size_toArray, List.length_cons, List.length_nil, Nat.reduceAdd, Nat.reduceSub, Array.replicate_succ, Array.replicate_zero, List.push_toArray, List.append_toArray, List.nil_append, List.cons_append]
  gi_wp2
  refine wpIn_rangeFunc ?_
  intro fn hfn
  rw [hro]
  obtain ⟨W0, hW0⟩ : ∃ W0, w.alloc (.cells #[.slice none 0 0] 236) = W0 := ⟨_, rfl⟩
  have hs0 : W0.heap.size = w.heap.size + 1 := by rw [← hW0]; simp
  have hv0 : W0.heap[w.heap.size]? = some (.cells #[.slice none 0 0] 236 (0, 0)) := by rw [← hW0]; exact World.alloc_heap_new w _
  have hb0 : Below w.heap.size w W0 := by rw [← hW0]; exact (Below.refl _ w).alloc (Nat.le_refl _) _
  rw [hW0]
  obtain ⟨W1, hW1⟩ : ∃ W1, (W0.alloc (.deferred (some []))).alloc (.loop (apR fn (.func (.func g) #[] lb) w.heap.size W0.heap.size .ready none)) = W1 := ⟨_, rfl⟩
  have hold : ∀ k, k < W0.heap.size → W1.heap[k]? = W0.heap[k]? := fun k hk => by
    rw [← hW1]; exact (Below.heap_alloc _ _ k (by simp; omega)).trans (Below.heap_alloc _ _ k hk)
  have hb1 : Below w.heap.size w W1 := by rw [← hW1]; exact (hb0.alloc hb0.size _).alloc (by have := hb0.size; simp; omega) _
  have hs1 : W1.heap.size = W0.heap.size + 2 := by rw [← hW1]; simp
  have hM : KAp w fn (.func (.func g) #[] lb) w.heap.size (W0.heap.size + 1) W0.heap.size [] W1 :=
    ⟨⟨_, (hold w.heap.size (by omega)).trans hv0, ⟨rfl, .inl ⟨rfl, rfl⟩⟩, by simp⟩,
     by rw [← hW1]; have := World.alloc_heap_new (W0.alloc (.deferred (some []))) (.loop (apR fn (.func (.func g) #[] lb) w.heap.size W0.heap.size .ready none)); rwa [World.size_alloc] at this,
     by rw [← hW1]; exact (Below.heap_alloc _ _ _ (by simp)).trans (World.alloc_heap_new W0 _), hb1⟩
  refine ⟨W0.heap.size + 1, [{ target := .collected W0.heap.size, args := #[] }], W1, { target := .fn (.func g) lb, args := #[.func (.yield (W0.heap.size + 1)) #[] #[]] }, W1, g,
    #[.func (.yield (W0.heap.size + 1)) #[] #[]] ++ lb, W1, ?_, ?_, ?_, ?_, fun _ => h1, ?_⟩
  · rw [← hW1]; exact run_enterLoop_outer _ _ _ _ _
  · simp [resolve, go_sem]
  · intro f' hf'; simp [Target.leads] at hf'; subst hf'; exact hFg
  · simp [invoke, go_sem, eg]
  · refine (hseq (W0.heap.size + 1) (KAp w fn (.func (.func g) #[] lb) w.heap.size (W0.heap.size + 1) W0.heap.size) W1 hb1 (KAp.abides _ _ _ _ _ _ _ hb1.size)
      (fun pre x W hJ hl hk => apYield F (n - 1 - 1) w fn hfn _ w.heap.size (W0.heap.size + 1) W0.heap.size (by omega) (by omega) (by omega) (Nat.le_refl _) (by omega) N hN hNb pre x hk W hJ hl) hM).mono ?_
    rintro e W2 ⟨⟨v0, rfl⟩, ss, hS, h2⟩
    obtain ⟨v, hv, hrow, hnil⟩ := h2.box
    have hend := run_endLoop (P := Tryz.prog) h2.L (by simp [apR])
    obtain ⟨W3, hW3⟩ : ∃ W3, W2.putObj (W0.heap.size + 1) (.loop { apR fn (.func (.func g) #[] lb) w.heap.size W0.heap.size .ready none with state := .exhausted }) = W3 := ⟨_, rfl⟩
    rw [hW3] at hend
    have hg3 : W2.grownBy W3 (some (W0.heap.size + 1)) := by rw [← hW3]; exact grownBy_putObj_a _ _ _
    have hv3 : W3.heap[w.heap.size]? = some (.cells #[v] 236 (0, 0)) := by rw [← hW3]; exact (World.putObj_heap_other (by omega)).trans hv
    have hK3 : W3.heap[W0.heap.size]? = some (.deferred (some [])) := by rw [← hW3]; exact (World.putObj_heap_other (by omega)).trans h2.K
    have hrow3 := hrow.kept hg3 (ownsRow_ne_a hrow h2.L (fun cur e => by first | cases e | exact hne (Obj.cells.inj e).2.1))
    have hb3 : Below w.heap.size w W3 := h2.below.grown hg3 h2.below.size (fun k e => by cases e; omega)
    obtain ⟨hc3, hf3⟩ := cell_of_box_a hv3
    clear hW3
    refine ⟨none, W3, hend, ?_⟩
    gi_wp2
    rw [← hs0]
    refine ⟨by simp, .inl ⟨_, _, rfl, run_takeDeferred hK3, ?_⟩⟩
    exact ⟨_, results_tmp rfl _ _ _, v, ss, rfl, hS, hrow3.kept (grownBy_putObj_a _ _ _) (ownsRow_ne_a hrow3 hK3 (fun cur e => by first | cases e | exact hne (Obj.cells.inj e).2.1)), hnil, hb3.grown (grownBy_putObj_a _ _ _) hb3.size (fun k e => by cases e; omega)⟩

set_option maxHeartbeats 1000000 in
theorem collect_in (F : Fence) (n : Nat) (h8 : F.fn 205) (h11 : F.fn 261) (hro : F.round = none) (hn : 3 ≤ n) (g : Nat) (lb : Array Value) (hFg : F.fn g) (eg : ∀ args w, (callFunc g args).run Tryz.prog w = .ok (.enter g args) w)
    (S : List Value → Prop) (N : Nat) (hN : N ≤ maxLen) (hNb : N * 24 ≤ 140737488355328) (w : World) (hseq : KGives Tryz.prog 235 F (n - 1 - 1) g lb S N w) :
    CallsIn F n Tryz.prog 205 #[.func (.func g) #[] lb] w fun e w' => ∃ (v : Value) (ss : List Value), e = .returned v ∧ S ss ∧ w'.ownsRow w.heap.size 235 2 v ss.length (kcells ss) ∧ (v = .slice none 0 0 ↔ ss = []) ∧ Below w.heap.size w w' := by
  have h1 : 1 ≤ n := by omega
  have e11 : ∀ args w, (callFunc 261 args).run Tryz.prog w = .ok (.enter 261 args) w := enters_of Tryz.func261 (by kernel_rfl) rfl
  have mixed : Tryz.prog.follows .mixedOrders = true := by kernel_rfl
  have t0 := Tryz.underlying0; have a0 := Tryz.isAgg0; have z0 := Tryz.sizeOf0; have v0 := Tryz.zeroValue0
  have t4 := Tryz.underlying4; have a4 := Tryz.isAgg4; have z4 := Tryz.sizeOf4; have v4 := Tryz.zeroValue4
  have t23 := Tryz.underlying232; have a23 := Tryz.isAgg232; have z23 := Tryz.sizeOf232; have v23 := Tryz.zeroValue232
  have t24 := Tryz.underlying236; have a24 := Tryz.isAgg236; have z24 := Tryz.sizeOf236; have v24 := Tryz.zeroValue236
  have t28 := Tryz.underlying239; have a28 := Tryz.isAgg239; have z28 := Tryz.sizeOf239; have v28 := Tryz.zeroValue239
  have t33 := Tryz.underlying322; have a33 := Tryz.isAgg322; have z33 := Tryz.sizeOf322; have v33 := Tryz.zeroValue322
  have t26 := Tryz.underlying235; have a26 := Tryz.isAgg235; have z26 := Tryz.sizeOf235; have v26 := Tryz.zeroValue235
  have u0 := run_underlying t0; have u4 := run_underlying t4; have u23 := run_underlying t23; have u33 := run_underlying t33; have u24 := run_underlying t24; have u28 := run_underlying t28; have u26 := run_underlying t26
  refine callsIn_of_wp Tryz.func205 rfl h8 ?_ hro
  simp only [Tryz.ntmps205, List.size_toArray, List.length_cons, List.length_nil, Nat.reduceAdd, Nat.reduceSub, Array.replicate_succ, Array.replicate_zero, List.push_toArray, List.append_toArray, List.nil_append, List.cons_append]
  gi_wp2_with (gi_at_fn 261; refine (appendSeq_in F (n - 1) h11 hro (by omega) g lb hFg eg S N hN hNb _ hseq).mono ?_; rintro e w' ⟨v, ss, rfl, hS, hrow, hnil, hb⟩)
  go_ret
  exact ⟨v, ss, rfl, hS, hrow, hnil, hb⟩

def encAK (k : AKey) : Value := .agg #[.int .i64 k.d, .string k.n]
theorem encAK_inj {a b : AKey} (h : encAK a = encAK b) : a = b := by
  cases a; cases b
  unfold encAK at h
  simp only [Value.agg.injEq, Array.mk.injEq, List.cons.injEq, Value.int.injEq, Value.string.injEq, true_and, and_true] at h
  obtain ⟨rfl, rfl⟩ := h
  rfl
def keysA (ks : List AKey) : List AVal := ks.map fun k => .agg (Cel.c k)
theorem repL_keysA {C : Ctx} : ∀ {ks : List AKey} {vs : List Value}, RepL C (keysA ks) vs → vs = ks.map encAK
  | [], vs, h => by simpa [keysA, RepL] using h
  | k :: ks, vs, h => by
    unfold keysA at h
    rw [List.map_cons, RepL] at h
    obtain ⟨v, rest, rfl, hv, hr⟩ := h
    simp only [Rep] at hv
    obtain ⟨cs, rfl, hcs⟩ := hv
    rw [cel_akey, RepL] at hcs
    obtain ⟨v1, r1, e1, h1, hcs⟩ := hcs
    rw [RepL] at hcs
    obtain ⟨v2, r2, rfl, h2, hcs⟩ := hcs
    rw [RepL] at hcs
    subst hcs
    simp only [Rep] at h1 h2
    subst h1; subst h2
    rw [List.map_cons, ← repL_keysA (ks := ks) hr]
    congr 1
    unfold encAK
    congr 1
    exact Array.toList_inj.1 e1
theorem kcells_enc : ∀ (l : List AKey), kcells (l.map encAK) = (l.map encL).flatten
  | [] => rfl
  | k :: l => by
    have ih := kcells_enc l
    unfold kcells at *
    rw [List.map_cons, List.flatMap_cons, List.map_cons, List.flatten_cons, ih]
    rfl
instance : Ltl AKey := ⟨fun _ => rfl⟩
/-- slices.Collect of the keys: each once, in whatever order -/
theorem collectK_ok {rows : List Row} {a b : Nat} {T : TypeId} {ents : List (AVal × AVal)} {ks : List AKey} (ha : rows[a]? = some (.obj (.map true [.int .i64, .str] ents))) (hb : rows[b]? = some (.live T 1 [[.mref a]])) (hk : ents.map (·.1) = keysA ks) (hnd : ks.Nodup)
    (hwf : ∀ x ∈ ks, (Lit.int .i64 x.d).wf = true ∧ x.n.size ≤ maxLen) (hlen : ks.length ≤ 1000000) :
    AFn Tryz.prog 205 [.fn 207 [.ref b 1 0 0]] rows
      (fun v rs => ∃ l : List AKey, l.Perm ks ∧ v = .own rows.length l.length 0 l.length ∧ rs = rows ++ [.live 235 2 (els l)]) := by
  refine AFn.leafO (fun h => h) ?_
  intro C cargs hr hok hG hrep
  have hr0 : C.rows[a]? = some (.obj (.map true [.int .i64, .str] ents)) := by rw [hr]; exact ha
  have hr1 : C.rows[b]? = some (.live T 1 [[.mref a]]) := by rw [hr]; exact hb
  rw [RepL] at hrep
  obtain ⟨v0, rest, rfl, hv, hn⟩ := hrep
  rw [RepL] at hn
  subst hn
  rw [Rep] at hv
  obtain ⟨vs, rfl, hvs⟩ := hv
  rw [RepL] at hvs
  obtain ⟨vp, rest, hvs', hp, hn⟩ := hvs
  rw [RepL] at hn
  subst hn
  rw [Rep] at hp
  obtain ⟨hpm, _, _, hall⟩ := hp
  obtain ⟨_, h2⟩ := hall _ _ _ hr1
  obtain ⟨_, Bm, c, hphi, rfl⟩ := h2 rfl
  obtain rfl : vs = #[.pointer (some ⟨Bm, 0, none⟩)] := by
    apply Array.toList_inj.1; rw [hvs']
  rcases hok.live hr1 with ⟨_, h0'⟩ | ⟨b1, cap, cs, hp1, hom, hheap, hcs, hcap, hle, hE⟩
  · cases h0'
  rw [hphi] at hp1
  simp only [Option.some.injEq, Prod.mk.injEq] at hp1
  obtain ⟨rfl, rfl⟩ := hp1
  rw [RepE, RepC] at hE
  obtain ⟨⟨vm, hcell, _, hvm⟩, _⟩ := hE.2.1
  rw [Rep] at hvm
  obtain ⟨_, _, _, hvm⟩ := hvm
  obtain ⟨b0, c0, hphi0, rfl⟩ := hvm _ hr0
  have hro := hok.rows _ _ hr0
  rw [RowOk] at hro
  obtain ⟨b0', c0', es, hphi0', hom0, hb0, hborn, hkeys, hvals, hfits⟩ := hro
  rw [hphi0] at hphi0'
  simp only [Option.some.injEq, Prod.mk.injEq] at hphi0'
  obtain ⟨rfl, rfl⟩ := hphi0'
  have hkl : es.toList.map (·.key) = ks.map encAK := repL_keysA (by rw [← hk]; exact hkeys)
  have hsz : es.size = ks.length := by
    have := congrArg List.length hkl
    simpa using this
  let R : Value → Option (DataW Unit × List MemPlace) := fun _ => some (.nil, [])
  have hrd : ∀ x ∈ es.toList, ∃ k, x.key = encAK k ∧ k ∈ ks ∧ Go.WideElems.rd Tryz.prog 235 R x = some (.string (keyBytes [.int .i64 k.d, .string k.n.data.toList]), .nil) := by
    intro x hx
    have : x.key ∈ ks.map encAK := by rw [← hkl]; exact List.mem_map_of_mem hx
    obtain ⟨k, hz, hzk⟩ := List.mem_map.1 this
    refine ⟨k, hzk.symm, hz, ?_⟩
    unfold Go.WideElems.rd
    rw [← hzk]
    unfold encAK
    rw [keyOf_ak (hwf k hz).1 (hwf k hz).2]
    rfl
  have hfit : Go.WideElems.Fit Tryz.prog 235 R es es.size := by
    refine ⟨by rw [hsz]; unfold maxLen; omega, ⟨fun x hx => ?_, ?_, ?_⟩, fun x hx => ?_⟩
    · obtain ⟨i, hi, rfl⟩ := List.getElem_of_mem hx
      have := hborn i _ (by rw [← Array.getElem?_toList, List.getElem?_eq_getElem hi])
      rw [this]
      simpa using hi
    · have : es.toList.map (·.born) = List.range es.size := by
        refine List.ext_getElem? fun i => ?_
        by_cases hi : i < es.size
        · rw [List.getElem?_map, Array.getElem?_toList, Array.getElem?_eq_getElem hi, List.getElem?_range hi]
          simp [hborn i _ (Array.getElem?_eq_getElem hi)]
        · rw [List.getElem?_eq_none (by simp; omega), List.getElem?_eq_none (by simp; omega)]
      rw [this]
      exact List.nodup_range
    · rw [hkl]
      exact List.pairwise_map.2 (hnd.imp fun h e => h (encAK_inj e))
    · obtain ⟨k, _, _, h⟩ := hrd x hx
      exact ⟨_, h⟩
  let E := es.toList.map (Go.WideElems.rg Tryz.prog 235 R)
  let D : DataW Unit := .map (E.foldr DataW.insert [])
  have hown : C.w.ownsMap Tryz.prog 235 R b0 es.size D := ⟨es, es.size, hb0, hfit, Nat.le_refl _, rfl⟩
  have hpermE : (E.foldr DataW.insert []).Perm E := Go.WideShapes.sorted_perm E
  have hN : Maps.size D = ks.length := by
    show (E.foldr DataW.insert []).length = _
    rw [hpermE.length_eq, List.length_map, Array.length_toList, hsz]
  have hmemD : ∀ k : AKey, (Lit.int .i64 k.d).wf = true → k.n.size ≤ maxLen → (has D (.string (keyBytes [.int .i64 k.d, .string k.n.data.toList])) = true ↔ k ∈ ks) := by
    intro k w1 w2
    rw [show has D _ = (E.foldr DataW.insert []).any (fun p => p.1.sameKey (.string (keyBytes [.int .i64 k.d, .string k.n.data.toList]))) from has_eq _ _, List.any_eq_true]
    constructor
    · rintro ⟨p, hp, hs⟩
      have hp' := hpermE.mem_iff.1 hp
      obtain ⟨x, hx, rfl⟩ := List.mem_map.1 hp'
      obtain ⟨k', h1, h2, h3⟩ := hrd x hx
      rw [Go.WideElems.rg_of h3] at hs
      have := WideAt.sameKey_eq hs
      have e := keyedK.inj (keyOf_ak (hwf k' h2).1 (hwf k' h2).2) (this ▸ keyOf_ak w1 w2)
      rw [← encAK_inj e]; exact h2
    · intro hk'
      have : encAK k ∈ es.toList.map (·.key) := by rw [hkl]; exact List.mem_map_of_mem hk'
      obtain ⟨x, hx, he⟩ := List.mem_map.1 this
      refine ⟨Go.WideElems.rg Tryz.prog 235 R x, hpermE.mem_iff.2 (List.mem_map_of_mem hx), ?_⟩
      obtain ⟨k', h1, h2, h3⟩ := hrd x hx
      rw [Go.WideElems.rg_of h3]
      have e : k' = k := encAK_inj (h1.symm.trans he)
      subst e
      exact WideAt.sameKey_self (keyedK.key (keyOf_ak w1 w2))
  have hseq := keysGives (H := Unit) (R := R) Fence.wide 1 trivial rfl (by omega) Bm b0 es.size D C.w (Array.getElem?_eq_some_iff.1 hheap).1 hcell hown
  have cS := collect_in Fence.wide 3 trivial trivial rfl (by omega) 207 #[.pointer (some ⟨Bm, 0, none⟩)] trivial
    (enters_of Tryz.func207 (by kernel_rfl) rfl) _ (Maps.size D) (by rw [hN]; unfold maxLen; omega) (by rw [hN]; omega) C.w hseq
  refine (callsIn_wide.1 cS).mono ?_
  rintro e w' ⟨v, ss, rfl, hS, hrow, hnil, hbl⟩
  have hss : ∃ l : List AKey, ss = l.map encAK ∧ l.Perm ks := by
    have hall : ∀ x ∈ ss, ∃ k, x = encAK k ∧ k ∈ ks := fun x hx => by
      obtain ⟨lt, h1, h2, _⟩ := (hS.2 x).1 hx
      obtain ⟨d, n, rfl, w1, w2, rfl⟩ := keyOf_inv x lt h1
      exact ⟨⟨d, n⟩, rfl, (hmemD ⟨d, n⟩ w1 w2).1 h2⟩
    obtain ⟨l, hl, hlk⟩ := list_of (f := encAK) (Q := (· ∈ ks)) ss hall
    refine ⟨l, hl, ?_⟩
    have hnl : l.Nodup := by
      have h9 := hS.1
      rw [hl] at h9
      exact (List.pairwise_map.1 h9).imp fun h e => h (by rw [e])
    rw [List.perm_ext_iff_of_nodup hnl hnd]
    intro k
    refine ⟨hlk k, fun hk' => ?_⟩
    have := (hS.2 (encAK k)).2 ⟨_, keyOf_ak (hwf k hk').1 (hwf k hk').2, (hmemD k (hwf k hk').1 (hwf k hk').2).2 hk', rfl⟩
    rw [hl] at this
    obtain ⟨k', h1, h2⟩ := List.mem_map.1 this
    rw [← encAK_inj h2]; exact h1
  obtain ⟨l, rfl, hperm⟩ := hss
  refine ⟨v, 235, 2, els l, (l.map encL).flatten, rfl, hbl, ?_, els_elems l, l, hperm, by rw [els_length], by rw [← hr]⟩
  rw [els_length, ← kcells_enc]
  simpa using hrow

end Go.Proofs.YtpincjkjoeopkaaGreatDoor
