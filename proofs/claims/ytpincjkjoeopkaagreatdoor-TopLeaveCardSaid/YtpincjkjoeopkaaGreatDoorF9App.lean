/- The iterator over the keys; slices.AppendSeq and slices.Collect at keys that are structs. -/
import Derived.Test.YtpincjkjoeopkaaGreatDoorF9Key
import Derived.WalkKit
set_option linter.unusedSimpArgs false
set_option linter.unusedVariables false
set_option linter.unusedSectionVars false
namespace Go.Proofs.YtpincjkjoeopkaaGreatDoor
open Go Go.Abs Go.Maps
open Go.RowKit Go.Sort Go.Shelf
set_option linter.unusedSimpArgs false
set_option linter.unusedVariables false
set_option maxRecDepth 100000

set_option maxHeartbeats 1000000 in
theorem keys1 {H : Type} (F : Fence) (n : Nat) (h10 : F.fn 207) (hro : F.round = none) (hn : 1 ≤ n) (l Bm b nn : Nat) (D0 : DataW H) {R : Value → Option (DataW H × List MemPlace)} (J : List Value → World → Prop)
    (hY : ∀ pre x W, J pre W → pre.length < Maps.size D0 → (∃ kl, keyOf Tryz.prog 235 x = some kl) → YieldAt F (n - 1) Tryz.prog l #[x] W fun e W' => e = .returned (.bool true) ∧ J (pre ++ [x]) W' ∧ KeepsWalks W W')
    (W : World) (hJ : AbidesFrom W.heap.size J) (hm : W.cell? ⟨Bm, 0, none⟩ = some (.map (some b))) (hown : W.ownsMap Tryz.prog 235 R b nn D0) (h0 : J [] W) :
    CallsIn F n Tryz.prog 207 #[.func (.yield l) #[] #[], .pointer (some ⟨Bm, 0, none⟩)] W fun e W' => (∃ v, e = .returned v) ∧ ∃ ss : List Value, CollectedK Tryz.prog 235 D0 (fun _ => false) ss ∧ J ss W' := by
  have mixed : Tryz.prog.follows .mixedOrders = true := by kernel_rfl
  have t0 := Tryz.underlying0; have a0 := Tryz.isAgg0; have z0 := Tryz.sizeOf0; have v0 := Tryz.zeroValue0
  have t4 := Tryz.underlying4; have a4 := Tryz.isAgg4; have z4 := Tryz.sizeOf4; have v4 := Tryz.zeroValue4
  have t23 := Tryz.underlying232; have a23 := Tryz.isAgg232; have z23 := Tryz.sizeOf232; have v23 := Tryz.zeroValue232
  have t24 := Tryz.underlying236; have a24 := Tryz.isAgg236; have z24 := Tryz.sizeOf236; have v24 := Tryz.zeroValue236
  have t28 := Tryz.underlying239; have a28 := Tryz.isAgg239; have z28 := Tryz.sizeOf239; have v28 := Tryz.zeroValue239
  have t33 := Tryz.underlying322; have a33 := Tryz.isAgg322; have z33 := Tryz.sizeOf322; have v33 := Tryz.zeroValue322
  have t26 := Tryz.underlying235; have a26 := Tryz.isAgg235; have z26 := Tryz.sizeOf235; have v26 := Tryz.zeroValue235
  have u0 := run_underlying t0; have u4 := run_underlying t4; have u23 := run_underlying t23; have u33 := run_underlying t33; have u24 := run_underlying t24; have u28 := run_underlying t28; have u26 := run_underlying t26
  have K := keyedK
  refine callsIn_of_wp Tryz.func207 rfl h10 ?_ hro
  simp only [Tryz.ntmps207, List.size_toArray, List.length_cons, List.length_nil, Nat.reduceAdd, Nat.reduceSub, Array.replicate_succ, Array.replicate_zero, List.push_toArray, List.append_toArray, List.nil_append, List.cons_append]
  gi_wp2_with (first
    | (gi_at_range; refine wpListIn_range_own _ rfl _ 232 rfl 235 3 K t23 _ b nn _ rfl hown ?_; intro w0 hrg0 hg0 hs0)
    | gi_in)
  go_frame
  gi_loopw [3] (fun _ wr => ∃ (left : Lit → Bool) (cnt : Nat) (ss : List Value), wr.ranges Tryz.prog 235 R b W.heap.size nn D0 left cnt ∧ ss.length + cnt ≤ Maps.size D0 ∧ CollectedK Tryz.prog 235 D0 left ss ∧ J ss wr)
    (fun _ wr => wr.rangeLeft b W.heap.size)
  case atStart =>
    exact ⟨_, _, [], hrg0, by simp, CollectedK.start _ D0, hJ [] W w0 none h0 hg0 (fun r e => by cases e)⟩
  case round =>
    obtain ⟨left, cnt, ss, hrg, hcs, hC, hJs⟩ := hrel
    gi_wp2_with (first
      | (gi_at_next; refine wpListIn_next_ranges _ rfl _ rfl 235 K R (fun v : Value => v) id (fun key kl hk => ⟨key, rfl⟩) (fun v _ _ => ⟨v, rfl⟩) b W.heap.size nn _ _ _ rfl hrg ?_ ?_)
      | gi_in)
    · -- nothing is left
      intro hc0 hl0
      gi_wp2
      go_end0
      exact ⟨⟨_, rfl⟩, ss, by rw [show left = fun _ => false from funext hl0] at hC; exact hC, hJs⟩
    · -- an entry has come
      intro x c kl yd yp w2 cnt2 hkey hlk hv hat hrg2 hlt hg2 hs2 hen
      obtain ⟨d, n', rfl, _⟩ := keyOf_inv x kl hkey
      have hJ2 : J ss w2 := hJ ss wr w2 (some W.heap.size) hJs hg2 (fun r e => by cases e; exact ⟨Nat.le_refl _, hrg.iter_walk⟩)
      have hJ2' : J ss (w2.alloc (.cells #[.int .i64 d, .string n'] 235)) := hJ ss w2 _ none hJ2 (World.grownBy_alloc w2 _ none) (fun r e => by cases e)
      obtain ⟨fn, tmps, assign, body, hy, hR⟩ := hY ss _ _ hJ2' (by omega) ⟨kl, hkey⟩
      clear hs2
      gi_wp2
      refine hR.mono ?_
      rintro e W3 ⟨rfl, hJ3, hk3⟩
      gi_wp2
      have hrg3 := hrg2.of_walks ((KeepsWalks.alloc _ _).trans hk3)
      go_roundw
      case rel => exact ⟨_, cnt2, ss ++ [_], hrg3, by simp; omega, hC.step K hkey hlk hat, hJ3⟩
      case measure => rw [hrg3.left_eq, hrg.left_eq]; exact hlt

theorem keysGives {H : Type} (F : Fence) (n : Nat) (h10 : F.fn 207) (hro : F.round = none) (hn : 1 ≤ n) (Bm b nn : Nat) (D0 : DataW H) {R : Value → Option (DataW H × List MemPlace)} (w : World) (hBm : Bm < w.heap.size)
    (hm : w.cell? ⟨Bm, 0, none⟩ = some (.map (some b))) (hown : w.ownsMap Tryz.prog 235 R b nn D0) :
    KGives Tryz.prog 235 F n 207 #[.pointer (some ⟨Bm, 0, none⟩)] (fun ss => CollectedK Tryz.prog 235 D0 (fun _ => false) ss) (Maps.size D0) w := fun l J W hW hJ hY h0 => by
  have hown' : W.ownsMap Tryz.prog 235 R b nn D0 := by
    have hbl := hown.lt
    obtain ⟨es, clock, hb, Ft, hs, hD⟩ := hown
    exact ⟨es, clock, (hW.block b hbl).trans hb, Ft, hs, hD⟩
  exact keys1 F n h10 hro hn l Bm b nn D0 J hY W hJ ((hW.cell (p := ⟨Bm, 0, none⟩) hBm).trans hm) hown' h0

def partsOf : Option Code → Code × Code
  | some (.seq _ (.seq (.seq _ (.block _ (.rangeFunc _ _ a b))) _)) => (a, b)
  | _ => (.skip, .skip)
def apA : {c : Code // (partsOf Tryz.f261.body).1 = c} := ⟨_, by conv => lhs; whnf⟩
def apB : {c : Code // (partsOf Tryz.f261.body).2 = c} := ⟨_, by conv => lhs; whnf⟩
def apR (fn : FuncId) (sv : Value) (Bs D : Nat) (st : LoopState) (pend : Option Code) : Loop :=
  { state := st, pending := pend, fn, tmps := #[.slice none 0 0, sv, .pointer (some ⟨Bs, 0, none⟩), undef, .slice none 0 0, undef, sv, undef, undef, undef, undef, undef, undef], params := #[7], assign := apA.1, body := apB.1, defers := D }
theorem i26K : (Tryz.prog.info? 235).map (fun i => (i.zero, i.size, i.bytes)) = some (some (.agg #[.int .i64 0, .string ⟨#[]⟩]), 2, 24) := by kernel_rfl
/-- between two rounds -/
structure KAp (w0 : World) (fn : FuncId) (sv : Value) (Bs l D : Nat) (ss : List Value) (W : World) : Prop where
  box : ∃ v, W.heap[Bs]? = some (.cells #[v] 236 (0, 0)) ∧ W.ownsRow w0.heap.size 235 2 v ss.length (kcells ss) ∧ (v = .slice none 0 0 ↔ ss = [])
  L : W.heap[l]? = some (.loop (apR fn sv Bs D .ready none))
  K : W.heap[D]? = some (.deferred (some []))
  below : Below w0.heap.size w0 W

theorem KAp.abides (w0 : World) (fn : FuncId) (sv : Value) (Bs l D B : Nat) (hB : w0.heap.size ≤ B) : AbidesFrom B (KAp w0 fn sv Bs l D) := fun s W W' row h hg hrow => by
  have hrow' : ∀ r, row = some r → ∃ o : Obj, W.heap[r]? = some o ∧ o.isWalk = true := fun r e => (hrow r e).2
  obtain ⟨v, hv, hr, hn⟩ := h.box
  exact ⟨⟨v, (grownBy_keeps hg hrow' hv rfl).trans hv, ownsRow_abides_a hr hg hrow', hn⟩, (grownBy_keeps hg hrow' h.L rfl).trans h.L, (grownBy_keeps hg hrow' h.K rfl).trans h.K,
    h.below.grown hg h.below.size (fun k e => Nat.le_trans hB (hrow k e).1)⟩

set_option maxHeartbeats 2000000 in
theorem apYield (F : Fence) (m : Nat) (w0 : World) (fn : FuncId) (hfn : F.fn fn) (sv : Value) (Bs l D : Nat) (hBl : Bs ≠ l) (hDl : D ≠ l) (hDB : D ≠ Bs) (h0B : w0.heap.size ≤ Bs) (h0l : w0.heap.size ≤ l)
    (N : Nat) (hN : N ≤ maxLen) (hNb : N * 24 ≤ 140737488355328) (ss : List Value) (x : Value) (hkx : ∃ kl, keyOf Tryz.prog 235 x = some kl) (W : World) (h : KAp w0 fn sv Bs l D ss W) (hlen : ss.length < N) :
    YieldAt F m Tryz.prog l #[x] W fun e W' => e = .returned (.bool true) ∧ KAp w0 fn sv Bs l D (ss ++ [x]) W' ∧ KeepsWalks W W' := by
  have mixed : Tryz.prog.follows .mixedOrders = true := by kernel_rfl
  have t0 := Tryz.underlying0; have a0 := Tryz.isAgg0; have z0 := Tryz.sizeOf0; have v0 := Tryz.zeroValue0
  have t4 := Tryz.underlying4; have a4 := Tryz.isAgg4; have z4 := Tryz.sizeOf4; have v4 := Tryz.zeroValue4
  have t23 := Tryz.underlying232; have a23 := Tryz.isAgg232; have z23 := Tryz.sizeOf232; have v23 := Tryz.zeroValue232
  have t24 := Tryz.underlying236; have a24 := Tryz.isAgg236; have z24 := Tryz.sizeOf236; have v24 := Tryz.zeroValue236
  have t28 := Tryz.underlying239; have a28 := Tryz.isAgg239; have z28 := Tryz.sizeOf239; have v28 := Tryz.zeroValue239
  have t33 := Tryz.underlying322; have a33 := Tryz.isAgg322; have z33 := Tryz.sizeOf322; have v33 := Tryz.zeroValue322
  have t26 := Tryz.underlying235; have a26 := Tryz.isAgg235; have z26 := Tryz.sizeOf235; have v26 := Tryz.zeroValue235
  have u0 := run_underlying t0; have u4 := run_underlying t4; have u23 := run_underlying t23; have u33 := run_underlying t33; have u24 := run_underlying t24; have u28 := run_underlying t28; have u26 := run_underlying t26
  have hne : 236 ≠ 235 := by decide
  obtain ⟨i0, hi, hz0, hz1, hz2⟩ := info_parts i26K
  obtain ⟨kl, hkl⟩ := hkx
  obtain ⟨d, n', rfl, _⟩ := keyOf_inv x kl hkl
  obtain ⟨v, hv, hrow, _⟩ := h.box
  refine ⟨fn, #[.slice none 0 0, sv, .pointer (some ⟨Bs, 0, none⟩), undef, .slice none 0 0, undef, sv, .agg #[.int .i64 d, .string n'], undef, undef, undef, undef, undef], apA.1, apB.1, by simpa [apR] using run_yield (P := Tryz.prog) (args := #[.agg #[.int .i64 d, .string n']]) h.L rfl, roundIn_of_wpIn hfn ?_⟩
  have hl : l < W.heap.size := (Array.getElem?_eq_some_iff.1 h.L).1
  have hBl0 : Bs < W.heap.size := (Array.getElem?_eq_some_iff.1 hv).1
  have hDl0 : D < W.heap.size := (Array.getElem?_eq_some_iff.1 h.K).1
  obtain ⟨W1, hW1⟩ : ∃ W1, W.alloc (.cells #[.int .i64 d, .string n'] 235) = W1 := ⟨_, rfl⟩
  have hold : ∀ k, k < W.heap.size → W1.heap[k]? = W.heap[k]? := fun k hk => by rw [← hW1]; exact Below.heap_alloc _ _ k hk
  have hL1 : W1.heap[l]? = some (.loop (apR fn sv Bs D .ready none)) := (hold l hl).trans h.L
  have hv1 : W1.heap[Bs]? = some (.cells #[v] 236 (0, 0)) := (hold Bs hBl0).trans hv
  have hK1 : W1.heap[D]? = some (.deferred (some [])) := (hold D hDl0).trans h.K
  have hx1 : W1.heap[W.heap.size]? = some (.cells #[.int .i64 d, .string n'] 235 (0, 0)) := by rw [← hW1]; exact World.alloc_heap_new W _
  have hrow1 : W1.ownsRow w0.heap.size 235 2 v ss.length (kcells ss) := by rw [← hW1]; exact hrow.alloc _
  have hb1' : Below w0.heap.size w0 W1 := by rw [← hW1]; exact h.below.alloc h.below.size _
  have hkw : KeepsWalks W W1 := by rw [← hW1]; exact KeepsWalks.alloc _ _
  have hbr := run_beginRound (P := Tryz.prog) hL1 rfl
  obtain ⟨W2, hW2⟩ : ∃ W2, W1.putObj l (.loop { apR fn sv Bs D .ready none with state := .busy }) = W2 := ⟨_, rfl⟩
  rw [hW2] at hbr
  have hg2 : W1.grownBy W2 (some l) := by rw [← hW2]; exact grownBy_putObj_a _ _ _
  have hk2 : KeepsWalks W W2 := hkw.trans (by rw [← hW2]; exact KeepsWalks.putObj _ hL1 rfl)
  have hv2 : W2.heap[Bs]? = some (.cells #[v] 236 (0, 0)) := by rw [← hW2]; exact (World.putObj_heap_other hBl).trans hv1
  have hK2 : W2.heap[D]? = some (.deferred (some [])) := by rw [← hW2]; exact (World.putObj_heap_other hDl).trans hK1
  have hL2 : W2.heap[l]? = some (.loop { apR fn sv Bs D .ready none with state := .busy }) := by rw [← hW2]; exact World.putObj_heap_same (Array.getElem?_eq_some_iff.1 hL1).1
  have hx2 : W2.heap[W.heap.size]? = some (.cells #[.int .i64 d, .string n'] 235 (0, 0)) := by rw [← hW2]; exact (World.putObj_heap_other (by omega)).trans hx1
  have hx20 : W2.cell? ⟨W.heap.size, 0, none⟩ = some (.int .i64 d) := by simp [World.cell?, hx2]
  have hx21 : W2.cell? ⟨W.heap.size, 1, none⟩ = some (.string n') := by simp [World.cell?, hx2]
  have hrow2 : W2.ownsRow w0.heap.size 235 2 v ss.length (kcells ss) := hrow1.kept hg2 (ownsRow_ne_a hrow1 hL1 (fun cur e => by first | cases e | exact hne (Obj.cells.inj e).2.1))
  have hb2 : Below w0.heap.size w0 W2 := hb1'.grown hg2 hb1'.size (fun k e => by cases e; exact h0l)
  obtain ⟨hc2, hf2⟩ := cell_of_box_a hv2
  have hBlt : Bs < W2.heap.size := (Array.getElem?_eq_some_iff.1 hv2).1
  have hl2 : l < W2.heap.size := (Array.getElem?_eq_some_iff.1 hL2).1
  have hDlt : D < W2.heap.size := (Array.getElem?_eq_some_iff.1 hK2).1
  have ne_of : ∀ {j : Nat} {o : Obj}, W2.heap[j]? = some o → (∀ cur, o ≠ .cells cur 235 (0, 0)) → some j ≠ v.ownBlock := fun hj hno => by
    rcases ownsRow_ne_a hrow2 hj hno with e | e
    · rw [e]; simp
    · exact fun e' => e e'.symm
  clear hW2
  simp only [apA]
  gi_wp2_with gi_round_op_a

  simp only [apB]
  gi_wp2_with (first
    | (gi_at_builtin; refine wpListIn_append_own _ rfl _ _ 236 rfl w0.heap.size 235 i0 (.agg #[.int .i64 0, .string ⟨#[]⟩]) 2 24 t24 hi hz0 hz1 hz2 rfl (by decide) _ _ _ rfl (hrow2.alloc _) ⟨W2.heap.size, 0, none⟩ 1 1 [.int .i64 d, .string n'] rfl rfl (cell_two_new _ _ _ _) (by intro u hu; simp only [List.mem_cons, List.not_mem_nil, or_false] at hu; rcases hu with rfl | rfl <;> rfl) (by omega) (Nat.le_trans (Nat.mul_le_mul_right _ (by omega)) hNb) (by have := hb2.size; simp; omega) ?_; intro v' w3 hown' hg3 hnil3
       have hv3 : w3.heap[Bs]? = some (.cells #[v] 236 (0, 0)) := (hg3.block Bs (by simp; omega) (ne_of hv2 (fun cur e => by first | cases e | exact hne (Obj.cells.inj e).2.1))).trans ((Below.heap_alloc _ _ Bs hBlt).trans hv2)
       obtain ⟨hc3, hf3⟩ := cell_of_box_a hv3
       obtain ⟨g', cap', cur', rfl, hbase', hgb', hr1, hr2, hr3, hr4⟩ : ∃ g' cap' cur', v' = .slice (some ⟨g', 0, none⟩) (ss.length + 1) cap' ∧ w0.heap.size ≤ g' ∧ w3.heap[g']? = some (.cells cur' 235 (0, 0)) ∧ ss.length + 1 ≤ cap' ∧ cap' ≤ maxLen ∧ cur'.size = cap' * 2 ∧ cur'.toList.take ((ss.length + 1) * 2) = kcells ss ++ [.int .i64 d, .string n'] := by
         rcases hown'.2 with ⟨_, h0⟩ | h'
         · exact absurd h0 (by omega)
         · exact h'
       go_frame)
    | gi_round_op_a)
  have hg3' : (W2.alloc (.cells #[.int .i64 d, .string n'] 235)).grownBy w3 v.ownBlock := hg3
  have hL3 : w3.heap[l]? = some (.loop { apR fn sv Bs D .ready none with state := .busy }) := (hg3'.block l (by simp; omega) (ne_of hL2 (fun cur e => by first | cases e | exact hne (Obj.cells.inj e).2.1))).trans ((Below.heap_alloc _ _ l hl2).trans hL2)
  have hK3 : w3.heap[D]? = some (.deferred (some [])) := (hg3'.block D (by simp; omega) (ne_of hK2 (fun cur e => by first | cases e | exact hne (Obj.cells.inj e).2.1))).trans ((Below.heap_alloc _ _ D hDlt).trans hK2)
  obtain ⟨w4, hw4⟩ : ∃ w4, w3.setCell ⟨Bs, 0, none⟩ (.slice (some ⟨g', 0, none⟩) (ss.length + 1) cap') = w4 := ⟨_, rfl⟩
  rw [hw4]
  have hg4 : w3.grownBy w4 (some Bs) := by rw [← hw4]; exact grownBy_setCell0_a _ _ _
  have hv4 : w4.heap[Bs]? = some (.cells #[.slice (some ⟨g', 0, none⟩) (ss.length + 1) cap'] 236 (0, 0)) := by rw [← hw4]; exact heap_setCell_box_a _ hv3
  have hL4 : w4.heap[l]? = some (.loop { apR fn sv Bs D .ready none with state := .busy }) := (hg4.block l (Array.getElem?_eq_some_iff.1 hL3).1 (fun e => hBl (by cases e; rfl))).trans hL3
  have hK4 : w4.heap[D]? = some (.deferred (some [])) := (hg4.block D (Array.getElem?_eq_some_iff.1 hK3).1 (fun e => hDB (by cases e; rfl))).trans hK3
  have hrow4 := hown'.kept hg4 (ownsRow_ne_a hown' hv3 (fun cur e => by first | cases e | exact hne (Obj.cells.inj e).2.1))
  have hl4 : l < w4.heap.size := (Array.getElem?_eq_some_iff.1 hL4).1
  have hb3 : Below w0.heap.size w0 w3 := (hb2.alloc hb2.size _).grown hg3' (by have := hb2.size; simp; omega) (fun k e => (hrow2.lt k e).1)
  have hb4 : Below w0.heap.size w0 w4 := hb3.grown hg4 hb3.size (fun k e => by cases e; exact h0B)
  have hk4 : KeepsWalks W w4 := ((hk2.trans (KeepsWalks.alloc _ _)).trans (KeepsWalks.of_grownBy hg3' (ownsRow_not_walk_a (hrow2.alloc _)))).trans (by rw [← hw4]; exact KeepsWalks.setCell _ _ _)
  clear hw4
  refine ⟨_, _, run_endRound none hL4, rfl, ⟨⟨_, (World.putObj_heap_other hBl).trans hv4, ?_, by simp⟩, World.putObj_heap_same hl4, (World.putObj_heap_other hDl).trans hK4, hb4.grown (grownBy_putObj_a _ _ _) hb4.size (fun k e => by cases e; exact h0l)⟩, hk4.trans (KeepsWalks.putObj _ hL4 rfl)⟩
  have := hrow4.kept (grownBy_putObj_a w4 l (.loop { { apR fn sv Bs D .ready none with state := .busy } with state := if (none : Option Code).isNone then .ready else .done, pending := none })) (ownsRow_ne_a hrow4 hL4 (fun cur e => by first | cases e | exact hne (Obj.cells.inj e).2.1))
  rw [show kcells (ss ++ [Value.agg #[.int .i64 d, .string n']]) = kcells ss ++ [.int .i64 d, .string n'] from by simp [kcells, Value.cells], List.length_append]
  simpa using this

end Go.Proofs.YtpincjkjoeopkaaGreatDoor
