/- slices.SortFunc at structs: the shelf's contract as one on rows. -/
import Derived.Test.YtpincjkjoeopkaaGreatDoorAbsMg
import Derived.Shelf.SlSortCmp.NoneTotal
set_option linter.unusedSimpArgs false
set_option linter.unusedVariables false
set_option linter.unusedSectionVars false
namespace Go.Abs
open Go.Sort Go.Proofs Go.Shelf Go.RowKit
variable [Glb]

/-- a value without references, as the model has it -/
def litV : AVal → Value
  | .int k n => .int k n
  | .bool b => .bool b
  | .str s => .string s
  | _ => undef
def isLit : AVal → Bool
  | .int .. | .bool _ | .str _ => true
  | _ => false
/-- cells without references -/
class Ltl (α : Type) [Cel α] : Prop where
  lt : ∀ x : α, (Cel.c x).all isLit = true
def encL {α : Type} [Cel α] (x : α) : List Value := (Cel.c x).map litV

theorem rep_lit {C : Ctx} {a : AVal} {v : Value} (h : isLit a = true) : Rep C a v ↔ v = litV a := by
  cases a <;> simp [isLit] at h <;> simp [Rep, litV]
theorem lit_one {a : AVal} (h : isLit a = true) : (litV a).oneCell' = true := by
  cases a <;> simp [isLit] at h <;> rfl
theorem repL_lit {C : Ctx} : ∀ {xs : List AVal} {vs : List Value}, xs.all isLit = true → (RepL C xs vs ↔ vs = xs.map litV)
  | [], vs, _ => by simp [RepL]
  | a :: xs, vs, h => by
    simp only [List.all_cons, Bool.and_eq_true] at h
    rw [RepL, List.map_cons]
    constructor
    · rintro ⟨v, rest, rfl, h1, h2⟩
      rw [(rep_lit h.1).1 h1, (repL_lit h.2).1 h2]
    · rintro rfl
      exact ⟨_, _, _root_.id rfl, (rep_lit h.1).2 (_root_.id rfl), (repL_lit h.2).2 (_root_.id rfl)⟩

section
variable {α : Type} [Cel α] [Ltl α]
theorem encL_length (x : α) : (encL x).length = Cel.sz α := by rw [encL, List.length_map, Cel.len]
theorem encL_one (x : α) : ∀ v ∈ encL x, v.oneCell' = true := by
  intro v hv
  obtain ⟨a, ha, rfl⟩ := List.mem_map.1 hv
  exact lit_one (List.all_eq_true.1 (Ltl.lt x) a ha)
theorem els_lit : ∀ (l : List α), ((els l).flatten).all isLit = true
  | [] => _root_.id rfl
  | x :: l => by
    show ((Cel.c x ++ (els l).flatten).all isLit) = true
    rw [List.all_append, Ltl.lt x, els_lit l]
    exact _root_.id rfl
theorem els_flat_enc : ∀ (l : List α), ((els l).flatten).map litV = (l.map encL).flatten
  | [] => _root_.id rfl
  | x :: l => by
    show (Cel.c x ++ (els l).flatten).map litV = encL x ++ (l.map encL).flatten
    rw [List.map_append, els_flat_enc l]
    exact _root_.id rfl
theorem els_elems {C : Ctx} (l : List α) : Elems C (Cel.sz α) (els l) ((l.map encL).flatten) := by
  refine ⟨?_, ?_, ?_⟩
  · intro e he
    obtain ⟨x, _, rfl⟩ := List.mem_map.1 he
    exact Cel.len x
  · rw [← els_flat_enc]
    exact (repL_lit (els_lit l)).2 (_root_.id rfl)
  · intro v hv
    obtain ⟨e, he, hv⟩ := List.mem_flatten.1 hv
    obtain ⟨x, _, rfl⟩ := List.mem_map.1 he
    exact encL_one x v hv
theorem flat_get [Inhabited α] {k : Nat} (hk : ∀ x : α, (encL x).length = k) : ∀ (l : List α) (t : Nat), t < l.length * k → ((l.map encL).flatten)[t]? = (encL (l.getD (t / k) default))[t % k]?
  | [], t, h => by simp at h
  | x :: l, t, h => by
    rw [List.length_cons, Nat.add_mul, Nat.one_mul] at h
    show (encL x ++ (l.map encL).flatten)[t]? = _
    have k0 : 0 < k := by
      rcases Nat.eq_zero_or_pos k with h0 | h0
      · subst h0; simp at h
      · exact h0
    rw [List.getElem?_append, hk]
    split
    · rename_i hlt
      rw [Nat.div_eq_of_lt hlt, Nat.mod_eq_of_lt hlt]
      rfl
    · rename_i hge
      obtain ⟨u, rfl⟩ : ∃ u, t = u + k := ⟨t - k, by omega⟩
      rw [Nat.add_sub_cancel, Nat.add_div_right _ k0, Nat.add_mod_right, flat_get hk l u (by omega)]
      simp
theorem flatK_list [Inhabited α] (l : List α) : (Sort.flatK encL (Cel.sz α) l.toArray).toList = (l.map encL).flatten := by
  have hk := encL_length (α := α)
  have hl : ((l.map encL).flatten).length = l.length * Cel.sz α := by
    rw [← els_flat_enc, List.length_map]
    exact (flatten_length fun e he => by obtain ⟨x, _, rfl⟩ := List.mem_map.1 he; exact Cel.len x).trans (by rw [els_length])
  apply List.ext_getElem?
  intro t
  by_cases ht : t < l.length * Cel.sz α
  · have k0 : 0 < Cel.sz α := by
      rcases Nat.eq_zero_or_pos (Cel.sz α) with h0 | h0
      · rw [h0] at ht; simp at ht
      · exact h0
    rw [flat_get hk l t ht]
    have hd : t / Cel.sz α < l.length := by rw [Nat.div_lt_iff_lt_mul k0]; exact ht
    have hm : t % Cel.sz α < (encL (l.getD (t / Cel.sz α) default)).length := by rw [hk]; exact Nat.mod_lt _ k0
    rw [Array.getElem?_toList, Array.getElem?_eq_getElem (by rw [size_flatK]; simpa using ht), List.getElem?_eq_getElem hm]
    simp only [Sort.flatK, Array.getElem_map, Array.getElem_range]
    congr 1
    have e1 : l.toArray[t / Cel.sz α]! = l.getD (t / Cel.sz α) default := by simp [hd]
    rw [e1]
    exact getElem!_pos (encL (l.getD (t / Cel.sz α) default)) _ hm
  · rw [List.getElem?_eq_none (by rw [Array.length_toList, size_flatK]; simpa using ht), List.getElem?_eq_none (by rw [hl]; omega)]
end

/-- more memory, more choices, nothing else -/
theorem grow_of {W w' : World} (ho : w'.os = W.os) (ht : w'.tape = W.tape) (hp : w'.output = W.output) (hs : W.heap.size ≤ w'.heap.size) (hb : ∀ b, b < W.heap.size → w'.heap[b]? = W.heap[b]?) (hd : W.drawn ≤ w'.drawn) :
    ∃ q os', w' = grow (W.drewN q) os' := by
  refine ⟨w'.drawn - W.drawn, w'.heap.extract W.heap.size w'.heap.size, ?_⟩
  obtain ⟨h, t, d, o, p⟩ := w'
  simp only at ho ht hp hs hb hd
  subst ho; subst ht; subst hp
  unfold grow World.drewN
  simp only [World.mk.injEq, and_true, true_and]
  refine ⟨?_, by omega⟩
  apply Array.ext_getElem?
  intro i
  by_cases hi : i < W.heap.size
  · rw [Array.getElem?_append_left hi]; exact hb i hi
  · rw [Array.getElem?_append_right (by omega)]
    by_cases h2 : i < h.size
    · rw [Array.getElem?_eq_getElem h2, Array.getElem?_eq_getElem (by simp; omega)]
      simp only [Array.getElem_extract]
      congr 2
      omega
    · rw [Array.getElem?_eq_none (by omega), Array.getElem?_eq_none (by simp; omega)]

/-- slices.SortFunc: elements that are turned in their row -/
theorem AFn.sortFunc (hdr : Dr.d) {α : Type} [Cel α] [Ltl α] [Inhabited α] {P : Program} {ρ : Ren} {f g : FuncId} {T : TypeId} (L : SlLaysF0.n6 P ρ) (hf : ρ.f 6 = f) (aE : ∀ w, (isAgg (ρ.t 24)).run P w = .ok true w) (zE : ∀ w, (Go.sizeOf (ρ.t 24)).run P w = .ok (Cel.sz α) w)
    (cf : α → α → Int) (hO : SWO (ltOf cf)) (hA : ∀ x y : α, AFn P g [.agg (Cel.c x), .agg (Cel.c y)] [] fun v rs => v = .int .i64 (cf x y) ∧ rs = []) (eg : ∀ args w, (callFunc g args).run P w = .ok (.enter g args) w)
    (l : List α) (hl : l.length < 4611686018427387904) :
    AFn P f [.own 0 l.length 0 l.length, .fn g []] [.live T (Cel.sz α) (els l)] fun v rs => v = .tup [] ∧ ∃ l' : List α, l'.Perm l ∧ l'.Pairwise (fun x y => ¬ cf y x < 0) ∧ rs = [.live T (Cel.sz α) (els l')] := by
  subst hf
  intro C cargs hr hok hG hrep
  rw [RepL] at hrep
  obtain ⟨v0, rest, rfl, hv, hn⟩ := hrep
  rw [RepL] at hn
  obtain ⟨v1, rest, rfl, hv1, hn⟩ := hn
  rw [RepL] at hn
  subst hn
  rw [Rep] at hv1
  obtain ⟨cb, rfl, hcb⟩ := hv1
  rw [RepL] at hcb
  have hcb' : cb = #[] := Array.toList_eq_nil_iff.1 hcb
  subst hcb'
  have hr0 : C.rows[0]? = some (.live T (Cel.sz α) (els l)) := by rw [hr]; rfl
  by_cases h0 : l = []
  · subst h0
    rw [Rep] at hv
    obtain ⟨_, ⟨ao, c, rfl⟩, _⟩ := hv
    refine (AnyF.slices_SortFunc_none L ao c _ C.w).mono ?_
    rintro e w' ⟨rfl, rfl⟩
    exact ⟨_, .tup [], C, rfl, rfl, by rw [Rep]; exact ⟨#[], rfl, by simp [RepL]⟩, hok, by rw [hr.symm]; exact Later.refl C, rfl, [], List.Perm.refl _, List.Pairwise.nil, hr⟩
  have hpos : 0 < l.length := List.length_pos_iff.2 h0
  rcases hok.live hr0 with ⟨_, h0'⟩ | ⟨b, cap, cs, hp, hom, hheap, hcs, hcap, hle, hE⟩
  · have := els_length (l := l)
    rw [h0'] at this
    simp at this
    omega
  rw [Rep] at hv
  obtain ⟨hpm, _, _, hv⟩ := hv
  obtain ⟨_, hv⟩ := hv _ _ _ hr0
  obtain ⟨_, p, hp', hv⟩ := hv (by rw [els_length])
  obtain rfl := Option.some.inj (hp.symm.trans hp')
  obtain ⟨a, c, rfl, _, ha1, ha2, ha3, _⟩ := hv
  obtain ⟨ha4, rfl⟩ := ha3 rfl
  have haddr : a = ⟨b, 0, none⟩ := by cases a; simp_all
  subst haddr
  obtain ⟨vs, hel, hca⟩ := hE.elems
  have hvs : vs = (l.map encL).flatten := by rw [(repL_lit (els_lit l)).1 hel.rep, els_flat_enc]
  subst hvs
  have hblk : b < C.w.heap.size := (Array.getElem?_eq_some_iff.1 hheap).1
  have hH : HoldsK encL (Cel.sz α) C.w b 0 l.toArray := by
    intro j hj
    have hj' : j < (Sort.flatK encL (Cel.sz α) l.toArray).toList.length := by simpa using hj
    refine ⟨?_, by simp [World.frozen?, hheap]⟩
    have h1 := hca j ((Sort.flatK encL (Cel.sz α) l.toArray)[j]!) (by
      rw [← flatK_list l, Array.getElem?_toList, Array.getElem?_eq_getElem (by simpa using hj)]
      congr 1
      exact (getElem!_pos _ _ _).symm)
    exact h1
  have hbn : ∀ k, k < Glb.n → k ≠ b := fun k hk he => by subst he; exact hG.2.1 k hk 0 c hp
  have hcmp : CmpLays P g #[] encL (Cel.sz α) cf b 0 l.toArray.size C.w := by
    intro m os dk hdk x y
    have hWH : ∀ k, k < C.w.heap.size → k ≠ b → (sortWorldK encL (Cel.sz α) C.w b 0 m dk os).heap[k]? = C.w.heap[k]? := by
      intro k hk hkb
      show ((C.w.heap.modify b _) ++ os)[k]? = _
      rw [Array.getElem?_append_left (by simpa using hk), Array.getElem?_modify, if_neg (fun e => hkb e.symm)]
    have hWs : C.w.heap.size ≤ (sortWorldK encL (Cel.sz α) C.w b 0 m dk os).heap.size := by
      show _ ≤ ((C.w.heap.modify b _) ++ os).size
      simp
    have hG' : GOk (ctx0 (sortWorldK encL (Cel.sz α) C.w b 0 m dk os)) :=
      ⟨Nat.le_trans hG.1 hWs, fun k hk r c h => by simp [ctx0] at h, Glb.keep _ _ (fun k hk => hWH k (Nat.lt_of_lt_of_le hk hG.1) (hbn k hk)) hG.2.2⟩
    have hx := hA x y (ctx0 (sortWorldK encL (Cel.sz α) C.w b 0 m dk os)) [.agg (encL x).toArray, .agg (encL y).toArray] rfl (ok0 _) hG'
      (repL_cons (by rw [Rep]; exact ⟨_, rfl, (repL_lit (Ltl.lt x)).2 (by rw [encL])⟩) (repL_cons (by rw [Rep]; exact ⟨_, rfl, (repL_lit (Ltl.lt y)).2 (by rw [encL])⟩) repL_nil))
    have hargs : #[Value.agg (encL x).toArray, .agg (encL y).toArray] ++ #[] = [Value.agg (encL x).toArray, .agg (encL y).toArray].toArray := by simp
    rw [hargs]
    refine Calls.mono hx ?_
    rintro e w' ⟨cv, v, C', rfl, rfl, h1, h2, h3, rfl, _⟩
    rw [Rep] at h1
    subst h1
    exact ⟨rfl, grow_of h3.os h3.tape h3.output h3.size (fun k hk => h3.block k hk fun r c h => by simp [ctx0] at h) (h3.drawn hdr)⟩
  have hcall := AnyQ.slices_SortFunc L (Cel.sz α) aE zE encL encL_length encL_one cf hO g #[] b 0 c l.toArray C.w eg hcmp hH hblk (by simpa using hl)
  rw [show l.toArray.size = l.length from by simp] at hcall
  refine Calls.mono hcall ?_
  rintro e w' ⟨rfl, d', n, os, ⟨hs1, _, hs3⟩, hsort, rfl⟩
  obtain ⟨l', rfl⟩ : ∃ l' : List α, d' = l'.toArray := ⟨d'.toList, by simp⟩
  have hlen : l'.length = l.length := by simpa using hs1
  have hperm : l'.Perm l := by
    have e1 : (l'.toArray.extract 0 l.length).toList = l' := by simp [← hlen]
    have e2 : (l.toArray.extract 0 l.length).toList = l := by simp
    rw [e1, e2] at hs3
    exact hs3
  have hpw : l'.Pairwise (fun x y => ¬ cf y x < 0) := by
    rw [List.pairwise_iff_getElem]
    intro i j hi hj hij
    have := hsort i j (Nat.zero_le _) hij (by rw [← hlen]; exact hj)
    simpa [ltOf, hi, hj] using this
  have hfl := flatK_list l'
  have hheap' : (sortWorldK encL (Cel.sz α) C.w b 0 n l'.toArray os).heap[b]? = some (.cells (putCells id 0 (Sort.flatK encL (Cel.sz α) l'.toArray) cs) T (0, 0)) := by
    show (((C.w.heap.modify b (onCells (putCells id 0 (Sort.flatK encL (Cel.sz α) l'.toArray)))) ++ os)[b]?) = _
    rw [Array.getElem?_append_left (by simpa using hblk), Array.getElem?_modify]
    simp [hheap, onCells]
  have hsz : (putCells id 0 (Sort.flatK encL (Cel.sz α) l'.toArray) cs).size = c * Cel.sz α := by unfold putCells; simpa using hcs
  have hfsz : (Sort.flatK encL (Cel.sz α) l'.toArray).size = l.length * Cel.sz α := by rw [size_flatK]; simp [hlen]
  have hcl : l.length * Cel.sz α ≤ cs.size := by
    rw [hcs]
    exact Nat.mul_le_mul_right _ (by simpa [els_length] using hle)
  have ht : (putCells id 0 (Sort.flatK encL (Cel.sz α) l'.toArray) cs).toList.take ((l'.map encL).flatten).length = (l'.map encL).flatten := by
    rw [← hfl]
    clear hfl hheap' hsz
    generalize Sort.flatK encL (Cel.sz α) l'.toArray = F at hfsz ⊢
    apply List.ext_getElem?
    intro i
    by_cases hi : i < F.size
    · have hics : i < cs.size := by omega
      simp only [Array.length_toList, List.getElem?_take, if_pos hi, Array.getElem?_toList, putCells, Array.getElem?_mapIdx, Array.getElem?_eq_getElem hics, Option.map_some, Array.getElem?_eq_getElem hi]
      rw [if_pos ⟨Nat.zero_le _, by omega⟩]
      congr 1
      exact getElem!_pos F i hi
    · rw [List.getElem?_eq_none (by simp at hi ⊢; omega), List.getElem?_eq_none (by simpa using hi)]
  have hgrown : C.w.grownBy (sortWorldK encL (Cel.sz α) C.w b 0 n l'.toArray os) (some b) := by
    refine ⟨rfl, rfl, rfl, ?_, fun k hk hne => ?_⟩
    · show _ ≤ ((C.w.heap.modify b _) ++ os).size
      simp
    · show ((C.w.heap.modify b _) ++ os)[k]? = _
      rw [Array.getElem?_append_left (by simpa using hk), Array.getElem?_modify, if_neg (fun e => hne (by rw [e]))]
  obtain ⟨h1, h2⟩ := set_row hok hr0 hp b c (putCells id 0 (Sort.flatK encL (Cel.sz α) l'.toArray) cs) (els l') ((l'.map encL).flatten) _ hgrown (.inl rfl) hheap' hsz hcap
    (by simpa [els_length, hlen] using hle) (els_elems l') ht (by simp [els_length, hlen]) (fun _ => rfl) (Nat.le_add_right _ _)
  refine ⟨_, .tup [], _, rfl, rfl, by rw [Rep]; exact ⟨#[], rfl, by simp [RepL]⟩, h1, ?_, rfl, l', hperm, hpw, ?_⟩
  · rw [hr] at h2 ⊢; exact h2
  · rw [hr]; rfl

end Go.Abs
