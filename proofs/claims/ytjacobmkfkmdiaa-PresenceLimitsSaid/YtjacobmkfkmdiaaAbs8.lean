/- Each operation does what its abstract form says (2): slices. -/
import Derived.Test.YtjacobmkfkmdiaaAbs7
set_option linter.unusedSimpArgs false
set_option linter.unusedVariables false
set_option linter.unusedSectionVars false
namespace Go.Abs
section
variable {P : Program} {C : Ctx} {K : AVal → List Row → Prop}

/-- a pointer to a new row of one element -/
theorem new_ref {rows : List Row} {phi : List (Option (Nat × Nat))} {om : Nat → Prop} {w : World} {e : TypeId} {sz b cap : Nat} {cells : List AVal} (hl : phi.length = rows.length) :
    Rep ⟨rows ++ [.live e sz [cells]], phi ++ [some (b, cap)], om, w, false⟩ (.ref rows.length 1 0 0) (.pointer (some ⟨b, 0, none⟩)) := by
  rw [Rep]
  refine ⟨rfl, ⟨_, rfl⟩, by simp, fun e' sz' vals h => ?_⟩
  simp at h
  obtain ⟨rfl, rfl, rfl⟩ := h
  exact ⟨by simp, fun _ => ⟨by simp, b, cap, by simp [← hl], by simp⟩⟩

/-- the slice of a new row -/
theorem new_own {rows : List Row} {phi : List (Option (Nat × Nat))} {om : Nat → Prop} {w : World} {e : TypeId} {sz b cap : Nat} {vals : List (List AVal)} (hl : phi.length = rows.length) (hc : vals.length ≤ cap) :
    Rep ⟨rows ++ [.live e sz vals], phi ++ [some (b, cap)], om, w, false⟩ (.own rows.length vals.length 0 vals.length) (.slice (some ⟨b, 0, none⟩) vals.length cap) := by
  rw [Rep]
  refine ⟨rfl, ⟨_, _, rfl⟩, by simp, fun e' sz' vals' h => ?_⟩
  simp at h
  obtain ⟨rfl, rfl, rfl⟩ := h
  exact ⟨by simp, fun _ => ⟨by simp, some (b, cap), by simp [← hl], ⟨b, 0, none⟩, cap, rfl, hc, rfl, rfl, fun _ => ⟨rfl, rfl⟩, fun _ => by simp⟩⟩

theorem elems_one {sz : Nat} {cells : List AVal} {vs : List Value} (hl : cells.length = sz) (h : RepL C cells vs) (h1 : allOne vs) : Elems C sz [cells] vs :=
  ⟨by simp [hl], by simpa using h, h1⟩

/-- the elements of a slice that is read -/
theorem source {C : Ctx} (hok : Ok C) {sz : Nat} {y : AVal} {cy : Value} {ys : List (List AVal)} (hr : Rep C y cy) (h : elems? C.rows sz y = some ys) :
    ∃ ao c, cy = .slice ao ys.length c ∧ ((ao = none ∧ ys = []) ∨ ∃ a vs, ao = some a ∧ Elems C sz ys vs ∧ ∀ (j : Nat) (u : Value), vs[j]? = some u → C.w.cell? (a.add j) = some u) := by
  cases y
  case nils =>
    simp only [elems?] at h
    simp at h; subst h
    rw [Rep] at hr
    obtain ⟨ao, rfl⟩ := hr
    cases ao with
    | none => exact ⟨none, 0, rfl, .inl ⟨rfl, rfl⟩⟩
    | some a => exact ⟨some a, 0, rfl, .inr ⟨a, [], rfl, Elems.nil C sz, fun j u hj => by simp at hj⟩⟩
  case pure sz' vals =>
    simp only [elems?] at h
    split at h
    · rename_i hs
      simp at h; subst h; subst hs
      rw [Rep] at hr
      obtain ⟨ao, cap, rfl, _, hr⟩ := hr
      refine ⟨ao, cap, rfl, ?_⟩
      rcases hr with hr | ⟨b, o, rfl, _, he⟩
      · have : vals = [] := List.eq_nil_of_length_eq_zero hr
        subst this
        cases ao with
        | none => exact .inl ⟨rfl, rfl⟩
        | some a => exact .inr ⟨a, [], rfl, Elems.nil C sz', fun j u hj => by simp at hj⟩
      · obtain ⟨vs, h1, h2⟩ := (RepE.unp b sz' o vals he).elems
        exact .inr ⟨_, vs, rfl, h1, fun j u hj => by rw [addr_add]; exact h2 j u hj⟩
    · cases h
  case own r n off len =>
    simp only [elems?] at h
    split at h
    · rename_i e sz' vals hrow
      split at h
      · rename_i hc
        obtain ⟨rfl, hn, hol⟩ := hc
        simp at h
        rw [Rep] at hr
        obtain ⟨_, _, _, hr⟩ := hr
        obtain ⟨_, p, hp, hv⟩ := (hr e sz' vals hrow).2 hn
        have hyl : ys.length = len := by rw [← h, List.length_take, List.length_drop]; omega
        rcases hok.live hrow with ⟨hl, hnil⟩ | ⟨b, cap, cs, hl, h1, h2, h3, h4, h5, h6⟩
        · rw [hp] at hl; simp at hl; subst hl
          simp only [ownv] at hv
          obtain ⟨⟨ao, rfl⟩, _, rfl⟩ := hv
          have hy0 : ys = [] := List.eq_nil_of_length_eq_zero hyl
          subst hy0
          cases ao with
          | none => exact ⟨none, 0, rfl, .inl ⟨rfl, rfl⟩⟩
          | some a => exact ⟨some a, 0, rfl, .inr ⟨a, [], rfl, Elems.nil C sz', fun j u hj => by simp at hj⟩⟩
        · rw [hp] at hl; simp at hl; subst hl
          simp only [ownv] at hv
          obtain ⟨a, c, rfl, _, hsp, hb, _, ho⟩ := hv
          rw [hyl]
          refine ⟨some a, c, rfl, .inr ⟨a, ?_⟩⟩
          by_cases hz : len = 0
          · have : ys = [] := List.eq_nil_of_length_eq_zero (by omega)
            subst this
            exact ⟨[], rfl, Elems.nil C sz', fun j u hj => by simp at hj⟩
          · obtain ⟨vs, k1, k2⟩ := ((h6.drop off).take len).elems
            rw [h] at k1
            refine ⟨vs, rfl, k1, fun j u hj => ?_⟩
            have := k2 j u hj
            have ha : a = ⟨b, off * sz', none⟩ := by
              obtain ⟨x, y, z⟩ := a
              simp only at hsp hb ho
              rw [hsp, hb, ho (by omega)]
            rw [ha, addr_add]
            simpa using this
      · cases h
    · cases h
  all_goals (simp only [elems?] at h; cases h)

/-- append: what it yields, and where -/
theorem run_append' (w : World) (t ty e : TypeId) (i : TypeInfo) (z : Value) (ht : P.underlying t = some (.slice e)) (hi : P.info? e = some i) (hz : i.zero = some z) (hzs : z.cells.size = i.size) (hby : i.bytes ≠ 0)
    (p : Option (Nat × Nat)) (n : Nat) (xs : List Value) (cs : Array Value) (v : Value)
    (hp : match p with | none => (∃ ao, v = .slice ao 0 0) ∧ n = 0 ∧ xs = [] | some (g, cap) => v = .slice (some ⟨g, 0, none⟩) n cap ∧ w.heap[g]? = some (.cells cs e (0, 0)) ∧ cs.size = cap * i.size ∧ n ≤ cap ∧ cap ≤ maxLen ∧ cs.toList.take xs.length = xs ∧ xs.length = n * i.size)
    (a : Addr) (m c : Nat) (news : List Value) (hl : news.length = m * i.size) (hnews : ∀ j u, news[j]? = some u → w.cell? (a.add j) = some u) (h1 : ∀ u ∈ news, u.oneCell' = true) (hm0 : p = none → 0 < m)
    (hbytes : (n + m) * i.bytes ≤ 140737488355328) :
    ∃ b' cap' cs' w', (Builtin.append_ #[t, t] ty #[v, .slice (some a) m c]).run P w = .ok (.slice (some ⟨b', 0, none⟩) (n + m) cap') w' ∧ w.grownBy w' (p.map (·.1)) ∧ (p.map (·.1) = some b' ∨ w.heap.size ≤ b') ∧
      w'.heap[b']? = some (.cells cs' e (0, 0)) ∧ cs'.size = cap' * i.size ∧ cap' ≤ maxLen ∧ n + m ≤ cap' ∧ cs'.toList.take (xs ++ news).length = xs ++ news ∧ (m = 0 → p = some (b', cap')) := by
  have hsmall : n + m ≤ 140737488355328 := Nat.le_trans (Nat.le_mul_of_pos_right _ (by omega)) hbytes
  have h63 : n + m ≤ maxLen := by simp only [maxLen]; omega
  cases p with
  | none =>
    obtain ⟨⟨ao, rfl⟩, rfl, rfl⟩ := hp
    have hm := hm0 rfl
    cases ao with
    | some b =>
      have hr := run_append_grow (P := P) w t ty e i z ht hi hz b 0 0 [] (by simp) (by simp) a m c news hl hnews (by omega) (by omega) (growslice_fits (by omega) hbytes)
      have hge := grownCap_ge w (0 + m) 0 e
      refine ⟨w.heap.size, grownCap w (0 + m) 0 e, _, _, hr, ⟨rfl, rfl, rfl, by simp, fun k hk _ => ?_⟩, .inr (Nat.le_refl _), heap_alloc_new w.drew _, ?_, grownCap_le_maxLen w (0 + m) 0 e (by omega), by omega, ?_, fun h => by omega⟩
      · exact heap_alloc_old w.drew _ hk
      · simp only [Array.size_append, List.size_toArray, size_zeroCells, hzs, hl, List.length_nil]
        rw [show 0 + m * i.size + (grownCap w (0 + m) 0 e - (0 + m)) * i.size = (m + (grownCap w (0 + m) 0 e - (0 + m))) * i.size from by rw [Nat.add_mul]; omega]
        congr 1; omega
      · simp
    | none =>
    have hr := run_append_nil (P := P) w t ty e i z ht hi hz a m c news hl hnews hm (by omega) (by simp only [Nat.zero_add] at hbytes; omega)
    have hge := grownCap_ge w m 0 e
    rw [Nat.zero_add]
    refine ⟨w.heap.size, grownCap w m 0 e, _, _, hr, ⟨rfl, rfl, rfl, by simp, fun k hk _ => ?_⟩, .inr (Nat.le_refl _), heap_alloc_new w.drew _, ?_, grownCap_le_maxLen w m 0 e (by omega), by omega, ?_, fun h => by omega⟩
    · exact heap_alloc_old w.drew _ hk
    · simp only [Array.size_append, List.size_toArray, size_zeroCells, hzs, hl, ← Nat.add_mul]
      congr 1; omega
    · simp
  | some q =>
    obtain ⟨g, cap⟩ := q
    obtain ⟨rfl, hg, hcs, hnc, hcm, htake, hxl⟩ := hp
    by_cases hroom : n + m ≤ cap
    · have hfit : n * i.size + news.length ≤ cs.size := by rw [hl, hcs, ← Nat.add_mul]; exact Nat.mul_le_mul_right _ hroom
      have hr := run_append_room (P := P) w t ty e i ht hi g n cap cs hg a m c news hl hnews h1 hroom hfit
      refine ⟨g, cap, _, _, hr, ⟨rfl, rfl, rfl, by simp, fun k _ hk => setRow_other w g k _ (fun e => hk (by simp [e]))⟩, .inl rfl, setRow_heap w g cs _ e _ hg, ?_, hcm, hroom, ?_, fun _ => rfl⟩
      · simp only [List.size_toArray, List.length_append, List.length_take, List.length_drop, Array.length_toList]
        omega
      · rw [← hxl, htake]
        exact List.take_left
    · have holds : ∀ j u, xs[j]? = some u → w.cell? ((⟨g, 0, none⟩ : Addr).add j) = some u := fun j u hj => by
        rw [addr_add]; exact cellsAt_row hg htake j u hj
      have hr := run_append_grow (P := P) w t ty e i z ht hi hz ⟨g, 0, none⟩ n cap xs hxl holds a m c news hl hnews (by omega) (by omega) (growslice_fits (by omega) hbytes)
      have hge := grownCap_ge w (n + m) cap e
      refine ⟨w.heap.size, grownCap w (n + m) cap e, _, _, hr, ⟨rfl, rfl, rfl, by simp, fun k hk _ => ?_⟩, .inr (Nat.le_refl _), heap_alloc_new w.drew _, ?_, grownCap_le_maxLen w (n + m) cap e h63, hge, ?_, fun h => by omega⟩
      · exact heap_alloc_old w.drew _ hk
      · simp only [Array.size_append, List.size_toArray, size_zeroCells, hzs, hl, hxl, ← Nat.add_mul]
        congr 1; omega
      · simp only [Array.toList_append, List.append_assoc]
        rw [← List.append_assoc]
        exact List.take_left

theorem run_append_nothing (w : World) (t ty e : TypeId) (i : TypeInfo) (ht : P.underlying t = some (.slice e)) (hi : P.info? e = some i) (ao : Option Addr) (n cap c : Nat) (hn : n ≤ cap) :
    (Builtin.append_ #[t, t] ty #[.slice ao n cap, .slice none 0 c]).run P w = .ok (.slice ao n cap) w := by
  cases ao <;> simp [Builtin.append_, run_underlying ht, sizeOf, typeInfo, hi, Builtin.lenOf, hn, Builtin.firstCells, storeCells]

theorem run_appendA (hok : Ok C) {t ty e : TypeId} {i : TypeInfo} {z : Value} (ht : P.underlying t = some (.slice e)) (hi : P.info? e = some i) (hz : i.zero = some z) (hzs : z.cells.size = i.size) (hby : i.bytes ≠ 0)
    {x y : AVal} {cx cy : Value} (hx : Rep C x cx) (hy : Rep C y cy) (h : evAppend C.rows e i.size i.bytes x y K) :
    ∃ cv v C', (Builtin.append_ #[t, t] ty #[cx, cy]).run P C.w = .ok cv C'.w ∧ Rep C' v cv ∧ Ok C' ∧ Later C.rows.length C C' ∧ K v C'.rows := by
  unfold evAppend at h
  split at h
  · exact h.elim
  rename_i ys hys
  obtain ⟨ao, c, rfl, hsrc⟩ := source hok hy hys
  split at h
  · -- nil
    obtain ⟨hb, hk⟩ := h
    rw [Rep] at hx
    obtain ⟨ax, rfl⟩ := hx
    by_cases hz0 : ys = []
    · subst hz0
      have hnil := push_nil hok e i.size
      refine ⟨.slice ax 0 0, _, ⟨C.rows ++ [.live e i.size []], C.phi ++ [none], C.om, C.w, C.pm⟩, ?_, ?_, hnil.1, hnil.2, hk⟩
      · rcases hsrc with ⟨rfl, _⟩ | ⟨a, vs, rfl, he, hc⟩
        · exact run_append_nothing C.w t ty e i ht hi ax 0 0 c (Nat.le_refl _)
        · cases ax <;> simp [Builtin.append_, run_underlying ht, sizeOf, typeInfo, hi, Builtin.lenOf, Builtin.firstCells, loadCells, loadCellsFrom, storeCells]
      · rw [Rep]
        refine ⟨hok.pm, ⟨_, _, rfl⟩, by simp, fun e' sz' vals' h => ?_⟩
        simp at h
        obtain ⟨rfl, rfl, rfl⟩ := h
        exact ⟨by simp, fun _ => ⟨by simp, none, by simp [← hok.plen], ⟨_, rfl⟩, rfl, rfl⟩⟩
    · rcases hsrc with ⟨rfl, hnil⟩ | ⟨a, vs, rfl, he, hc⟩
      · exact (hz0 hnil).elim
      · have hpos : 0 < ys.length := List.length_pos_iff.2 hz0
        obtain ⟨b', cap', cs', w', r1, r2, r3, r4, r5, r6, r7, r8, r9⟩ := run_append' (P := P) C.w t ty e i z ht hi hz hzs hby none 0 [] #[] (.slice ax 0 0) ⟨⟨_, rfl⟩, rfl, rfl⟩ a ys.length c vs he.length hc he.one (fun _ => hpos) (by simpa using hb)
        rw [Nat.zero_add] at r1 r7
        rw [List.nil_append] at r8
        simp only [Option.map_none] at r2 r3
        have hbs : C.w.heap.size ≤ b' := by rcases r3 with r3 | r3; · cases r3
                                            · exact r3
        -- the new block is some block past the old ones: first the row without memory, then its place
        have hnil := push_nil hok e i.size
        have hrow : (C.rows ++ [Row.live e i.size []])[C.rows.length]? = some (.live e i.size []) := by simp
        have hphi : (C.phi ++ [none])[C.rows.length]? = some (none : Option (Nat × Nat)) := by simp [← hok.plen]
        have hset := set_row hnil.1 (r := C.rows.length) hrow hphi b' cap' cs' ys vs w' (by simpa using r2) (.inr hbs) r4 r5 r6 r7 (he.ext hnil.2.ext) r8 (by simp) (fun h => by simp at h; omega)
        refine ⟨_, .own C.rows.length ys.length 0 ys.length, _, r1, ?_, hset.1, (hnil.2.trans hset.2 (by simp)), ?_⟩
        · rw [Rep]
          refine ⟨hok.pm, ⟨_, _, rfl⟩, by simp, fun e' sz' vals' h => ?_⟩
          simp at h
          obtain ⟨rfl, rfl, rfl⟩ := h
          exact ⟨by simp, fun _ => ⟨by simp, some (b', cap'), by simp [← hok.plen], ⟨b', 0, none⟩, cap', rfl, r7, rfl, rfl, fun _ => ⟨rfl, rfl⟩, fun _ => by simp⟩⟩
        · simpa using hk
  · -- a row
    rename_i r n off len
    split at h
    · rename_i e' sz' vals hrow
      obtain ⟨rfl, rfl, hn, rfl, rfl, hb, hk⟩ := h
      rw [Rep] at hx
      obtain ⟨_, _, hrl, hx⟩ := hx
      obtain ⟨_, p, hp, hv⟩ := (hx e' i.size vals hrow).2 hn
      have hpl : r < C.phi.length := by rw [hok.plen]; exact hrl
      -- what there is
      have hown : ∃ cs xs, Elems C i.size vals xs ∧ (match p with | none => (∃ ao, cx = .slice ao 0 0) ∧ len = 0 ∧ xs = [] | some (g, cap) => cx = .slice (some ⟨g, 0, none⟩) len cap ∧ C.w.heap[g]? = some (.cells cs e' (0, 0)) ∧ cs.size = cap * i.size ∧ len ≤ cap ∧ cap ≤ maxLen ∧ cs.toList.take xs.length = xs ∧ xs.length = len * i.size) := by
        rcases hok.live hrow with ⟨hl, hnil⟩ | ⟨b, cap, cs, hl, h1, h2, h3, h4, h5, h6⟩
        · rw [hp] at hl; simp at hl; subst hl; subst hnil
          simp only [ownv] at hv
          exact ⟨#[], [], Elems.nil C _, hv.1, hv.2.2, rfl⟩
        · rw [hp] at hl; simp at hl; subst hl
          simp only [ownv] at hv
          obtain ⟨a, c', rfl, hlc, hsp, hbk, hoff, _⟩ := hv
          obtain ⟨vs, k1, k2⟩ := h6.elems
          obtain ⟨ho, rfl⟩ := hoff trivial
          have ha : a = ⟨b, 0, none⟩ := by
            obtain ⟨x, y, z⟩ := a
            simp only at hsp hbk ho
            rw [hsp, hbk, ho]
          subst ha
          exact ⟨cs, vs, k1, rfl, h2, h3, hlc, h4, take_of_cellsAt h2 k2, by rw [k1.length, hn]⟩
      obtain ⟨cs, xs, hxe, hst⟩ := hown
      have hcx : ∃ ax cc, cx = .slice ax len cc ∧ len ≤ cc := by
        cases p with
        | none => obtain ⟨⟨ao, e⟩, e2, _⟩ := hst; exact ⟨ao, 0, by rw [e, e2], by omega⟩
        | some q => exact ⟨_, _, hst.1, hst.2.2.2.1⟩
      obtain ⟨ax, cc, hcx⟩ := hcx
      have nothing : ys = [] → (Builtin.append_ #[t, t] ty #[cx, .slice ao ys.length c]).run P C.w = .ok cx C.w → ∃ cv v C', (Builtin.append_ #[t, t] ty #[cx, .slice ao ys.length c]).run P C.w = .ok cv C'.w ∧ Rep C' v cv ∧ Ok C' ∧ Later C.rows.length C C' ∧ K v C'.rows := by
        intro hy0 hrun
        subst hy0
        refine ⟨cx, .own r len 0 len, C, hrun, ?_, hok, Later.refl C, ?_⟩
        · rw [Rep]
          exact ⟨hok.pm, ⟨_, _, hcx.1⟩, hrl, hx⟩
        · have hset : C.rows.set r (.live e' i.size (vals ++ [])) = C.rows := by
            rw [List.append_nil]
            have hre : C.rows[r] = .live e' i.size vals := by
              rw [List.getElem?_eq_getElem hrl] at hrow; exact Option.some.inj hrow
            rw [← hre]
            exact List.set_getElem_self hrl
          rw [hset] at hk
          simpa using hk
      rcases hsrc with ⟨rfl, hy0⟩ | ⟨a, vs, rfl, he, hc⟩
      · refine nothing hy0 ?_
        rw [hcx.1, hy0]
        exact run_append_nothing C.w t ty e' i ht hi _ _ _ _ hcx.2
      · by_cases hcase : p = none ∧ ys = []
        · obtain ⟨hpn, hy0⟩ := hcase
          refine nothing hy0 ?_
          subst hpn; subst hy0
          obtain ⟨⟨ao, e⟩, _⟩ := hst
          rw [e]
          cases ao <;> simp [Builtin.append_, run_underlying ht, sizeOf, typeInfo, hi, Builtin.lenOf, Builtin.firstCells, loadCells, loadCellsFrom, storeCells]
        · obtain ⟨b', cap', cs', w', r1, r2, r3, r4, r5, r6, r7, r8, r9⟩ := run_append' (P := P) C.w t ty e' i z ht hi hz hzs hby p len xs cs cx hst a ys.length c vs he.length hc he.one
            (fun hpn => List.length_pos_iff.2 fun hy0 => hcase ⟨hpn, hy0⟩) hb
          have hset := set_row hok hrow hp b' cap' cs' (vals ++ ys) (xs ++ vs) w' r2 r3 r4 r5 r6 (by rw [List.length_append, ← hn]; exact r7) (hxe.append he) r8 (by simp)
            (fun h => r9 (by simp at h; simp [h]))
          refine ⟨_, .own r (len + ys.length) 0 (len + ys.length), _, r1, ?_, hset.1, hset.2, hk⟩
          rw [Rep]
          refine ⟨hok.pm, ⟨_, _, rfl⟩, by simpa using hrl, fun e2 sz2 vals2 h2 => ?_⟩
          simp only [List.getElem?_set, if_true, hrl] at h2
          simp at h2
          obtain ⟨rfl, rfl, rfl⟩ := h2
          refine ⟨by simp [hn], fun _ => ⟨by simp, some (b', cap'), ?_, ⟨b', 0, none⟩, cap', rfl, r7, rfl, rfl, fun _ => ⟨rfl, rfl⟩, fun _ => by simp⟩⟩
          show (C.phi.set r (some (b', cap')))[r]? = _
          rw [List.getElem?_set, if_pos rfl, if_pos hpl]
    · exact h.elim
  · exact h.elim

end
end Go.Abs
