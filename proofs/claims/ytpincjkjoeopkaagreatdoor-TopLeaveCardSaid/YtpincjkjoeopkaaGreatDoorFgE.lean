/- F7Sum, F8LPl joined. -/
import Derived.Test.YtpincjkjoeopkaaGreatDoorFgD
set_option linter.unusedSimpArgs false
set_option linter.unusedVariables false
set_option linter.unusedSectionVars false
section
/- Sum: the sums of times by name. -/
namespace Go.Proofs.YtpincjkjoeopkaaGreatDoor
open Go Go.Abs
set_option linter.unusedSimpArgs false
set_option linter.unusedVariables false

theorem isKeyS (a b : ByteArray) : isKey (.str a) (.str b) = decide (a = b) := by
  unfold isKey acells eqCells
  by_cases h : a = b
  · subst h; simp [eqCells]
  · have h2 : ¬ a.toList = b.toList := fun e => h (ba_toList e)
    simp [eqCells, h]
    try exact h2
def mapS (f : ByteArray → Int) (ks : List ByteArray) : List (AVal × AVal) := ks.map fun k => (.str k, .int .i64 (f k))
theorem mapS_clean (f : ByteArray → Int) : ∀ (l : List ByteArray), cleanM (mapS f l) = true
  | [] => rfl
  | p :: l => by
    have := mapS_clean f l
    simp only [cleanM, mapS, List.map_map, Bool.and_eq_true] at this ⊢
    simp only [List.map_cons, cleanL, Function.comp_apply, clean, Bool.true_and]
    exact this
attribute [go_sem] mapS_clean
theorem inM_mapS {n : Nat} {f : ByteArray → Int} : ∀ {l : List ByteArray}, inM n (mapS f l) = true
  | [] => rfl
  | d :: l => by
    show (inV n (.str d) && inV n (.int .i64 (f d)) && inM n (mapS f l)) = true
    rw [inM_mapS]; rfl
open Classical in
noncomputable def addB (k : ByteArray) (ks : List ByteArray) : List ByteArray := if k ∈ ks then ks else ks ++ [k]
open Classical in
theorem kfind_mapS {f : ByteArray → Int} {k : ByteArray} : ∀ {l : List ByteArray}, kfind (.str k) (mapS f l) = if k ∈ l then some (.int .i64 (f k)) else none
  | [] => by simp [mapS, kfind]
  | p :: l => by
    have ih := kfind_mapS (f := f) (k := k) (l := l)
    unfold mapS at *
    rw [List.map_cons, kfind, isKeyS]
    by_cases hk : k = p
    · subst hk; simp
    · simp only [hk, decide_false, Bool.false_eq_true, if_false, ih, List.mem_cons, false_or]
theorem kput_mapS {f g : ByteArray → Int} {k : ByteArray} (hfg : ∀ x, x ≠ k → f x = g x) : ∀ {l : List ByteArray}, l.Nodup → kput (.str k) (.int .i64 (g k)) (mapS f l) = mapS g (addB k l)
  | [], _ => by simp [mapS, kput, addB]
  | p :: l, hl => by
    rw [List.nodup_cons] at hl
    have ih := kput_mapS hfg hl.2
    unfold mapS addB at *
    rw [List.map_cons, kput, isKeyS]
    by_cases hk : k = p
    · subst hk
      simp
      exact fun a ha => hfg a (fun e => hl.1 (e ▸ ha))
    · simp only [hk, decide_false, Bool.false_eq_true, if_false, ih]
      by_cases h : k ∈ l
      · rw [if_pos h, if_pos (List.mem_cons_of_mem _ h)]; simp [hfg p (fun e => hk e.symm)]
      · rw [if_neg h, if_neg (fun h2 => by rcases List.mem_cons.1 h2 with h2 | h2; exact hk h2; exact h h2)]; simp [hfg p (fun e => hk e.symm)]
def smF (T : List Ti) (n : ByteArray) : Int := (T.map fun t => if t.n = n then t.m else 0).sum
noncomputable def smK (T : List Ti) : List ByteArray := T.foldl (fun ks t => addB t.n ks) []
theorem smF_snoc (T : List Ti) (t : Ti) (n : ByteArray) : smF (T ++ [t]) n = smF T n + if t.n = n then t.m else 0 := by
  unfold smF; rw [List.map_append, List.sum_append]; simp
theorem smK_snoc (T : List Ti) (t : Ti) : smK (T ++ [t]) = addB t.n (smK T) := by unfold smK; rw [List.foldl_append]; rfl
theorem addB_mem {k x : ByteArray} {ks : List ByteArray} : x ∈ addB k ks ↔ x = k ∨ x ∈ ks := by
  unfold addB
  split
  · constructor
    · exact .inr
    · rintro (rfl | h)
      · assumption
      · exact h
  · rw [List.mem_append, List.mem_singleton]; exact Or.comm
theorem smK_go : ∀ (T : List Ti) (ks : List ByteArray), ks.Nodup → (T.foldl (fun ks t => addB t.n ks) ks).Nodup ∧ ∀ x, x ∈ T.foldl (fun ks t => addB t.n ks) ks ↔ x ∈ ks ∨ ∃ t ∈ T, t.n = x
  | [], ks, h => ⟨h, by simp⟩
  | t :: T, ks, h => by
    have h1 : (addB t.n ks).Nodup := by
      unfold addB
      split
      · exact h
      · rename_i hk
        rw [List.nodup_append]
        exact ⟨h, by simp, fun a ha b hb => by rw [List.mem_singleton] at hb; subst hb; exact fun e => hk (e ▸ ha)⟩
    obtain ⟨a, b⟩ := smK_go T (addB t.n ks) h1
    refine ⟨a, fun x => ?_⟩
    rw [List.foldl_cons, b, addB_mem]
    constructor
    · rintro ((rfl | h) | ⟨q, hq, rfl⟩)
      · exact .inr ⟨t, List.mem_cons_self, rfl⟩
      · exact .inl h
      · exact .inr ⟨q, List.mem_cons_of_mem _ hq, rfl⟩
    · rintro (h | ⟨q, hq, rfl⟩)
      · exact .inl (.inr h)
      · rcases List.mem_cons.1 hq with rfl | hq
        · exact .inl (.inl rfl)
        · exact .inr ⟨q, hq, rfl⟩
theorem smK_nodup (T : List Ti) : (smK T).Nodup := (smK_go T [] List.nodup_nil).1
theorem smK_mem {T : List Ti} {x : ByteArray} : x ∈ smK T ↔ ∃ t ∈ T, t.n = x := by
  have := (smK_go T [] List.nodup_nil).2 x
  simpa [smK] using this
theorem smK_len (T : List Ti) : (smK T).length ≤ T.length := by
  have : (smK T).length ≤ (T.map Ti.n).length := (smK_nodup T).length_le_of_subset fun x hx => by
    obtain ⟨t, ht, rfl⟩ := smK_mem.1 hx
    exact List.mem_map_of_mem ht
  simpa using this
theorem smF_zero {T : List Ti} {n : ByteArray} (h : n ∉ smK T) : smF T n = 0 := by
  unfold smF
  have : (T.map fun t => if t.n = n then t.m else 0) = T.map fun _ => 0 := List.map_congr_left fun t ht => if_neg fun e => h (smK_mem.2 ⟨t, ht, e⟩)
  rw [this]
  clear h this
  induction T with
  | nil => rfl
  | cons _ _ ih => rw [List.map_cons, List.sum_cons, ih]; rfl
theorem smF_bd {T : List Ti} (h : ∀ t ∈ T, 0 ≤ t.m ∧ t.m ≤ 100000) (n : ByteArray) : 0 ≤ smF T n ∧ smF T n ≤ 100000 * T.length := by
  induction T with
  | nil => simp [smF]
  | cons t T ih =>
    have ih := ih fun x hx => h x (List.mem_cons_of_mem _ hx)
    have ht := h t List.mem_cons_self
    unfold smF at *
    rw [List.map_cons, List.sum_cons, List.length_cons]
    split <;> omega
def flT (l : List DR) : List Ti := l.flatMap DR.ts
theorem flT_take {l : List DR} {i : Nat} (h : i < l.length) : flT (l.take (i + 1)) = flT (l.take i) ++ l[i].ts := by
  unfold flT
  rw [List.take_succ_eq_append_getElem h, List.flatMap_append]; simp
/-- the sums -/
noncomputable def smR (T : List Ti) : List Ti := (srtB (smK T)).map fun s => ⟨s, smF T s⟩
theorem flT_pre {rs : List DR} {i : Nat} (hi : i < rs.length) (j : Nat) : flT (rs.take i) ++ rs[i].ts.take j <+: flT rs := by
  have : flT rs = flT (rs.take (i + 1)) ++ flT (rs.drop (i + 1)) := by unfold flT; rw [← List.flatMap_append, List.take_append_drop]
  rw [this, flT_take hi, List.append_assoc]
  exact (List.prefix_append_right_inj _).2 ((List.take_prefix j _).trans (List.prefix_append _ _))
theorem mapS_fit {f : ByteArray → Int} {ks : List ByteArray} : entsFit false [.str] (mapS f ks) := by
  intro p hp
  obtain ⟨k, _, rfl⟩ := List.mem_map.1 hp
  trivial
theorem sm_step (T : List Ti) (t : Ti) (hT : ∀ t ∈ T, 0 ≤ t.m ∧ t.m ≤ 100000) (hl : T.length ≤ 100000) (ht : 0 ≤ t.m ∧ t.m ≤ 100000) :
    (kfind (.str t.n) (mapS (smF T) (smK T))).getD (.int .i64 0) = .int .i64 (smF T t.n) ∧ IntKind.i64.wrap (smF T t.n + t.m) = smF T t.n + t.m ∧
    kput (.str t.n) (.int .i64 (smF T t.n + t.m)) (mapS (smF T) (smK T)) = mapS (smF (T ++ [t])) (smK (T ++ [t])) := by
  have hb := smF_bd hT t.n
  refine ⟨?_, wrap_i64 (by omega) (by omega), ?_⟩
  · rw [kfind_mapS]
    split
    · rfl
    · rename_i h; rw [smF_zero h]; rfl
  · have := kput_mapS (f := smF T) (g := smF (T ++ [t])) (k := t.n) (fun x hx => by rw [smF_snoc, if_neg (fun e => hx e.symm), Int.add_zero]) (smK_nodup T)
    rw [← smK_snoc, smF_snoc, if_pos rfl] at this
    exact this
noncomputable def smRow (T : List Ti) : Row := .obj (.map false [.str] (mapS (smF T) (smK T)))
theorem smRow_bind {R : List Row} {a : List (Option Nat)} {b : List Nat} {T : List Ti} : bindRow R a b (smRow T) = smRow T := by
  unfold smRow
  simp only [bindRow, mapS, List.map_map]
  congr 2
attribute [go_sem] smRow_bind
set_option maxHeartbeats 2000000 in
theorem sum_ok (rs : List DR) (fr to : Int) (hR : ∀ r ∈ rs, fr ≤ r.day ∧ r.day ≤ to) (hn : rs.length ≤ 100000) (hT : ∀ t ∈ flT rs, (0 ≤ t.m ∧ t.m ≤ 100000) ∧ t.n.size ≤ maxLen) (hlen : (flT rs).length ≤ 100000) :
    AFn Tryz.prog 38 [.pure 3 (els rs), .int .i64 fr, .int .i64 to] [] (fun v W => v = .pure 2 (els (smR (flT rs))) ∧ W = []) := by
  refine afn Tryz.func38 a38_ok (by simp [a38, s38]) ?_
  simp only [go_sem,a38,s38,els_length]
  refine avc_loop (fun env rows => ∃ i : Nat, i ≤ rs.length ∧ env = [(1, .int .i64 fr), (2, .int .i64 to), (7, .mref 0), (16, .pure 3 (els rs)), (17, .int .i64 rs.length), (18, .int .i64 i)] ∧ rows = [smRow (flT (rs.take i))])
    (fun env _ => match slot env 18 with | .int _ j => (rs.length - j).toNat | _ => 0) ?_ ?_
  · exact Cl.here ⟨0, by omega, rfl, rfl⟩
  · rintro env rows ⟨i, hi, rfl, rfl⟩
    have hw : IntKind.i64.wrap ((i : Int) + 1) = ((i + 1 : Nat) : Int) := by rw [wrap_i64 (by omega) (by omega)]; omega
    by_cases hlt : i < rs.length
    · have h1 : decide ((i : Int) < rs.length) = true := decide_eq_true (by omega)
      have z0' : (0 : Int) ≤ i := by omega
      have z1' : (i : Int) < rs.length := by omega
      have gz : (els rs).getD i [] = Cel.c rs[i] := els_getD hlt
      have hd := hR rs[i] (List.getElem_mem hlt)
      have d1 : decide (rs[i].day < fr) = false := decide_eq_false (by omega)
      have d2 : decide (to < rs[i].day) = false := decide_eq_false (by omega)
      have hpre := fun j => flT_pre hlt j
      have hnx := flT_take hlt
      generalize hr : rs[i] = r at *
      obtain ⟨day, ts, an⟩ := r
      simp only at *
      have htl : ts.length ≤ 100000 := by
        have := (hpre ts.length).length_le
        rw [List.take_length, List.length_append] at this
        omega
      simp only [go_sem,a38,s38,h1,z0',z1',gz,els_length,cel_dr,d1,d2]
      refine avc_loop (fun env rows => ∃ j : Nat, j ≤ ts.length ∧ env = [(1, .int .i64 fr), (2, .int .i64 to), (7, .mref 0), (16, .pure 3 (els rs)), (17, .int .i64 rs.length), (18, .int .i64 i), (33, .pure 2 (els ts)), (34, .int .i64 ts.length), (35, .int .i64 j)] ∧ rows = [smRow (flT (rs.take i) ++ ts.take j)])
        (fun env _ => match slot env 35 with | .int _ j => (ts.length - j).toNat | _ => 0) ?_ ?_
      · (refine Cl.tr [some 0] [] rfl rfl (by simp only [go_sem] <;> rfl) ?_; simp only [go_sem])
        exact Cl.here ⟨0, by omega, rfl, by simp⟩
      · rintro env rows ⟨j, hj, rfl, rfl⟩
        have hwj : IntKind.i64.wrap ((j : Int) + 1) = ((j + 1 : Nat) : Int) := by rw [wrap_i64 (by omega) (by omega)]; omega
        by_cases hjl : j < ts.length
        · have h1 : decide ((j : Int) < ts.length) = true := decide_eq_true (by omega)
          have z0' : (0 : Int) ≤ j := by omega
          have z1' : (j : Int) < ts.length := by omega
          have gz : (els ts).getD j [] = Cel.c ts[j] := els_getD hjl
          have hp := hpre j
          have hp1 := hpre (j + 1)
          rw [List.take_succ_eq_append_getElem hjl, ← List.append_assoc] at hp1
          obtain ⟨e1, e2, e3⟩ := sm_step (flT (rs.take i) ++ ts.take j) ts[j] (fun t ht => (hT t (hp.subset ht)).1) (Nat.le_trans hp.length_le hlen) (hT _ (hp1.subset (List.mem_append_right _ (List.mem_singleton_self _)))).1
          rw [List.append_assoc, ← List.take_succ_eq_append_getElem hjl] at e3
          simp only [go_sem,a38,s38,h1,z0',z1',gz,els_length,cel_ti,smRow,e1,e2,e3,hwj,mapS_fit]
          change Cl _ _ _ [smRow (flT (rs.take i) ++ ts.take (j + 1)), _]
          (refine Cl.tr [some 0] [] rfl rfl (by simp only [go_sem] <;> rfl) ?_; simp only [go_sem])
          refine Cl.here ⟨⟨j + 1, by omega, rfl, rfl⟩, ?_⟩
          simp only [go_sem]
          omega
        · obtain rfl : j = ts.length := by omega
          have h1 : decide ((ts.length : Int) < ts.length) = false := decide_eq_false (by omega)
          simp only [go_sem,a38,s38,h1,hw]
          rw [← hnx]
          refine Cl.here ⟨⟨i + 1, by omega, rfl, rfl⟩, ?_⟩
          simp only [go_sem]
          omega
    have h1 : decide ((i : Int) < rs.length) = false := decide_eq_false (by omega)
    obtain rfl : i = rs.length := by omega
    rw [List.take_length]
    simp only [go_sem,a38,s38,h1]
    have hTb : ∀ t ∈ flT rs, 0 ≤ t.m ∧ t.m ≤ 100000 := fun t ht => (hT t ht).1
    have hwf : ∀ x ∈ smK (flT rs), x.size ≤ maxLen := fun x hx => by
      obtain ⟨t, ht, rfl⟩ := smK_mem.1 hx
      exact (hT t ht).2
    have hkl := smK_len (flT rs)
    have hnd := smK_nodup (flT rs)
    have hsm : smR (flT rs) = (srtB (smK (flT rs))).map fun s => ⟨s, smF (flT rs) s⟩ := rfl
    have hin : inAll [smRow (flT rs)] := by
      intro r row hr
      match r, hr with
      | 0, hr => cases hr; exact inM_mapS
      | r + 1, hr => simp at hr
    refine callC_all hin (by simp [inL, inV]) mapsKeysS_ok ?_
    rintro _ rs' ⟨rfl, hrs⟩
    rw [hrs]
    refine ⟨by simp, ?_⟩
    clear hrs rs'
    simp only [go_sem]
    have hall2 : inAll [smRow (flT rs), .live 201 1 [[.mref 0]]] := by
      intro r row hr
      match r, hr with
      | 0, hr => cases hr; exact inM_mapS
      | 1, hr => cases hr; rfl
      | r + 2, hr => simp at hr
    refine callC_all hall2 (by simp [inL, inV]) (sortedSt_ok (a := 0) (b := 1) (ents := mapS (smF (flT rs)) (smK (flT rs))) (ks := smK (flT rs)) rfl rfl (by simp [mapS]) hnd hwf (by omega)) ?_
    rintro _ rs' ⟨rfl, hrs⟩
    rw [hrs]
    refine ⟨by simp, ?_⟩
    clear hrs rs'
    have hzp := srtB_perm (smK (flT rs))
    have hzl : (srtB (smK (flT rs))).length ≤ 100000 := by rw [hzp.length_eq]; omega
    have hzm : ∀ d ∈ srtB (smK (flT rs)), d ∈ smK (flT rs) := fun d hd => hzp.mem_iff.1 hd
    rw [hsm]
    generalize flT rs = T at *
    generalize srtB (smK T) = Z at *
    simp only [go_sem,strsE_len]
    refine avc_loop (fun env rows => ∃ i : Nat, i ≤ Z.length ∧ env = [(7, .mref 0), (12, .own 1 i 0 i), (50, .pure 1 (strsE Z)), (51, .int .i64 Z.length), (52, .int .i64 i)] ∧ rows = [smRow T, .live 78 2 (els ((Z.take i).map fun s => (⟨s, smF T s⟩ : Ti)))])
      (fun env _ => match slot env 52 with | .int _ j => (Z.length - j).toNat | _ => 0) ?_ ?_
    · (refine Cl.tr [some 0] [] rfl rfl (by simp only [go_sem] <;> rfl) ?_; simp only [go_sem])
      (refine Cl.ghost 12  78  2 rfl (Cl.norm [ 7,12,50,51,52] ?_); simp only [go_sem])
      exact Cl.here ⟨0, by omega, rfl, rfl⟩
    rintro env rows ⟨i, hi, rfl, rfl⟩
    have hw : IntKind.i64.wrap ((i : Int) + 1) = ((i + 1 : Nat) : Int) := by rw [wrap_i64 (by omega) (by omega)]; omega
    by_cases hlt : i < Z.length
    · have h1 : decide ((i : Int) < Z.length) = true := decide_eq_true (by omega)
      have z0' : (0 : Int) ≤ i := by omega
      have z1' : (i : Int) < Z.length := by omega
      have gz : (strsE Z).getD i [] = [.str Z[i]] := by unfold strsE; rw [List.getD_eq_getElem?_getD, List.getElem?_map, List.getElem?_eq_getElem hlt]; rfl
      have hlk : (kfind (.str Z[i]) (mapS (smF T) (smK T))).getD (.int .i64 0) = .int .i64 (smF T Z[i]) := by rw [kfind_mapS, if_pos (hzm _ (List.getElem_mem hlt))]; rfl
      have hsn : els ((Z.take i).map fun s => (⟨s, smF T s⟩ : Ti)) ++ [[.str Z[i], .int .i64 (smF T Z[i])]] = els ((Z.take (i + 1)).map fun s => (⟨s, smF T s⟩ : Ti)) := by
        rw [List.take_succ_eq_append_getElem hlt, List.map_append]; exact els_snoc (x := Ti.mk Z[i] (smF T Z[i]))
      simp only [go_sem,a38,s38,h1,z0',z1',gz,strsE_len,hlk,hw,smRow]
      refine ⟨by simp; omega, by omega, ?_⟩
      rw [hsn]
      (refine Cl.tr [some 0,some 1] [] rfl rfl (by simp only [go_sem] <;> rfl) ?_; simp only [go_sem])
      refine Cl.here ⟨⟨i + 1, by omega, rfl, rfl⟩, ?_⟩
      simp only [go_sem]
      omega
    have h1 : decide ((i : Int) < Z.length) = false := decide_eq_false (by omega)
    obtain rfl : i = Z.length := by omega
    rw [List.take_length]
    simp only [go_sem,a38,s38,h1]
    have hbv : ∀ r0 : Row, bindV [r0, .live 78 2 (els (Z.map fun s => (⟨s, smF T s⟩ : Ti)))] [] [1] (.own 1 Z.length 0 Z.length) = .pure 2 (els (Z.map fun s => (⟨s, smF T s⟩ : Ti))) := fun r0 => bindV_frz rfl rfl rfl (by rw [els_length, List.length_map]) els_clean
    refine Cl.frz [] [1] rfl rfl (by simp only [go_sem] <;> rfl) ?_
    have htk : List.take Z.length (els (Z.map fun s => (⟨s, smF T s⟩ : Ti))) = els (Z.map fun s => (⟨s, smF T s⟩ : Ti)) := List.take_of_length_le (by rw [els_length, List.length_map]; exact Nat.le_refl _)
    simp only [go_sem,hbv,els_length,List.length_map,els_clean,htk]
    exact Cl.here ⟨rfl, rfl⟩

end Go.Proofs.YtpincjkjoeopkaaGreatDoor
end

section
/- TopLeave: what the results of made absences say of leave. -/
namespace Go.Proofs.YtpincjkjoeopkaaGreatDoor
open Go Go.Abs
set_option linter.unusedSimpArgs false
set_option linter.unusedVariables false

theorem sum_le_mul {α : Type} (f : α → Int) (B : Int) : ∀ {l : List α}, (∀ a ∈ l, 0 ≤ f a ∧ f a ≤ B) → 0 ≤ (l.map f).sum ∧ (l.map f).sum ≤ B * l.length
  | [], _ => by simp
  | a :: l, h => by
    have ih := sum_le_mul f B (l := l) fun x hx => h x (List.mem_cons_of_mem _ hx)
    have ha := h a List.mem_cons_self
    rw [List.map_cons, List.sum_cons, List.length_cons]
    have e : B * ((l.length + 1 : Nat) : Int) = B * l.length + B := by rw [Int.natCast_add, Int.mul_add]; simp
    omega
theorem planned_day {pl : List Sf} (h : ∀ s ∈ pl, sfG s) (hd : ∀ x, (pl.filter fun s => decide (s.day = x)).length ≤ 2) (day : Int) : 0 ≤ planned pl day ∧ planned pl day ≤ 1020 := by
  have key : ∀ l : List Sf, (∀ s ∈ l, sfG s) → 0 ≤ (l.map fun s => plOne s day).sum ∧ (l.map fun s => plOne s day).sum ≤ 510 * (l.filter fun s => decide (s.day = day)).length := by
    intro l
    induction l with
    | nil => simp
    | cons s l ih =>
      intro hl
      have ih := ih fun x hx => hl x (List.mem_cons_of_mem _ hx)
      have hs := hl s List.mem_cons_self
      unfold sfG at hs
      rw [List.map_cons, List.sum_cons]
      by_cases c : s.day = day
      · rw [List.filter_cons_of_pos (by simp [c]), List.length_cons]
        have : 0 ≤ plOne s day ∧ plOne s day ≤ 510 := by unfold plOne; split <;> omega
        omega
      · rw [List.filter_cons_of_neg (by simp [c])]
        have : plOne s day = 0 := by unfold plOne; rw [if_neg (fun h => c h.1)]
        omega
  have h1 := key (pl.take 1024) fun s hs => h s (List.mem_of_mem_take hs)
  have h2 : ((pl.take 1024).filter fun s => decide (s.day = day)).length ≤ (pl.filter fun s => decide (s.day = day)).length := ((List.take_sublist 1024 pl).filter _).length_le
  have := hd day
  unfold planned
  omega
/-- good plans, good absences -/
structure LvG (pl : List Sf) (l : List Ab) : Prop where
  s : ∀ s ∈ pl, sfG s
  d : ∀ x, (pl.filter fun s => decide (s.day = x)).length ≤ 2
  a : ∀ a ∈ l, abG a
  n : l.length ≤ 6
theorem LvG.min {pl : List Sf} {l : List Ab} (h : LvG pl l) (k : AKey) : 0 ≤ abSum pl 1 l k ∧ abSum pl 1 l k ≤ 6120 := by
  have := sum_le_mul (fun a => if a.emp = 1 ∧ abKey a = k then abMin pl a else 0) 1020 (l := l) fun a ha => by
    have hp := planned_day h.s h.d a.day
    have := (h.a a ha).2.2.2.2
    unfold abMin
    split
    · split <;> omega
    · omega
  have hn := h.n
  unfold abSum
  omega
theorem LvG.time {pl : List Sf} {l : List Ab} (h : LvG pl l) {d : Int} {t : Ti} (ht : t ∈ posT (misS pl 1 d l)) : 1 ≤ t.m ∧ t.m ≤ 6120 ∧ t.n.size ≤ maxLen := by
  obtain ⟨h1, h2, h3⟩ := misS_spec (pl := pl) (emp := 1) (d := d) (l := l) (i := l.length) (Nat.le_refl _)
  rw [List.take_length] at h1 h2 h3
  obtain ⟨hm, hp⟩ := List.mem_filter.1 ht
  have hp : 0 < t.m := by simpa using hp
  have hb := h.min ⟨d, t.n⟩
  rw [← h3 t hm] at hb
  obtain ⟨a, ha, _, e⟩ := abKeys_mem.1 ((h2 t.n).1 (List.mem_map_of_mem hm))
  have : a.name = t.n := by unfold abKey at e; rw [AKey.mk.injEq] at e; exact e.2
  exact ⟨by omega, by omega, this ▸ (abG_fine (h.a a ha)).2.1⟩
/-- a good result -/
structure RsG (r : DR) : Prop where
  d : 20454 ≤ r.day ∧ r.day ≤ 20458
  p : r.ts.Pairwise tiLt
  t : ∀ t ∈ r.ts, 1 ≤ t.m ∧ t.m ≤ 6120 ∧ t.n.size ≤ maxLen
  n : r.ts.length ≤ 6
theorem misS_len {pl : List Sf} {emp day : Int} : ∀ {l : List Ab} {i : Nat}, i ≤ l.length → (misS pl emp day (l.take i)).length ≤ i
  | l, 0, _ => by simp [misS]
  | l, i + 1, h => by
    have ih := misS_len (pl := pl) (emp := emp) (day := day) (l := l) (i := i) (by omega)
    rw [misS_take (by omega)]
    split
    · exact Nat.le_trans (addT_len _ _ _) (by omega)
    · omega
theorem dayRs_lv {pl : List Sf} {l : List Ab} (h : LvG pl l) : (dayRs pl 1 20454 20474 l (mrkL l)).Pairwise (fun a b => a.day < b.day) ∧ (∀ r ∈ dayRs pl 1 20454 20474 l (mrkL l), RsG r) ∧ (dayRs pl 1 20454 20474 l (mrkL l)).length ≤ 6 := by
  have hm := mrkL_ok (l := l) (i := l.length) (Nat.le_refl _)
  rw [List.take_length] at hm
  have hr : ∀ d r, dayR pl 1 20454 20474 l d = some r → r = ⟨d, posT (misS pl 1 d l), []⟩ := fun d r e => by
    unfold dayR at e
    split at e
    · cases e; rfl
    · cases e
  refine ⟨?_, fun r hr' => ?_, ?_⟩
  · unfold dayRs
    rw [List.pairwise_filterMap]
    refine hm.2.imp fun {a b} hab x hx y hy => ?_
    rw [hr _ _ hx, hr _ _ hy]
    exact hab
  · unfold dayRs at hr'
    obtain ⟨d, hd, e⟩ := List.mem_filterMap.1 hr'
    obtain ⟨a, ha, rfl⟩ := mrkL_mem.1 hd
    have hab := h.a a ha
    rw [hr _ _ e]
    have hs := (misS_spec (pl := pl) (emp := 1) (d := a.day) (l := l) (i := l.length) (Nat.le_refl _)).1
    have hl := misS_len (pl := pl) (emp := 1) (day := a.day) (l := l) (i := l.length) (Nat.le_refl _)
    rw [List.take_length] at hs hl
    have hn := h.n
    refine ⟨⟨hab.2.1, hab.2.2.1⟩, hs.filter _, fun t ht => h.time ht, ?_⟩
    exact Nat.le_trans (List.length_filter_le _ _) (by omega)
  · have hn := h.n
    exact Nat.le_trans (List.length_filterMap_le _ _) (by omega)
/-- the bookings of a result's times -/
def bkT (d : Int) (ts : List Ti) : List Bo := (ts.filter fun t => decide (t.n = nmL)).map fun t => ⟨d, t.m⟩
def bkL (R : List DR) : List Bo := R.flatMap fun r => bkT r.day r.ts
theorem bkT_snoc {d : Int} {ts : List Ti} {j : Nat} (h : j < ts.length) : bkT d (ts.take (j + 1)) = if ts[j].n = nmL then bkT d (ts.take j) ++ [⟨d, ts[j].m⟩] else bkT d (ts.take j) := by
  unfold bkT
  rw [List.take_succ_eq_append_getElem h, List.filter_append, List.map_append]
  split
  · rename_i c; rw [List.filter_cons_of_pos (by simp [c])]; rfl
  · rename_i c; rw [List.filter_cons_of_neg (by simp [c])]; simp
theorem bkL_take {R : List DR} {i : Nat} (h : i < R.length) : bkL (R.take (i + 1)) = bkL (R.take i) ++ bkT R[i].day R[i].ts := by
  unfold bkL
  rw [List.take_succ_eq_append_getElem h, List.flatMap_append]; simp
theorem bkT_one {d : Int} {ts : List Ti} (h : ts.Pairwise tiLt) : (bkT d ts).length ≤ 1 := by
  unfold bkT
  rw [List.length_map]
  have hp := h.filter fun t => decide (t.n = nmL)
  have ha : ∀ t ∈ ts.filter (fun t => decide (t.n = nmL)), t.n = nmL := fun t ht => by simpa using (List.mem_filter.1 ht).2
  generalize ts.filter (fun t => decide (t.n = nmL)) = q at *
  match q, hp, ha with
  | [], _, _ => simp
  | [_], _, _ => simp
  | a :: b :: q, hp, ha =>
    have h1 := (List.pairwise_cons.1 hp).1 b List.mem_cons_self
    unfold tiLt at h1
    rw [ha a List.mem_cons_self, ha b (List.mem_cons_of_mem _ List.mem_cons_self)] at h1
    exact absurd h1 (List.lt_irrefl _)
theorem bkT_mem {d : Int} {ts : List Ti} {b : Bo} (h : b ∈ bkT d ts) : b.day = d ∧ ∃ t ∈ ts, b.min = t.m := by
  unfold bkT at h
  obtain ⟨t, ht, rfl⟩ := List.mem_map.1 h
  exact ⟨rfl, t, (List.mem_filter.1 ht).1, rfl⟩
theorem bkL_good {R : List DR} (hp : R.Pairwise fun a b => a.day < b.day) (hg : ∀ r ∈ R, RsG r) : boG (bkL R) := by
  refine ⟨?_, fun b hb => ?_⟩
  · induction R with
    | nil => exact List.Pairwise.nil
    | cons r R ih =>
      have hp' := List.pairwise_cons.1 hp
      have ih := ih hp'.2 fun x hx => hg x (List.mem_cons_of_mem _ hx)
      have e : bkL (r :: R) = bkT r.day r.ts ++ bkL R := rfl
      rw [e, List.pairwise_append]
      refine ⟨?_, ih, fun a ha b hb => ?_⟩
      · have := bkT_one (d := r.day) (hg r List.mem_cons_self).p
        generalize bkT r.day r.ts = q at *
        match q, this with
        | [], _ => exact List.Pairwise.nil
        | [_], _ => simp
        | _ :: _ :: _, h => simp at h
      · obtain ⟨x, hx, hb⟩ := List.mem_flatMap.1 hb
        rw [(bkT_mem ha).1, (bkT_mem hb).1]
        exact hp'.1 x hx
  · obtain ⟨x, hx, hb⟩ := List.mem_flatMap.1 hb
    obtain ⟨e1, t, ht, e2⟩ := bkT_mem hb
    have h1 := (hg x hx).d
    have h2 := (hg x hx).t t ht
    omega
theorem tkS_append (a b : List Bo) : tkS (a ++ b) = tkS a + tkS b := by unfold tkS; rw [List.map_append, List.sum_append]
theorem smF_append (a b : List Ti) (n : ByteArray) : smF (a ++ b) n = smF a n + smF b n := by unfold smF; rw [List.map_append, List.sum_append]
theorem tkS_bkT {d : Int} : ∀ {ts : List Ti}, tkS (bkT d ts) = smF ts nmL
  | [] => rfl
  | t :: ts => by
    have ih := tkS_bkT (d := d) (ts := ts)
    have e1 : smF (t :: ts) nmL = (if t.n = nmL then t.m else 0) + smF ts nmL := rfl
    rw [e1, ← ih]
    unfold bkT
    split
    · rename_i c; rw [List.filter_cons_of_pos (by simp [c])]; rfl
    · rename_i c; rw [List.filter_cons_of_neg (by simp [c])]; simp
theorem tkS_bkL : ∀ {R : List DR}, tkS (bkL R) = smF (flT R) nmL
  | [] => rfl
  | r :: R => by
    have e1 : bkL (r :: R) = bkT r.day r.ts ++ bkL R := rfl
    have e2 : flT (r :: R) = r.ts ++ flT R := rfl
    rw [e1, e2, tkS_append, smF_append, tkS_bkT, tkS_bkL]
theorem flT_len {R : List DR} (hg : ∀ r ∈ R, RsG r) : (flT R).length ≤ 6 * R.length := by
  induction R with
  | nil => simp [flT]
  | cons r R ih =>
    have ih := ih fun x hx => hg x (List.mem_cons_of_mem _ hx)
    have e2 : flT (r :: R) = r.ts ++ flT R := rfl
    have := (hg r List.mem_cons_self).n
    rw [e2, List.length_append, List.length_cons]
    omega
theorem flT_mem {R : List DR} (hg : ∀ r ∈ R, RsG r) {t : Ti} (ht : t ∈ flT R) : 1 ≤ t.m ∧ t.m ≤ 6120 ∧ t.n.size ≤ maxLen := by
  obtain ⟨r, hr, ht⟩ := List.mem_flatMap.1 ht
  exact (hg r hr).t t ht
/-- the last of a name's sums -/
def lastN (q : List Ti) (n : ByteArray) : Int := q.foldl (fun s t => if t.n = n then t.m else s) 0
theorem lastN_take {q : List Ti} {n : ByteArray} {i : Nat} (h : i < q.length) : lastN (q.take (i + 1)) n = if q[i].n = n then q[i].m else lastN (q.take i) n := by
  unfold lastN
  rw [List.take_succ_eq_append_getElem h, List.foldl_append]
  simp only [List.foldl_cons, List.foldl_nil]
open Classical in
theorem lastN_sm (T : List Ti) (n : ByteArray) : lastN (smR T) n = smF T n := by
  have key : ∀ (q : List ByteArray) (s : Int), (q.map fun x => (⟨x, smF T x⟩ : Ti)).foldl (fun s t => if t.n = n then t.m else s) s = if n ∈ q then smF T n else s := by
    intro q
    induction q with
    | nil => intro s; simp
    | cons x q ih =>
      intro s
      rw [List.map_cons, List.foldl_cons, ih]
      by_cases hq : n ∈ q
      · rw [if_pos hq, if_pos (List.mem_cons_of_mem _ hq)]
      · rw [if_neg hq]
        by_cases hx : x = n
        · subst hx; rw [if_pos rfl, if_pos List.mem_cons_self]
        · rw [if_neg hx, if_neg fun h => by rcases List.mem_cons.1 h with h | h; exact hx h.symm; exact hq h]
  unfold lastN smR
  have := key (srtB (smK T)) 0
  rw [show (fun (s : Int) (t : Ti) => if t.n = n then t.m else s) = _ from rfl] at *
  refine Eq.trans ?_ (this.trans ?_)
  · congr
  · by_cases h : n ∈ smK T
    · rw [if_pos ((srtB_perm _).mem_iff.2 h)]
    · rw [if_neg fun h2 => h ((srtB_perm _).mem_iff.1 h2), smF_zero h]

end Go.Proofs.YtpincjkjoeopkaaGreatDoor
end
