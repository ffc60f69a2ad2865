/- The absences are added to the sheet. -/
import Derived.Test.YtpincjkjoeopkaaGreatDoorF9Kmp
import Derived.Test.YtpincjkjoeopkaaGreatDoorF9Add
set_option linter.unusedSimpArgs false
set_option linter.unusedVariables false
set_option linter.unusedSectionVars false
namespace Go.Proofs.YtpincjkjoeopkaaGreatDoor
open Go Go.Abs
set_option linter.unusedSimpArgs false
set_option linter.unusedVariables false

def abKey (a : Ab) : AKey := ⟨a.day, a.name⟩
def abMin (pl : List Sf) (a : Ab) : Int := if a.min = -1 then planned pl a.day else a.min
/-- the keys of the absences of an employee, as they come; their minutes -/
def abKeys (emp : Int) (l : List Ab) : List AKey := l.foldl (fun ks a => if a.emp = emp then addA (abKey a) ks else ks) []
def abSum (pl : List Sf) (emp : Int) (l : List Ab) (k : AKey) : Int := (l.map fun a => if a.emp = emp ∧ abKey a = k then abMin pl a else 0).sum
def abOk (a : Ab) : Prop := -1 ≤ a.min ∧ a.min ≤ 1440
theorem abKeys_take {emp : Int} {l : List Ab} {i : Nat} (hi : i < l.length) : abKeys emp (l.take (i + 1)) = if l[i].emp = emp then addA (abKey l[i]) (abKeys emp (l.take i)) else abKeys emp (l.take i) := by
  unfold abKeys
  rw [List.take_succ_eq_append_getElem hi, List.foldl_append]; rfl
theorem abKeys_nodup (emp : Int) (l : List Ab) : (abKeys emp l).Nodup := by
  have : ∀ (l : List Ab) (ks : List AKey), ks.Nodup → (l.foldl (fun ks a => if a.emp = emp then addA (abKey a) ks else ks) ks).Nodup := by
    intro l
    induction l with
    | nil => intro ks h; exact h
    | cons a l ih =>
      intro ks h
      rw [List.foldl_cons]
      refine ih _ ?_
      split
      · exact addA_nodup h
      · exact h
  exact this l [] List.nodup_nil
theorem abKeys_mem {emp : Int} {l : List Ab} {k : AKey} : k ∈ abKeys emp l ↔ ∃ a ∈ l, a.emp = emp ∧ abKey a = k := by
  have : ∀ (l : List Ab) (ks : List AKey), k ∈ l.foldl (fun ks a => if a.emp = emp then addA (abKey a) ks else ks) ks ↔ k ∈ ks ∨ ∃ a ∈ l, a.emp = emp ∧ abKey a = k := by
    intro l
    induction l with
    | nil => simp
    | cons a l ih =>
      intro ks
      rw [List.foldl_cons, ih]
      constructor
      · rintro (h | ⟨b, hb, h⟩)
        · split at h
          · rename_i he
            rcases addA_mem.1 h with rfl | h
            · exact .inr ⟨a, List.mem_cons_self, he, rfl⟩
            · exact .inl h
          · exact .inl h
        · exact .inr ⟨b, List.mem_cons_of_mem _ hb, h⟩
      · rintro (h | ⟨b, hb, he, h⟩)
        · left
          split
          · exact addA_mem.2 (.inr h)
          · exact h
        · rcases List.mem_cons.1 hb with rfl | hb
          · left; rw [if_pos he]; exact addA_mem.2 (.inl h.symm)
          · exact .inr ⟨b, hb, he, h⟩
  have := this l []
  simpa [abKeys] using this
theorem abKeys_length (emp : Int) (l : List Ab) : (abKeys emp l).length ≤ l.length := by
  have : ∀ (l : List Ab) (ks : List AKey), (l.foldl (fun ks a => if a.emp = emp then addA (abKey a) ks else ks) ks).length ≤ ks.length + l.length := by
    intro l
    induction l with
    | nil => simp
    | cons a l ih =>
      intro ks
      rw [List.foldl_cons]
      refine Nat.le_trans (ih _) ?_
      rw [List.length_cons]
      split
      · have := addA_length (k := abKey a) (ks := ks); omega
      · omega
  simpa [abKeys] using this l []
theorem abMin_bd {pl : List Sf} {a : Ab} (h : abOk a) : 0 ≤ abMin pl a ∧ abMin pl a ≤ 1474560 := by
  have := planned_le pl a.day
  unfold abMin abOk at *
  split <;> omega
theorem abSum_bd {pl : List Sf} {emp : Int} {k : AKey} : ∀ {l : List Ab}, (∀ a ∈ l, abOk a) → 0 ≤ abSum pl emp l k ∧ abSum pl emp l k ≤ 1474560 * l.length
  | [], _ => by simp [abSum]
  | a :: l, h => by
    have ih := abSum_bd (pl := pl) (emp := emp) (k := k) (l := l) fun b hb => h b (List.mem_cons_of_mem _ hb)
    have h1 := abMin_bd (pl := pl) (h a List.mem_cons_self)
    unfold abSum at *
    rw [List.map_cons, List.sum_cons, List.length_cons]
    split <;> omega
theorem abSum_take {pl : List Sf} {emp : Int} {k : AKey} {l : List Ab} {i : Nat} (hi : i < l.length) : abSum pl emp (l.take (i + 1)) k = abSum pl emp (l.take i) k + if l[i].emp = emp ∧ abKey l[i] = k then abMin pl l[i] else 0 := by
  unfold abSum
  exact sum_take1 (fun a => if a.emp = emp ∧ abKey a = k then abMin pl a else 0) hi
theorem abSum_out {pl : List Sf} {emp : Int} {k : AKey} {l : List Ab} (h : k ∉ abKeys emp l) : abSum pl emp l k = 0 := by
  have : ∀ l : List Ab, (∀ a ∈ l, ¬ (a.emp = emp ∧ abKey a = k)) → (l.map fun a => if a.emp = emp ∧ abKey a = k then abMin pl a else 0).sum = 0 := by
    intro l
    induction l with
    | nil => simp
    | cons a l ih =>
      intro h
      rw [List.map_cons, List.sum_cons, if_neg (h a List.mem_cons_self), ih fun b hb => h b (List.mem_cons_of_mem _ hb)]; rfl
  exact this l fun a ha hc => h (abKeys_mem.2 ⟨a, ha, hc.1, hc.2⟩)

/-- the rows of the map of sums: the sheet's rows come first -/
def sumRow (pl : List Sf) (emp : Int) (l : List Ab) : Row := .obj (.map true [.int .i64, .str] (mapA (abSum pl emp l) (abKeys emp l)))
theorem sumRow_in {n : Nat} {pl : List Sf} {emp : Int} {l : List Ab} : inRow n (sumRow pl emp l) = true := mapA_in

/-- one more absence in the map -/
theorem sum_step {pl : List Sf} {emp : Int} {l : List Ab} {i : Nat} (hi : i < l.length) (he : l[i].emp = emp) (hok : ∀ a ∈ l, abOk a) (hl : l.length ≤ 100000) {v : Int} (hv : v = abMin pl l[i]) :
    (kfind (.agg [.int .i64 l[i].day, .str l[i].name]) (mapA (abSum pl emp (l.take i)) (abKeys emp (l.take i)))).getD (.int .i64 0) = .int .i64 (abSum pl emp (l.take i) (abKey l[i])) ∧
    kput (.agg [.int .i64 l[i].day, .str l[i].name]) (.int .i64 (abSum pl emp (l.take i) (abKey l[i]))) (mapA (abSum pl emp (l.take i)) (abKeys emp (l.take i))) = mapA (abSum pl emp (l.take i)) (abKeys emp (l.take (i + 1))) ∧
    (kpos (.agg [.int .i64 l[i].day, .str l[i].name]) (mapA (abSum pl emp (l.take i)) (abKeys emp (l.take i)))).getD (mapA (abSum pl emp (l.take i)) (abKeys emp (l.take i))).length = posA (abKey l[i]) (abKeys emp (l.take i)) ∧
    posA (abKey l[i]) (abKeys emp (l.take i)) < (mapA (abSum pl emp (l.take i)) (abKeys emp (l.take (i + 1)))).length ∧
    IntKind.i64.wrap (abSum pl emp (l.take i) (abKey l[i]) + v) = abSum pl emp (l.take (i + 1)) (abKey l[i]) ∧
    ∀ z, (mapA (abSum pl emp (l.take i)) (abKeys emp (l.take (i + 1)))).set (posA (abKey l[i]) (abKeys emp (l.take i))) (((mapA (abSum pl emp (l.take i)) (abKeys emp (l.take (i + 1)))).getD (posA (abKey l[i]) (abKeys emp (l.take i))) z).1, .int .i64 (abSum pl emp (l.take (i + 1)) (abKey l[i]))) = mapA (abSum pl emp (l.take (i + 1))) (abKeys emp (l.take (i + 1))) := by
  have hk : AVal.agg [.int .i64 l[i].day, .str l[i].name] = .agg (Cel.c (abKey l[i])) := rfl
  have hn := abKeys_nodup emp (l.take i)
  have hks := abKeys_take (emp := emp) hi
  rw [if_pos he] at hks
  have hpos : posA (abKey l[i]) (abKeys emp (l.take i)) = posA (abKey l[i]) (abKeys emp (l.take (i + 1))) := by rw [hks]; exact posA_addA
  have hm : abKey l[i] ∈ abKeys emp (l.take (i + 1)) := by rw [hks]; exact addA_mem.2 (.inl rfl)
  have hst := abSum_take (pl := pl) (emp := emp) (k := abKey l[i]) hi
  rw [if_pos ⟨he, rfl⟩] at hst
  have hb := abSum_bd (pl := pl) (emp := emp) (k := abKey l[i]) (l := l.take i) fun a ha => hok a (List.mem_of_mem_take ha)
  have hb2 := abMin_bd (pl := pl) (hok _ (List.getElem_mem hi))
  have hb3 : (l.take i).length ≤ 100000 := by simp; omega
  rw [hk]
  refine ⟨?_, ?_, kpos_mapA, ?_, ?_, fun z => ?_⟩
  · rw [kfind_mapA]
    split
    · rfl
    · rename_i hnm; rw [abSum_out hnm]; rfl
  · rw [kput_mapA (f := abSum pl emp (l.take i)) (g := abSum pl emp (l.take i)) (fun _ _ => rfl) hn, hks]
  · rw [hpos, mapA_length]; exact posA_lt hm
  · rw [wrap_i64 (by omega) (by omega), hst, hv]
  · rw [hpos, set_mapA (by rw [hks]; exact addA_nodup hn) hm]
    unfold mapA
    refine List.map_congr_left fun x _ => ?_
    show (AVal.agg (Cel.c x), AVal.int .i64 (if x = abKey l[i] then _ else _)) = _
    by_cases e : x = abKey l[i]
    · rw [if_pos e, e]
    · rw [if_neg e, abSum_take hi, if_neg (fun h => e h.2.symm), Int.add_zero]
theorem sum_skip {pl : List Sf} {emp : Int} {l : List Ab} {i : Nat} (hi : i < l.length) (he : l[i].emp ≠ emp) : sumRow pl emp (l.take (i + 1)) = sumRow pl emp (l.take i) := by
  unfold sumRow
  rw [abKeys_take hi, if_neg he]
  have : abSum pl emp (l.take (i + 1)) = abSum pl emp (l.take i) := funext fun k => by rw [abSum_take hi, if_neg (fun h => he h.1), Int.add_zero]
  rw [this]

theorem mapA_fit {f : AKey → Int} {ks : List AKey} : entsFit true [.int .i64, .str] (mapA f ks) := by
  intro p hp
  obtain ⟨k, _, rfl⟩ := List.mem_map.1 hp
  exact ⟨rfl, rfl, trivial⟩
/-- what a key does to the sheet -/
def abPut (S : AKey → Int) (fr to : Int) (st : List Int × (Int → Bool → List (List AVal))) (k : AKey) : List Int × (Int → Bool → List (List AVal)) :=
  if 0 < S k ∧ fr ≤ k.d ∧ k.d ≤ to then (addK k.d st.1, shAdd st.2 k.d false [.str k.n, .int .i64 (S k)]) else st
def abPuts (S : AKey → Int) (fr to : Int) (ks : List Int) (V : Int → Bool → List (List AVal)) (L : List AKey) : List Int × (Int → Bool → List (List AVal)) := L.foldl (abPut S fr to) (ks, V)
theorem abPuts_take {S : AKey → Int} {fr to : Int} {ks : List Int} {V : Int → Bool → List (List AVal)} {L : List AKey} {i : Nat} (hi : i < L.length) : abPuts S fr to ks V (L.take (i + 1)) = abPut S fr to (abPuts S fr to ks V (L.take i)) L[i] := by
  unfold abPuts
  rw [List.take_succ_eq_append_getElem hi, List.foldl_append]; rfl
theorem abPuts_len {S : AKey → Int} {fr to : Int} {ks : List Int} {V : Int → Bool → List (List AVal)} {n : Nat} (hV : ∀ d k, (V d k).length ≤ n) : ∀ (L : List AKey) (d : Int) (k : Bool), ((abPuts S fr to ks V L).2 d k).length ≤ n + L.length := by
  have : ∀ (L : List AKey) (st : List Int × (Int → Bool → List (List AVal))) (n : Nat), (∀ d k, (st.2 d k).length ≤ n) → ∀ d k, ((L.foldl (abPut S fr to) st).2 d k).length ≤ n + L.length := by
    intro L
    induction L with
    | nil => intro st n h d k; exact h d k
    | cons x L ih =>
      intro st n h d k
      rw [List.foldl_cons]
      refine Nat.le_trans (ih _ (n + 1) (fun d k => ?_) d k) (by rw [List.length_cons]; omega)
      unfold abPut
      split
      · show (shAdd st.2 x.d false _ d k).length ≤ n + 1
        unfold shAdd
        split
        · rename_i e
          have := h x.d false
          rw [List.length_append]; simp; omega
        · have := h d k; omega
      · have := h d k; omega
  intro L d k
  exact this L (ks, V) n hV d k

set_option maxHeartbeats 2000000 in
theorem addAbs_ok {rows : List Row} {s m : Nat} {fr to : Int} {ks : List Int} {V : Int → Bool → List (List AVal)} (h0 : ShR rows s m fr to ks V) (hB : ∀ d k, (V d k).length ≤ 100000) (pl : List Sf) (hpl : pl.length ≤ 1000000) (l : List Ab) (hl : l.length ≤ 100000) (hok : ∀ a ∈ l, abOk a ∧ (Lit.int .i64 a.day).wf = true ∧ a.name.size ≤ maxLen) (emp : Int) :
    AFn Tryz.prog 45 [.ref s 1 0 0, .pure 3 (els pl), .pure 4 (els l), .int .i64 emp] rows
      (fun v W => v = .tup [] ∧ ShF rows W m ∧ ∃ L : List AKey, L.Perm (abKeys emp l) ∧ L.Pairwise akLt ∧ ShR W s m fr to (abPuts (abSum pl emp l) fr to ks V L).1 (abPuts (abSum pl emp l) fr to ks V L).2) := by
  obtain ⟨X, h⟩ := h0
  have hall := h.all
  have hsl := row_lt h.s
  have hml := row_lt h.m
  refine afn Tryz.func45 a45_ok (by simp [a45, s45]) ?_
  simp only [go_sem,a45,s45,els_length]
  refine avc_loop (fun env rows' => ∃ i : Nat, i ≤ l.length ∧ env = [(0, .ref s 1 0 0), (1, .pure 3 (els pl)), (3, .int .i64 emp), (8, .mref rows.length), (16, .pure 4 (els l)), (17, .int .i64 l.length), (18, .int .i64 i)] ∧ rows' = rows ++ [sumRow pl emp (l.take i)])
    (fun env _ => match slot env 18 with | .int _ j => (l.length - j).toNat | _ => 0) ?_ ?_
  · exact Cl.here ⟨0, by omega, rfl, rfl⟩
  · rintro env rows' ⟨i, hi, rfl, rfl⟩
    have hw : IntKind.i64.wrap ((i : Int) + 1) = ((i + 1 : Nat) : Int) := by rw [wrap_i64 (by omega) (by omega)]; omega
    by_cases hlt : i < l.length
    · have h1 : (i : Int) < l.length := by omega
      have h0 : (0 : Int) ≤ i := by omega
      have hg : (els l).getD i [] = [.int .i64 l[i].emp, .int .i64 l[i].day, .str l[i].name, .int .i64 l[i].min] := by rw [els_getD hlt, cel_ab]
      have hdrop : ∀ {t : List Row} {K : Env → List Row → Prop} {x : Row}, inRow (rows.length + 1) x = true → Cl rows.length K [(0, .ref s 1 0 0), (1, .pure 3 (els pl)), (3, .int .i64 emp), (8, .mref rows.length), (16, .pure 4 (els l)), (17, .int .i64 l.length), (18, .int .i64 ((i + 1 : Nat) : Int))] (rows ++ [x]) →
          Cl rows.length K [(0, .ref s 1 0 0), (1, .pure 3 (els pl)), (3, .int .i64 emp), (8, .mref rows.length), (16, .pure 4 (els l)), (17, .int .i64 l.length), (18, .int .i64 ((i + 1 : Nat) : Int))] (rows ++ x :: t) := fun {t K x} hx hc => by
        have := Cl.drop (t := t) (by simp) (inAll_snoc hall hx) (by simp [inEnv, inV]; omega) hc
        simpa using this
      by_cases c : l[i].emp = emp
      · by_cases c1 : l[i].min = -1
        · have hst := sum_step (pl := pl) hlt c (fun a ha => (hok a ha).1) hl (v := planned pl l[i].day) (by unfold abMin; rw [if_pos c1])
          obtain ⟨e1, e2, e3, e4, e5, e6⟩ := hst
          have c1' : (l[i].min == -1) = true := beq_iff_eq.2 c1
          simp only [go_sem,a45,s45,sumRow,h0,h1,hg,els_length,Int.toNat_natCast,c,bne_self_eq_false,c1',List.append_assoc,app_at,app_at0,app_set,app_set0,List.length_append,hw]
          (refine callC_of [] [] (by simp) rfl (bindL_clean _ (by first | rfl | simp only [go_sem])) (planned_ok pl hpl l[i].day) ?_; rintro _ _ ⟨rfl,rfl⟩; refine ⟨.inl rfl,?_⟩; simp only [go_sem])
          simp only [go_sem,List.append_assoc,app_at,app_at0,app_set,app_set0,List.length_append,hw,e1,e2,e3,e5,mapA_fit,List.append_nil]
          refine ⟨by omega, by omega, ?_⟩
          rw [e6]
          refine hdrop mapA_in (Cl.here ⟨⟨i + 1, by omega, rfl, rfl⟩, ?_⟩)
          simp only [go_sem]
          omega
        · have hst := sum_step (pl := pl) hlt c (fun a ha => (hok a ha).1) hl (v := l[i].min) (by unfold abMin; rw [if_neg c1])
          obtain ⟨e1, e2, e3, e4, e5, e6⟩ := hst
          have c1' : (l[i].min == -1) = false := beq_eq_false_iff_ne.2 c1
          simp only [go_sem,a45,s45,sumRow,h0,h1,hg,els_length,Int.toNat_natCast,c,bne_self_eq_false,c1',List.append_assoc,app_at,app_at0,app_set,app_set0,List.length_append,hw,e1,e2,e3,e5,mapA_fit]
          refine ⟨by omega, by omega, ?_⟩
          rw [e6]
          refine hdrop mapA_in (Cl.here ⟨⟨i + 1, by omega, rfl, rfl⟩, ?_⟩)
          simp only [go_sem]
          omega
      · have c' : (l[i].emp != emp) = true := bne_iff_ne.2 c
        simp only [go_sem,a45,s45,h0,h1,hg,els_length,Int.toNat_natCast,c',List.append_assoc,app_at,app_at0,app_set,app_set0,List.length_append,hw]
        rw [← sum_skip hlt c]
        refine hdrop sumRow_in (Cl.here ⟨⟨i + 1, by omega, rfl, rfl⟩, ?_⟩)
        simp only [go_sem]
        omega
    · have h1 : ¬ (i : Int) < l.length := by omega
      obtain rfl : i = l.length := by omega
      simp only [go_sem,a45,s45,h1,List.take_length]
      have hall1 := inAll_snoc hall (sumRow_in (n := rows.length + 1) (pl := pl) (emp := emp) (l := l))
      refine callC_all hall1 (by simp [inL, inV]) mapsKeys_ok ?_
      rintro _ _ ⟨rfl, rfl⟩
      refine ⟨by simp, ?_⟩
      simp only [go_sem,List.append_assoc,List.length_append]
      have hall2 : inAll (rows ++ [sumRow pl emp l, .live 232 1 [[.mref rows.length]]]) := by
        have := inAll_snoc (x := .live 232 1 [[.mref rows.length]]) hall1 (by simp [inRow, inE, inL, inV]; omega)
        simpa using this
      refine callC_all hall2 (by simp [inL, inV]) (sortedK_ok (a := rows.length) (b := rows.length + 1) (ents := mapA (abSum pl emp l) (abKeys emp l)) hall2 (by rw [app_at0]; rfl) (by rw [app_at]; rfl) mapA_keys (abKeys_nodup emp l)
        (fun x hx => ?_) (Nat.le_trans (abKeys_length emp l) (by omega))) ?_
      · obtain ⟨a, ha, _, rfl⟩ := abKeys_mem.1 hx
        exact (hok a ha).2
      rintro _ _ ⟨L, hL1, hL2, rfl, rfl⟩
      refine ⟨by simp, ?_⟩
      simp only [go_sem,List.append_assoc,List.length_append]
      have hks : ∀ x ∈ L, (Lit.int .i64 x.d).wf = true ∧ x.n.size ≤ maxLen := fun x hx => by
        obtain ⟨a, ha, _, rfl⟩ := abKeys_mem.1 (hL1.mem_iff.1 hx)
        exact (hok a ha).2
      have hLl : L.length ≤ 100000 := by rw [hL1.length_eq]; exact Nat.le_trans (abKeys_length emp l) hl
      obtain ⟨rows0, hrows0⟩ : ∃ r, rows ++ [sumRow pl emp l, .live 232 1 [[.mref rows.length]], .live 235 2 (els L)] = r := ⟨_, rfl⟩
      rw [hrows0]
      have hR0 : ShR rows0 s m fr to ks V := by
        rw [← hrows0]
        refine ⟨X, h.ext ?_⟩
        simp only [List.mem_cons, List.not_mem_nil, or_false, forall_eq_or_imp, forall_eq]
        refine ⟨sumRow_in, ?_, inE_clean els_clean⟩
        simp [inRow, inE, inL, inV]
      have hF0 : ShF rows rows0 m := by rw [← hrows0]; exact ShF.app
      have hs0 : rows0[rows.length]? = some (sumRow pl emp l) := by rw [← hrows0, app_at0]; rfl
      have hk0 : rows0[rows.length + 2]? = some (.live 235 2 (els L)) := by rw [← hrows0, app_at]; rfl
      refine avc_loop (fun env W => ∃ i : Nat, i ≤ L.length ∧ env = [(0, .ref s 1 0 0), (8, .mref rows.length), (49, .own (rows.length + 2) L.length 0 L.length), (50, .int .i64 L.length), (51, .int .i64 i)] ∧ ShF rows0 W m ∧ ShR W s m fr to (abPuts (abSum pl emp l) fr to ks V (L.take i)).1 (abPuts (abSum pl emp l) fr to ks V (L.take i)).2)
        (fun env _ => match slot env 51 with | .int _ j => (L.length - j).toNat | _ => 0) ?_ ?_
      · exact Cl.here ⟨0, by omega, rfl, ShF.refl, hR0⟩
      · rintro env W ⟨i, hi, rfl, hF, hR⟩
        have hw : IntKind.i64.wrap ((i : Int) + 1) = ((i + 1 : Nat) : Int) := by rw [wrap_i64 (by omega) (by omega)]; omega
        have hsW : W[rows.length]? = some (sumRow pl emp l) := hF.2 _ _ hs0 (by omega) (fun k vals e => by unfold sumRow at e; cases e)
        have hkW : W[rows.length + 2]? = some (.live 235 2 (els L)) := hF.2 _ _ hk0 (by omega) (fun k vals e => by
          simp only [Row.live.injEq] at e
          cases k <;> exact absurd e.1 (by decide))
        by_cases hlt : i < L.length
        · have h1 : (i : Int) < L.length := by omega
          have h0 : (0 : Int) ≤ i := by omega
          have hg : (els L).getD i [] = [.int .i64 L[i].d, .str L[i].n] := by rw [els_getD hlt, cel_akey]
          have hm' : L[i] ∈ abKeys emp l := hL1.mem_iff.1 (List.getElem_mem hlt)
          have hlk : (kfind (.agg [.int .i64 L[i].d, .str L[i].n]) (mapA (abSum pl emp l) (abKeys emp l))).getD (.int .i64 0) = .int .i64 (abSum pl emp l L[i]) := by
            rw [show AVal.agg [.int .i64 L[i].d, .str L[i].n] = .agg (Cel.c L[i]) from rfl, kfind_mapA, if_pos hm']; rfl
          unfold sumRow at hsW
          have hRt : ∀ t : Row, inRow (W.length + 1) t = true → ShR (W ++ [t]) s m fr to (abPuts (abSum pl emp l) fr to ks V (L.take i)).1 (abPuts (abSum pl emp l) fr to ks V (L.take i)).2 := fun t ht => by
            obtain ⟨X', hX'⟩ := hR
            exact ⟨X', hX'.ext (by simpa using ht)⟩
          have htk := abPuts_take (S := abSum pl emp l) (fr := fr) (to := to) (ks := ks) (V := V) hlt
          by_cases hp : 0 < abSum pl emp l L[i]
          · simp only [go_sem,a45,s45,h0,h1,hg,els_length,Int.toNat_natCast,List.append_assoc,hsW,hkW,app_some hsW,app_some hkW,app_at,app_at0,app_set,app_set0,List.length_append,hw,hlk,hp]
            have hRt' := hRt (.live 235 2 [[.int .i64 L[i].d, .str L[i].n]]) (inE_clean rfl)
            have hlen := abPuts_len (S := abSum pl emp l) (fr := fr) (to := to) (ks := ks) hB (L.take i)
            have hlt2 : (L.take i).length ≤ 100000 := by simp; omega
            refine callD_all (fun _ _ _ _ h => by cases h) hRt'.choose_spec.all (by
              have h3 := row_lt hRt'.choose_spec.s
              simp only [inL, inV, h3, decide_true, Bool.and_true]) (addTime_ok hRt' (fun d k => Nat.le_trans (hlen d k) (by omega)) L[i].d L[i].n (abSum pl emp l L[i])) ?_
            rintro _ W' ⟨rfl, hF2, hR2⟩
            refine ⟨hF2.1, ?_⟩
            simp only [go_sem,hw]
            refine Cl.here ⟨⟨i + 1, by omega, rfl, hF.trans (ShF.app.trans hF2), ?_⟩, ?_⟩
            · rw [htk]
              unfold abPut
              by_cases hr : fr ≤ L[i].d ∧ L[i].d ≤ to
              · rw [if_pos hr] at hR2
                rw [if_pos ⟨hp, hr⟩]
                exact hR2
              · rw [if_neg hr] at hR2
                rw [if_neg (fun h => hr h.2)]
                exact hR2
            · simp only [go_sem]
              omega
          · simp only [go_sem,a45,s45,h0,h1,hg,els_length,Int.toNat_natCast,List.append_assoc,hsW,hkW,app_some hsW,app_some hkW,app_at,app_at0,app_set,app_set0,List.length_append,hw,hlk,hp]
            refine Cl.here ⟨⟨i + 1, by omega, rfl, hF.trans ShF.app, ?_⟩, ?_⟩
            · rw [htk]
              unfold abPut
              rw [if_neg (fun h => hp h.1)]
              exact hRt _ (inE_clean rfl)
            · simp only [go_sem]
              omega
        · have h1 : ¬ (i : Int) < L.length := by omega
          obtain rfl : i = L.length := by omega
          rw [List.take_length] at hR
          simp only [go_sem,a45,s45,h1]
          exact Cl.here ⟨rfl, hF0.trans hF, L, hL1, hL2, hR⟩

end Go.Proofs.YtpincjkjoeopkaaGreatDoor
