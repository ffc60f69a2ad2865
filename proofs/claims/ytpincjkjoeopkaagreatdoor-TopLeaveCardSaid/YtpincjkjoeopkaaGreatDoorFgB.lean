/- F9EPl, F9Ev2 joined. -/
import Derived.Test.YtpincjkjoeopkaaGreatDoorFgA
set_option linter.unusedSimpArgs false
set_option linter.unusedVariables false
set_option linter.unusedSectionVars false
section
/- Absences: what the program and the reference make of them. -/
namespace Go.Proofs.YtpincjkjoeopkaaGreatDoor
open Go Go.Abs
set_option linter.unusedSimpArgs false
set_option linter.unusedVariables false

/-- the times of a day, of keys in order -/
def tisD (S : AKey → Int) (d : Int) (L : List AKey) : List Ti := (L.filter fun k => decide (k.d = d ∧ 0 < S k)).map fun k => ⟨k.n, S k⟩
theorem abPuts_V {S : AKey → Int} {fr to : Int} {d : Int} : ∀ (L : List AKey) (ks : List Int) (V : Int → Bool → List (List AVal)),
    (abPuts S fr to ks V L).2 d false = V d false ++ (if fr ≤ d ∧ d ≤ to then els (tisD S d L) else []) ∧ (abPuts S fr to ks V L).2 d true = V d true ∧
    (d ∈ (abPuts S fr to ks V L).1 ↔ d ∈ ks ∨ (fr ≤ d ∧ d ≤ to ∧ tisD S d L ≠ []))
  | [], ks, V => by simp [abPuts, tisD, els]
  | k :: L, ks, V => by
    have e : abPuts S fr to ks V (k :: L) = abPuts S fr to (abPut S fr to (ks, V) k).1 (abPut S fr to (ks, V) k).2 L := rfl
    rw [e]
    obtain ⟨h1, h2, h3⟩ := abPuts_V (S := S) (fr := fr) (to := to) (d := d) L (abPut S fr to (ks, V) k).1 (abPut S fr to (ks, V) k).2
    rw [h1, h2, h3]
    unfold abPut
    by_cases c : 0 < S k ∧ fr ≤ k.d ∧ k.d ≤ to
    · rw [if_pos c]
      by_cases hd : k.d = d
      · have ht : tisD S d (k :: L) = ⟨k.n, S k⟩ :: tisD S d L := by
          unfold tisD
          rw [List.filter_cons_of_pos (by simp [hd, c.1]), List.map_cons]
        have hr : fr ≤ d ∧ d ≤ to := hd ▸ c.2
        rw [ht, if_pos hr, if_pos hr]
        refine ⟨?_, ?_, ?_⟩
        · simp [shAdd, hd, els, cel_ti]
        · simp [shAdd]
        · simp only [addK_mem]
          constructor
          · intro _; exact .inr ⟨hr.1, hr.2, by simp⟩
          · intro _; exact .inl (.inl hd.symm)
      · have ht : tisD S d (k :: L) = tisD S d L := by
          unfold tisD
          rw [List.filter_cons_of_neg (by simp [hd])]
        rw [ht]
        refine ⟨?_, ?_, ?_⟩
        · simp [shAdd]
          intro e
          exact absurd e.symm hd
        · simp [shAdd]
        · simp only [addK_mem]
          constructor
          · rintro ((h | h) | h)
            · exact absurd h.symm hd
            · exact .inl h
            · exact .inr h
          · rintro (h | h)
            · exact .inl (.inr h)
            · exact .inr h
    · rw [if_neg c]
      by_cases hr : fr ≤ d ∧ d ≤ to
      · have ht : tisD S d (k :: L) = tisD S d L := by
          unfold tisD
          rw [List.filter_cons_of_neg]
          simp only [decide_eq_true_eq, not_and]
          rintro rfl h
          exact c ⟨h, hr⟩
        rw [ht]
        exact ⟨rfl, rfl, Iff.rfl⟩
      · rw [if_neg hr, if_neg hr]
        refine ⟨rfl, rfl, ?_⟩
        constructor
        · rintro (h | h)
          · exact .inl h
          · exact absurd ⟨h.1, h.2.1⟩ hr
        · rintro (h | h)
          · exact .inl h
          · exact absurd ⟨h.1, h.2.1⟩ hr

theorem ba_tri (a b : ByteArray) : a.toList < b.toList ∨ a.toList = b.toList ∨ b.toList < a.toList := by
  by_cases h1 : a.toList < b.toList
  · exact .inl h1
  · by_cases h2 : b.toList < a.toList
    · exact .inr (.inr h2)
    · exact .inr (.inl (List.le_antisymm (List.not_lt.1 h2) (List.not_lt.1 h1)))
def tiLt (a b : Ti) : Prop := a.n.toList < b.n.toList
theorem addT_names {nm nm' : ByteArray} {mn : Int} : ∀ {t : List Ti}, nm' ∈ (addT nm mn t).map (·.n) ↔ nm' = nm ∨ nm' ∈ t.map (·.n)
  | [] => by simp [addT]
  | x :: t => by
    have ih := addT_names (nm := nm) (nm' := nm') (mn := mn) (t := t)
    unfold addT
    split
    · simp only [List.map_cons, List.mem_cons, ih]; exact or_left_comm
    · split
      · rename_i e; simp only [List.map_cons, List.mem_cons, ← e]; exact or_self_left.symm
      · simp only [List.map_cons, List.mem_cons]
theorem addT_sorted {nm : ByteArray} {mn : Int} : ∀ {t : List Ti}, t.Pairwise tiLt → (addT nm mn t).Pairwise tiLt
  | [], _ => by simp [addT]
  | x :: t, h => by
    rw [List.pairwise_cons] at h
    unfold addT
    split
    · rename_i hx
      rw [List.pairwise_cons]
      refine ⟨fun y hy => ?_, addT_sorted h.2⟩
      rcases addT_names.1 (List.mem_map_of_mem (f := (·.n)) hy) with e | hy
      · unfold tiLt; rw [e]; exact hx
      · obtain ⟨z, hz, e⟩ := List.mem_map.1 hy
        have := h.1 z hz
        unfold tiLt at *
        rw [← e]; exact this
    · split
      · rename_i e
        rw [List.pairwise_cons]
        exact ⟨fun y hy => by have := h.1 y hy; unfold tiLt at *; rw [← e]; exact this, h.2⟩
      · rename_i h1 h2
        have h3 : nm.toList < x.n.toList := by
          rcases ba_tri nm x.n with h | h | h
          · exact h
          · exact absurd (ba_ext h.symm) h2
          · exact absurd h h1
        rw [List.pairwise_cons, List.pairwise_cons]
        refine ⟨fun y hy => ?_, h⟩
        rcases List.mem_cons.1 hy with rfl | hy
        · exact h3
        · exact List.lt_trans h3 (h.1 y hy)
theorem addT_val {nm : ByteArray} {mn : Int} {F : ByteArray → Int} : ∀ {t : List Ti}, t.Pairwise tiLt → (∀ x ∈ t, x.m = F x.n) → (nm ∉ t.map (·.n) → F nm = 0) → ∀ x ∈ addT nm mn t, x.m = F x.n + if x.n = nm then mn else 0
  | [], _, _, h0, x, hx => by
    rw [addT, List.mem_singleton] at hx
    subst hx
    have := h0 (by simp)
    simp [this]
  | y :: t, h, hF, h0, x, hx => by
    rw [List.pairwise_cons] at h
    have hirr : ∀ {a : ByteArray}, ¬ a.toList < a.toList := fun {a} => List.lt_irrefl _
    unfold addT at hx
    split at hx
    · rename_i hy
      have hyn : y.n ≠ nm := fun e => by rw [e] at hy; exact hirr hy
      rcases List.mem_cons.1 hx with rfl | hx
      · rw [if_neg hyn, hF _ List.mem_cons_self]; omega
      · refine addT_val h.2 (fun z hz => hF z (List.mem_cons_of_mem _ hz)) (fun hn => h0 ?_) x hx
        rw [List.map_cons, List.mem_cons]
        rintro (e | e)
        · exact hyn e.symm
        · exact hn e
    · split at hx
      · rename_i hy1 e
        have hlt : ∀ z ∈ t, z.n ≠ nm := fun z hz e2 => by have := h.1 z hz; unfold tiLt at this; rw [e, e2] at this; exact hirr this
        rcases List.mem_cons.1 hx with rfl | hx
        · simp only [if_true]; rw [← e, hF _ List.mem_cons_self]
        · rw [if_neg (hlt x hx), hF x (List.mem_cons_of_mem _ hx)]; omega
      · rename_i h1 h2
        have h3 : nm.toList < y.n.toList := by
          rcases ba_tri nm y.n with h | h | h
          · exact h
          · exact absurd (ba_ext h.symm) h2
          · exact absurd h h1
        have hno : ∀ z ∈ y :: t, z.n ≠ nm := fun z hz e => by
          rcases List.mem_cons.1 hz with rfl | hz
          · exact h2 e
          · have := List.lt_trans h3 (h.1 z hz); rw [e] at this; exact hirr this
        rcases List.mem_cons.1 hx with rfl | hx
        · simp only [if_true]
          have := h0 (fun hm => by obtain ⟨z, hz, e⟩ := List.mem_map.1 hm; exact hno z hz e)
          omega
        · rw [if_neg (hno x hx), hF x hx]; omega

theorem misS_spec {pl : List Sf} {emp d : Int} {l : List Ab} : ∀ {i : Nat}, i ≤ l.length →
    (misS pl emp d (l.take i)).Pairwise tiLt ∧ (∀ nm, nm ∈ (misS pl emp d (l.take i)).map (·.n) ↔ (⟨d, nm⟩ : AKey) ∈ abKeys emp (l.take i)) ∧ ∀ x ∈ misS pl emp d (l.take i), x.m = abSum pl emp (l.take i) ⟨d, x.n⟩
  | 0, _ => by simp [misS, abKeys]
  | i + 1, hi => by
    have hlt : i < l.length := by omega
    obtain ⟨h1, h2, h3⟩ := misS_spec (pl := pl) (emp := emp) (d := d) (l := l) (i := i) (by omega)
    rw [misS_take hlt]
    by_cases c : l[i].emp = emp ∧ l[i].day = d
    · rw [if_pos c]
      refine ⟨addT_sorted h1, fun nm => ?_, fun x hx => ?_⟩
      · rw [addT_names, h2, abKeys_take hlt, if_pos c.1, addA_mem]
        have : (⟨d, nm⟩ : AKey) = abKey l[i] ↔ nm = l[i].name := by
          unfold abKey; rw [AKey.mk.injEq, c.2]; simp
        rw [this]
      · have := addT_val (F := fun nm => abSum pl emp (l.take i) ⟨d, nm⟩) h1 h3 (fun hn => abSum_out (fun hk => hn ((h2 _).2 hk))) x hx
        rw [this, abSum_take hlt]
        congr 1
        have e : (l[i].emp = emp ∧ abKey l[i] = ⟨d, x.n⟩) ↔ x.n = l[i].name := by
          unfold abKey; rw [AKey.mk.injEq]
          constructor
          · rintro ⟨_, _, h⟩; exact h.symm
          · intro h; exact ⟨c.1, c.2, h.symm⟩
        by_cases hx : x.n = l[i].name
        · rw [if_pos hx, if_pos (e.2 hx)]
        · rw [if_neg hx, if_neg fun h => hx (e.1 h)]
    · rw [if_neg c]
      refine ⟨h1, fun nm => ?_, fun x hx => ?_⟩
      · rw [h2, abKeys_take hlt]
        by_cases he : l[i].emp = emp
        · rw [if_pos he, addA_mem]
          constructor
          · exact .inr
          · rintro (h | h)
            · exact absurd ⟨he, by rw [abKey, AKey.mk.injEq] at h; exact h.1.symm⟩ c
            · exact h
        · rw [if_neg he]
      · rw [h3 x hx, abSum_take hlt, if_neg, Int.add_zero]
        rintro ⟨he, hk⟩
        rw [abKey, AKey.mk.injEq] at hk
        exact c ⟨he, hk.1⟩
/-- the reference's times of a day are the program's -/
theorem mis_tis {pl : List Sf} {emp d : Int} {l : List Ab} {L : List AKey} (hL : L.Perm (abKeys emp l)) (hs : L.Pairwise akLt) : posT (misS pl emp d l) = tisD (abSum pl emp l) d L := by
  have h := misS_spec (pl := pl) (emp := emp) (d := d) (l := l) (i := l.length) (Nat.le_refl _)
  rw [List.take_length] at h
  obtain ⟨h1, h2, h3⟩ := h
  have p1 : (posT (misS pl emp d l)).Pairwise tiLt := h1.filter _
  have p2 : (tisD (abSum pl emp l) d L).Pairwise tiLt := by
    unfold tisD
    rw [List.pairwise_map]
    refine (hs.filter _).imp_of_mem fun {a b} ha hb hab => ?_
    have ha' := (List.mem_filter.1 ha).2
    have hb' := (List.mem_filter.1 hb).2
    simp only [decide_eq_true_eq] at ha' hb'
    unfold akLt at hab
    unfold tiLt
    rcases hab with h | h
    · omega
    · exact h.2
  have hirr : ∀ a : Ti, ¬ tiLt a a := fun a => List.lt_irrefl _
  have hmem : ∀ x, x ∈ posT (misS pl emp d l) ↔ x ∈ tisD (abSum pl emp l) d L := fun x => by
    unfold posT tisD
    simp only [List.mem_filter, List.mem_map, decide_eq_true_eq]
    constructor
    · rintro ⟨hx, hp⟩
      have hk := (h2 x.n).1 (List.mem_map_of_mem hx)
      have hm := h3 x hx
      exact ⟨⟨d, x.n⟩, ⟨hL.mem_iff.2 hk, rfl, by rw [← hm]; exact hp⟩, by rw [← hm]⟩
    · rintro ⟨k, ⟨hk, rfl, hp⟩, rfl⟩
      have hk' := hL.mem_iff.1 hk
      obtain ⟨y, hy, e⟩ := List.mem_map.1 ((h2 k.n).2 hk')
      have hm := h3 y hy
      have : y = ⟨k.n, abSum pl emp l k⟩ := by
        cases y
        simp only at e hm
        subst e
        rw [hm]
      rw [← this]
      exact ⟨hy, by rw [this]; exact hp⟩
  have n1 : (posT (misS pl emp d l)).Nodup := by
    refine p1.imp ?_
    intro a b h e
    subst e
    exact hirr a h
  have n2 : (tisD (abSum pl emp l) d L).Nodup := by
    refine p2.imp ?_
    intro a b h e
    subst e
    exact hirr a h
  refine ((List.perm_ext_iff_of_nodup n1 n2).2 hmem).eq_of_pairwise (fun a b _ _ h1 h2 => absurd (List.lt_trans h1 h2) (hirr a)) p1 p2

/-- the days of the program are those of the reference -/
theorem evL_days {pl : List Sf} {emp fr to : Int} {l : List Ab} {L : List AKey} (hL : L.Perm (abKeys emp l)) (hs : L.Pairwise akLt) (hnd : (abPuts (abSum pl emp l) fr to [] (fun _ _ => []) L).1.Nodup) :
    srt (abPuts (abSum pl emp l) fr to [] (fun _ _ => []) L).1 = (mrkL l).filter fun d => (dayR pl emp fr to l d).isSome := by
  have hm1 := (mrkL_ok (l := l) (i := l.length) (Nat.le_refl _)).2
  rw [List.take_length] at hm1
  have p2 : ((mrkL l).filter fun d => (dayR pl emp fr to l d).isSome).Pairwise (· < ·) := hm1.filter _
  refine srt_eq ?_ (p2.imp fun {a b} h => by omega)
  refine (List.perm_ext_iff_of_nodup ?_ hnd).2 fun d => ?_
  · refine p2.imp ?_
    intro a b h e
    omega
  · rw [(abPuts_V L [] (fun _ _ => [])).2.2, List.mem_filter, mrkL_mem]
    unfold dayR
    rw [mis_tis (d := d) hL hs]
    constructor
    · rintro ⟨_, h⟩
      split at h
      · rename_i c
        exact .inr ⟨c.1, c.2.1, fun e => by rw [e] at c; exact absurd c.2.2 (by simp)⟩
      · cases h
    · rintro (h | ⟨h1, h2, h3⟩)
      · cases h
      · obtain ⟨x, hx⟩ := List.exists_mem_of_ne_nil _ h3
        unfold tisD at hx
        simp only [List.mem_map, List.mem_filter, decide_eq_true_eq] at hx
        obtain ⟨k, ⟨hk, hd, _⟩, _⟩ := hx
        obtain ⟨a, ha, _, hak⟩ := abKeys_mem.1 (hL.mem_iff.1 hk)
        refine ⟨⟨a, ha, by rw [← hd, ← hak]; rfl⟩, ?_⟩
        rw [if_pos ⟨h1, h2, List.length_pos_iff.2 h3⟩]; rfl

theorem abPuts_nd {S : AKey → Int} {fr to : Int} : ∀ (L : List AKey) (ks : List Int) (V : Int → Bool → List (List AVal)), ks.Nodup → (abPuts S fr to ks V L).1.Nodup
  | [], ks, V, h => h
  | k :: L, ks, V, h => by
    have e : abPuts S fr to ks V (k :: L) = abPuts S fr to (abPut S fr to (ks, V) k).1 (abPut S fr to (ks, V) k).2 L := rfl
    rw [e]
    refine abPuts_nd L _ _ ?_
    unfold abPut
    split
    · exact addK_nodup h
    · exact h
theorem repC_le {C : Ctx} {b : Nat} : ∀ {x y : List AVal} {o : Nat}, leL x y → RepC C b o x → RepC C b o y
  | [], [], _, _, h => h
  | [], _ :: _, _, h, _ => by simp [leL] at h
  | _ :: _, [], _, h, _ => by simp [leL] at h
  | a :: x, c :: y, o, h, hr => by
    rw [leL] at h
    rw [RepC] at hr ⊢
    obtain ⟨⟨v, h1, h2, h3⟩, h4⟩ := hr
    exact ⟨⟨v, h1, h2, rep_le _ _ _ h.1 h3⟩, repC_le h.2 h4⟩
theorem leL_len : ∀ {x y : List AVal}, leL x y → x.length = y.length
  | [], [], _ => rfl
  | [], _ :: _, h => by simp [leL] at h
  | _ :: _, [], h => by simp [leL] at h
  | _ :: x, _ :: y, h => by rw [leL] at h; simp [leL_len h.2]
theorem repE_le {C : Ctx} {b sz : Nat} {f g : Int → List AVal} : ∀ {ds : List Int} {o : Nat}, (∀ d ∈ ds, leL (f d) (g d)) → RepE C b o sz (ds.map f) → RepE C b o sz (ds.map g)
  | [], _, _, h => h
  | d :: ds, o, h, hr => by
    rw [List.map_cons, RepE] at hr ⊢
    have hd := h d List.mem_cons_self
    exact ⟨by rw [← leL_len hd]; exact hr.1, repC_le hd hr.2.1, repE_le (fun x hx => h x (List.mem_cons_of_mem _ hx)) hr.2.2⟩
theorem rep_pure_le {C : Ctx} {sz : Nat} {f g : Int → List AVal} {ds : List Int} {v : Value} (h : ∀ d ∈ ds, leL (f d) (g d)) (hr : Rep C (.pure sz (ds.map f)) v) : Rep C (.pure sz (ds.map g)) v := by
  rw [Rep] at hr ⊢
  obtain ⟨ao, cap, h1, h2, h3⟩ := hr
  rw [List.length_map] at h1 h2 h3
  refine ⟨ao, cap, by rw [List.length_map]; exact h1, by rw [List.length_map]; exact h2, ?_⟩
  rw [List.length_map]
  rcases h3 with h3 | ⟨b, o, h4, h5, h6⟩
  · exact .inl h3
  · exact .inr ⟨b, o, h4, h5, repE_le h h6⟩

/-- the program's results may stand for the reference's -/
theorem ev_rep {pl : List Sf} {emp fr to : Int} {l : List Ab} {L : List AKey} (hL : L.Perm (abKeys emp l)) (hs : L.Pairwise akLt) {C : Ctx} {v : Value}
    (hr : Rep C (.pure 3 (evL pl emp fr to l L)) v) : Rep C (.pure 3 (els (dayRs pl emp fr to l (mrkL l)))) v := by
  unfold evL at hr
  rw [evL_days hL hs (abPuts_nd L [] _ List.nodup_nil)] at hr
  have e : ∀ ds : List Int, els (dayRs pl emp fr to l ds) = (ds.filter fun d => (dayR pl emp fr to l d).isSome).map fun d => [.int .i64 d, .pure 2 (els (posT (misS pl emp d l))), .pure 2 []] := by
    intro ds
    induction ds with
    | nil => rfl
    | cons d ds ih =>
      unfold dayRs at *
      rw [List.filterMap_cons, List.filter_cons]
      cases h : dayR pl emp fr to l d with
      | none => simpa [h] using ih
      | some x =>
        have hx : x = ⟨d, posT (misS pl emp d l), []⟩ := by
          unfold dayR at h
          split at h
          · cases h; rfl
          · cases h
        simp only [Option.isSome_some, if_true, List.map_cons, els] at ih ⊢
        rw [ih, hx]; rfl
  rw [e]
  refine rep_pure_le (fun d hd => ?_) hr
  have hd2 := (List.mem_filter.1 hd).2
  unfold dayR at hd2
  have hc : fr ≤ d ∧ d ≤ to ∧ 0 < (posT (misS pl emp d l)).length := by
    split at hd2
    · assumption
    · cases hd2
  obtain ⟨v1, v2, _⟩ := abPuts_V (S := abSum pl emp l) (fr := fr) (to := to) (d := d) L [] (fun _ _ => [])
  have w1 : shP (abPuts (abSum pl emp l) fr to [] (fun _ _ => []) L).2 d false = .pure 2 (els (posT (misS pl emp d l))) := by
    have v3 : (abPuts (abSum pl emp l) fr to [] (fun _ _ => []) L).2 d false = els (posT (misS pl emp d l)) := by
      rw [v1, if_pos ⟨hc.1, hc.2.1⟩, mis_tis hL hs]; rfl
    unfold shP
    rw [v3, if_neg (by rw [els_length]; omega)]
  have w2 : shP (abPuts (abSum pl emp l) fr to [] (fun _ _ => []) L).2 d true = .nils := by
    unfold shP
    rw [v2]; rfl
  unfold rowQ
  rw [w1, w2]
  simp [leL, le]

end Go.Proofs.YtpincjkjoeopkaaGreatDoor
end

section
/- Evaluate without events: the same answer as the reference's. -/
namespace Go.Proofs.YtpincjkjoeopkaaGreatDoor
open Go Go.Abs
set_option linter.unusedSimpArgs false
set_option linter.unusedVariables false

theorem AFn.answerR {P : Program} {f : FuncId} {args : List AVal} {rows : List Row} {Q Q' : AVal → List Row → Prop} (h : AFn P f args rows Q) (hw : ∀ v rs, Q v rs → ∃ w, Q' w rs ∧ ∀ C x, Rep C v x → Rep C w x) : AFn P f args rows Q' := by
  intro C cargs h1 h2 hG h3
  refine (h C cargs h1 h2 hG h3).mono ?_
  rintro e w' ⟨cv, x, C', a, b, c, d, e', q⟩
  obtain ⟨w, hq, hr⟩ := hw _ _ q
  exact ⟨cv, w, C', a, b, hr _ _ c, d, e', hq⟩

theorem pEval_ok2 (z0 z1 v2 v3 v4 v5 v6 v7 v8 v9 v10 v11 v12 v13 : AVal) (hcl : cleanL [z0, z1, v2, v3, v4, v5, v6, v7, v8, v9, v10, v11, v12, v13] = true) (hon : ([z0, z1, v2, v3, v4, v5, v6, v7, v8, v9, v10, v11, v12, v13] : List AVal).all Abs.one = true)
    (pl : List Sf) (hpl : pl.length ≤ 1000000) (emp : Int)
    (hW : AFn Tryz.prog 20 [.agg [z0, z1, v2, v3, v4, v5, v6, v7, v8, v9, v10, v11, v12, v13], .pure 3 (els pl), .nils, .int .i64 emp] [] (fun v rs => v = .tup [.nils, .nils, .int .i64 0] ∧ rs = []))
    (hD : AFn Tryz.prog 41 [.agg [v9, v10, v11], .nils] [] (fun v rs => v = .tup [.nils, .int .i64 0] ∧ rs = []))
    (hM : AFn Tryz.prog 42 [.agg [z0, z1], v13, v12, .nils] [] (fun v rs => v = .tup [.nils, .int .i64 0] ∧ rs = []))
    (l : List Ab) (hl : l.length ≤ 100000) (hV : ∀ a ∈ l, AFn Tryz.prog 40 [.agg (Cel.c a)] [] (fun v rs => v = .bool true ∧ rs = [])) (hok : ∀ a ∈ l, abOk a) (hwf : ∀ a ∈ l, (Lit.int .i64 a.day).wf = true ∧ a.name.size ≤ maxLen) (fr to : Int) :
    AFn Tryz.prog 11 [.agg [z0, z1, v2, v3, v4, v5, v6, v7, v8, v9, v10, v11, v12, v13], .pure 3 (els pl), .nils, .pure 4 (els l), .int .i64 emp, .int .i64 fr, .int .i64 to] []
      (fun v rs => (evE l fr to ≠ 0 ∧ v = .tup [.nils, .int .i64 (evE l fr to)] ∨ evE l fr to = 0 ∧ v = .tup [.pure 3 (els (dayRs pl emp fr to l (mrkL l))), .int .i64 0]) ∧ rs = []) := by
  refine AFn.answerR (pEval_ok z0 z1 v2 v3 v4 v5 v6 v7 v8 v9 v10 v11 v12 v13 hcl hon pl hpl emp hW hD hM l hl hV hok hwf fr to) ?_
  rintro v rs ⟨h | ⟨h0, L, hL, hs, rfl⟩, rfl⟩
  · exact ⟨v, ⟨.inl h, rfl⟩, fun _ _ h => h⟩
  · refine ⟨_, ⟨.inr ⟨h0, rfl⟩, rfl⟩, fun C x hx => ?_⟩
    rw [Rep] at hx ⊢
    obtain ⟨vs, rfl, hx⟩ := hx
    refine ⟨vs, rfl, ?_⟩
    rw [RepL] at hx ⊢
    obtain ⟨a, rest, e, h1, h2⟩ := hx
    exact ⟨a, rest, e, ev_rep hL hs h1, h2⟩

end Go.Proofs.YtpincjkjoeopkaaGreatDoor
end
