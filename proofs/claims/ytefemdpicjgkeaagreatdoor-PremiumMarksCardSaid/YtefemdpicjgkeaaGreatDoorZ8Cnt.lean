/- The minutes of each window and day. -/
import Derived.Test.YtefemdpicjgkeaaGreatDoorZ8Shw
import Derived.Test.YtefemdpicjgkeaaGreatDoorZ8Cho
set_option linter.unusedSimpArgs false
set_option linter.unusedVariables false
set_option linter.unusedSectionVars false
namespace Go.Proofs.YtefemdpicjgkeaaGreatDoor
open Go Go.Abs
set_option linter.unusedSimpArgs false
set_option linter.unusedVariables false

/-- the windows that cover an instant; those that count -/
def covN (z : Zn) (h : List Hol) (ws : List Win) (t : Int) (n : Nat) : Nat := numOf (fun i => covT z h (gw ws i) t) n
def wonT (z : Zn) (h : List Hol) (ws : List Win) (t : Int) (i : Nat) : Bool := (wonN ws (covN z h ws t ws.length)).testBit i
/-- for how many of k instants a window counts -/
def cntP (z : Zn) (h : List Hol) (ws : List Win) (fr : Int) (j : Nat) : Nat → Int
  | 0 => 0
  | k + 1 => cntP z h ws fr j k + if wonT z h ws (fr + k) j then 1 else 0
theorem cntP_bd (z : Zn) (h : List Hol) (ws : List Win) (fr : Int) (j : Nat) : ∀ k : Nat, 0 ≤ cntP z h ws fr j k ∧ cntP z h ws fr j k ≤ k
  | 0 => by simp [cntP]
  | k + 1 => by
    have := cntP_bd z h ws fr j k
    rw [cntP]
    split <;> omega
def pcN (p : Pc) : Nat := (p.to - p.fr).toNat
def totP (z : Zn) (h : List Hol) (ws : List Win) (ps : List Pc) (d : Int) (j : Nat) : Int := (ps.map fun p => if p.day = d then cntP z h ws p.fr j (pcN p) else 0).sum
theorem totP_take {z : Zn} {h : List Hol} {ws : List Win} {ps : List Pc} {i : Nat} (hi : i < ps.length) (d : Int) (j : Nat) :
    totP z h ws (ps.take (i + 1)) d j = totP z h ws (ps.take i) d j + if ps[i].day = d then cntP z h ws ps[i].fr j (pcN ps[i]) else 0 := by
  unfold totP
  rw [List.take_succ_eq_append_getElem hi, List.map_append, List.sum_append]; simp
theorem totP_bd {z : Zn} {h : List Hol} {ws : List Win} {d : Int} {j : Nat} : ∀ {ps : List Pc}, (∀ p ∈ ps, pcOk p) → 0 ≤ totP z h ws ps d j ∧ totP z h ws ps d j ≤ pcSum ps
  | [], _ => by simp [totP, pcSum]
  | p :: ps, hp => by
    have ih := totP_bd (z := z) (h := h) (ws := ws) (d := d) (j := j) (ps := ps) fun q hq => hp q (List.mem_cons_of_mem _ hq)
    have h1 := hp p List.mem_cons_self
    have h2 := cntP_bd z h ws p.fr j (pcN p)
    unfold pcOk at h1
    have h3 : (pcN p : Int) = p.to - p.fr := by unfold pcN; omega
    unfold totP pcSum at *
    rw [List.map_cons, List.sum_cons, List.map_cons, List.sum_cons]
    split <;> omega
/-- the days, as they come -/
def daysK (ps : List Pc) : List Int := ps.foldl (fun ks p => addK p.day ks) []
theorem daysK_take {ps : List Pc} {i : Nat} (hi : i < ps.length) : daysK (ps.take (i + 1)) = addK ps[i].day (daysK (ps.take i)) := by
  unfold daysK
  rw [List.take_succ_eq_append_getElem hi, List.foldl_append]; rfl
theorem addK_mem {k x : Int} {ks : List Int} : x ∈ addK k ks ↔ x = k ∨ x ∈ ks := by
  unfold addK
  split
  · constructor
    · exact .inr
    · rintro (rfl | h)
      · assumption
      · exact h
  · rw [List.mem_append, List.mem_singleton]; exact Or.comm
theorem addK_nodup {k : Int} {ks : List Int} (h : ks.Nodup) : (addK k ks).Nodup := by
  unfold addK
  split
  · exact h
  · rename_i hk
    rw [List.nodup_append]
    exact ⟨h, by simp, fun a ha b hb => by rw [List.mem_singleton] at hb; subst hb; exact fun e => hk (e ▸ ha)⟩
theorem daysK_go : ∀ (ps : List Pc) (ks : List Int), ks.Nodup → (ps.foldl (fun ks p => addK p.day ks) ks).Nodup ∧ ∀ x, x ∈ ps.foldl (fun ks p => addK p.day ks) ks ↔ x ∈ ks ∨ ∃ p ∈ ps, p.day = x
  | [], ks, h => ⟨h, by simp⟩
  | p :: ps, ks, h => by
    obtain ⟨h1, h2⟩ := daysK_go ps (addK p.day ks) (addK_nodup h)
    refine ⟨h1, fun x => ?_⟩
    rw [List.foldl_cons, h2, addK_mem]
    constructor
    · rintro ((rfl | h) | ⟨q, hq, rfl⟩)
      · exact .inr ⟨p, List.mem_cons_self, rfl⟩
      · exact .inl h
      · exact .inr ⟨q, List.mem_cons_of_mem _ hq, rfl⟩
    · rintro (h | ⟨q, hq, rfl⟩)
      · exact .inl (.inr h)
      · rcases List.mem_cons.1 hq with rfl | hq
        · exact .inl (.inl rfl)
        · exact .inr ⟨q, hq, rfl⟩
theorem daysK_nodup (ps : List Pc) : (daysK ps).Nodup := (daysK_go ps [] List.nodup_nil).1
theorem daysK_mem {ps : List Pc} {x : Int} : x ∈ daysK ps ↔ ∃ p ∈ ps, p.day = x := by
  unfold daysK
  rw [(daysK_go ps [] List.nodup_nil).2]; simp
theorem totP_none {z : Zn} {h : List Hol} {ws : List Win} {d : Int} {j : Nat} : ∀ {ps : List Pc}, (∀ p ∈ ps, p.day ≠ d) → totP z h ws ps d j = 0
  | [], _ => rfl
  | p :: ps, hp => by
    have ih := totP_none (z := z) (h := h) (ws := ws) (d := d) (j := j) (ps := ps) fun q hq => hp q (List.mem_cons_of_mem _ hq)
    have h1 := hp p List.mem_cons_self
    unfold totP at *
    rw [List.map_cons, List.sum_cons, ih, if_neg h1]; rfl

/-- an array of minutes -/
def arr (f : Nat → Int) : List AVal := (List.range 16).map fun j => .int .i64 (f j)
theorem arr_length (f : Nat → Int) : (arr f).length = 16 := by simp [arr]
theorem arr_get {f : Nat → Int} {i : Nat} (hi : i < 16) (d : AVal) : (arr f).getD i d = .int .i64 (f i) := by
  rw [List.getD_eq_getElem?_getD]; simp [arr, hi]
theorem arr_set {f : Nat → Int} {i : Nat} (hi : i < 16) (v : Int) : splice (arr f) i [.int .i64 v] = arr (fun j => if j = i then v else f j) := by
  unfold splice
  apply List.ext_getElem?
  intro k
  simp only [arr, List.length_singleton]
  by_cases hk : k < 16
  · rcases Nat.lt_trichotomy k i with h | h | h
    · rw [List.append_assoc, List.getElem?_append_left (by simp; omega), List.getElem?_take_of_lt h]
      simp [hk, Nat.ne_of_lt h]
    · subst h
      rw [List.getElem?_append_left (by simp; omega), List.getElem?_append_right (by simp; omega)]
      simp [hk, Nat.min_eq_left (Nat.le_of_lt hi)]
    · rw [List.getElem?_append_right (by simp; omega), List.getElem?_drop]
      have : i + 1 + (k - (List.take i (List.map (fun j => AVal.int IntKind.i64 (f j)) (List.range 16)) ++ [AVal.int IntKind.i64 v]).length) = k := by simp; omega
      rw [this]
      simp [hk, Nat.ne_of_gt h]
  · rw [List.getElem?_eq_none (by simp; omega), List.getElem?_eq_none (by simp; omega)]
theorem arr_clean (f : Nat → Int) : cleanL (arr f) = true := by simp [arr, List.range, List.range.loop, cleanL, clean]
theorem arr_ext {f g : Nat → Int} (h : ∀ j, j < 16 → f j = g j) : arr f = arr g := by
  unfold arr
  exact List.map_congr_left fun j hj => by rw [h j (List.mem_range.1 hj)]
theorem arr_zero : [AVal.int .i64 0, .int .i64 0, .int .i64 0, .int .i64 0, .int .i64 0, .int .i64 0, .int .i64 0, .int .i64 0, .int .i64 0, .int .i64 0, .int .i64 0, .int .i64 0, .int .i64 0, .int .i64 0, .int .i64 0, .int .i64 0] = arr fun _ => 0 := rfl

/-- the minutes so far -/
def mn (z : Zn) (h : List Hol) (ws : List Win) (ps : List Pc) (d : Int) (j : Nat) : Int := if j < ws.length then totP z h ws ps d j else 0
def mnV (z : Zn) (h : List Hol) (ws : List Win) (ps : List Pc) (d : Int) : AVal := .agg (arr (mn z h ws ps d))
theorem kput_mapG {f g : Int → AVal} {k : Int} (hfg : ∀ x, x ≠ k → f x = g x) : ∀ {l : List Int}, l.Nodup → kput (.int .i64 k) (g k) (mapF f l) = mapF g (addK k l)
  | [], _ => by simp [mapF, kput, addK]
  | p :: l, hl => by
    rw [List.nodup_cons] at hl
    have ih := kput_mapG hfg hl.2
    unfold mapF addK at *
    rw [List.map_cons, kput]
    have : isKey (.int .i64 k) (.int .i64 p) = (k == p) := by simp [isKey, acells, eqCells]
    simp only [this]
    by_cases hk : k = p
    · subst hk
      simp
      exact fun a ha => hfg a (fun e => hl.1 (e ▸ ha))
    · simp only [beq_iff_eq, hk, if_false, ih, List.mem_cons, false_or]
      split <;> simp [hfg p (fun e => hk e.symm)]

def wnV (ws : List Win) (c : Int) : AVal := .int .i64 (wonN ws c.toNat)
def mnR (z : Zn) (h : List Hol) (ws : List Win) (ps : List Pc) : Row := .obj (.map false [.int .i64] (mapF (mnV z h ws ps) (daysK ps)))
theorem mapW_clean (ws : List Win) (l : List Int) : cleanM (mapF (wnV ws) l) = true := mapF_clean (fun _ => rfl) l
theorem mapM_clean (z : Zn) (h : List Hol) (ws : List Win) (ps : List Pc) (l : List Int) : cleanM (mapF (mnV z h ws ps) l) = true := mapF_clean (fun _ => by simp [mnV, clean, arr_clean]) l
attribute [go_sem] mapW_clean mapM_clean arr_clean

theorem count_ok (z : Zn) (hz : vZ z = 0) (h : List Hol) (hv : validP h = 0) (ws : List Win) (hn : ws.length ≤ 16) (hw : winsP ws = true) (ps : List Pc) (hp : pcE ps = 0) :
    AFn Tryz.prog 21 [z.v, .pure 6 (els h), .pure 7 (els ws), .pure 4 (els ps)] [] (fun v rs => v = .mref 0 ∧ rs = [mnR z h ws ps]) := by
  have hp1 : ps.length ≤ 4096 ∧ (∀ p ∈ ps, pcOk p) ∧ pcSum ps ≤ 100000 := by
    unfold pcE at hp
    split at hp
    · cases hp
    · split at hp
      · split at hp
        · cases hp
        · exact ⟨by omega, by assumption, by omega⟩
      · cases hp
  obtain ⟨hpl, hpo, hps⟩ := hp1
  have hwd : ∀ j, j < ws.length → 0 ≤ (gw ws j).wd ∧ (gw ws j).wd ≤ 127 := fun j hj => by
    rw [gw_get hj]
    exact winP_wd (List.all_eq_true.1 hw _ (List.getElem_mem hj))
  refine afn Tryz.func21 a21_ok (by simp [a21]) ?_
  simp only [go_sem,a21,a21r0,a21r1,a21r2,a21r3,a21r4,a21r5,a21r6,a21r7,a21r8,a21r9,a21r10,a21r11,a21r12,a21r13,a21r14,a21r15,a21r16,a21r17,a21r18,a21r19,a21r20,a21r21,a21r22,a21r23,a21r24,a21r25,a21r26,a21r27,a21r28,a21r29,a21r30,Zn.v]
  refine callC_of [] [] (by decide) rfl rfl (newAlm_ok h) ?_
  rintro _ _ ⟨rfl, rfl⟩
  refine ⟨.inl rfl, ?_⟩
  simp only [go_sem,almR]
  refine avc_loop (fun env rows => ∃ (i : Nat) (ys ds ks : List Int), i ≤ ps.length ∧ env = [(2, .pure 7 (els ws)), (4, .ref 0 1 0 0), (9, .ref 3 1 0 0), (10, .mref 4), (11, .mref 5), (27, .pure 4 (els ps)), (28, .int .i64 ps.length), (29, .int .i64 i)] ∧
      rows = [.live 27 2 [[.int .i64 z.off, .pure 2 (els z.ch)]], .obj (.map false [.int .i64] (mapF (yrV h) ys)), .obj (.map false [.int .i64] (mapF (fun d => .bool (holP h d)) ds)), .live 99 3 [[.pure 6 (els h), .mref 1, .mref 2]], .obj (.map false [.int .i64] (mapF (wnV ws) ks)), mnR z h ws (ps.take i)])
    (fun env _ => match slot env 29 with | .int _ j => (ps.length - j).toNat | _ => 0) ?_ ?_
  · exact Cl.here ⟨0, [], [], [], by omega, rfl, rfl⟩
  · rintro env rows ⟨i, ys, ds, ks, hi, rfl, rfl⟩
    have hwi : IntKind.i64.wrap ((i : Int) + 1) = ((i + 1 : Nat) : Int) := by rw [wrap_i64 (by omega) (by omega)]; omega
    simp only [go_sem,a21,a21r0,a21r1,a21r2,a21r3,a21r4,a21r5,a21r6,a21r7,a21r8,a21r9,a21r10,a21r11,a21r12,a21r13,a21r14,a21r15,a21r16,a21r17,a21r18,a21r19,a21r20,a21r21,a21r22,a21r23,a21r24,a21r25,a21r26,a21r27,a21r28,a21r29,a21r30]
    refine condC_intro ?_ ?_ <;> intro hg2 <;> simp only [decide_eq_true_eq,decide_eq_false_iff_not,beq_iff_eq,beq_eq_false_iff_ne,bne_iff_ne,bne_eq_false_iff_eq,Bool.not_eq_true',Bool.not_eq_false',Int.not_lt,Int.not_le,ne_eq,Bool.and_eq_true,Bool.or_eq_true,Bool.or_eq_false_iff,Bool.and_eq_false_iff] at hg2 <;> simp only [go_sem,a21,a21r0,a21r1,a21r2,a21r3,a21r4,a21r5,a21r6,a21r7,a21r8,a21r9,a21r10,a21r11,a21r12,a21r13,a21r14,a21r15,a21r16,a21r17,a21r18,a21r19,a21r20,a21r21,a21r22,a21r23,a21r24,a21r25,a21r26,a21r27,a21r28,a21r29,a21r30]
    · have hlt : i < ps.length := by omega
      refine ⟨by omega, by omega, ?_⟩
      try simp only [Int.toNat_natCast]
      rw [els_getD hlt]
      have hpi := hpo _ (List.getElem_mem hlt)
      have htk := fun d j => totP_take (z := z) (h := h) (ws := ws) hlt d j
      have hdk := daysK_take hlt
      generalize hpe : ps[i] = p at hpi htk hdk ⊢
      simp only [go_sem,a21,a21r0,a21r1,a21r2,a21r3,a21r4,a21r5,a21r6,a21r7,a21r8,a21r9,a21r10,a21r11,a21r12,a21r13,a21r14,a21r15,a21r16,a21r17,a21r18,a21r19,a21r20,a21r21,a21r22,a21r23,a21r24,a21r25,a21r26,a21r27,a21r28,a21r29,a21r30,cel_pc,mnR]
      have hz0 : ((if p.day ∈ daysK (ps.take i) then some (mnV z h ws (ps.take i) p.day) else none).getD (.agg (arr fun _ => 0))) = mnV z h ws (ps.take i) p.day := by
        by_cases hm : p.day ∈ daysK (ps.take i)
        · rw [if_pos hm]; rfl
        · rw [if_neg hm, Option.getD_none]
          unfold mnV
          congr 1
          refine arr_ext fun j _ => ?_
          unfold mn
          split
          · refine (totP_none fun q hq e => hm ?_).symm
            exact daysK_mem.2 ⟨q, hq, e⟩
          · rfl
      try rw [arr_zero]
      try rw [hz0]
      rw [show acells (mnV z h ws (ps.take i) p.day) = arr (mn z h ws (ps.take i) p.day) from rfl]
      refine ⟨arr_length _, by simp [arr, List.range, List.range.loop, Abs.one], ?_⟩
      have hpo' := hpi
      unfold pcOk at hpo'
      have hpn : (pcN p : Int) = p.to - p.fr := by unfold pcN; omega
      have hbase : ∀ j, 0 ≤ mn z h ws (ps.take i) p.day j ∧ mn z h ws (ps.take i) p.day j ≤ 100000 := fun j => by
        unfold mn
        split
        · have h1 := totP_bd (z := z) (h := h) (ws := ws) (d := p.day) (j := j) (ps := (ps.take i)) (fun q hq => hpo q (List.mem_of_mem_take hq))
          have h2 := (pcSum_bd (l := ps.drop i) (i := (ps.drop i).length) (Nat.le_refl _) (fun j hj _ => hpo _ (List.mem_of_mem_drop (List.getElem_mem hj)))).1
          have h3 : pcSum ps = pcSum (ps.take i) + pcSum (ps.drop i) := by
            unfold pcSum
            rw [← List.sum_append, ← List.map_append, List.take_append_drop]
          rw [List.take_length] at h2
          omega
        · omega
      refine avc_loop (fun env rows => ∃ (k : Nat) (ys ds ks : List Int), k ≤ pcN p ∧ env = [(2, .pure 7 (els ws)), (4, .ref 0 1 0 0), (9, .ref 3 1 0 0), (10, .mref 4), (11, .mref 5), (13, .ref 6 1 0 0), (14, .ref 7 1 0 0), (15, .int .i64 (p.fr + k)), (27, .pure 4 (els ps)), (28, .int .i64 ps.length), (29, .int .i64 i)] ∧
          rows = [.live 27 2 [[.int .i64 z.off, .pure 2 (els z.ch)]], .obj (.map false [.int .i64] (mapF (yrV h) ys)), .obj (.map false [.int .i64] (mapF (fun d => .bool (holP h d)) ds)), .live 99 3 [[.pure 6 (els h), .mref 1, .mref 2]], .obj (.map false [.int .i64] (mapF (wnV ws) ks)), .obj (.map false [.int .i64] (mapF (mnV z h ws (ps.take i)) (daysK (ps.take i)))), .live 59 4 [[.int .i64 p.day, .int .i64 p.fr, .int .i64 p.to, .str p.band]], .live 68 16 [arr (fun j => mn z h ws (ps.take i) p.day j + if j < ws.length then cntP z h ws p.fr j k else 0)]])
        (fun env _ => match slot env 15 with | .int _ t => (p.to - t).toNat | _ => 0) ?_ ?_
      · refine Cl.here ⟨0, ys, ds, ks, by omega, by simp, ?_⟩
        simp [cntP, arr_length]
      · rintro env rows ⟨k, ys, ds, ks, hk, rfl, rfl⟩
        simp only [go_sem,a21,a21r0,a21r1,a21r2,a21r3,a21r4,a21r5,a21r6,a21r7,a21r8,a21r9,a21r10,a21r11,a21r12,a21r13,a21r14,a21r15,a21r16,a21r17,a21r18,a21r19,a21r20,a21r21,a21r22,a21r23,a21r24,a21r25,a21r26,a21r27,a21r28,a21r29,a21r30]
        refine condC_intro ?_ ?_ <;> intro hg3 <;> simp only [decide_eq_true_eq,decide_eq_false_iff_not,beq_iff_eq,beq_eq_false_iff_ne,bne_iff_ne,bne_eq_false_iff_eq,Bool.not_eq_true',Bool.not_eq_false',Int.not_lt,Int.not_le,ne_eq,Bool.and_eq_true,Bool.or_eq_true,Bool.or_eq_false_iff,Bool.and_eq_false_iff] at hg3 <;> simp only [go_sem,a21,a21r0,a21r1,a21r2,a21r3,a21r4,a21r5,a21r6,a21r7,a21r8,a21r9,a21r10,a21r11,a21r12,a21r13,a21r14,a21r15,a21r16,a21r17,a21r18,a21r19,a21r20,a21r21,a21r22,a21r23,a21r24,a21r25,a21r26,a21r27,a21r28,a21r29,a21r30]
        · have hkl : k < pcN p := by omega
          generalize htt : p.fr + (k : Int) = t at hg3 ⊢
          have hw15 : IntKind.i64.wrap (t + 1) = p.fr + ((k + 1 : Nat) : Int) := by rw [wrap_i64 (by omega) (by omega)]; omega
          (refine callC_of [1,2,3] [] (by decide) (by simp only [go_sem] <;> rfl) (by simp only [go_sem] <;> rfl) (show_ok z hz h hv ys ds t (by omega) (by omega)) ?_; rintro _ _ ⟨rfl,ys',ds',rfl⟩; refine ⟨.inl rfl,?_⟩; simp only [go_sem])
          simp only [go_sem,almR,momV]
          refine avc_loop (fun env rows => ∃ (j : Nat), j ≤ ws.length ∧ env = [(2, .pure 7 (els ws)), (4, .ref 0 1 0 0), (9, .ref 3 1 0 0), (10, .mref 4), (11, .mref 5), (13, .ref 6 1 0 0), (14, .ref 7 1 0 0), (15, .int .i64 t), (16, .ref 8 1 0 0), (17, .int .i64 (covN z h ws t j)), (27, .pure 4 (els ps)), (28, .int .i64 ps.length), (29, .int .i64 i), (51, .pure 7 (els ws)), (52, .int .i64 ws.length), (53, .int .i64 j)] ∧
              rows = [.live 27 2 [[.int .i64 z.off, .pure 2 (els z.ch)]], .obj (.map false [.int .i64] (mapF (yrV h) ys')), .obj (.map false [.int .i64] (mapF (fun d => .bool (holP h d)) ds')), .live 99 3 [[.pure 6 (els h), .mref 1, .mref 2]], .obj (.map false [.int .i64] (mapF (wnV ws) ks)), .obj (.map false [.int .i64] (mapF (mnV z h ws (ps.take i)) (daysK (ps.take i)))), .live 59 4 [[.int .i64 p.day, .int .i64 p.fr, .int .i64 p.to, .str p.band]], .live 68 16 [arr (fun j => mn z h ws (ps.take i) p.day j + if j < ws.length then cntP z h ws p.fr j k else 0)], .live 84 3 [[.int .i64 (loc z t % 1440), .int .i64 ((loc z t / 1440 + 3) % 7), .bool (holP h (loc z t / 1440))]]])
            (fun env _ => match slot env 53 with | .int _ j => (ws.length - j).toNat | _ => 0) ?_ ?_
          · exact Cl.here ⟨0, by omega, rfl, rfl⟩
          · rintro env rows ⟨j, hj, rfl, rfl⟩
            have hwj : IntKind.i64.wrap ((j : Int) + 1) = ((j + 1 : Nat) : Int) := by rw [wrap_i64 (by omega) (by omega)]; omega
            simp only [go_sem,a21,a21r0,a21r1,a21r2,a21r3,a21r4,a21r5,a21r6,a21r7,a21r8,a21r9,a21r10,a21r11,a21r12,a21r13,a21r14,a21r15,a21r16,a21r17,a21r18,a21r19,a21r20,a21r21,a21r22,a21r23,a21r24,a21r25,a21r26,a21r27,a21r28,a21r29,a21r30]
            refine condC_intro ?_ ?_ <;> intro hg4 <;> simp only [decide_eq_true_eq,decide_eq_false_iff_not,beq_iff_eq,beq_eq_false_iff_ne,bne_iff_ne,bne_eq_false_iff_eq,Bool.not_eq_true',Bool.not_eq_false',Int.not_lt,Int.not_le,ne_eq,Bool.and_eq_true,Bool.or_eq_true,Bool.or_eq_false_iff,Bool.and_eq_false_iff] at hg4 <;> simp only [go_sem,a21,a21r0,a21r1,a21r2,a21r3,a21r4,a21r5,a21r6,a21r7,a21r8,a21r9,a21r10,a21r11,a21r12,a21r13,a21r14,a21r15,a21r16,a21r17,a21r18,a21r19,a21r20,a21r21,a21r22,a21r23,a21r24,a21r25,a21r26,a21r27,a21r28,a21r29,a21r30]
            · have hjl : j < ws.length := by omega
              refine ⟨by omega, by omega, ?_⟩
              try simp only [Int.toNat_natCast]
              rw [els_getD hjl, ← gw_get hjl]
              have hwj2 := hwd j hjl
              have hcs : covN z h ws t (j + 1) = if covT z h (gw ws j) t then covN z h ws t j ||| 2 ^ j else covN z h ws t j := rfl
              have hcl : covN z h ws t j < 65536 := numOf_small _ (by omega)
              have hsh := orI (N := covN z h ws t j) (i := j) hcl (by omega)
              have hj0 : (0 : Int) ≤ j := by omega
              generalize gw ws j = w at hwj2 hcs ⊢
              simp only [go_sem,a21,a21r0,a21r1,a21r2,a21r3,a21r4,a21r5,a21r6,a21r7,a21r8,a21r9,a21r10,a21r11,a21r12,a21r13,a21r14,a21r15,a21r16,a21r17,a21r18,a21r19,a21r20,a21r21,a21r22,a21r23,a21r24,a21r25,a21r26,a21r27,a21r28,a21r29,a21r30,cel_win]
              refine callC_det (covers_ok w hwj2.1 hwj2.2 (loc z t % 1440) ((loc z t / 1440 + 3) % 7) (holP h (loc z t / 1440)) (by omega) (by omega)) rfl rfl ?_
              rw [show covP w (loc z t % 1440) ((loc z t / 1440 + 3) % 7) (holP h (loc z t / 1440)) = covT z h w t from rfl]
              cases hcv : covT z h w t
              · rw [hcv] at hcs
                simp only [Bool.false_eq_true, if_false] at hcs
                simp only [go_sem,a21,a21r0,a21r1,a21r2,a21r3,a21r4,a21r5,a21r6,a21r7,a21r8,a21r9,a21r10,a21r11,a21r12,a21r13,a21r14,a21r15,a21r16,a21r17,a21r18,a21r19,a21r20,a21r21,a21r22,a21r23,a21r24,a21r25,a21r26,a21r27,a21r28,a21r29,a21r30,hwj]
                (refine Cl.tr [some 0,some 1,some 2,some 3,some 4,some 5,some 6,some 7,some 8] [] rfl rfl (by simp only [go_sem] <;> rfl) ?_; simp only [go_sem])
                refine Cl.here ⟨⟨j + 1, by omega, by rw [hcs], rfl⟩, ?_⟩
                simp only [go_sem]
                omega
              · rw [hcv] at hcs
                simp only [if_true] at hcs
                simp only [go_sem,a21,a21r0,a21r1,a21r2,a21r3,a21r4,a21r5,a21r6,a21r7,a21r8,a21r9,a21r10,a21r11,a21r12,a21r13,a21r14,a21r15,a21r16,a21r17,a21r18,a21r19,a21r20,a21r21,a21r22,a21r23,a21r24,a21r25,a21r26,a21r27,a21r28,a21r29,a21r30,hj0,hsh,Int.toNat_natCast,hwj]
                (refine Cl.tr [some 0,some 1,some 2,some 3,some 4,some 5,some 6,some 7,some 8] [] rfl rfl (by simp only [go_sem] <;> rfl) ?_; simp only [go_sem])
                refine Cl.here ⟨⟨j + 1, by omega, by rw [hcs], rfl⟩, ?_⟩
                simp only [go_sem]
                omega
            · obtain rfl : j = ws.length := by omega
              have hcl : covN z h ws t ws.length < 65536 := numOf_small _ (by omega)
              have hwt : ∀ x, wonT z h ws t x = (wonN ws (covN z h ws t ws.length)).testBit x := fun _ => rfl
              generalize covN z h ws t ws.length = N at hcl hwt ⊢
              have hput : kput (.int .i64 N) (.int .i64 (wonN ws N)) (mapF (wnV ws) ks) = mapF (wnV ws) (addK N ks) := by
                have := kput_mapF (f := wnV ws) (k := (N : Int)) (l := ks)
                rwa [show wnV ws (N : Int) = .int .i64 (wonN ws N) by simp [wnV]] at this
              have hwn : wnV ws (N : Int) = .int .i64 (wonN ws N) := by simp [wnV]
              refine condC_cut (fun env rows => ∃ ks' : List Int, slot env 2 = .pure 7 (els ws) ∧ slot env 4 = .ref 0 1 0 0 ∧ slot env 9 = .ref 3 1 0 0 ∧ slot env 10 = .mref 4 ∧ slot env 11 = .mref 5 ∧ slot env 13 = .ref 6 1 0 0 ∧ slot env 14 = .ref 7 1 0 0 ∧ slot env 15 = .int .i64 t ∧ slot env 20 = .int .i64 (wonN ws N) ∧ slot env 27 = .pure 4 (els ps) ∧ slot env 28 = .int .i64 ps.length ∧ slot env 29 = .int .i64 i ∧
                  rows = [.live 27 2 [[.int .i64 z.off, .pure 2 (els z.ch)]], .obj (.map false [.int .i64] (mapF (yrV h) ys')), .obj (.map false [.int .i64] (mapF (fun d => .bool (holP h d)) ds')), .live 99 3 [[.pure 6 (els h), .mref 1, .mref 2]], .obj (.map false [.int .i64] (mapF (wnV ws) ks')), .obj (.map false [.int .i64] (mapF (mnV z h ws (ps.take i)) (daysK (ps.take i)))), .live 59 4 [[.int .i64 p.day, .int .i64 p.fr, .int .i64 p.to, .str p.band]], .live 68 16 [arr (fun j => mn z h ws (ps.take i) p.day j + if j < ws.length then cntP z h ws p.fr j k else 0)], .live 84 3 [[.int .i64 (loc z t % 1440), .int .i64 ((loc z t / 1440 + 3) % 7), .bool (holP h (loc z t / 1440))]]]) ?_ ?_ ?_
              · intro hc
                simp only [go_sem,a21,a21r0,a21r1,a21r2,a21r3,a21r4,a21r5,a21r6,a21r7,a21r8,a21r9,a21r10,a21r11,a21r12,a21r13,a21r14,a21r15,a21r16,a21r17,a21r18,a21r19,a21r20,a21r21,a21r22,a21r23,a21r24,a21r25,a21r26,a21r27,a21r28,a21r29,a21r30]
                refine callC_det (choose_ok ws hn N hcl) rfl rfl ?_
                simp only [go_sem,hput]
                exact ⟨addK N ks, rfl⟩
              · intro hc
                have hm : (N : Int) ∈ ks := by
                  by_cases hm : (N : Int) ∈ ks
                  · exact hm
                  · rw [if_neg hm] at hc; simp at hc
                simp only [go_sem,a21,a21r0,a21r1,a21r2,a21r3,a21r4,a21r5,a21r6,a21r7,a21r8,a21r9,a21r10,a21r11,a21r12,a21r13,a21r14,a21r15,a21r16,a21r17,a21r18,a21r19,a21r20,a21r21,a21r22,a21r23,a21r24,a21r25,a21r26,a21r27,a21r28,a21r29,a21r30,hm,hwn]
                exact ⟨ks, rfl⟩
              · rintro env _ ⟨ks', s2, s4, s9, s10, s11, s13, s14, s15, s20, s27, s28, s29, rfl⟩
                simp only [go_sem,a21,a21r0,a21r1,a21r2,a21r3,a21r4,a21r5,a21r6,a21r7,a21r8,a21r9,a21r10,a21r11,a21r12,a21r13,a21r14,a21r15,a21r16,a21r17,a21r18,a21r19,a21r20,a21r21,a21r22,a21r23,a21r24,a21r25,a21r26,a21r27,a21r28,a21r29,a21r30,s2,s4,s9,s10,s11,s13,s14,s15,s20,s27,s28,s29]
                clear s2 s4 s9 s10 s11 s13 s14 s15 s20 s27 s28 s29 env
                have hB : ∀ x, 0 ≤ (fun j => mn z h ws (ps.take i) p.day j + if j < ws.length then cntP z h ws p.fr j k else 0) x ∧ (fun j => mn z h ws (ps.take i) p.day j + if j < ws.length then cntP z h ws p.fr j k else 0) x ≤ 200000000 := fun x => by
                  have h1 := hbase x
                  have h2 := cntP_bd z h ws p.fr x k
                  simp only
                  split <;> omega
                have hBs : ∀ x, (fun j => mn z h ws (ps.take i) p.day j + if j < ws.length then cntP z h ws p.fr j (k + 1) else 0) x = (fun j => mn z h ws (ps.take i) p.day j + if j < ws.length then cntP z h ws p.fr j k else 0) x + if x < ws.length ∧ wonT z h ws t x = true then 1 else 0 := fun x => by
                  simp only [cntP, htt]
                  by_cases hx : x < ws.length
                  · cases wonT z h ws t x <;> simp [hx] <;> omega
                  · simp [hx]
                generalize (fun j => mn z h ws (ps.take i) p.day j + if j < ws.length then cntP z h ws p.fr j k else 0) = B at hB hBs ⊢
                have hW : wonN ws N < 65536 := numOf_small _ hn
                refine avc_loop (fun env rows => ∃ (j : Nat), j ≤ ws.length ∧ env = [(2, .pure 7 (els ws)), (4, .ref 0 1 0 0), (9, .ref 3 1 0 0), (10, .mref 4), (11, .mref 5), (13, .ref 6 1 0 0), (14, .ref 7 1 0 0), (15, .int .i64 t), (20, .int .i64 (wonN ws N)), (27, .pure 4 (els ps)), (28, .int .i64 ps.length), (29, .int .i64 i), (81, .int .i64 ws.length), (82, .int .i64 j)] ∧
                    rows = [.live 27 2 [[.int .i64 z.off, .pure 2 (els z.ch)]], .obj (.map false [.int .i64] (mapF (yrV h) ys')), .obj (.map false [.int .i64] (mapF (fun d => .bool (holP h d)) ds')), .live 99 3 [[.pure 6 (els h), .mref 1, .mref 2]], .obj (.map false [.int .i64] (mapF (wnV ws) ks')), .obj (.map false [.int .i64] (mapF (mnV z h ws (ps.take i)) (daysK (ps.take i)))), .live 59 4 [[.int .i64 p.day, .int .i64 p.fr, .int .i64 p.to, .str p.band]], .live 68 16 [arr (fun x => B x + if x < j ∧ wonT z h ws t x = true then 1 else 0)]])
                  (fun env _ => match slot env 82 with | .int _ j => (ws.length - j).toNat | _ => 0) ?_ ?_
                · (refine Cl.tr [some 0,some 1,some 2,some 3,some 4,some 5,some 6,some 7] [] rfl rfl (by simp only [go_sem] <;> rfl) ?_; simp only [go_sem])
                  exact Cl.here ⟨0, by omega, rfl, by simp⟩
                · rintro env rows ⟨j, hj, rfl, rfl⟩
                  have hwj : IntKind.i64.wrap ((j : Int) + 1) = ((j + 1 : Nat) : Int) := by rw [wrap_i64 (by omega) (by omega)]; omega
                  simp only [go_sem,a21,a21r0,a21r1,a21r2,a21r3,a21r4,a21r5,a21r6,a21r7,a21r8,a21r9,a21r10,a21r11,a21r12,a21r13,a21r14,a21r15,a21r16,a21r17,a21r18,a21r19,a21r20,a21r21,a21r22,a21r23,a21r24,a21r25,a21r26,a21r27,a21r28,a21r29,a21r30]
                  refine condC_intro ?_ ?_ <;> intro hg5 <;> simp only [decide_eq_true_eq,decide_eq_false_iff_not,beq_iff_eq,beq_eq_false_iff_ne,bne_iff_ne,bne_eq_false_iff_eq,Bool.not_eq_true',Bool.not_eq_false',Int.not_lt,Int.not_le,ne_eq,Bool.and_eq_true,Bool.or_eq_true,Bool.or_eq_false_iff,Bool.and_eq_false_iff] at hg5 <;> simp only [go_sem,a21,a21r0,a21r1,a21r2,a21r3,a21r4,a21r5,a21r6,a21r7,a21r8,a21r9,a21r10,a21r11,a21r12,a21r13,a21r14,a21r15,a21r16,a21r17,a21r18,a21r19,a21r20,a21r21,a21r22,a21r23,a21r24,a21r25,a21r26,a21r27,a21r28,a21r29,a21r30]
                  · have hjl : j < ws.length := by omega
                    have hj0 : (0 : Int) ≤ j := by omega
                    have hj16 : (j : Int) < 16 := by omega
                    have hbi := bitI (N := wonN ws N) (i := j) hW (by omega)
                    rw [← hwt] at hbi
                    have hBj := hB j
                    have hget : (arr fun x => B x + if x < j ∧ wonT z h ws t x = true then 1 else 0).getD (j * 1) AVal.junk = .int .i64 (B j) := by
                      rw [Nat.mul_one, arr_get (by omega)]; simp
                    have hsum : IntKind.i64.wrap (B j + if wonT z h ws t j = true then 1 else 0) = B j + if wonT z h ws t j = true then 1 else 0 := wrap_i64 (by split <;> omega) (by split <;> omega)
                    have hset : List.take (j * 1) (arr fun x => B x + if x < j ∧ wonT z h ws t x = true then 1 else 0) ++ [AVal.int .i64 (B j + if wonT z h ws t j = true then 1 else 0)] ++ List.drop (j * 1 + 1) (arr fun x => B x + if x < j ∧ wonT z h ws t x = true then 1 else 0) = arr fun x => B x + if x < j + 1 ∧ wonT z h ws t x = true then 1 else 0 := by
                      show splice (arr fun x => B x + if x < j ∧ wonT z h ws t x = true then 1 else 0) (j * 1) [.int .i64 (B j + if wonT z h ws t j = true then 1 else 0)] = _
                      rw [Nat.mul_one, arr_set (by omega)]
                      refine arr_ext fun x hx => ?_
                      by_cases e : x = j
                      · subst e; simp
                      · have : (x < j + 1) ↔ x < j := by omega
                        simp [e, this]
                    refine ⟨hj0, hj16, by omega, hj0, ?_⟩
                    rw [hget, hbi]
                    simp only [go_sem,a21,a21r0,a21r1,a21r2,a21r3,a21r4,a21r5,a21r6,a21r7,a21r8,a21r9,a21r10,a21r11,a21r12,a21r13,a21r14,a21r15,a21r16,a21r17,a21r18,a21r19,a21r20,a21r21,a21r22,a21r23,a21r24,a21r25,a21r26,a21r27,a21r28,a21r29,a21r30,hsum,hj0,hj16,Int.toNat_natCast]
                    refine ⟨by omega, ?_⟩
                    rw [hset]
                    simp only [go_sem,hwj]
                    refine Cl.here ⟨⟨j + 1, by omega, rfl, rfl⟩, ?_⟩
                    simp only [go_sem]
                    omega
                  · obtain rfl : j = ws.length := by omega
                    rw [hw15]
                    have hfin : (arr fun x => B x + if x < ws.length ∧ wonT z h ws t x = true then 1 else 0) = arr (fun j => mn z h ws (ps.take i) p.day j + if j < ws.length then cntP z h ws p.fr j (k + 1) else 0) := arr_ext fun x _ => (hBs x).symm
                    rw [hfin]
                    refine Cl.here ⟨⟨k + 1, ys', ds', ks', by omega, rfl, rfl⟩, ?_⟩
                    simp only [go_sem]
                    omega
        · obtain rfl : k = pcN p := by omega
          have htake : (arr fun j => mn z h ws (ps.take i) p.day j + if j < ws.length then cntP z h ws p.fr j (pcN p) else 0).take 16 = arr fun j => mn z h ws (ps.take i) p.day j + if j < ws.length then cntP z h ws p.fr j (pcN p) else 0 := List.take_of_length_le (by rw [arr_length]; exact Nat.le_refl _)
          have harr : AVal.agg (arr fun j => mn z h ws (ps.take i) p.day j + if j < ws.length then cntP z h ws p.fr j (pcN p) else 0) = mnV z h ws (ps.take (i + 1)) p.day := by
            unfold mnV
            congr 1
            refine arr_ext fun x _ => ?_
            unfold mn
            rw [htk]
            split <;> simp
          have hkp := kput_mapG (f := mnV z h ws (ps.take i)) (g := mnV z h ws (ps.take (i + 1))) (k := p.day) (fun x hx => by
            unfold mnV
            congr 1
            refine arr_ext fun y _ => ?_
            unfold mn
            have h9 := htk x y
            rw [if_neg (show ¬ p.day = x from fun e => hx e.symm)] at h9
            rw [h9]
            simp) (daysK_nodup (ps.take i))
          rw [← hdk] at hkp
          rw [htake, harr, hkp, hwi]
          (refine Cl.tr [some 0,some 1,some 2,some 3,some 4,some 5] [] rfl rfl (by simp only [go_sem] <;> rfl) ?_; simp only [go_sem])
          refine Cl.here ⟨⟨i + 1, ys, ds, ks, by omega, rfl, rfl⟩, ?_⟩
          simp only [go_sem]
          omega
    · obtain rfl : i = ps.length := by omega
      rw [List.take_length]
      unfold mnR
      (refine Cl.tr [some 5] [] rfl rfl (by simp only [go_sem] <;> rfl) ?_; simp only [go_sem])
      exact Cl.here ⟨rfl, rfl⟩

end Go.Proofs.YtefemdpicjgkeaaGreatDoor
