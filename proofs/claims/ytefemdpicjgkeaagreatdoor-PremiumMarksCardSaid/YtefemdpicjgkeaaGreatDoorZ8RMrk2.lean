/- The reference: Mark. -/
import Derived.Test.YtefemdpicjgkeaaGreatDoorZ8RMrk
set_option linter.unusedSimpArgs false
set_option linter.unusedVariables false
set_option linter.unusedSectionVars false
namespace Go.Proofs.YtefemdpicjgkeaaGreatDoor
open Go Go.Abs
set_option linter.unusedSimpArgs false
set_option linter.unusedVariables false

theorem len_if {c : Prop} [Decidable c] {r n : Nat} {rows : List Row} {d : Option Nat} {env : Env} {K : Env → List Row → Prop} : evC .len [(if c then some (.own r n 0 n) else none).getD .nils] rows d env K = K (put env d (.int .i64 ((if c then n else 0 : Nat) : Int))) rows := by
  split
  · exact evC_len_own
  · exact evC_len_nils
theorem set_last (E : List Row) (r r' : Row) : (E ++ [r]).set E.length r' = E ++ [r'] := by
  rw [List.set_append_right _ _ (Nat.le_refl _)]; simp
theorem rows_other {D : List Row} {q k : Nat} {r r' : Row} (hq : D[q]? = some r) (hx : k ≠ q) : (D.set k r')[q]? = some r := by
  rw [List.getElem?_set, if_neg hx]; exact hq
theorem pcE_big {l : List Pc} (h : 4096 < l.length) : pcE l = 3 := by unfold pcE; rw [if_pos h]
theorem pcE_bad {l : List Pc} (h : ¬ 4096 < l.length) (hb : ¬ ∀ p ∈ l, pcOk p) : pcE l = 1 := by unfold pcE; rw [if_neg h, if_neg hb]
theorem pcE_sum {l : List Pc} (h : ¬ 4096 < l.length) (hb : ∀ p ∈ l, pcOk p) : pcE l = if 100000 < pcSum l then 3 else 0 := by unfold pcE; rw [if_neg h, if_pos hb]

set_option maxHeartbeats 8000000 in
theorem rMark_ok (z : Zn) (h : List Hol) (hl : h.length ≤ 9223372036854775806) (ws : List Win) (hwl : ws.length ≤ 1000000) (ps : List Pc) (hpl : ps.length ≤ 1000000) :
    AFn Tryz.prog 13 [z.v, .pure 6 (els h), .pure 7 (els ws), .pure 4 (els ps)] []
      (fun v rs => if markE z h ws ps = 0 then v = .tup [.own 0 (markL z h ws ps).length 0 (markL z h ws ps).length, .int .i64 0] ∧ rs = [.live 70 3 (els (markL z h ws ps))] else v = .tup [.nils, .int .i64 (markE z h ws ps)] ∧ rs = []) := by
  refine afn Tryz.func13 a13_ok (by simp [a13]) ?_
  unfold markE
  have hV := rPValid_ok z h hl ws hwl
  unfold Zn.v at hV
  simp only [go_sem,a13,a13r0,a13r1,a13r2,a13r3,a13r4,a13r5,a13r6,a13r7,a13r8,a13r9,a13r10,a13r11,a13r12,a13r13,a13r14,a13r15,a13r16,a13r17,a13r18,a13r19,a13r20,a13r21,a13r22,a13r23,a13r24,a13r25,a13r26,a13r27,a13r28,a13r29,a13r30,a13r31,a13r32,a13r33,a13r34,a13r35,a13r36,a13r37,a13r38,a13r39,a13r40,a13r41,a13r42,a13r43,a13r44,a13r45,a13r46,a13r47,Zn.v]
  refine callC_det hV rfl rfl ?_
  by_cases hv : vldE z h ws = 0
  rotate_left
  · have hv' : (vldE z h ws != 0) = true := by simp [hv]
    simp only [go_sem,a13,a13r0,a13r1,a13r2,a13r3,a13r4,a13r5,a13r6,a13r7,a13r8,a13r9,a13r10,a13r11,a13r12,a13r13,a13r14,a13r15,a13r16,a13r17,a13r18,a13r19,a13r20,a13r21,a13r22,a13r23,a13r24,a13r25,a13r26,a13r27,a13r28,a13r29,a13r30,a13r31,a13r32,a13r33,a13r34,a13r35,a13r36,a13r37,a13r38,a13r39,a13r40,a13r41,a13r42,a13r43,a13r44,a13r45,a13r46,a13r47,hv']
    exact Cl.fin rfl (by simp [hv])
  obtain ⟨k1, k2, k3, k4⟩ := vldE_zero hv
  rw [hv]
  simp only [go_sem,a13,a13r0,a13r1,a13r2,a13r3,a13r4,a13r5,a13r6,a13r7,a13r8,a13r9,a13r10,a13r11,a13r12,a13r13,a13r14,a13r15,a13r16,a13r17,a13r18,a13r19,a13r20,a13r21,a13r22,a13r23,a13r24,a13r25,a13r26,a13r27,a13r28,a13r29,a13r30,a13r31,a13r32,a13r33,a13r34,a13r35,a13r36,a13r37,a13r38,a13r39,a13r40,a13r41,a13r42,a13r43,a13r44,a13r45,a13r46,a13r47]
  by_cases hp1 : 4096 < ps.length
  · have hp1' : (4096 : Int) < ps.length := by omega
    simp only [go_sem,hp1']
    exact Cl.fin rfl (by rw [pcE_big hp1]; simp)
  have hp1' : ¬ (4096 : Int) < ps.length := by omega
  simp only [go_sem,hp1']
  refine avc_loop (fun env rows => ∃ (i : Nat), i ≤ ps.length ∧ (∀ j (hj : j < ps.length), j < i → pcOk ps[j]) ∧ env = [(1, .pure 6 (els h)), (2, .pure 7 (els ws)), (3, .pure 4 (els ps)), (4, .ref 0 1 0 0), (11, .int .i64 (pcSum (ps.take i))), (12, .int .i64 i)] ∧ rows = [.live 27 2 [[.int .i64 z.off, .pure 2 (els z.ch)]]])
    (fun env _ => match slot env 12 with | .int _ j => (ps.length - j).toNat | _ => 0) ?_ ?_
  · exact Cl.here ⟨0, by omega, fun j _ hj => by omega, by simp [pcSum], rfl⟩
  · rintro env rows ⟨i, hi, hok, rfl, rfl⟩
    have hwi : IntKind.i64.wrap ((i : Int) + 1) = ((i + 1 : Nat) : Int) := by rw [wrap_i64 (by omega) (by omega)]; omega
    simp only [go_sem,a13,a13r0,a13r1,a13r2,a13r3,a13r4,a13r5,a13r6,a13r7,a13r8,a13r9,a13r10,a13r11,a13r12,a13r13,a13r14,a13r15,a13r16,a13r17,a13r18,a13r19,a13r20,a13r21,a13r22,a13r23,a13r24,a13r25,a13r26,a13r27,a13r28,a13r29,a13r30,a13r31,a13r32,a13r33,a13r34,a13r35,a13r36,a13r37,a13r38,a13r39,a13r40,a13r41,a13r42,a13r43,a13r44,a13r45,a13r46,a13r47]
    refine condC_intro ?_ ?_ <;> intro hg <;> simp only [decide_eq_true_eq,decide_eq_false_iff_not,beq_iff_eq,beq_eq_false_iff_ne,bne_iff_ne,bne_eq_false_iff_eq,Bool.not_eq_true',Bool.not_eq_false',Int.not_lt,Int.not_le,ne_eq,Bool.and_eq_true,Bool.or_eq_true,Bool.or_eq_false_iff,Bool.and_eq_false_iff] at hg <;> simp only [go_sem,a13,a13r0,a13r1,a13r2,a13r3,a13r4,a13r5,a13r6,a13r7,a13r8,a13r9,a13r10,a13r11,a13r12,a13r13,a13r14,a13r15,a13r16,a13r17,a13r18,a13r19,a13r20,a13r21,a13r22,a13r23,a13r24,a13r25,a13r26,a13r27,a13r28,a13r29,a13r30,a13r31,a13r32,a13r33,a13r34,a13r35,a13r36,a13r37,a13r38,a13r39,a13r40,a13r41,a13r42,a13r43,a13r44,a13r45,a13r46,a13r47]
    · have hlt : i < ps.length := by omega
      have i0 : (0 : Int) ≤ i := by omega
      have i1 : (i : Int) < ps.length := by omega
      have hgp : (els ps).getD i [] = [.int .i64 ps[i].day, .int .i64 ps[i].fr, .int .i64 ps[i].to, .str ps[i].band] := by rw [els_getD hlt, cel_pc]
      have hbad : ¬ pcOk ps[i] → pcE ps = 1 := fun hb => pcE_bad hp1 (fun hall => hb (hall _ (List.getElem_mem hlt)))
      have hbd := pcSum_bd (l := ps) (i := i) hi hok
      have htk := pcSum_take hlt
      have hnx : pcOk ps[i] → ∀ j (hj : j < ps.length), j < i + 1 → pcOk ps[j] := fun hpi j hj hji => by
        rcases Nat.lt_or_ge j i with h1 | h1
        · exact hok j hj h1
        · obtain rfl : j = i := by omega
          exact hpi
      generalize ps[i] = p at hgp hbad htk hnx
      refine ⟨i0, i1, ?_⟩
      try simp only [Int.toNat_natCast]
      rw [hgp]
      by_cases d0 : p.day < 0
      · simp only [go_sem,d0]
        exact Cl.fin rfl (by rw [hbad (by unfold pcOk; omega)]; simp)
      by_cases d1 : 84005 < p.day
      · simp only [go_sem,d0,d1,i0,i1,Int.toNat_natCast,hgp]
        exact Cl.fin rfl (by rw [hbad (by unfold pcOk; omega)]; simp)
      simp only [go_sem,d0,d1,i0,i1,Int.toNat_natCast,hgp]
      refine callC_det (isInt_ok _ _) rfl rfl ?_
      by_cases d2 : 0 ≤ p.fr ∧ p.fr < p.to ∧ p.to ≤ 120968640
      rotate_left
      · simp only [go_sem,d2]
        exact Cl.fin rfl (by rw [hbad (by unfold pcOk; omega)]; simp)
      have hpo : pcOk p := by unfold pcOk; omega
      have hw1 : IntKind.i64.wrap (p.to - p.fr) = p.to - p.fr := wrap_i64 (by omega) (by omega)
      have hw2 : IntKind.i64.wrap (pcSum (ps.take i) + (p.to - p.fr)) = pcSum (ps.take (i + 1)) := by rw [wrap_i64 (by omega) (by omega)]; omega
      simp only [go_sem,d2,i0,i1,Int.toNat_natCast,hgp,hw1,hw2,hwi]
      refine Cl.here ⟨⟨i + 1, by omega, hnx hpo, rfl, rfl⟩, ?_⟩
      simp only [go_sem]
      omega
    · obtain rfl : i = ps.length := by omega
      rw [List.take_length]
      have hall : ∀ p ∈ ps, pcOk p := fun p hp => by
        obtain ⟨j, hj, rfl⟩ := List.mem_iff_getElem.1 hp
        exact hok j hj hj
      rw [pcE_sum hp1 hall]
      by_cases hs : 100000 < pcSum ps
      · simp only [go_sem,hs]
        exact Cl.fin rfl (by simp)
      simp only [go_sem,hs]
      by_cases hnz : ws.length = 0
      · have hml : markL z h ws ps = [] := by
          unfold markL
          rw [hnz]
          simp [dayL]
        rw [hml]
        have hn00 : ¬ (0 : Int) < ws.length := by omega
        refine avc_loop (fun env rows => env = [(1, .pure 6 (els h)), (2, .pure 7 (els ws)), (3, .pure 4 (els ps)), (4, .ref 0 1 0 0), (13, .nils), (14, .mref 1), (15, .int .i64 0)] ∧ rows = [.live 27 2 [[.int .i64 z.off, .pure 2 (els z.ch)]], .obj (.map false [.int .i64] [])])
          (fun _ _ => 0) ?_ ?_
        · exact Cl.here ⟨rfl, rfl⟩
        · rintro env rows ⟨rfl, rfl⟩
          simp only [go_sem,a13,a13r0,a13r1,a13r2,a13r3,a13r4,a13r5,a13r6,a13r7,a13r8,a13r9,a13r10,a13r11,a13r12,a13r13,a13r14,a13r15,a13r16,a13r17,a13r18,a13r19,a13r20,a13r21,a13r22,a13r23,a13r24,a13r25,a13r26,a13r27,a13r28,a13r29,a13r30,a13r31,a13r32,a13r33,a13r34,a13r35,a13r36,a13r37,a13r38,a13r39,a13r40,a13r41,a13r42,a13r43,a13r44,a13r45,a13r46,a13r47]
          by_cases hpz : (0 : Int) < ps.length <;> simp only [go_sem,a13,a13r0,a13r1,a13r2,a13r3,a13r4,a13r5,a13r6,a13r7,a13r8,a13r9,a13r10,a13r11,a13r12,a13r13,a13r14,a13r15,a13r16,a13r17,a13r18,a13r19,a13r20,a13r21,a13r22,a13r23,a13r24,a13r25,a13r26,a13r27,a13r28,a13r29,a13r30,a13r31,a13r32,a13r33,a13r34,a13r35,a13r36,a13r37,a13r38,a13r39,a13r40,a13r41,a13r42,a13r43,a13r44,a13r45,a13r46,a13r47,hpz,hn00]
          all_goals (
            refine avc_loop (fun env rows => env = [(2, .pure 7 (els ws)), (13, .nils), (14, .mref 0), (20, .own 1 0 0 0), (21, .int .i64 0)] ∧ rows = [.obj (.map false [.int .i64] []), .live 70 3 []])
              (fun _ _ => 0) ?_ ?_
            · (refine Cl.ghost 20  70  3 rfl (Cl.norm [ 2,13,14,20,21] ?_); simp only [go_sem])
              (refine Cl.tr [some 1,some 2] [] rfl rfl (by simp only [go_sem] <;> rfl) ?_; simp only [go_sem])
              exact Cl.here ⟨rfl, rfl⟩
            · rintro env rows ⟨rfl, rfl⟩
              simp only [go_sem,a13,a13r0,a13r1,a13r2,a13r3,a13r4,a13r5,a13r6,a13r7,a13r8,a13r9,a13r10,a13r11,a13r12,a13r13,a13r14,a13r15,a13r16,a13r17,a13r18,a13r19,a13r20,a13r21,a13r22,a13r23,a13r24,a13r25,a13r26,a13r27,a13r28,a13r29,a13r30,a13r31,a13r32,a13r33,a13r34,a13r35,a13r36,a13r37,a13r38,a13r39,a13r40,a13r41,a13r42,a13r43,a13r44,a13r45,a13r46,a13r47,Int.natCast_zero,Int.lt_irrefl]
              (refine Cl.tr [some 1] [] rfl rfl (by simp only [go_sem] <;> rfl) ?_; simp only [go_sem])
              exact Cl.here ⟨rfl, rfl⟩)
      have hnp : 0 < ws.length := by omega
      have hps2 : pcSum ps ≤ 100000 := by omega
      have htb := fun i d j => totP_bd (z := z) (h := h) (ws := ws) (d := d) (j := j) (ps := ps.take i) (fun q hq => hall q (List.mem_of_mem_take hq))
      have htb2 : ∀ i, pcSum (ps.take i) ≤ 100000 := fun i => by
        have h2 := (pcSum_bd (l := ps.drop i) (i := (ps.drop i).length) (Nat.le_refl _) (fun j hj _ => hall _ (List.mem_of_mem_drop (List.getElem_mem hj)))).1
        have h3 : pcSum ps = pcSum (ps.take i) + pcSum (ps.drop i) := by
          unfold pcSum
          rw [← List.sum_append, ← List.map_append, List.take_append_drop]
        rw [List.take_length] at h2
        omega
      refine avc_loop (fun env rows => ∃ (i : Nat) (L : List Int) (D : List Row) (ix : Int → Nat), i ≤ ps.length ∧ L.Pairwise (· < ·) ∧ (∀ x, x ∈ L ↔ x ∈ daysK (ps.take i)) ∧ L.length ≤ i ∧ DayR (daysK (ps.take i)) ix D ws.length (totP z h ws (ps.take i)) ∧
          env = [(1, .pure 6 (els h)), (2, .pure 7 (els ws)), (3, .pure 4 (els ps)), (4, .ref 0 1 0 0), (13, .own 2 L.length 0 L.length), (14, .mref 1), (15, .int .i64 i)] ∧
          rows = .live 27 2 [[.int .i64 z.off, .pure 2 (els z.ch)]] :: .obj (.map false [.int .i64] (mapF (fun d => .own (ix d + 3) ws.length 0 ws.length) (daysK (ps.take i)))) :: .live 3 1 (numsE .i64 L) :: D)
        (fun env _ => match slot env 15 with | .int _ j => (ps.length - j).toNat | _ => 0) ?_ ?_
      · (refine Cl.ghost 13  3  1 rfl (Cl.norm [ 1,2,3,4,13,14,15] ?_); simp only [go_sem])
        refine Cl.here ⟨0, [], [], fun _ => 0, by omega, List.Pairwise.nil, fun x => by simp [daysK], by simp, ⟨fun d hd => by simp [daysK] at hd, fun d hd => by simp [daysK] at hd⟩, rfl, rfl⟩
      · rintro env rows ⟨i, L, D, ix, hi, hLs, hLm, hLl, hD, rfl, rfl⟩
        have hwi : IntKind.i64.wrap ((i : Int) + 1) = ((i + 1 : Nat) : Int) := by rw [wrap_i64 (by omega) (by omega)]; omega
        simp only [go_sem,a13,a13r0,a13r1,a13r2,a13r3,a13r4,a13r5,a13r6,a13r7,a13r8,a13r9,a13r10,a13r11,a13r12,a13r13,a13r14,a13r15,a13r16,a13r17,a13r18,a13r19,a13r20,a13r21,a13r22,a13r23,a13r24,a13r25,a13r26,a13r27,a13r28,a13r29,a13r30,a13r31,a13r32,a13r33,a13r34,a13r35,a13r36,a13r37,a13r38,a13r39,a13r40,a13r41,a13r42,a13r43,a13r44,a13r45,a13r46,a13r47]
        by_cases hlt : i < ps.length
        · skip
          have i0 : (0 : Int) ≤ i := by omega
          have i1 : (i : Int) < ps.length := by omega
          have n1 : (0 : Int) < ws.length := by omega
          simp only [go_sem,a13,a13r0,a13r1,a13r2,a13r3,a13r4,a13r5,a13r6,a13r7,a13r8,a13r9,a13r10,a13r11,a13r12,a13r13,a13r14,a13r15,a13r16,a13r17,a13r18,a13r19,a13r20,a13r21,a13r22,a13r23,a13r24,a13r25,a13r26,a13r27,a13r28,a13r29,a13r30,a13r31,a13r32,a13r33,a13r34,a13r35,a13r36,a13r37,a13r38,a13r39,a13r40,a13r41,a13r42,a13r43,a13r44,a13r45,a13r46,a13r47,i1,n1]
          have hgp : (els ps).getD i [] = [.int .i64 ps[i].day, .int .i64 ps[i].fr, .int .i64 ps[i].to, .str ps[i].band] := by rw [els_getD hlt, cel_pc]
          have hpo := hall _ (List.getElem_mem hlt)
          have htk := fun d j => totP_take (z := z) (h := h) (ws := ws) hlt d j
          have hdk := daysK_take hlt
          generalize ps[i] = p at hgp hpo htk hdk
          simp only [go_sem,i0,i1,Int.toNat_natCast,hgp,len_if]
          have hnd := daysK_nodup (ps.take i)
          have hks2 : addK p.day (daysK (ps.take i)) = daysK (ps.take (i + 1)) := hdk.symm
          have hno : p.day ∉ daysK (ps.take i) → ∀ j, totP z h ws (ps.take i) p.day j = 0 := fun hm j => totP_none fun q hq e => hm (daysK_mem.2 ⟨q, hq, e⟩)
          generalize hks : daysK (ps.take i) = ks at hLm hD hnd hks2 hno ⊢
          have hn16 : (ws.length : Int) ≤ 16 := by omega
          refine condC_cut (fun env rows => ∃ (L : List Int) (D : List Row) (ix : Int → Nat), L.Pairwise (· < ·) ∧ (∀ x, x ∈ L ↔ x ∈ daysK (ps.take (i + 1))) ∧ L.length ≤ i + 1 ∧ DayR (daysK (ps.take (i + 1))) ix D ws.length (totP z h ws (ps.take i)) ∧
            slot env 1 = .pure 6 (els h) ∧ slot env 2 = .pure 7 (els ws) ∧ slot env 3 = .pure 4 (els ps) ∧ slot env 4 = .ref 0 1 0 0 ∧ slot env 13 = .own 2 L.length 0 L.length ∧ slot env 14 = .mref 1 ∧ slot env 15 = .int .i64 i ∧
            rows = .live 27 2 [[.int .i64 z.off, .pure 2 (els z.ch)]] :: .obj (.map false [.int .i64] (mapF (fun d => .own (ix d + 3) ws.length 0 ws.length) (daysK (ps.take (i + 1))))) :: .live 3 1 (numsE .i64 L) :: D) ?_ ?_ ?_
          · intro hc
            have hm : p.day ∉ ks := fun hm => by rw [if_pos hm] at hc; have := beq_iff_eq.1 hc; omega
            simp only [go_sem,a13,a13r0,a13r1,a13r2,a13r3,a13r4,a13r5,a13r6,a13r7,a13r8,a13r9,a13r10,a13r11,a13r12,a13r13,a13r14,a13r15,a13r16,a13r17,a13r18,a13r19,a13r20,a13r21,a13r22,a13r23,a13r24,a13r25,a13r26,a13r27,a13r28,a13r29,a13r30,a13r31,a13r32,a13r33,a13r34,a13r35,a13r36,a13r37,a13r38,a13r39,a13r40,a13r41,a13r42,a13r43,a13r44,a13r45,a13r46,a13r47,i0,i1,Int.toNat_natCast,hgp]
            refine ⟨by omega, by omega, by omega, by omega, ?_⟩
            have hput : kput (.int .i64 p.day) (.own (D.length + 1 + 1 + 1) ws.length 0 ws.length) (mapF (fun d => .own (ix d + 3) ws.length 0 ws.length) ks) = mapF (fun e => .own ((if e = p.day then D.length else ix e) + 3) ws.length 0 ws.length) (daysK (ps.take (i + 1))) := by
              have := kput_mapG (f := fun d => .own (ix d + 3) ws.length 0 ws.length) (g := fun e => .own ((if e = p.day then D.length else ix e) + 3) ws.length 0 ws.length) (k := p.day) (fun x hx => by simp only [if_neg hx]) hnd
              simp only [if_true] at this
              rw [hks2] at this
              exact this
            have hDn : ∀ E, DayR (daysK (ps.take (i + 1))) (fun e => if e = p.day then D.length else ix e) (D ++ dRow (fun _ => 0) ws.length :: E) ws.length (totP z h ws (ps.take i)) := fun E => by
              have := hD.new hm (fun _ => 0) E
              rw [hks2] at this
              refine this.ext fun d _ j _ => ?_
              by_cases hd : d = p.day
              · rw [if_pos hd, hd, hno hm]
              · rw [if_neg hd]
            have hrw : Row.live 3 1 (List.replicate ws.length [AVal.int .i64 0]) = dRow (fun _ => 0) ws.length := by rw [cnts_rep]; rfl
            rw [hput, hrw]
            have hdL : p.day ∉ L := fun hx => hm ((hLm _).1 hx)
            have hLn : ∀ j (hj : j < L.length), L[j] ≠ p.day := fun j hj e => hdL (e ▸ List.getElem_mem hj)
            have hLp := List.pairwise_iff_getElem.1 hLs
            refine avc_loop (fun env rows => ∃ (k : Nat), k ≤ L.length ∧ (∀ j (hj : j < L.length), k ≤ j → p.day < L[j]) ∧ env = [(1, .pure 6 (els h)), (2, .pure 7 (els ws)), (3, .pure 4 (els ps)), (4, .ref 0 1 0 0), (13, .own 2 L.length 0 L.length), (14, .mref 1), (15, .int .i64 i), (16, .int .i64 k)] ∧
                rows = .live 27 2 [[.int .i64 z.off, .pure 2 (els z.ch)]] :: .obj (.map false [.int .i64] (mapF (fun e => .own ((if e = p.day then D.length else ix e) + 3) ws.length 0 ws.length) (daysK (ps.take (i + 1))))) :: .live 3 1 (numsE .i64 L) :: (D ++ [dRow (fun _ => 0) ws.length]))
              (fun env _ => match slot env 16 with | .int _ j => j.toNat | _ => 0) ?_ ?_
            · exact Cl.here ⟨L.length, by omega, fun j hj hk => by omega, rfl, rfl⟩
            · rintro env rows ⟨k, hk, hkj, rfl, rfl⟩
              have hexit : (∀ j (hj : j < L.length), j < k → L[j] < p.day) → (L.take k ++ p.day :: L.drop k).Pairwise (· < ·) := fun hlow => ins_sorted hLs hk hlow hkj
              have hmem : ∀ x, x ∈ L.take k ++ p.day :: L.drop k ↔ x ∈ daysK (ps.take (i + 1)) := fun x => by
                have hx : x ∈ L ↔ x ∈ L.take k ∨ x ∈ L.drop k := by rw [← List.mem_append, List.take_append_drop]
                rw [← hks2, addK_mem, ← hLm, hx, List.mem_append, List.mem_cons]
                constructor <;> (rintro (h1 | h1 | h1) <;> simp [h1])
              have hlenI : (L.take k ++ p.day :: L.drop k).length = L.length + 1 := by simp; omega
              simp only [go_sem,a13,a13r0,a13r1,a13r2,a13r3,a13r4,a13r5,a13r6,a13r7,a13r8,a13r9,a13r10,a13r11,a13r12,a13r13,a13r14,a13r15,a13r16,a13r17,a13r18,a13r19,a13r20,a13r21,a13r22,a13r23,a13r24,a13r25,a13r26,a13r27,a13r28,a13r29,a13r30,a13r31,a13r32,a13r33,a13r34,a13r35,a13r36,a13r37,a13r38,a13r39,a13r40,a13r41,a13r42,a13r43,a13r44,a13r45,a13r46,a13r47]
              have hwk1 : IntKind.i64.wrap ((k : Int) + 1) = ((k + 1 : Nat) : Int) := by rw [wrap_i64 (by omega) (by omega)]; omega
              have kn0 : (0 : Int) ≤ k := by omega
              have kn1 : (k : Int) < ((L.length + 1 : Nat) : Int) := by omega
              by_cases hpos : (0 : Int) < k
              · have hkl : k - 1 < L.length := by omega
                have hwk : IntKind.i64.wrap ((k : Int) - 1) = ((k - 1 : Nat) : Int) := by rw [wrap_i64 (by omega) (by omega)]; omega
                have hgk : (numsE .i64 L).getD (k - 1) [] = [.int .i64 L[k - 1]] := by rw [numsE_getD hkl, List.getD_eq_getElem?_getD, List.getElem?_eq_getElem hkl, Option.getD_some]
                have k0 : (0 : Int) ≤ ((k - 1 : Nat) : Int) := by omega
                have k1 : ((k - 1 : Nat) : Int) < L.length := by omega
                simp only [go_sem,a13,a13r0,a13r1,a13r2,a13r3,a13r4,a13r5,a13r6,a13r7,a13r8,a13r9,a13r10,a13r11,a13r12,a13r13,a13r14,a13r15,a13r16,a13r17,a13r18,a13r19,a13r20,a13r21,a13r22,a13r23,a13r24,a13r25,a13r26,a13r27,a13r28,a13r29,a13r30,a13r31,a13r32,a13r33,a13r34,a13r35,a13r36,a13r37,a13r38,a13r39,a13r40,a13r41,a13r42,a13r43,a13r44,a13r45,a13r46,a13r47,hpos,hwk,k0,k1,i0,i1,Int.toNat_natCast,hgk,hgp]
                by_cases hcm : p.day < L[k - 1]
                · simp only [go_sem,a13,a13r0,a13r1,a13r2,a13r3,a13r4,a13r5,a13r6,a13r7,a13r8,a13r9,a13r10,a13r11,a13r12,a13r13,a13r14,a13r15,a13r16,a13r17,a13r18,a13r19,a13r20,a13r21,a13r22,a13r23,a13r24,a13r25,a13r26,a13r27,a13r28,a13r29,a13r30,a13r31,a13r32,a13r33,a13r34,a13r35,a13r36,a13r37,a13r38,a13r39,a13r40,a13r41,a13r42,a13r43,a13r44,a13r45,a13r46,a13r47,hcm,hwk]
                  refine Cl.here ⟨⟨k - 1, by omega, fun j hj hkj2 => ?_, rfl, rfl⟩, ?_⟩
                  · rcases Nat.lt_or_ge j k with h1 | h1
                    · obtain rfl : j = k - 1 := by omega
                      exact hcm
                    · exact hkj j hj h1
                  · simp only [go_sem]
                    omega
                have hlow : ∀ j (hj : j < L.length), j < k → L[j] < p.day := fun j hj hjk => by
                  have hk9 := hLn (k - 1) hkl
                  rcases Nat.lt_or_ge j (k - 1) with h1 | h1
                  · have := hLp j (k - 1) hj hkl h1; omega
                  · obtain rfl : j = k - 1 := by omega
                    omega
                simp only [go_sem,a13,a13r0,a13r1,a13r2,a13r3,a13r4,a13r5,a13r6,a13r7,a13r8,a13r9,a13r10,a13r11,a13r12,a13r13,a13r14,a13r15,a13r16,a13r17,a13r18,a13r19,a13r20,a13r21,a13r22,a13r23,a13r24,a13r25,a13r26,a13r27,a13r28,a13r29,a13r30,a13r31,a13r32,a13r33,a13r34,a13r35,a13r36,a13r37,a13r38,a13r39,a13r40,a13r41,a13r42,a13r43,a13r44,a13r45,a13r46,a13r47,hcm]
                have hl1 : (L ++ [0]).length = L.length + 1 := by simp
                have hk2 : k + (L.length + 1 - k) = L.length + 1 := by omega
                have hk3 : k + 1 + (L.length + 1 - (k + 1)) = L.length + 1 := by omega
                simp only [go_sem,a13,a13r0,a13r1,a13r2,a13r3,a13r4,a13r5,a13r6,a13r7,a13r8,a13r9,a13r10,a13r11,a13r12,a13r13,a13r14,a13r15,a13r16,a13r17,a13r18,a13r19,a13r20,a13r21,a13r22,a13r23,a13r24,a13r25,a13r26,a13r27,a13r28,a13r29,a13r30,a13r31,a13r32,a13r33,a13r34,a13r35,a13r36,a13r37,a13r38,a13r39,a13r40,a13r41,a13r42,a13r43,a13r44,a13r45,a13r46,a13r47,get_last,Int.toNat_natCast,i0,i1,hgp,hwk1,hl1,hk2]
                repeat (refine And.intro (by first | rfl | omega) ?_)
                have hpart : List.take (min (List.take (L.length + 1 - k) (List.drop k (L ++ [0]))).length (L.length + 1 - (k + 1))) (List.take (L.length + 1 - k) (List.drop k (L ++ [0]))) = L.drop k := overL_part hk (by simp only [List.length_take, List.length_drop, hl1]; omega) (by simp only [List.length_take, List.length_drop, hl1]; omega)
                rw [hpart]
                have hol := overL_length (z := (0 : Int)) hk
                have hos := overL_set (z := (0 : Int)) (x := p.day) hk
                generalize overL (L ++ [0]) (k + 1) (L.drop k) = wz at hol hos ⊢
                have hkw : k < wz.length := by omega
                have hgw : (numsE .i64 wz).getD k [] = [.int .i64 wz[k]] := by rw [numsE_getD hkw, List.getD_eq_getElem?_getD, List.getElem?_eq_getElem hkw, Option.getD_some]
                refine ⟨hol.symm, kn0, kn1, hol.symm, ?_⟩
                rw [hgw]
                simp only [List.drop_succ_cons, List.drop_zero, numsE_set, hos]
                rw [List.append_assoc]
                exact ⟨L.take k ++ p.day :: L.drop k, D ++ dRow (fun _ => 0) ws.length :: [.live 3 1 [[.int .i64 0]]], fun e => if e = p.day then D.length else ix e, hexit hlow, hmem, by omega, hDn _, by rw [hlenI], rfl⟩
              · have hlow : ∀ j (hj : j < L.length), j < k → L[j] < p.day := fun j _ hj => by omega
                simp only [go_sem,a13,a13r0,a13r1,a13r2,a13r3,a13r4,a13r5,a13r6,a13r7,a13r8,a13r9,a13r10,a13r11,a13r12,a13r13,a13r14,a13r15,a13r16,a13r17,a13r18,a13r19,a13r20,a13r21,a13r22,a13r23,a13r24,a13r25,a13r26,a13r27,a13r28,a13r29,a13r30,a13r31,a13r32,a13r33,a13r34,a13r35,a13r36,a13r37,a13r38,a13r39,a13r40,a13r41,a13r42,a13r43,a13r44,a13r45,a13r46,a13r47,hpos]
                have hl1 : (L ++ [0]).length = L.length + 1 := by simp
                have hk2 : k + (L.length + 1 - k) = L.length + 1 := by omega
                have hk3 : k + 1 + (L.length + 1 - (k + 1)) = L.length + 1 := by omega
                simp only [go_sem,a13,a13r0,a13r1,a13r2,a13r3,a13r4,a13r5,a13r6,a13r7,a13r8,a13r9,a13r10,a13r11,a13r12,a13r13,a13r14,a13r15,a13r16,a13r17,a13r18,a13r19,a13r20,a13r21,a13r22,a13r23,a13r24,a13r25,a13r26,a13r27,a13r28,a13r29,a13r30,a13r31,a13r32,a13r33,a13r34,a13r35,a13r36,a13r37,a13r38,a13r39,a13r40,a13r41,a13r42,a13r43,a13r44,a13r45,a13r46,a13r47,get_last,Int.toNat_natCast,i0,i1,hgp,hwk1,hl1,hk2]
                repeat (refine And.intro (by first | rfl | omega) ?_)
                have hpart : List.take (min (List.take (L.length + 1 - k) (List.drop k (L ++ [0]))).length (L.length + 1 - (k + 1))) (List.take (L.length + 1 - k) (List.drop k (L ++ [0]))) = L.drop k := overL_part hk (by simp only [List.length_take, List.length_drop, hl1]; omega) (by simp only [List.length_take, List.length_drop, hl1]; omega)
                rw [hpart]
                have hol := overL_length (z := (0 : Int)) hk
                have hos := overL_set (z := (0 : Int)) (x := p.day) hk
                generalize overL (L ++ [0]) (k + 1) (L.drop k) = wz at hol hos ⊢
                have hkw : k < wz.length := by omega
                have hgw : (numsE .i64 wz).getD k [] = [.int .i64 wz[k]] := by rw [numsE_getD hkw, List.getD_eq_getElem?_getD, List.getElem?_eq_getElem hkw, Option.getD_some]
                refine ⟨hol.symm, kn0, kn1, hol.symm, ?_⟩
                rw [hgw]
                simp only [List.drop_succ_cons, List.drop_zero, numsE_set, hos]
                rw [List.append_assoc]
                exact ⟨L.take k ++ p.day :: L.drop k, D ++ dRow (fun _ => 0) ws.length :: [.live 3 1 [[.int .i64 0]]], fun e => if e = p.day then D.length else ix e, hexit hlow, hmem, by omega, hDn _, by rw [hlenI], rfl⟩
          · intro hc
            have hm : p.day ∈ ks := by
              by_cases hm : p.day ∈ ks
              · exact hm
              · rw [if_neg hm] at hc; simp at hc
            have hkk : ks = daysK (ps.take (i + 1)) := by rw [← hks2]; unfold addK; rw [if_pos hm]
            simp only [go_sem,a13,a13r0,a13r1,a13r2,a13r3,a13r4,a13r5,a13r6,a13r7,a13r8,a13r9,a13r10,a13r11,a13r12,a13r13,a13r14,a13r15,a13r16,a13r17,a13r18,a13r19,a13r20,a13r21,a13r22,a13r23,a13r24,a13r25,a13r26,a13r27,a13r28,a13r29,a13r30,a13r31,a13r32,a13r33,a13r34,a13r35,a13r36,a13r37,a13r38,a13r39,a13r40,a13r41,a13r42,a13r43,a13r44,a13r45,a13r46,a13r47]
            exact ⟨L, D, ix, hLs, by rw [← hkk]; exact hLm, by omega, by rw [← hkk]; exact hD, rfl, by rw [← hkk]⟩
          · rintro env _ ⟨L, D, ix, hLs, hLm, hLl, hD, s1, s2, s3, s4, s13, s14, s15, rfl⟩
            have hday : p.day ∈ daysK (ps.take (i + 1)) := by rw [← hks2]; exact addK_mem.2 (.inl rfl)
            unfold pcOk at hpo
            have hpn : (pcN p : Int) = p.to - p.fr := by unfold pcN; omega
            simp only [go_sem,a13,a13r0,a13r1,a13r2,a13r3,a13r4,a13r5,a13r6,a13r7,a13r8,a13r9,a13r10,a13r11,a13r12,a13r13,a13r14,a13r15,a13r16,a13r17,a13r18,a13r19,a13r20,a13r21,a13r22,a13r23,a13r24,a13r25,a13r26,a13r27,a13r28,a13r29,a13r30,a13r31,a13r32,a13r33,a13r34,a13r35,a13r36,a13r37,a13r38,a13r39,a13r40,a13r41,a13r42,a13r43,a13r44,a13r45,a13r46,a13r47,s1,s2,s3,s4,s13,s14,s15,i0,i1,Int.toNat_natCast,hgp]
            clear s1 s2 s3 s4 s13 s14 s15 env
            refine avc_loop (fun env rows => ∃ (k : Nat) (D : List Row), k ≤ pcN p ∧ DayR (daysK (ps.take (i + 1))) ix D ws.length (fun d j => totP z h ws (ps.take i) d j + if d = p.day then cntP z h ws p.fr j k else 0) ∧
                env = [(1, .pure 6 (els h)), (2, .pure 7 (els ws)), (3, .pure 4 (els ps)), (4, .ref 0 1 0 0), (13, .own 2 L.length 0 L.length), (14, .mref 1), (15, .int .i64 i), (17, .int .i64 (p.fr + k))] ∧
                rows = .live 27 2 [[.int .i64 z.off, .pure 2 (els z.ch)]] :: .obj (.map false [.int .i64] (mapF (fun d => .own (ix d + 3) ws.length 0 ws.length) (daysK (ps.take (i + 1))))) :: .live 3 1 (numsE .i64 L) :: D)
              (fun env _ => match slot env 17 with | .int _ t => (p.to - t).toNat | _ => 0) ?_ ?_
            · exact Cl.here ⟨0, D, by omega, hD.ext fun d _ j _ => by simp [cntP], by simp, rfl⟩
            · rintro env rows ⟨k, D, hk, hD, rfl, rfl⟩
              simp only [go_sem,a13,a13r0,a13r1,a13r2,a13r3,a13r4,a13r5,a13r6,a13r7,a13r8,a13r9,a13r10,a13r11,a13r12,a13r13,a13r14,a13r15,a13r16,a13r17,a13r18,a13r19,a13r20,a13r21,a13r22,a13r23,a13r24,a13r25,a13r26,a13r27,a13r28,a13r29,a13r30,a13r31,a13r32,a13r33,a13r34,a13r35,a13r36,a13r37,a13r38,a13r39,a13r40,a13r41,a13r42,a13r43,a13r44,a13r45,a13r46,a13r47,i0,i1,Int.toNat_natCast,hgp]
              refine condC_intro ?_ ?_ <;> intro hg3 <;> simp only [decide_eq_true_eq,decide_eq_false_iff_not,beq_iff_eq,beq_eq_false_iff_ne,bne_iff_ne,bne_eq_false_iff_eq,Bool.not_eq_true',Bool.not_eq_false',Int.not_lt,Int.not_le,ne_eq,Bool.and_eq_true,Bool.or_eq_true,Bool.or_eq_false_iff,Bool.and_eq_false_iff] at hg3 <;> simp only [go_sem,a13,a13r0,a13r1,a13r2,a13r3,a13r4,a13r5,a13r6,a13r7,a13r8,a13r9,a13r10,a13r11,a13r12,a13r13,a13r14,a13r15,a13r16,a13r17,a13r18,a13r19,a13r20,a13r21,a13r22,a13r23,a13r24,a13r25,a13r26,a13r27,a13r28,a13r29,a13r30,a13r31,a13r32,a13r33,a13r34,a13r35,a13r36,a13r37,a13r38,a13r39,a13r40,a13r41,a13r42,a13r43,a13r44,a13r45,a13r46,a13r47]
              · have hkl : k < pcN p := by omega
                generalize htt : p.fr + (k : Int) = t at hg3 ⊢
                have hw15 : IntKind.i64.wrap (t + 1) = p.fr + ((k + 1 : Nat) : Int) := by rw [wrap_i64 (by omega) (by omega)]; omega
                have hC := rcount_ok z k1 h k2 ws k3 hnp k4 t (by omega) (by omega)
                unfold Zn.v at hC
                refine callC_of [] [] (by decide) rfl (bindL_clean _ (by first | rfl | simp only [go_sem])) hC ?_
                rintro _ _ ⟨rfl, rfl⟩
                refine ⟨.inl rfl, ?_⟩
                simp only [go_sem]
                have hqx : ∀ d, d ∈ daysK (ps.take (i + 1)) → ix d ≠ D.length := fun d hd => by have := hD.lt hd; omega
                have hE := hD.app [.live 4 1 (bl (wonT z h ws t) ws.length)]
                have hq : (D ++ [Row.live 4 1 (bl (wonT z h ws t) ws.length)])[D.length]? = some (.live 4 1 (bl (wonT z h ws t) ws.length)) := get_last _ _
                generalize D ++ [Row.live 4 1 (bl (wonT z h ws t) ws.length)] = E at hE hq ⊢
                generalize D.length = q at hqx hq ⊢
                have hB : ∀ j, 0 ≤ totP z h ws (ps.take i) p.day j + cntP z h ws p.fr j k ∧ totP z h ws (ps.take i) p.day j + cntP z h ws p.fr j k ≤ 200000000 := fun j => by
                  have h1 := htb i p.day j
                  have h2 := htb2 i
                  have h3 := cntP_bd z h ws p.fr j k
                  omega
                have hnx : ∀ d j, (totP z h ws (ps.take i) d j + if d = p.day then cntP z h ws p.fr j (k + 1) else 0) = (totP z h ws (ps.take i) d j + if d = p.day then cntP z h ws p.fr j k else 0) + if d = p.day ∧ j < ws.length ∧ wonT z h ws t j = true then 1 else 0 := fun d j => by
                  rw [cntP, htt]
                  by_cases hd : d = p.day
                  · rw [if_pos hd, if_pos hd]
                    by_cases hj : j < ws.length
                    · simp [hd, hj]; omega
                    · have : wonT z h ws t j = false := by unfold wonT wonN; rw [numOf_bit]; simp; omega
                      simp [hd, this]
                  · simp [hd]
                refine avc_loop (fun env rows => ∃ (m : Nat) (E : List Row), m ≤ ws.length ∧ E[q]? = some (.live 4 1 (bl (wonT z h ws t) ws.length)) ∧ DayR (daysK (ps.take (i + 1))) ix E ws.length (fun d j => (totP z h ws (ps.take i) d j + if d = p.day then cntP z h ws p.fr j k else 0) + if d = p.day ∧ j < m ∧ wonT z h ws t j = true then 1 else 0) ∧
                    env = [(1, .pure 6 (els h)), (2, .pure 7 (els ws)), (3, .pure 4 (els ps)), (4, .ref 0 1 0 0), (13, .own 2 L.length 0 L.length), (14, .mref 1), (15, .int .i64 i), (17, .int .i64 t), (18, .own (q + 3) ws.length 0 ws.length), (19, .int .i64 m)] ∧
                    rows = .live 27 2 [[.int .i64 z.off, .pure 2 (els z.ch)]] :: .obj (.map false [.int .i64] (mapF (fun d => .own (ix d + 3) ws.length 0 ws.length) (daysK (ps.take (i + 1))))) :: .live 3 1 (numsE .i64 L) :: E)
                  (fun env _ => match slot env 19 with | .int _ m => (ws.length - m).toNat | _ => 0) ?_ ?_
                · exact Cl.here ⟨0, E, by omega, hq, hE.ext fun d _ j _ => by simp, rfl, rfl⟩
                · rintro env rows ⟨m, E, hm, hq, hE, rfl, rfl⟩
                  have hwm : IntKind.i64.wrap ((m : Int) + 1) = ((m + 1 : Nat) : Int) := by rw [wrap_i64 (by omega) (by omega)]; omega
                  simp only [go_sem,a13,a13r0,a13r1,a13r2,a13r3,a13r4,a13r5,a13r6,a13r7,a13r8,a13r9,a13r10,a13r11,a13r12,a13r13,a13r14,a13r15,a13r16,a13r17,a13r18,a13r19,a13r20,a13r21,a13r22,a13r23,a13r24,a13r25,a13r26,a13r27,a13r28,a13r29,a13r30,a13r31,a13r32,a13r33,a13r34,a13r35,a13r36,a13r37,a13r38,a13r39,a13r40,a13r41,a13r42,a13r43,a13r44,a13r45,a13r46,a13r47]
                  refine condC_intro ?_ ?_ <;> intro hg4 <;> simp only [decide_eq_true_eq,decide_eq_false_iff_not,beq_iff_eq,beq_eq_false_iff_ne,bne_iff_ne,bne_eq_false_iff_eq,Bool.not_eq_true',Bool.not_eq_false',Int.not_lt,Int.not_le,ne_eq,Bool.and_eq_true,Bool.or_eq_true,Bool.or_eq_false_iff,Bool.and_eq_false_iff] at hg4 <;> simp only [go_sem,a13,a13r0,a13r1,a13r2,a13r3,a13r4,a13r5,a13r6,a13r7,a13r8,a13r9,a13r10,a13r11,a13r12,a13r13,a13r14,a13r15,a13r16,a13r17,a13r18,a13r19,a13r20,a13r21,a13r22,a13r23,a13r24,a13r25,a13r26,a13r27,a13r28,a13r29,a13r30,a13r31,a13r32,a13r33,a13r34,a13r35,a13r36,a13r37,a13r38,a13r39,a13r40,a13r41,a13r42,a13r43,a13r44,a13r45,a13r46,a13r47]
                  · have hml : m < ws.length := by omega
                    have m0 : (0 : Int) ≤ m := by omega
                    have m1 : (m : Int) < ws.length := by omega
                    simp only [go_sem,hq,m0,m1,Int.toNat_natCast,bl_get hml]
                    cases hwn : wonT z h ws t m
                    · simp only [go_sem,hwm]
                      refine Cl.here ⟨⟨m + 1, E, by omega, hq, hE.ext fun d _ j _ => ?_, rfl, rfl⟩, ?_⟩
                      · by_cases hj : j = m
                        · subst hj; simp [hwn]
                        · have : (j < m + 1) ↔ j < m := by omega
                          simp [this]
                      · simp only [go_sem]
                        omega
                    · obtain ⟨F, hF⟩ : ∃ F : Nat → Int, F = fun j => (totP z h ws (ps.take i) p.day j + if p.day = p.day then cntP z h ws p.fr j k else 0) + if p.day = p.day ∧ j < m ∧ wonT z h ws t j = true then 1 else 0 := ⟨_, rfl⟩
                      have hEd : E[ix p.day]? = some (.live 3 1 (numsE .i64 (cnts F ws.length))) := by rw [hE.at_ _ hday, dRow, hF]
                      have hBm := hB m
                      have hFm : F m = totP z h ws (ps.take i) p.day m + cntP z h ws p.fr m k := by rw [hF]; simp
                      have hcg := cnts_get (f := F) hml
                      have hws1 : IntKind.i64.wrap (F m + 1) = F m + 1 := wrap_i64 (by omega) (by omega)
                      simp only [go_sem,a13,a13r0,a13r1,a13r2,a13r3,a13r4,a13r5,a13r6,a13r7,a13r8,a13r9,a13r10,a13r11,a13r12,a13r13,a13r14,a13r15,a13r16,a13r17,a13r18,a13r19,a13r20,a13r21,a13r22,a13r23,a13r24,a13r25,a13r26,a13r27,a13r28,a13r29,a13r30,a13r31,a13r32,a13r33,a13r34,a13r35,a13r36,a13r37,a13r38,a13r39,a13r40,a13r41,a13r42,a13r43,a13r44,a13r45,a13r46,a13r47,i0,i1,Int.toNat_natCast,hgp,hday,hEd,m0,m1,hcg,hws1,cnts_length]
                      rw [cnts_set, hwm]
                      refine Cl.here ⟨⟨m + 1, E.set (ix p.day) (dRow (fun j => if j = m then F m + 1 else F j) ws.length), by omega, rows_other hq (hqx _ hday), (hE.set hday _).ext fun d _ j _ => ?_, rfl, rfl⟩, ?_⟩
                      · by_cases hd : d = p.day
                        · rw [if_pos hd, hd]
                          by_cases hj : j = m
                          · subst hj; rw [if_pos rfl, hFm]; simp [hwn]
                          · have : (j < m + 1) ↔ j < m := by omega
                            rw [if_neg hj, hF]; simp [this]
                        · rw [if_neg hd]; simp [hd]
                      · simp only [go_sem]
                        omega
                  · obtain rfl : m = ws.length := by omega
                    simp only [go_sem,hw15]
                    refine Cl.here ⟨⟨k + 1, E, by omega, hE.ext fun d _ j _ => (hnx d j).symm, rfl, rfl⟩, ?_⟩
                    simp only [go_sem]
                    omega
              · obtain rfl : k = pcN p := by omega
                simp only [go_sem,hwi]
                refine Cl.here ⟨⟨i + 1, L, D, ix, by omega, hLs, hLm, hLl, hD.ext fun d _ j _ => ?_, rfl, rfl⟩, ?_⟩
                · rw [htk]
                  by_cases hd : d = p.day
                  · rw [if_pos hd, if_pos hd.symm]
                  · rw [if_neg hd, if_neg (fun e => hd e.symm)]
                · simp only [go_sem]
                  omega
        · obtain rfl : i = ps.length := by omega
          have hni : ¬ (ps.length : Int) < ps.length := by omega
          simp only [go_sem,a13,a13r0,a13r1,a13r2,a13r3,a13r4,a13r5,a13r6,a13r7,a13r8,a13r9,a13r10,a13r11,a13r12,a13r13,a13r14,a13r15,a13r16,a13r17,a13r18,a13r19,a13r20,a13r21,a13r22,a13r23,a13r24,a13r25,a13r26,a13r27,a13r28,a13r29,a13r30,a13r31,a13r32,a13r33,a13r34,a13r35,a13r36,a13r37,a13r38,a13r39,a13r40,a13r41,a13r42,a13r43,a13r44,a13r45,a13r46,a13r47,hni]
          rw [List.take_length] at *
          have hLe := srt_of hLs (daysK_nodup ps) hLm
          have hmk : markL z h ws ps = preL z h ws ps L.length := by unfold markL preL; rw [← hLe, List.take_length]
          have hpre : ∀ a (ha : a < L.length), preL z h ws ps (a + 1) = preL z h ws ps a ++ dayL z h ws ps L[a] ws.length := fun a ha => by
            have := preL_succ (z := z) (h := h) (ws := ws) (ps := ps) (i := a) (by rw [← hLe]; exact ha)
            simpa only [← hLe] using this
          have hprl : ∀ a, a ≤ L.length → (preL z h ws ps a).length ≤ a * ws.length := fun a ha => preL_length (by rw [← hLe]; exact ha)
          rw [hmk]
          have hqx : ∀ d, d ∈ daysK ps → ix d ≠ D.length := fun d hd => by have := hD.lt hd; omega
          refine avc_loop (fun env rows => ∃ (a : Nat) (E : List Row), a ≤ L.length ∧ E[D.length]? = some (.live 70 3 (els (preL z h ws ps a))) ∧ DayR (daysK ps) ix E ws.length (totP z h ws ps) ∧
              env = [(2, .pure 7 (els ws)), (13, .own 2 L.length 0 L.length), (14, .mref 1), (20, .own (D.length + 3) (preL z h ws ps a).length 0 (preL z h ws ps a).length), (21, .int .i64 a)] ∧
              rows = .live 27 2 [[.int .i64 z.off, .pure 2 (els z.ch)]] :: .obj (.map false [.int .i64] (mapF (fun d => .own (ix d + 3) ws.length 0 ws.length) (daysK ps))) :: .live 3 1 (numsE .i64 L) :: E)
            (fun env _ => match slot env 21 with | .int _ a => (L.length - a).toNat | _ => 0) ?_ ?_
          · (refine Cl.ghost 20  70  3 rfl (Cl.norm [ 2,13,14,20,21] ?_); simp only [go_sem])
            exact Cl.here ⟨0, D ++ [.live 70 3 []], by omega, get_last _ _, hD.app _, rfl, rfl⟩
          · rintro env rows ⟨a, E, ha, hq, hE, rfl, rfl⟩
            have hwa : IntKind.i64.wrap ((a : Int) + 1) = ((a + 1 : Nat) : Int) := by rw [wrap_i64 (by omega) (by omega)]; omega
            simp only [go_sem,a13,a13r0,a13r1,a13r2,a13r3,a13r4,a13r5,a13r6,a13r7,a13r8,a13r9,a13r10,a13r11,a13r12,a13r13,a13r14,a13r15,a13r16,a13r17,a13r18,a13r19,a13r20,a13r21,a13r22,a13r23,a13r24,a13r25,a13r26,a13r27,a13r28,a13r29,a13r30,a13r31,a13r32,a13r33,a13r34,a13r35,a13r36,a13r37,a13r38,a13r39,a13r40,a13r41,a13r42,a13r43,a13r44,a13r45,a13r46,a13r47]
            refine condC_intro ?_ ?_ <;> intro hg3 <;> simp only [decide_eq_true_eq,decide_eq_false_iff_not,beq_iff_eq,beq_eq_false_iff_ne,bne_iff_ne,bne_eq_false_iff_eq,Bool.not_eq_true',Bool.not_eq_false',Int.not_lt,Int.not_le,ne_eq,Bool.and_eq_true,Bool.or_eq_true,Bool.or_eq_false_iff,Bool.and_eq_false_iff] at hg3 <;> simp only [go_sem,a13,a13r0,a13r1,a13r2,a13r3,a13r4,a13r5,a13r6,a13r7,a13r8,a13r9,a13r10,a13r11,a13r12,a13r13,a13r14,a13r15,a13r16,a13r17,a13r18,a13r19,a13r20,a13r21,a13r22,a13r23,a13r24,a13r25,a13r26,a13r27,a13r28,a13r29,a13r30,a13r31,a13r32,a13r33,a13r34,a13r35,a13r36,a13r37,a13r38,a13r39,a13r40,a13r41,a13r42,a13r43,a13r44,a13r45,a13r46,a13r47]
            · have hal : a < L.length := by omega
              have a0 : (0 : Int) ≤ a := by omega
              have a1 : (a : Int) < L.length := by omega
              have hgL : (numsE .i64 L).getD a [] = [.int .i64 L[a]] := by rw [numsE_getD hal, List.getD_eq_getElem?_getD, List.getElem?_eq_getElem hal, Option.getD_some]
              have hdm := (hLm _).1 (List.getElem_mem hal)
              have hpa := hpre a hal
              have hpl2 := hprl a ha
              have hdl2 := fun b => dayL_length z h ws ps L[a] b
              generalize L[a] = d at hgL hdm hpa hdl2
              generalize preL z h ws ps a = A at hq hpa hpl2 ⊢
              have hAl : A.length ≤ 65536 := by
                have : a * ws.length ≤ 4096 * 16 := Nat.mul_le_mul (by omega) k3
                omega
              refine avc_loop (fun env rows => ∃ (b : Nat) (E : List Row), b ≤ ws.length ∧ E[D.length]? = some (.live 70 3 (els (A ++ dayL z h ws ps d b))) ∧ DayR (daysK ps) ix E ws.length (totP z h ws ps) ∧
                  env = [(2, .pure 7 (els ws)), (13, .own 2 L.length 0 L.length), (14, .mref 1), (20, .own (D.length + 3) (A ++ dayL z h ws ps d b).length 0 (A ++ dayL z h ws ps d b).length), (21, .int .i64 a), (22, .int .i64 b)] ∧
                  rows = .live 27 2 [[.int .i64 z.off, .pure 2 (els z.ch)]] :: .obj (.map false [.int .i64] (mapF (fun d => .own (ix d + 3) ws.length 0 ws.length) (daysK ps))) :: .live 3 1 (numsE .i64 L) :: E)
                (fun env _ => match slot env 22 with | .int _ b => (ws.length - b).toNat | _ => 0) ?_ ?_
              · exact Cl.here ⟨0, E, by omega, by rw [hq]; simp [dayL], hE, by simp [dayL], rfl⟩
              · rintro env rows ⟨b, E, hb, hq, hE, rfl, rfl⟩
                have hwb : IntKind.i64.wrap ((b : Int) + 1) = ((b + 1 : Nat) : Int) := by rw [wrap_i64 (by omega) (by omega)]; omega
                simp only [go_sem,a13,a13r0,a13r1,a13r2,a13r3,a13r4,a13r5,a13r6,a13r7,a13r8,a13r9,a13r10,a13r11,a13r12,a13r13,a13r14,a13r15,a13r16,a13r17,a13r18,a13r19,a13r20,a13r21,a13r22,a13r23,a13r24,a13r25,a13r26,a13r27,a13r28,a13r29,a13r30,a13r31,a13r32,a13r33,a13r34,a13r35,a13r36,a13r37,a13r38,a13r39,a13r40,a13r41,a13r42,a13r43,a13r44,a13r45,a13r46,a13r47]
                refine condC_intro ?_ ?_ <;> intro hg4 <;> simp only [decide_eq_true_eq,decide_eq_false_iff_not,beq_iff_eq,beq_eq_false_iff_ne,bne_iff_ne,bne_eq_false_iff_eq,Bool.not_eq_true',Bool.not_eq_false',Int.not_lt,Int.not_le,ne_eq,Bool.and_eq_true,Bool.or_eq_true,Bool.or_eq_false_iff,Bool.and_eq_false_iff] at hg4 <;> simp only [go_sem,a13,a13r0,a13r1,a13r2,a13r3,a13r4,a13r5,a13r6,a13r7,a13r8,a13r9,a13r10,a13r11,a13r12,a13r13,a13r14,a13r15,a13r16,a13r17,a13r18,a13r19,a13r20,a13r21,a13r22,a13r23,a13r24,a13r25,a13r26,a13r27,a13r28,a13r29,a13r30,a13r31,a13r32,a13r33,a13r34,a13r35,a13r36,a13r37,a13r38,a13r39,a13r40,a13r41,a13r42,a13r43,a13r44,a13r45,a13r46,a13r47]
                · have hbl : b < ws.length := by omega
                  have b0 : (0 : Int) ≤ b := by omega
                  have b1 : (b : Int) < ws.length := by omega
                  have hEd : E[ix d]? = some (.live 3 1 (numsE .i64 (cnts (totP z h ws ps d) ws.length))) := by rw [hE.at_ _ hdm, dRow]
                  have hcg := cnts_get (f := totP z h ws ps d) hbl
                  have hgw : (els ws).getD b [] = [.str (gw ws b).name, .str (gw ws b).group, .int .i64 (gw ws b).rank, .int .i64 (gw ws b).fr, .int .i64 (gw ws b).to, .int .i64 (gw ws b).wd, .int .i64 (gw ws b).dy] := by rw [els_getD hbl, ← gw_get hbl, cel_win]
                  have hds : dayL z h ws ps d (b + 1) = dayL z h ws ps d b ++ if 0 < totP z h ws ps d b then [⟨d, (gw ws b).name, totP z h ws ps d b⟩] else [] := by
                    rw [dayL]
                    unfold mn
                    rw [if_pos hbl]
                  have hdl3 := hdl2 b
                  have hlen3 : (A ++ dayL z h ws ps d b).length ≤ 65600 := by rw [List.length_append]; omega
                  generalize gw ws b = w at hgw hds
                  generalize hT : totP z h ws ps d b = T at hcg hds
                  generalize hAd : A ++ dayL z h ws ps d b = Ad at hq hlen3 ⊢
                  simp only [go_sem,a0,a1,b0,b1,Int.toNat_natCast,hgL,hdm,hEd,hcg,cnts_length]
                  by_cases hm : 0 < T
                  · rw [if_pos hm] at hds
                    have hqT : ∀ R, (E ++ [R])[D.length]? = some (.live 70 3 (els Ad)) := fun R => by
                      have hlq : D.length < E.length := by
                        rcases Nat.lt_or_ge D.length E.length with hx | hx
                        · exact hx
                        · rw [List.getElem?_eq_none hx] at hq; cases hq
                      rw [List.getElem?_append_left hlq]; exact hq
                    simp only [go_sem,a13,a13r0,a13r1,a13r2,a13r3,a13r4,a13r5,a13r6,a13r7,a13r8,a13r9,a13r10,a13r11,a13r12,a13r13,a13r14,a13r15,a13r16,a13r17,a13r18,a13r19,a13r20,a13r21,a13r22,a13r23,a13r24,a13r25,a13r26,a13r27,a13r28,a13r29,a13r30,a13r31,a13r32,a13r33,a13r34,a13r35,a13r36,a13r37,a13r38,a13r39,a13r40,a13r41,a13r42,a13r43,a13r44,a13r45,a13r46,a13r47,hm,a0,a1,b0,b1,Int.toNat_natCast,hgL,hgw,set_last,hqT,get_last]
                    have hAd2 : Ad ++ [⟨d, w.name, T⟩] = A ++ dayL z h ws ps d (b + 1) := by rw [hds, ← hAd, List.append_assoc]
                    have hln : Ad.length + 1 = (A ++ dayL z h ws ps d (b + 1)).length := by rw [← hAd2]; simp
                    refine ⟨by omega, ?_⟩
                    rw [hwb, pm_snoc, hAd2, hln]
                    refine Cl.here ⟨⟨b + 1, _, by omega, ?_, (hE.app _).setO hqx _, rfl, rfl⟩, ?_⟩
                    · have hlq : D.length < (E ++ [Row.live 70 3 [[.int .i64 d, .str w.name, .int .i64 T]]]).length := by
                        rcases Nat.lt_or_ge D.length (E ++ [Row.live 70 3 [[.int .i64 d, .str w.name, .int .i64 T]]]).length with hx | hx
                        · exact hx
                        · have := hqT (Row.live 70 3 [[.int .i64 d, .str w.name, .int .i64 T]])
                          rw [List.getElem?_eq_none hx] at this; cases this
                      rw [List.getElem?_set, if_pos rfl, if_pos hlq]
                    · simp only [go_sem]
                      omega
                  · rw [if_neg hm, List.append_nil] at hds
                    simp only [go_sem,hm,hwb]
                    refine Cl.here ⟨⟨b + 1, E, by omega, by rw [hds, hAd]; exact hq, hE, by rw [hds, hAd], rfl⟩, ?_⟩
                    simp only [go_sem]
                    omega
                · obtain rfl : b = ws.length := by omega
                  rw [hwa]
                  refine Cl.here ⟨⟨a + 1, E, by omega, by rw [hpa]; exact hq, hE, by rw [hpa], rfl⟩, ?_⟩
                  simp only [go_sem]
                  omega
            · obtain rfl : a = L.length := by omega
              refine Cl.tr [some (D.length + 3)] [] rfl rfl (by simp only [go_sem,hq] <;> rfl) ?_
              simp only [go_sem]
              exact Cl.here ⟨rfl, rfl⟩

end Go.Proofs.YtefemdpicjgkeaaGreatDoor
