/- The reference: which windows count for an instant. -/
import Derived.Test.YtefemdpicjgkeaaGreatDoorZ8Ref
set_option linter.unusedSimpArgs false
set_option linter.unusedVariables false
set_option linter.unusedSectionVars false
namespace Go.Proofs.YtefemdpicjgkeaaGreatDoor
open Go Go.Abs
set_option linter.unusedSimpArgs false
set_option linter.unusedVariables false

/-- a list of truth values -/
def bl (f : Nat → Bool) (n : Nat) : List (List AVal) := (List.range n).map fun j => [.bool (f j)]
theorem bl_length (f : Nat → Bool) (n : Nat) : (bl f n).length = n := by simp [bl]
theorem bl_get {f : Nat → Bool} {n i : Nat} (h : i < n) : (bl f n).getD i [] = [.bool (f i)] := by
  rw [List.getD_eq_getElem?_getD]; simp [bl, h]
theorem bl_set {f : Nat → Bool} {n i : Nat} {b : Bool} : (bl f n).set i [.bool b] = bl (fun j => if j = i then b else f j) n := by
  apply List.ext_getElem?
  intro k
  rw [List.getElem?_set]
  by_cases hk : i = k
  · subst hk
    simp only [bl, if_true]
    by_cases h : i < n <;> simp [h]
  · rw [if_neg hk]
    by_cases h : k < n <;> simp [bl, h, Ne.symm hk]
theorem bl_ext {f g : Nat → Bool} {n : Nat} (h : ∀ j, j < n → f j = g j) : bl f n = bl g n := by
  unfold bl
  exact List.map_congr_left fun j hj => by rw [h j (List.mem_range.1 hj)]
theorem bl_rep (n : Nat) : List.replicate n [AVal.bool false] = bl (fun _ => false) n := by
  apply List.ext_getElem?
  intro k
  by_cases h : k < n <;> simp [bl, h]
theorem bl_clean (f : Nat → Bool) (n : Nat) : cleanE (bl f n) = true := by
  unfold bl
  induction List.range n with
  | nil => rfl
  | cons a l ih => simpa [cleanE, cleanL, clean] using ih
theorem bl_flat (f : Nat → Bool) (n : Nat) : flatE (bl f n) = true := by
  unfold bl
  induction List.range n with
  | nil => rfl
  | cons a l ih => simpa [flatE, flatL, flat] using ih
attribute [go_sem] bl_clean bl_flat bl_length
theorem wonT_eq {z : Zn} {h : List Hol} {ws : List Win} {t : Int} {i : Nat} (hi : i < ws.length) : wonT z h ws t i = wonB ws (fun j => covT z h (gw ws j) t) i := by
  unfold wonT wonN covN
  rw [numOf_bit]
  simp only [hi, decide_true, Bool.true_and]
  unfold wonB
  rw [numOf_bit]
  simp only [hi, decide_true, Bool.true_and]
  have : ((List.range ws.length).all fun k => !((numOf (fun i => covT z h (gw ws i) t) ws.length).testBit k && beats ws k i)) = (List.range ws.length).all fun k => !(covT z h (gw ws k) t && beats ws k i) := by
    rw [Bool.eq_iff_iff, List.all_eq_true, List.all_eq_true]
    constructor <;> intro hh k hk <;> have := hh k hk <;> rw [List.mem_range] at hk <;> rw [numOf_bit] at * <;> simpa [hk] using this
  rw [this]
/-- the windows before k do not beat the window i -/
def unbt (ws : List Win) (c : Nat → Bool) (i k : Nat) : Bool := c i && (List.range k).all fun k => !(c k && beats ws k i)
theorem unbt_succ (ws : List Win) (c : Nat → Bool) (i k : Nat) : unbt ws c i (k + 1) = (unbt ws c i k && !(c k && beats ws k i)) := by
  unfold unbt
  rw [List.range_succ, List.all_append]; simp [Bool.and_assoc]
theorem unbt_end {ws : List Win} {c : Nat → Bool} {i : Nat} (h : noG (gw ws i) = false) : unbt ws c i ws.length = wonB ws c i := by
  unfold unbt wonB; rw [h]; rfl
theorem unbt_free {ws : List Win} {c : Nat → Bool} {i : Nat} (h : noG (gw ws i) = true) : wonB ws c i = c i := by
  unfold wonB; rw [h]; simp

set_option maxHeartbeats 4000000 in
theorem rcount_ok (z : Zn) (hz : vZ z = 0) (h : List Hol) (hv : validP h = 0) (ws : List Win) (hn : ws.length ≤ 16) (hn0 : 0 < ws.length) (hw : winsP ws = true) (t : Int) (h0 : 0 ≤ t) (h1 : t ≤ 120968639) :
    AFn Tryz.prog 25 [z.v, .pure 6 (els h), .pure 7 (els ws), .int .i64 t] [] (fun v rs => v = .own 0 ws.length 0 ws.length ∧ rs = [.live 4 1 (bl (wonT z h ws t) ws.length)]) := by
  have hlb := loc_bd hz h0 h1
  have hvp := validP_zero hv
  unfold loc at hlb
  refine afn Tryz.func25 a25_ok (by simp [a25]) ?_
  have hS := rShift_ok z hz t
  unfold Zn.v at hS
  have hwl : IntKind.i64.wrap (t + shZ z t) = t + shZ z t := wrap_i64 (by omega) (by omega)
  simp only [go_sem,a25,a25r0,a25r1,a25r2,a25r3,a25r4,a25r5,a25r6,a25r7,a25r8,a25r9,a25r10,a25r11,a25r12,a25r13,a25r14,a25r15,a25r16,a25r17,Zn.v]
  refine callC_det hS rfl rfl ?_
  simp only [go_sem,hwl]
  refine callC_det (shown_ok (t + shZ z t) (by omega) (by omega)) rfl rfl ?_
  simp only [go_sem]
  refine ⟨by omega, by omega, by omega, by omega, ?_⟩
  rw [bl_rep]
  refine avc_loop (fun env rows => ∃ (i : Nat), i ≤ ws.length ∧ env = [(1, .pure 6 (els h)), (2, .pure 7 (els ws)), (9, .int .i64 ((t + shZ z t) / 1440)), (10, .int .i64 ((t + shZ z t) % 1440)), (11, .own 0 ws.length 0 ws.length), (12, .int .i64 i)] ∧ rows = [.live 4 1 (bl (fun j => decide (j < i) && covT z h (gw ws j) t) ws.length)])
    (fun env _ => match slot env 12 with | .int _ j => (ws.length - j).toNat | _ => 0) ?_ ?_
  · (refine Cl.tr [some 1] [] rfl rfl (by simp only [go_sem] <;> rfl) ?_; simp only [go_sem])
    exact Cl.here ⟨0, by omega, rfl, by simp⟩
  · rintro env rows ⟨i, hi, rfl, rfl⟩
    have hwi : IntKind.i64.wrap ((i : Int) + 1) = ((i + 1 : Nat) : Int) := by rw [wrap_i64 (by omega) (by omega)]; omega
    simp only [go_sem,a25,a25r0,a25r1,a25r2,a25r3,a25r4,a25r5,a25r6,a25r7,a25r8,a25r9,a25r10,a25r11,a25r12,a25r13,a25r14,a25r15,a25r16,a25r17]
    refine condC_intro ?_ ?_ <;> intro hg2 <;> simp only [decide_eq_true_eq,decide_eq_false_iff_not,beq_iff_eq,beq_eq_false_iff_ne,bne_iff_ne,bne_eq_false_iff_eq,Bool.not_eq_true',Bool.not_eq_false',Int.not_lt,Int.not_le,ne_eq,Bool.and_eq_true,Bool.or_eq_true,Bool.or_eq_false_iff,Bool.and_eq_false_iff] at hg2 <;> simp only [go_sem,a25,a25r0,a25r1,a25r2,a25r3,a25r4,a25r5,a25r6,a25r7,a25r8,a25r9,a25r10,a25r11,a25r12,a25r13,a25r14,a25r15,a25r16,a25r17]
    · have hlt : i < ws.length := by omega
      have i0 : (0 : Int) ≤ i := by omega
      have i1 : (i : Int) < ws.length := by omega
      have hwp := winP_wd (List.all_eq_true.1 hw _ (List.getElem_mem hlt))
      have hwd := winP_dy (List.all_eq_true.1 hw _ (List.getElem_mem hlt))
      have hC := rcovers_ok h hvp.1 hvp.2 ws[i] hwp.1 hwp.2 hwd.1 hwd.2 ((t + shZ z t) / 1440) ((t + shZ z t) % 1440) (by omega) (by omega)
      rw [show covP ws[i] ((t + shZ z t) % 1440) (((t + shZ z t) / 1440 + 3) % 7) (holP h ((t + shZ z t) / 1440)) = covT z h (gw ws i) t by rw [gw_get hlt]; rfl, cel_win] at hC
      refine ⟨i0, i1, ?_⟩
      try simp only [Int.toNat_natCast]
      rw [els_getD hlt]
      simp only [go_sem,cel_win]
      refine callC_det hC rfl rfl ?_
      have hnext : bl (fun j => if j = i then covT z h (gw ws i) t else decide (j < i) && covT z h (gw ws j) t) ws.length = bl (fun j => decide (j < i + 1) && covT z h (gw ws j) t) ws.length := bl_ext fun j _ => by
        by_cases hj : j = i
        · subst hj; simp
        · rw [if_neg hj, show decide (j < i + 1) = decide (j < i) by congr 1; rw [eq_iff_iff]; omega]
      simp only [go_sem,i0,i1,Int.toNat_natCast,hwi]
      rw [bl_get hlt]
      simp only [go_sem,bl_set,hnext]
      refine Cl.here ⟨⟨i + 1, by omega, rfl, rfl⟩, ?_⟩
      simp only [go_sem]
      omega
    · obtain rfl : i = ws.length := by omega
      refine ⟨by omega, by omega, by omega, by omega, ?_⟩
      rw [bl_rep, bl_ext (f := fun j => decide (j < ws.length) && covT z h (gw ws j) t) (g := fun j => covT z h (gw ws j) t) (fun j hj => by simp [hj])]
      obtain ⟨c, hc⟩ : ∃ c : Nat → Bool, c = fun j => covT z h (gw ws j) t := ⟨_, rfl⟩
      rw [← hc]
      have hwon : ∀ j, j < ws.length → wonT z h ws t j = wonB ws c j := fun j hj => by rw [wonT_eq hj, hc]
      rw [bl_ext hwon]
      refine avc_loop (fun env rows => ∃ (i : Nat), i ≤ ws.length ∧ env = [(2, .pure 7 (els ws)), (11, .own 0 ws.length 0 ws.length), (13, .own 1 ws.length 0 ws.length), (14, .int .i64 i)] ∧ rows = [.live 4 1 (bl c ws.length), .live 4 1 (bl (fun j => decide (j < i) && wonB ws c j) ws.length)])
        (fun env _ => match slot env 14 with | .int _ j => (ws.length - j).toNat | _ => 0) ?_ ?_
      · exact Cl.here ⟨0, by omega, rfl, by simp⟩
      · rintro env rows ⟨i, hi, rfl, rfl⟩
        have hwi : IntKind.i64.wrap ((i : Int) + 1) = ((i + 1 : Nat) : Int) := by rw [wrap_i64 (by omega) (by omega)]; omega
        simp only [go_sem,a25,a25r0,a25r1,a25r2,a25r3,a25r4,a25r5,a25r6,a25r7,a25r8,a25r9,a25r10,a25r11,a25r12,a25r13,a25r14,a25r15,a25r16,a25r17]
        refine condC_intro ?_ ?_ <;> intro hg3 <;> simp only [decide_eq_true_eq,decide_eq_false_iff_not,beq_iff_eq,beq_eq_false_iff_ne,bne_iff_ne,bne_eq_false_iff_eq,Bool.not_eq_true',Bool.not_eq_false',Int.not_lt,Int.not_le,ne_eq,Bool.and_eq_true,Bool.or_eq_true,Bool.or_eq_false_iff,Bool.and_eq_false_iff] at hg3 <;> simp only [go_sem,a25,a25r0,a25r1,a25r2,a25r3,a25r4,a25r5,a25r6,a25r7,a25r8,a25r9,a25r10,a25r11,a25r12,a25r13,a25r14,a25r15,a25r16,a25r17]
        · have hlt : i < ws.length := by omega
          have i0 : (0 : Int) ≤ i := by omega
          have i1 : (i : Int) < ws.length := by omega
          have hgc := bl_get (f := c) hlt
          simp only [go_sem,i0,i1,Int.toNat_natCast,hgc,bl_get hlt,bl_set]
          have hgw : ∀ j, j < ws.length → (els ws).getD j [] = [.str (gw ws j).name, .str (gw ws j).group, .int .i64 (gw ws j).rank, .int .i64 (gw ws j).fr, .int .i64 (gw ws j).to, .int .i64 (gw ws j).wd, .int .i64 (gw ws j).dy] := fun j hj => by rw [els_getD hj, ← gw_get hj, cel_win]
          have hgi := hgw i hlt
          have hnG : ((gw ws i).group.toList == ({ data := #[] } : ByteArray).toList) = noG (gw ws i) := rfl
          have hnx : wonB ws c i = unbt ws c i 0 ∨ noG (gw ws i) = false := by
            cases hng : noG (gw ws i)
            · exact .inr rfl
            · refine .inl ?_
              rw [unbt_free hng]; simp [unbt]
          have hfin : ∀ k, unbt ws c i k = wonB ws c i → bl (fun j => if j = i then unbt ws c i k else decide (j < i) && wonB ws c j) ws.length = bl (fun j => decide (j < i + 1) && wonB ws c j) ws.length := fun k hk => bl_ext fun j _ => by
            by_cases hj : j = i
            · subst hj; rw [if_pos rfl, hk]; simp
            · rw [if_neg hj, show decide (j < i + 1) = decide (j < i) by congr 1; rw [eq_iff_iff]; omega]
          refine avc_loop (fun env rows => ∃ (k : Nat), k ≤ ws.length ∧ (noG (gw ws i) = true → k = 0) ∧ env = [(2, .pure 7 (els ws)), (11, .own 0 ws.length 0 ws.length), (13, .own 1 ws.length 0 ws.length), (14, .int .i64 i), (15, .int .i64 k)] ∧ rows = [.live 4 1 (bl c ws.length), .live 4 1 (bl (fun j => if j = i then unbt ws c i k else decide (j < i) && wonB ws c j) ws.length)])
            (fun env _ => match slot env 15 with | .int _ j => (ws.length - j).toNat | _ => 0) ?_ ?_
          · exact Cl.here ⟨0, by omega, fun _ => rfl, rfl, by simp [unbt]⟩
          · rintro env rows ⟨k, hk, hk0, rfl, rfl⟩
            have hwk : IntKind.i64.wrap ((k : Int) + 1) = ((k + 1 : Nat) : Int) := by rw [wrap_i64 (by omega) (by omega)]; omega
            simp only [go_sem,a25,a25r0,a25r1,a25r2,a25r3,a25r4,a25r5,a25r6,a25r7,a25r8,a25r9,a25r10,a25r11,a25r12,a25r13,a25r14,a25r15,a25r16,a25r17]
            by_cases hkl : (k : Int) < ws.length
            · have hkn : k < ws.length := by omega
              have k0 : (0 : Int) ≤ k := by omega
              simp only [go_sem,hkl,i0,i1,Int.toNat_natCast,hgi,hnG]
              cases hng : noG (gw ws i)
              · simp only [go_sem,a25,a25r0,a25r1,a25r2,a25r3,a25r4,a25r5,a25r6,a25r7,a25r8,a25r9,a25r10,a25r11,a25r12,a25r13,a25r14,a25r15,a25r16,a25r17,hkl,k0,Int.toNat_natCast,bl_get (f := c) hkn]
                have hgk := hgw k hkn
                have hsE : ((gw ws k).group.toList == (gw ws i).group.toList) = sEq (gw ws k).group (gw ws i).group := rfl
                have hus := unbt_succ ws c i k
                have hend : beats ws k i = false ∨ c k = false → bl (fun j => if j = i then unbt ws c i k else decide (j < i) && wonB ws c j) ws.length = bl (fun j => if j = i then unbt ws c i (k + 1) else decide (j < i) && wonB ws c j) ws.length := fun hb => by
                  rw [hus]
                  rcases hb with hb | hb <;> rw [hb] <;> simp
                have hend2 : beats ws k i = true → c k = true → bl (fun j => if j = i then false else if j = i then unbt ws c i k else decide (j < i) && wonB ws c j) ws.length = bl (fun j => if j = i then unbt ws c i (k + 1) else decide (j < i) && wonB ws c j) ws.length := fun hb hc => by
                  rw [hus, hb, hc]
                  refine bl_ext fun j _ => ?_
                  by_cases hj : j = i <;> simp [hj]
                unfold beats at hend hend2
                cases hck : c k
                · simp only [go_sem,hwk]
                  rw [hend (.inr hck)]
                  refine Cl.here ⟨⟨k + 1, by omega, fun e => e.elim, rfl, rfl⟩, ?_⟩
                  simp only [go_sem]
                  omega
                · have hfg : Bool → Prop := fun _ => True
                  cases hse : sEq (gw ws k).group (gw ws i).group
                  · simp only [go_sem,k0,i0,i1,hkl,Int.toNat_natCast,hgk,hgi,hsE,hse,hwk]
                    rw [hend (.inl (by rw [hse]; rfl))]
                    refine Cl.here ⟨⟨k + 1, by omega, fun e => e.elim, rfl, rfl⟩, ?_⟩
                    simp only [go_sem]
                    omega
                  · by_cases hr1 : (gw ws i).rank < (gw ws k).rank
                    · simp only [go_sem,k0,i0,i1,hkl,Int.toNat_natCast,hgk,hgi,hsE,hse,hr1,hwk,bl_set]
                      rw [bl_get hlt]
                      simp only [go_sem,bl_set]
                      rw [hend2 (by simp [hse, hr1]) hck]
                      refine Cl.here ⟨⟨k + 1, by omega, fun e => e.elim, rfl, rfl⟩, ?_⟩
                      simp only [go_sem]
                      omega
                    · by_cases hr2 : (gw ws k).rank = (gw ws i).rank
                      · have hr2' : ((gw ws k).rank == (gw ws i).rank) = true := beq_iff_eq.2 hr2
                        by_cases hki : (k : Int) < i
                        · simp only [go_sem,k0,i0,i1,hkl,Int.toNat_natCast,hgk,hgi,hsE,hse,hr1,hr2',hki,hwk,bl_set]
                          rw [bl_get hlt]
                          simp only [go_sem,bl_set]
                          rw [hend2 (by simp [hse, hr2]; omega) hck]
                          refine Cl.here ⟨⟨k + 1, by omega, fun e => e.elim, rfl, rfl⟩, ?_⟩
                          simp only [go_sem]
                          omega
                        · simp only [go_sem,k0,i0,i1,hkl,Int.toNat_natCast,hgk,hgi,hsE,hse,hr1,hr2',hki,hwk]
                          rw [hend (.inl (by simp [hse, hr2]; omega))]
                          refine Cl.here ⟨⟨k + 1, by omega, fun e => e.elim, rfl, rfl⟩, ?_⟩
                          simp only [go_sem]
                          omega
                      · have hr2' : ((gw ws k).rank == (gw ws i).rank) = false := beq_eq_false_iff_ne.2 hr2
                        simp only [go_sem,k0,i0,i1,hkl,Int.toNat_natCast,hgk,hgi,hsE,hse,hr1,hr2',hwk]
                        rw [hend (.inl (by simp [hse, hr2]; omega))]
                        refine Cl.here ⟨⟨k + 1, by omega, fun e => e.elim, rfl, rfl⟩, ?_⟩
                        simp only [go_sem]
                        omega
              · have hk00 := hk0 hng
                subst hk00
                simp only [go_sem,hwi]
                rw [hfin 0 (by rcases hnx with hx | hx; exact hx.symm; rw [hng] at hx; cases hx)]
                refine Cl.here ⟨⟨i + 1, by omega, rfl, rfl⟩, ?_⟩
                simp only [go_sem]
                omega
            · obtain rfl : k = ws.length := by omega
              have hng : noG (gw ws i) = false := by
                cases hng : noG (gw ws i)
                · rfl
                · have := hk0 hng; omega
              simp only [go_sem,hkl,hwi]
              rw [hfin _ (unbt_end hng)]
              refine Cl.here ⟨⟨i + 1, by omega, rfl, rfl⟩, ?_⟩
              simp only [go_sem]
              omega
        · obtain rfl : i = ws.length := by omega
          (refine Cl.tr [some 1] [] rfl rfl (by simp only [go_sem] <;> rfl) ?_; simp only [go_sem])
          refine Cl.here ⟨rfl, ?_⟩
          rw [bl_ext (f := fun j => decide (j < ws.length) && wonB ws c j) (g := wonB ws c) (fun j hj => by simp [hj])]

end Go.Proofs.YtefemdpicjgkeaaGreatDoor
