/- Rounding: amounts of either sign, and errors. -/
import Derived.Test.YtlanehcihoiglaaGreatDoorE7Rnd
set_option linter.unusedSimpArgs false
set_option linter.unusedVariables false
set_option linter.unusedSectionVars false
namespace Go.Proofs.YtlanehcihoiglaaGreatDoor
open Go Go.Abs
set_option linter.unusedSimpArgs false
set_option linter.unusedVariables false

def tAbs (t : Int) : Int := if t < 0 then -t else t
def aloE (t : Int) (ws : List Int) : Int := if t < -1000000000 ∨ 1000000000 < t then 2 else if ws.sum = 0 then 5 else 0
def aloL (t : Int) (ws S : List Int) : List Int := if t < 0 then (incs (partL (tAbs t) ws.sum ws) (S.take (missL (tAbs t) ws.sum ws).toNat)).map (- ·) else incs (partL (tAbs t) ws.sum ws) (S.take (missL (tAbs t) ws.sum ws).toNat)
def isS (t : Int) (ws S : List Int) : Prop := S.Perm (idxL ws.length) ∧ S.Pairwise (lx (restL (tAbs t) ws.sum ws))
def alQ (t : Int) (ws : List Int) (v : AVal) (rs : List Row) : Prop :=
  (aloE t ws ≠ 0 ∧ v = .tup [.nils, .int .i64 (aloE t ws)] ∧ rs = []) ∨ (aloE t ws = 0 ∧ ∃ S : List Int, isS t ws S ∧ v = .tup [.own 0 ws.length 0 ws.length, .int .i64 0] ∧ rs = [.live 3 1 (numsE .i64 (aloL t ws S))])
/-- the first i elements with the other sign -/
def negI (L : List Int) (i : Nat) : List Int := (L.take i).map (- ·) ++ L.drop i
theorem negI_len {L : List Int} {i : Nat} (h : i ≤ L.length) : (negI L i).length = L.length := by simp [negI]; omega
theorem negI_get {L : List Int} {i : Nat} (h : i < L.length) : (numsE .i64 (negI L i)).getD i [] = [.int .i64 L[i]] := by
  rw [numsE_getD (by rw [negI_len (by omega)]; exact h)]
  unfold negI
  rw [List.getD_eq_getElem?_getD, List.getElem?_append_right (by simp; omega)]
  rw [List.length_map, List.length_take, List.getElem?_drop, show i + (i - min i L.length) = i by omega, List.getElem?_eq_getElem h]; rfl
theorem negI_set {L : List Int} {i : Nat} (h : i < L.length) : (numsE .i64 (negI L i)).set i [.int .i64 (-L[i])] = numsE .i64 (negI L (i + 1)) := by
  have hl : ((L.take i).map (- ·)).length = i := by rw [List.length_map, List.length_take]; omega
  have h1 : negI L i = (L.take i).map (- ·) ++ L[i] :: L.drop (i + 1) := by unfold negI; rw [List.drop_eq_getElem_cons h]
  have h2 : negI L (i + 1) = (L.take i).map (- ·) ++ -L[i] :: L.drop (i + 1) := by
    unfold negI; rw [List.take_succ_eq_append_getElem h, List.map_append]; simp
  rw [h1, h2]
  generalize (L.take i).map (- ·) = A at hl
  subst hl
  unfold numsE
  rw [List.map_append, List.map_cons, List.set_append_right _ _ (by simp)]
  simp

set_option maxHeartbeats 1000000 in
theorem allocG_ok (t : Int) (ws : List Int) (hn : 0 < ws.length) (hl : ws.length ≤ 39) (hw : ∀ w ∈ ws, 0 ≤ w ∧ w ≤ 1000000000) :
    AFn Tryz.prog 43 [.int .i64 t, .pure 1 (numsE .i64 ws)] []
      (alQ t ws) := by
  refine afn Tryz.func43 a43_ok (by simp [a43]) ?_
  have c1 : ¬ (ws.length : Int) > 1024 := by omega
  have hsb : ∀ i, i ≤ ws.length → 0 ≤ (ws.take i).sum ∧ (ws.take i).sum ≤ 1000000000 * i := by
    intro i
    induction i with
    | zero => intro _; simp
    | succ i ih =>
      intro h
      have h1 := ih (by omega)
      rw [sum_take (by omega)]
      have h3 := hw ws[i] (List.getElem_mem _)
      omega
  unfold alQ
  by_cases c2 : t < -1000000000
  · simp only [go_sem,a43,a43r0,a43r1,a43r2,a43r3,a43r4,a43r5,a43r6,a43r7,a43r8,a43r9,a43r10,a43r11,a43r12,a43r13,a43r14,a43r15,a43r16,a43r17,a43r18,a43r19,a43r20,a43r21,a43r22,a43r23,c1,c2]
    exact Cl.fin rfl (.inl ⟨by unfold aloE; rw [if_pos (.inl c2)]; decide, by unfold aloE; rw [if_pos (.inl c2)], rfl⟩)
  by_cases c3 : 1000000000 < t
  · simp only [go_sem,a43,a43r0,a43r1,a43r2,a43r3,a43r4,a43r5,a43r6,a43r7,a43r8,a43r9,a43r10,a43r11,a43r12,a43r13,a43r14,a43r15,a43r16,a43r17,a43r18,a43r19,a43r20,a43r21,a43r22,a43r23,c1,c2,c3]
    exact Cl.fin rfl (.inl ⟨by unfold aloE; rw [if_pos (.inr c3)]; decide, by unfold aloE; rw [if_pos (.inr c3)], rfl⟩)
  have hE : aloE t ws = if ws.sum = 0 then 5 else 0 := by unfold aloE; rw [if_neg (by omega)]
  rw [hE]
  simp only [go_sem,a43,a43r0,a43r1,a43r2,a43r3,a43r4,a43r5,a43r6,a43r7,a43r8,a43r9,a43r10,a43r11,a43r12,a43r13,a43r14,a43r15,a43r16,a43r17,a43r18,a43r19,a43r20,a43r21,a43r22,a43r23,c1,c2,c3]
  refine avc_loop (fun env rows => ∃ i : Nat, i ≤ ws.length ∧ env = [(0, .int .i64 t), (1, .pure 1 (numsE .i64 ws)), (6, .int .i64 ((ws.take i).sum)), (20, .pure 1 (numsE .i64 ws)), (21, .int .i64 ws.length), (22, .int .i64 i)] ∧ rows = [])
    (fun env _ => match slot env 22 with | .int _ j => (ws.length - j).toNat | _ => 0) ?_ ?_
  · exact Cl.here ⟨0, by omega, rfl, rfl⟩
  rintro env rows ⟨i, hi, rfl, rfl⟩
  have hw1 : IntKind.i64.wrap ((i : Int) + 1) = ((i + 1 : Nat) : Int) := by rw [wrap_i64 (by omega) (by omega)]; omega
  simp only [go_sem,a43,a43r0,a43r1,a43r2,a43r3,a43r4,a43r5,a43r6,a43r7,a43r8,a43r9,a43r10,a43r11,a43r12,a43r13,a43r14,a43r15,a43r16,a43r17,a43r18,a43r19,a43r20,a43r21,a43r22,a43r23]
  refine condC_intro ?_ ?_ <;> intro hg2 <;> simp only [decide_eq_true_eq,decide_eq_false_iff_not,beq_iff_eq,beq_eq_false_iff_ne,bne_iff_ne,bne_eq_false_iff_eq,Bool.not_eq_true',Bool.not_eq_false',Int.not_lt,Int.not_le,ne_eq,Bool.and_eq_true,Bool.or_eq_true,Bool.or_eq_false_iff,Bool.and_eq_false_iff] at hg2 <;> simp only [go_sem,a43,a43r0,a43r1,a43r2,a43r3,a43r4,a43r5,a43r6,a43r7,a43r8,a43r9,a43r10,a43r11,a43r12,a43r13,a43r14,a43r15,a43r16,a43r17,a43r18,a43r19,a43r20,a43r21,a43r22,a43r23]
  · have hlt : i < ws.length := by omega
    have hgw : (numsE .i64 ws).getD i [] = [.int .i64 ws[i]] := by rw [numsE_getD hlt, List.getD_eq_getElem?_getD, List.getElem?_eq_getElem hlt, Option.getD_some]
    have hi0 : (0 : Int) ≤ i := by omega
    have hb := hsb i (by omega)
    have hsn := sum_take hlt
    have hwi := hw ws[i] (List.getElem_mem _)
    generalize ws[i] = w at hgw hsn hwi
    have d1 : ¬ w < 0 := by omega
    have d2 : ¬ w > 1000000000 := by omega
    simp only [go_sem,hi0,hg2,hgw,Int.toNat_natCast,d1,d2]
    rw [wrap_i64 (x := (ws.take i).sum + w) (by omega) (by omega), ← hsn, hw1]
    refine Cl.here ⟨⟨i + 1, by omega, rfl, rfl⟩, ?_⟩
    simp only [go_sem]
    omega
  · obtain rfl : i = ws.length := by omega
    rw [List.take_length]
    have hb := hsb ws.length (Nat.le_refl _)
    rw [List.take_length] at hb
    by_cases hz : ws.sum = 0
    · have hzb : (ws.sum == 0) = true := by simp [hz]
      simp only [go_sem,hzb]
      rw [if_pos hz]
      exact Cl.fin rfl (.inl ⟨by decide, rfl, rfl⟩)
    · have hzb : (ws.sum == 0) = false := by simp [hz]
      rw [if_neg hz]
      by_cases hge : 0 ≤ t
      · have htA : tAbs t = t := by unfold tAbs; rw [if_neg (by omega)]
        simp only [go_sem,hzb,hge]
        (refine callC_of [] [] (by simp) rfl (bindL_clean _ (by first | rfl | simp only [go_sem])) (divide_ok t ws.sum ws hn hl hge (by omega) hw rfl (by omega)) ?_; rintro _ _ ⟨S,hS,hSp,rfl,rfl⟩; refine ⟨.inl rfl,?_⟩; simp only [go_sem])
        have hA : aloL t ws S = incs (partL t ws.sum ws) (S.take (missL t ws.sum ws).toNat) := by unfold aloL; rw [htA, if_neg (by omega)]
        have hi : isS t ws S := ⟨hS, by rw [htA]; exact hSp⟩
        rw [← hA]
        first
          | exact Cl.here (.inr ⟨rfl, S, hi, rfl, rfl⟩)
          | exact Cl.here ⟨S, hi, rfl, rfl⟩
          | exact Cl.here (.inr ⟨S, hi, rfl, rfl⟩)
      · have htA : tAbs t = -t := by unfold tAbs; rw [if_pos (by omega)]
        have hwn : IntKind.i64.wrap (0 - t) = -t := by rw [wrap_i64 (by omega) (by omega)]; omega
        simp only [go_sem,hzb,hge,hwn,a43,a43r0,a43r1,a43r2,a43r3,a43r4,a43r5,a43r6,a43r7,a43r8,a43r9,a43r10,a43r11,a43r12,a43r13,a43r14,a43r15,a43r16,a43r17,a43r18,a43r19,a43r20,a43r21,a43r22,a43r23]
        (refine callC_of [] [] (by simp) rfl (bindL_clean _ (by first | rfl | simp only [go_sem])) (divide_ok (-t) ws.sum ws hn hl (by omega) (by omega) hw rfl (by omega)) ?_; rintro _ _ ⟨S,hS,hSp,rfl,rfl⟩; refine ⟨.inl rfl,?_⟩; simp only [go_sem])
        have hmb := miss_bd (t := -t) (s := ws.sum) (ws := ws) rfl (by omega) hn
        have hLb := incs_bd (P := partL (-t) ws.sum ws) (B := 1000000000) (fun j => by
          rcases Nat.lt_or_ge j ws.length with h | h
          · rw [List.getD_eq_getElem?_getD, List.getElem?_eq_getElem (by simpa [partL] using h), Option.getD_some]
            have h2 : (partL (-t) ws.sum ws)[j]'(by simpa [partL] using h) = -t * ws[j] / ws.sum := by simp [partL]
            have h4 := part_bd (t := -t) (s := ws.sum) (w := ws[j]) (by omega) (hw ws[j] (List.getElem_mem _)).1 (mem_le_sum (fun w hw' => (hw w hw').1) _ (List.getElem_mem _)) (by omega)
            rw [h2]
            omega
          · rw [List.getD_eq_getElem?_getD, List.getElem?_eq_none (by simpa [partL] using h)]
            simp) (S.take (missL (-t) ws.sum ws).toNat)
        have hLl : (incs (partL (-t) ws.sum ws) (S.take (missL (-t) ws.sum ws).toNat)).length = ws.length := by rw [incs_len]; simp [partL]
        have hfin : aloL t ws S = (incs (partL (-t) ws.sum ws) (S.take (missL (-t) ws.sum ws).toNat)).map (- ·) := by
          unfold aloL
          rw [htA, if_pos (by omega)]
        have htl : (S.take (missL (-t) ws.sum ws).toNat).length ≤ 39 := by rw [List.length_take]; omega
        generalize incs (partL (-t) ws.sum ws) (S.take (missL (-t) ws.sum ws).toNat) = L at hLb hLl hfin ⊢
        refine avc_loop (fun env rows => ∃ i : Nat, i ≤ ws.length ∧ env = [(9, .own 0 ws.length 0 ws.length), (50, .int .i64 ws.length), (51, .int .i64 i)] ∧ rows = [.live 3 1 (numsE .i64 (negI L i))])
          (fun env _ => match slot env 51 with | .int _ j => (ws.length - j).toNat | _ => 0) ?_ ?_
        · exact Cl.here ⟨0, by omega, rfl, by simp [negI]⟩
        rintro env rows ⟨i, hi, rfl, rfl⟩
        have hwi : IntKind.i64.wrap ((i : Int) + 1) = ((i + 1 : Nat) : Int) := by rw [wrap_i64 (by omega) (by omega)]; omega
        simp only [go_sem,a43,a43r0,a43r1,a43r2,a43r3,a43r4,a43r5,a43r6,a43r7,a43r8,a43r9,a43r10,a43r11,a43r12,a43r13,a43r14,a43r15,a43r16,a43r17,a43r18,a43r19,a43r20,a43r21,a43r22,a43r23]
        refine condC_intro ?_ ?_ <;> intro hg3 <;> simp only [decide_eq_true_eq,decide_eq_false_iff_not,beq_iff_eq,beq_eq_false_iff_ne,bne_iff_ne,bne_eq_false_iff_eq,Bool.not_eq_true',Bool.not_eq_false',Int.not_lt,Int.not_le,ne_eq,Bool.and_eq_true,Bool.or_eq_true,Bool.or_eq_false_iff,Bool.and_eq_false_iff] at hg3 <;> simp only [go_sem,a43,a43r0,a43r1,a43r2,a43r3,a43r4,a43r5,a43r6,a43r7,a43r8,a43r9,a43r10,a43r11,a43r12,a43r13,a43r14,a43r15,a43r16,a43r17,a43r18,a43r19,a43r20,a43r21,a43r22,a43r23]
        · have hlt : i < L.length := by omega
          have i0 : (0 : Int) ≤ i := by omega
          have i1 : (i : Int) < ws.length := by omega
          have hgn := negI_get hlt
          have hsn := negI_set hlt
          have hb := hLb i
          rw [List.getD_eq_getElem?_getD, List.getElem?_eq_getElem hlt, Option.getD_some] at hb
          have hnl := negI_len (L := L) (i := i) (by omega)
          rw [hLl] at hnl
          have hwx : IntKind.i64.wrap (0 - L[i]) = -L[i] := by rw [wrap_i64 (by omega) (by omega)]; omega
          simp only [go_sem,i0,i1,Int.toNat_natCast,hgn,hwx,hnl,hsn,hwi,List.drop_one,List.tail_cons]
          refine Cl.here ⟨⟨i + 1, by omega, rfl, rfl⟩, ?_⟩
          simp only [go_sem]
          omega
        · obtain rfl : i = ws.length := by omega
          have hi : isS t ws S := ⟨hS, by rw [htA]; exact hSp⟩
          have hA : negI L ws.length = aloL t ws S := by
            rw [hfin]
            unfold negI
            rw [← hLl, List.take_length, List.drop_length, List.append_nil]
          rw [hA]
          first
            | exact Cl.here (.inr ⟨rfl, S, hi, rfl, rfl⟩)
            | exact Cl.here ⟨S, hi, rfl, rfl⟩
            | exact Cl.here (.inr ⟨S, hi, rfl, rfl⟩)

end Go.Proofs.YtlanehcihoiglaaGreatDoor
