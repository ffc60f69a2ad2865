/- Portions and divided amounts, or the errors: the reference. -/
import Derived.Test.YtlanehcihoiglaaGreatDoorE7Div
set_option linter.unusedSimpArgs false
set_option linter.unusedVariables false
set_option linter.unusedSectionVars false
namespace Go.Proofs.YtlanehcihoiglaaGreatDoor
open Go Go.Abs
set_option linter.unusedSimpArgs false
set_option linter.unusedVariables false

theorem rDivide_ok (t k a n : Int) (cs : List Int) (m : Int) (hs : List Hol) (hn : -9223372036854775808 ≤ n) (hn2 : n ≤ 9223372036854775807) (hcl : cs.length ≤ 1000) (hl : hs.length ≤ 1024) :
    AFn Tryz.prog 27 [.int .i64 t, .agg [.int .i64 k, .int .i64 a], .int .i64 n, .pure 1 (numsE .i64 cs), .int .i64 m, .pure 6 (els hs)] [] (divR t k a n cs m hs) := by
  refine afnW Tryz.func27 a27_ok (by simp [a27]) ?_
  simp only [go_sem,a27,a27r0,a27r1,a27r2,a27r3,a27r4]
  (repeat (first | (refine Cl.here ?_; simp only [go_sem]) | simp only [go_sem]))
  refine callC_of [] [] (by simp) rfl (bindL_clean _ (by first | rfl | simp only [go_sem])) (rWeights_ok k a n cs m hs hn hn2 hcl hl) ?_
  rintro _ _ (⟨he, rfl, rfl⟩ | ⟨he, rfl, rfl⟩)
  · refine ⟨.inl rfl, ?_⟩
    have hb : (wE k a n cs m hs != 0) = true := by simp [he]
    (repeat (first | (refine Cl.here ?_; simp only [go_sem,hb]) | simp only [go_sem,hb]))
    have hp : divE t k a n cs m hs = wE k a n cs m hs := by unfold divE; rw [if_pos he]
    exact Cl.fin rfl (.inl ⟨by rw [hp]; exact he, by rw [hp], rfl⟩)
  refine ⟨.inl rfl, ?_⟩
  obtain ⟨w1, w2, w3⟩ := wL_bd he
  have w4 := wL_len he
  have hp : divE t k a n cs m hs = aloE t (wL k a n cs m hs) := by unfold divE; rw [if_neg (fun h => h he)]
  unfold divR
  rw [hp]
  generalize wL k a n cs m hs = W at *
  simp only [go_sem]
  (refine Cl.frz [] [ 1] rfl rfl (by simp only [go_sem] <;> rfl) ?_; simp only [go_sem])
  (repeat (first | (refine Cl.here ?_; simp only [go_sem,bne_self_eq_false]) | simp only [go_sem,bne_self_eq_false]))
  refine callC_of [] [] (by simp) rfl (bindL_clean _ (by first | rfl | simp only [go_sem])) (rAlloc_ok t W w2 (by omega) (fun w hw => by have := w1 w hw; omega)) ?_
  rintro _ _ (⟨h, rfl, rfl⟩ | ⟨h, rfl, rfl⟩)
  · refine ⟨.inl rfl, ?_⟩
    (repeat (first | (refine Cl.here ?_; simp only [go_sem]) | simp only [go_sem]))
    exact Cl.here (.inl ⟨h, rfl, rfl⟩)
  · refine ⟨.inl rfl, ?_⟩
    (repeat (first | (refine Cl.here ?_; simp only [go_sem]) | simp only [go_sem]))
    exact Cl.here (.inr ⟨h, rfl, rfl⟩)

theorem rt_snoc {l : List Rt} {x : Rt} : els l ++ [Cel.c x] = els (l ++ [x]) := els_snoc

theorem rPortions_ok (k a n : Int) (cs : List Int) (m : Int) (hs : List Hol) (hn : -9223372036854775808 ≤ n) (hn2 : n ≤ 9223372036854775807) (hcl : cs.length ≤ 1000) (hl : hs.length ≤ 1024) :
    AFn Tryz.prog 25 [.agg [.int .i64 k, .int .i64 a], .int .i64 n, .pure 1 (numsE .i64 cs), .int .i64 m, .pure 6 (els hs)] [] (porQ k a n cs m hs) := by
  refine afnW Tryz.func25 a25_ok (by simp [a25]) ?_
  simp only [go_sem,a25,a25r0,a25r1,a25r2,a25r3,a25r4,a25r5,a25r6,a25r7,a25r8,a25r9,a25r10,a25r11,a25r12,a25r13,a25r14,a25r15,a25r16,a25r17]
  (repeat (first | (refine Cl.here ?_; simp only [go_sem]) | simp only [go_sem]))
  refine callC_of [] [] (by simp) rfl (bindL_clean _ (by first | rfl | simp only [go_sem])) (rWeights_ok k a n cs m hs hn hn2 hcl hl) ?_
  rintro _ _ (⟨he, rfl, rfl⟩ | ⟨he, rfl, rfl⟩)
  · refine ⟨.inl rfl, ?_⟩
    have hb : (wE k a n cs m hs != 0) = true := by simp [he]
    (repeat (first | (refine Cl.here ?_; simp only [go_sem,hb]) | simp only [go_sem,hb]))
    have hp : porE k a n cs m hs = wE k a n cs m hs := by unfold porE; rw [if_pos he]
    exact Cl.fin rfl (.inl ⟨by rw [hp]; exact he, by rw [hp], rfl⟩)
  refine ⟨.inl rfl, ?_⟩
  obtain ⟨w1, w2, w3⟩ := wL_bd he
  have w4 := wL_len he
  have hp : porE k a n cs m hs = if (wL k a n cs m hs).sum = 0 then 5 else 0 := by unfold porE; rw [if_neg (fun h => h he)]
  unfold porQ porL
  rw [hp]
  generalize wL k a n cs m hs = W at *
  have hsb : ∀ i, i ≤ W.length → 0 ≤ (W.take i).sum ∧ (W.take i).sum ≤ 60 * i := by
    intro i
    induction i with
    | zero => intro _; simp
    | succ i ih =>
      intro h
      have h1 := ih (by omega)
      rw [sum_take (by omega)]
      have h3 := w1 W[i] (List.getElem_mem _)
      omega
  simp only [go_sem]
  (refine Cl.frz [] [ 1] rfl rfl (by simp only [go_sem] <;> rfl) ?_; simp only [go_sem])
  (repeat (first | (refine Cl.here ?_; simp only [go_sem,bne_self_eq_false]) | simp only [go_sem,bne_self_eq_false]))
  refine avcW_loop (fun env rows => ∃ i : Nat, i ≤ W.length ∧ env = [(12, .pure 1 (numsE .i64 W)), (14, .int .i64 ((W.take i).sum)), (15, .int .i64 i)] ∧ rows = [])
    (fun env _ => match slot env 15 with | .int _ j => (W.length - j).toNat | _ => 0) ?_ ?_
  · exact Cl.here ⟨0, by omega, rfl, rfl⟩
  rintro env rows ⟨i, hi, rfl, rfl⟩
  have hw1 : IntKind.i64.wrap ((i : Int) + 1) = ((i + 1 : Nat) : Int) := by rw [wrap_i64 (by omega) (by omega)]; omega
  simp only [go_sem,a25,a25r0,a25r1,a25r2,a25r3,a25r4,a25r5,a25r6,a25r7,a25r8,a25r9,a25r10,a25r11,a25r12,a25r13,a25r14,a25r15,a25r16,a25r17]
  (refine Cl.here ?_; simp only [go_sem])
  refine condW_intro ?_ ?_ <;> intro hg2 <;> simp only [decide_eq_true_eq,decide_eq_false_iff_not,beq_iff_eq,beq_eq_false_iff_ne,bne_iff_ne,bne_eq_false_iff_eq,Bool.not_eq_true',Bool.not_eq_false',Int.not_lt,Int.not_le,ne_eq,Bool.and_eq_true,Bool.or_eq_true,Bool.or_eq_false_iff,Bool.and_eq_false_iff] at hg2 <;> simp only [go_sem,a25,a25r0,a25r1,a25r2,a25r3,a25r4,a25r5,a25r6,a25r7,a25r8,a25r9,a25r10,a25r11,a25r12,a25r13,a25r14,a25r15,a25r16,a25r17]
  · have hlt : i < W.length := by omega
    have hgw : (numsE .i64 W).getD i [] = [.int .i64 W[i]] := by rw [numsE_getD hlt, List.getD_eq_getElem?_getD, List.getElem?_eq_getElem hlt, Option.getD_some]
    have hi0 : (0 : Int) ≤ i := by omega
    have hsn := sum_take hlt
    have hb1 := hsb i (by omega)
    have hb2 := hsb (i + 1) (by omega)
    have hwx : IntKind.i64.wrap ((W.take i).sum + W[i]) = (W.take (i + 1)).sum := by rw [← hsn]; exact wrap_i64 (by omega) (by omega)
    (repeat (first | (refine Cl.here ?_; simp only [go_sem,hi0,hg2,hgw,Int.toNat_natCast,hwx,hw1]) | simp only [go_sem,hi0,hg2,hgw,Int.toNat_natCast,hwx,hw1]))
    exact ⟨⟨i + 1, by omega, rfl⟩, by omega⟩
  obtain rfl : i = W.length := by omega
  rw [List.take_length]
  have hb := hsb W.length (Nat.le_refl _)
  rw [List.take_length] at hb
  by_cases hz : W.sum = 0
  · have hzb : (W.sum == 0) = true := by simp [hz]
    rw [if_pos hz]
    (repeat (first | (refine Cl.here ?_; simp only [go_sem,hzb]) | simp only [go_sem,hzb]))
    exact Cl.fin rfl (.inl ⟨by decide, rfl, rfl⟩)
  have hzb : (W.sum == 0) = false := by simp [hz]
  rw [if_neg hz]
  (repeat (first | (refine Cl.here ?_; simp only [go_sem,hzb]) | simp only [go_sem,hzb]))
  have hLl : (W.map (rtP W.sum)).length = W.length := by simp
  refine avcW_loop (fun env rows => ∃ i : Nat, i ≤ W.length ∧ env = [(12, .pure 1 (numsE .i64 W)), (14, .int .i64 W.sum), (16, .own 0 i 0 i), (17, .int .i64 i)] ∧ rows = [.live 61 2 (els ((W.map (rtP W.sum)).take i))])
    (fun env _ => match slot env 17 with | .int _ j => (W.length - j).toNat | _ => 0) ?_ ?_
  · (refine Cl.ghost 16  61  2 rfl (Cl.norm [ 12,14,16,17] ?_); simp only [go_sem])
    exact Cl.here ⟨0, by omega, rfl, rfl⟩
  rintro env rows ⟨i, hi, rfl, rfl⟩
  have hw1 : IntKind.i64.wrap ((i : Int) + 1) = ((i + 1 : Nat) : Int) := by rw [wrap_i64 (by omega) (by omega)]; omega
  simp only [go_sem,a25,a25r0,a25r1,a25r2,a25r3,a25r4,a25r5,a25r6,a25r7,a25r8,a25r9,a25r10,a25r11,a25r12,a25r13,a25r14,a25r15,a25r16,a25r17]
  (refine Cl.here ?_; simp only [go_sem])
  refine condW_intro ?_ ?_ <;> intro hg2 <;> simp only [decide_eq_true_eq,decide_eq_false_iff_not,beq_iff_eq,beq_eq_false_iff_ne,bne_iff_ne,bne_eq_false_iff_eq,Bool.not_eq_true',Bool.not_eq_false',Int.not_lt,Int.not_le,ne_eq,Bool.and_eq_true,Bool.or_eq_true,Bool.or_eq_false_iff,Bool.and_eq_false_iff] at hg2 <;> simp only [go_sem,a25,a25r0,a25r1,a25r2,a25r3,a25r4,a25r5,a25r6,a25r7,a25r8,a25r9,a25r10,a25r11,a25r12,a25r13,a25r14,a25r15,a25r16,a25r17]
  · have hlt : i < W.length := by omega
    have hgw : (numsE .i64 W).getD i [] = [.int .i64 W[i]] := by rw [numsE_getD hlt, List.getD_eq_getElem?_getD, List.getElem?_eq_getElem hlt, Option.getD_some]
    have hi0 : (0 : Int) ≤ i := by omega
    have hg2b : (i : Int) < W.length := by omega
    have hwi := w1 W[i] (List.getElem_mem _)
    have hsn : els ((W.map (rtP W.sum)).take i) ++ [Cel.c (rtP W.sum W[i])] = els ((W.map (rtP W.sum)).take (i + 1)) := by
      rw [rt_snoc, List.take_succ_eq_append_getElem (by omega)]
      simp
    have hli : ((W.map (rtP W.sum)).take i).length = i := by rw [List.length_take]; omega
    generalize W[i] = w at hgw hwi hsn
    obtain ⟨wn, rfl⟩ : ∃ wn : Nat, w = wn := ⟨w.toNat, by omega⟩
    obtain ⟨S, hS⟩ : ∃ S, S = W.sum := ⟨_, rfl⟩
    rw [← hS] at hsn hz hb hli ⊢
    obtain ⟨sn, rfl⟩ : ∃ sn : Nat, S = sn := ⟨S.toNat, by omega⟩
    (repeat (first | (refine Cl.here ?_; simp only [go_sem,hi0,hg2b,hgw,Int.toNat_natCast]) | simp only [go_sem,hi0,hg2b,hgw,Int.toNat_natCast]))
    refine callC_det (rNew_ok wn sn (by omega) (by omega) (by omega)) rfl rfl ?_
    rw [rtP, cel_rt] at hsn
    simp only [Int.toNat_natCast] at hsn
    (repeat (first | (refine Cl.here ?_; simp only [go_sem]) | simp only [go_sem]))
    refine ⟨hli.symm, by omega, ?_⟩
    (refine Cl.tr [some 0] [] rfl rfl (by simp only [go_sem] <;> rfl) ?_; simp only [go_sem])
    rw [hsn]
    (repeat (first | (refine Cl.here ?_; simp only [go_sem,hw1]) | simp only [go_sem,hw1]))
    exact ⟨⟨i + 1, by omega, rfl, rfl⟩, by omega⟩
  · obtain rfl : i = W.length := by omega
    rw [List.take_of_length_le (by omega)]
    (repeat (first | (refine Cl.here ?_; simp only [go_sem]) | simp only [go_sem]))
    rw [hLl]
    exact Cl.here (.inr ⟨rfl, rfl⟩)

end Go.Proofs.YtlanehcihoiglaaGreatDoor
