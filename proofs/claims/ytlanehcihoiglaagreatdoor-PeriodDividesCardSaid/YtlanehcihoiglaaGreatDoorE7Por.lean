/- Periods: portions. -/
import Derived.Test.YtlanehcihoiglaaGreatDoorE7Wts
import Derived.Test.YtlanehcihoiglaaGreatDoorE7Rat
import Derived.Test.YtlanehcihoiglaaGreatDoorE7Sane
set_option linter.unusedSimpArgs false
set_option linter.unusedVariables false
set_option linter.unusedSectionVars false
namespace Go.Proofs.YtlanehcihoiglaaGreatDoor
open Go Go.Abs
set_option linter.unusedSimpArgs false
set_option linter.unusedVariables false

structure Rt where
  num : Int
  den : Int
def Rt.cells (e : Rt) : List AVal := [.int .i64 e.num, .int .i64 e.den]
instance : Cel Rt := ⟨Rt.cells, 2, fun _ => rfl, fun _ => rfl, fun _ => rfl⟩
instance : Flt Rt := ⟨fun _ => rfl⟩
theorem cel_rt (e : Rt) : Cel.c e = [.int .i64 e.num, .int .i64 e.den] := rfl
theorem cel_rt_sz : Cel.sz Rt = 2 := rfl
theorem cel_rt_take (e : Rt) : List.take 2 (Cel.c e) = Cel.c e := rfl
attribute [go_sem] cel_rt_sz cel_rt_take
theorem Rt.ext' {a b : Rt} (h0 : a.num = b.num) (h1 : a.den = b.den) : a = b := by
  cases a; cases b; simp_all

def rtP (s w : Int) : Rt := ⟨((w.toNat / Nat.gcd w.toNat s.toNat : Nat) : Int), ((s.toNat / Nat.gcd w.toNat s.toNat : Nat) : Int)⟩
/-- structs filled up to a place -/
def fillR (L : List Rt) (i : Nat) : List Rt := L.take i ++ List.replicate (L.length - i) ⟨0, 0⟩
theorem fillR_len {L : List Rt} {i : Nat} (h : i ≤ L.length) : (fillR L i).length = L.length := by
  unfold fillR
  rw [List.length_append, List.length_take, List.length_replicate]; omega
theorem fillR_all {L : List Rt} : fillR L L.length = L := by simp [fillR]
theorem fillR_get {L : List Rt} {i : Nat} (h : i < L.length) : (els (fillR L i)).getD i [] = [.int .i64 0, .int .i64 0] := by
  have h1 : i < (fillR L i).length := by rw [fillR_len (by omega)]; exact h
  rw [els_getD h1]
  have : (fillR L i)[i] = ⟨0, 0⟩ := by
    simp only [fillR]
    rw [List.getElem_append_right (by simp; omega)]
    simp
  rw [this]; rfl
theorem fillR_set {L : List Rt} {i : Nat} (h : i < L.length) : (els (fillR L i)).set i (Cel.c L[i]) = els (fillR L (i + 1)) := by
  unfold fillR
  have hr : List.replicate (L.length - i) (⟨0, 0⟩ : Rt) = ⟨0, 0⟩ :: List.replicate (L.length - (i + 1)) ⟨0, 0⟩ := by
    rw [show L.length - i = (L.length - (i + 1)) + 1 from by omega, List.replicate_succ]
  have h1 : (L.take i ++ List.replicate (L.length - i) (⟨0, 0⟩ : Rt)).set i L[i] = L.take (i + 1) ++ List.replicate (L.length - (i + 1)) ⟨0, 0⟩ := by
    rw [hr, List.set_append_right _ _ (by simp; omega), List.length_take, show i - min i L.length = 0 from by omega, List.set_cons_zero, List.take_add_one, List.getElem?_eq_getElem h, Option.toList_some, List.append_assoc, List.singleton_append]
  rw [← h1]
  unfold els
  rw [List.map_set]
theorem fillR_zero {L : List Rt} : List.replicate L.length [AVal.int .i64 0, AVal.int .i64 0] = els (fillR L 0) := by
  simp only [fillR, els, List.take_zero, List.nil_append, Nat.sub_zero, List.map_replicate]
  rfl
theorem sum_nonneg : ∀ {ys : List Int}, (∀ y ∈ ys, 0 ≤ y) → 0 ≤ ys.sum
  | [], _ => by simp
  | y :: ys, h => by
    have := sum_nonneg (ys := ys) fun z hz => h z (List.mem_cons_of_mem _ hz)
    have := h y List.mem_cons_self
    rw [List.sum_cons]; omega

set_option maxHeartbeats 2000000 in
theorem Portions_ok (k a n : Int) (cs : List Int) (m : Int) (hs : List Hol) (hn : -9223372036854775808 ≤ n) (hn2 : n ≤ 9223372036854775807) (hcl : cs.length ≤ 1000) (hl : hs.length ≤ 9223372036854775806) (he : wE k a n cs m hs = 0) :
    AFn Tryz.prog 24 [.agg [.int .i64 k, .int .i64 a], .int .i64 n, .pure 1 (numsE .i64 cs), .int .i64 m, .pure 6 (els hs)] []
      (fun v rs => ((wL k a n cs m hs).sum = 0 ∧ v = .tup [.nils, .int .i64 5] ∧ rs = []) ∨ (0 < (wL k a n cs m hs).sum ∧ v = .tup [.own 0 (wL k a n cs m hs).length 0 (wL k a n cs m hs).length, .int .i64 0] ∧ rs = [.live 61 2 (els ((wL k a n cs m hs).map (rtP (wL k a n cs m hs).sum)))])) := by
  refine afnW Tryz.func24 a24_ok (by simp [a24]) ?_
  obtain ⟨w1, w2, w3⟩ := wL_bd he
  simp only [go_sem,a24,a24r0,a24r1,a24r2,a24r3,a24r4,a24r5,a24r6,a24r7,a24r8,a24r9,a24r10,a24r11,a24r12,a24r13,a24r14,a24r15,a24r16,a24r17,a24r18]
  (repeat (first | (refine Cl.here ?_; simp only [go_sem]) | simp only [go_sem]))
  refine callC_of [] [] (by simp) rfl (bindL_clean _ (by first | rfl | simp only [go_sem])) (Weights_ok k a n cs m hs hn hn2 (by omega) hl) ?_
  rintro _ _ (⟨h, _⟩ | ⟨_, rfl, rfl⟩)
  · exact absurd he h
  refine ⟨.inl rfl, ?_⟩
  generalize wL k a n cs m hs = W at *
  have hsb : ∀ i, i ≤ W.length → 0 ≤ (W.take i).sum ∧ (W.take i).sum ≤ 60 * i := by
    intro i
    induction i with
    | zero => intro _; simp
    | succ i ih =>
      intro h
      have h1 := ih (by omega)
      rw [sum_take (by omega)]
      have h3 := w1 W[i] (List.getElem_mem _)
      omega
  simp only [go_sem]
  (refine Cl.frz [] [ 1] rfl rfl (by simp only [go_sem] <;> rfl) ?_; simp only [go_sem])
  (repeat (first | (refine Cl.here ?_; simp only [go_sem,bne_self_eq_false]) | simp only [go_sem,bne_self_eq_false]))
  refine avcW_loop (fun env rows => ∃ i : Nat, i ≤ W.length ∧ env = [(12, .pure 1 (numsE .i64 W)), (14, .int .i64 ((W.take i).sum)), (32, .pure 1 (numsE .i64 W)), (33, .int .i64 W.length), (34, .int .i64 i)] ∧ rows = [])
    (fun env _ => match slot env 34 with | .int _ j => (W.length - j).toNat | _ => 0) ?_ ?_
  · exact Cl.here ⟨0, by omega, rfl, rfl⟩
  · rintro env rows ⟨i, hi, rfl, rfl⟩
    have hw1 : IntKind.i64.wrap ((i : Int) + 1) = ((i + 1 : Nat) : Int) := by rw [wrap_i64 (by omega) (by omega)]; omega
    simp only [go_sem,a24,a24r0,a24r1,a24r2,a24r3,a24r4,a24r5,a24r6,a24r7,a24r8,a24r9,a24r10,a24r11,a24r12,a24r13,a24r14,a24r15,a24r16,a24r17,a24r18]
    (refine Cl.here ?_; simp only [go_sem])
    refine condW_intro ?_ ?_ <;> intro hg2 <;> simp only [decide_eq_true_eq,decide_eq_false_iff_not,beq_iff_eq,beq_eq_false_iff_ne,bne_iff_ne,bne_eq_false_iff_eq,Bool.not_eq_true',Bool.not_eq_false',Int.not_lt,Int.not_le,ne_eq,Bool.and_eq_true,Bool.or_eq_true,Bool.or_eq_false_iff,Bool.and_eq_false_iff] at hg2 <;> simp only [go_sem,a24,a24r0,a24r1,a24r2,a24r3,a24r4,a24r5,a24r6,a24r7,a24r8,a24r9,a24r10,a24r11,a24r12,a24r13,a24r14,a24r15,a24r16,a24r17,a24r18]
    · have hlt : i < W.length := by omega
      have hgw : (numsE .i64 W).getD i [] = [.int .i64 W[i]] := by rw [numsE_getD hlt, List.getD_eq_getElem?_getD, List.getElem?_eq_getElem hlt, Option.getD_some]
      have hi0 : (0 : Int) ≤ i := by omega
      have hsn := sum_take hlt
      have hb1 := hsb i (by omega)
      have hb2 := hsb (i + 1) (by omega)
      have hwx : IntKind.i64.wrap ((W.take i).sum + W[i]) = (W.take (i + 1)).sum := by rw [← hsn]; exact wrap_i64 (by omega) (by omega)
      (repeat (first | (refine Cl.here ?_; simp only [go_sem,hi0,hg2,hgw,Int.toNat_natCast,hwx,hw1]) | simp only [go_sem,hi0,hg2,hgw,Int.toNat_natCast,hwx,hw1]))
      exact ⟨⟨i + 1, by omega, rfl⟩, by omega⟩
    · obtain rfl : i = W.length := by omega
      rw [List.take_length]
      have hb := hsb W.length (Nat.le_refl _)
      rw [List.take_length] at hb
      (repeat (first | (refine Cl.here ?_; simp only [go_sem]) | simp only [go_sem]))
      refine ⟨by omega, by omega, by omega, by omega, ?_⟩
      obtain ⟨L, hL⟩ : ∃ L, L = W.map (rtP W.sum) := ⟨_, rfl⟩
      have hLl : L.length = W.length := by rw [hL, List.length_map]
      have hL0 := fillR_zero (L := L)
      rw [hLl] at hL0
      rw [hL0, ← hL]
      (repeat (first | (refine Cl.here ?_; simp only [go_sem]) | simp only [go_sem]))
      refine avcW_loop (fun env rows => ∃ i : Nat, i ≤ W.length ∧ (0 < i → 0 < W.sum) ∧ env = [(14, .int .i64 W.sum), (17, .own 0 W.length 0 W.length), (45, .pure 1 (numsE .i64 W)), (46, .int .i64 W.length), (47, .int .i64 i)] ∧ rows = [.live 61 2 (els (fillR L i))])
        (fun env _ => match slot env 47 with | .int _ j => (W.length - j).toNat | _ => 0) ?_ ?_
      · exact Cl.here ⟨0, by omega, fun h => by omega, rfl, rfl⟩
      rintro env rows ⟨i, hi, hpos, rfl, rfl⟩
      have hw1 : IntKind.i64.wrap ((i : Int) + 1) = ((i + 1 : Nat) : Int) := by rw [wrap_i64 (by omega) (by omega)]; omega
      simp only [go_sem,a24,a24r0,a24r1,a24r2,a24r3,a24r4,a24r5,a24r6,a24r7,a24r8,a24r9,a24r10,a24r11,a24r12,a24r13,a24r14,a24r15,a24r16,a24r17,a24r18]
      (refine Cl.here ?_; simp only [go_sem])
      refine condW_intro ?_ ?_ <;> intro hg2 <;> simp only [decide_eq_true_eq,decide_eq_false_iff_not,beq_iff_eq,beq_eq_false_iff_ne,bne_iff_ne,bne_eq_false_iff_eq,Bool.not_eq_true',Bool.not_eq_false',Int.not_lt,Int.not_le,ne_eq,Bool.and_eq_true,Bool.or_eq_true,Bool.or_eq_false_iff,Bool.and_eq_false_iff] at hg2 <;> simp only [go_sem,a24,a24r0,a24r1,a24r2,a24r3,a24r4,a24r5,a24r6,a24r7,a24r8,a24r9,a24r10,a24r11,a24r12,a24r13,a24r14,a24r15,a24r16,a24r17,a24r18]
      · have hlt : i < W.length := by omega
        have hgw : (numsE .i64 W).getD i [] = [.int .i64 W[i]] := by rw [numsE_getD hlt, List.getD_eq_getElem?_getD, List.getElem?_eq_getElem hlt, Option.getD_some]
        have hi0 : (0 : Int) ≤ i := by omega
        have hg2b : (i : Int) < W.length := by omega
        have hwi := w1 W[i] (List.getElem_mem _)
        have vL : L[i]'(by omega) = rtP W.sum W[i] := by simp [hL]
        have gL := fillR_get (L := L) (i := i) (by omega)
        have sL := fillR_set (L := L) (i := i) (by omega)
        have lL := fillR_len (L := L) (i := i) (by omega)
        rw [vL] at sL
        generalize W[i] = w at hgw hwi sL
        obtain ⟨wn, rfl⟩ : ∃ wn : Nat, w = wn := ⟨w.toNat, by omega⟩
        obtain ⟨S, hS⟩ : ∃ S, S = W.sum := ⟨_, rfl⟩
        rw [← hS] at hb hpos sL ⊢
        obtain ⟨sn, rfl⟩ : ∃ sn : Nat, S = sn := ⟨S.toNat, by omega⟩
        (repeat (first | (refine Cl.here ?_; simp only [go_sem,hi0,hg2b,hgw,Int.toNat_natCast]) | simp only [go_sem,hi0,hg2b,hgw,Int.toNat_natCast]))
        by_cases hz : sn = 0
        · subst hz
          refine callC_det (ratZero_ok wn) rfl rfl ?_
          have h5 : ((5 : Int) != 0) = true := rfl
          have lL' : W.length = (fillR L i).length := by omega
          (repeat (first | (refine Cl.here ?_; simp only [go_sem,hi0,hg2b,Int.toNat_natCast,h5]) | simp only [go_sem,hi0,hg2b,Int.toNat_natCast,h5]))
          refine ⟨lL', lL', ?_⟩
          (repeat (first | (refine Cl.here ?_; simp only [go_sem,h5]) | simp only [go_sem,h5]))
          exact Cl.fin rfl (.inl ⟨rfl, rfl⟩)
        · refine callC_det (ratNew_ok wn sn (by omega) (by omega) (by omega)) rfl rfl ?_
          have lL' : W.length = (fillR L i).length := by omega
          (repeat (first | (refine Cl.here ?_; simp only [go_sem,hi0,hg2b,Int.toNat_natCast,bne_self_eq_false]) | simp only [go_sem,hi0,hg2b,Int.toNat_natCast,bne_self_eq_false]))
          refine ⟨lL', lL', ?_⟩
          rw [rtP, cel_rt] at sL
          simp only [Int.toNat_natCast] at sL
          simp only [gL, List.drop_succ_cons, List.drop_zero, sL]
          (repeat (first | (refine Cl.here ?_; simp only [go_sem,bne_self_eq_false,hw1]) | simp only [go_sem,bne_self_eq_false,hw1]))
          exact ⟨⟨i + 1, by omega, fun _ => by omega, rfl, rfl⟩, by omega⟩
      · obtain rfl : i = W.length := by omega
        have hfa : fillR L W.length = L := by rw [← hLl]; exact fillR_all
        rw [hfa]
        (repeat (first | (refine Cl.here ?_; simp only [go_sem]) | simp only [go_sem]))
        (refine Cl.tr [some 0] [] rfl rfl (by simp only [go_sem] <;> rfl) ?_; simp only [go_sem])
        exact Cl.here (.inr ⟨hpos w2, rfl, rfl⟩)

end Go.Proofs.YtlanehcihoiglaaGreatDoor
