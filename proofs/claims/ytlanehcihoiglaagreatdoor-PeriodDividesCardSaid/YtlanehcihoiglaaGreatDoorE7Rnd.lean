/- Rounding: an amount divided by weights. -/
import Derived.Test.YtlanehcihoiglaaGreatDoorE7Sym4
set_option linter.unusedSimpArgs false
set_option linter.unusedVariables false
set_option linter.unusedSectionVars false
namespace Go.Proofs.YtlanehcihoiglaaGreatDoor
open Go Go.Abs
set_option linter.unusedSimpArgs false
set_option linter.unusedVariables false

def partL (t s : Int) (ws : List Int) : List Int := ws.map fun w => t * w / s
def restL (t s : Int) (ws : List Int) : List Int := ws.map fun w => t * w % s
def idxL (n : Nat) : List Int := (List.range n).map fun (k : Nat) => (k : Int)
def incs (P : List Int) (is : List Int) : List Int := is.foldl (fun P i => P.set i.toNat (P.getD i.toNat 0 + 1)) P
def missL (t s : Int) (ws : List Int) : Int := t - (partL t s ws).sum

/-- a list filled up to a place -/
def fillL (L : List Int) (i : Nat) : List Int := L.take i ++ List.replicate (L.length - i) 0
theorem fill_len {L : List Int} {i : Nat} (h : i ≤ L.length) : (fillL L i).length = L.length := by
  unfold fillL
  rw [List.length_append, List.length_take, List.length_replicate]; omega
theorem fill_all {L : List Int} : fillL L L.length = L := by simp [fillL]
theorem fill_get {L : List Int} {i : Nat} (h : i < L.length) : (numsE .i64 (fillL L i)).getD i [] = [.int .i64 0] := by
  rw [numsE_getD (by rw [fill_len (by omega)]; exact h)]
  unfold fillL
  rw [List.getD_eq_getElem?_getD, List.getElem?_append_right (by simp; omega)]
  rw [List.length_take, List.getElem?_replicate, if_pos (by omega)]
  rfl
theorem fill_set {L : List Int} {i : Nat} (h : i < L.length) : (numsE .i64 (fillL L i)).set i [.int .i64 L[i]] = numsE .i64 (fillL L (i + 1)) := by
  unfold fillL
  have hr : List.replicate (L.length - i) (0 : Int) = 0 :: List.replicate (L.length - (i + 1)) 0 := by
    rw [show L.length - i = (L.length - (i + 1)) + 1 from by omega, List.replicate_succ]
  have h1 : (L.take i ++ List.replicate (L.length - i) (0 : Int)).set i L[i] = L.take (i + 1) ++ List.replicate (L.length - (i + 1)) 0 := by
    rw [hr, List.set_append_right _ _ (by simp; omega), List.length_take, show i - min i L.length = 0 from by omega, List.set_cons_zero, List.take_add_one, List.getElem?_eq_getElem h, Option.toList_some, List.append_assoc, List.singleton_append]
  rw [← h1]
  unfold numsE
  rw [List.map_set]
theorem fill_zero {L : List Int} : List.replicate L.length [AVal.int .i64 0] = numsE .i64 (fillL L 0) := by
  simp [fillL, numsE]
theorem sum_take {L : List Int} {i : Nat} (h : i < L.length) : (L.take (i + 1)).sum = (L.take i).sum + L[i] := by
  rw [List.take_add_one, List.getElem?_eq_getElem h, Option.toList_some, List.sum_append]
  simp
theorem mem_le_sum : ∀ {ws : List Int}, (∀ w ∈ ws, 0 ≤ w) → ∀ w ∈ ws, w ≤ ws.sum
  | [], _, w, h => by simp at h
  | x :: xs, h0, w, h => by
    have hx := h0 x List.mem_cons_self
    have hs : 0 ≤ xs.sum := by
      have : ∀ ys : List Int, (∀ y ∈ ys, 0 ≤ y) → 0 ≤ ys.sum := by
        intro ys
        induction ys with
        | nil => intro _; simp
        | cons y ys ih => intro h; have := ih (fun z hz => h z (List.mem_cons_of_mem _ hz)); have := h y List.mem_cons_self; simp only [List.sum_cons]; omega
      exact this xs fun y hy => h0 y (List.mem_cons_of_mem _ hy)
    rw [List.sum_cons]
    rcases List.mem_cons.1 h with rfl | h
    · omega
    · have := mem_le_sum (fun y hy => h0 y (List.mem_cons_of_mem _ hy)) w h
      omega
theorem part_bd {t s w : Int} (ht : 0 ≤ t) (hw : 0 ≤ w) (hws : w ≤ s) (hs : 0 < s) : 0 ≤ t * w / s ∧ t * w / s ≤ t := by
  refine ⟨Int.ediv_nonneg (Int.mul_nonneg ht hw) (by omega), ?_⟩
  have h1 : t * w ≤ t * s := Int.mul_le_mul_of_nonneg_left hws ht
  have h2 := Int.ediv_le_ediv hs h1
  rwa [Int.mul_ediv_cancel _ (by omega)] at h2
theorem sums_eq (t s : Int) : ∀ ws : List Int, s * (partL t s ws).sum + (restL t s ws).sum = t * ws.sum
  | [] => by simp [partL, restL]
  | w :: ws => by
    have ih := sums_eq t s ws
    unfold partL restL at *
    simp only [List.map_cons, List.sum_cons]
    have h1 := Int.mul_ediv_add_emod (t * w) s
    rw [Int.mul_add, Int.mul_add]
    omega
theorem rest_bd {t s : Int} (hs : 0 < s) : ∀ ws : List Int, 0 ≤ (restL t s ws).sum ∧ (restL t s ws).sum ≤ ws.length * (s - 1)
  | [] => by simp [restL]
  | w :: ws => by
    have ih := rest_bd (t := t) hs ws
    unfold restL at *
    simp only [List.map_cons, List.sum_cons, List.length_cons]
    have h1 := Int.emod_nonneg (t * w) (b := s) (by omega)
    have h2 := Int.emod_lt_of_pos (t * w) hs
    rw [Int.natCast_add, Int.add_mul]
    omega
theorem miss_bd {t s : Int} {ws : List Int} (hs : s = ws.sum) (hs0 : 0 < s) (hn : 0 < ws.length) : 0 ≤ missL t s ws ∧ missL t s ws < ws.length := by
  have h1 := sums_eq t s ws
  have h2 := rest_bd (t := t) hs0 ws
  have h3 : s * missL t s ws = (restL t s ws).sum := by
    unfold missL
    rw [Int.mul_sub, Int.mul_comm s t]
    rw [← hs] at h1
    omega
  have h4 : (ws.length : Int) * (s - 1) < s * ws.length := by
    rw [Int.mul_sub, Int.mul_comm s]
    omega
  constructor
  · rcases Int.lt_or_le (missL t s ws) 0 with h | h
    · have := Int.mul_neg_of_pos_of_neg hs0 h
      omega
    · exact h
  · exact Int.lt_of_mul_lt_mul_left (a := s) (by omega) (by omega)

theorem incs_snoc {P is : List Int} {i : Int} : incs P (is ++ [i]) = (incs P is).set i.toNat ((incs P is).getD i.toNat 0 + 1) := by
  simp [incs, List.foldl_append]
theorem list_snoc {α : Type} {Q : List α → Prop} (h0 : Q []) (h1 : ∀ l x, Q l → Q (l ++ [x])) (l : List α) : Q l := by
  have : ∀ n (l : List α), l.length = n → Q l := by
    intro n
    induction n with
    | zero => intro l h; rw [List.length_eq_zero_iff.1 h]; exact h0
    | succ n ih =>
      intro l h
      rcases List.eq_nil_or_concat l with rfl | ⟨l', x, rfl⟩
      · exact h0
      · rw [List.concat_eq_append] at h ⊢
        exact h1 _ _ (ih _ (by simpa using h))
  exact this _ l rfl
theorem incs_len (P : List Int) (is : List Int) : (incs P is).length = P.length := by
  refine list_snoc (Q := fun is => (incs P is).length = P.length) rfl (fun l x h => ?_) is
  rw [incs_snoc, List.length_set, h]
theorem incs_bd {P : List Int} {B : Int} (hP : ∀ j, 0 ≤ P.getD j 0 ∧ P.getD j 0 ≤ B) (is : List Int) : ∀ j, 0 ≤ (incs P is).getD j 0 ∧ (incs P is).getD j 0 ≤ B + is.length := by
  refine list_snoc (Q := fun is => ∀ j, 0 ≤ (incs P is).getD j 0 ∧ (incs P is).getD j 0 ≤ B + is.length) (by simpa [incs] using hP) (fun l x h j => ?_) is
  rw [incs_snoc]
  have h1 := h j
  have h2 := h x.toNat
  rw [List.length_append, List.length_singleton]
  simp only [List.getD_eq_getElem?_getD, List.getElem?_set] at h1 h2 ⊢
  split
  · split
    · simp only [Option.getD_some]; omega
    · simp only [Option.getD_none] at *; omega
  · omega
set_option maxHeartbeats 1000000 in
theorem divide_ok (t s : Int) (ws : List Int) (hn : 0 < ws.length) (hl : ws.length ≤ 39) (ht : 0 ≤ t) (ht1 : t ≤ 1000000000) (hw : ∀ w ∈ ws, 0 ≤ w ∧ w ≤ 1000000000) (hs : s = ws.sum) (hs0 : 0 < s) :
    AFn Tryz.prog 64 [.int .i64 t, .pure 1 (numsE .i64 ws), .int .i64 s] []
      (fun v rs => ∃ S : List Int, S.Perm (idxL ws.length) ∧ S.Pairwise (lx (restL t s ws)) ∧ v = .own 0 ws.length 0 ws.length ∧ rs = [.live 3 1 (numsE .i64 (incs (partL t s ws) (S.take (missL t s ws).toNat)))]) := by
  refine afnW Tryz.func64 a64_ok (by simp [a64]) ?_
  simp only [go_sem,a64,a64r0,a64r1,a64r2,a64r3,a64r4,a64r5,a64r6,a64r7,a64r8,a64r9,a64r10,a64r11,a64r12,a64r13,a64r14,a64r15,a64r16,a64r17,a64r18]
  (repeat (first | (refine Cl.here ?_; simp only [go_sem]) | simp only [go_sem]))
  refine ⟨by omega, by omega, by omega, by omega, ?_⟩
  (repeat (first | (refine Cl.here ?_; simp only [go_sem]) | simp only [go_sem]))
  refine ⟨by omega, by omega, by omega, by omega, ?_⟩
  (repeat (first | (refine Cl.here ?_; simp only [go_sem]) | simp only [go_sem]))
  refine ⟨by omega, by omega, by omega, by omega, ?_⟩
  (repeat (first | (refine Cl.here ?_; simp only [go_sem]) | simp only [go_sem]))
  have hPl : (partL t s ws).length = ws.length := by simp [partL]
  have hRl : (restL t s ws).length = ws.length := by simp [restL]
  have hIl : (idxL ws.length).length = ws.length := by simp [idxL]
  have hP0 := fill_zero (L := partL t s ws)
  have hR0 := fill_zero (L := restL t s ws)
  have hI0 := fill_zero (L := idxL ws.length)
  rw [hPl] at hP0
  rw [hRl] at hR0
  rw [hIl] at hI0
  have hsb : s ≤ 39000000000 := by
    rw [hs]
    have : ∀ l : List Int, (∀ w ∈ l, 0 ≤ w ∧ w ≤ 1000000000) → l.sum ≤ 1000000000 * l.length := by
      intro l
      induction l with
      | nil => intro _; simp
      | cons x l ih => intro h; have := ih (fun y hy => h y (List.mem_cons_of_mem _ hy)); have := h x List.mem_cons_self; simp only [List.sum_cons, List.length_cons]; omega
    have := this ws hw
    omega
  have hsumb : ∀ i, i ≤ ws.length → 0 ≤ ((partL t s ws).take i).sum ∧ ((partL t s ws).take i).sum ≤ 1000000000 * i := by
    intro i
    induction i with
    | zero => intro _; simp
    | succ i ih =>
      intro h
      have h1 := ih (by omega)
      rw [sum_take (by rw [hPl]; omega)]
      have h2 : (partL t s ws)[i]'(by rw [hPl]; omega) = t * ws[i] / s := by simp [partL]
      have h3 := hw ws[i] (List.getElem_mem _)
      have h4 := part_bd ht h3.1 (by rw [hs]; exact mem_le_sum (fun w hw' => (hw w hw').1) _ (List.getElem_mem _)) hs0
      rw [h2]
      omega
  refine avcW_loop (fun env rows => ∃ i : Nat, i ≤ ws.length ∧ env = [(0, .int .i64 t), (2, .int .i64 s), (7, .own 0 ws.length 0 ws.length), (8, .ref 2 1 0 0), (9, .own 3 ws.length 0 ws.length), (10, .int .i64 (t - ((partL t s ws).take i).sum)), (25, .pure 1 (numsE .i64 ws)), (26, .int .i64 ws.length), (27, .int .i64 i)] ∧
      rows = [.live 3 1 (numsE .i64 (fillL (partL t s ws) i)), .live 3 1 (numsE .i64 (fillL (restL t s ws) i)), .live 22 1 [[.own 1 ws.length 0 ws.length]], .live 3 1 (numsE .i64 (fillL (idxL ws.length) i))])
    (fun env _ => match slot env 27 with | .int _ j => (ws.length - j).toNat | _ => 0) ?_ ?_
  · refine Cl.here ⟨0, by omega, by simp, ?_⟩
    rw [← hP0, ← hR0, ← hI0]
    try rfl
  rintro env rows ⟨i, hi, rfl, rfl⟩
  have hw1 : IntKind.i64.wrap ((i : Int) + 1) = ((i + 1 : Nat) : Int) := by rw [wrap_i64 (by omega) (by omega)]; omega
  simp only [go_sem,a64,a64r0,a64r1,a64r2,a64r3,a64r4,a64r5,a64r6,a64r7,a64r8,a64r9,a64r10,a64r11,a64r12,a64r13,a64r14,a64r15,a64r16,a64r17,a64r18]
  (refine Cl.here ?_; simp only [go_sem])
  refine condW_intro ?_ ?_ <;> intro hg2 <;> simp only [decide_eq_true_eq,decide_eq_false_iff_not,beq_iff_eq,beq_eq_false_iff_ne,bne_iff_ne,bne_eq_false_iff_eq,Bool.not_eq_true',Bool.not_eq_false',Int.not_lt,Int.not_le,ne_eq,Bool.and_eq_true,Bool.or_eq_true,Bool.or_eq_false_iff,Bool.and_eq_false_iff] at hg2 <;> simp only [go_sem,a64,a64r0,a64r1,a64r2,a64r3,a64r4,a64r5,a64r6,a64r7,a64r8,a64r9,a64r10,a64r11,a64r12,a64r13,a64r14,a64r15,a64r16,a64r17,a64r18]
  · have hlt : i < ws.length := by omega
    have hgw : (numsE .i64 ws).getD i [] = [.int .i64 ws[i]] := by rw [numsE_getD hlt, List.getD_eq_getElem?_getD, List.getElem?_eq_getElem hlt, Option.getD_some]
    have hi0 : (0 : Int) ≤ i := by omega
    have hsi := hsumb i (by omega)
    have hsi1 := hsumb (i + 1) (by omega)
    have hw2 := hw ws[i] (List.getElem_mem _)
    have hmul : t * ws[i] ≤ 1000000000 * 1000000000 := Int.mul_le_mul ht1 hw2.2 hw2.1 (by omega)
    have hmul0 : 0 ≤ t * ws[i] := Int.mul_nonneg ht hw2.1
    have hpb := part_bd ht hw2.1 (by rw [hs]; exact mem_le_sum (fun w hw' => (hw w hw').1) _ (List.getElem_mem hlt)) hs0
    have hrb1 := Int.emod_nonneg (t * ws[i]) (b := s) (by omega)
    have hrb2 := Int.emod_lt_of_pos (t * ws[i]) hs0
    have e1 : IntKind.i64.wrap (t * ws[i]) = t * ws[i] := wrap_i64 (by omega) (by omega)
    have e2 : IntKind.i64.wrap ((t * ws[i]).tdiv s) = t * ws[i] / s := by rw [Int.tdiv_eq_ediv_of_nonneg hmul0]; exact wrap_i64 (by omega) (by omega)
    have e3 : (t * ws[i]).tmod s = t * ws[i] % s := Int.tmod_eq_emod_of_nonneg hmul0
    have gP := fill_get (L := partL t s ws) (i := i) (by omega)
    have gR := fill_get (L := restL t s ws) (i := i) (by omega)
    have gI := fill_get (L := idxL ws.length) (i := i) (by omega)
    have sP := fill_set (L := partL t s ws) (i := i) (by omega)
    have sR := fill_set (L := restL t s ws) (i := i) (by omega)
    have sI := fill_set (L := idxL ws.length) (i := i) (by omega)
    have vP : (partL t s ws)[i]'(by omega) = t * ws[i] / s := by simp [partL]
    have vR : (restL t s ws)[i]'(by omega) = t * ws[i] % s := by simp [restL]
    have vI : (idxL ws.length)[i]'(by omega) = (i : Int) := by simp [idxL]
    have sT := sum_take (L := partL t s ws) (i := i) (by omega)
    rw [vP] at sP sT
    rw [vR] at sR
    rw [vI] at sI
    have lP := fill_len (L := partL t s ws) (i := i) (by omega)
    have lR := fill_len (L := restL t s ws) (i := i) (by omega)
    have lI := fill_len (L := idxL ws.length) (i := i) (by omega)
    (repeat (first | (refine Cl.here ?_; simp only [go_sem,hi0,hg2,hgw,Int.toNat_natCast,hw1]) | simp only [go_sem,hi0,hg2,hgw,Int.toNat_natCast,hw1]))
    have hs1 : ¬ s = 0 := by omega
    refine ⟨hs1, hs1, by omega, by omega, by omega, by omega, ?_⟩
    simp only [e1, e2, e3, gP, gR]
    simp only [go_sem,sP,sR]
    have lP1 := fill_len (L := partL t s ws) (i := i + 1) (by omega)
    have lI' : ws.length = (fillL (idxL ws.length) i).length := by omega
    have gPn : (numsE .i64 (fillL (partL t s ws) (i + 1))).getD i [] = [.int .i64 (t * ws[i] / s)] := by
      rw [numsE_getD (by omega)]
      unfold fillL
      rw [List.getD_eq_getElem?_getD, List.getElem?_append_left (by rw [List.length_take]; omega), List.getElem?_take, if_pos (by omega), List.getElem?_eq_getElem (by omega), Option.getD_some, vP]
    have eT : IntKind.i64.wrap (t - ((partL t s ws).take i).sum - t * ws[i] / s) = t - ((partL t s ws).take (i + 1)).sum := by
      rw [wrap_i64 (by omega) (by omega), sT]; omega
    (repeat (first | (refine Cl.here ?_; simp only [go_sem,hi0,hg2,gI,Int.toNat_natCast,hw1,sI,gPn,lI'.symm,eT]) | simp only [go_sem,hi0,hg2,gI,Int.toNat_natCast,hw1,sI,gPn,lI'.symm,eT]))
    refine ⟨by omega, by omega, ?_⟩
    (repeat (first | (refine Cl.here ?_; simp only [go_sem,eT,hw1]) | simp only [go_sem,eT,hw1]))
    exact ⟨⟨i + 1, by omega, rfl, rfl⟩, by omega⟩
  · obtain rfl : i = ws.length := by omega
    have f1 : fillL (partL t s ws) ws.length = partL t s ws := by rw [← hPl]; exact fill_all
    have f2 : fillL (restL t s ws) ws.length = restL t s ws := by rw [← hRl]; exact fill_all
    have f3 : fillL (idxL ws.length) ws.length = idxL ws.length := by conv => { lhs; arg 2; rw [← hIl] }; exact fill_all
    rw [f1, f2, f3, List.take_of_length_le (by omega)]
    have hmb := miss_bd (t := t) (ws := ws) hs hs0 hn
    have hm : t - (partL t s ws).sum = missL t s ws := rfl
    rw [hm]
    (refine Cl.frz [some 0,some 2,some 3] [ 1] rfl rfl (by simp only [go_sem] <;> rfl) ?_; simp only [go_sem])
    (repeat (first | (refine Cl.here ?_; simp only [go_sem]) | simp only [go_sem]))
    rw [if_pos hRl.symm, List.take_of_length_le (by omega)]
    have hcell : Row.live 22 1 [[AVal.pure 1 (numsE .i64 (restL t s ws))]] = rRow (restL t s ws) := rfl
    rw [hcell]
    have hsort := sortStable2_ok (restL t s ws) (idxL ws.length) (by omega) (by omega) (fun x hx => by
      unfold idxL at hx
      obtain ⟨k, hk, rfl⟩ := List.mem_map.1 hx
      rw [List.mem_range] at hk
      omega) (by
      unfold idxL
      rw [List.pairwise_map]
      exact List.pairwise_lt_range.imp fun h => by omega)
    rw [hIl] at hsort
    refine callC_of [2,1] [] (by decide) (by simp only [go_sem,bind_rRow] <;> rfl) (by simp only [go_sem] <;> rfl) hsort ?_
    rintro _ _ ⟨rfl, S, hS, hSp, rfl⟩
    refine ⟨.inl rfl, ?_⟩
    have hSl : S.length = ws.length := by rw [hS.length_eq, hIl]
    have hSm : ∀ x ∈ S, 0 ≤ x ∧ x < ws.length := fun x hx => by
      have := hS.mem_iff.1 hx
      unfold idxL at this
      obtain ⟨k, hk, rfl⟩ := List.mem_map.1 this
      rw [List.mem_range] at hk
      omega
    simp only [go_sem,ren_rRow]
    (repeat (first | (refine Cl.here ?_; simp only [go_sem]) | simp only [go_sem]))
    refine ⟨by omega, by omega, hSl.symm, ?_⟩
    (repeat (first | (refine Cl.here ?_; simp only [go_sem]) | simp only [go_sem]))
    have hPb : ∀ j, 0 ≤ (partL t s ws).getD j 0 ∧ (partL t s ws).getD j 0 ≤ 1000000000 := by
      intro j
      rcases Nat.lt_or_ge j ws.length with h | h
      · rw [List.getD_eq_getElem?_getD, List.getElem?_eq_getElem (by rw [hPl]; exact h), Option.getD_some]
        have h2 : (partL t s ws)[j]'(by rw [hPl]; exact h) = t * ws[j] / s := by simp [partL]
        have h3 := hw ws[j] (List.getElem_mem _)
        have h4 := part_bd ht h3.1 (by rw [hs]; exact mem_le_sum (fun w hw' => (hw w hw').1) _ (List.getElem_mem _)) hs0
        rw [h2]
        omega
      · rw [List.getD_eq_getElem?_getD, List.getElem?_eq_none (by rw [hPl]; exact h)]
        simp
    obtain ⟨m, hm2⟩ : ∃ m : Nat, missL t s ws = m := ⟨(missL t s ws).toNat, by omega⟩
    rw [hm2] at hmb ⊢
    rw [Int.toNat_natCast]
    refine avcW_loop (fun env rows => ∃ k : Nat, k ≤ m ∧ env = [(7, .own 0 ws.length 0 ws.length), (64, .own 2 ws.length 0 m), (65, .int .i64 m), (66, .int .i64 k)] ∧
        rows = [.live 3 1 (numsE .i64 (incs (partL t s ws) (S.take k))), rRow (restL t s ws), .live 3 1 (numsE .i64 S)])
      (fun env _ => match slot env 66 with | .int _ j => (m - j).toNat | _ => 0) ?_ ?_
    · exact Cl.here ⟨0, by omega, rfl, rfl⟩
    rintro env rows ⟨k, hk, rfl, rfl⟩
    have hwk : IntKind.i64.wrap ((k : Int) + 1) = ((k + 1 : Nat) : Int) := by rw [wrap_i64 (by omega) (by omega)]; omega
    simp only [go_sem,a64,a64r0,a64r1,a64r2,a64r3,a64r4,a64r5,a64r6,a64r7,a64r8,a64r9,a64r10,a64r11,a64r12,a64r13,a64r14,a64r15,a64r16,a64r17,a64r18]
    (refine Cl.here ?_; simp only [go_sem])
    refine condW_intro ?_ ?_ <;> intro hg3 <;> simp only [decide_eq_true_eq,decide_eq_false_iff_not,beq_iff_eq,beq_eq_false_iff_ne,bne_iff_ne,bne_eq_false_iff_eq,Bool.not_eq_true',Bool.not_eq_false',Int.not_lt,Int.not_le,ne_eq,Bool.and_eq_true,Bool.or_eq_true,Bool.or_eq_false_iff,Bool.and_eq_false_iff] at hg3 <;> simp only [go_sem,a64,a64r0,a64r1,a64r2,a64r3,a64r4,a64r5,a64r6,a64r7,a64r8,a64r9,a64r10,a64r11,a64r12,a64r13,a64r14,a64r15,a64r16,a64r17,a64r18]
    · have hkm : k < S.length := by omega
      have hgk : (numsE .i64 S).getD k [] = [.int .i64 S[k]] := by rw [numsE_getD hkm, List.getD_eq_getElem?_getD, List.getElem?_eq_getElem hkm, Option.getD_some]
      have hk0 : (0 : Int) ≤ k := by omega
      have hsn : S.take (k + 1) = S.take k ++ [S[k]] := by rw [List.take_add_one, List.getElem?_eq_getElem hkm]; rfl
      have hxr := hSm S[k] (List.getElem_mem _)
      have hb := incs_bd hPb (S.take k) S[k].toNat
      have htl : (S.take k).length = k := by rw [List.length_take]; omega
      rw [htl] at hb
      have hn := incs_snoc (P := partL t s ws) (is := S.take k) (i := S[k])
      rw [← hsn] at hn
      have hil : (incs (partL t s ws) (S.take k)).length = ws.length := by rw [incs_len, hPl]
      generalize S[k] = x at hgk hxr hb hn
      have hgx : (numsE .i64 (incs (partL t s ws) (S.take k))).getD x.toNat [] = [.int .i64 ((incs (partL t s ws) (S.take k)).getD x.toNat 0)] := numsE_getD (by omega)
      have hset : (numsE .i64 (incs (partL t s ws) (S.take k))).set x.toNat [.int .i64 ((incs (partL t s ws) (S.take k)).getD x.toNat 0 + 1)] = numsE .i64 (incs (partL t s ws) (S.take (k + 1))) := by
        rw [hn]
        unfold numsE
        rw [List.map_set]
      have hx0 := hxr.1
      have hx1 := hxr.2
      have hwx : IntKind.i64.wrap ((incs (partL t s ws) (S.take k)).getD x.toNat 0 + 1) = (incs (partL t s ws) (S.take k)).getD x.toNat 0 + 1 := wrap_i64 (by omega) (by omega)
      (repeat (first | (refine Cl.here ?_; simp only [go_sem,hk0,hg3,hgk,Int.toNat_natCast,Nat.zero_add,hx0,hx1]) | simp only [go_sem,hk0,hg3,hgk,Int.toNat_natCast,Nat.zero_add,hx0,hx1]))
      refine ⟨hSl.symm, hSl.symm, ?_⟩
      (repeat (first | (refine Cl.here ?_; simp only [go_sem,hgx,hset,hwx,hil,hx0,hx1,hwk,List.drop_one,List.tail_cons]) | simp only [go_sem,hgx,hset,hwx,hil,hx0,hx1,hwk,List.drop_one,List.tail_cons]))
      exact ⟨⟨k + 1, by omega, rfl, rfl⟩, by omega⟩
    · obtain rfl : k = m := by omega
      (repeat (first | (refine Cl.here ?_; simp only [go_sem]) | simp only [go_sem]))
      (refine Cl.tr [some 0] [] rfl rfl (by simp only [go_sem] <;> rfl) ?_; simp only [go_sem])
      exact Cl.here ⟨S, hS, hSp, rfl, rfl⟩

set_option maxHeartbeats 1000000 in
theorem allocate_ok (t : Int) (ws : List Int) (hn : 0 < ws.length) (hl : ws.length ≤ 39) (ht : 0 ≤ t) (ht1 : t ≤ 1000000000) (hw : ∀ w ∈ ws, 0 ≤ w ∧ w ≤ 1000000000) :
    AFn Tryz.prog 43 [.int .i64 t, .pure 1 (numsE .i64 ws)] []
      (fun v rs => (ws.sum = 0 ∧ v = .tup [.nils, .int .i64 5] ∧ rs = []) ∨ (0 < ws.sum ∧ ∃ S : List Int, S.Perm (idxL ws.length) ∧ S.Pairwise (lx (restL t ws.sum ws)) ∧ v = .tup [.own 0 ws.length 0 ws.length, .int .i64 0] ∧ rs = [.live 3 1 (numsE .i64 (incs (partL t ws.sum ws) (S.take (missL t ws.sum ws).toNat)))])) := by
  refine afn Tryz.func43 a43_ok (by simp [a43]) ?_
  have c1 : ¬ (ws.length : Int) > 1024 := by omega
  have c2 : ¬ t < -1000000000 := by omega
  have c3 : ¬ t > 1000000000 := by omega
  have hsb : ∀ i, i ≤ ws.length → 0 ≤ (ws.take i).sum ∧ (ws.take i).sum ≤ 1000000000 * i := by
    intro i
    induction i with
    | zero => intro _; simp
    | succ i ih =>
      intro h
      have h1 := ih (by omega)
      rw [sum_take (by omega)]
      have h3 := hw ws[i] (List.getElem_mem _)
      omega
  simp only [go_sem,a43,a43r0,a43r1,a43r2,a43r3,a43r4,a43r5,a43r6,a43r7,a43r8,a43r9,a43r10,a43r11,a43r12,a43r13,a43r14,a43r15,a43r16,a43r17,a43r18,a43r19,a43r20,a43r21,a43r22,a43r23,c1,c2,c3]
  refine avc_loop (fun env rows => ∃ i : Nat, i ≤ ws.length ∧ env = [(0, .int .i64 t), (1, .pure 1 (numsE .i64 ws)), (6, .int .i64 ((ws.take i).sum)), (20, .pure 1 (numsE .i64 ws)), (21, .int .i64 ws.length), (22, .int .i64 i)] ∧ rows = [])
    (fun env _ => match slot env 22 with | .int _ j => (ws.length - j).toNat | _ => 0) ?_ ?_
  · exact Cl.here ⟨0, by omega, rfl, rfl⟩
  rintro env rows ⟨i, hi, rfl, rfl⟩
  have hw1 : IntKind.i64.wrap ((i : Int) + 1) = ((i + 1 : Nat) : Int) := by rw [wrap_i64 (by omega) (by omega)]; omega
  simp only [go_sem,a43,a43r0,a43r1,a43r2,a43r3,a43r4,a43r5,a43r6,a43r7,a43r8,a43r9,a43r10,a43r11,a43r12,a43r13,a43r14,a43r15,a43r16,a43r17,a43r18,a43r19,a43r20,a43r21,a43r22,a43r23]
  refine condC_intro ?_ ?_ <;> intro hg2 <;> simp only [decide_eq_true_eq,decide_eq_false_iff_not,beq_iff_eq,beq_eq_false_iff_ne,bne_iff_ne,bne_eq_false_iff_eq,Bool.not_eq_true',Bool.not_eq_false',Int.not_lt,Int.not_le,ne_eq,Bool.and_eq_true,Bool.or_eq_true,Bool.or_eq_false_iff,Bool.and_eq_false_iff] at hg2 <;> simp only [go_sem,a43,a43r0,a43r1,a43r2,a43r3,a43r4,a43r5,a43r6,a43r7,a43r8,a43r9,a43r10,a43r11,a43r12,a43r13,a43r14,a43r15,a43r16,a43r17,a43r18,a43r19,a43r20,a43r21,a43r22,a43r23]
  · have hlt : i < ws.length := by omega
    have hgw : (numsE .i64 ws).getD i [] = [.int .i64 ws[i]] := by rw [numsE_getD hlt, List.getD_eq_getElem?_getD, List.getElem?_eq_getElem hlt, Option.getD_some]
    have hi0 : (0 : Int) ≤ i := by omega
    have hb := hsb i (by omega)
    have hsn := sum_take hlt
    have hwi := hw ws[i] (List.getElem_mem _)
    generalize ws[i] = w at hgw hsn hwi
    have d1 : ¬ w < 0 := by omega
    have d2 : ¬ w > 1000000000 := by omega
    simp only [go_sem,hi0,hg2,hgw,Int.toNat_natCast,d1,d2]
    rw [wrap_i64 (x := (ws.take i).sum + w) (by omega) (by omega), ← hsn, hw1]
    refine Cl.here ⟨⟨i + 1, by omega, rfl, rfl⟩, ?_⟩
    simp only [go_sem]
    omega
  · obtain rfl : i = ws.length := by omega
    rw [List.take_length]
    have hb := hsb ws.length (Nat.le_refl _)
    rw [List.take_length] at hb
    by_cases hz : ws.sum = 0
    · have hzb : (ws.sum == 0) = true := by simp [hz]
      simp only [go_sem,hzb]
      exact Cl.fin rfl (.inl ⟨hz, rfl, rfl⟩)
    · have hzb : (ws.sum == 0) = false := by simp [hz]
      have hge : t ≥ 0 := ht
      simp only [go_sem,hzb,hge]
      (refine callC_of [] [] (by simp) rfl (bindL_clean _ (by first | rfl | simp only [go_sem])) (divide_ok t ws.sum ws hn hl ht ht1 hw rfl (by omega)) ?_; rintro _ _ ⟨S,hS,hSp,rfl,rfl⟩; refine ⟨.inl rfl,?_⟩; simp only [go_sem])
      exact Cl.here (.inr ⟨by omega, S, hS, hSp, rfl, rfl⟩)

end Go.Proofs.YtlanehcihoiglaaGreatDoor
