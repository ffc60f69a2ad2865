/- slices.SortStableFunc at indexes, by the rests of a division: the least parts first. -/
import Derived.Test.YtlanehcihoiglaaGreatDoorE3Sort
import Derived.Test.YtlanehcihoiglaaGreatDoorAbs41
set_option linter.unusedSimpArgs false
set_option linter.unusedVariables false
set_option linter.unusedSectionVars false
namespace Go.Proofs.YtlanehcihoiglaaGreatDoor
open Go Go.Abs
set_option linter.unusedSimpArgs false
set_option linter.unusedVariables false

def cmpI (a b : Int) : Int := if a < b then -1 else if b < a then 1 else 0
theorem cmpI_neg {a b : Int} : cmpI a b < 0 ↔ a < b := by
  unfold cmpI; split
  · simp_all
  · split <;> simp_all
theorem isNaN_ok (a : Int) : AFn Tryz.prog 89 [.int .i64 a] [] (fun v rs => v = .bool false ∧ rs = []) := by
  refine afn Tryz.func89 a89_ok (by simp [a89]) ?_
  simp only [go_sem,a89,a89r0,a89r1,bne_self_eq_false]
  exact Cl.fin rfl ⟨rfl, rfl⟩
theorem cmp_ok (a b : Int) : AFn Tryz.prog 78 [.int .i64 a, .int .i64 b] [] (fun v rs => v = .int .i64 (cmpI a b) ∧ rs = []) := by
  refine afn Tryz.func78 a78_ok (by simp [a78]) ?_
  simp only [go_sem,a78,a78r0,a78r1,a78r2,a78r3,a78r4,a78r5,a78r6,a78r7,a78r8,a78r9,a78r10,a78r11,a78r12,a78r13]
  refine callC_det (isNaN_ok a) rfl rfl ?_
  simp only [go_sem]
  refine callC_det (isNaN_ok b) rfl rfl ?_
  simp only [go_sem]
  repeat' (first | (refine grdC_intro ?_ ?_ <;> intro hg <;> (have hp := hg; try simp only [decide_eq_true_eq,decide_eq_false_iff_not,beq_iff_eq,beq_eq_false_iff_ne,bne_iff_ne,bne_eq_false_iff_eq,Bool.not_eq_true',Bool.not_eq_false',Int.not_lt,Int.not_le,ne_eq,Bool.and_eq_true,Bool.or_eq_true,Bool.or_eq_false_iff,Bool.and_eq_false_iff] at hp) <;> (first | omega | (simp only [go_sem,hg,a78,a78r0,a78r1,a78r2,a78r3,a78r4,a78r5,a78r6,a78r7,a78r8,a78r9,a78r10,a78r11,a78r12,a78r13]; clear hg))) | (refine grdD_intro ?_ ?_ <;> intro hg <;> (have hp := hg; try simp only [decide_eq_true_eq,decide_eq_false_iff_not,beq_iff_eq,beq_eq_false_iff_ne,bne_iff_ne,bne_eq_false_iff_eq,Bool.not_eq_true',Bool.not_eq_false',Int.not_lt,Int.not_le,ne_eq,Bool.and_eq_true,Bool.or_eq_true,Bool.or_eq_false_iff,Bool.and_eq_false_iff] at hp) <;> (first | omega | (simp only [go_sem,hg,a78,a78r0,a78r1,a78r2,a78r3,a78r4,a78r5,a78r6,a78r7,a78r8,a78r9,a78r10,a78r11,a78r12,a78r13]; clear hg))) | (refine condC_intro ?_ ?_ <;> intro hg <;> (have hp := hg; try simp only [decide_eq_true_eq,decide_eq_false_iff_not,beq_iff_eq,beq_eq_false_iff_ne,bne_iff_ne,bne_eq_false_iff_eq,Bool.not_eq_true',Bool.not_eq_false',Int.not_lt,Int.not_le,ne_eq,Bool.and_eq_true,Bool.or_eq_true,Bool.or_eq_false_iff,Bool.and_eq_false_iff] at hp) <;> (first | omega | (simp only [go_sem,hg,a78,a78r0,a78r1,a78r2,a78r3,a78r4,a78r5,a78r6,a78r7,a78r8,a78r9,a78r10,a78r11,a78r12,a78r13]; clear hg))) | (refine condW_intro ?_ ?_ <;> intro hg <;> (have hp := hg; try simp only [decide_eq_true_eq,decide_eq_false_iff_not,beq_iff_eq,beq_eq_false_iff_ne,bne_iff_ne,bne_eq_false_iff_eq,Bool.not_eq_true',Bool.not_eq_false',Int.not_lt,Int.not_le,ne_eq,Bool.and_eq_true,Bool.or_eq_true,Bool.or_eq_false_iff,Bool.and_eq_false_iff] at hp) <;> (first | omega | (simp only [go_sem,hg,a78,a78r0,a78r1,a78r2,a78r3,a78r4,a78r5,a78r6,a78r7,a78r8,a78r9,a78r10,a78r11,a78r12,a78r13]; clear hg))))
  · exact Cl.fin rfl ⟨by rw [cmpI, if_pos hp], rfl⟩
  · refine Cl.fin rfl ⟨?_, rfl⟩
    rw [cmpI, if_neg (by omega), if_pos (by omega)]
  · refine Cl.fin rfl ⟨?_, rfl⟩
    rw [cmpI, if_neg (by omega), if_neg (by omega)]

/-- the rest of a part -/
def rst (R : List Int) (i : Int) : Int := R.getD i.toNat 0
def rRow (R : List Int) : Row := .live 22 1 [[.pure 1 (numsE .i64 R)]]
theorem rst_get {R : List Int} {i : Int} (h0 : 0 ≤ i) (h1 : i < R.length) : (numsE .i64 R).getD i.toNat [] = [.int .i64 (rst R i)] := by
  rw [numsE_getD (by omega), rst]
theorem less_ok (R : List Int) (i j : Int) (h0 : 0 ≤ i) (h1 : i < R.length) (h2 : 0 ≤ j) (h3 : j < R.length) : AFn Tryz.prog 77 [.int .i64 i, .int .i64 j, .ref 0 1 0 0] [rRow R] (fun v rs => v = .int .i64 (cmpI (rst R j) (rst R i)) ∧ rs = [rRow R]) := by
  refine afn Tryz.func77 a77_ok (by simp [a77]) ?_
  unfold rRow
  simp only [go_sem,a77,a77r0,a77r1,h0,h1,h2,h3,rst_get h0 h1,rst_get h2 h3]
  refine callD_det (cmp_ok _ _) rfl rfl ?_
  simp only [go_sem]
  exact Cl.here ⟨rfl, rfl⟩

/-- the order of the parts: the greater rest first, then the lesser index -/
def lx (R : List Int) (x y : Int) : Prop := rst R y < rst R x ∨ (rst R x = rst R y ∧ x < y)
theorem lx_trans {R : List Int} {x y z : Int} (h : lx R x y) (k : lx R y z) : lx R x z := by unfold lx at *; omega
theorem lx_asymm {R : List Int} {x y : Int} (h : lx R x y) (k : lx R y x) : False := by unfold lx at *; omega

theorem num_get {P Q : List Int} {x : Int} : (numsE .i64 (P ++ x :: Q)).getD P.length [] = [.int .i64 x] := by
  rw [numsE_getD (by simp)]
  simp
theorem num_get1 {P Q : List Int} {x y : Int} : (numsE .i64 (P ++ y :: x :: Q)).getD (P.length + 1) [] = [.int .i64 x] := by
  rw [numsE_getD (by simp)]
  simp [List.getElem?_append_right]
theorem num_swap {P Q : List Int} {x y : Int} : ((numsE .i64 (P ++ y :: x :: Q)).set (P.length + 1) [.int .i64 y]).set P.length [.int .i64 x] = numsE .i64 (P ++ x :: y :: Q) := by
  have h : ∀ (P : List (List AVal)) (a b c d : List AVal) (Q : List (List AVal)), ((P ++ a :: b :: Q).set (P.length + 1) c).set P.length d = P ++ d :: c :: Q := by
    intro P a b c d Q
    induction P with
    | nil => rfl
    | cons p P ih => simp only [List.cons_append, List.length_cons, List.set_cons_succ, ih]
  have h2 := h (numsE .i64 P) [.int .i64 y] [.int .i64 x] [.int .i64 y] [.int .i64 x] (numsE .i64 Q)
  simp only [numsE, List.length_map, List.map_append, List.map_cons] at h2 ⊢
  exact h2

theorem num_getS {P Q : List Int} {x y : Int} {v : List AVal} : ((numsE .i64 (P ++ y :: x :: Q)).set (P.length + 1) v).getD P.length [] = [.int .i64 y] := by
  have h : ∀ (P : List (List AVal)) (a b c : List AVal) (Q : List (List AVal)), ((P ++ a :: b :: Q).set (P.length + 1) c).getD P.length [] = a := by
    intro P a b c Q
    induction P with
    | nil => rfl
    | cons p P ih => simp only [List.cons_append, List.length_cons, List.set_cons_succ, List.getD_cons_succ, ih]
  have h2 := h (numsE .i64 P) [.int .i64 y] [.int .i64 x] v (numsE .i64 Q)
  simp only [numsE, List.length_map, List.map_append, List.map_cons] at h2 ⊢
  exact h2
theorem bind_rRow {rows : List Row} {sel : List (Option Nat)} {vw : List Nat} {R : List Int} : bindRow rows sel vw (rRow R) = rRow R := rfl
theorem ren_rRow {g : Nat → Nat} {R : List Int} : renRow g (rRow R) = rRow R := rfl

set_option maxHeartbeats 1000000 in
theorem insertion_ok (R D : List Int) (a b : Nat) (hab : a ≤ b) (hb : b ≤ D.length) (hl : D.length ≤ 1000000) (hr : ∀ x ∈ D, 0 ≤ x ∧ x < R.length) (hinc : ∀ p q (hp : a ≤ p) (hpq : p < q) (hq : q < b), D[p]'(by omega) < D[q]'(by omega)) :
    AFn Tryz.prog 103 [.own 0 D.length 0 D.length, .int .i64 a, .int .i64 b, .fn 77 [.ref 1 1 0 0]] [.live 3 1 (numsE .i64 D), rRow R]
      (fun v rs => v = .tup [] ∧ ∃ S : List Int, S.Perm ((D.drop a).take (b - a)) ∧ S.Pairwise (lx R) ∧ rs = [.live 3 1 (numsE .i64 (D.take a ++ S ++ D.drop b)), rRow R]) := by
  refine afn Tryz.func103 a103_ok (by simp [a103]) ?_
  have hwa : IntKind.i64.wrap ((a : Int) + 1) = (a : Int) + 1 := wrap_i64 (by omega) (by omega)
  simp only [go_sem,a103,a103r0,a103r1,a103r2,a103r3,a103r4,a103r5,a103r6,hwa]
  rcases Nat.lt_or_ge a b with hlt | hge
  rotate_left
  · obtain rfl : a = b := by omega
    refine avc_loop (fun env rows => env = [(0, .own 0 D.length 0 D.length), (1, .int .i64 a), (2, .int .i64 a), (3, .fn 77 [.ref 1 1 0 0]), (8, .int .i64 ((a : Int) + 1))] ∧ rows = [.live 3 1 (numsE .i64 D), rRow R]) (fun _ _ => 0) ?_ ?_
    · exact Cl.here ⟨rfl, rfl⟩
    rintro env rows ⟨rfl, rfl⟩
    have hn : ¬ (a : Int) + 1 < a := by omega
    simp only [go_sem,a103,a103r0,a103r1,a103r2,a103r3,a103r4,a103r5,a103r6,hn]
    refine Cl.here ⟨rfl, [], by simp, List.Pairwise.nil, ?_⟩
    rw [List.append_nil, List.take_append_drop]
  have hD0 : D.drop a = D[a]'(by omega) :: D.drop (a + 1) := List.drop_eq_getElem_cons (by omega)
  refine avc_loop (fun env rows => ∃ (i : Nat) (S : List Int), a < i ∧ i ≤ b ∧ S.Perm ((D.drop a).take (i - a)) ∧ S.Pairwise (lx R) ∧ env = [(0, .own 0 D.length 0 D.length), (1, .int .i64 a), (2, .int .i64 b), (3, .fn 77 [.ref 1 1 0 0]), (8, .int .i64 i)] ∧ rows = [.live 3 1 (numsE .i64 (D.take a ++ S ++ D.drop i)), rRow R])
    (fun env _ => match slot env 8 with | .int _ j => (b - j).toNat | _ => 0) ?_ ?_
  · refine Cl.here ⟨a + 1, [D[a]'(by omega)], by omega, by omega, ?_, List.pairwise_singleton _ _, by simp, ?_⟩
    · rw [hD0, show a + 1 - a = 1 from by omega]; exact List.Perm.of_eq rfl
    · rw [List.append_assoc, List.singleton_append, ← hD0, List.take_append_drop]
  rintro env rows ⟨i, S, hi1, hi2, hS, hSp, rfl, rfl⟩
  have hwi : IntKind.i64.wrap ((i : Int) + 1) = ((i + 1 : Nat) : Int) := by rw [wrap_i64 (by omega) (by omega)]; omega
  have hSl : S.length = i - a := by rw [hS.length_eq, List.length_take, List.length_drop]; omega
  simp only [go_sem,a103,a103r0,a103r1,a103r2,a103r3,a103r4,a103r5,a103r6]
  refine condC_intro ?_ ?_ <;> intro hg2 <;> simp only [decide_eq_true_eq,decide_eq_false_iff_not,beq_iff_eq,beq_eq_false_iff_ne,bne_iff_ne,bne_eq_false_iff_eq,Bool.not_eq_true',Bool.not_eq_false',Int.not_lt,Int.not_le,ne_eq,Bool.and_eq_true,Bool.or_eq_true,Bool.or_eq_false_iff,Bool.and_eq_false_iff] at hg2 <;> simp only [go_sem,a103,a103r0,a103r1,a103r2,a103r3,a103r4,a103r5,a103r6]
  · have hib : i < D.length := by omega
    have hDi : D.drop i = D[i] :: D.drop (i + 1) := List.drop_eq_getElem_cons hib
    have hxS : ∀ y ∈ S, y < D[i] ∧ 0 ≤ y ∧ y < R.length := by
      intro y hy
      have h1 := hS.mem_iff.1 hy
      obtain ⟨k, hk, rfl⟩ := List.getElem_of_mem h1
      rw [List.length_take, List.length_drop] at hk
      rw [List.getElem_take, List.getElem_drop]
      exact ⟨hinc _ _ (by omega) (by omega) (by omega), hr _ (List.getElem_mem _)⟩
    have hxr := hr D[i] (List.getElem_mem hib)
    have hnext : ((D.drop a).take (i + 1 - a)) = (D.drop a).take (i - a) ++ [D[i]] := by
      rw [show i + 1 - a = i - a + 1 from by omega, List.take_add_one, List.getElem?_drop, show a + (i - a) = i from by omega, List.getElem?_eq_getElem hib]
      rfl
    generalize D[i] = x at hDi hxS hxr hnext
    refine avc_loop (fun env rows => ∃ T U : List Int, S = T ++ U ∧ (∀ u ∈ U, lx R x u) ∧ env = [(0, .own 0 D.length 0 D.length), (1, .int .i64 a), (2, .int .i64 b), (3, .fn 77 [.ref 1 1 0 0]), (8, .int .i64 i), (9, .int .i64 ((a + T.length : Nat) : Int))] ∧ rows = [.live 3 1 (numsE .i64 ((D.take a ++ T) ++ x :: (U ++ D.drop (i + 1)))), rRow R])
      (fun env _ => match slot env 9 with | .int _ j => j.toNat | _ => 0) ?_ ?_
    · refine Cl.here ⟨S, [], by simp, by simp, ?_, ?_⟩
      · rw [hSl, show a + (i - a) = i from by omega]
      · rw [List.nil_append, hDi]
    rintro env rows ⟨T, U, rfl, hU, rfl, rfl⟩
    have hTl : (D.take a ++ T).length = a + T.length := by rw [List.length_append, List.length_take]; omega
    have hlen : ((D.take a ++ T) ++ x :: (U ++ D.drop (i + 1))).length = D.length := by
      rw [List.length_append] at hSl
      simp only [List.length_append, List.length_cons, List.length_take, List.length_drop]
      omega
    rcases List.eq_nil_or_concat T with rfl | ⟨T', y, rfl⟩
    · have hn : ¬ (a : Int) < a := by omega
      simp only [go_sem,a103,a103r0,a103r1,a103r2,a103r3,a103r4,a103r5,a103r6,hn,gt_iff_lt,Nat.add_zero,hwi]
      rw [List.nil_append] at hS hSp
      refine Cl.here ⟨⟨i + 1, x :: U, by omega, by omega, ?_, ?_, rfl, by simp⟩, ?_⟩
      · rw [hnext]
        exact (hS.cons x).trans (List.perm_append_comm (l₁ := [x]))
      · exact List.pairwise_cons.2 ⟨hU, hSp⟩
      · simp only [go_sem]
        omega
    · rw [List.concat_eq_append] at *
      have hE : D.take a ++ (T' ++ [y]) ++ x :: (U ++ D.drop (i + 1)) = (D.take a ++ T') ++ y :: x :: (U ++ D.drop (i + 1)) := by simp
      rw [hE] at hlen ⊢
      have hPl : (D.take a ++ T').length = a + T'.length := by rw [List.length_append, List.length_take]; omega
      have hTl2 : (T' ++ [y]).length = T'.length + 1 := by simp
      have hyS := hxS y (by simp)
      have hidx : ((a + (T' ++ [y]).length : Nat) : Int) = (((D.take a ++ T').length + 1 : Nat) : Int) := by rw [hPl, hTl2]; omega
      rw [hidx]
      have hbd : (D.take a ++ T').length + 1 < D.length := by rw [← hlen]; simp; omega
      generalize hP : D.take a ++ T' = P at *
      generalize hQ : U ++ D.drop (i + 1) = Q at *
      have hgt : ((P.length + 1 : Nat) : Int) > a := by omega
      have hw1 : IntKind.i64.wrap (((P.length + 1 : Nat) : Int) - 1) = (P.length : Int) := by rw [wrap_i64 (by omega) (by omega)]; omega
      have hlb : ((P.length + 1 : Nat) : Int) < D.length := by omega
      have hlb2 : (P.length : Int) < D.length := by omega
      have hz1 : (0 : Int) ≤ ((P.length + 1 : Nat) : Int) := by omega
      have hz2 : (0 : Int) ≤ (P.length : Int) := by omega
      have hless := less_ok R x y (by omega) (by omega) (by omega) (by omega)
      simp only [go_sem,a103,a103r0,a103r1,a103r2,a103r3,a103r4,a103r5,a103r6,hgt,hw1,hlb,hlb2,hz1,hz2,hlen,Int.toNat_natCast,num_get,num_get1]
      refine ⟨⟨_, Tryz.func77, by kernel_rfl⟩, ?_⟩
      (refine callD_of [1] [] (by simp only [go_sem]) (by decide) (by simp only [go_sem] <;> rfl) (by simp only [go_sem] <;> rfl) (hless) ?_; rintro _ _ ⟨rfl,rfl⟩; refine ⟨.inl rfl,?_⟩; simp only [go_sem])
      by_cases hyx : rst R y < rst R x
      · have hc : cmpI (rst R y) (rst R x) < 0 := cmpI_neg.2 hyx
        simp only [go_sem,hc,hw1,hlb,hlb2,hz1,hz2,hlen,Int.toNat_natCast,num_get,num_get1,num_swap,num_getS,numsE_length,ren_rRow,List.drop_one,List.tail_cons,a103,a103r0,a103r1,a103r2,a103r3,a103r4,a103r5,a103r6]
        refine Cl.here ⟨⟨T', y :: U, by simp, ?_, ?_, ?_⟩, ?_⟩
        · intro u hu
          rcases List.mem_cons.1 hu with rfl | hu
          · exact .inl hyx
          · exact hU u hu
        · rw [hPl]
        · rw [← hQ, ← hP]; rfl
        · simp only [go_sem]
          omega
      · have hc : ¬ cmpI (rst R y) (rst R x) < 0 := fun h => hyx (cmpI_neg.1 h)
        simp only [go_sem,hc,hwi,ren_rRow,a103,a103r0,a103r1,a103r2,a103r3,a103r4,a103r5,a103r6]
        have hyl : lx R y x := by unfold lx; omega
        refine Cl.here ⟨⟨i + 1, T' ++ [y] ++ x :: U, by omega, by omega, ?_, ?_, rfl, ?_⟩, ?_⟩
        · rw [hnext]
          refine List.Perm.trans ?_ (hS.append_right [x])
          simp only [List.append_assoc]
          exact (List.perm_append_comm (l₁ := [x])).append_left _ |>.append_left _
        · have h1 := List.pairwise_append.1 hSp
          have h2 := List.pairwise_append.1 h1.1
          refine List.pairwise_append.2 ⟨h1.1, List.pairwise_cons.2 ⟨hU, h1.2.1⟩, ?_⟩
          intro p hp q hq
          have hpx : lx R p x := by
            rcases List.mem_append.1 hp with hp | hp
            · exact lx_trans (h2.2.2 p hp y (by simp)) hyl
            · rw [List.mem_singleton] at hp; subst hp; exact hyl
          rcases List.mem_cons.1 hq with rfl | hq
          · exact hpx
          · exact h1.2.2 p hp q hq
        · rw [← hQ, ← hP]; simp
        · simp only [go_sem]
          omega
  · obtain rfl : i = b := by omega
    exact Cl.here ⟨rfl, S, hS, hSp, rfl⟩

/-- few parts: one insertion sort -/
theorem stable_ok (R D : List Int) (h0 : 0 < D.length) (hl : D.length ≤ 19) (hr : ∀ x ∈ D, 0 ≤ x ∧ x < R.length) (hinc : D.Pairwise (· < ·)) :
    AFn Tryz.prog 88 [.own 0 D.length 0 D.length, .int .i64 D.length, .fn 77 [.ref 1 1 0 0]] [.live 3 1 (numsE .i64 D), rRow R]
      (fun v rs => v = .tup [] ∧ ∃ S : List Int, S.Perm D ∧ S.Pairwise (lx R) ∧ rs = [.live 3 1 (numsE .i64 S), rRow R]) := by
  refine afn Tryz.func88 a88_ok (by simp [a88]) ?_
  have hins := insertion_ok R D 0 D.length (by omega) (Nat.le_refl _) (by omega) hr (fun p q hp hpq hq => List.pairwise_iff_getElem.1 hinc p q _ _ hpq)
  simp only [go_sem,a88,a88r0,a88r1,a88r2,a88r3,a88r4,a88r5,a88r6,a88r7,a88r8,a88r9,a88r10,a88r11,a88r12,a88r13,a88r14,a88r15,a88r16]
  refine avc_loop (fun env rows => env = [(0, .own 0 D.length 0 D.length), (1, .int .i64 D.length), (2, .fn 77 [.ref 1 1 0 0]), (6, .int .i64 20), (7, .int .i64 0), (8, .int .i64 20)] ∧ rows = [.live 3 1 (numsE .i64 D), rRow R]) (fun _ _ => 0) ?_ ?_
  · exact Cl.here ⟨rfl, rfl⟩
  rintro env rows ⟨rfl, rfl⟩
  have hn : ¬ (20 : Int) ≤ D.length := by omega
  simp only [go_sem,a88,a88r0,a88r1,a88r2,a88r3,a88r4,a88r5,a88r6,a88r7,a88r8,a88r9,a88r10,a88r11,a88r12,a88r13,a88r14,a88r15,a88r16,hn]
  rw [Int.natCast_zero] at hins
  refine callC_of [0,1] [] (by decide) (by simp only [go_sem,bind_rRow] <;> rfl) (by simp only [go_sem] <;> rfl) hins ?_
  rintro _ _ ⟨rfl, S, hS, hSp, rfl⟩
  refine ⟨.inl rfl, ?_⟩
  have hS' : S.Perm D := by simpa using hS
  have hSl := hS'.length_eq
  rw [List.take_zero, List.nil_append, List.drop_length, List.append_nil]
  simp only [go_sem,ren_rRow]
  refine avc_loop (fun env rows => env = [(0, .own 0 D.length 0 D.length), (1, .int .i64 D.length), (2, .fn 77 [.ref 1 1 0 0]), (6, .int .i64 20)] ∧ rows = [.live 3 1 (numsE .i64 S), rRow R]) (fun _ _ => 0) ?_ ?_
  · exact Cl.here ⟨rfl, rfl⟩
  rintro env rows ⟨rfl, rfl⟩
  have hn2 : ¬ (20 : Int) < D.length := by omega
  simp only [go_sem,a88,a88r0,a88r1,a88r2,a88r3,a88r4,a88r5,a88r6,a88r7,a88r8,a88r9,a88r10,a88r11,a88r12,a88r13,a88r14,a88r15,a88r16,hn2]
  exact Cl.here ⟨rfl, S, hS', hSp, rfl⟩
theorem sortStable_ok (R D : List Int) (h0 : 0 < D.length) (hl : D.length ≤ 19) (hr : ∀ x ∈ D, 0 ≤ x ∧ x < R.length) (hinc : D.Pairwise (· < ·)) :
    AFn Tryz.prog 76 [.own 0 D.length 0 D.length, .fn 77 [.ref 1 1 0 0]] [.live 3 1 (numsE .i64 D), rRow R]
      (fun v rs => v = .tup [] ∧ ∃ S : List Int, S.Perm D ∧ S.Pairwise (lx R) ∧ rs = [.live 3 1 (numsE .i64 S), rRow R]) := by
  refine afn Tryz.func76 a76_ok (by simp [a76]) ?_
  simp only [go_sem,a76,a76r0]
  refine callC_of [0,1] [] (by decide) (by simp only [go_sem,bind_rRow] <;> rfl) (by simp only [go_sem] <;> rfl) (stable_ok R D h0 hl hr hinc) ?_
  rintro _ _ ⟨rfl, S, hS, hSp, rfl⟩
  refine ⟨.inl rfl, ?_⟩
  simp only [go_sem,ren_rRow]
  exact Cl.here ⟨rfl, S, hS, hSp, rfl⟩

end Go.Proofs.YtlanehcihoiglaaGreatDoor
