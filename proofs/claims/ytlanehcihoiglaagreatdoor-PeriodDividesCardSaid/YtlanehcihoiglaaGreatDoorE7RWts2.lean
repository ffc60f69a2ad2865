/- The reference's Weights. -/
import Derived.Test.YtlanehcihoiglaaGreatDoorE7RWts
import Derived.Test.YtlanehcihoiglaaGreatDoorE7PRef
set_option linter.unusedSimpArgs false
set_option linter.unusedVariables false
set_option linter.unusedSectionVars false
namespace Go.Proofs.YtlanehcihoiglaaGreatDoor
open Go Go.Abs
set_option linter.unusedSimpArgs false
set_option linter.unusedVariables false

theorem rweight_ok (d m : Int) (hs : List Hol) (hl : hs.length ≤ 1024) (hv : validL hs = true) (hd : okD d) (hm : m = 0 ∨ m = 1 ∨ m = 2) : AFn Tryz.prog 40 [.int .i64 d, .int .i64 m, .pure 6 (els hs)] [] (fun v rs => v = .int .i64 (dW m hs d) ∧ rs = []) := by
  refine afn Tryz.func40 a40_ok (by simp [a40]) ?_
  unfold dW
  rcases hm with rfl | rfl | rfl
  · simp only [go_sem,a40,a40r0,a40r1,a40r2,a40r3,a40r4,a40r5,a40r6,a40r7,a40r8,a40r9,a40r10,a40r11,a40r12]
    exact Cl.fin rfl ⟨rfl, rfl⟩
  · simp only [go_sem,a40,a40r0,a40r1,a40r2,a40r3,a40r4,a40r5,a40r6,a40r7,a40r8,a40r9,a40r10,a40r11,a40r12]
    refine callC_det (rIsWorkday_ok hs hl hv d hd) rfl rfl ?_
    cases h : isWk (allH hs) d
    · simp only [go_sem,a40,a40r0,a40r1,a40r2,a40r3,a40r4,a40r5,a40r6,a40r7,a40r8,a40r9,a40r10,a40r11,a40r12]
      exact Cl.fin rfl ⟨rfl, rfl⟩
    · simp only [go_sem,a40,a40r0,a40r1,a40r2,a40r3,a40r4,a40r5,a40r6,a40r7,a40r8,a40r9,a40r10,a40r11,a40r12]
      exact Cl.fin rfl ⟨rfl, rfl⟩
  · have hD := rDate_ok d
    rw [if_pos hd] at hD
    have hb := mon_bd hd
    have hlb := first_bd hb.2.2.2.2.1
    simp only [go_sem,a40,a40r0,a40r1,a40r2,a40r3,a40r4,a40r5,a40r6,a40r7,a40r8,a40r9,a40r10,a40r11,a40r12]
    refine callC_det hD rfl rfl ?_
    simp only [go_sem,a40,a40r0,a40r1,a40r2,a40r3,a40r4,a40r5,a40r6,a40r7,a40r8,a40r9,a40r10,a40r11,a40r12]
    refine callC_det (rMonth_ok d) rfl rfl ?_
    simp only [go_sem,a40,a40r0,a40r1,a40r2,a40r3,a40r4,a40r5,a40r6,a40r7,a40r8,a40r9,a40r10,a40r11,a40r12]
    refine callC_det (rLength_ok _) rfl rfl ?_
    simp only [go_sem,a40,a40r0,a40r1,a40r2,a40r3,a40r4,a40r5,a40r6,a40r7,a40r8,a40r9,a40r10,a40r11,a40r12]
    by_cases he : (dateM d).2 + 1 = lengthP (monthP d)
    · have hb : ((dateM d).2 + 1 == lengthP (monthP d)) = true := by simp [he]
      have hw : IntKind.i64.wrap (31 - lengthP (monthP d)) = 31 - lengthP (monthP d) := wrap_i64 (by omega) (by omega)
      simp only [go_sem,hb,hw]
      exact Cl.fin rfl ⟨by rw [if_neg (by omega), if_neg (by omega), if_pos he], rfl⟩
    · have hb : ((dateM d).2 + 1 == lengthP (monthP d)) = false := by simp [he]
      simp only [go_sem,hb]
      exact Cl.fin rfl ⟨by rw [if_neg (by omega), if_neg (by omega), if_neg he], rfl⟩

set_option maxHeartbeats 2000000 in
theorem rWeights_ok (k a n : Int) (cs : List Int) (m : Int) (hs : List Hol) (hn : -9223372036854775808 ≤ n) (hn2 : n ≤ 9223372036854775807) (hcl : cs.length ≤ 1000) (hl : hs.length ≤ 1024) :
    AFn Tryz.prog 23 [.agg [.int .i64 k, .int .i64 a], .int .i64 n, .pure 1 (numsE .i64 cs), .int .i64 m, .pure 6 (els hs)] []
      (fun v rs => (wE k a n cs m hs ≠ 0 ∧ v = .tup [.nils, .int .i64 (wE k a n cs m hs)] ∧ rs = []) ∨ (wE k a n cs m hs = 0 ∧ v = .tup [.own 0 (wL k a n cs m hs).length 0 (wL k a n cs m hs).length, .int .i64 0] ∧ rs = [.live 3 1 (numsE .i64 (wL k a n cs m hs))])) := by
  refine afn Tryz.func23 a23_ok (by simp [a23]) ?_
  have hS := rSpan_ok k a n hn hn2
  have hdefE : wE k a n cs m hs = if calE k a ≠ 0 then calE k a else if ¬ (0 ≤ n ∧ n < cntP k a) then 2 else if ¬ (m = 0 ∨ m = 1 ∨ (m = 2 ∧ k = 0)) then 2 else if partsO (spP k a n).2 (spP k a n).1 cs = none then 1 else validP hs := rfl
  simp only [go_sem,a23,a23r0,a23r1,a23r2,a23r3,a23r4,a23r5,a23r6,a23r7,a23r8,a23r9,a23r10,a23r11,a23r12,a23r13,a23r14,a23r15,a23r16,a23r17,a23r18,a23r19,a23r20,a23r21,a23r22]
  by_cases h : calE k a = 0
  rotate_left
  · rw [if_pos h] at hS hdefE
    rw [hdefE]
    refine callC_det hS rfl rfl ?_
    have hb : (calE k a != 0) = true := by simp [h]
    simp only [go_sem,a23,a23r0,a23r1,a23r2,a23r3,a23r4,a23r5,a23r6,a23r7,a23r8,a23r9,a23r10,a23r11,a23r12,a23r13,a23r14,a23r15,a23r16,a23r17,a23r18,a23r19,a23r20,a23r21,a23r22,hb]
    exact Cl.fin rfl (.inl ⟨h, rfl, rfl⟩)
  rw [if_neg (fun e => e h)] at hS hdefE
  by_cases hnn : 0 ≤ n ∧ n < cntP k a
  rotate_left
  · rw [if_neg hnn] at hS
    rw [if_pos hnn] at hdefE
    rw [hdefE]
    refine callC_det hS rfl rfl ?_
    simp only [go_sem,a23,a23r0,a23r1,a23r2,a23r3,a23r4,a23r5,a23r6,a23r7,a23r8,a23r9,a23r10,a23r11,a23r12,a23r13,a23r14,a23r15,a23r16,a23r17,a23r18,a23r19,a23r20,a23r21,a23r22]
    exact Cl.fin rfl (.inl ⟨by decide, rfl, rfl⟩)
  rw [if_pos hnn] at hS
  rw [if_neg (fun e => e hnn)] at hdefE
  obtain ⟨b0, b1, b2, b3⟩ := sp_bd h hnn
  refine callC_det hS rfl rfl ?_
  have hdays := fun (h1 : m = 0 ∨ m = 1 ∨ (m = 2 ∧ k = 0)) (h2 : validP hs = 0) (L : List Rg) (h3 : partsO (spP k a n).2 (spP k a n).1 cs = some L) => wL_days (L := L) h hnn h1 h2 h3
  generalize hsp : spP k a n = sp at *
  obtain ⟨sf, st⟩ := sp
  simp only at b0 b1 b2 b3
  generalize hWL : wL k a n cs m hs = W at *
  by_cases hm : m = 0 ∨ m = 1 ∨ (m = 2 ∧ k = 0)
  rotate_left
  · rw [if_pos hm] at hdefE
    rw [hdefE]
    by_cases m0 : m < 0
    · simp only [go_sem,a23,a23r0,a23r1,a23r2,a23r3,a23r4,a23r5,a23r6,a23r7,a23r8,a23r9,a23r10,a23r11,a23r12,a23r13,a23r14,a23r15,a23r16,a23r17,a23r18,a23r19,a23r20,a23r21,a23r22,m0]
      exact Cl.fin rfl (.inl ⟨by decide, rfl, rfl⟩)
    by_cases m1 : m > 2
    · simp only [go_sem,a23,a23r0,a23r1,a23r2,a23r3,a23r4,a23r5,a23r6,a23r7,a23r8,a23r9,a23r10,a23r11,a23r12,a23r13,a23r14,a23r15,a23r16,a23r17,a23r18,a23r19,a23r20,a23r21,a23r22,m0,m1]
      exact Cl.fin rfl (.inl ⟨by decide, rfl, rfl⟩)
    have m2 : m = 2 := by omega
    subst m2
    have ek : (k != 0) = true := by simp; omega
    simp only [go_sem,a23,a23r0,a23r1,a23r2,a23r3,a23r4,a23r5,a23r6,a23r7,a23r8,a23r9,a23r10,a23r11,a23r12,a23r13,a23r14,a23r15,a23r16,a23r17,a23r18,a23r19,a23r20,a23r21,a23r22,ek]
    exact Cl.fin rfl (.inl ⟨by decide, rfl, rfl⟩)
  rw [if_neg (fun e => e hm)] at hdefE
  have m0 : ¬ m < 0 := by omega
  have m1 : ¬ m > 2 := by omega
  have hguard : (m == 2) = true → (k != 0) = false := by
    intro h; simp at h ⊢; omega
  simp only [go_sem,a23,a23r0,a23r1,a23r2,a23r3,a23r4,a23r5,a23r6,a23r7,a23r8,a23r9,a23r10,a23r11,a23r12,a23r13,a23r14,a23r15,a23r16,a23r17,a23r18,a23r19,a23r20,a23r21,a23r22,m0,m1]
  refine grdC_cut (fun env rows => slot env 2 = .pure 1 (numsE .i64 cs) ∧ slot env 3 = .int .i64 m ∧ slot env 4 = .pure 6 (els hs) ∧ slot env 12 = .ref 1 1 0 0 ∧ slot env 42 = .bool false ∧ rows = [.live 27 2 [[.int .i64 k, .int .i64 a]], .live 34 2 [[.int .i64 sf, .int .i64 st]]]) ?_ ?_ ?_
  · intro hg
    simp only [go_sem,hg,hguard hg]
  · intro hg
    simp only [go_sem,hg]
  rintro env rows ⟨s2, s3, s4, s12, s42, rfl⟩
  simp only [go_sem,a23,a23r0,a23r1,a23r2,a23r3,a23r4,a23r5,a23r6,a23r7,a23r8,a23r9,a23r10,a23r11,a23r12,a23r13,a23r14,a23r15,a23r16,a23r17,a23r18,a23r19,a23r20,a23r21,a23r22,s2,s3,s4,s12,s42]
  refine avc_loop (fun env rows => ∃ (i : Nat) (g : Int), i ≤ cs.length ∧ sf ≤ g ∧ g ≤ st ∧ (i = 0 → g = sf) ∧ (∀ j, i = j + 1 → cs.getD j 0 = g) ∧ (partsO st sf cs = none ↔ partsO st g (cs.drop i) = none) ∧ env = [(2, .pure 1 (numsE .i64 cs)), (3, .int .i64 m), (4, .pure 6 (els hs)), (12, .ref 1 1 0 0), (14, .int .i64 i)] ∧ rows = [.live 27 2 [[.int .i64 k, .int .i64 a]], .live 34 2 [[.int .i64 sf, .int .i64 st]]])
    (fun env _ => match slot env 14 with | .int _ j => (cs.length - j).toNat | _ => 0) ?_ ?_
  · exact Cl.here ⟨0, sf, by omega, by omega, by omega, fun _ => rfl, fun j hj => by omega, by rw [List.drop_zero], rfl, rfl⟩
  rintro env rows ⟨i, g, hi, hg1, hg2, hg0, hgs, hiff, rfl, rfl⟩
  have hw1 : IntKind.i64.wrap ((i : Int) + 1) = ((i + 1 : Nat) : Int) := by rw [wrap_i64 (by omega) (by omega)]; omega
  simp only [go_sem,a23,a23r0,a23r1,a23r2,a23r3,a23r4,a23r5,a23r6,a23r7,a23r8,a23r9,a23r10,a23r11,a23r12,a23r13,a23r14,a23r15,a23r16,a23r17,a23r18,a23r19,a23r20,a23r21,a23r22]
  refine condC_intro ?_ ?_ <;> intro hg3 <;> simp only [decide_eq_true_eq,decide_eq_false_iff_not,beq_iff_eq,beq_eq_false_iff_ne,bne_iff_ne,bne_eq_false_iff_eq,Bool.not_eq_true',Bool.not_eq_false',Int.not_lt,Int.not_le,ne_eq,Bool.and_eq_true,Bool.or_eq_true,Bool.or_eq_false_iff,Bool.and_eq_false_iff] at hg3 <;> simp only [go_sem,a23,a23r0,a23r1,a23r2,a23r3,a23r4,a23r5,a23r6,a23r7,a23r8,a23r9,a23r10,a23r11,a23r12,a23r13,a23r14,a23r15,a23r16,a23r17,a23r18,a23r19,a23r20,a23r21,a23r22]
  · have hlt : i < cs.length := by omega
    have hgw : (numsE .i64 cs).getD i [] = [.int .i64 cs[i]] := by rw [numsE_getD hlt, List.getD_eq_getElem?_getD, List.getElem?_eq_getElem hlt, Option.getD_some]
    have hi0 : (0 : Int) ≤ i := by omega
    have hi1 : (i : Int) < cs.length := by omega
    have hgc : cs.getD i 0 = cs[i] := by rw [List.getD_eq_getElem?_getD, List.getElem?_eq_getElem hlt, Option.getD_some]
    rw [partsO_drop hlt] at hiff
    generalize cs[i] = c at hiff hgw hgc
    by_cases c1 : c ≤ sf
    · rw [if_pos (.inl (by omega))] at hiff
      rw [if_pos (hiff.2 rfl)] at hdefE
      rw [hdefE]
      simp only [go_sem,hi0,hi1,hgw,Int.toNat_natCast,c1]
      exact Cl.fin rfl (.inl ⟨by decide, rfl, rfl⟩)
    by_cases c2 : c > st
    · rw [if_pos (.inr c2)] at hiff
      rw [if_pos (hiff.2 rfl)] at hdefE
      rw [hdefE]
      simp only [go_sem,hi0,hi1,hgw,Int.toNat_natCast,c1,c2]
      exact Cl.fin rfl (.inl ⟨by decide, rfl, rfl⟩)
    cases i with
    | zero =>
      have hgs0 := hg0 rfl
      rw [if_neg (by omega), Option.map_eq_none_iff] at hiff
      have hz : ¬ ((0 : Nat) : Int) > 0 := by omega
      simp only [go_sem,hi0,hi1,hgw,Int.toNat_natCast,c1,c2,hz,Int.natCast_zero]
      have hi1' : (0 : Int) < cs.length := by omega
      refine ⟨hi1', hi1', ?_⟩
      rw [show IntKind.i64.wrap (0 + 1) = ((0 + 1 : Nat) : Int) from rfl]
      refine Cl.here ⟨⟨0 + 1, c, by omega, by omega, by omega, fun h => by omega, fun j hj => ?_, hiff, rfl, rfl⟩, ?_⟩
      · obtain rfl : j = 0 := by omega
        exact hgc
      · simp only [go_sem]
        omega
    | succ i =>
      have hz : ((i + 1 : Nat) : Int) > 0 := by omega
      have hwm : IntKind.i64.wrap (((i + 1 : Nat) : Int) - 1) = (i : Int) := by rw [wrap_i64 (by omega) (by omega)]; omega
      have hgp : (numsE .i64 cs).getD i [] = [.int .i64 g] := by rw [numsE_getD (by omega), hgs i rfl]
      have hi2 : (0 : Int) ≤ i := by omega
      have hi3 : (i : Int) < cs.length := by omega
      by_cases c3 : c ≤ g
      · rw [if_pos (.inl c3)] at hiff
        rw [if_pos (hiff.2 rfl)] at hdefE
        rw [hdefE]
        simp only [go_sem,hi0,hi1,hgw,Int.toNat_natCast,c1,c2,hz,hwm,hgp,hi2,hi3,c3]
        exact Cl.fin rfl (.inl ⟨by decide, rfl, rfl⟩)
      · rw [if_neg (by omega), Option.map_eq_none_iff] at hiff
        simp only [go_sem,hi0,hi1,hgw,Int.toNat_natCast,c1,c2,hz,hwm,hgp,hi2,hi3,c3,hw1]
        refine Cl.here ⟨⟨i + 1 + 1, c, by omega, by omega, by omega, fun h => by omega, fun j hj => ?_, hiff, rfl, rfl⟩, ?_⟩
        · obtain rfl : j = i + 1 := by omega
          exact hgc
        · simp only [go_sem]
          omega
  · obtain rfl : i = cs.length := by omega
    rw [List.drop_length, partsO] at hiff
    have hne : ¬ partsO st sf cs = none := fun h => by have := hiff.1 h; cases this
    rw [if_neg hne] at hdefE
    refine callC_det (rValid_ok hs (by omega)) rfl rfl ?_
    by_cases hv : validP hs = 0
    rotate_left
    · have hvb : (validP hs != 0) = true := by simp [hv]
      rw [hdefE]
      simp only [go_sem,a23,a23r0,a23r1,a23r2,a23r3,a23r4,a23r5,a23r6,a23r7,a23r8,a23r9,a23r10,a23r11,a23r12,a23r13,a23r14,a23r15,a23r16,a23r17,a23r18,a23r19,a23r20,a23r21,a23r22,hvb]
      exact Cl.fin rfl (.inl ⟨hv, rfl, rfl⟩)
    have hvb : (validP hs != 0) = false := by simp [hv]
    rw [hdefE]
    obtain ⟨L, hL⟩ := Option.ne_none_iff_exists'.1 hne
    have hW := hdays hm hv L hL
    obtain ⟨_, hbm⟩ := parts_bnd b1 hL
    have hWl : W.length = cs.length + 1 := by rw [← hW, cnts_length]
    have hwl : IntKind.i64.wrap (1 + (cs.length : Int)) = ((cs.length + 1 : Nat) : Int) := by rw [wrap_i64 (by omega) (by omega)]; omega
    simp only [go_sem,a23,a23r0,a23r1,a23r2,a23r3,a23r4,a23r5,a23r6,a23r7,a23r8,a23r9,a23r10,a23r11,a23r12,a23r13,a23r14,a23r15,a23r16,a23r17,a23r18,a23r19,a23r20,a23r21,a23r22,hvb,hwl]
    refine ⟨by omega, by omega, by omega, by omega, ?_⟩
    rw [← hW, hW, hWl]
    have hlow : ∀ p, p ≤ cs.length → sf ≤ bnd sf st cs p := fun p hp => by
      rcases Nat.eq_zero_or_pos p with rfl | h0
      · rw [bnd_zero]; exact Int.le_refl _
      · have := bnd_mono hbm h0 (by omega)
        rw [bnd_zero] at this
        omega
    refine avc_loop (fun env rows => ∃ (p : Nat) (d : Int), p ≤ cs.length ∧ sf ≤ d ∧ d ≤ st + 1 ∧ bnd sf st cs p ≤ d ∧ d ≤ bnd sf st cs (p + 1) ∧ env = [(2, .pure 1 (numsE .i64 cs)), (3, .int .i64 m), (4, .pure 6 (els hs)), (12, .ref 1 1 0 0), (16, .own 2 (cs.length + 1) 0 (cs.length + 1)), (17, .int .i64 p), (18, .int .i64 d)] ∧
        rows = [.live 27 2 [[.int .i64 k, .int .i64 a]], .live 34 2 [[.int .i64 sf, .int .i64 st]], .live 3 1 (numsE .i64 (cnts (pw (dW m hs) sf st cs d) (cs.length + 1)))])
      (fun env _ => match slot env 18 with | .int _ j => (st + 1 - j).toNat | _ => 0) ?_ ?_
    · have h00 := hbm 0 (by omega)
      rw [bnd_zero] at h00
      refine Cl.here ⟨0, sf, by omega, by omega, by omega, by rw [bnd_zero]; omega, by omega, rfl, ?_⟩
      rw [cnts_ext (g := fun _ => 0) (fun j hj => pw_zero hbm (by omega)), ← cnts_rep]
      rfl
    rintro env rows ⟨p, d, hp, hd1, hd2, hd3, hd4, rfl, rfl⟩
    simp only [go_sem,a23,a23r0,a23r1,a23r2,a23r3,a23r4,a23r5,a23r6,a23r7,a23r8,a23r9,a23r10,a23r11,a23r12,a23r13,a23r14,a23r15,a23r16,a23r17,a23r18,a23r19,a23r20,a23r21,a23r22]
    refine condC_intro ?_ ?_ <;> intro hg4 <;> simp only [decide_eq_true_eq,decide_eq_false_iff_not,beq_iff_eq,beq_eq_false_iff_ne,bne_iff_ne,bne_eq_false_iff_eq,Bool.not_eq_true',Bool.not_eq_false',Int.not_lt,Int.not_le,ne_eq,Bool.and_eq_true,Bool.or_eq_true,Bool.or_eq_false_iff,Bool.and_eq_false_iff] at hg4 <;> simp only [go_sem,a23,a23r0,a23r1,a23r2,a23r3,a23r4,a23r5,a23r6,a23r7,a23r8,a23r9,a23r10,a23r11,a23r12,a23r13,a23r14,a23r15,a23r16,a23r17,a23r18,a23r19,a23r20,a23r21,a23r22]
    · have hp0 : (0 : Int) ≤ p := by omega
      have hgen : ∀ (q : Nat) (env : Env), q ≤ cs.length → bnd sf st cs q ≤ d → d < bnd sf st cs (q + 1) → True := fun _ _ _ _ _ => trivial
      have hlast := bnd_last (f := sf) (to := st) (cs := cs)
      have body : (if p < cs.length ∧ cs.getD p 0 = d then p + 1 else p) ≤ cs.length ∧ bnd sf st cs (if p < cs.length ∧ cs.getD p 0 = d then p + 1 else p) ≤ d ∧ d < bnd sf st cs ((if p < cs.length ∧ cs.getD p 0 = d then p + 1 else p) + 1) := by
        split
        · rename_i h
          have h1 := bnd_cut (f := sf) (to := st) h.1
          rw [List.getD_eq_getElem?_getD, List.getElem?_eq_getElem h.1, Option.getD_some] at h
          have h2 := hbm (p + 1) (by omega)
          omega
        · rename_i h
          refine ⟨hp, hd3, ?_⟩
          rcases Nat.lt_or_ge p cs.length with h1 | h1
          · have h2 := bnd_cut (f := sf) (to := st) h1
            rw [List.getD_eq_getElem?_getD, List.getElem?_eq_getElem h1, Option.getD_some] at h
            have : ¬ cs[p] = d := fun e => h ⟨h1, e⟩
            omega
          · obtain rfl : p = cs.length := by omega
            omega
      generalize hq : (if p < cs.length ∧ cs.getD p 0 = d then p + 1 else p) = q at body
      obtain ⟨q1, q2, q3⟩ := body
      have hwp : IntKind.i64.wrap ((p : Int) + 1) = ((p + 1 : Nat) : Int) := by rw [wrap_i64 (by omega) (by omega)]; omega
      have hwd : IntKind.i64.wrap (d + 1) = d + 1 := wrap_i64 (by omega) (by omega)
      refine grdC_cut (fun env rows => slot env 2 = .pure 1 (numsE .i64 cs) ∧ slot env 3 = .int .i64 m ∧ slot env 4 = .pure 6 (els hs) ∧ slot env 12 = .ref 1 1 0 0 ∧ slot env 16 = .own 2 (cs.length + 1) 0 (cs.length + 1) ∧ slot env 18 = .int .i64 d ∧ slot env 17 = .int .i64 p ∧ slot env 109 = .bool (decide (p < cs.length ∧ cs.getD p 0 = d)) ∧ rows = [.live 27 2 [[.int .i64 k, .int .i64 a]], .live 34 2 [[.int .i64 sf, .int .i64 st]], .live 3 1 (numsE .i64 (cnts (pw (dW m hs) sf st cs d) (cs.length + 1)))]) ?_ ?_ ?_
      · intro hg; simp only [decide_eq_true_eq, decide_eq_false_iff_not, beq_iff_eq, beq_eq_false_iff_ne, bne_iff_ne, bne_eq_false_iff_eq, Bool.not_eq_true', Bool.not_eq_false', Int.not_lt, Int.not_le, ne_eq, Bool.and_eq_true, Bool.or_eq_true, Bool.or_eq_false_iff, Bool.and_eq_false_iff] at hg
        have hgp : (numsE .i64 cs).getD p [] = [.int .i64 (cs.getD p 0)] := numsE_getD (by omega)
        simp only [go_sem,hg,hp0,Int.toNat_natCast,hgp]
        refine congrArg AVal.bool ?_
        rw [Bool.eq_iff_iff]
        simp only [beq_iff_eq, decide_eq_true_eq]
        constructor
        · intro h; exact ⟨by omega, h⟩
        · intro h; exact h.2
      · intro hg; simp only [decide_eq_true_eq, decide_eq_false_iff_not, beq_iff_eq, beq_eq_false_iff_ne, bne_iff_ne, bne_eq_false_iff_eq, Bool.not_eq_true', Bool.not_eq_false', Int.not_lt, Int.not_le, ne_eq, Bool.and_eq_true, Bool.or_eq_true, Bool.or_eq_false_iff, Bool.and_eq_false_iff] at hg
        have hgn : ¬ (p : Int) < cs.length := by omega
        simp only [go_sem,hgn]
        refine congrArg AVal.bool ?_
        rw [Bool.eq_iff_iff]
        simp only [Bool.false_eq_true, decide_eq_true_eq, false_iff]
        omega
      rintro env rows ⟨s2, s3, s4, s12, s16, s18, s17, s109, rfl⟩
      simp only [go_sem,a23,a23r0,a23r1,a23r2,a23r3,a23r4,a23r5,a23r6,a23r7,a23r8,a23r9,a23r10,a23r11,a23r12,a23r13,a23r14,a23r15,a23r16,a23r17,a23r18,a23r19,a23r20,a23r21,a23r22,s2,s3,s4,s12,s16,s18,s17,s109]
      refine condC_cut (fun env rows => slot env 2 = .pure 1 (numsE .i64 cs) ∧ slot env 3 = .int .i64 m ∧ slot env 4 = .pure 6 (els hs) ∧ slot env 12 = .ref 1 1 0 0 ∧ slot env 16 = .own 2 (cs.length + 1) 0 (cs.length + 1) ∧ slot env 18 = .int .i64 d ∧ slot env 17 = .int .i64 q ∧ rows = [.live 27 2 [[.int .i64 k, .int .i64 a]], .live 34 2 [[.int .i64 sf, .int .i64 st]], .live 3 1 (numsE .i64 (cnts (pw (dW m hs) sf st cs d) (cs.length + 1)))]) ?_ ?_ ?_
      · intro hg; simp only [decide_eq_true_eq] at hg
        rw [if_pos hg] at hq
        simp only [go_sem,a23,a23r0,a23r1,a23r2,a23r3,a23r4,a23r5,a23r6,a23r7,a23r8,a23r9,a23r10,a23r11,a23r12,a23r13,a23r14,a23r15,a23r16,a23r17,a23r18,a23r19,a23r20,a23r21,a23r22,s2,s3,s4,s12,s16,s18,s17,s109,hwp]
        rw [hq]
      · intro hg; simp only [decide_eq_false_iff_not] at hg
        rw [if_neg hg] at hq
        simp only [go_sem,a23,a23r0,a23r1,a23r2,a23r3,a23r4,a23r5,a23r6,a23r7,a23r8,a23r9,a23r10,a23r11,a23r12,a23r13,a23r14,a23r15,a23r16,a23r17,a23r18,a23r19,a23r20,a23r21,a23r22,s2,s3,s4,s12,s16,s18,s17,s109]
        rw [hq]
      rintro env rows ⟨s2, s3, s4, s12, s16, s18, s17, rfl⟩
      have hq0 : (0 : Int) ≤ q := by omega
      have hql : (q : Int) < ((cs.length + 1 : Nat) : Int) := by omega
      have hvp := validP_zero hv
      simp only [go_sem,a23,a23r0,a23r1,a23r2,a23r3,a23r4,a23r5,a23r6,a23r7,a23r8,a23r9,a23r10,a23r11,a23r12,a23r13,a23r14,a23r15,a23r16,a23r17,a23r18,a23r19,a23r20,a23r21,a23r22,s2,s3,s4,s12,s16,s18,s17,hq0,hql,Int.toNat_natCast,cnts_get (show q < cs.length + 1 by omega)]
      refine ⟨(cnts_length _ _).symm, (cnts_length _ _).symm, ?_⟩
      refine callD_det (rweight_ok d m hs hl hvp.2 ⟨by omega, by omega⟩ (by omega)) rfl rfl ?_
      have hpb := pw_bd (m := m) (hs := hs) (f := sf) (to := st) (cs := cs) (d := d) (p := q) b0 (hlow q q1) (by omega)
      have hdb := dW_bd (m := m) (hs := hs) (d := d) ⟨by omega, by omega⟩
      have hwv : IntKind.i64.wrap (pw (dW m hs) sf st cs d q + dW m hs d) = pw (dW m hs) sf st cs d q + dW m hs d := wrap_i64 (by omega) (by omega)
      have hset : (numsE .i64 (cnts (pw (dW m hs) sf st cs d) (cs.length + 1))).set q [.int .i64 (pw (dW m hs) sf st cs d q + dW m hs d)] = numsE .i64 (cnts (pw (dW m hs) sf st cs (d + 1)) (cs.length + 1)) := by
        rw [cnts_set]
        exact congrArg _ (cnts_ext fun j hj => (pw_succ hbm q1 (by omega) q2 q3).symm)
      simp only [go_sem,hq0,hql,Int.toNat_natCast,cnts_get (show q < cs.length + 1 by omega),hwv,List.drop_one,List.tail_cons,hset,s2,s3,s4,s12,s16,s18,s17,hwd]
      refine ⟨(cnts_length _ _).symm, (cnts_length _ _).symm, ?_⟩
      refine Cl.here ⟨⟨q, d + 1, q1, by omega, by omega, by omega, by omega, rfl, rfl⟩, ?_⟩
      simp only [go_sem]
      omega
    · obtain rfl : d = st + 1 := by omega
      rw [hW]
      (refine Cl.tr [some 2] [] rfl rfl (by simp only [go_sem] <;> rfl) ?_; simp only [go_sem])
      exact Cl.here (.inr ⟨hv, rfl, rfl⟩)

end Go.Proofs.YtlanehcihoiglaaGreatDoor
