/- Periods: parts, and their weights. -/
import Derived.Test.YtlanehcihoiglaaGreatDoorE7Per
import Derived.Test.YtlanehcihoiglaaGreatDoorE7Rnd
set_option linter.unusedSimpArgs false
set_option linter.unusedVariables false
set_option linter.unusedSectionVars false
namespace Go.Proofs.YtlanehcihoiglaaGreatDoor
open Go Go.Abs
set_option linter.unusedSimpArgs false
set_option linter.unusedVariables false

structure Rg where
  fr : Int
  to : Int
def Rg.cells (e : Rg) : List AVal := [.int .i64 e.fr, .int .i64 e.to]
instance : Cel Rg := ⟨Rg.cells, 2, fun _ => rfl, fun _ => rfl, fun _ => rfl⟩
instance : Flt Rg := ⟨fun _ => rfl⟩
theorem cel_rg (e : Rg) : Cel.c e = [.int .i64 e.fr, .int .i64 e.to] := rfl
theorem cel_rg_sz : Cel.sz Rg = 2 := rfl
theorem cel_rg_take (e : Rg) : List.take 2 (Cel.c e) = Cel.c e := rfl
attribute [go_sem] cel_rg_sz cel_rg_take
theorem Rg.ext' {a b : Rg} (h0 : a.fr = b.fr) (h1 : a.to = b.to) : a = b := by
  cases a; cases b; simp_all

theorem rg_snoc {l : List Rg} {a b : Int} : els l ++ [[.int .i64 a, .int .i64 b]] = els (l ++ [⟨a, b⟩]) := els_snoc (x := Rg.mk a b)
/-- the parts of a period -/
def partsO (to : Int) : Int → List Int → Option (List Rg)
  | f, [] => some [⟨f, to⟩]
  | f, c :: cs => if c ≤ f ∨ to < c then none else (partsO to c cs).map (⟨f, c - 1⟩ :: ·)
theorem partsO_drop {to f : Int} {l : List Int} {i : Nat} (h : i < l.length) : partsO to f (l.drop i) = if l[i] ≤ f ∨ to < l[i] then none else (partsO to l[i] (l.drop (i + 1))).map (⟨f, l[i] - 1⟩ :: ·) := by
  rw [List.drop_eq_getElem_cons h, partsO]
theorem parts_in {to : Int} : ∀ {cs : List Int} {f : Int} {L : List Rg}, f ≤ to → partsO to f cs = some L → (∀ p ∈ L, f ≤ p.fr ∧ p.fr ≤ p.to ∧ p.to ≤ to) ∧ (L.length : Int) ≤ to - f + 1 ∧ 0 < L.length
  | [], f, L, h, e => by
    simp only [partsO, Option.some.injEq] at e
    subst e
    refine ⟨fun p hp => ?_, by simp; omega, by simp⟩
    rw [List.mem_singleton] at hp; subst hp; simp only; omega
  | c :: cs, f, L, h, e => by
    rw [partsO] at e
    split at e
    · cases e
    rename_i hc
    rw [Option.map_eq_some_iff] at e
    obtain ⟨L', h1, rfl⟩ := e
    have ih := parts_in (cs := cs) (f := c) (by omega) h1
    refine ⟨fun p hp => ?_, by simp only [List.length_cons]; omega, by simp⟩
    rcases List.mem_cons.1 hp with rfl | hp
    · simp only; omega
    · have := ih.1 p hp; omega
/-- the state of parts -/
def joinO (r : List Rg) (o : Option (List Rg)) : Option (List Rg) := o.map (r ++ ·)
theorem joinO_cons {r : List Rg} {x : Rg} {o : Option (List Rg)} : joinO r (o.map (x :: ·)) = joinO (r ++ [x]) o := by
  cases o <;> simp [joinO]
theorem parts_ok (f to : Int) (cs : List Int) (h0 : 0 ≤ f) (h1 : f ≤ to) (h2 : to ≤ 84005) (hl : cs.length ≤ 9223372036854775806) : AFn Tryz.prog 36 [.agg [.int .i64 f, .int .i64 to], .pure 1 (numsE .i64 cs)] []
    (fun v rs => (partsO to f cs = none ∧ v = .tup [.nils, .int .i64 1] ∧ rs = []) ∨ (∃ L, partsO to f cs = some L ∧ v = .tup [.own 0 L.length 0 L.length, .int .i64 0] ∧ rs = [.live 34 2 (els L)])) := by
  refine afn Tryz.func36 a36_ok (by simp [a36]) ?_
  simp only [go_sem,a36,a36r0,a36r1,a36r2,a36r3,a36r4,a36r5,a36r6,a36r7,a36r8,a36r9,a36r10,a36r11]
  refine avc_loop (fun env rows => ∃ (i : Nat) (g : Int) (r : List Rg), i ≤ cs.length ∧ partsO to f cs = joinO r (partsO to g (cs.drop i)) ∧ (r.length : Int) ≤ g - f ∧ f ≤ g ∧ g ≤ to ∧ env = [(2, .ref 0 1 0 0), (6, .own 1 r.length 0 r.length), (7, .int .i64 g), (12, .pure 1 (numsE .i64 cs)), (13, .int .i64 cs.length), (14, .int .i64 i)] ∧ rows = [.live 34 2 [[.int .i64 f, .int .i64 to]], .live 34 2 (els r)])
    (fun env _ => match slot env 14 with | .int _ j => (cs.length - j).toNat | _ => 0) ?_ ?_
  · (refine Cl.ghost 6  34  2 rfl (Cl.norm [ 2,6,7,12,13,14] ?_); simp only [go_sem])
    exact Cl.here ⟨0, f, [], by omega, by simp [joinO], by simp, by omega, by omega, rfl, rfl⟩
  rintro env rows ⟨i, g, r, hi, hd, hr, hg0, hg1, rfl, rfl⟩
  have hw : IntKind.i64.wrap ((i : Int) + 1) = ((i + 1 : Nat) : Int) := by rw [wrap_i64 (by omega) (by omega)]; omega
  simp only [go_sem,a36,a36r0,a36r1,a36r2,a36r3,a36r4,a36r5,a36r6,a36r7,a36r8,a36r9,a36r10,a36r11]
  refine condC_intro ?_ ?_ <;> intro hg2 <;> simp only [decide_eq_true_eq,decide_eq_false_iff_not,beq_iff_eq,beq_eq_false_iff_ne,bne_iff_ne,bne_eq_false_iff_eq,Bool.not_eq_true',Bool.not_eq_false',Int.not_lt,Int.not_le,ne_eq,Bool.and_eq_true,Bool.or_eq_true,Bool.or_eq_false_iff,Bool.and_eq_false_iff] at hg2 <;> simp only [go_sem,a36,a36r0,a36r1,a36r2,a36r3,a36r4,a36r5,a36r6,a36r7,a36r8,a36r9,a36r10,a36r11]
  · have hlt : i < cs.length := by omega
    have hgw : (numsE .i64 cs).getD i [] = [.int .i64 cs[i]] := by rw [numsE_getD hlt, List.getD_eq_getElem?_getD, List.getElem?_eq_getElem hlt, Option.getD_some]
    have hi0 : (0 : Int) ≤ i := by omega
    rw [partsO_drop hlt] at hd
    generalize cs[i] = c at hd hgw
    simp only [go_sem,hi0,hg2,hgw,Int.toNat_natCast]
    by_cases c1 : c ≤ g
    · rw [if_pos (.inl c1)] at hd
      simp only [go_sem,c1]
      exact Cl.fin rfl (.inl ⟨by rw [hd]; rfl, rfl, rfl⟩)
    by_cases c2 : c > to
    · rw [if_pos (.inr c2)] at hd
      simp only [go_sem,c1,c2]
      exact Cl.fin rfl (.inl ⟨by rw [hd]; rfl, rfl, rfl⟩)
    rw [if_neg (by omega), joinO_cons] at hd
    simp only [go_sem,c1,c2]
    rw [wrap_i64 (x := c - 1) (by omega) (by omega)]
    refine ⟨by omega, ?_⟩
    rw [rg_snoc]
    simp only [go_sem,hw]
    (refine Cl.tr [some 0,some 1] [] rfl rfl (by simp only [go_sem] <;> rfl) ?_; simp only [go_sem])
    refine Cl.here ⟨⟨i + 1, c, r ++ [⟨g, c - 1⟩], by omega, hd, by simp; omega, by omega, by omega, by simp, rfl⟩, ?_⟩
    simp only [go_sem]
    omega
  · obtain rfl : i = cs.length := by omega
    rw [List.drop_length, partsO] at hd
    refine ⟨by omega, ?_⟩
    rw [rg_snoc]
    (refine Cl.tr [some 1] [] rfl rfl (by simp only [go_sem] <;> rfl) ?_; simp only [go_sem])
    exact Cl.here (.inr ⟨r ++ [⟨g, to⟩], by rw [hd]; rfl, by simp [slot], rfl⟩)

/-- the weight of a part -/
def wtP (m : Int) (hs : List Hol) (sp : Int × Int) (p : Rg) : Int := if m = 1 then (workP hs p.fr p.to).1 else if m = 2 ∧ p.to = sp.2 then p.to - p.fr + 1 + (30 - (sp.2 - sp.1 + 1)) else p.to - p.fr + 1
def wE (k a n : Int) (cs : List Int) (m : Int) (hs : List Hol) : Int :=
  if calE k a ≠ 0 then calE k a else if ¬ (0 ≤ n ∧ n < cntP k a) then 2 else if ¬ (m = 0 ∨ m = 1 ∨ (m = 2 ∧ k = 0)) then 2 else if partsO (spP k a n).2 (spP k a n).1 cs = none then 1 else validP hs
def wL (k a n : Int) (cs : List Int) (m : Int) (hs : List Hol) : List Int := ((partsO (spP k a n).2 (spP k a n).1 cs).getD []).map (wtP m hs (spP k a n))
theorem sp_bd {k a n : Int} (h : calE k a = 0) (hn : 0 ≤ n ∧ n < cntP k a) : 0 ≤ (spP k a n).1 ∧ (spP k a n).1 ≤ (spP k a n).2 ∧ (spP k a n).2 ≤ 84005 ∧ (spP k a n).2 - (spP k a n).1 + 1 ≤ 31 := by
  have hk := calE_kind h
  have hc := cnt_kind h
  unfold spP
  by_cases h0 : k = 0
  · rw [if_pos h0]
    rw [if_pos h0] at hc
    have hb := first_bd (m := n) ⟨by omega, by omega⟩
    simp only
    omega
  rw [if_neg h0]
  rw [if_neg h0] at hc
  by_cases h1 : k = 1
  · rw [if_pos h1]
    rw [if_pos h1] at hc
    have hb := first_bd (m := n / 2) ⟨by omega, by omega⟩
    split <;> simp only <;> omega
  rw [if_neg h1]
  rw [if_neg h1] at hc
  have hl : lenC k = 14 ∨ lenC k = 7 := by unfold lenC; split <;> simp
  have hmi : 0 ≤ misC k a ∧ misC k a < lenC k := ⟨Int.emod_nonneg _ (by omega), Int.emod_lt_of_pos _ (by omega)⟩
  simp only
  rcases hl with h9 | h9 <;> (rw [h9] at hc hmi ⊢; omega)
theorem wkN_bd {l : List Hol} (hv : validL l = true) {a b : Int} (ha : okD a) (hb : okD b) (h : a ≤ b) : 0 ≤ wkN l a b ∧ wkN l a b ≤ b + 1 - a := by
  rw [wkN_eq hv ha hb h]
  have := wkC_bd (allH l) a (b + 1 - a).toNat
  have h1 := ha.1
  have h2 := hb.2
  omega
theorem workP_ok {l : List Hol} (h : validP l = 0) {a b : Int} (ha : okD a) (hb : okD b) (h2 : a ≤ b) : workP l a b = (wkN l a b, 0) := by
  rw [workP, if_pos h, if_pos ⟨ha, hb⟩, if_neg (by omega)]
theorem wtP_bd {m : Int} {hs : List Hol} {sp : Int × Int} {p : Rg} (h : validP hs = 0) (h0 : 0 ≤ sp.1) (h1 : sp.1 ≤ p.fr ∧ p.fr ≤ p.to ∧ p.to ≤ sp.2) (h2 : sp.2 ≤ 84005) (h3 : sp.2 - sp.1 + 1 ≤ 31) : 0 ≤ wtP m hs sp p ∧ wtP m hs sp p ≤ 60 := by
  unfold wtP
  split
  · have ha : okD p.fr := ⟨by omega, by omega⟩
    have hb : okD p.to := ⟨by omega, by omega⟩
    rw [workP_ok h ha hb h1.2.1]
    have := wkN_bd (validP_zero h).2 ha hb h1.2.1
    simp only
    omega
  · split <;> omega

theorem get_set {F : List Int} {i : Nat} {v : List AVal} (h : i < F.length) : ((numsE .i64 F).set i v).getD i [] = v := by
  rw [List.getD_eq_getElem?_getD, List.getElem?_set, if_pos rfl, if_pos (by rw [numsE_length]; exact h), Option.getD_some]
set_option maxHeartbeats 2000000 in
theorem Weights_ok (k a n : Int) (cs : List Int) (m : Int) (hs : List Hol) (hn : -9223372036854775808 ≤ n) (hn2 : n ≤ 9223372036854775807) (hcl : cs.length ≤ 9223372036854775806) (hl : hs.length ≤ 9223372036854775806) :
    AFn Tryz.prog 22 [.agg [.int .i64 k, .int .i64 a], .int .i64 n, .pure 1 (numsE .i64 cs), .int .i64 m, .pure 6 (els hs)] []
      (fun v rs => (wE k a n cs m hs ≠ 0 ∧ v = .tup [.nils, .int .i64 (wE k a n cs m hs)] ∧ rs = []) ∨ (wE k a n cs m hs = 0 ∧ v = .tup [.own 0 (wL k a n cs m hs).length 0 (wL k a n cs m hs).length, .int .i64 0] ∧ rs = [.live 3 1 (numsE .i64 (wL k a n cs m hs))])) := by
  refine afnW Tryz.func22 a22_ok (by simp [a22]) ?_
  have hS := Span_ok k a n hn hn2
  unfold wE wL
  simp only [go_sem,a22,a22r0,a22r1,a22r2,a22r3,a22r4,a22r5,a22r6,a22r7,a22r8,a22r9,a22r10,a22r11,a22r12,a22r13,a22r14,a22r15,a22r16,a22r17,a22r18,a22r19,a22r20,a22r21,a22r22,a22r23,a22r24,a22r25,a22r26,a22r27,a22r28,a22r29]
  (repeat (first | (refine Cl.here ?_; simp only [go_sem]) | simp only [go_sem]))
  by_cases h : calE k a = 0
  rotate_left
  · rw [if_pos h] at hS
    rw [if_pos h]
    refine callC_det hS rfl rfl ?_
    have hb : (calE k a != 0) = true := by simp [h]
    (repeat (first | (refine Cl.here ?_; simp only [go_sem,hb]) | simp only [go_sem,hb]))
    exact Cl.fin rfl (.inl ⟨h, rfl, rfl⟩)
  rw [if_neg (fun e => e h)] at hS
  rw [if_neg (fun e => e h)]
  by_cases hnn : 0 ≤ n ∧ n < cntP k a
  rotate_left
  · rw [if_neg hnn] at hS
    rw [if_pos hnn]
    refine callC_det hS rfl rfl ?_
    (repeat (first | (refine Cl.here ?_; simp only [go_sem]) | simp only [go_sem]))
    exact Cl.fin rfl (.inl ⟨by decide, rfl, rfl⟩)
  rw [if_pos hnn] at hS
  rw [if_neg (fun e => e hnn)]
  obtain ⟨b0, b1, b2, b3⟩ := sp_bd h hnn
  refine callC_det hS rfl rfl ?_
  simp only [go_sem]
  (refine Cl.here ?_; simp only [go_sem])
  (refine Cl.here ?_; simp only [go_sem])
  generalize hsp : spP k a n = sp at *
  obtain ⟨sf, st⟩ := sp
  simp only at b0 b1 b2 b3
  refine Cl.here (avcW_seq_cut (fun env rows => (m = 0 ∨ m = 1 ∨ (m = 2 ∧ k = 0)) ∧ norm [2, 3, 4, 12] env = [(2, .pure 1 (numsE .i64 cs)), (3, .int .i64 m), (4, .pure 6 (els hs)), (12, .ref 1 1 0 0)] ∧ rows = [.live 27 2 [[.int .i64 k, .int .i64 a]], .live 34 2 [[.int .i64 sf, .int .i64 st]]]) ?_ ?_)
  · simp only [go_sem]
    by_cases m0 : m = 0
    · subst m0
      (repeat (first | (refine Cl.here ?_; simp only [go_sem]) | simp only [go_sem]))
      exact .inl trivial
    have e0 : (m == 0) = false := by simp [m0]
    by_cases m1 : m = 1
    · subst m1
      (repeat (first | (refine Cl.here ?_; simp only [go_sem]) | simp only [go_sem]))
      exact .inr (.inl trivial)
    have e1 : (m == 1) = false := by simp [m1]
    by_cases m2 : m = 2
    · subst m2
      by_cases k0 : k = 0
      · have ek : (k != 0) = false := by simp [k0]
        (repeat (first | (refine Cl.here ?_; simp only [go_sem,ek]) | simp only [go_sem,ek]))
        exact .inr (.inr k0)
      · have ek : (k != 0) = true := by simp [k0]
        (repeat (first | (refine Cl.here ?_; simp only [go_sem,ek]) | simp only [go_sem,ek]))
        exact Cl.fin rfl (.inl ⟨by rw [if_pos (by omega)]; decide, by rw [if_pos (by omega)], rfl⟩)
    have e2 : (m == 2) = false := by simp [m2]
    (repeat (first | (refine Cl.here ?_; simp only [go_sem,e0,e1,e2]) | simp only [go_sem,e0,e1,e2]))
    exact Cl.fin rfl (.inl ⟨by rw [if_pos (by omega)]; decide, by rw [if_pos (by omega)], rfl⟩)
  · rintro env rows ⟨hm, hn, rfl⟩
    rw [if_neg (fun e => e hm)]
    refine Cl.norm [2, 3, 4, 12] ?_
    rw [hn]
    (refine Cl.here ?_; simp only [go_sem])
    refine callC_of [] [] (by simp) rfl (bindL_clean _ (by first | rfl | simp only [go_sem])) (parts_ok sf st cs b0 b1 b2 hcl) ?_
    rintro _ _ (⟨ho, rfl, rfl⟩ | ⟨L, ho, rfl, rfl⟩)
    · refine ⟨.inl rfl, ?_⟩
      have hb1 : ((1 : Int) != 0) = true := rfl
      (repeat (first | (refine Cl.here ?_; simp only [go_sem,hb1]) | simp only [go_sem,hb1]))
      exact Cl.fin rfl (.inl ⟨by rw [if_pos ho]; decide, by rw [if_pos ho], rfl⟩)
    refine ⟨.inl rfl, ?_⟩
    have hne : ¬ partsO st sf cs = none := by rw [ho]; simp
    rw [if_neg hne, ho, Option.getD_some]
    obtain ⟨hL1, hL2, hL3⟩ := parts_in b1 ho
    (repeat (first | (refine Cl.here ?_; simp only [go_sem]) | simp only [go_sem]))
    refine callC_det (Valid_ok hs hl) rfl rfl ?_
    by_cases hv : validP hs = 0
    rotate_left
    · have hvb : (validP hs != 0) = true := by simp [hv]
      (repeat (first | (refine Cl.here ?_; simp only [go_sem,hvb]) | simp only [go_sem,hvb]))
      exact Cl.fin rfl (.inl ⟨hv, rfl, rfl⟩)
    have hvb : (validP hs != 0) = false := by simp [hv]
    (repeat (first | (refine Cl.here ?_; simp only [go_sem,hvb]) | simp only [go_sem,hvb]))
    refine ⟨by omega, by omega, by omega, by omega, ?_⟩
    obtain ⟨W, hW⟩ : ∃ W, W = L.map (wtP m hs (sf, st)) := ⟨_, rfl⟩
    have hWl : W.length = L.length := by rw [hW, List.length_map]
    have hW0 := fill_zero (L := W)
    rw [hWl] at hW0
    rw [← hW, hWl]
    (repeat (first | (refine Cl.here ?_; simp only [go_sem]) | simp only [go_sem]))
    refine avcW_loop (fun env rows => ∃ i : Nat, i ≤ L.length ∧ env = [(3, .int .i64 m), (4, .pure 6 (els hs)), (12, .ref 0 1 0 0), (16, .own 2 L.length 0 L.length), (54, .own 1 L.length 0 L.length), (55, .int .i64 L.length), (56, .int .i64 i)] ∧ rows = [.live 34 2 [[.int .i64 sf, .int .i64 st]], .live 34 2 (els L), .live 3 1 (numsE .i64 (fillL W i))])
      (fun env _ => match slot env 56 with | .int _ j => (L.length - j).toNat | _ => 0) ?_ ?_
    · rw [hW0]
      (refine Cl.tr [some 1,some 2,some 3] [] rfl rfl (by simp only [go_sem] <;> rfl) ?_; simp only [go_sem])
      exact Cl.here ⟨0, by omega, rfl, rfl⟩
    rintro env rows ⟨i, hi, rfl, rfl⟩
    have hw1 : IntKind.i64.wrap ((i : Int) + 1) = ((i + 1 : Nat) : Int) := by rw [wrap_i64 (by omega) (by omega)]; omega
    simp only [go_sem,a22,a22r0,a22r1,a22r2,a22r3,a22r4,a22r5,a22r6,a22r7,a22r8,a22r9,a22r10,a22r11,a22r12,a22r13,a22r14,a22r15,a22r16,a22r17,a22r18,a22r19,a22r20,a22r21,a22r22,a22r23,a22r24,a22r25,a22r26,a22r27,a22r28,a22r29]
    (refine Cl.here ?_; simp only [go_sem])
    refine condW_intro ?_ ?_ <;> intro hg2 <;> simp only [decide_eq_true_eq,decide_eq_false_iff_not,beq_iff_eq,beq_eq_false_iff_ne,bne_iff_ne,bne_eq_false_iff_eq,Bool.not_eq_true',Bool.not_eq_false',Int.not_lt,Int.not_le,ne_eq,Bool.and_eq_true,Bool.or_eq_true,Bool.or_eq_false_iff,Bool.and_eq_false_iff] at hg2 <;> simp only [go_sem,a22,a22r0,a22r1,a22r2,a22r3,a22r4,a22r5,a22r6,a22r7,a22r8,a22r9,a22r10,a22r11,a22r12,a22r13,a22r14,a22r15,a22r16,a22r17,a22r18,a22r19,a22r20,a22r21,a22r22,a22r23,a22r24,a22r25,a22r26,a22r27,a22r28,a22r29]
    · have hlt : i < L.length := by omega
      have hp := hL1 L[i] (List.getElem_mem hlt)
      have hge : (els L).getD i [] = [.int .i64 L[i].fr, .int .i64 L[i].to] := by rw [els_getD hlt, cel_rg]
      have vW : W[i]'(by omega) = wtP m hs (sf, st) L[i] := by simp [hW]
      have gW := fill_get (L := W) (i := i) (by omega)
      have sW := fill_set (L := W) (i := i) (by omega)
      have lW := fill_len (L := W) (i := i) (by omega)
      rw [vW] at sW
      generalize L[i] = p at hp hge sW
      obtain ⟨pf, pt⟩ := p
      simp only at hp hge sW
      have hi0 : (0 : Int) ≤ i := by omega
      have w1 : IntKind.i64.wrap (pt - pf) = pt - pf := wrap_i64 (by omega) (by omega)
      have w2 : IntKind.i64.wrap (pt - pf + 1) = pt - pf + 1 := wrap_i64 (by omega) (by omega)
      have lW' : L.length = (fillL W i).length := by omega
      have hg2b : (i : Int) < L.length := by omega
      (repeat (first | (refine Cl.here ?_; simp only [go_sem,hi0,hg2b,hge,Int.toNat_natCast,w1,w2]) | simp only [go_sem,hi0,hg2b,hge,Int.toNat_natCast,w1,w2]))
      refine ⟨lW', lW', ?_⟩
      simp only [gW, List.drop_one, List.tail_cons]
      have hlF : i < (fillL W i).length := by omega
      by_cases m1 : m = 1
      · subst m1
        have hwk := Workdays_ok hs hl pf pt
        have hwv := workP_ok hv (a := pf) (b := pt) ⟨by omega, by omega⟩ ⟨by omega, by omega⟩ hp.2.1
        have hwt : wtP 1 hs (sf, st) ⟨pf, pt⟩ = (workP hs pf pt).1 := by unfold wtP; rw [if_pos rfl]
        rw [hwt] at sW
        have hw0 : (workP hs pf pt).2 = 0 := by rw [hwv]
        rw [hw0] at hwk
        (repeat (first | (refine Cl.here ?_; simp only [go_sem]) | simp only [go_sem]))
        refine callC_det hwk rfl rfl ?_
        (repeat (first | (refine Cl.here ?_; show avcW _ _ _ _ _ _; simp only [go_sem,hi0,hg2b,Int.toNat_natCast,get_set hlF,List.set_set,List.drop_one,List.tail_cons,sW,numsE_length,hw1,bne_self_eq_false]) | simp only [go_sem,hi0,hg2b,Int.toNat_natCast,get_set hlF,List.set_set,List.drop_one,List.tail_cons,sW,numsE_length,hw1,bne_self_eq_false]))
        refine ⟨lW', lW', ?_⟩
        (repeat (first | (refine Cl.here ?_; show avcW _ _ _ _ _ _; simp only [go_sem,bne_self_eq_false,hw1]) | simp only [go_sem,bne_self_eq_false,hw1]))
        (refine Cl.tr [some 0,some 1,some 2] [] rfl rfl (by simp only [go_sem] <;> rfl) ?_; simp only [go_sem])
        refine Cl.here ⟨⟨i + 1, by omega, rfl, rfl⟩, ?_⟩
        simp only [go_sem]
        omega
      have e1 : (m == 1) = false := by simp [m1]
      by_cases m2 : m = 2
      · subst m2
        by_cases hpt : pt = st
        · have hpb : (pt == st) = true := by simp [hpt]
          have hwt : wtP 2 hs (sf, st) ⟨pf, pt⟩ = pt - pf + 1 + (30 - (st - sf + 1)) := by unfold wtP; rw [if_neg (by omega), if_pos ⟨rfl, hpt⟩]
          rw [hwt] at sW
          have w3 : IntKind.i64.wrap (st - sf) = st - sf := wrap_i64 (by omega) (by omega)
          have w4 : IntKind.i64.wrap (st - sf + 1) = st - sf + 1 := wrap_i64 (by omega) (by omega)
          have w5 : IntKind.i64.wrap (30 - (st - sf + 1)) = 30 - (st - sf + 1) := wrap_i64 (by omega) (by omega)
          have w6 : IntKind.i64.wrap (pt - pf + 1 + (30 - (st - sf + 1))) = pt - pf + 1 + (30 - (st - sf + 1)) := wrap_i64 (by omega) (by omega)
          (repeat (first | (refine Cl.here ?_; show avcW _ _ _ _ _ _; simp only [go_sem,e1,hpb,hi0,hg2b,Int.toNat_natCast,get_set hlF,List.set_set,List.drop_one,List.tail_cons,sW,numsE_length,w3,w4,w5,w6,hw1]) | simp only [go_sem,e1,hpb,hi0,hg2b,Int.toNat_natCast,get_set hlF,List.set_set,List.drop_one,List.tail_cons,sW,numsE_length,w3,w4,w5,w6,hw1]))
          refine ⟨lW', lW', lW', lW', ?_⟩
          (repeat (first | (refine Cl.here ?_; show avcW _ _ _ _ _ _; simp only [go_sem,hw1]) | simp only [go_sem,hw1]))
          (refine Cl.tr [some 0,some 1,some 2] [] rfl rfl (by simp only [go_sem] <;> rfl) ?_; simp only [go_sem])
          refine Cl.here ⟨⟨i + 1, by omega, rfl, rfl⟩, ?_⟩
          simp only [go_sem]
          omega
        · have hpb : (pt == st) = false := by simp [hpt]
          have hwt : wtP 2 hs (sf, st) ⟨pf, pt⟩ = pt - pf + 1 := by unfold wtP; rw [if_neg (by omega), if_neg (fun e => hpt e.2)]
          rw [hwt] at sW
          (repeat (first | (refine Cl.here ?_; show avcW _ _ _ _ _ _; simp only [go_sem,e1,hpb,sW,hw1]) | simp only [go_sem,e1,hpb,sW,hw1]))
          (refine Cl.tr [some 0,some 1,some 2] [] rfl rfl (by simp only [go_sem] <;> rfl) ?_; simp only [go_sem])
          refine Cl.here ⟨⟨i + 1, by omega, rfl, rfl⟩, ?_⟩
          simp only [go_sem]
          omega
      have e2 : (m == 2) = false := by simp [m2]
      have hwt : wtP m hs (sf, st) ⟨pf, pt⟩ = pt - pf + 1 := by unfold wtP; rw [if_neg m1, if_neg (fun e => m2 e.1)]
      rw [hwt] at sW
      (repeat (first | (refine Cl.here ?_; show avcW _ _ _ _ _ _; simp only [go_sem,e1,e2,sW,hw1]) | simp only [go_sem,e1,e2,sW,hw1]))
      (refine Cl.tr [some 0,some 1,some 2] [] rfl rfl (by simp only [go_sem] <;> rfl) ?_; simp only [go_sem])
      refine Cl.here ⟨⟨i + 1, by omega, rfl, rfl⟩, ?_⟩
      simp only [go_sem]
      omega
    · obtain rfl : i = L.length := by omega
      have hfa : fillL W L.length = W := by rw [← hWl]; exact fill_all
      rw [hfa]
      (repeat (first | (refine Cl.here ?_; simp only [go_sem]) | simp only [go_sem]))
      (refine Cl.tr [some 2] [] rfl rfl (by simp only [go_sem] <;> rfl) ?_; simp only [go_sem])
      exact Cl.here (.inr ⟨hv, by simp [slot], rfl⟩)

end Go.Proofs.YtlanehcihoiglaaGreatDoor
