/- The clock: zones, the offset and the local minute of an instant; made zones; the same in the reference. -/
import Derived.Test.YtpincjkjoeopkaaGreatDoorF0Tap
set_option linter.unusedSimpArgs false
set_option linter.unusedVariables false
set_option linter.unusedSectionVars false
namespace Go.Proofs.YtpincjkjoeopkaaGreatDoor
open Go Go.Abs
set_option linter.unusedSimpArgs false
set_option linter.unusedVariables false

structure Ch where
  at_ : Int
  off : Int
def Ch.cells (e : Ch) : List AVal := [.int .i64 e.at_, .int .i64 e.off]
instance : Cel Ch := ⟨Ch.cells, 2, fun _ => rfl, fun _ => rfl, fun _ => rfl⟩
instance : Flt Ch := ⟨fun _ => rfl⟩
theorem cel_ch (e : Ch) : Cel.c e = [.int .i64 e.at_, .int .i64 e.off] := rfl
theorem cel_ch_sz : Cel.sz Ch = 2 := rfl
theorem cel_ch_take (e : Ch) : List.take 2 (Cel.c e) = Cel.c e := rfl
attribute [go_sem] cel_ch_sz cel_ch_take
theorem Ch.ext' {a b : Ch} (h0 : a.at_ = b.at_) (h1 : a.off = b.off) : a = b := by
  cases a; cases b; simp_all

/-- a zone -/
structure Zn where
  off : Int
  ch : List Ch
def Zn.v (z : Zn) : AVal := .agg [.int .i64 z.off, .pure 2 (els z.ch)]
def offP (o : Int) : Prop := -840 ≤ o ∧ o ≤ 840
instance (o : Int) : Decidable (offP o) := inferInstanceAs (Decidable (-840 ≤ o ∧ o ≤ 840))
def chE : Int → List Ch → Int
  | _, [] => 0
  | p, c :: cs => if ¬ (0 ≤ c.at_ ∧ c.at_ ≤ 120968639 ∧ offP c.off) then 2 else if c.at_ ≤ p then 1 else chE c.at_ cs
def vZ (z : Zn) : Int := if 64 < z.ch.length then 3 else if offP z.off then chE (-1) z.ch else 2
theorem chE_drop {p : Int} {l : List Ch} {i : Nat} (h : i < l.length) : chE p (l.drop i) = if ¬ (0 ≤ l[i].at_ ∧ l[i].at_ ≤ 120968639 ∧ offP l[i].off) then 2 else if l[i].at_ ≤ p then 1 else chE l[i].at_ (l.drop (i + 1)) := by
  rw [List.drop_eq_getElem_cons h, chE]

theorem validOffset_ok (o : Int) : AFn Tryz.prog 220 [.int .i64 o] [] (fun v rs => v = .bool (decide (offP o)) ∧ rs = []) := by
  refine afn Tryz.func220 a220_ok (by simp [a220, s220]) ?_
  simp only [go_sem,a220,s220]
  repeat' (first | (refine grdC_intro ?_ ?_ <;> intro hg <;> (have hp := hg; try simp only [decide_eq_true_eq,decide_eq_false_iff_not,beq_iff_eq,beq_eq_false_iff_ne,bne_iff_ne,bne_eq_false_iff_eq,Bool.not_eq_true',Bool.not_eq_false',Int.not_lt,Int.not_le,ne_eq,Bool.and_eq_true,Bool.or_eq_true,Bool.or_eq_false_iff,Bool.and_eq_false_iff] at hp) <;> (first | omega | (simp only [go_sem,hg,a220,s220]; clear hg))) | (refine grdD_intro ?_ ?_ <;> intro hg <;> (have hp := hg; try simp only [decide_eq_true_eq,decide_eq_false_iff_not,beq_iff_eq,beq_eq_false_iff_ne,bne_iff_ne,bne_eq_false_iff_eq,Bool.not_eq_true',Bool.not_eq_false',Int.not_lt,Int.not_le,ne_eq,Bool.and_eq_true,Bool.or_eq_true,Bool.or_eq_false_iff,Bool.and_eq_false_iff] at hp) <;> (first | omega | (simp only [go_sem,hg,a220,s220]; clear hg))) | (refine condC_intro ?_ ?_ <;> intro hg <;> (have hp := hg; try simp only [decide_eq_true_eq,decide_eq_false_iff_not,beq_iff_eq,beq_eq_false_iff_ne,bne_iff_ne,bne_eq_false_iff_eq,Bool.not_eq_true',Bool.not_eq_false',Int.not_lt,Int.not_le,ne_eq,Bool.and_eq_true,Bool.or_eq_true,Bool.or_eq_false_iff,Bool.and_eq_false_iff] at hp) <;> (first | omega | (simp only [go_sem,hg,a220,s220]; clear hg))) | (refine condW_intro ?_ ?_ <;> intro hg <;> (have hp := hg; try simp only [decide_eq_true_eq,decide_eq_false_iff_not,beq_iff_eq,beq_eq_false_iff_ne,bne_iff_ne,bne_eq_false_iff_eq,Bool.not_eq_true',Bool.not_eq_false',Int.not_lt,Int.not_le,ne_eq,Bool.and_eq_true,Bool.or_eq_true,Bool.or_eq_false_iff,Bool.and_eq_false_iff] at hp) <;> (first | omega | (simp only [go_sem,hg,a220,s220]; clear hg))))
  all_goals ((refine Cl.fin rfl ⟨congrArg AVal.bool ?_, rfl⟩; rw [Bool.eq_iff_iff]; simp only [decide_eq_true_eq, decide_eq_false_iff_not, beq_iff_eq, beq_eq_false_iff_ne, bne_iff_ne, bne_eq_false_iff_eq, Bool.not_eq_true', Bool.not_eq_false', Int.not_lt, Int.not_le, ne_eq, Bool.and_eq_true, Bool.or_eq_true, Bool.or_eq_false_iff, Bool.and_eq_false_iff, Bool.false_eq_true, false_iff, true_iff, iff_true, iff_false, and_true, true_and] at *; try simp only [offP] at *; omega))

theorem validZ_ok (z : Zn) : AFn Tryz.prog 141 [z.v] [] (fun v rs => v = .int .i64 (vZ z) ∧ rs = []) := by
  refine afn Tryz.func141 a141_ok (by simp [a141, s141]) ?_
  unfold vZ
  simp only [go_sem,a141,s141,Zn.v]
  by_cases h1 : (z.ch.length : Int) > 64
  · simp only [go_sem,h1]
    exact Cl.fin rfl ⟨by rw [if_pos (by omega)], rfl⟩
  simp only [go_sem,h1]
  rw [if_neg (by omega)]
  refine callC_det (validOffset_ok _) rfl rfl ?_
  by_cases h2 : offP z.off
  rotate_left
  · simp only [go_sem,h2]
    exact Cl.fin rfl ⟨rfl, rfl⟩
  simp only [go_sem,h2]
  refine avc_loop (fun env rows => ∃ (i : Nat) (p : Int), i ≤ z.ch.length ∧ chE (-1) z.ch = chE p (z.ch.drop i) ∧ (i = 0 → p = -1) ∧ (∀ j (h : j < z.ch.length), i = j + 1 → p = z.ch[j].at_) ∧ env = [(1, .ref 0 1 0 0), (14, .pure 2 (els z.ch)), (15, .int .i64 z.ch.length), (16, .int .i64 i)] ∧ rows = [.live 32 2 [[.int .i64 z.off, .pure 2 (els z.ch)]]])
    (fun env _ => match slot env 16 with | .int _ j => (z.ch.length - j).toNat | _ => 0) ?_ ?_
  · exact Cl.here ⟨0, -1, by omega, rfl, fun _ => rfl, fun j _ h => by omega, rfl, rfl⟩
  · rintro env rows ⟨i, p, hi, hd, hp0, hp1, rfl, rfl⟩
    have hw : IntKind.i64.wrap ((i : Int) + 1) = ((i + 1 : Nat) : Int) := by rw [wrap_i64 (by omega) (by omega)]; omega
    simp only [go_sem,a141,s141]
    refine condC_intro ?_ ?_ <;> intro hg2 <;> simp only [decide_eq_true_eq,decide_eq_false_iff_not,beq_iff_eq,beq_eq_false_iff_ne,bne_iff_ne,bne_eq_false_iff_eq,Bool.not_eq_true',Bool.not_eq_false',Int.not_lt,Int.not_le,ne_eq,Bool.and_eq_true,Bool.or_eq_true,Bool.or_eq_false_iff,Bool.and_eq_false_iff] at hg2 <;> simp only [go_sem,a141,s141]
    · have hlt : i < z.ch.length := by omega
      refine ⟨by omega, by omega, ?_⟩
      try simp only [Int.toNat_natCast]
      rw [chE_drop hlt] at hd
      have hnx : ∀ j (h : j < z.ch.length), i + 1 = j + 1 → z.ch[i].at_ = z.ch[j].at_ := by intro j h hj; obtain rfl : i = j := (by omega); rfl
      rw [els_getD hlt]
      generalize z.ch[i] = c at hd hnx ⊢
      simp only [go_sem,cel_ch]
      by_cases h3 : c.at_ < 0
      · simp only [go_sem,h3]
        exact Cl.fin rfl ⟨by rw [hd, if_pos (by omega)], rfl⟩
      by_cases h4 : c.at_ > 120968639
      · simp only [go_sem,h3,h4]
        exact Cl.fin rfl ⟨by rw [hd, if_pos (by omega)], rfl⟩
      simp only [go_sem,h3,h4]
      refine callC_det (validOffset_ok _) rfl rfl ?_
      by_cases h5 : offP c.off
      rotate_left
      · simp only [go_sem,h5]
        exact Cl.fin rfl ⟨by rw [hd, if_pos (fun h => h5 h.2.2)], rfl⟩
      simp only [go_sem,h5]
      rw [if_neg (by simp only [h5, and_true]; omega)] at hd
      cases i with
      | zero =>
        simp only [go_sem,Int.natCast_zero,Int.lt_irrefl,gt_iff_lt]
        obtain rfl := hp0 rfl
        rw [if_neg (by omega)] at hd
        simp only [go_sem,Int.natCast_zero] at hw
        (refine Cl.tr [some 0] [] rfl rfl (by simp only [go_sem] <;> rfl) ?_; simp only [go_sem])
        refine Cl.here ⟨⟨1, c.at_, by omega, hd, fun h => by omega, fun j h hj => hnx j h hj, rfl, rfl⟩, ?_⟩
        simp only [go_sem]
        omega
      | succ k =>
        have hk : k < z.ch.length := by omega
        obtain rfl := hp1 k hk rfl
        have hpos : ((k + 1 : Nat) : Int) > 0 := by omega
        have hwk : IntKind.i64.wrap (((k + 1 : Nat) : Int) - 1) = (k : Int) := by rw [wrap_i64 (by omega) (by omega)]; omega
        simp only [go_sem,hpos,hwk]
        refine ⟨by omega, by omega, ?_⟩
        try simp only [Int.toNat_natCast]
        rw [els_getD hk]
        simp only [go_sem,cel_ch]
        by_cases h6 : c.at_ ≤ z.ch[k].at_
        · rw [if_pos h6] at hd
          simp only [go_sem,h6]
          exact Cl.fin rfl ⟨by rw [hd], rfl⟩
        · rw [if_neg h6] at hd
          simp only [go_sem,h6,hw]
          (refine Cl.tr [some 0] [] rfl rfl (by simp only [go_sem] <;> rfl) ?_; simp only [go_sem])
          refine Cl.here ⟨⟨k + 1 + 1, c.at_, by omega, hd, fun h => by omega, fun j h hj => hnx j h hj, rfl, rfl⟩, ?_⟩
          simp only [go_sem]
          omega
    · obtain rfl : i = z.ch.length := by omega
      refine Cl.fin rfl ⟨?_, rfl⟩
      rw [hd, List.drop_length]; rfl

/-- a zone that is valid -/
structure ZnOk (z : Zn) : Prop where
  len : z.ch.length ≤ 64
  off : offP z.off
  ch : ∀ c ∈ z.ch, 0 ≤ c.at_ ∧ c.at_ ≤ 120968639 ∧ offP c.off
theorem chE_ok : ∀ {l : List Ch} {p : Int}, chE p l = 0 → ∀ c ∈ l, 0 ≤ c.at_ ∧ c.at_ ≤ 120968639 ∧ offP c.off
  | [], _, _, c, hc => by simp at hc
  | x :: xs, p, h, c, hc => by
    rw [chE] at h
    split at h
    · cases h
    split at h
    · cases h
    rename_i h1 h2
    rcases List.mem_cons.1 hc with rfl | hc
    · exact Classical.not_not.1 h1
    · exact chE_ok h c hc
theorem vZ_ok {z : Zn} (h : vZ z = 0) : ZnOk z := by
  unfold vZ at h
  split at h
  · cases h
  split at h
  · rename_i h1 h2
    exact ⟨by omega, h2, chE_ok h⟩
  · cases h
/-- the offset at an instant -/
def shF (t : Int) (o : Int) (l : List Ch) : Int := l.foldl (fun o c => if c.at_ ≤ t then c.off else o) o
def shZ (z : Zn) (t : Int) : Int := shF t z.off z.ch
theorem shF_take {t o : Int} {l : List Ch} {i : Nat} (h : i < l.length) : shF t o (l.take (i + 1)) = if l[i].at_ ≤ t then l[i].off else shF t o (l.take i) := by
  unfold shF
  rw [List.take_succ_eq_append_getElem h, List.foldl_append]; rfl
theorem shF_bd {t : Int} : ∀ {l : List Ch} {o : Int}, offP o → (∀ c ∈ l, offP c.off) → offP (shF t o l)
  | [], _, ho, _ => ho
  | c :: cs, o, ho, hl => by
    unfold shF
    rw [List.foldl_cons]
    refine shF_bd (l := cs) ?_ (fun x hx => hl x (List.mem_cons_of_mem _ hx))
    split
    · exact hl c List.mem_cons_self
    · exact ho
theorem shZ_bd {z : Zn} (hz : ZnOk z) (t : Int) : offP (shZ z t) := shF_bd hz.off (fun c hc => (hz.ch c hc).2.2)

theorem Offset_ok (z : Zn) (hz : vZ z = 0) (t : Int) (h0 : 0 ≤ t) (h1 : t ≤ 120968639) : AFn Tryz.prog 322 [z.v, .int .i64 t] [] (fun v rs => v = .tup [.int .i64 (shZ z t), .int .i64 0] ∧ rs = []) := by
  have hk := vZ_ok hz
  have hlen := hk.len
  refine afn Tryz.func322 a322_ok (by simp [a322, s322]) ?_
  have n0 : ¬ t < 0 := by omega
  have n1 : ¬ t > 120968639 := by omega
  simp only [go_sem,a322,s322,Zn.v]
  refine callC_det (validZ_ok z) rfl rfl ?_
  simp only [go_sem,hz,n0,n1]
  refine avc_loop (fun env rows => ∃ (i : Nat), i ≤ z.ch.length ∧ shZ z t = shF t z.off (z.ch.take i) ∧ env = [(1, .int .i64 t), (2, .ref 0 1 0 0), (7, .int .i64 ((i : Int) - 1))] ∧ rows = [.live 32 2 [[.int .i64 z.off, .pure 2 (els z.ch)]]])
    (fun env _ => match slot env 7 with | .int _ j => (j + 1).toNat | _ => 0) ?_ ?_
  · have hw : IntKind.i64.wrap ((z.ch.length : Int) - 1) = (z.ch.length : Int) - 1 := wrap_i64 (by omega) (by omega)
    simp only [go_sem,hw]
    exact Cl.here ⟨z.ch.length, by omega, by rw [List.take_length]; rfl, rfl, rfl⟩
  · rintro env rows ⟨i, hi, hs, rfl, rfl⟩
    simp only [go_sem,a322,s322]
    refine condC_intro ?_ ?_ <;> intro hg2 <;> simp only [decide_eq_true_eq,decide_eq_false_iff_not,beq_iff_eq,beq_eq_false_iff_ne,bne_iff_ne,bne_eq_false_iff_eq,Bool.not_eq_true',Bool.not_eq_false',Int.not_lt,Int.not_le,ne_eq,Bool.and_eq_true,Bool.or_eq_true,Bool.or_eq_false_iff,Bool.and_eq_false_iff] at hg2 <;> simp only [go_sem,a322,s322]
    · obtain ⟨k, rfl⟩ : ∃ k, i = k + 1 := ⟨i - 1, by omega⟩
      have hlt : k < z.ch.length := by omega
      have hc : ((k + 1 : Nat) : Int) - 1 = (k : Int) := by omega
      rw [hc]
      rw [shF_take hlt] at hs
      refine ⟨by omega, by omega, ?_⟩
      try simp only [Int.toNat_natCast]
      rw [els_getD hlt]
      simp only [go_sem,cel_ch]
      by_cases h3 : z.ch[k].at_ ≤ t
      · rw [if_pos h3] at hs
        simp only [go_sem,h3]
        refine ⟨by omega, by omega, ?_⟩
        try simp only [Int.toNat_natCast]
        rw [els_getD hlt]
        simp only [go_sem,cel_ch]
        exact Cl.fin rfl ⟨by rw [hs], rfl⟩
      · rw [if_neg h3] at hs
        have hw : IntKind.i64.wrap ((k : Int) - 1) = (k : Int) - 1 := wrap_i64 (by omega) (by omega)
        simp only [go_sem,h3,hw]
        refine Cl.here ⟨⟨k, by omega, hs, rfl, rfl⟩, ?_⟩
        simp only [go_sem]
        omega
    · obtain rfl : i = 0 := by omega
      refine Cl.fin rfl ⟨?_, rfl⟩
      rw [hs]; rfl
theorem Local_ok (z : Zn) (hz : vZ z = 0) (t : Int) (h0 : 0 ≤ t) (h1 : t ≤ 120968639) : AFn Tryz.prog 259 [z.v, .int .i64 t] [] (fun v rs => v = .tup [.int .i64 (t + shZ z t), .int .i64 0] ∧ rs = []) := by
  have hb := shZ_bd (vZ_ok hz) t
  unfold offP at hb
  have hw : IntKind.i64.wrap (t + shZ z t) = t + shZ z t := wrap_i64 (by omega) (by omega)
  refine afn Tryz.func259 a259_ok (by simp [a259, s259]) ?_
  simp only [go_sem,a259,s259,Zn.v]
  refine callC_det (Offset_ok z hz t h0 h1) rfl rfl ?_
  simp only [go_sem,hw]
  exact Cl.fin rfl ⟨rfl, rfl⟩
structure Sg where
  fr : Int
  to : Int
  off : Int
def Sg.cells (e : Sg) : List AVal := [.int .i64 e.fr, .int .i64 e.to, .int .i64 e.off]
instance : Cel Sg := ⟨Sg.cells, 3, fun _ => rfl, fun _ => rfl, fun _ => rfl⟩
instance : Flt Sg := ⟨fun _ => rfl⟩
theorem cel_sg (e : Sg) : Cel.c e = [.int .i64 e.fr, .int .i64 e.to, .int .i64 e.off] := rfl
theorem cel_sg_sz : Cel.sz Sg = 3 := rfl
theorem cel_sg_take (e : Sg) : List.take 3 (Cel.c e) = Cel.c e := rfl
attribute [go_sem] cel_sg_sz cel_sg_take
theorem Sg.ext' {a b : Sg} (h0 : a.fr = b.fr) (h1 : a.to = b.to) (h2 : a.off = b.off) : a = b := by
  cases a; cases b; simp_all

theorem sg_snoc {l : List Sg} {a b c : Int} : els l ++ [[.int .i64 a, .int .i64 b, .int .i64 c]] = els (l ++ [⟨a, b, c⟩]) := els_snoc (x := Sg.mk a b c)
/-- the segments of a zone from an instant on -/
def segs : Int → Int → List Ch → List Sg
  | f, o, [] => [⟨f, 120968640, o⟩]
  | f, o, c :: cs => (if f < c.at_ then [⟨f, c.at_, o⟩] else []) ++ segs c.at_ c.off cs
theorem segs_drop {f o : Int} {l : List Ch} {i : Nat} (h : i < l.length) : segs f o (l.drop i) = (if f < l[i].at_ then [⟨f, l[i].at_, o⟩] else []) ++ segs l[i].at_ l[i].off (l.drop (i + 1)) := by
  rw [List.drop_eq_getElem_cons h, segs]
theorem segments_ok (z : Zn) (hz : z.ch.length ≤ 64) : AFn Tryz.prog 209 [z.v] [] (fun v rs => v = .own 0 (segs 0 z.off z.ch).length 0 (segs 0 z.off z.ch).length ∧ rs = [.live 326 3 (els (segs 0 z.off z.ch))]) := by
  refine afn Tryz.func209 a209_ok (by simp [a209, s209]) ?_
  simp only [go_sem,a209,s209,Zn.v]
  refine avc_loop (fun env rows => ∃ (i : Nat) (f o : Int) (r : List Sg), i ≤ z.ch.length ∧ segs 0 z.off z.ch = r ++ segs f o (z.ch.drop i) ∧ r.length ≤ i ∧ env = [(3, .own 1 r.length 0 r.length), (4, .ref 0 1 0 0), (11, .pure 2 (els z.ch)), (12, .int .i64 z.ch.length), (13, .int .i64 i)] ∧ rows = [.live 326 3 [[.int .i64 f, .int .i64 0, .int .i64 o]], .live 326 3 (els r)])
    (fun env _ => match slot env 13 with | .int _ j => (z.ch.length - j).toNat | _ => 0) ?_ ?_
  · (refine Cl.ghost 3  326  3 rfl (Cl.norm [ 3,4,11,12,13] ?_); simp only [go_sem])
    (refine Cl.tr [some 1,some 2] [] rfl rfl (by simp only [go_sem] <;> rfl) ?_; simp only [go_sem])
    exact Cl.here ⟨0, 0, z.off, [], by omega, rfl, by simp, rfl, rfl⟩
  · rintro env rows ⟨i, f, o, r, hi, hd, hr, rfl, rfl⟩
    have hw : IntKind.i64.wrap ((i : Int) + 1) = ((i + 1 : Nat) : Int) := by rw [wrap_i64 (by omega) (by omega)]; omega
    simp only [go_sem,a209,s209]
    refine condC_intro ?_ ?_ <;> intro hg2 <;> simp only [decide_eq_true_eq,decide_eq_false_iff_not,beq_iff_eq,beq_eq_false_iff_ne,bne_iff_ne,bne_eq_false_iff_eq,Bool.not_eq_true',Bool.not_eq_false',Int.not_lt,Int.not_le,ne_eq,Bool.and_eq_true,Bool.or_eq_true,Bool.or_eq_false_iff,Bool.and_eq_false_iff] at hg2 <;> simp only [go_sem,a209,s209]
    · have hlt : i < z.ch.length := by omega
      refine ⟨by omega, by omega, ?_⟩
      try simp only [Int.toNat_natCast]
      rw [segs_drop hlt] at hd
      rw [els_getD hlt]
      generalize z.ch[i] = c at hd ⊢
      simp only [go_sem,cel_ch]
      by_cases h3 : c.at_ > f
      · rw [if_pos h3, ← List.append_assoc] at hd
        simp only [go_sem,h3]
        refine ⟨by omega, ?_⟩
        simp only [go_sem,sg_snoc,hw]
        (refine Cl.tr [some 0,some 1] [] rfl rfl (by simp only [go_sem] <;> rfl) ?_; simp only [go_sem])
        refine Cl.here ⟨⟨i + 1, c.at_, c.off, _, by omega, hd, by simp; omega, by simp, rfl⟩, ?_⟩
        simp only [go_sem]
        omega
      · rw [if_neg h3, List.nil_append] at hd
        simp only [go_sem,h3,hw]
        (refine Cl.tr [some 0,some 1] [] rfl rfl (by simp only [go_sem] <;> rfl) ?_; simp only [go_sem])
        refine Cl.here ⟨⟨i + 1, c.at_, c.off, _, by omega, hd, by omega, rfl, rfl⟩, ?_⟩
        simp only [go_sem]
        omega
    · obtain rfl : i = z.ch.length := by omega
      rw [List.drop_length, segs] at hd
      refine ⟨by omega, ?_⟩
      simp only [go_sem,sg_snoc]
      (refine Cl.tr [some 1] [] rfl rfl (by simp only [go_sem] <;> rfl) ?_; simp only [go_sem])
      rw [hd]
      exact Cl.here ⟨by simp [slot], rfl⟩

/-- the first instant of segments with a local minute -/
def frst : List Sg → Int → Int
  | [], _ => 120968640
  | s :: ss, t => if max s.fr (t - s.off) < s.to then max s.fr (t - s.off) else frst ss t
theorem frst_drop {l : List Sg} {t : Int} {i : Nat} (h : i < l.length) : frst (l.drop i) t = if max l[i].fr (t - l[i].off) < l[i].to then max l[i].fr (t - l[i].off) else frst (l.drop (i + 1)) t := by
  rw [List.drop_eq_getElem_cons h, frst]
def frstZ (z : Zn) (t : Int) : Int := if 120969479 < t then 120968640 else frst (segs 0 z.off z.ch) (max t (-840))
theorem segs_bd : ∀ {l : List Ch} {f o : Int}, 0 ≤ f → f ≤ 120968640 → offP o → (∀ c ∈ l, 0 ≤ c.at_ ∧ c.at_ ≤ 120968639 ∧ offP c.off) → ∀ s ∈ segs f o l, 0 ≤ s.fr ∧ s.fr ≤ 120968640 ∧ 0 ≤ s.to ∧ s.to ≤ 120968640 ∧ offP s.off
  | [], f, o, h0, h1, ho, _, s, hs => by
    simp only [segs, List.mem_singleton] at hs
    subst hs
    exact ⟨h0, h1, by simp only; omega, by simp only; omega, ho⟩
  | c :: cs, f, o, h0, h1, ho, hc, s, hs => by
    have h2 := hc c List.mem_cons_self
    rw [segs, List.mem_append] at hs
    rcases hs with hs | hs
    · split at hs
      · rw [List.mem_singleton] at hs
        subst hs
        exact ⟨h0, h1, by simp only; omega, by simp only; omega, ho⟩
      · simp at hs
    · exact segs_bd (by omega) (by omega) h2.2.2 (fun c h => hc c (List.mem_cons_of_mem _ h)) s hs
theorem frst_bd : ∀ {l : List Sg} {t : Int}, (∀ s ∈ l, 0 ≤ s.fr ∧ s.to ≤ 120968640) → 0 ≤ frst l t ∧ frst l t ≤ 120968640
  | [], t, _ => by simp [frst]
  | s :: ss, t, h => by
    have h1 := h s List.mem_cons_self
    rw [frst]
    split
    · omega
    · exact frst_bd fun s hs => h s (List.mem_cons_of_mem _ hs)
theorem segs_length : ∀ {l : List Ch} {f o : Int}, (segs f o l).length ≤ l.length + 1
  | [], f, o => by simp [segs]
  | c :: cs, f, o => by
    have := segs_length (l := cs) (f := c.at_) (o := c.off)
    rw [segs, List.length_append, List.length_cons]
    split <;> simp <;> omega

theorem first_ok (z : Zn) (hz : ZnOk z) (t : Int) (ht : -1000000000 ≤ t) : AFn Tryz.prog 284 [z.v, .int .i64 t] [] (fun v rs => v = .int .i64 (frstZ z t) ∧ rs = []) := by
  refine afn Tryz.func284 a284_ok (by simp [a284, s284]) ?_
  have hsg := segments_ok z hz.len
  have hbd := segs_bd (l := z.ch) (f := 0) (o := z.off) (by omega) (by omega) hz.off hz.ch
  have hln := segs_length (l := z.ch) (f := 0) (o := z.off)
  have hz1 := hz.len
  unfold frstZ
  unfold Zn.v at hsg ⊢
  simp only [go_sem,a284,s284]
  by_cases h1 : t > 120969479
  · have h1' : 120969479 < t := h1
    simp only [go_sem,h1,h1']
    exact Cl.fin rfl ⟨rfl, rfl⟩
  have h1' : ¬ 120969479 < t := h1
  rw [if_neg h1']
  simp only [go_sem,h1]
  (refine callC_of [] [] (by simp) rfl (bindL_clean _ (by first | rfl | simp only [go_sem])) (hsg) ?_; rintro _ _ ⟨rfl,rfl⟩; refine ⟨.inl rfl,?_⟩; simp only [go_sem])
  clear hsg
  try rw [show Int.negSucc 839 = -840 from rfl]
  generalize segs 0 z.off z.ch = l at *
  obtain ⟨u, hu⟩ : ∃ u, u = max t (-840) := ⟨_, rfl⟩
  rw [← hu]
  have hu1 : -1000000000 ≤ u ∧ u ≤ 120969479 := by omega
  refine avc_loop (fun env rows => ∃ i : Nat, i ≤ l.length ∧ frst l u = frst (l.drop i) u ∧ env = [(1, .int .i64 u), (13, .own 0 l.length 0 l.length), (14, .int .i64 l.length), (15, .int .i64 i)] ∧ rows = [.live 326 3 (els l)])
    (fun env _ => match slot env 15 with | .int _ j => (l.length - j).toNat | _ => 0) ?_ ?_
  · (refine Cl.tr [some 1] [] rfl rfl (by simp only [go_sem] <;> rfl) ?_; simp only [go_sem])
    exact Cl.here ⟨0, by omega, rfl, rfl, rfl⟩
  · rintro env rows ⟨i, hi, hd, rfl, rfl⟩
    have hw : IntKind.i64.wrap ((i : Int) + 1) = ((i + 1 : Nat) : Int) := by rw [wrap_i64 (by omega) (by omega)]; omega
    simp only [go_sem,a284,s284]
    refine condC_intro ?_ ?_ <;> intro hg2 <;> simp only [decide_eq_true_eq,decide_eq_false_iff_not,beq_iff_eq,beq_eq_false_iff_ne,bne_iff_ne,bne_eq_false_iff_eq,Bool.not_eq_true',Bool.not_eq_false',Int.not_lt,Int.not_le,ne_eq,Bool.and_eq_true,Bool.or_eq_true,Bool.or_eq_false_iff,Bool.and_eq_false_iff] at hg2 <;> simp only [go_sem,a284,s284]
    · have hlt : i < l.length := by omega
      refine ⟨by omega, by omega, ?_⟩
      try simp only [Int.toNat_natCast]
      rw [frst_drop hlt] at hd
      have hb := hbd l[i] (List.getElem_mem _)
      rw [els_getD hlt]
      generalize l[i] = s at hd hb ⊢
      unfold offP at hb
      simp only [go_sem,cel_sg]
      rw [wrap_i64 (x := u - s.off) (by omega) (by omega)]
      by_cases h3 : max s.fr (u - s.off) < s.to
      · rw [if_pos h3] at hd
        simp only [go_sem,h3]
        exact Cl.fin rfl ⟨by rw [hd], rfl⟩
      · rw [if_neg h3] at hd
        simp only [go_sem,h3,hw]
        (refine Cl.tr [some 0] [] rfl rfl (by simp only [go_sem] <;> rfl) ?_; simp only [go_sem])
        refine Cl.here ⟨⟨i + 1, by omega, hd, rfl, rfl⟩, ?_⟩
        simp only [go_sem]
        omega
    · obtain rfl : i = l.length := by omega
      refine Cl.fin rfl ⟨?_, rfl⟩
      rw [hd, List.drop_length]; rfl

theorem frstZ_bd {z : Zn} (hz : ZnOk z) (t : Int) : 0 ≤ frstZ z t ∧ frstZ z t ≤ 120968640 := by
  unfold frstZ
  split
  · omega
  · exact frst_bd fun s hs => by
      have := segs_bd (l := z.ch) (f := 0) (o := z.off) (by omega) (by omega) hz.off hz.ch s hs
      omega

theorem First_ok (z : Zn) (t : Int) (ht : -1000000000 ≤ t) : AFn Tryz.prog 226 [z.v, .int .i64 t] [] (fun v rs => v = (if vZ z = 0 then .tup [.int .i64 (frstZ z t), .int .i64 0] else .tup [.int .i64 0, .int .i64 (vZ z)]) ∧ rs = []) := by
  refine afn Tryz.func226 a226_ok (by simp [a226, s226]) ?_
  have hV := validZ_ok z
  have hF := fun h : vZ z = 0 => first_ok z (vZ_ok h) t ht
  unfold Zn.v at *
  simp only [go_sem,a226,s226]
  refine callC_det hV rfl rfl ?_
  by_cases h : vZ z = 0
  · rw [if_pos h, h]
    simp only [go_sem,bne_self_eq_false]
    refine callC_det (hF h) rfl rfl ?_
    simp only [go_sem]
    exact Cl.fin rfl ⟨rfl, rfl⟩
  · rw [if_neg h]
    have h' : (vZ z != 0) = true := bne_iff_ne.2 h
    simp only [go_sem,h']
    exact Cl.fin rfl ⟨rfl, rfl⟩
end Go.Proofs.YtpincjkjoeopkaaGreatDoor
