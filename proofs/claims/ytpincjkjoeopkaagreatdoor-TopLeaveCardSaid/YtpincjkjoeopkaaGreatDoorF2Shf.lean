/- Planned shifts: their spans, valid plans, the shift to which a stay belongs. -/
import Derived.Test.YtpincjkjoeopkaaGreatDoorF1Clk
import Derived.Test.YtpincjkjoeopkaaGreatDoorF9Abs
set_option linter.unusedSimpArgs false
set_option linter.unusedVariables false
set_option linter.unusedSectionVars false
namespace Go.Proofs.YtpincjkjoeopkaaGreatDoor
open Go Go.Abs
set_option linter.unusedSimpArgs false
set_option linter.unusedVariables false

/-- an interval -/
structure Vl where
  fr : Int
  to : Int
instance : Cel Vl := ⟨fun a => [.int .i64 a.fr, .int .i64 a.to], 2, fun _ => rfl, fun _ => rfl, fun _ => rfl⟩
instance : Flt Vl := ⟨fun _ => rfl⟩
theorem cel_vl (e : Vl) : Cel.c e = [.int .i64 e.fr, .int .i64 e.to] := rfl
theorem cel_vl_sz : Cel.sz Vl = 2 := rfl
theorem cel_vl_take (e : Vl) : List.take 2 (Cel.c e) = Cel.c e := rfl
attribute [go_sem] cel_vl_sz cel_vl_take
theorem els_at {α : Type} [Cel α] {l : List α} {k : Nat} {u : α} (h : l[k]? = some u) : (els l).getD k [] = Cel.c u := by
  rw [List.getD_eq_getElem?_getD]; unfold els; rw [List.getElem?_map, h]; rfl
def sfP (s : Sf) : Prop := (0 ≤ s.day ∧ s.day ≤ 84005) ∧ (0 ≤ s.st ∧ s.st < 1440) ∧ 1 ≤ s.mn ∧ s.mn ≤ 1440
instance (s : Sf) : Decidable (sfP s) := inferInstanceAs (Decidable ((0 ≤ s.day ∧ s.day ≤ 84005) ∧ (0 ≤ s.st ∧ s.st < 1440) ∧ 1 ≤ s.mn ∧ s.mn ≤ 1440))
def begS (z : Zn) (s : Sf) : Int := frstZ z (s.day * 1440 + s.st)
/-- the error of a shift -/
def spE (z : Zn) (s : Sf) : Int := if vZ z = 0 then if sfP s then if begS z s + s.mn > 120968640 then 2 else 0 else 2 else vZ z
def spV (z : Zn) (s : Sf) : Vl := if spE z s = 0 then ⟨begS z s, begS z s + s.mn⟩ else ⟨0, 0⟩
theorem Span_ok (z : Zn) (s : Sf) : AFn Tryz.prog 155 [z.v, .agg (Cel.c s)] [] (fun v rs => v = .tup [.agg (Cel.c (spV z s)), .int .i64 (spE z s)] ∧ rs = []) := by
  have hV := validZ_ok z
  refine afn Tryz.func155 a155_ok (by simp [a155, s155]) ?_
  have hF := fun h : -1000000000 ≤ s.day * 1440 + s.st => First_ok z (s.day * 1440 + s.st) h
  by_cases h : vZ z = 0
  rotate_left
  · have e : spE z s = vZ z := by unfold spE; rw [if_neg h]
    have e2 : spV z s = ⟨0, 0⟩ := by unfold spV; rw [e, if_neg h]
    have h' : (vZ z != 0) = true := bne_iff_ne.2 h
    rw [e, e2]
    unfold Zn.v at *
    simp only [go_sem,a155,s155,cel_sf,cel_vl]
    refine callC_det hV rfl rfl ?_
    simp only [go_sem,h']
    exact Cl.fin rfl ⟨rfl, rfl⟩
  by_cases hs : sfP s
  rotate_left
  · have e : spE z s = 2 := by unfold spE; rw [if_pos h, if_neg hs]
    have e2 : spV z s = ⟨0, 0⟩ := by unfold spV; rw [e, if_neg (by decide)]
    rw [e, e2]
    unfold Zn.v at *
    rw [h] at hV
    unfold sfP at hs
    simp only [go_sem,a155,s155,cel_sf,cel_vl]
    refine callC_det hV rfl rfl ?_
    simp only [go_sem,bne_self_eq_false]
    clear hF hV e e2
    repeat' (first | (refine grdC_intro ?_ ?_ <;> intro hg <;> (have hp := hg; try simp only [decide_eq_true_eq,decide_eq_false_iff_not,beq_iff_eq,beq_eq_false_iff_ne,bne_iff_ne,bne_eq_false_iff_eq,Bool.not_eq_true',Bool.not_eq_false',Int.not_lt,Int.not_le,ne_eq,Bool.and_eq_true,Bool.or_eq_true,Bool.or_eq_false_iff,Bool.and_eq_false_iff] at hp) <;> (first | omega | (simp only [go_sem,hg,a155,s155]; clear hg))) | (refine grdD_intro ?_ ?_ <;> intro hg <;> (have hp := hg; try simp only [decide_eq_true_eq,decide_eq_false_iff_not,beq_iff_eq,beq_eq_false_iff_ne,bne_iff_ne,bne_eq_false_iff_eq,Bool.not_eq_true',Bool.not_eq_false',Int.not_lt,Int.not_le,ne_eq,Bool.and_eq_true,Bool.or_eq_true,Bool.or_eq_false_iff,Bool.and_eq_false_iff] at hp) <;> (first | omega | (simp only [go_sem,hg,a155,s155]; clear hg))) | (refine condC_intro ?_ ?_ <;> intro hg <;> (have hp := hg; try simp only [decide_eq_true_eq,decide_eq_false_iff_not,beq_iff_eq,beq_eq_false_iff_ne,bne_iff_ne,bne_eq_false_iff_eq,Bool.not_eq_true',Bool.not_eq_false',Int.not_lt,Int.not_le,ne_eq,Bool.and_eq_true,Bool.or_eq_true,Bool.or_eq_false_iff,Bool.and_eq_false_iff] at hp) <;> (first | omega | (simp only [go_sem,hg,a155,s155]; clear hg))) | (refine condW_intro ?_ ?_ <;> intro hg <;> (have hp := hg; try simp only [decide_eq_true_eq,decide_eq_false_iff_not,beq_iff_eq,beq_eq_false_iff_ne,bne_iff_ne,bne_eq_false_iff_eq,Bool.not_eq_true',Bool.not_eq_false',Int.not_lt,Int.not_le,ne_eq,Bool.and_eq_true,Bool.or_eq_true,Bool.or_eq_false_iff,Bool.and_eq_false_iff] at hp) <;> (first | omega | (simp only [go_sem,hg,a155,s155]; clear hg))))
    all_goals exact Cl.fin rfl ⟨rfl, rfl⟩
  have hb := frstZ_bd (vZ_ok h) (s.day * 1440 + s.st)
  have hs' := hs
  unfold sfP at hs'
  replace hF := hF (by omega)
  rw [if_pos h] at hF
  have d1 : decide (s.day < 0) = false := decide_eq_false (by omega)
  have d2 : decide (84005 < s.day) = false := decide_eq_false (by omega)
  have d3 : decide (s.st < 0) = false := decide_eq_false (by omega)
  have d4 : decide (1440 ≤ s.st) = false := decide_eq_false (by omega)
  have d5 : decide (s.mn < 1) = false := decide_eq_false (by omega)
  have d6 : decide (1440 < s.mn) = false := decide_eq_false (by omega)
  have hw1 : IntKind.i64.wrap (s.day * 1440) = s.day * 1440 := wrap_i64 (by omega) (by omega)
  have hw2 : IntKind.i64.wrap (s.day * 1440 + s.st) = s.day * 1440 + s.st := wrap_i64 (by omega) (by omega)
  have hw3 : IntKind.i64.wrap (begS z s + s.mn) = begS z s + s.mn := by unfold begS; exact wrap_i64 (by omega) (by omega)
  by_cases hc : begS z s + s.mn > 120968640
  · have e : spE z s = 2 := by unfold spE; rw [if_pos h, if_pos hs, if_pos hc]
    have e2 : spV z s = ⟨0, 0⟩ := by unfold spV; rw [e, if_neg (by decide)]
    have hc' : 120968640 < begS z s + s.mn := hc
    rw [e, e2]
    unfold Zn.v at *
    rw [h] at hV
    simp only [go_sem,a155,s155,cel_sf,cel_vl]
    refine callC_det hV rfl rfl ?_
    simp only [go_sem,bne_self_eq_false,d1,d2,d3,d4,d5,d6,hw1,hw2]
    refine callC_det hF rfl rfl ?_
    rw [show frstZ z (s.day * 1440 + s.st) = begS z s from rfl]
    simp only [go_sem,hw3,hc']
    exact Cl.fin rfl ⟨rfl, rfl⟩
  · have e : spE z s = 0 := by unfold spE; rw [if_pos h, if_pos hs, if_neg hc]
    have e2 : spV z s = ⟨begS z s, begS z s + s.mn⟩ := by unfold spV; rw [if_pos e]
    have hc' : decide (120968640 < begS z s + s.mn) = false := decide_eq_false hc
    rw [e, e2]
    unfold Zn.v at *
    rw [h] at hV
    simp only [go_sem,a155,s155,cel_sf,cel_vl]
    refine callC_det hV rfl rfl ?_
    simp only [go_sem,bne_self_eq_false,d1,d2,d3,d4,d5,d6,hw1,hw2]
    refine callC_det hF rfl rfl ?_
    rw [show frstZ z (s.day * 1440 + s.st) = begS z s from rfl]
    simp only [go_sem,hw3,hc',bne_self_eq_false]
    exact Cl.fin rfl ⟨rfl, rfl⟩

/-- the error of a plan; e: the end of the shift before -/
def splE (z : Zn) : Int → List Sf → Int
  | _, [] => 0
  | e, s :: ss => if spE z s = 0 then if (spV z s).fr < e then 1 else splE z (spV z s).to ss else spE z s
def plE (z : Zn) (pl : List Sf) : Int := if 1024 < pl.length then 3 else if vZ z = 0 then splE z 0 pl else vZ z
theorem splE_drop {z : Zn} {e : Int} {l : List Sf} {i : Nat} (h : i < l.length) : splE z e (l.drop i) = if spE z l[i] = 0 then if (spV z l[i]).fr < e then 1 else splE z (spV z l[i]).to (l.drop (i + 1)) else spE z l[i] := by
  rw [List.drop_eq_getElem_cons h, splE]
theorem spV_bd {z : Zn} {s : Sf} (h : spE z s = 0) : 0 ≤ (spV z s).fr ∧ (spV z s).fr < (spV z s).to ∧ (spV z s).to ≤ 120968640 := by
  unfold spV
  rw [if_pos h]
  unfold spE at h
  by_cases hz : vZ z = 0
  rotate_left
  · rw [if_neg hz] at h; exact absurd h hz
  rw [if_pos hz] at h
  by_cases hs : sfP s
  rotate_left
  · rw [if_neg hs] at h; exact absurd h (by decide)
  rw [if_pos hs] at h
  have hb := frstZ_bd (vZ_ok hz) (s.day * 1440 + s.st)
  unfold sfP at hs
  split at h
  · cases h
  · unfold begS at *; simp only; omega
/-- what spans gives -/
def spsQ (z : Zn) (pl : List Sf) (v : AVal) (rs : List Row) : Prop :=
  if plE z pl = 0 then v = .tup [.own 0 pl.length 0 pl.length, .int .i64 0] ∧ rs = [.live 64 2 (els (pl.map (spV z)))] else v = .tup [.nils, .int .i64 (plE z pl)] ∧ rs = []
theorem spans_ok (z : Zn) (pl : List Sf) (hl : pl.length ≤ 9223372036854775806) : AFn Tryz.prog 143 [z.v, .pure 3 (els pl)] [] (spsQ z pl) := by
  have hV := validZ_ok z
  have hS := Span_ok z
  refine afn Tryz.func143 a143_ok (by simp [a143, s143]) ?_
  unfold Zn.v at *
  simp only [go_sem,a143,s143,els_length]
  by_cases h1 : 1024 < pl.length
  · have h1' : (1024 : Int) < pl.length := by omega
    have e : plE z pl = 3 := by unfold plE; rw [if_pos h1]
    simp only [go_sem,h1']
    exact Cl.fin rfl (by unfold spsQ; rw [e, if_neg (by decide)]; exact ⟨rfl, rfl⟩)
  have h1' : decide ((1024 : Int) < pl.length) = false := decide_eq_false (by omega)
  simp only [go_sem,h1']
  refine callC_det hV rfl rfl ?_
  by_cases h : vZ z = 0
  rotate_left
  · have h' : (vZ z != 0) = true := bne_iff_ne.2 h
    have e : plE z pl = vZ z := by unfold plE; rw [if_neg h1, if_neg h]
    simp only [go_sem,h']
    exact Cl.fin rfl (by unfold spsQ; rw [e, if_neg h]; exact ⟨rfl, rfl⟩)
  have e : plE z pl = splE z 0 pl := by unfold plE; rw [if_neg h1, if_pos h]
  rw [h]
  simp only [go_sem,bne_self_eq_false]
  refine avc_loop (fun env rows => ∃ (i : Nat) (e : Int), i ≤ pl.length ∧ (i = 0 → e = 0) ∧ (∀ k, i = k + 1 → ((pl.take i).map (spV z))[k]?.map Vl.to = some e) ∧ splE z 0 pl = splE z e (pl.drop i) ∧ env = [(2, .ref 0 1 0 0), (7, .own 1 i 0 i), (20, .pure 3 (els pl)), (21, .int .i64 pl.length), (22, .int .i64 i)] ∧ rows = [.live 32 2 [[.int .i64 z.off, .pure 2 (els z.ch)]], .live 64 2 (els ((pl.take i).map (spV z)))])
    (fun env _ => match slot env 22 with | .int _ j => (pl.length - j).toNat | _ => 0) ?_ ?_
  · (refine Cl.ghost 7  64  2 rfl (Cl.norm [ 2,7,20,21,22] ?_); simp only [go_sem])
    exact Cl.here ⟨0, 0, by omega, fun _ => rfl, fun k hk => by omega, rfl, rfl, rfl⟩
  rintro env rows ⟨i, x, hi, hx0, hx1, hd, rfl, rfl⟩
  have hw : IntKind.i64.wrap ((i : Int) + 1) = ((i + 1 : Nat) : Int) := by rw [wrap_i64 (by omega) (by omega)]; omega
  have hL : (els ((pl.take i).map (spV z))).length = i := by rw [els_length, List.length_map, List.length_take]; omega
  by_cases hlt : i < pl.length
  rotate_left
  · have h1 : decide ((i : Int) < pl.length) = false := decide_eq_false (by omega)
    obtain rfl : i = pl.length := by omega
    simp only [go_sem,a143,s143,h1]
    (refine Cl.tr [some 1] [] rfl rfl (by simp only [go_sem] <;> rfl) ?_; simp only [go_sem])
    rw [List.drop_length, splE] at hd
    refine Cl.here ?_
    unfold finK spsQ
    rw [e, if_pos hd]; try rw [List.take_length]
    exact ⟨rfl, rfl⟩
  have h1 : decide ((i : Int) < pl.length) = true := decide_eq_true (by omega)
  have z0 : (0 : Int) ≤ i := by omega
  have z1 : (i : Int) < pl.length := by omega
  have hg : (els pl).getD i [] = Cel.c pl[i] := els_getD hlt
  rw [splE_drop hlt] at hd
  have hsn : els ((pl.take i).map (spV z)) ++ [Cel.c (spV z pl[i])] = els ((pl.take (i + 1)).map (spV z)) := by
    rw [els_snoc, List.take_succ_eq_append_getElem hlt, List.map_append]; rfl
  have hsv : ((pl.take (i + 1)).map (spV z))[i]? = some (spV z pl[i]) := by
    rw [List.getElem?_map, List.getElem?_take, if_pos (by omega), List.getElem?_eq_getElem hlt]; rfl
  have hS' := hS pl[i]
  have hbd := spV_bd (z := z) (s := pl[i])
  generalize hsi : pl[i] = s at *
  generalize hvv : spV z s = v at *
  rw [cel_vl] at hsn hS'
  simp only [go_sem,a143,s143,h1,z0,z1,hg,els_length,cel_sf]
  refine callC_det hS' rfl rfl ?_
  by_cases he : spE z s = 0
  rotate_left
  · have h' : (spE z s != 0) = true := bne_iff_ne.2 he
    rw [if_neg he] at hd
    simp only [go_sem,h']
    refine Cl.fin rfl ?_
    unfold spsQ
    rw [e, hd, if_neg he]; exact ⟨rfl, rfl⟩
  rw [if_pos he] at hd
  rw [he]
  simp only [go_sem,bne_self_eq_false]
  cases i with
  | zero =>
    obtain rfl : x = 0 := hx0 rfl
    rw [if_neg (by have := hbd he; omega)] at hd
    have hp : decide ((0 : Int) < ((0 : Nat) : Int)) = false := rfl
    have hsn' : els ([] : List Vl) ++ [[.int .i64 v.fr, .int .i64 v.to]] = els ((pl.take (0 + 1)).map (spV z)) := hsn
    have hw' : IntKind.i64.wrap (0 + 1) = ((0 + 1 : Nat) : Int) := hw
    simp only [go_sem,hp,hL,hsn',hw']
    (refine Cl.tr [some 0,some 1] [] rfl rfl (by simp only [go_sem] <;> rfl) ?_; simp only [go_sem])
    refine Cl.here ⟨⟨0 + 1, v.to, by omega, fun h => by omega, fun k hk => ?_, hd, rfl, ?_⟩, ?_⟩
    · obtain rfl : k = 0 := by omega
      rw [hsv]; rfl
    · rfl
    · simp only [go_sem]
      omega
  | succ k =>
    have hp : decide ((0 : Int) < ((k + 1 : Nat) : Int)) = true := decide_eq_true (by omega)
    have hw1 : IntKind.i64.wrap (((k + 1 : Nat) : Int) - 1) = (k : Int) := by rw [wrap_i64 (by omega) (by omega)]; omega
    obtain ⟨u, hu, rfl⟩ : ∃ u, ((pl.take (k + 1)).map (spV z))[k]? = some u ∧ u.to = x := by
      have h := hx1 k rfl
      rw [Option.map_eq_some_iff] at h
      exact h
    have hgu := els_at hu
    simp only [go_sem,hp,hL,hw1]
    refine ⟨by omega, by omega, ?_⟩
    simp only [go_sem,hgu,cel_vl]
    by_cases hc : v.fr < u.to
    · rw [if_pos hc] at hd
      simp only [go_sem,hc]
      refine Cl.fin rfl ?_
      unfold spsQ
      rw [e, hd, if_neg (by decide)]; exact ⟨rfl, rfl⟩
    · rw [if_neg hc] at hd
      have hc' : decide (v.fr < u.to) = false := decide_eq_false hc
      simp only [go_sem,hc',hL,hsn,hw]
      refine ⟨by omega, ?_⟩
      (refine Cl.tr [some 0,some 1] [] rfl rfl (by simp only [go_sem] <;> rfl) ?_; simp only [go_sem])
      refine Cl.here ⟨⟨k + 1 + 1, v.to, by omega, fun h => by omega, fun q hq => ?_, hd, rfl, rfl⟩, ?_⟩
      · obtain rfl : q = k + 1 := by omega
        rw [hsv]; rfl
      · simp only [go_sem]
        omega
theorem plE_len {z : Zn} {pl : List Sf} (h : plE z pl = 0) : pl.length ≤ 1024 := by
  unfold plE at h
  split at h
  · cases h
  · omega
theorem sValid_ok (z : Zn) (pl : List Sf) (hl : pl.length ≤ 9223372036854775806) : AFn Tryz.prog 66 [z.v, .pure 3 (els pl)] [] (fun v rs => v = .int .i64 (plE z pl) ∧ rs = []) := by
  have hS := spans_ok z pl hl
  refine afn Tryz.func66 a66_ok (by simp [a66, s66]) ?_
  unfold Zn.v at *
  simp only [go_sem,a66,s66]
  refine callC_of [] [] (by simp) rfl (bindL_clean _ (by first | rfl | simp only [go_sem,els_clean])) hS ?_
  rintro v rs hq
  unfold spsQ at hq
  refine ⟨.inl rfl, ?_⟩
  by_cases h : plE z pl = 0
  · rw [if_pos h] at hq
    obtain ⟨rfl, rfl⟩ := hq
    simp only [go_sem]
    rw [h]
    exact Cl.fin rfl ⟨rfl, rfl⟩
  · rw [if_neg h] at hq
    obtain ⟨rfl, rfl⟩ := hq
    simp only [go_sem]
    exact Cl.fin rfl ⟨rfl, rfl⟩

/-- the shift to which a stay belongs, and its distance -/
def belF (b e l : Int) : Nat → List Vl → Int × Int → Int × Int
  | _, [], a => a
  | i, v :: vs, a => belF b e l (i + 1) vs (if ((-e ≤ b - v.fr ∧ b - v.fr ≤ l) ∨ (0 ≤ b - v.fr ∧ b < v.to)) ∧ (a.1 < 0 ∨ max (b - v.fr) (-(b - v.fr)) < a.2) then ((i : Int), max (b - v.fr) (-(b - v.fr))) else a)
def bel (b e l : Int) (vs : List Vl) : Int := (belF b e l 0 vs (-1, 0)).1
end Go.Proofs.YtpincjkjoeopkaaGreatDoor
