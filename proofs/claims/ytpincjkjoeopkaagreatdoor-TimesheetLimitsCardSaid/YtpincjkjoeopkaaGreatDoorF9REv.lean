/- The reference: Evaluate without events. -/
import Derived.Test.YtpincjkjoeopkaaGreatDoorF9Ref2
set_option linter.unusedSimpArgs false
set_option linter.unusedVariables false
set_option linter.unusedSectionVars false
namespace Go.Proofs.YtpincjkjoeopkaaGreatDoor
open Go Go.Abs
set_option linter.unusedSimpArgs false
set_option linter.unusedVariables false

/-- an anomaly -/
structure An where
  t : Int
  k : Int
instance : Cel An := ⟨fun a => [.int .i64 a.t, .int .i64 a.k], 2, fun _ => rfl, fun _ => rfl, fun _ => rfl⟩
instance : Flt An := ⟨fun _ => rfl⟩
/-- a result of a day -/
structure DR where
  day : Int
  ts : List Ti
  an : List An
instance : Cel DR := ⟨fun a => [.int .i64 a.day, .pure 2 (els a.ts), .pure 2 (els a.an)], 3, fun _ => rfl, fun a => by simp only [cleanL, clean, els_clean, Bool.and_self, Bool.and_true, Bool.true_and], fun _ => rfl⟩
theorem cel_dr (e : DR) : Cel.c e = [.int .i64 e.day, .pure 2 (els e.ts), .pure 2 (els e.an)] := rfl
theorem cel_dr_sz : Cel.sz DR = 3 := rfl
theorem cel_dr_take (e : DR) : List.take 3 (Cel.c e) = Cel.c e := rfl
attribute [go_sem] cel_dr_sz cel_dr_take

theorem rTotN_ok (day : Int) : AFn Tryz.prog 54 [.nils, .int .i64 day] [] (fun v rs => v = .nils ∧ rs = []) := by
  refine afn Tryz.func54 a54_ok (by simp [a54, s54]) ?_
  simp only [go_sem,a54,s54]
  refine avc_loop (fun env rows => env = [(0, .nils), (1, .int .i64 day), (5, .nils), (6, .int .i64 0)] ∧ rows = [])
    (fun env _ => 0) ?_ ?_
  · exact Cl.here ⟨rfl, rfl⟩
  rintro env rows ⟨rfl, rfl⟩
  simp only [go_sem,a54,s54]
  exact Cl.fin rfl ⟨rfl, rfl⟩

/-- the days of the absences, in order -/
def mrkL (l : List Ab) : List Int := l.foldl (fun S a => insM a.day S) []
theorem mrkL_take {l : List Ab} {i : Nat} (hi : i < l.length) : mrkL (l.take (i + 1)) = insM l[i].day (mrkL (l.take i)) := by
  unfold mrkL
  rw [List.take_succ_eq_append_getElem hi, List.foldl_append]; rfl
theorem mrkL_ok {l : List Ab} : ∀ {i : Nat}, i ≤ l.length → (mrkL (l.take i)).length ≤ i ∧ (mrkL (l.take i)).Pairwise (· < ·)
  | 0, _ => by simp [mrkL]
  | i + 1, h => by
    obtain ⟨h1, h2⟩ := mrkL_ok (l := l) (i := i) (by omega)
    rw [mrkL_take (by omega)]
    exact ⟨Nat.le_trans (insM_length _ _) (by omega), insM_sorted _ h2⟩
theorem mrkL_mem {l : List Ab} {d : Int} : d ∈ mrkL l ↔ ∃ a ∈ l, a.day = d := by
  have : ∀ (l : List Ab) (S : List Int), d ∈ l.foldl (fun S a => insM a.day S) S ↔ d ∈ S ∨ ∃ a ∈ l, a.day = d := by
    intro l
    induction l with
    | nil => simp
    | cons a l ih =>
      intro S
      rw [List.foldl_cons, ih, insM_mem]
      constructor
      · rintro ((h | h) | ⟨b, hb, h⟩)
        · exact .inr ⟨a, List.mem_cons_self, h.symm⟩
        · exact .inl h
        · exact .inr ⟨b, List.mem_cons_of_mem _ hb, h⟩
      · rintro (h | ⟨b, hb, h⟩)
        · exact .inl (.inr h)
        · rcases List.mem_cons.1 hb with rfl | hb
          · exact .inl (.inl h.symm)
          · exact .inr ⟨b, hb, h⟩
  simpa [mrkL] using this l []
/-- the results of the absences on a day -/
def dayR (pl : List Sf) (emp fr to : Int) (l : List Ab) (d : Int) : Option DR :=
  if fr ≤ d ∧ d ≤ to ∧ 0 < (posT (misS pl emp d l)).length then some ⟨d, posT (misS pl emp d l), []⟩ else none
def dayRs (pl : List Sf) (emp fr to : Int) (l : List Ab) (ds : List Int) : List DR := ds.filterMap (dayR pl emp fr to l)
/-- the error of an evaluation without events -/
def evE (l : List Ab) (fr to : Int) : Int := if 1024 < l.length then 3 else if fr < 0 ∨ 84005 < fr ∨ to < 0 ∨ 84005 < to then 2 else if to < fr then 1 else 0

theorem rEval_ok (z0 z1 v2 v3 v4 v5 v6 v7 v8 v9 v10 v11 v12 v13 : AVal) (hcl : cleanL [z0, z1, v2, v3, v4, v5, v6, v7, v8, v9, v10, v11, v12, v13] = true) (hon : ([z0, z1, v2, v3, v4, v5, v6, v7, v8, v9, v10, v11, v12, v13] : List AVal).all Abs.one = true)
    (pl : List Sf) (hpl : pl.length ≤ 1000000) (emp : Int)
    (hW : AFn Tryz.prog 21 [.agg [z0, z1, v2, v3, v4, v5, v6, v7, v8, v9, v10, v11, v12, v13], .pure 3 (els pl), .nils, .int .i64 emp] [] (fun v rs => v = .tup [.nils, .nils, .int .i64 0] ∧ rs = []))
    (hD : AFn Tryz.prog 50 [.agg [v9, v10, v11], .nils] [] (fun v rs => v = .tup [.nils, .int .i64 0] ∧ rs = []))
    (hM : AFn Tryz.prog 51 [.agg [z0, z1], v13, v12, .nils] [] (fun v rs => v = .tup [.nils, .int .i64 0] ∧ rs = []))
    (l : List Ab) (hl : l.length ≤ 100000) (hV : ∀ a ∈ l, AFn Tryz.prog 49 [.agg (Cel.c a)] [] (fun v rs => v = .bool true ∧ rs = [])) (hok : ∀ a ∈ l, abOk a) (fr to : Int) :
    AFn Tryz.prog 13 [.agg [z0, z1, v2, v3, v4, v5, v6, v7, v8, v9, v10, v11, v12, v13], .pure 3 (els pl), .nils, .pure 4 (els l), .int .i64 emp, .int .i64 fr, .int .i64 to] []
      (fun v rs => (evE l fr to ≠ 0 ∧ v = .tup [.nils, .int .i64 (evE l fr to)] ∨ evE l fr to = 0 ∧ v = .tup [.pure 3 (els (dayRs pl emp fr to l (mrkL l))), .int .i64 0]) ∧ rs = []) := by
  simp only [cleanL, Bool.and_eq_true, List.all_cons, List.all_nil, Bool.and_true] at hcl hon
  obtain ⟨c0, c1, c2, c3, c4, c5, c6, c7, c8, c9, c10, c11, c12, c13⟩ := hcl
  obtain ⟨o0, o1, o2, o3, o4, o5, o6, o7, o8, o9, o10, o11, o12, o13⟩ := hon
  refine afn Tryz.func13 a13_ok (by simp [a13, s13]) ?_
  simp only [go_sem,a13,s13,els_length,o0,o1,o2,o3,o4,o5,o6,o7,o8,o9,o10,o11,o12,o13,Bool.and_true]
  refine callC_det hW (by simp only [cleanL, clean, c0, c1, c2, c3, c4, c5, c6, c7, c8, c9, c10, c11, c12, c13, els_clean, Bool.and_true]) rfl ?_
  simp only [go_sem]
  unfold evE
  by_cases hgt : 1024 < l.length
  · have h1 : decide ((1024 : Int) < l.length) = true := decide_eq_true (by omega)
    simp only [go_sem,h1,els_length,a13,s13]
    rw [if_pos hgt]
    exact Cl.fin rfl ⟨.inl ⟨by omega, rfl⟩, rfl⟩
  have h1 : decide ((1024 : Int) < l.length) = false := decide_eq_false (by omega)
  simp only [go_sem,h1,els_length,a13,s13]
  rw [if_neg hgt]
  refine avc_loop (fun env rows => ∃ i : Nat, i ≤ l.length ∧ env = [(1, .pure 3 (els pl)), (3, .pure 4 (els l)), (4, .int .i64 emp), (5, .int .i64 fr), (6, .int .i64 to), (7, .ref 0 1 0 0), (16, .nils), (17, .nils), (19, .int .i64 i)] ∧ rows = [.live 42 14 [[z0, z1, v2, v3, v4, v5, v6, v7, v8, v9, v10, v11, v12, v13]]])
    (fun env _ => match slot env 19 with | .int _ j => (l.length - j).toNat | _ => 0) ?_ ?_
  · exact Cl.here ⟨0, by omega, rfl, rfl⟩
  rintro env rows ⟨i, hi, rfl, rfl⟩
  have hw : IntKind.i64.wrap ((i : Int) + 1) = ((i + 1 : Nat) : Int) := by rw [wrap_i64 (by omega) (by omega)]; omega
  by_cases hlt : i < l.length
  · have h1 : decide ((i : Int) < l.length) = true := decide_eq_true (by omega)
    have z0' : (0 : Int) ≤ i := by omega
    have z1' : (i : Int) < l.length := by omega
    have gz : (els l).getD i [] = Cel.c l[i] := els_getD hlt
    simp only [go_sem,a13,s13,h1,z0',z1',gz,els_length,cel_ab_take]
    refine callC_det (hV l[i] (List.getElem_mem hlt)) rfl rfl ?_
    simp only [go_sem,hw]
    refine Cl.here ⟨⟨i + 1, by omega, rfl, rfl⟩, ?_⟩
    simp only [go_sem]
    omega
  have h1 : decide ((i : Int) < l.length) = false := decide_eq_false (by omega)
  simp only [go_sem,a13,s13,h1]
  clear hlt h1 hw hi
  by_cases p1 : fr < 0
  · have qp1 : decide (fr < 0) = true := decide_eq_true p1
    simp only [go_sem,qp1,a13,s13]
    exact Cl.fin rfl ⟨.inl (by rw [if_pos (by omega)]; exact ⟨by omega, rfl⟩), rfl⟩
  have qp1 : decide (fr < 0) = false := decide_eq_false p1
  by_cases p2 : 84005 < fr
  · have qp2 : decide ((84005 : Int) < fr) = true := decide_eq_true p2
    simp only [go_sem,qp1,qp2,a13,s13]
    exact Cl.fin rfl ⟨.inl (by rw [if_pos (by omega)]; exact ⟨by omega, rfl⟩), rfl⟩
  have qp2 : decide ((84005 : Int) < fr) = false := decide_eq_false p2
  by_cases p3 : to < 0
  · have qp3 : decide (to < 0) = true := decide_eq_true p3
    simp only [go_sem,qp1,qp2,qp3,a13,s13]
    exact Cl.fin rfl ⟨.inl (by rw [if_pos (by omega)]; exact ⟨by omega, rfl⟩), rfl⟩
  have qp3 : decide (to < 0) = false := decide_eq_false p3
  by_cases p4 : 84005 < to
  · have qp4 : decide ((84005 : Int) < to) = true := decide_eq_true p4
    simp only [go_sem,qp1,qp2,qp3,qp4,a13,s13]
    exact Cl.fin rfl ⟨.inl (by rw [if_pos (by omega)]; exact ⟨by omega, rfl⟩), rfl⟩
  have qp4 : decide ((84005 : Int) < to) = false := decide_eq_false p4
  rw [if_neg (show ¬ (fr < 0 ∨ 84005 < fr ∨ to < 0 ∨ 84005 < to) by omega)]
  by_cases p5 : to < fr
  · have qp5 : decide (to < fr) = true := decide_eq_true p5
    simp only [go_sem,qp1,qp2,qp3,qp4,qp5,a13,s13]
    exact Cl.fin rfl ⟨.inl (by rw [if_pos p5]; exact ⟨by omega, rfl⟩), rfl⟩
  have qp5 : decide (to < fr) = false := decide_eq_false p5
  rw [if_neg p5]
  simp only [go_sem,qp1,qp2,qp3,qp4,qp5,a13,s13]
  clear qp1 qp2 qp3 qp4 qp5
  refine callC_det hD (by simp only [cleanL, clean, c0, c1, c2, c3, c4, c5, c6, c7, c8, c9, c10, c11, c12, c13, Bool.and_true]) rfl ?_
  simp only [go_sem,a13,s13]
  refine callC_det hM (by simp only [cleanL, clean, c0, c1, c2, c3, c4, c5, c6, c7, c8, c9, c10, c11, c12, c13, Bool.and_true]) rfl ?_
  simp only [go_sem,a13,s13]
  refine avc_loop (fun env rows => env = [(1, .pure 3 (els pl)), (3, .pure 4 (els l)), (4, .int .i64 emp), (5, .int .i64 fr), (6, .int .i64 to), (7, .ref 0 1 0 0), (16, .nils), (17, .nils), (20, .nils), (21, .nils), (22, .nils), (23, .nils), (24, .int .i64 0)] ∧ rows = [.live 42 14 [[z0, z1, v2, v3, v4, v5, v6, v7, v8, v9, v10, v11, v12, v13]]])
    (fun env _ => 0) ?_ ?_
  · exact Cl.here ⟨rfl, rfl⟩
  rintro env rows ⟨rfl, rfl⟩
  simp only [go_sem,a13,s13]
  refine avc_loop (fun env rows => env = [(1, .pure 3 (els pl)), (3, .pure 4 (els l)), (4, .int .i64 emp), (5, .int .i64 fr), (6, .int .i64 to), (16, .nils), (17, .nils), (20, .nils), (21, .nils), (22, .nils), (23, .nils), (27, .int .i64 0)] ∧ rows = [])
    (fun env _ => 0) ?_ ?_
  · (refine Cl.tr [] [] rfl rfl (by simp only [go_sem] <;> rfl) ?_; simp only [go_sem])
    exact Cl.here ⟨rfl, rfl⟩
  rintro env rows ⟨rfl, rfl⟩
  simp only [go_sem,a13,s13]
  refine avc_loop (fun env rows => ∃ i : Nat, i ≤ l.length ∧ env = [(1, .pure 3 (els pl)), (3, .pure 4 (els l)), (4, .int .i64 emp), (5, .int .i64 fr), (6, .int .i64 to), (17, .nils), (20, .nils), (21, .nils), (22, .own 0 (mrkL (l.take i)).length 0 (mrkL (l.take i)).length), (23, .nils), (28, .int .i64 i)] ∧ rows = [.live 3 1 (numsE .i64 (mrkL (l.take i)))])
    (fun env _ => match slot env 28 with | .int _ j => (l.length - j).toNat | _ => 0) ?_ ?_
  · (refine Cl.ghost 22  3  1 rfl (Cl.norm [ 1,3,4,5,6,17,20,21,22,23,28] ?_); simp only [go_sem])
    exact Cl.here ⟨0, by omega, rfl, rfl⟩
  rintro env rows ⟨i, hi, rfl, rfl⟩
  have hw : IntKind.i64.wrap ((i : Int) + 1) = ((i + 1 : Nat) : Int) := by rw [wrap_i64 (by omega) (by omega)]; omega
  obtain ⟨hm1, hm2⟩ := mrkL_ok (l := l) hi
  by_cases hlt : i < l.length
  · have h1 : decide ((i : Int) < l.length) = true := decide_eq_true (by omega)
    have z0' : (0 : Int) ≤ i := by omega
    have z1' : (i : Int) < l.length := by omega
    have gz : (els l).getD i [] = Cel.c l[i] := els_getD hlt
    have hcall := mark_ok (mrkL (l.take i)) (by omega) hm2 l[i].day
    have hT := mrkL_take hlt
    have hnx : ∃ j : Nat, j ≤ l.length ∧ ([(1, .pure 3 (els pl)), (3, .pure 4 (els l)), (4, .int .i64 emp), (5, .int .i64 fr), (6, .int .i64 to), (17, .nils), (20, .nils), (21, .nils), (22, .own 0 (insM l[i].day (mrkL (l.take i))).length 0 (insM l[i].day (mrkL (l.take i))).length), (23, .nils), (28, .int .i64 ((i + 1 : Nat) : Int))] : Env) = [(1, .pure 3 (els pl)), (3, .pure 4 (els l)), (4, .int .i64 emp), (5, .int .i64 fr), (6, .int .i64 to), (17, .nils), (20, .nils), (21, .nils), (22, .own 0 (mrkL (l.take j)).length 0 (mrkL (l.take j)).length), (23, .nils), (28, .int .i64 j)] ∧ ([.live 3 1 (numsE .i64 (insM l[i].day (mrkL (l.take i))))] : List Row) = [.live 3 1 (numsE .i64 (mrkL (l.take j)))] := ⟨i + 1, by omega, by rw [hT], by rw [hT]⟩
    generalize mrkL (l.take i) = S at *
    simp only [go_sem,a13,s13,h1,z0',z1',gz,els_length,cel_ab]
    (refine callC_of [0] [] (by decide) (by simp only [go_sem] <;> rfl) (by simp only [go_sem] <;> rfl) (hcall) ?_; rintro _ _ ⟨rfl,rfl⟩; refine ⟨.inl rfl,?_⟩; simp only [go_sem])
    simp only [go_sem,hw]
    refine Cl.here ⟨hnx, ?_⟩
    simp only [go_sem]
    omega
  have h1 : decide ((i : Int) < l.length) = false := decide_eq_false (by omega)
  simp only [go_sem,a13,s13,h1]
  rw [List.take_of_length_le (by omega)] at *
  have hSl : (mrkL l).length ≤ 100000 := by omega
  clear hlt h1 hw hi
  generalize mrkL l = S at *
  have hbv : ∀ k : Nat, bindV [.live 3 1 (numsE .i64 S)] [] [0] (.own 0 S.length 0 S.length) = .pure 1 (numsE .i64 S) := fun _ => bindV_frz rfl rfl rfl numsE_length.symm numsE_clean
  refine avc_loop (fun env rows => ∃ j : Nat, j ≤ S.length ∧ env = [(1, .pure 3 (els pl)), (3, .pure 4 (els l)), (4, .int .i64 emp), (5, .int .i64 fr), (6, .int .i64 to), (17, .nils), (20, .nils), (21, .nils), (22, .pure 1 (numsE .i64 S)), (23, .nils), (29, .own 0 (dayRs pl emp fr to l (S.take j)).length 0 (dayRs pl emp fr to l (S.take j)).length), (30, .int .i64 j)] ∧ rows = [.live 76 3 (els (dayRs pl emp fr to l (S.take j)))])
    (fun env _ => match slot env 30 with | .int _ j => (S.length - j).toNat | _ => 0) ?_ ?_
  · refine Cl.frz [] [0] rfl rfl (by simp only [go_sem] <;> rfl) ?_
    simp only [go_sem,hbv]
    (refine Cl.ghost 29  76  3 rfl (Cl.norm [ 1,3,4,5,6,17,20,21,22,23,29,30] ?_); simp only [go_sem])
    exact Cl.here ⟨0, by omega, rfl, rfl⟩
  rintro env rows ⟨j, hj, rfl, rfl⟩
  have hw : IntKind.i64.wrap ((j : Int) + 1) = ((j + 1 : Nat) : Int) := by rw [wrap_i64 (by omega) (by omega)]; omega
  have hLn : (dayRs pl emp fr to l (S.take j)).length ≤ j := Nat.le_trans (List.length_filterMap_le _ _) (by simp; omega)
  by_cases hlt : j < S.length
  · have h1 : decide ((j : Int) < S.length) = true := decide_eq_true (by omega)
    have z0' : (0 : Int) ≤ j := by omega
    have z1' : (j : Int) < S.length := by omega
    have gz : (numsE .i64 S).getD j [] = [.int .i64 S[j]] := by rw [numsE_getD hlt, List.getD_eq_getElem?_getD, List.getElem?_eq_getElem hlt, Option.getD_some]
    have hT : dayRs pl emp fr to l (S.take (j + 1)) = dayRs pl emp fr to l (S.take j) ++ (dayR pl emp fr to l S[j]).toList := by
      unfold dayRs
      rw [List.take_succ_eq_append_getElem hlt, List.filterMap_append]
      cases hdr : dayR pl emp fr to l S[j] <;> simp [hdr]
    have hmis := missed_ok pl hpl l hl hok emp S[j]
    have hnx : ∀ L' : List DR, L' = dayRs pl emp fr to l (S.take (j + 1)) → ∃ k : Nat, k ≤ S.length ∧ ([(1, .pure 3 (els pl)), (3, .pure 4 (els l)), (4, .int .i64 emp), (5, .int .i64 fr), (6, .int .i64 to), (17, .nils), (20, .nils), (21, .nils), (22, .pure 1 (numsE .i64 S)), (23, .nils), (29, .own 0 L'.length 0 L'.length), (30, .int .i64 ((j + 1 : Nat) : Int))] : Env) = [(1, .pure 3 (els pl)), (3, .pure 4 (els l)), (4, .int .i64 emp), (5, .int .i64 fr), (6, .int .i64 to), (17, .nils), (20, .nils), (21, .nils), (22, .pure 1 (numsE .i64 S)), (23, .nils), (29, .own 0 (dayRs pl emp fr to l (S.take k)).length 0 (dayRs pl emp fr to l (S.take k)).length), (30, .int .i64 k)] ∧ ([.live 76 3 (els L')] : List Row) = [.live 76 3 (els (dayRs pl emp fr to l (S.take k)))] := fun L' hL => ⟨j + 1, by omega, by rw [hL], by rw [hL]⟩
    generalize dayRs pl emp fr to l (S.take j) = L at *
    unfold dayR at hT
    have hPl : (posT (misS pl emp S[j] l)).length ≤ 100000 := by
      have := (misS_bd (pl := pl) (emp := emp) (day := S[j]) hok (i := l.length) (Nat.le_refl _)).1
      rw [List.take_length] at this
      exact Nat.le_trans (List.length_filter_le _ _) (by omega)
    generalize posT (misS pl emp S[j] l) = P at *
    simp only [go_sem,a13,s13,h1,z0',z1',gz,numsE_length]
    refine callD_det (rTotN_ok S[j]) rfl rfl ?_
    simp only [go_sem]
    refine avc_loop (fun env rows => env = [(1, .pure 3 (els pl)), (3, .pure 4 (els l)), (4, .int .i64 emp), (5, .int .i64 fr), (6, .int .i64 to), (17, .nils), (20, .nils), (21, .nils), (22, .pure 1 (numsE .i64 S)), (23, .nils), (29, .own 0 L.length 0 L.length), (30, .int .i64 j), (31, .ref 1 1 0 0), (32, .int .i64 0)] ∧ rows = [.live 76 3 (els L), .live 76 3 [[.int .i64 S[j], .nils, .nils]]])
      (fun env _ => 0) ?_ ?_
    · exact Cl.here ⟨rfl, rfl⟩
    rintro env rows ⟨rfl, rfl⟩
    simp only [go_sem,a13,s13]
    refine callD_det hmis rfl rfl ?_
    simp only [go_sem]
    refine ⟨by omega, ?_⟩
    have hb1 : bindV [.live 76 3 (els L), .live 76 3 [[.int .i64 S[j], .own 2 P.length 0 P.length, .own 3 0 0 0]], .live 78 2 (els P), .live 132 2 []] [some 0, some 1] [2, 3] (.own 2 P.length 0 P.length) = .pure 2 (els P) := bindV_frz rfl rfl rfl els_length.symm els_clean
    have hb2 : bindV [.live 76 3 (els L), .live 76 3 [[.int .i64 S[j], .own 2 P.length 0 P.length, .own 3 0 0 0]], .live 78 2 (els P), .live 132 2 []] [some 0, some 1] [2, 3] (.own 3 0 0 0) = .pure 2 [] := bindV_frz rfl rfl rfl rfl rfl
    refine avc_loop (fun env rows => env = [(1, .pure 3 (els pl)), (3, .pure 4 (els l)), (4, .int .i64 emp), (5, .int .i64 fr), (6, .int .i64 to), (17, .nils), (20, .nils), (21, .nils), (22, .pure 1 (numsE .i64 S)), (23, .nils), (29, .own 0 L.length 0 L.length), (30, .int .i64 j), (31, .ref 1 1 0 0), (33, .int .i64 0)] ∧ rows = [.live 76 3 (els L), .live 76 3 [[.int .i64 S[j], .pure 2 (els P), .pure 2 []]]])
      (fun env _ => 0) ?_ ?_
    · (refine Cl.step (.ghostC 1  0  2  132  2 rfl (by simp) (by decide) rfl) ?_; simp only [go_sem,splice])
      refine Cl.frz [some 0,some 1] [2,3] rfl rfl (by simp only [go_sem] <;> rfl) ?_
      simp only [go_sem,hb1,hb2]
      exact Cl.here ⟨rfl, rfl⟩
    rintro env rows ⟨rfl, rfl⟩
    by_cases g1 : fr ≤ S[j]
    · by_cases g2 : S[j] ≤ to
      · by_cases g3 : 0 < P.length
        · have q1 : decide (fr ≤ S[j]) = true := decide_eq_true g1
          have q2 : decide (S[j] ≤ to) = true := decide_eq_true g2
          rw [if_pos ⟨g1, g2, g3⟩] at hT
          have hwz : IntKind.i64.wrap ((P.length : Int) + 0) = P.length := by rw [wrap_i64 (by omega) (by omega)]; omega
          have q3 : decide ((0 : Int) < P.length) = true := decide_eq_true (by omega)
          simp only [go_sem,a13,s13,q1,q2,els_length,hwz,q3,hw]
          refine ⟨by omega, ?_⟩
          have hsn : els L ++ [[.int .i64 S[j], .pure 2 (els P), .pure 2 []]] = els (L ++ [⟨S[j], P, []⟩]) := els_snoc (x := (⟨S[j], P, []⟩ : DR))
          have hln : L.length + 1 = (L ++ [(⟨S[j], P, []⟩ : DR)]).length := by simp
          rw [hsn, hln]
          (refine Cl.tr [some 0] [] rfl rfl (by simp only [go_sem] <;> rfl) ?_; simp only [go_sem])
          refine Cl.here ⟨hnx _ (by rw [hT]; rfl), ?_⟩
          simp only [go_sem]
          omega
        · rw [if_neg fun h => g3 h.2.2] at hT
          have q1 : decide (fr ≤ S[j]) = true := decide_eq_true g1
          have q2 : decide (S[j] ≤ to) = true := decide_eq_true g2
          have hwz : IntKind.i64.wrap ((P.length : Int) + 0) = P.length := by rw [wrap_i64 (by omega) (by omega)]; omega
          have q3 : decide ((0 : Int) < P.length) = false := decide_eq_false (by omega)
          simp only [go_sem,a13,s13,q1,q2,els_length,hwz,q3,hw]
          (refine Cl.tr [some 0] [] rfl rfl (by simp only [go_sem] <;> rfl) ?_; simp only [go_sem])
          refine Cl.here ⟨hnx _ (by rw [hT]; simp), ?_⟩
          simp only [go_sem]
          omega
      · rw [if_neg fun h => g2 h.2.1] at hT
        have q1 : decide (fr ≤ S[j]) = true := decide_eq_true g1
        have q2 : decide (S[j] ≤ to) = false := decide_eq_false g2
        simp only [go_sem,a13,s13,q1,q2,els_length,hw]
        (refine Cl.tr [some 0] [] rfl rfl (by simp only [go_sem] <;> rfl) ?_; simp only [go_sem])
        refine Cl.here ⟨hnx _ (by rw [hT]; simp), ?_⟩
        simp only [go_sem]
        omega
    · rw [if_neg fun h => g1 h.1] at hT
      have q1 : decide (fr ≤ S[j]) = false := decide_eq_false g1
      simp only [go_sem,a13,s13,q1,els_length,hw]
      (refine Cl.tr [some 0] [] rfl rfl (by simp only [go_sem] <;> rfl) ?_; simp only [go_sem])
      refine Cl.here ⟨hnx _ (by rw [hT]; simp), ?_⟩
      simp only [go_sem]
      omega
  have h1 : decide ((j : Int) < S.length) = false := decide_eq_false (by omega)
  simp only [go_sem,a13,s13,h1,numsE_length]
  rw [List.take_of_length_le (by omega)] at *
  generalize dayRs pl emp fr to l S = L at *
  have hbv2 : bindV [.live 76 3 (els L)] [] [0] (.own 0 L.length 0 L.length) = .pure 3 (els L) := bindV_frz rfl rfl rfl els_length.symm els_clean
  have hbt : bindV [.live 76 3 (els L)] [] [0] (.tup [.own 0 L.length 0 L.length, .int .i64 0]) = .tup [.pure 3 (els L), .int .i64 0] := by
    rw [bindV]; simp only [bindL]; rw [hbv2]; rfl
  refine Cl.frz [] [0] rfl rfl (by simp only [go_sem] <;> rfl) ?_
  simp only [go_sem,hbt]
  exact Cl.here ⟨.inr rfl, rfl⟩

end Go.Proofs.YtpincjkjoeopkaaGreatDoor
