/- The reference: Planned, missed. -/
import Derived.Test.YtpincjkjoeopkaaGreatDoorF9Ref
import Derived.Test.YtpincjkjoeopkaaGreatDoorF9AdA
set_option linter.unusedSimpArgs false
set_option linter.unusedVariables false
set_option linter.unusedSectionVars false
namespace Go.Proofs.YtpincjkjoeopkaaGreatDoor
open Go Go.Abs
set_option linter.unusedSimpArgs false
set_option linter.unusedVariables false

theorem rPlanned_ok (pl : List Sf) (hl : pl.length ≤ 1000000) (day : Int) : AFn Tryz.prog 139 [.pure 3 (els pl), .int .i64 day] [] (fun v rs => v = .int .i64 (planned pl day) ∧ rs = []) := by
  refine afn Tryz.func139 a139_ok (by simp [a139, s139]) ?_
  simp only [go_sem,a139,s139,els_length]
  refine avc_loop (fun env rows => ∃ i : Nat, i ≤ pl.length ∧ i ≤ 1024 ∧ env = [(0, .pure 3 (els pl)), (1, .int .i64 day), (5, .int .i64 ((pl.take i).map fun s => plOne s day).sum), (6, .int .i64 i)] ∧ rows = [])
    (fun env _ => match slot env 6 with | .int _ j => (pl.length - j).toNat | _ => 0) ?_ ?_
  · exact Cl.here ⟨0, by omega, by omega, rfl, rfl⟩
  rintro env rows ⟨i, hi, hi2, rfl, rfl⟩
  have hw : IntKind.i64.wrap ((i : Int) + 1) = ((i + 1 : Nat) : Int) := by rw [wrap_i64 (by omega) (by omega)]; omega
  have hb := planned_bd day (pl.take i)
  have hb2 : (pl.take i).length ≤ 1024 := by simp; omega
  by_cases hlt : i < pl.length
  · have h1 : decide ((i : Int) < pl.length) = true := decide_eq_true (by omega)
    by_cases hlt2 : i < 1024
    · have h2 : decide ((i : Int) < 1024) = true := decide_eq_true (by omega)
      have z0 : (0 : Int) ≤ i := by omega
      have z1 : (i : Int) < pl.length := by omega
      have gz : (els pl).getD i [] = Cel.c pl[i] := els_getD hlt
      have hs := sum_take1 (fun s => plOne s day) hlt
      have hnx : ∀ n : Int, n = (List.map (fun s => plOne s day) (List.take (i + 1) pl)).sum → ∃ j : Nat, j ≤ pl.length ∧ j ≤ 1024 ∧ ([(0, .pure 3 (els pl)), (1, .int .i64 day), (5, .int .i64 n), (6, .int .i64 ((i + 1 : Nat) : Int))] : Env) = [(0, .pure 3 (els pl)), (1, .int .i64 day), (5, .int .i64 ((pl.take j).map fun s => plOne s day).sum), (6, .int .i64 j)] ∧ ([] : List Row) = [] := fun n hn => ⟨i + 1, by omega, by omega, by rw [hn], rfl⟩
      by_cases c : pl[i].day = day ∧ 1 ≤ pl[i].mn ∧ pl[i].mn ≤ 1440
      · have hw2 : IntKind.i64.wrap ((List.map (fun s => plOne s day) (List.take i pl)).sum + pl[i].mn) = (List.map (fun s => plOne s day) (List.take (i + 1) pl)).sum := by
          rw [wrap_i64 (by omega) (by omega), hs]
          unfold plOne
          rw [if_pos c]
        simp only [go_sem,a139,s139,h1,h2,z0,z1,gz,els_length,c,beq_self_eq_true,hw2,hw,cel_sf]
        (refine Cl.tr [] [] rfl rfl (by simp only [go_sem] <;> rfl) ?_; simp only [go_sem])
        refine Cl.here ⟨hnx _ rfl, ?_⟩
        simp only [go_sem]
        omega
      · have hz : (List.map (fun s => plOne s day) (List.take i pl)).sum = (List.map (fun s => plOne s day) (List.take (i + 1) pl)).sum := by
          rw [hs]
          unfold plOne
          rw [if_neg c, Int.add_zero]
        by_cases c1 : pl[i].day = day
        · by_cases c2 : 1 ≤ pl[i].mn
          · have c3 : ¬ pl[i].mn ≤ 1440 := fun h => c ⟨c1, c2, h⟩
            simp only [go_sem,a139,s139,h1,h2,z0,z1,gz,els_length,c1,c2,c3,beq_self_eq_true,hw,cel_sf]
            (refine Cl.tr [] [] rfl rfl (by simp only [go_sem] <;> rfl) ?_; simp only [go_sem])
            (refine Cl.here ⟨hnx _ hz,?_⟩; simp only [go_sem]; omega)
          · simp only [go_sem,a139,s139,h1,h2,z0,z1,gz,els_length,c1,c2,beq_self_eq_true,hw,cel_sf]
            (refine Cl.tr [] [] rfl rfl (by simp only [go_sem] <;> rfl) ?_; simp only [go_sem])
            (refine Cl.here ⟨hnx _ hz,?_⟩; simp only [go_sem]; omega)
        · have c1' : (pl[i].day == day) = false := beq_eq_false_iff_ne.2 c1
          simp only [go_sem,a139,s139,h1,h2,z0,z1,gz,els_length,c1',hw,cel_sf]
          (refine Cl.tr [] [] rfl rfl (by simp only [go_sem] <;> rfl) ?_; simp only [go_sem])
          (refine Cl.here ⟨hnx _ hz,?_⟩; simp only [go_sem]; omega)
    · have h2 : decide ((i : Int) < 1024) = false := decide_eq_false (by omega)
      simp only [go_sem,a139,s139,h1,h2]
      refine Cl.fin rfl ⟨?_, rfl⟩
      unfold planned
      rw [show i = 1024 by omega]
  · have h1 : decide ((i : Int) < pl.length) = false := decide_eq_false (by omega)
    simp only [go_sem,a139,s139,h1]
    refine Cl.fin rfl ⟨?_, rfl⟩
    unfold planned
    rw [List.take_of_length_le (by omega), List.take_of_length_le (by omega)]

/-- the minutes of each name of the absences of an employee on a day -/
def misS (pl : List Sf) (emp day : Int) (l : List Ab) : List Ti := l.foldl (fun S a => if a.emp = emp ∧ a.day = day then addT a.name (abMin pl a) S else S) []
theorem misS_take {pl : List Sf} {emp day : Int} {l : List Ab} {i : Nat} (hi : i < l.length) : misS pl emp day (l.take (i + 1)) = if l[i].emp = emp ∧ l[i].day = day then addT l[i].name (abMin pl l[i]) (misS pl emp day (l.take i)) else misS pl emp day (l.take i) := by
  unfold misS
  rw [List.take_succ_eq_append_getElem hi, List.foldl_append]; rfl
theorem addT_bd {nm : ByteArray} {mn B C : Int} (hm : 0 ≤ mn ∧ mn ≤ C) (hB : 0 ≤ B) : ∀ {l : List Ti}, (∀ x ∈ l, 0 ≤ x.m ∧ x.m ≤ B) → ∀ x ∈ addT nm mn l, 0 ≤ x.m ∧ x.m ≤ B + C
  | [], _ => by
    intro x hx
    rw [addT, List.mem_singleton] at hx
    subst hx; simp only; omega
  | y :: t, h => by
    have hy := h y List.mem_cons_self
    have ht := addT_bd (nm := nm) hm hB (l := t) fun x hx => h x (List.mem_cons_of_mem _ hx)
    intro x hx
    unfold addT at hx
    split at hx
    · rcases List.mem_cons.1 hx with rfl | hx
      · omega
      · exact ht x hx
    · split at hx
      · rcases List.mem_cons.1 hx with rfl | hx
        · simp only; omega
        · have := h x (List.mem_cons_of_mem _ hx); omega
      · rcases List.mem_cons.1 hx with rfl | hx
        · simp only; omega
        · have := h x hx; omega
theorem addT_len (nm : ByteArray) (mn : Int) : ∀ l : List Ti, (addT nm mn l).length ≤ l.length + 1
  | [] => by simp [addT]
  | y :: t => by
    have := addT_len nm mn t
    unfold addT
    split
    · simp; omega
    · split <;> simp
theorem misS_bd {pl : List Sf} {emp day : Int} {l : List Ab} (hok : ∀ a ∈ l, abOk a) : ∀ {i : Nat}, i ≤ l.length → (misS pl emp day (l.take i)).length ≤ i ∧ ∀ x ∈ misS pl emp day (l.take i), 0 ≤ x.m ∧ x.m ≤ 1474560 * i
  | 0, _ => by simp [misS]
  | i + 1, h => by
    have ih := misS_bd (pl := pl) (emp := emp) (day := day) hok (i := i) (by omega)
    have hbm := abMin_bd (pl := pl) (hok l[i] (List.getElem_mem (by omega)))
    rw [misS_take (by omega)]
    split
    · refine ⟨Nat.le_trans (addT_len _ _ _) (by omega), ?_⟩
      have := addT_bd (nm := l[i].name) (C := 1474560) hbm (B := 1474560 * (i : Int)) (by omega) ih.2
      intro x hx
      have := this x hx
      omega
    · refine ⟨by omega, fun x hx => ?_⟩
      have := ih.2 x hx
      omega
def posT (l : List Ti) : List Ti := l.filter fun x => decide (0 < x.m)

theorem missed_ok (pl : List Sf) (hpl : pl.length ≤ 1000000) (l : List Ab) (hl : l.length ≤ 100000) (hok : ∀ a ∈ l, abOk a) (emp day : Int) : AFn Tryz.prog 55 [.pure 3 (els pl), .pure 4 (els l), .int .i64 emp, .int .i64 day] []
    (fun v rs => v = .pure 2 (els (posT (misS pl emp day l))) ∧ rs = []) := by
  refine afn Tryz.func55 a55_ok (by simp [a55, s55]) ?_
  simp only [go_sem,a55,s55,els_length]
  refine avc_loop (fun env rows => ∃ i : Nat, i ≤ l.length ∧ env = [(0, .pure 3 (els pl)), (1, .pure 4 (els l)), (2, .int .i64 emp), (3, .int .i64 day), (9, .own 0 (misS pl emp day (l.take i)).length 0 (misS pl emp day (l.take i)).length), (10, .nils), (11, .int .i64 i)] ∧ rows = [.live 78 2 (els (misS pl emp day (l.take i)))])
    (fun env _ => match slot env 11 with | .int _ j => (l.length - j).toNat | _ => 0) ?_ ?_
  · (refine Cl.ghost 9  78  2 rfl (Cl.norm [ 0,1,2,3,9,10,11] ?_); simp only [go_sem])
    exact Cl.here ⟨0, by omega, rfl, rfl⟩
  rintro env rows ⟨i, hi, rfl, rfl⟩
  have hw : IntKind.i64.wrap ((i : Int) + 1) = ((i + 1 : Nat) : Int) := by rw [wrap_i64 (by omega) (by omega)]; omega
  obtain ⟨hb1, hb2⟩ := misS_bd (pl := pl) (emp := emp) (day := day) hok hi
  by_cases hlt : i < l.length
  · have hT := misS_take (pl := pl) (emp := emp) (day := day) hlt
    have h1 : decide ((i : Int) < l.length) = true := decide_eq_true (by omega)
    have z0 : (0 : Int) ≤ i := by omega
    have z1 : (i : Int) < l.length := by omega
    have gz : (els l).getD i [] = Cel.c l[i] := els_getD hlt
    have hbm := abMin_bd (pl := pl) (hok l[i] (List.getElem_mem hlt))
    have hnx : ∀ S : List Ti, S = misS pl emp day (l.take (i + 1)) → ∃ i_1 : Nat, i_1 ≤ l.length ∧ ([(0, .pure 3 (els pl)), (1, .pure 4 (els l)), (2, .int .i64 emp), (3, .int .i64 day), (9, .own 0 S.length 0 S.length), (10, .nils), (11, .int .i64 ((i + 1 : Nat) : Int))] : Env) = [(0, .pure 3 (els pl)), (1, .pure 4 (els l)), (2, .int .i64 emp), (3, .int .i64 day), (9, .own 0 (misS pl emp day (l.take i_1)).length 0 (misS pl emp day (l.take i_1)).length), (10, .nils), (11, .int .i64 i_1)] ∧ ([.live 78 2 (els S)] : List Row) = [.live 78 2 (els (misS pl emp day (l.take i_1)))] := fun S hS => ⟨i + 1, by omega, by rw [hS], by rw [hS]⟩
    have hcall := addT_ok (misS pl emp day (l.take i)) (by omega) (fun x hx => by have := hb2 x hx; omega) l[i].name (abMin pl l[i]) (by omega)
    generalize misS pl emp day (l.take i) = S at *
    by_cases he : l[i].emp = emp
    · have e1 : (l[i].emp != emp) = false := bne_eq_false_iff_eq.2 he
      by_cases hd : l[i].day = day
      · have e2 : (l[i].day != day) = false := bne_eq_false_iff_eq.2 hd
        rw [if_pos ⟨he, hd⟩] at hT
        unfold abMin at *
        by_cases hm : l[i].min = -1
        · have e3 : (l[i].min == -1) = true := beq_iff_eq.2 hm
          rw [if_pos hm, hd] at hT hcall
          simp only [go_sem,a55,s55,h1,z0,z1,gz,els_length,cel_ab,e1,e2,e3,int_m1]
          refine callC_det (rPlanned_ok pl hpl day) rfl rfl ?_
          simp only [go_sem,z0,z1,gz,els_length,cel_ab]
          (refine callC_of [0] [] (by decide) (by simp only [go_sem] <;> rfl) (by simp only [go_sem] <;> rfl) (hcall) ?_; rintro _ _ ⟨rfl,rfl⟩; refine ⟨.inl rfl,?_⟩; simp only [go_sem])
          simp only [go_sem,hw]
          refine Cl.here ⟨hnx _ hT.symm, ?_⟩
          simp only [go_sem]
          omega
        · have e3 : (l[i].min == -1) = false := beq_eq_false_iff_ne.2 hm
          rw [if_neg hm] at hT hcall
          simp only [go_sem,a55,s55,h1,z0,z1,gz,els_length,cel_ab,e1,e2,e3,int_m1]
          (refine callC_of [0] [] (by decide) (by simp only [go_sem] <;> rfl) (by simp only [go_sem] <;> rfl) (hcall) ?_; rintro _ _ ⟨rfl,rfl⟩; refine ⟨.inl rfl,?_⟩; simp only [go_sem])
          simp only [go_sem,hw]
          refine Cl.here ⟨hnx _ hT.symm, ?_⟩
          simp only [go_sem]
          omega
      · have e2 : (l[i].day != day) = true := bne_iff_ne.2 hd
        rw [if_neg fun h => hd h.2] at hT
        simp only [go_sem,a55,s55,h1,z0,z1,gz,els_length,cel_ab,e1,e2,hw]
        refine Cl.here ⟨hnx _ hT.symm, ?_⟩
        simp only [go_sem]
        omega
    · have e1 : (l[i].emp != emp) = true := bne_iff_ne.2 he
      rw [if_neg fun h => he h.1] at hT
      simp only [go_sem,a55,s55,h1,z0,z1,gz,els_length,cel_ab,e1,hw]
      refine Cl.here ⟨hnx _ hT.symm, ?_⟩
      simp only [go_sem]
      omega
  · have h1 : decide ((i : Int) < l.length) = false := decide_eq_false (by omega)
    simp only [go_sem,a55,s55,h1]
    rw [List.take_of_length_le (by omega)] at *
    generalize misS pl emp day l = S at *
    refine avc_loop (fun env rows => ∃ j : Nat, j ≤ S.length ∧ env = [(9, .own 0 S.length 0 S.length), (10, .own 1 (posT (S.take j)).length 0 (posT (S.take j)).length), (13, .int .i64 j)] ∧ rows = [.live 78 2 (els S), .live 78 2 (els (posT (S.take j)))])
      (fun env _ => match slot env 13 with | .int _ j => (S.length - j).toNat | _ => 0) ?_ ?_
    · (refine Cl.ghost 10  78  2 rfl (Cl.norm [ 9,10,13] ?_); simp only [go_sem])
      exact Cl.here ⟨0, by omega, rfl, rfl⟩
    rintro env rows ⟨j, hj, rfl, rfl⟩
    have hw : IntKind.i64.wrap ((j : Int) + 1) = ((j + 1 : Nat) : Int) := by rw [wrap_i64 (by omega) (by omega)]; omega
    by_cases hlt : j < S.length
    · have h1 : decide ((j : Int) < S.length) = true := decide_eq_true (by omega)
      have z0 : (0 : Int) ≤ j := by omega
      have z1 : (j : Int) < S.length := by omega
      have gz : (els S).getD j [] = Cel.c S[j] := els_getD hlt
      have hpl' : (posT (S.take j)).length ≤ j := Nat.le_trans (List.length_filter_le _ _) (by simp; omega)
      by_cases hm : 0 < S[j].m
      · have e1 : decide (0 < S[j].m) = true := decide_eq_true hm
        simp only [go_sem,a55,s55,h1,z0,z1,gz,els_length,cel_ti,e1,hw]
        refine ⟨by omega, ?_⟩
        have hpn : posT (S.take (j + 1)) = posT (S.take j) ++ [S[j]] := by
          unfold posT
          rw [List.take_succ_eq_append_getElem hlt, List.filter_append]
          simp [hm]
        have hrn : els (posT (S.take j)) ++ [[.str S[j].n, .int .i64 S[j].m]] = els (posT (S.take (j + 1))) := by rw [hpn]; exact els_snoc (x := S[j])
        have hln : (posT (S.take j)).length + 1 = (posT (S.take (j + 1))).length := by rw [hpn, List.length_append]; rfl
        rw [hrn, hln]
        (refine Cl.tr [some 0,some 1] [] rfl rfl (by simp only [go_sem] <;> rfl) ?_; simp only [go_sem])
        refine Cl.here ⟨⟨j + 1, by omega, rfl, rfl⟩, ?_⟩
        simp only [go_sem]
        omega
      · have e1 : decide (0 < S[j].m) = false := decide_eq_false hm
        simp only [go_sem,a55,s55,h1,z0,z1,gz,els_length,cel_ti,e1,hw]
        have hpn : posT (S.take (j + 1)) = posT (S.take j) := by
          unfold posT
          rw [List.take_succ_eq_append_getElem hlt, List.filter_append]
          simp [hm]
        refine Cl.here ⟨⟨j + 1, by omega, by rw [hpn], by rw [hpn]⟩, ?_⟩
        simp only [go_sem]
        omega
    · have h1 : decide ((j : Int) < S.length) = false := decide_eq_false (by omega)
      simp only [go_sem,a55,s55,h1]
      rw [List.take_of_length_le (by omega)] at *
      have hbv : bindV [.live 78 2 (els S), .live 78 2 (els (posT S))] [] [1] (.own 1 (posT S).length 0 (posT S).length) = .pure 2 (els (posT S)) := bindV_frz rfl rfl rfl els_length.symm els_clean
      refine Cl.frz [] [1] rfl rfl (by simp only [go_sem] <;> rfl) ?_
      simp only [go_sem,hbv]
      exact Cl.here ⟨rfl, rfl⟩

end Go.Proofs.YtpincjkjoeopkaaGreatDoor
