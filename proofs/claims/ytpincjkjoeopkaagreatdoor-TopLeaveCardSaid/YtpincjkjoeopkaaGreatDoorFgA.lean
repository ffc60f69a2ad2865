/- F9Sam, F9Nil, F9Frz, F9PEv joined. -/
import Derived.Test.YtpincjkjoeopkaaGreatDoorF9REv
set_option linter.unusedSimpArgs false
set_option linter.unusedVariables false
set_option linter.unusedSectionVars false
section
/- The reference: Same, of a list with itself. -/
namespace Go.Proofs.YtpincjkjoeopkaaGreatDoor
open Go Go.Abs
set_option linter.unusedSimpArgs false
set_option linter.unusedVariables false

end Go.Proofs.YtpincjkjoeopkaaGreatDoor
end

section
/- The sheet: no bands, no premiums, no anomalies. -/
namespace Go.Proofs.YtpincjkjoeopkaaGreatDoor
open Go Go.Abs
set_option linter.unusedSimpArgs false
set_option linter.unusedVariables false

theorem addPremN_ok {rows : List Row} {s : Nat} (ha : inAll rows) (hs : s < rows.length) : AFn Tryz.prog 44 [.ref s 1 0 0, .nils] rows (fun v rs => v = .tup [] ∧ rs = rows) := by
  refine afn Tryz.func44 a44_ok (by simp [a44, s44]) ?_
  simp only [go_sem,a44,s44]
  refine avc_loop (fun env rs => env = [(0, .ref s 1 0 0), (6, .nils), (7, .int .i64 0), (8, .int .i64 0)] ∧ rs = rows)
    (fun env _ => 0) ?_ ?_
  · exact Cl.here ⟨rfl, rfl⟩
  rintro env rows' ⟨rfl, rfl⟩
  simp only [go_sem,a44,s44]
  exact Cl.here ⟨rfl, rfl⟩
theorem addAnoN_ok {rows : List Row} {s : Nat} (ha : inAll rows) (hs : s < rows.length) (z0 z1 : AVal) (c0 : clean z0 = true) (c1 : clean z1 = true) (o0 : Abs.one z0 = true) (o1 : Abs.one z1 = true) : AFn Tryz.prog 46 [.ref s 1 0 0, .agg [z0, z1], .nils] rows (fun v rs => v = .tup [] ∧ rs = rows) := by
  refine afn Tryz.func46 a46_ok (by simp [a46, s46]) ?_
  simp only [go_sem,a46,s46,o0,o1]
  refine avc_loop (fun env rs => env = [(0, .ref s 1 0 0), (4, .ref rows.length 1 0 0), (11, .nils), (12, .int .i64 0), (13, .int .i64 0)] ∧ rs = rows ++ [.live 32 2 [[z0, z1]]])
    (fun env _ => 0) ?_ ?_
  · exact Cl.here ⟨rfl, rfl⟩
  rintro env rows' ⟨rfl, rfl⟩
  simp only [go_sem,a46,s46]
  refine Cl.drop (by omega) ha (by simp [inEnv, inV, inL]) ?_
  exact Cl.here ⟨rfl, rfl⟩
theorem addBandsN_ok {rows : List Row} {s : Nat} (ha : inAll rows) (hs : s < rows.length) : AFn Tryz.prog 43 [.ref s 1 0 0, .nils] rows (fun v rs => v = .tup [] ∧ rs = rows) := by
  refine afn Tryz.func43 a43_ok (by simp [a43, s43]) ?_
  simp only [go_sem,a43,s43]
  refine avc_loop (fun env rs => env = [(0, .ref s 1 0 0), (1, .nils), (4, .mref rows.length), (11, .nils), (12, .int .i64 0), (13, .int .i64 0)] ∧ rs = rows ++ [.obj (.map false [.int .i64] [])])
    (fun env _ => 0) ?_ ?_
  · exact Cl.here ⟨rfl, rfl⟩
  rintro env rows' ⟨rfl, rfl⟩
  simp only [go_sem,a43,s43,app_at0,List.append_assoc]
  refine avc_loop (fun env rs => env = [(0, .ref s 1 0 0), (1, .nils), (22, .itref (rows.length + 1) rows.length)] ∧ rs = rows ++ [.obj (.map false [.int .i64] []), .obj (.iter 0 [])])
    (fun env _ => 0) ?_ ?_
  · rw [show (rows ++ [Row.obj (AObj.map false [CK.int .i64] [])]).length = rows.length + 1 by simp]
    exact Cl.here ⟨rfl, rfl⟩
  rintro env rows' ⟨rfl, rfl⟩
  simp only [go_sem,a43,s43,app_at0,app_at,List.append_assoc]
  unfold nextC evNext
  simp only [app_at0, app_at, List.getElem?_cons_zero, List.getElem?_cons_succ]
  refine ⟨rfl, by omega, fun _ => ?_, fun i hi _ => absurd hi (by simp)⟩
  simp only [go_sem,a43,s43]
  refine Cl.drop (by omega) ha (by simp [inEnv, inV, inL]) ?_
  exact Cl.here ⟨rfl, rfl⟩

end Go.Proofs.YtpincjkjoeopkaaGreatDoor
end

section
/- The sheet, frozen. -/
namespace Go.Proofs.YtpincjkjoeopkaaGreatDoor
open Go Go.Abs
set_option linter.unusedSimpArgs false
set_option linter.unusedVariables false

/-- the lists of a day, frozen -/
def shP (V : Int → Bool → List (List AVal)) (d : Int) (k : Bool) : AVal := if (V d k).length = 0 then .nils else .pure 2 (V d k)
def shQ (V : Int → Bool → List (List AVal)) (d : Int) : AVal := .agg [.int .i64 d, shP V d false, shP V d true]
theorem sh_frzV {W : List Row} {s m : Nat} {fr to : Int} {ks : List Int} {V : Int → Bool → List (List AVal)} {X : Int → Bool → Nat} (h : ShX W s m fr to ks V X) (d : Int) (k : Bool) :
    bindV W [some s, some m] (List.range W.length) (shV X V d k) = shP V d k := by
  unfold shV shP
  split
  · rfl
  · rename_i hv
    have hne : V d k ≠ [] := fun e => hv (by rw [e]; rfl)
    have hx := h.x d k hne
    have h1 : X d k ≠ s := fun e => by
      have := h.s; rw [← e, hx] at this
      simp only [Option.some.injEq, Row.live.injEq] at this
      have := this.2.1; omega
    have h2 : X d k ≠ m := fun e => by have := h.m; rw [← e, hx] at this; cases this
    refine bindV_frz ?_ ?_ hx rfl (h.cl d k)
    · simp [pos?, h1.symm, h2.symm]
    · simp; exact row_lt hx
theorem sh_frz {W : List Row} {s m : Nat} {fr to : Int} {ks : List Int} {V : Int → Bool → List (List AVal)} {X : Int → Bool → Nat} (h : ShX W s m fr to ks V X) :
    getRows W (List.range W.length) [some s, some m] [some s, some m] = some [.live 118 3 [[.int .i64 fr, .int .i64 to, .mref 1]], .obj (.map false [.int .i64] (mapF (shQ V) ks))] := by
  have hms : s ≠ m := fun e => by have h1 := h.s; rw [e, h.m] at h1; cases h1
  have hb : bindV W [some s, some m] (List.range W.length) (.mref m) = .mref 1 := by
    simp [bindV, pos?, hms]
  have hd : ∀ d, bindV W [some s, some m] (List.range W.length) (shD X V d) = shQ V d := fun d => by
    unfold shD shQ
    rw [bindV]; simp only [bindL, sh_frzV h]; rfl
  simp only [getRows, h.s, h.m]
  congr 1
  have hr1 : bindRow W [some s, some m] (List.range W.length) (.live 118 3 [[.int .i64 fr, .int .i64 to, .mref m]]) = .live 118 3 [[.int .i64 fr, .int .i64 to, .mref 1]] := by
    simp only [bindRow, bindE, List.map_cons, List.map_nil, bindL, hb]
    rfl
  have hr2 : bindRow W [some s, some m] (List.range W.length) (.obj (.map false [.int .i64] (mapF (shD X V) ks))) = .obj (.map false [.int .i64] (mapF (shQ V) ks)) := by
    simp only [bindRow, mapF, List.map_map]
    congr 2
    refine List.map_congr_left fun d _ => ?_
    simp only [Function.comp_apply, hd]
    rfl
  rw [hr1, hr2]

end Go.Proofs.YtpincjkjoeopkaaGreatDoor
end

section
/- Evaluate without events. -/
namespace Go.Proofs.YtpincjkjoeopkaaGreatDoor
open Go Go.Abs
set_option linter.unusedSimpArgs false
set_option linter.unusedVariables false

theorem abPuts_keys {S : AKey → Int} {fr to : Int} : ∀ (L : List AKey) (ks : List Int) (V : Int → Bool → List (List AVal)), (∀ d ∈ (abPuts S fr to ks V L).1, d ∈ ks ∨ ∃ k ∈ L, k.d = d) ∧ (abPuts S fr to ks V L).1.length ≤ ks.length + L.length
  | [], ks, V => ⟨fun d hd => .inl hd, by simp [abPuts]⟩
  | k :: L, ks, V => by
    have e : abPuts S fr to ks V (k :: L) = abPuts S fr to (abPut S fr to (ks, V) k).1 (abPut S fr to (ks, V) k).2 L := rfl
    rw [e]
    obtain ⟨h1, h2⟩ := abPuts_keys (S := S) (fr := fr) (to := to) L (abPut S fr to (ks, V) k).1 (abPut S fr to (ks, V) k).2
    have h3 : (∀ d ∈ (abPut S fr to (ks, V) k).1, d ∈ ks ∨ d = k.d) ∧ (abPut S fr to (ks, V) k).1.length ≤ ks.length + 1 := by
      unfold abPut
      split
      · refine ⟨fun d hd => ?_, ?_⟩
        · rcases addK_mem.1 hd with rfl | hd
          · exact .inr rfl
          · exact .inl hd
        · simp only; unfold addK; split <;> simp
      · exact ⟨fun d hd => .inl hd, by simp⟩
    refine ⟨fun d hd => ?_, ?_⟩
    · rcases h1 d hd with hd | ⟨x, hx, hd⟩
      · rcases h3.1 d hd with hd | rfl
        · exact .inl hd
        · exact .inr ⟨k, List.mem_cons_self, rfl⟩
      · exact .inr ⟨x, List.mem_cons_of_mem _ hx, hd⟩
    · have := h3.2
      rw [List.length_cons]; omega
/-- the result of a day -/
def rowQ (V : Int → Bool → List (List AVal)) (d : Int) : List AVal := [.int .i64 d, shP V d false, shP V d true]
/-- the results of the absences, as the program makes them -/
def evL (pl : List Sf) (emp fr to : Int) (l : List Ab) (L : List AKey) : List (List AVal) := (srt (abPuts (abSum pl emp l) fr to [] (fun _ _ => []) L).1).map (rowQ (abPuts (abSum pl emp l) fr to [] (fun _ _ => []) L).2)

theorem one_shP {V : Int → Bool → List (List AVal)} {d : Int} {k : Bool} : Abs.one (shP V d k) = true := by
  unfold shP; split <;> rfl
theorem clean_shP {V : Int → Bool → List (List AVal)} (h : ∀ d k, cleanE (V d k) = true) {d : Int} {k : Bool} : clean (shP V d k) = true := by
  unfold shP
  split
  · rfl
  · simp only [clean, h]
theorem cleanE_rowQ {V : Int → Bool → List (List AVal)} (h : ∀ d k, cleanE (V d k) = true) : ∀ {Z : List Int}, cleanE (Z.map (rowQ V)) = true
  | [] => rfl
  | d :: Z => by
    rw [List.map_cons, cleanE, cleanE_rowQ h (Z := Z)]
    simp only [rowQ, cleanL, clean_shP h, clean, Bool.and_self]

theorem pEval_ok (z0 z1 v2 v3 v4 v5 v6 v7 v8 v9 v10 v11 v12 v13 : AVal) (hcl : cleanL [z0, z1, v2, v3, v4, v5, v6, v7, v8, v9, v10, v11, v12, v13] = true) (hon : ([z0, z1, v2, v3, v4, v5, v6, v7, v8, v9, v10, v11, v12, v13] : List AVal).all Abs.one = true)
    (pl : List Sf) (hpl : pl.length ≤ 1000000) (emp : Int)
    (hW : AFn Tryz.prog 20 [.agg [z0, z1, v2, v3, v4, v5, v6, v7, v8, v9, v10, v11, v12, v13], .pure 3 (els pl), .nils, .int .i64 emp] [] (fun v rs => v = .tup [.nils, .nils, .int .i64 0] ∧ rs = []))
    (hD : AFn Tryz.prog 41 [.agg [v9, v10, v11], .nils] [] (fun v rs => v = .tup [.nils, .int .i64 0] ∧ rs = []))
    (hM : AFn Tryz.prog 42 [.agg [z0, z1], v13, v12, .nils] [] (fun v rs => v = .tup [.nils, .int .i64 0] ∧ rs = []))
    (l : List Ab) (hl : l.length ≤ 100000) (hV : ∀ a ∈ l, AFn Tryz.prog 40 [.agg (Cel.c a)] [] (fun v rs => v = .bool true ∧ rs = [])) (hok : ∀ a ∈ l, abOk a) (hwf : ∀ a ∈ l, (Lit.int .i64 a.day).wf = true ∧ a.name.size ≤ maxLen) (fr to : Int) :
    AFn Tryz.prog 11 [.agg [z0, z1, v2, v3, v4, v5, v6, v7, v8, v9, v10, v11, v12, v13], .pure 3 (els pl), .nils, .pure 4 (els l), .int .i64 emp, .int .i64 fr, .int .i64 to] []
      (fun v rs => (evE l fr to ≠ 0 ∧ v = .tup [.nils, .int .i64 (evE l fr to)] ∨ evE l fr to = 0 ∧ ∃ L : List AKey, L.Perm (abKeys emp l) ∧ L.Pairwise akLt ∧ v = .tup [.pure 3 (evL pl emp fr to l L), .int .i64 0]) ∧ rs = []) := by
  simp only [cleanL, Bool.and_eq_true, List.all_cons, List.all_nil, Bool.and_true] at hcl hon
  obtain ⟨c0, c1, c2, c3, c4, c5, c6, c7, c8, c9, c10, c11, c12, c13⟩ := hcl
  obtain ⟨o0, o1, o2, o3, o4, o5, o6, o7, o8, o9, o10, o11, o12, o13⟩ := hon
  refine afn Tryz.func11 a11_ok (by simp [a11, s11]) ?_
  simp only [go_sem,a11,s11,els_length,o0,o1,o2,o3,o4,o5,o6,o7,o8,o9,o10,o11,o12,o13,Bool.and_true]
  refine callC_det hW (by simp only [cleanL, clean, c0, c1, c2, c3, c4, c5, c6, c7, c8, c9, c10, c11, c12, c13, els_clean, Bool.and_true]) rfl ?_
  simp only [go_sem]
  unfold evE
  by_cases hgt : 1024 < l.length
  · have h1 : decide ((1024 : Int) < l.length) = true := decide_eq_true (by omega)
    simp only [go_sem,h1,els_length,a11,s11]
    rw [if_pos hgt]
    exact Cl.fin rfl ⟨.inl ⟨by omega, rfl⟩, rfl⟩
  have h1 : decide ((1024 : Int) < l.length) = false := decide_eq_false (by omega)
  simp only [go_sem,h1,els_length,a11,s11]
  rw [if_neg hgt]
  refine avc_loop (fun env rows => ∃ i : Nat, i ≤ l.length ∧ env = [(1, .pure 3 (els pl)), (3, .pure 4 (els l)), (4, .int .i64 emp), (5, .int .i64 fr), (6, .int .i64 to), (7, .ref 0 1 0 0), (16, .nils), (17, .nils), (42, .pure 4 (els l)), (43, .int .i64 l.length), (44, .int .i64 i)] ∧ rows = [.live 42 14 [[z0, z1, v2, v3, v4, v5, v6, v7, v8, v9, v10, v11, v12, v13]]])
    (fun env _ => match slot env 44 with | .int _ j => (l.length - j).toNat | _ => 0) ?_ ?_
  · exact Cl.here ⟨0, by omega, rfl, rfl⟩
  rintro env rows ⟨i, hi, rfl, rfl⟩
  have hw : IntKind.i64.wrap ((i : Int) + 1) = ((i + 1 : Nat) : Int) := by rw [wrap_i64 (by omega) (by omega)]; omega
  by_cases hlt : i < l.length
  · have h1 : decide ((i : Int) < l.length) = true := decide_eq_true (by omega)
    have z0' : (0 : Int) ≤ i := by omega
    have z1' : (i : Int) < l.length := by omega
    have gz : (els l).getD i [] = Cel.c l[i] := els_getD hlt
    have z2' : (i : Int) < l.length := z1'
    simp only [go_sem,a11,s11,h1,z0',z1',gz,els_length,cel_ab]
    refine callC_det (hV l[i] (List.getElem_mem hlt)) rfl rfl ?_
    simp only [go_sem,hw]
    (refine Cl.tr [some 0] [] rfl rfl (by simp only [go_sem] <;> rfl) ?_; simp only [go_sem])
    simp only [bindV_clean _ c0, bindV_clean _ c1, bindV_clean _ c2, bindV_clean _ c3, bindV_clean _ c4, bindV_clean _ c5, bindV_clean _ c6, bindV_clean _ c7, bindV_clean _ c8, bindV_clean _ c9, bindV_clean _ c10, bindV_clean _ c11, bindV_clean _ c12, bindV_clean _ c13, ite_self]
    refine Cl.here ⟨⟨i + 1, by omega, rfl, rfl⟩, ?_⟩
    simp only [go_sem]
    omega
  have h1 : decide ((i : Int) < l.length) = false := decide_eq_false (by omega)
  simp only [go_sem,a11,s11,h1]
  clear hlt h1 hw hi
  by_cases p1 : fr < 0
  · have qp1 : decide (fr < 0) = true := decide_eq_true p1
    simp only [go_sem,qp1,a11,s11]
    exact Cl.fin rfl ⟨.inl (by rw [if_pos (by omega)]; exact ⟨by omega, rfl⟩), rfl⟩
  have qp1 : decide (fr < 0) = false := decide_eq_false p1
  by_cases p2 : 84005 < fr
  · have qp2 : decide ((84005 : Int) < fr) = true := decide_eq_true p2
    simp only [go_sem,qp1,qp2,a11,s11]
    exact Cl.fin rfl ⟨.inl (by rw [if_pos (by omega)]; exact ⟨by omega, rfl⟩), rfl⟩
  have qp2 : decide ((84005 : Int) < fr) = false := decide_eq_false p2
  by_cases p3 : to < 0
  · have qp3 : decide (to < 0) = true := decide_eq_true p3
    simp only [go_sem,qp1,qp2,qp3,a11,s11]
    exact Cl.fin rfl ⟨.inl (by rw [if_pos (by omega)]; exact ⟨by omega, rfl⟩), rfl⟩
  have qp3 : decide (to < 0) = false := decide_eq_false p3
  by_cases p4 : 84005 < to
  · have qp4 : decide ((84005 : Int) < to) = true := decide_eq_true p4
    simp only [go_sem,qp1,qp2,qp3,qp4,a11,s11]
    exact Cl.fin rfl ⟨.inl (by rw [if_pos (by omega)]; exact ⟨by omega, rfl⟩), rfl⟩
  have qp4 : decide ((84005 : Int) < to) = false := decide_eq_false p4
  rw [if_neg (show ¬ (fr < 0 ∨ 84005 < fr ∨ to < 0 ∨ 84005 < to) by omega)]
  by_cases p5 : to < fr
  · have qp5 : decide (to < fr) = true := decide_eq_true p5
    simp only [go_sem,qp1,qp2,qp3,qp4,qp5,a11,s11]
    exact Cl.fin rfl ⟨.inl (by rw [if_pos p5]; exact ⟨by omega, rfl⟩), rfl⟩
  have qp5 : decide (to < fr) = false := decide_eq_false p5
  rw [if_neg p5]
  simp only [go_sem,qp1,qp2,qp3,qp4,qp5,a11,s11]
  clear qp1 qp2 qp3 qp4 qp5
  refine callC_det hD (by simp only [cleanL, clean, c0, c1, c2, c3, c4, c5, c6, c7, c8, c9, c10, c11, c12, c13, Bool.and_true]) rfl ?_
  simp only [go_sem,a11,s11]
  refine callC_det hM (by simp only [cleanL, clean, c0, c1, c2, c3, c4, c5, c6, c7, c8, c9, c10, c11, c12, c13, Bool.and_true]) rfl ?_
  simp only [go_sem,a11,s11]
  have hin : inAll [.live 42 14 [[z0, z1, v2, v3, v4, v5, v6, v7, v8, v9, v10, v11, v12, v13]], Row.obj (AObj.map false [CK.int .i64] []), .live 118 3 [[.int .i64 fr, .int .i64 to, .mref 1]]] := by
    intro r row hr
    match r, hr with
    | 0, hr => cases hr; simp only [inRow, inE, inL, inV_clean _ c0, inV_clean _ c1, inV_clean _ c2, inV_clean _ c3, inV_clean _ c4, inV_clean _ c5, inV_clean _ c6, inV_clean _ c7, inV_clean _ c8, inV_clean _ c9, inV_clean _ c10, inV_clean _ c11, inV_clean _ c12, inV_clean _ c13, Bool.and_self]
    | 1, hr => cases hr; rfl
    | 2, hr => cases hr; rfl
    | r + 3, hr => simp at hr
  refine callC_all hin rfl (addBandsN_ok hin (by simp)) ?_
  rintro _ _ ⟨rfl, rfl⟩
  refine ⟨Nat.le_refl _, ?_⟩
  simp only [go_sem]
  refine callC_all hin rfl (addPremN_ok hin (by simp)) ?_
  rintro _ _ ⟨rfl, rfl⟩
  refine ⟨Nat.le_refl _, ?_⟩
  simp only [go_sem]
  have hsh : ShR [.live 42 14 [[z0, z1, v2, v3, v4, v5, v6, v7, v8, v9, v10, v11, v12, v13]], Row.obj (AObj.map false [CK.int .i64] []), .live 118 3 [[.int .i64 fr, .int .i64 to, .mref 1]]] 2 1 fr to [] (fun _ _ => []) := ⟨fun _ _ => 0, ⟨hin, rfl, rfl, List.nodup_nil, fun _ _ h => absurd rfl h, fun _ _ => rfl, fun _ _ h => absurd rfl h, fun _ _ _ _ h => absurd rfl h⟩⟩
  refine callC_all hin (by simp only [inL, inV, Bool.and_true]; rfl) (addAbs_ok hsh (fun _ _ => by simp) pl hpl l hl (fun a ha => ⟨hok a ha, hwf a ha⟩) emp) ?_
  rintro _ W ⟨rfl, hF, L, hL1, hL2, hW2⟩
  refine ⟨by have := hF.1; simpa using this, ?_⟩
  simp only [go_sem]
  have hW0 : W[0]? = some (.live 42 14 [[z0, z1, v2, v3, v4, v5, v6, v7, v8, v9, v10, v11, v12, v13]]) := hF.2 0 _ rfl (by decide) (fun k vals e => by cases k <;> simp [shT] at e)
  obtain ⟨X, hX⟩ := hW2
  have hWa := hX.all
  have hWs := hX.s
  have hWm := hX.m
  have hWl : 2 < W.length := row_lt hWs
  simp only [go_sem,hW0]
  refine callC_all hWa (by simp only [inL, inV, inV_clean _ c0, inV_clean _ c1, Bool.and_true]; simpa using hWl) (addAnoN_ok hWa hWl z0 z1 c0 c1 o0 o1) ?_
  rintro _ rs ⟨rfl, hrs⟩
  rw [hrs]
  refine ⟨Nat.le_refl _, ?_⟩
  clear hrs rs
  simp only [go_sem,hWs]
  refine callC_all hWa (by simp only [inL, inV, Bool.and_true]; simp; omega) mapsKeysD_ok ?_
  rintro _ rs ⟨rfl, hrs⟩
  rw [hrs]
  refine ⟨by simp, ?_⟩
  clear hrs rs
  simp only [go_sem]
  obtain ⟨hk1, hk2⟩ := abPuts_keys (S := abSum pl emp l) (fr := fr) (to := to) L [] (fun _ _ => [])
  have hev : evL pl emp fr to l L = (srt (abPuts (abSum pl emp l) fr to [] (fun _ _ => []) L).1).map (rowQ (abPuts (abSum pl emp l) fr to [] (fun _ _ => []) L).2) := rfl
  have hLl := hL1.length_eq
  have hLk := abKeys_length emp l
  have hkw : ∀ x ∈ (abPuts (abSum pl emp l) fr to [] (fun _ _ => []) L).1, (Lit.int .i64 x).wf = true := fun x hx => by
    rcases hk1 x hx with hx | ⟨k, hk, rfl⟩
    · cases hx
    · obtain ⟨a, ha, _, rfl⟩ := abKeys_mem.1 (hL1.mem_iff.1 hk)
      exact (hwf a ha).1
  have hkl : (abPuts (abSum pl emp l) fr to [] (fun _ _ => []) L).1.length ≤ 1000000 := by
    rw [List.length_nil] at hk2; omega
  generalize (abPuts (abSum pl emp l) fr to [] (fun _ _ => []) L).1 = ks at *
  generalize (abPuts (abSum pl emp l) fr to [] (fun _ _ => []) L).2 = V at *
  have hall2 : inAll (W ++ [.live 116 1 [[.mref 1]]]) := inAll_snoc hWa (by simp [inRow, inE, inL, inV]; omega)
  refine callC_all hall2 (by simp [inL, inV]) (sortedDr_ok (a := 1) (b := W.length) (ents := mapF (shD X V) ks) (ks := ks) (app_some hWm) (by rw [app_at0]; rfl) (by simp [mapF]) hX.nd hkw hkl) ?_
  rintro _ rs ⟨rfl, hrs⟩
  rw [hrs]
  refine ⟨by simp, ?_⟩
  clear hrs rs
  simp only [go_sem,numsE_length]
  have hzp : (srt ks).Perm ks := by unfold srt; exact List.mergeSort_perm ks _
  have hzl : (srt ks).length ≤ 1000000 := by rw [hzp.length_eq]; exact hkl
  have hzm : ∀ d ∈ srt ks, d ∈ ks := fun d hd => hzp.mem_iff.1 hd
  generalize srt ks = Z at *
  refine avc_loop (fun env rows => ∃ i : Nat, i ≤ Z.length ∧ env = [(23, .ref 0 1 0 0), (24, .own 2 i 0 i), (112, .pure 1 (numsE .i64 Z)), (113, .int .i64 Z.length), (114, .int .i64 i)] ∧ rows = [.live 118 3 [[.int .i64 fr, .int .i64 to, .mref 1]], .obj (.map false [.int .i64] (mapF (shQ V) ks)), .live 76 3 ((Z.take i).map (rowQ V))])
    (fun env _ => match slot env 114 with | .int _ j => (Z.length - j).toNat | _ => 0) ?_ ?_
  · refine Cl.drop (by omega) hWa (by simp [inEnv, inV]; omega) ?_
    refine Cl.frz [some 2, some 1] (List.range W.length) rfl rfl (sh_frz hX) ?_
    have hb23 : bindV W [some 2, some 1] (List.range W.length) (.ref 2 1 0 0) = .ref 0 1 0 0 := by simp [bindV, pos?]
    simp only [List.map_cons, List.map_nil, hb23, bindV_clean _ (show clean AVal.nils = true from rfl), bindV_clean _ (show clean (.pure 1 (numsE .i64 Z)) = true by simp only [clean, numsE_clean]), bindV_clean _ (show clean (.int .i64 Z.length) = true from rfl), bindV_clean _ (show clean (.int .i64 0) = true from rfl)]
    (refine Cl.ghost 24  76  3 rfl (Cl.norm [ 23,24,112,113,114] ?_); simp only [go_sem])
    exact Cl.here ⟨0, by omega, rfl, rfl⟩
  rintro env rows ⟨i, hi, rfl, rfl⟩
  have hw : IntKind.i64.wrap ((i : Int) + 1) = ((i + 1 : Nat) : Int) := by rw [wrap_i64 (by omega) (by omega)]; omega
  by_cases hlt : i < Z.length
  · have h1 : decide ((i : Int) < Z.length) = true := decide_eq_true (by omega)
    have z0' : (0 : Int) ≤ i := by omega
    have z1' : (i : Int) < Z.length := by omega
    have gz : (numsE .i64 Z).getD i [] = [.int .i64 Z[i]] := by rw [numsE_getD hlt, List.getD_eq_getElem?_getD, List.getElem?_eq_getElem hlt, Option.getD_some]
    have hlk : kfind (.int .i64 Z[i]) (mapF (shQ V) ks) = some (.agg [.int .i64 Z[i], shP V Z[i] false, shP V Z[i] true]) := by rw [kfind_mapF, if_pos (hzm _ (List.getElem_mem hlt))]; rfl
    have hp0 : Abs.one (shP V Z[i] false) = true := one_shP
    have hp1 : Abs.one (shP V Z[i] true) = true := one_shP
    have hsn : (Z.take i).map (rowQ V) ++ [[.int .i64 Z[i], shP V Z[i] false, shP V Z[i] true]] = (Z.take (i + 1)).map (rowQ V) := by
      rw [List.take_succ_eq_append_getElem hlt, List.map_append]; rfl
    simp only [go_sem,a11,s11,h1,z0',z1',gz,numsE_length,hlk,hw,hp0,hp1]
    refine ⟨by simp; omega, by omega, ?_⟩
    rw [hsn]
    have hin3 : inAll [.live 118 3 [[.int .i64 fr, .int .i64 to, .mref 1]], .obj (.map false [.int .i64] (mapF (shQ V) ks)), .live 76 3 ((Z.take (i + 1)).map (rowQ V))] := by
      intro r row hr
      match r, hr with
      | 0, hr => cases hr; rfl
      | 1, hr => cases hr; exact inM_map fun d _ => inV_clean _ (by unfold shQ; simp only [clean, cleanL, clean_shP hX.cl, Bool.and_self])
      | 2, hr => cases hr; exact inE_clean (cleanE_rowQ hX.cl)
      | r + 3, hr => simp at hr
    refine Cl.drop (rows := [_, _, _]) (t := [_]) (by simp) hin3 (by simp [inEnv, inV]) ?_
    refine Cl.here ⟨⟨i + 1, by omega, rfl, rfl⟩, ?_⟩
    simp only [go_sem]
    omega
  have h1 : decide ((i : Int) < Z.length) = false := decide_eq_false (by omega)
  simp only [go_sem,a11,s11,h1]
  obtain rfl : i = Z.length := by omega
  rw [List.take_length]
  have hcz : cleanE (Z.map (rowQ V)) = true := cleanE_rowQ hX.cl
  have hbv : ∀ r0 r1 : Row, bindV [r0, r1, .live 76 3 (Z.map (rowQ V))] [] [2] (.own 2 Z.length 0 Z.length) = .pure 3 (Z.map (rowQ V)) := fun r0 r1 => bindV_frz rfl rfl rfl (by simp) hcz
  have hbt : ∀ r0 r1 : Row, bindV [r0, r1, .live 76 3 (Z.map (rowQ V))] [] [2] (.tup [.own 2 Z.length 0 Z.length, .int .i64 0]) = .tup [.pure 3 (Z.map (rowQ V)), .int .i64 0] := fun r0 r1 => by
    rw [bindV]; simp only [bindL, hbv]; rfl
  refine Cl.frz [] [2] rfl rfl (by simp only [go_sem] <;> rfl) ?_
  have htk : List.take Z.length (Z.map (rowQ V)) = Z.map (rowQ V) := List.take_of_length_le (by simp)
  simp only [go_sem,hbt,List.length_map,hcz,htk]
  exact Cl.here ⟨.inr ⟨L, hL1, hL2, by rw [hev]; rfl⟩, rfl⟩

end Go.Proofs.YtpincjkjoeopkaaGreatDoor
end
