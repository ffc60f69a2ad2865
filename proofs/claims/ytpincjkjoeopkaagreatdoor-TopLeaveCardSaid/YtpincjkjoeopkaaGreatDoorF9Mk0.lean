/- Premiums without windows on one day. -/
import Derived.Test.YtpincjkjoeopkaaGreatDoorFgC
import Derived.Test.YtpincjkjoeopkaaGreatDoorF1Clk
set_option linter.unusedSimpArgs false
set_option linter.unusedVariables false
set_option linter.unusedSectionVars false
namespace Go.Proofs.YtpincjkjoeopkaaGreatDoor
open Go Go.Abs
set_option linter.unusedSimpArgs false
set_option linter.unusedVariables false

theorem loc0_ok (t : Int) (h0 : 0 ≤ t) (h1 : t ≤ 120968639) : AFn Tryz.prog 259 [.agg [.int .i64 0, .nils], .int .i64 t] [] (fun v rs => v = .tup [.int .i64 t, .int .i64 0] ∧ rs = []) := by
  refine ((Local_ok ⟨0, []⟩ rfl t h0 h1).le (args' := [.agg [.int .i64 0, .nils], .int .i64 t]) (by simp [leL, le, Zn.v, els])).mono ?_
  rintro v rs ⟨rfl, rfl⟩
  exact ⟨by simp [shZ, shF], rfl⟩
/-- the almanac without rules: before and after the first question -/
def al0 (F : Bool) : List Row := [.live 359 3 [[.nils, .mref 1, .mref 2]], .obj (.map false [.int .i64] (if F then [(.int .i64 2025, .nils), (.int .i64 2026, .nils), (.int .i64 2027, .nils)] else [])), .obj (.map false [.int .i64] (if F then [(.int .i64 20454, .bool false)] else []))]
theorem newAlm0_ok : AFn Tryz.prog 200 [.nils] [] (fun v rs => v = .ref 0 1 0 0 ∧ rs = al0 false) :=
  run_afn (T := tab) (L := []) 60 [(.ref 0 1 0 0, al0 false)] (by kernel_rfl) (by intro o h; rw [List.mem_singleton] at h; subst h; exact ⟨rfl, rfl⟩)
theorem choose0_ok : AFn Tryz.prog 203 [.nils, .int .i64 0] [] (fun v rs => v = .int .i64 0 ∧ rs = []) :=
  run_afn (T := tab) (L := leaves) 60 [(.int .i64 0, [])] (by kernel_rfl) (by intro o h; rw [List.mem_singleton] at h; subst h; exact ⟨rfl, rfl⟩)
theorem hol0_ok (F : Bool) : AFn Tryz.prog 260 [.ref 0 1 0 0, .int .i64 20454] (al0 F) (fun v rs => v = .bool false ∧ rs = al0 true) := by
  cases F
  · exact run_afn (T := tab) (L := leaves) 60 [(.bool false, al0 true)] (by kernel_rfl) (by intro o h; rw [List.mem_singleton] at h; subst h; exact ⟨rfl, rfl⟩)
  · exact run_afn (T := tab) (L := leaves) 60 [(.bool false, al0 true)] (by kernel_rfl) (by intro o h; rw [List.mem_singleton] at h; subst h; exact ⟨rfl, rfl⟩)
theorem show0_ok (F : Bool) (t : Int) (h0 : 29453760 ≤ t) (h1 : t < 29455200) : AFn Tryz.prog 201 [.agg [.int .i64 0, .nils], .ref 0 1 0 0, .int .i64 t] (al0 F)
    (fun v rs => v = .agg [.int .i64 (t - 29453760), .int .i64 3, .bool false] ∧ rs = al0 true) := by
  refine afn Tryz.func201 a201_ok (by simp [a201, s201]) ?_
  have hd : t.tdiv 1440 = 20454 := by rw [Int.tdiv_eq_ediv_of_nonneg (by omega)]; omega
  have hm : t.tmod 1440 = t - 29453760 := by rw [Int.tmod_eq_emod_of_nonneg (by omega)]; omega
  have hw1 : IntKind.i64.wrap 20454 = 20454 := wrap_i64 (by omega) (by omega)
  have hw2 : IntKind.i64.wrap 29453760 = 29453760 := wrap_i64 (by omega) (by omega)
  have hw3 : IntKind.i64.wrap (t - 29453760) = t - 29453760 := wrap_i64 (by omega) (by omega)
  have hlt : decide (t - 29453760 < 0) = false := decide_eq_false (by omega)
  have e1 : IntKind.i64.wrap (t - IntKind.i64.wrap (20454 * 1440)) = t - 29453760 := by
    rw [show IntKind.i64.wrap (20454 * 1440) = 29453760 from by decide]; exact hw3
  have e2 : (IntKind.i64.wrap (Int.tmod 20454 7 + 10)).tmod 7 = 3 := by decide
  cases F
  all_goals
    have hH := hol0_ok false
    have hH' := hol0_ok true
    unfold al0 at *
    simp only [if_true, Bool.false_eq_true, if_false] at hH hH' ⊢
    simp only [go_sem,a201,s201]
    refine callC_det (loc0_ok t (by omega) (by omega)) rfl rfl ?_
    simp only [go_sem,hd,hm,hw1,hlt]
    refine ⟨by omega, by omega, by omega, by omega, ?_⟩
  · (refine callC_of [0,1,2] [] (by decide) (by simp only [go_sem] <;> rfl) (by simp only [go_sem] <;> rfl) (hH) ?_; rintro _ _ ⟨rfl,rfl⟩; refine ⟨.inl rfl,?_⟩; simp only [go_sem])
    simp only [go_sem,e1,e2]
    (refine Cl.tr [some 0,some 1,some 2] [] rfl rfl (by simp only [go_sem] <;> rfl) ?_; simp only [go_sem])
    exact Cl.here ⟨rfl, rfl⟩
  · (refine callC_of [0,1,2] [] (by decide) (by simp only [go_sem] <;> rfl) (by simp only [go_sem] <;> rfl) (hH') ?_; rintro _ _ ⟨rfl,rfl⟩; refine ⟨.inl rfl,?_⟩; simp only [go_sem])
    simp only [go_sem,e1,e2]
    (refine Cl.tr [some 0,some 1,some 2] [] rfl rfl (by simp only [go_sem] <;> rfl) ?_; simp only [go_sem])
    exact Cl.here ⟨rfl, rfl⟩
def z16 : AVal := .agg [.int .i64 0, .int .i64 0, .int .i64 0, .int .i64 0, .int .i64 0, .int .i64 0, .int .i64 0, .int .i64 0, .int .i64 0, .int .i64 0, .int .i64 0, .int .i64 0, .int .i64 0, .int .i64 0, .int .i64 0, .int .i64 0]
structure Pk where
  day : Int
  fr : Int
  to : Int
  band : ByteArray
instance : Cel Pk := ⟨fun a => [.int .i64 a.day, .int .i64 a.fr, .int .i64 a.to, .str a.band], 4, fun _ => rfl, fun _ => rfl, fun _ => rfl⟩
instance : Flt Pk := ⟨fun _ => rfl⟩
theorem cel_pk (e : Pk) : Cel.c e = [.int .i64 e.day, .int .i64 e.fr, .int .i64 e.to, .str e.band] := rfl
theorem cel_pk_sz : Cel.sz Pk = 4 := rfl
theorem cel_pk_take (e : Pk) : List.take 4 (Cel.c e) = Cel.c e := rfl
attribute [go_sem] cel_pk_sz cel_pk_take
def pk0 (p : Pk) : Prop := p.day = 20454 ∧ 29453760 ≤ p.fr ∧ p.fr ≤ p.to ∧ p.to ≤ 29455200
def mY (F : Bool) : List (AVal × AVal) := if F then [(.int .i64 2025, .nils), (.int .i64 2026, .nils), (.int .i64 2027, .nils)] else []
def mD (F : Bool) : List (AVal × AVal) := if F then [(.int .i64 20454, .bool false)] else []
def mW (F : Bool) : List (AVal × AVal) := if F then [(.int .i64 0, .int .i64 0)] else []
def mG (F : Bool) : List (AVal × AVal) := if F then [(.int .i64 20454, z16)] else []
theorem mY_cl (F : Bool) : cleanM (mY F) = true := by cases F <;> rfl
theorem mD_cl (F : Bool) : cleanM (mD F) = true := by cases F <;> rfl
theorem mW_cl (F : Bool) : cleanM (mW F) = true := by cases F <;> rfl
theorem mG_cl (F : Bool) : cleanM (mG F) = true := by cases F <;> rfl
attribute [go_sem] mY_cl mD_cl mW_cl mG_cl
theorem mG_get (F : Bool) : (kfind (.int .i64 20454) (mG F)).getD z16 = z16 := by cases F <;> rfl
theorem mG_put (F : Bool) : kput (.int .i64 20454) z16 (mG F) = mG true := by cases F <;> rfl
theorem mW_put (F : Bool) : kput (.int .i64 0) (.int .i64 0) (mW F) = mW true := by cases F <;> rfl
/-- the rows of the count -/
def ctR (F W G : Bool) : List Row := [.live 32 2 [[.int .i64 0, .nils]], .live 359 3 [[.nils, .mref 2, .mref 3]], .obj (.map false [.int .i64] (mY F)), .obj (.map false [.int .i64] (mD F)),
  .obj (.map false [.int .i64] (mW W)), .obj (.map false [.int .i64] (mG G))]
theorem show1_ok (F : Bool) (t : Int) (h0 : 29453760 ≤ t) (h1 : t < 29455200) : AFn Tryz.prog 201 [.agg [.int .i64 0, .nils], .ref 0 1 0 0, .int .i64 t] [.live 359 3 [[.nils, .mref 1, .mref 2]], .obj (.map false [.int .i64] (mY F)), .obj (.map false [.int .i64] (mD F))]
    (fun v rs => v = .agg [.int .i64 (t - 29453760), .int .i64 3, .bool false] ∧ rs = [.live 359 3 [[.nils, .mref 1, .mref 2]], .obj (.map false [.int .i64] (mY true)), .obj (.map false [.int .i64] (mD true))]) := show0_ok F t h0 h1
theorem count0_ok (ps : List Pk) (hl : ps.length ≤ 1000000) (hp : ∀ p ∈ ps, pk0 p) : AFn Tryz.prog 115 [.agg [.int .i64 0, .nils], .nils, .nils, .pure 4 (els ps)] []
    (fun v rs => v = .mref 0 ∧ rs = [.obj (.map false [.int .i64] (mG (decide (0 < ps.length))))]) := by
  refine afn Tryz.func115 a115_ok (by simp [a115, s115]) ?_
  have hA := newAlm0_ok
  unfold al0 at hA
  simp only [if_true, Bool.false_eq_true, if_false] at hA
  simp only [go_sem,a115,s115,els_length]
  (refine callC_of [] [] (by simp) rfl (bindL_clean _ (by first | rfl | simp only [go_sem])) (hA) ?_; rintro _ _ ⟨rfl,rfl⟩; refine ⟨.inl rfl,?_⟩; simp only [go_sem])
  refine avc_loop (fun env rows => ∃ (i : Nat) (F W : Bool), i ≤ ps.length ∧ env = [(2, .nils), (4, .ref 0 1 0 0), (9, .ref 1 1 0 0), (10, .mref 4), (11, .mref 5), (27, .pure 4 (els ps)), (28, .int .i64 ps.length), (29, .int .i64 i)] ∧ rows = ctR F W (decide (0 < i)))
    (fun env _ => match slot env 29 with | .int _ j => (ps.length - j).toNat | _ => 0) ?_ ?_
  · exact Cl.here ⟨0, false, false, by omega, rfl, rfl⟩
  rintro env rows ⟨i, F, W, hi, rfl, rfl⟩
  have hwi : IntKind.i64.wrap ((i : Int) + 1) = ((i + 1 : Nat) : Int) := by rw [wrap_i64 (by omega) (by omega)]; omega
  by_cases hlt : i < ps.length
  rotate_left
  · have h1 : decide ((i : Int) < ps.length) = false := decide_eq_false (by omega)
    obtain rfl : i = ps.length := by omega
    unfold ctR
    simp only [go_sem,a115,s115,h1]
    (refine Cl.tr [some 5] [] rfl rfl (by simp only [go_sem] <;> rfl) ?_; simp only [go_sem])
    exact Cl.here ⟨rfl, rfl⟩
  have h1 : decide ((i : Int) < ps.length) = true := decide_eq_true (by omega)
  have z0 : (0 : Int) ≤ i := by omega
  have z1 : (i : Int) < ps.length := by omega
  have hg : (els ps).getD i [] = Cel.c ps[i] := els_getD hlt
  obtain ⟨p1, p2, p3, p4⟩ := hp _ (List.getElem_mem hlt)
  generalize ps[i] = p at *
  generalize hG : decide (0 < i) = G
  unfold ctR
  simp only [go_sem,a115,s115,h1,z0,z1,hg,els_length,cel_pk,p1]
  rw [show (AVal.agg [.int .i64 0, .int .i64 0, .int .i64 0, .int .i64 0, .int .i64 0, .int .i64 0, .int .i64 0, .int .i64 0, .int .i64 0, .int .i64 0, .int .i64 0, .int .i64 0, .int .i64 0, .int .i64 0, .int .i64 0, .int .i64 0]) = z16 from rfl, mG_get]
  refine ⟨rfl, rfl, ?_⟩
  rw [show acells z16 = [.int .i64 0, .int .i64 0, .int .i64 0, .int .i64 0, .int .i64 0, .int .i64 0, .int .i64 0, .int .i64 0, .int .i64 0, .int .i64 0, .int .i64 0, .int .i64 0, .int .i64 0, .int .i64 0, .int .i64 0, .int .i64 0] from rfl]
  refine avc_loop (fun env rows => ∃ (k : Int) (F W : Bool), p.fr ≤ k ∧ k ≤ p.to ∧ env = [(2, .nils), (4, .ref 0 1 0 0), (9, .ref 1 1 0 0), (10, .mref 4), (11, .mref 5), (13, .ref 6 1 0 0), (14, .ref 7 1 0 0), (15, .int .i64 k), (27, .pure 4 (els ps)), (28, .int .i64 ps.length), (29, .int .i64 i)] ∧ rows = ctR F W G ++ [.live 221 4 [[.int .i64 20454, .int .i64 p.fr, .int .i64 p.to, .str p.band]], .live 227 16 [[.int .i64 0, .int .i64 0, .int .i64 0, .int .i64 0, .int .i64 0, .int .i64 0, .int .i64 0, .int .i64 0, .int .i64 0, .int .i64 0, .int .i64 0, .int .i64 0, .int .i64 0, .int .i64 0, .int .i64 0, .int .i64 0]]])
    (fun env _ => match slot env 15 with | .int _ j => (p.to - j).toNat | _ => 0) ?_ ?_
  · exact Cl.here ⟨p.fr, F, W, by omega, by omega, rfl, rfl⟩
  clear F W
  rintro env rows ⟨k, F, W, hk0, hk1, rfl, rfl⟩
  unfold ctR
  by_cases hlt2 : k < p.to
  rotate_left
  · have h2 : decide (k < p.to) = false := decide_eq_false hlt2
    simp only [go_sem,a115,s115,h2]
    rw [hwi, show (AVal.agg [.int .i64 0, .int .i64 0, .int .i64 0, .int .i64 0, .int .i64 0, .int .i64 0, .int .i64 0, .int .i64 0, .int .i64 0, .int .i64 0, .int .i64 0, .int .i64 0, .int .i64 0, .int .i64 0, .int .i64 0, .int .i64 0]) = z16 from rfl, mG_put]
    (refine Cl.tr [some 0,some 1,some 2,some 3,some 4,some 5] [] rfl rfl (by simp only [go_sem] <;> rfl) ?_; simp only [go_sem])
    refine Cl.here ⟨⟨i + 1, F, W, by omega, rfl, ?_⟩, ?_⟩
    · rw [decide_eq_true (show 0 < i + 1 by omega)]
    · simp only [go_sem]
      omega
  have h2 : decide (k < p.to) = true := decide_eq_true hlt2
  simp only [go_sem,a115,s115,h2]
  (refine callC_of [1,2,3] [] (by decide) (by simp only [go_sem] <;> rfl) (by simp only [go_sem] <;> rfl) (show1_ok F k (by omega) (by omega)) ?_; rintro _ _ ⟨rfl,rfl⟩; refine ⟨.inl rfl,?_⟩; simp only [go_sem])
  have hwk : IntKind.i64.wrap (k + 1) = k + 1 := wrap_i64 (by omega) (by omega)
  refine avc_loop (fun env rows => env = [(2, .nils), (4, .ref 0 1 0 0), (9, .ref 1 1 0 0), (10, .mref 4), (11, .mref 5), (13, .ref 6 1 0 0), (14, .ref 7 1 0 0), (15, .int .i64 k), (16, .ref 8 1 0 0), (17, .int .i64 0), (27, .pure 4 (els ps)), (28, .int .i64 ps.length), (29, .int .i64 i), (51, .nils), (52, .int .i64 0), (53, .int .i64 0)] ∧ rows = ctR true W G ++ [.live 221 4 [[.int .i64 20454, .int .i64 p.fr, .int .i64 p.to, .str p.band]], .live 227 16 [[.int .i64 0, .int .i64 0, .int .i64 0, .int .i64 0, .int .i64 0, .int .i64 0, .int .i64 0, .int .i64 0, .int .i64 0, .int .i64 0, .int .i64 0, .int .i64 0, .int .i64 0, .int .i64 0, .int .i64 0, .int .i64 0]], .live 316 3 [[.int .i64 (k - 29453760), .int .i64 3, .bool false]]])
    (fun env _ => 0) ?_ ?_
  · exact Cl.here ⟨rfl, rfl⟩
  rintro env rows ⟨rfl, rfl⟩
  unfold ctR
  simp only [go_sem,a115,s115]
  cases W
  · rw [show kfind (.int .i64 0) (mW false) = none from rfl]
    simp only [go_sem,a115,s115]
    refine callC_det choose0_ok rfl rfl ?_
    simp only [go_sem,a115,s115,mW_put]
    refine avc_loop (fun env rows => env = [(2, .nils), (4, .ref 0 1 0 0), (9, .ref 1 1 0 0), (10, .mref 4), (11, .mref 5), (13, .ref 6 1 0 0), (14, .ref 7 1 0 0), (15, .int .i64 k), (20, .int .i64 0), (27, .pure 4 (els ps)), (28, .int .i64 ps.length), (29, .int .i64 i), (81, .int .i64 0), (82, .int .i64 0)] ∧ rows = ctR true true G ++ [.live 221 4 [[.int .i64 20454, .int .i64 p.fr, .int .i64 p.to, .str p.band]], .live 227 16 [[.int .i64 0, .int .i64 0, .int .i64 0, .int .i64 0, .int .i64 0, .int .i64 0, .int .i64 0, .int .i64 0, .int .i64 0, .int .i64 0, .int .i64 0, .int .i64 0, .int .i64 0, .int .i64 0, .int .i64 0, .int .i64 0]], .live 316 3 [[.int .i64 (k - 29453760), .int .i64 3, .bool false]]])
      (fun env _ => 0) ?_ ?_
    · exact Cl.here ⟨rfl, rfl⟩
    rintro env rows ⟨rfl, rfl⟩
    unfold ctR
    simp only [go_sem,a115,s115,hwk]
    (refine Cl.tr [some 0,some 1,some 2,some 3,some 4,some 5,some 6,some 7] [] rfl rfl (by simp only [go_sem] <;> rfl) ?_; simp only [go_sem])
    refine Cl.here ⟨⟨k + 1, true, true, by omega, by omega, rfl, rfl⟩, ?_⟩
    simp only [go_sem]
    omega
  · rw [show kfind (.int .i64 0) (mW true) = some (.int .i64 0) from rfl]
    simp only [go_sem,a115,s115]
    refine avc_loop (fun env rows => env = [(2, .nils), (4, .ref 0 1 0 0), (9, .ref 1 1 0 0), (10, .mref 4), (11, .mref 5), (13, .ref 6 1 0 0), (14, .ref 7 1 0 0), (15, .int .i64 k), (20, .int .i64 0), (27, .pure 4 (els ps)), (28, .int .i64 ps.length), (29, .int .i64 i), (81, .int .i64 0), (82, .int .i64 0)] ∧ rows = ctR true true G ++ [.live 221 4 [[.int .i64 20454, .int .i64 p.fr, .int .i64 p.to, .str p.band]], .live 227 16 [[.int .i64 0, .int .i64 0, .int .i64 0, .int .i64 0, .int .i64 0, .int .i64 0, .int .i64 0, .int .i64 0, .int .i64 0, .int .i64 0, .int .i64 0, .int .i64 0, .int .i64 0, .int .i64 0, .int .i64 0, .int .i64 0]], .live 316 3 [[.int .i64 (k - 29453760), .int .i64 3, .bool false]]])
      (fun env _ => 0) ?_ ?_
    · exact Cl.here ⟨rfl, rfl⟩
    rintro env rows ⟨rfl, rfl⟩
    unfold ctR
    simp only [go_sem,a115,s115,hwk]
    (refine Cl.tr [some 0,some 1,some 2,some 3,some 4,some 5,some 6,some 7] [] rfl rfl (by simp only [go_sem] <;> rfl) ?_; simp only [go_sem])
    refine Cl.here ⟨⟨k + 1, true, true, by omega, by omega, rfl, rfl⟩, ?_⟩
    simp only [go_sem]
    omega
theorem AFn.of_callK {P : Program} {f : FuncId} {args : List AVal} {rows : List Row} {K : AVal → List Row → Prop} (h : callK P f args rows K) : AFn P f args rows K := by
  intro C cargs hr hok hG hrep
  subst hr
  exact call_sound hok hG hrep h
theorem count0L_ok (T : TypeId) (ps : List Pk) (hl : ps.length ≤ 1000000) (hp : ∀ p ∈ ps, pk0 p) : AFn Tryz.prog 115 [.agg [.int .i64 0, .nils], .nils, .nils, .own 0 ps.length 0 ps.length] [.live T 4 (els ps)]
    (fun v rs => v = .mref 1 ∧ rs = [.live T 4 (els ps), .obj (.map false [.int .i64] (mG (decide (0 < ps.length))))]) := by
  refine AFn.of_callK ⟨[], [0], [], by simp, rfl, ?_⟩
  have hb : bindL [.live T 4 (els ps)] (([] : List Nat).map some) [0] [.agg [.int .i64 0, .nils], .nils, .nils, .own 0 ps.length 0 ps.length] = [.agg [.int .i64 0, .nils], .nils, .nils, .pure 4 (els ps)] := by
    have : bindV [.live T 4 (els ps)] [] [0] (.own 0 ps.length 0 ps.length) = .pure 4 (els ps) := bindV_frz rfl rfl rfl els_length.symm els_clean
    simp only [List.map_nil, bindL, this]
    rfl
  rw [hb]
  refine (count0_ok ps hl hp).mono ?_
  rintro v rs ⟨rfl, rfl⟩
  refine ⟨.inr ⟨rfl, by cases decide (0 < ps.length) <;> rfl⟩, rfl, ?_⟩
  cases decide (0 < ps.length) <;> rfl
def decPk : List (List AVal) → Option (List Pk)
  | [] => some []
  | [.int .i64 d, .int .i64 f, .int .i64 t, .str b] :: l => match decPk l with | some ps => some (⟨d, f, t, b⟩ :: ps) | none => none
  | _ :: _ => none
theorem decPk_ok : ∀ {l : List (List AVal)} {ps : List Pk}, decPk l = some ps → l = els ps
  | [], ps, h => by cases h; rfl
  | x :: l, ps, h => by
    unfold decPk at h
    split at h
    · cases ‹_ :: _ = []›
    · rename_i heq
      cases heq
      split at h
      · rename_i qs hq
        cases h
        rw [decPk_ok hq]; rfl
      · cases h
    · cases h
instance (p : Pk) : Decidable (pk0 p) := inferInstanceAs (Decidable (p.day = 20454 ∧ 29453760 ≤ p.fr ∧ p.fr ≤ p.to ∧ p.to ≤ 29455200))
def runCnt (args : List AVal) (rows : List Row) : Option (AVal × List Row) :=
  match args, rows with
  | [.agg [.int .i64 0, .nils], .nils, .nils, .own 0 n 0 m], [.live T 4 vals] =>
    match decPk vals with
    | some ps => if n = ps.length ∧ m = ps.length ∧ ps.length ≤ 1000 ∧ ps.all (fun p => decide (pk0 p)) = true then some (.mref 1, [.live T 4 vals, .obj (.map false [.int .i64] (mG (decide (0 < ps.length))))]) else none
    | none => none
  | _, _ => none
theorem runCnt_ok (args : List AVal) (rows : List Row) (v : AVal) (rs : List Row) (h : runCnt args rows = some (v, rs)) : AFn Tryz.prog 115 args rows fun v' rs' => v' = v ∧ rs' = rs := by
  unfold runCnt at h
  split at h
  · split at h
    · rename_i ps hps
      split at h
      · rename_i hc
        simp only [Option.some.injEq, Prod.mk.injEq] at h
        obtain ⟨rfl, rfl⟩ := h
        obtain ⟨rfl, rfl, h3, h4⟩ := hc
        rw [decPk_ok hps]
        exact count0L_ok _ ps (by omega) (fun p hp => of_decide_eq_true (List.all_eq_true.1 h4 p hp))
      · cases h
    · cases h
  · cases h
def leavesMC : List (XLeaf Tryz.prog) := ⟨115, runCnt, runCnt_ok⟩ :: leavesC

end Go.Proofs.YtpincjkjoeopkaaGreatDoor
