/- The almanac: the days of holidays, remembered; what a moment shows; what a window covers. -/
import Derived.Test.YtefemdpicjgkeaaGreatDoorZ8Clk
import Derived.Test.YtefemdpicjgkeaaGreatDoorZ3Wk
set_option linter.unusedSimpArgs false
set_option linter.unusedVariables false
set_option linter.unusedSectionVars false
namespace Go.Proofs.YtefemdpicjgkeaaGreatDoor
open Go Go.Abs
set_option linter.unusedSimpArgs false
set_option linter.unusedVariables false

/-- a map from numbers whose values come of the keys -/
def mapF (f : Int → AVal) (ks : List Int) : List (AVal × AVal) := ks.map fun k => (.int .i64 k, f k)
def addK (k : Int) (ks : List Int) : List Int := if k ∈ ks then ks else ks ++ [k]
theorem mapF_clean {f : Int → AVal} (hf : ∀ k, clean (f k) = true) : ∀ (l : List Int), cleanM (mapF f l) = true
  | [] => _root_.id rfl
  | k :: l => by
    have := mapF_clean hf l
    simp only [cleanM, mapF, List.map_map, Bool.and_eq_true] at this ⊢
    simp only [List.map_cons, cleanL, Function.comp_apply, clean, hf, Bool.true_and]
    exact this
theorem kfind_mapF {f : Int → AVal} {k : Int} : ∀ {l : List Int}, kfind (.int .i64 k) (mapF f l) = if k ∈ l then some (f k) else none
  | [] => by simp [mapF, kfind]
  | p :: l => by
    have ih := kfind_mapF (f := f) (k := k) (l := l)
    unfold mapF at *
    rw [List.map_cons, kfind]
    have : isKey (.int .i64 k) (.int .i64 p) = (k == p) := by simp [isKey, acells, eqCells]
    simp only [this]
    by_cases hk : k = p
    · subst hk; simp
    · simp only [beq_iff_eq, hk, if_false, ih, List.mem_cons, false_or]
theorem kput_mapF {f : Int → AVal} {k : Int} : ∀ {l : List Int}, kput (.int .i64 k) (f k) (mapF f l) = mapF f (addK k l)
  | [] => by simp [mapF, kput, addK]
  | p :: l => by
    have ih := kput_mapF (f := f) (k := k) (l := l)
    unfold mapF addK at *
    rw [List.map_cons, kput]
    have : isKey (.int .i64 k) (.int .i64 p) = (k == p) := by simp [isKey, acells, eqCells]
    simp only [this]
    by_cases hk : k = p
    · subst hk; simp
    · simp only [beq_iff_eq, hk, if_false, ih, List.mem_cons, false_or]
      split <;> simp

def yrL (h : List Hol) (y : Int) : List Int := if okY y then colP h y y else []
def yrV (h : List Hol) (y : Int) : AVal := if okY y then .pure 1 (numsE .i64 (colP h y y)) else .nils
def holP (h : List Hol) (d : Int) : Bool := decide (okD d) && (decide (d ∈ yrL h (yearP d - 1)) || decide (d ∈ yrL h (yearP d)) || decide (d ∈ yrL h (yearP d + 1)))
theorem yrV_clean (h : List Hol) (y : Int) : clean (yrV h y) = true := by
  unfold yrV
  split <;> simp [clean]
theorem mapY_clean (h : List Hol) (l : List Int) : cleanM (mapF (yrV h) l) = true := mapF_clean (yrV_clean h) l
theorem mapD_clean (h : List Hol) (l : List Int) : cleanM (mapF (fun d => .bool (holP h d)) l) = true := mapF_clean (fun _ => rfl) l
attribute [go_sem] mapY_clean mapD_clean kfind_mapF

def almR (h : List Hol) (ys ds : List Int) : List Row := [.obj (.map false [.int .i64] (mapF (yrV h) ys)), .obj (.map false [.int .i64] (mapF (fun d => .bool (holP h d)) ds)), .live 99 3 [[.pure 6 (els h), .mref 0, .mref 1]]]

theorem newAlm_ok (h : List Hol) : AFn Tryz.prog 34 [.pure 6 (els h)] [] (fun v rs => v = .ref 2 1 0 0 ∧ rs = almR h [] []) := by
  refine afn Tryz.func34 a34_ok (by simp [a34]) ?_
  simp only [go_sem,a34,a34r0,a34r1]
  exact Cl.here ⟨rfl, rfl⟩

theorem indexN_ok (l : List Int) (hl : l.length ≤ 1000000) (x : Int) : AFn Tryz.prog 80 [.pure 1 (numsE .i64 l), .int .i64 x] [] (fun v rs => (∃ i : Int, v = .int .i64 i ∧ (0 ≤ i ↔ x ∈ l)) ∧ rs = []) := by
  refine afn Tryz.func80 a80_ok (by simp [a80]) ?_
  simp only [go_sem,a80,a80r0,a80r1,a80r2,a80r3,a80r4,a80r5,a80r6,a80r7]
  refine avc_loop (fun env rows => ∃ (i : Nat), i ≤ l.length ∧ (∀ j (h : j < l.length), j < i → x ≠ l[j]) ∧ env = [(0, .pure 1 (numsE .i64 l)), (1, .int .i64 x), (7, .int .i64 l.length), (8, .int .i64 i)] ∧ rows = [])
    (fun env _ => match slot env 8 with | .int _ j => (l.length - j).toNat | _ => 0) ?_ ?_
  · exact Cl.here ⟨0, by omega, fun j _ h => by omega, rfl, rfl⟩
  · rintro env rows ⟨i, hi, hno, rfl, rfl⟩
    have hw : IntKind.i64.wrap ((i : Int) + 1) = ((i + 1 : Nat) : Int) := by rw [wrap_i64 (by omega) (by omega)]; omega
    simp only [go_sem,a80,a80r0,a80r1,a80r2,a80r3,a80r4,a80r5,a80r6,a80r7]
    refine condC_intro ?_ ?_ <;> intro hg2 <;> simp only [decide_eq_true_eq,decide_eq_false_iff_not,beq_iff_eq,beq_eq_false_iff_ne,bne_iff_ne,bne_eq_false_iff_eq,Bool.not_eq_true',Bool.not_eq_false',Int.not_lt,Int.not_le,ne_eq,Bool.and_eq_true,Bool.or_eq_true,Bool.or_eq_false_iff,Bool.and_eq_false_iff] at hg2 <;> simp only [go_sem,a80,a80r0,a80r1,a80r2,a80r3,a80r4,a80r5,a80r6,a80r7]
    · have hlt : i < l.length := by omega
      refine ⟨by omega, by omega, ?_⟩
      try simp only [Int.toNat_natCast]
      rw [numsE_getD hlt, show l.getD i 0 = l[i] by simp [List.getD_eq_getElem?_getD, hlt]]
      simp only [go_sem]
      by_cases h3 : x = l[i]
      · have h4 : (x == l[i]) = true := by simpa using h3
        simp only [go_sem,h4]
        exact Cl.fin rfl ⟨⟨i, rfl, by simp [h3]⟩, rfl⟩
      · have h4 : (x == l[i]) = false := by simpa using h3
        simp only [go_sem,h4,hw]
        refine Cl.here ⟨⟨i + 1, by omega, fun j hj hji => ?_, rfl, rfl⟩, ?_⟩
        · by_cases hji' : j = i
          · subst hji'; exact h3
          · exact hno j hj (by omega)
        · simp only [go_sem]
          omega
    · obtain rfl : i = l.length := by omega
      refine Cl.fin rfl ⟨⟨-1, rfl, ?_⟩, rfl⟩
      refine ⟨fun h => by omega, fun h => ?_⟩
      obtain ⟨j, hj, rfl⟩ := List.getElem_of_mem h
      exact absurd rfl (hno j hj hj)
theorem containsN_ok (l : List Int) (hl : l.length ≤ 1000000) (x : Int) : AFn Tryz.prog 61 [.pure 1 (numsE .i64 l), .int .i64 x] [] (fun v rs => v = .bool (decide (x ∈ l)) ∧ rs = []) := by
  refine afn Tryz.func61 a61_ok (by simp [a61]) ?_
  simp only [go_sem,a61,a61r0,a61r1]
  refine callC_fn (indexN_ok l hl x) rfl ?_
  rintro _ ⟨i, rfl, hi⟩
  refine ⟨rfl, ?_⟩
  simp only [go_sem]
  exact Cl.fin rfl ⟨by simp only [ge_iff_le, hi], rfl⟩

/-- the days that the rules name for a year, remembered -/
theorem year_ok' (h : List Hol) (hv : validP h = 0) (ys ds : List Int) (y : Int) : AFn Tryz.prog 62 [.ref 2 1 0 0, .int .i64 y] (almR h ys ds) (fun v rs => v = yrV h y ∧ rs = almR h (addK y ys) ds) := by
  have hlen := (validP_zero hv).1
  have hho : hoV h y = .tup [yrV h y, .int .i64 (if okY y then 0 else 2)] := by
    unfold hoV yrV
    rw [if_pos hv]
    split <;> rfl
  have hcl := yrV_clean h y
  have hp : kput (.int .i64 y) (yrV h y) (mapF (yrV h) ys) = mapF (yrV h) (addK y ys) := kput_mapF
  refine afn Tryz.func62 a62_ok (by simp [a62]) ?_
  by_cases hm : y ∈ ys
  · have ha : addK y ys = ys := by unfold addK; rw [if_pos hm]
    rw [ha]
    simp only [go_sem,a62,a62r0,a62r1,a62r2,a62r3,a62r4,a62r5,almR,hm]
    exact Cl.here ⟨rfl, rfl⟩
  · simp only [go_sem,a62,a62r0,a62r1,a62r2,a62r3,a62r4,a62r5,almR,hm]
    have hH := Holidays_ok h (by omega) y
    rw [hho] at hH
    refine callC_det hH rfl (by simp [clean, cleanL, hcl]) ?_
    simp only [go_sem,hcl,hp]
    exact Cl.here ⟨rfl, rfl⟩

theorem renV_yrV (f : Nat → Nat) (h : List Hol) (y : Int) : renV f (yrV h y) = yrV h y := renV_clean _ _ (yrV_clean h y)
attribute [go_sem] renV_yrV yrV_clean
theorem contY_ok (h : List Hol) (hv : validP h = 0) (y d : Int) : AFn Tryz.prog 61 [yrV h y, .int .i64 d] [] (fun v rs => v = .bool (decide (d ∈ yrL h y)) ∧ rs = []) := by
  unfold yrV yrL
  by_cases hy : okY y
  · rw [if_pos hy, if_pos hy]
    have := colP_length h y y (validP_zero hv).1 hy.1 hy.2
    exact containsN_ok _ (by omega) d
  · rw [if_neg hy, if_neg hy]
    exact (containsN_ok [] (by simp) d).le (by simp [leL, le, numsE])

def anyY (h : List Hol) (a d : Int) (k : Nat) : Bool := (List.range k).any fun (j : Nat) => decide (d ∈ yrL h (a + j))
theorem anyY_succ (h : List Hol) (a d : Int) (k : Nat) : anyY h a d (k + 1) = (anyY h a d k || decide (d ∈ yrL h (a + k))) := by
  unfold anyY; rw [List.range_succ, List.any_append]; simp
theorem anyY_mono {h : List Hol} {a d : Int} {k m : Nat} (hk : k ≤ m) (ha : anyY h a d k = true) : anyY h a d m = true := by
  unfold anyY at *
  rw [List.any_eq_true] at *
  obtain ⟨j, hj, h2⟩ := ha
  rw [List.mem_range] at hj
  exact ⟨j, by rw [List.mem_range]; omega, h2⟩
theorem holP_any {h : List Hol} {d : Int} (hd : okD d) : holP h d = anyY h (yearP d - 1) d 3 := by
  unfold holP
  simp only [hd, decide_true, Bool.true_and]
  rw [show (3 : Nat) = 0 + 1 + 1 + 1 from rfl, anyY_succ, anyY_succ, anyY_succ]
  have e0 : anyY h (yearP d - 1) d 0 = false := rfl
  rw [e0, Bool.false_or]
  rw [show yearP d - 1 + ((0 : Nat) : Int) = yearP d - 1 by omega, show yearP d - 1 + ((0 + 1 : Nat) : Int) = yearP d by omega, show yearP d - 1 + ((0 + 1 + 1 : Nat) : Int) = yearP d + 1 by omega]

theorem holiday_ok (h : List Hol) (hv : validP h = 0) (ys ds : List Int) (d : Int) : AFn Tryz.prog 52 [.ref 2 1 0 0, .int .i64 d] (almR h ys ds) (fun v rs => v = .bool (holP h d) ∧ ∃ ys' ds', rs = almR h ys' ds') := by
  have hp : kput (.int .i64 d) (.bool (holP h d)) (mapF (fun d => .bool (holP h d)) ds) = mapF (fun d => .bool (holP h d)) (addK d ds) := kput_mapF (f := fun d => .bool (holP h d))
  refine afn Tryz.func52 a52_ok (by simp [a52]) ?_
  by_cases hm : d ∈ ds
  · simp only [go_sem,a52,a52r0,a52r1,a52r2,a52r3,a52r4,a52r5,a52r6,a52r7,a52r8,a52r9,a52r10,a52r11,a52r12,almR,hm]
    exact Cl.here ⟨rfl, ys, ds, rfl⟩
  simp only [go_sem,a52,a52r0,a52r1,a52r2,a52r3,a52r4,a52r5,a52r6,a52r7,a52r8,a52r9,a52r10,a52r11,a52r12,almR,hm]
  refine callC_det (date_okc d) rfl (by split <;> rfl) ?_
  by_cases hd : okD d
  rotate_left
  · have hz : holP h d = false := by unfold holP; simp [hd]
    rw [if_neg hd]
    rw [hz] at hp ⊢
    simp only [go_sem,hp]
    exact Cl.here ⟨rfl, ys, addK d ds, rfl⟩
  rw [if_pos hd]
  have hyr := year_ok hd.1 (by have := hd.2; omega)
  have hyb : 1970 ≤ yearP d ∧ yearP d ≤ 2240 := ⟨hyr.2.2.1, hyr.2.2.2⟩
  have hw1 : IntKind.i64.wrap (yearP d - 1) = yearP d - 1 := wrap_i64 (by omega) (by omega)
  have hw2 : IntKind.i64.wrap (yearP d + 1) = yearP d + 1 := wrap_i64 (by omega) (by omega)
  simp only [go_sem,hw1]
  refine avc_loop (fun env rows => ∃ (k : Nat) (ys' : List Int), k ≤ 3 ∧ env = [(0, .ref 2 1 0 0), (1, .int .i64 d), (7, .bool (anyY h (yearP d - 1) d k)), (8, .int .i64 (yearP d)), (12, .int .i64 (yearP d - 1 + k))] ∧ rows = almR h ys' ds)
    (fun env _ => match slot env 12 with | .int _ j => (yearP d + 2 - j).toNat | _ => 0) ?_ ?_
  · exact Cl.here ⟨0, ys, by omega, by simp [anyY], rfl⟩
  · rintro env rows ⟨k, ys', hk, rfl, rfl⟩
    have hwk : IntKind.i64.wrap (yearP d - 1 + k + 1) = yearP d - 1 + (k + 1 : Nat) := by rw [wrap_i64 (by omega) (by omega)]; omega
    by_cases hg : k < 3 ∧ anyY h (yearP d - 1) d k = false
    · obtain ⟨hk3, ha⟩ := hg
      have hle : yearP d - 1 + (k : Int) ≤ yearP d + 1 := by omega
      have hs := anyY_succ h (yearP d - 1) d k
      rw [ha, Bool.false_or] at hs
      simp only [go_sem,a52,a52r0,a52r1,a52r2,a52r3,a52r4,a52r5,a52r6,a52r7,a52r8,a52r9,a52r10,a52r11,a52r12,almR,hw2,hle,ha]
      (refine callC_of [0,1,2] [] (by decide) (by simp only [go_sem] <;> rfl) (by simp only [go_sem] <;> rfl) (year_ok' h hv ys' ds (yearP d - 1 + k)) ?_; rintro _ _ ⟨rfl,rfl⟩; refine ⟨.inl rfl,?_⟩; simp only [go_sem])
      refine callC_det (contY_ok h hv _ d) (by simp [cleanL, yrV_clean, clean]) rfl ?_
      simp only [go_sem,hwk,almR]
      refine Cl.here ⟨⟨k + 1, addK (yearP d - 1 + k) ys', by omega, by rw [hs], rfl⟩, ?_⟩
      simp only [go_sem]
      omega
    · have hfin : anyY h (yearP d - 1) d k = holP h d := by
        rw [holP_any hd]
        by_cases hk3 : k = 3
        · rw [hk3]
        · have ha : anyY h (yearP d - 1) d k = true := by
            cases hx : anyY h (yearP d - 1) d k
            · exact absurd ⟨by omega, hx⟩ hg
            · rfl
          rw [ha, anyY_mono hk ha]
      have hout : (decide (yearP d - 1 + (k : Int) ≤ yearP d + 1) && !(anyY h (yearP d - 1) d k)) = false := by
        by_cases hk3 : k = 3
        · subst hk3; simp
          omega
        · have ha : anyY h (yearP d - 1) d k = true := by
            cases hx : anyY h (yearP d - 1) d k
            · exact absurd ⟨by omega, hx⟩ hg
            · rfl
          rw [ha]; simp
      rw [hfin] at hout ⊢
      by_cases hle : yearP d - 1 + (k : Int) ≤ yearP d + 1
      · have hh : holP h d = true := by simpa [hle] using hout
        rw [hh] at hp ⊢
        simp only [go_sem,a52,a52r0,a52r1,a52r2,a52r3,a52r4,a52r5,a52r6,a52r7,a52r8,a52r9,a52r10,a52r11,a52r12,almR,hw2,hle,hp]
        exact Cl.here ⟨rfl, ys', addK d ds, rfl⟩
      · simp only [go_sem,a52,a52r0,a52r1,a52r2,a52r3,a52r4,a52r5,a52r6,a52r7,a52r8,a52r9,a52r10,a52r11,a52r12,almR,hw2,hle,hp]
        exact Cl.here ⟨rfl, ys', addK d ds, rfl⟩

end Go.Proofs.YtefemdpicjgkeaaGreatDoor
