/- Made absences and plans. -/
import Derived.Test.YtpincjkjoeopkaaGreatDoorF2Shf
import Derived.Test.YtpincjkjoeopkaaGreatDoorF9Abv
set_option linter.unusedSimpArgs false
set_option linter.unusedVariables false
set_option linter.unusedSectionVars false
namespace Go.Proofs.YtpincjkjoeopkaaGreatDoor
open Go Go.Abs
set_option linter.unusedSimpArgs false
set_option linter.unusedVariables false

theorem sf_snoc {l : List Sf} {a b d : Int} : els l ++ [[.int .i64 a, .int .i64 b, .int .i64 d]] = els (l ++ [⟨a, b, d⟩]) := els_snoc (x := Sf.mk a b d)
def nmS : ByteArray := ⟨#[115, 105, 99, 107]⟩
def nmL : ByteArray := ⟨#[108, 101, 97, 118, 101]⟩
def nmO : ByteArray := ⟨#[111, 116, 49]⟩
/-- a made absence -/
def abG (a : Ab) : Prop := (a.emp = 1 ∨ a.emp = 2) ∧ 20454 ≤ a.day ∧ a.day ≤ 20458 ∧ (a.name = nmS ∨ a.name = nmL ∨ a.name = nmO) ∧ (a.min = -1 ∨ a.min = 480 ∨ a.min = 0 ∨ a.min = 60)
theorem absences_ok (l : List Int) (hl : TapeOk l) (n : Int) (hn0 : 0 ≤ n) (hn : n ≤ 1000) (at_ : Int) (h0 : 0 ≤ at_) (h1 : at_ ≤ l.length) : AFn Tryz.prog 24 [.ref 0 1 0 0, .int .i64 n] [tp l at_]
    (fun v rs => ∃ (a : Int) (xs : List Ab), v = .own 1 xs.length 0 xs.length ∧ rs = [tp l a, .live 25 4 (els xs)] ∧ 0 ≤ a ∧ a ≤ l.length ∧ xs.length ≤ n ∧ ∀ x ∈ xs, abG x) := by
  refine afnW Tryz.func24 a24_ok (by simp [a24, s24]) ?_
  simp only [go_sem,a24,s24,tp]
  have hwn : IntKind.i64.wrap (n + 1) = n + 1 := wrap_i64 (by omega) (by omega)
  (refine Cl.here ?_; simp only [go_sem])
  (refine Cl.here ?_; simp only [go_sem])
  rw [hwn]
  (refine callC_tape (next_ok l hl (n + 1) (by omega)) rfl rfl (by omega) (by omega) ?_; rintro _ at_ _ _ ⟨ k,rfl,_,_⟩; simp only [go_sem])
  (refine Cl.here ?_; simp only [go_sem])
  refine avcW_loop (fun env rows => ∃ (a : Int) (xs : List Ab) (j : Int), env = [(0, .ref 0 1 0 0), (5, .own 1 xs.length 0 xs.length), (6, .int .i64 j)] ∧ rows = [tapeRow 143 l a, .live 25 4 (els xs)] ∧ 0 ≤ a ∧ a ≤ l.length ∧ 0 ≤ j ∧ xs.length + j ≤ n ∧ ∀ x ∈ xs, abG x)
    (fun env _ => match slot env 6 with | .int _ j => j.toNat | _ => 0) ?_ ?_
  · (refine Cl.ghost 5  25  4 rfl (Cl.norm [ 0,5,6] ?_); simp only [go_sem])
    exact Cl.here ⟨at_, [], k, rfl, rfl, by omega, by omega, by omega, by simp; omega, by simp⟩
  rintro env rows ⟨at_, xs, j, rfl, rfl, _, _, _, hl1, hxs⟩
  simp only [go_sem,a24,s24]
  (refine Cl.here ?_; simp only [go_sem])
  refine condW_intro ?_ ?_ <;> intro hg <;> simp only [decide_eq_true_eq,decide_eq_false_iff_not,beq_iff_eq,beq_eq_false_iff_ne,bne_iff_ne,bne_eq_false_iff_eq,Bool.not_eq_true',Bool.not_eq_false',Int.not_lt,Int.not_le,ne_eq,Bool.and_eq_true,Bool.or_eq_true,Bool.or_eq_false_iff,Bool.and_eq_false_iff] at hg <;> simp only [go_sem,a24,s24]
  · (refine Cl.here ?_; simp only [go_sem])
    (refine callD_tape (next_ok l hl 4 (by omega)) (by simp only [go_sem]) rfl rfl (by omega) (by omega) ?_; rintro _ at_ _ _ ⟨ e,rfl,_,_⟩; simp only [go_sem])
    have he : e.tdiv 3 = 0 ∨ e.tdiv 3 = 1 := by rw [Int.tdiv_eq_ediv_of_nonneg (by omega)]; omega
    generalize e.tdiv 3 = q at *
    have hwq : IntKind.i64.wrap q = q := wrap_i64 (by omega) (by omega)
    have hwq1 : IntKind.i64.wrap (1 + q) = 1 + q := wrap_i64 (by omega) (by omega)
    simp only [go_sem,hwq,hwq1]
    refine ⟨by omega, ?_⟩
    (refine callD_tape (next_ok l hl 5 (by omega)) (by simp only [go_sem]) rfl rfl (by omega) (by omega) ?_; rintro _ at_ _ _ ⟨ d,rfl,_,_⟩; simp only [go_sem])
    have hwd : IntKind.i64.wrap (20454 + d) = 20454 + d := wrap_i64 (by omega) (by omega)
    simp only [go_sem,hwd]
    (refine callD_tape (next_ok l hl 3 (by omega)) (by simp only [go_sem]) rfl rfl (by omega) (by omega) ?_; rintro _ at_ _ _ ⟨ x,rfl,_,_⟩; simp only [go_sem])
    refine ⟨by omega, by omega, ?_⟩
    (refine callD_pick [-1,480,0,60] (pick_ok l hl _ (by simp) (by simp)) (by simp only [go_sem]) rfl rfl rfl rfl rfl (by decide) (by omega) (by omega) ?_; rintro _ at_ _ _ ⟨m,hmem,rfl⟩; simp only [List.mem_cons,List.not_mem_nil,or_false] at hmem; simp only [go_sem])
    have hm := hmem
    clear hmem
    rcases (show x = 0 ∨ x = 1 ∨ x = 2 by omega) with rfl | rfl | rfl
    all_goals
      simp only [go_sem]
      try refine ⟨by omega, ?_⟩
    · (refine Cl.tr [some 0,some 1] [] rfl rfl (by simp only [go_sem] <;> rfl) ?_; simp only [go_sem])
      (refine Cl.here ?_; simp only [go_sem])
      rw [wrap_i64 (by omega) (by omega)]
      refine Cl.here ⟨⟨at_, xs ++ [⟨1 + q, 20454 + d, nmS, m⟩], j - 1, by simp, by rw [← els_snoc]; rfl, by omega, by omega, by omega, by simp; omega, ?_⟩, ?_⟩
      · intro y hy
        rcases List.mem_append.1 hy with hy | hy
        · exact hxs y hy
        · rw [List.mem_singleton] at hy; subst hy
          refine ⟨by simp only; omega, by simp only; omega, by simp only; omega, by simp, by simp only; omega⟩
      · simp only [go_sem]
        omega
    · (refine Cl.tr [some 0,some 1] [] rfl rfl (by simp only [go_sem] <;> rfl) ?_; simp only [go_sem])
      (refine Cl.here ?_; simp only [go_sem])
      rw [wrap_i64 (by omega) (by omega)]
      refine Cl.here ⟨⟨at_, xs ++ [⟨1 + q, 20454 + d, nmL, m⟩], j - 1, by simp, by rw [← els_snoc]; rfl, by omega, by omega, by omega, by simp; omega, ?_⟩, ?_⟩
      · intro y hy
        rcases List.mem_append.1 hy with hy | hy
        · exact hxs y hy
        · rw [List.mem_singleton] at hy; subst hy
          refine ⟨by simp only; omega, by simp only; omega, by simp only; omega, by simp, by simp only; omega⟩
      · simp only [go_sem]
        omega
    · (refine Cl.tr [some 0,some 1] [] rfl rfl (by simp only [go_sem] <;> rfl) ?_; simp only [go_sem])
      (refine Cl.here ?_; simp only [go_sem])
      rw [wrap_i64 (by omega) (by omega)]
      refine Cl.here ⟨⟨at_, xs ++ [⟨1 + q, 20454 + d, nmO, m⟩], j - 1, by simp, by rw [← els_snoc]; rfl, by omega, by omega, by omega, by simp; omega, ?_⟩, ?_⟩
      · intro y hy
        rcases List.mem_append.1 hy with hy | hy
        · exact hxs y hy
        · rw [List.mem_singleton] at hy; subst hy
          refine ⟨by simp only; omega, by simp only; omega, by simp only; omega, by simp, by simp only; omega⟩
      · simp only [go_sem]
        omega
  · (refine Cl.here ?_; simp only [go_sem])
    (refine Cl.here ?_; simp only [go_sem])
    exact Cl.here ⟨at_, xs, rfl, rfl, by omega, by omega, by omega, hxs⟩

/-- the end of the last shift -/
def lastE (z : Zn) : Int → List Sf → Int
  | e, [] => e
  | _, s :: l => lastE z (spV z s).to l
theorem splE_snoc {z : Zn} {s : Sf} (hs : spE z s = 0) : ∀ {l : List Sf} {e : Int}, splE z e l = 0 → lastE z e l ≤ (spV z s).fr → splE z e (l ++ [s]) = 0 ∧ lastE z e (l ++ [s]) = (spV z s).to
  | [], e, _, h => by
    rw [lastE] at h
    rw [List.nil_append, splE, if_pos hs, if_neg (by omega), splE, lastE, lastE]
    exact ⟨rfl, rfl⟩
  | x :: l, e, h, h2 => by
    rw [splE] at h
    rw [lastE] at h2
    rw [List.cons_append, splE, lastE]
    by_cases hx : spE z x = 0
    · rw [if_pos hx] at h ⊢
      split at h
      · cases h
      · rename_i h3
        rw [if_neg h3]
        exact splE_snoc hs h h2
    · rw [if_neg hx] at h
      exact absurd h hx
theorem frst00 {t : Int} (h0 : 0 ≤ t) (h1 : t ≤ 120968639) : frstZ ⟨0, []⟩ t = t := by
  unfold frstZ
  rw [if_neg (by omega)]
  simp only [segs, frst]
  rw [show max 0 (max t (-840) - 0) = t by omega, if_pos (by omega)]
theorem sp00 {s : Sf} (h : sfP s) (h2 : s.day * 1440 + s.st + s.mn ≤ 120968640) : spE ⟨0, []⟩ s = 0 ∧ spV ⟨0, []⟩ s = ⟨s.day * 1440 + s.st, s.day * 1440 + s.st + s.mn⟩ := by
  have h' := h
  unfold sfP at h'
  have e : begS ⟨0, []⟩ s = s.day * 1440 + s.st := frst00 (by omega) (by omega)
  have e1 : spE ⟨0, []⟩ s = 0 := by
    unfold spE
    rw [if_pos (show vZ ⟨0, []⟩ = 0 from rfl), if_pos h, e, if_neg (by omega)]
  exact ⟨e1, by unfold spV; rw [if_pos e1, e]⟩
/-- a made plan up to an instant; up to a day -/
def plT (pl : List Sf) (T : Int) : Prop := splE ⟨0, []⟩ 0 pl = 0 ∧ lastE ⟨0, []⟩ 0 pl ≤ T
def plG (pl : List Sf) (d : Int) : Prop := plT pl ((20454 + d) * 1440 + 360)
theorem plT_snoc {pl : List Sf} {T : Int} {s : Sf} (h : plT pl T) (hs : (20454 ≤ s.day ∧ s.day ≤ 21000) ∧ (0 ≤ s.st ∧ s.st < 1440) ∧ 1 ≤ s.mn ∧ s.mn ≤ 1440) (hT : T ≤ s.day * 1440 + s.st) (e : Int) (he : s.day * 1440 + s.st + s.mn ≤ e) : plT (pl ++ [s]) e := by
  obtain ⟨h1, h2⟩ := h
  obtain ⟨a, b⟩ := sp00 (s := s) ⟨by omega, by omega, by omega⟩ (by omega)
  obtain ⟨c, f⟩ := splE_snoc a h1 (by rw [b]; simp only; omega)
  exact ⟨c, by rw [f, b]; simp only; omega⟩
theorem plG_snoc {pl : List Sf} {d : Int} {s : Sf} (h : plG pl d) (hd : 0 ≤ d ∧ d ≤ 500) (hs : s.day = 20454 + d ∧ 360 ≤ s.st ∧ s.st < 1440 ∧ 1 ≤ s.mn ∧ s.mn ≤ 1440) (e : Int) (he : s.day * 1440 + s.st + s.mn ≤ (20454 + e) * 1440 + 360) :
    plG (pl ++ [s]) e := plT_snoc h (by omega) (by omega) _ he
theorem plG_plE {pl : List Sf} {d : Int} (h : plG pl d) (hl : pl.length ≤ 1024) : plE ⟨0, []⟩ pl = 0 := by
  unfold plE
  rw [if_neg (by omega), if_pos (show vZ ⟨0, []⟩ = 0 from rfl)]
  exact h.1
/-- at most two shifts a day -/
def plC (pl : List Sf) (d : Int) : Prop := (∀ x, (pl.filter fun s => decide (s.day = x)).length ≤ 2) ∧ ∀ s ∈ pl, s.day < 20454 + d
theorem plC_add {pl S : List Sf} {d e : Int} (h : plC pl d) (hS : ∀ s ∈ S, s.day = 20454 + d) (hl : S.length ≤ 2) (he : d < e) : plC (pl ++ S) e := by
  refine ⟨fun x => ?_, fun s hs => ?_⟩
  · rw [List.filter_append, List.length_append]
    have h1 := h.1 x
    by_cases hx : x = 20454 + d
    · have : pl.filter (fun s => decide (s.day = x)) = [] := List.filter_eq_nil_iff.2 fun s hs => by
        have := h.2 s hs
        simp; omega
      rw [this]
      have := List.length_filter_le (fun s : Sf => decide (s.day = x)) S
      simp; omega
    · have : S.filter (fun s => decide (s.day = x)) = [] := List.filter_eq_nil_iff.2 fun s hs => by
        have := hS s hs
        simp; omega
      rw [this]; simpa using h1
  · rcases List.mem_append.1 hs with hs | hs
    · have := h.2 s hs; omega
    · have := hS s hs; omega
theorem plC_up {pl : List Sf} {d e : Int} (h : plC pl d) (he : d ≤ e) : plC pl e := ⟨h.1, fun s hs => by have := h.2 s hs; omega⟩
/-- a made shift -/
def sfG (s : Sf) : Prop := 20454 ≤ s.day ∧ s.day ≤ 20554 ∧ 1 ≤ s.mn ∧ s.mn ≤ 510
theorem plan_ok (l : List Int) (hl : TapeOk l) (n : Int) (hn0 : 0 ≤ n) (hn : n ≤ 50) (at_ : Int) (h0 : 0 ≤ at_) (h1 : at_ ≤ l.length) : AFn Tryz.prog 18 [.ref 0 1 0 0, .int .i64 n] [tp l at_]
    (fun v rs => ∃ (a : Int) (pl : List Sf), v = .own 1 pl.length 0 pl.length ∧ rs = [tp l a, .live 140 3 (els pl)] ∧ 0 ≤ a ∧ a ≤ l.length ∧ pl.length ≤ 2 * n ∧ plE ⟨0, []⟩ pl = 0 ∧ (∀ x, (pl.filter fun s => decide (s.day = x)).length ≤ 2) ∧ ∀ s ∈ pl, sfG s) := by
  refine afnW Tryz.func18 a18_ok (by simp [a18, s18]) ?_
  simp only [go_sem,a18,s18,tp]
  (refine Cl.here ?_; simp only [go_sem])
  (refine Cl.here ?_; simp only [go_sem])
  refine Cl.here ?_
  try simp only [go_sem]
  refine avcW_loop (fun env rows => ∃ (a : Int) (pl : List Sf) (d : Int), env = [(0, .ref 0 1 0 0), (1, .int .i64 n), (5, .own 1 pl.length 0 pl.length), (6, .int .i64 d)] ∧ rows = [tapeRow 143 l a, .live 140 3 (els pl)] ∧ 0 ≤ a ∧ a ≤ l.length ∧ 0 ≤ d ∧ d ≤ n + 1 ∧ pl.length ≤ 2 * d ∧ pl.length ≤ 2 * n ∧ plG pl d ∧ plC pl d ∧ ∀ s ∈ pl, sfG s)
    (fun env _ => match slot env 6 with | .int _ j => (n + 1 - j).toNat | _ => 0) ?_ ?_
  · (refine Cl.ghost 5  140  3 rfl (Cl.norm [ 0,1,5,6] ?_); simp only [go_sem])
    exact Cl.here ⟨at_, [], 0, rfl, rfl, by omega, by omega, by omega, by omega, by simp, by simp; omega, ⟨rfl, by simp [lastE]⟩, ⟨by simp, by simp⟩, by simp⟩
  rintro env rows ⟨at_, pl, d, rfl, rfl, _, _, hd0, hd1, hp1, hp2, hpg, hpc, hps⟩
  simp only [go_sem,a18,s18]
  (refine Cl.here ?_; simp only [go_sem])
  refine condW_intro ?_ ?_ <;> intro hg <;> simp only [decide_eq_true_eq,decide_eq_false_iff_not,beq_iff_eq,beq_eq_false_iff_ne,bne_iff_ne,bne_eq_false_iff_eq,Bool.not_eq_true',Bool.not_eq_false',Int.not_lt,Int.not_le,ne_eq,Bool.and_eq_true,Bool.or_eq_true,Bool.or_eq_false_iff,Bool.and_eq_false_iff] at hg <;> simp only [go_sem,a18,s18]
  · (refine Cl.here ?_; simp only [go_sem])
    (refine callC_tape (next_ok l hl 5 (by omega)) rfl rfl (by omega) (by omega) ?_; rintro _ at_ _ _ ⟨ c,rfl,_,_⟩; simp only [go_sem])
    have hwd : IntKind.i64.wrap (20454 + d) = 20454 + d := wrap_i64 (by omega) (by omega)
    have hwd1 : IntKind.i64.wrap (d + 1) = d + 1 := wrap_i64 (by omega) (by omega)
    have hwd2 : IntKind.i64.wrap (d + 1 + 1) = d + 2 := by rw [wrap_i64 (by omega) (by omega)]; omega
    rcases (show c = 0 ∨ c = 1 ∨ c = 2 ∨ (3 ≤ c ∧ c < 5) by omega) with rfl | rfl | rfl | hc
    · (refine Cl.here ?_; simp only [go_sem])
      (refine Cl.here ?_; simp only [go_sem])
      try rw [hwd]
      (refine callC_pick [480,360,450] (pick_ok l hl _ (by simp) (by simp)) rfl rfl rfl rfl rfl (by decide) (by omega) (by omega) ?_; rintro _ at_ _ _ ⟨s,hmem,rfl⟩; simp only [List.mem_cons,List.not_mem_nil,or_false] at hmem; simp only [go_sem])
      have hs : s = 480 ∨ s = 360 ∨ s = 450 := hmem
      clear hmem
      (refine callC_pick [480,510,300] (pick_ok l hl _ (by simp) (by simp)) rfl rfl rfl rfl rfl (by decide) (by omega) (by omega) ?_; rintro _ at_ _ _ ⟨m,hmem,rfl⟩; simp only [List.mem_cons,List.not_mem_nil,or_false] at hmem; simp only [go_sem])
      have hm : m = 480 ∨ m = 510 ∨ m = 300 := hmem
      clear hmem
      refine ⟨by omega, ?_⟩
      rw [sf_snoc]
      (refine Cl.tr [some 0,some 1] [] rfl rfl (by simp only [go_sem] <;> rfl) ?_; simp only [go_sem])
      (refine Cl.here ?_; simp only [go_sem])
      rw [hwd1]
      refine Cl.here ⟨⟨at_, _, d + 1, by rw [List.length_append]; rfl, rfl, by omega, by omega, by omega, by omega, ?_, ?_, plG_snoc hpg (by omega) ?_ _ ?_, plC_add hpc (by simp) (by simp) (by omega), ?_⟩, ?_⟩
      · rw [List.length_append, List.length_singleton]; omega
      · rw [List.length_append, List.length_singleton]; omega
      · simp only [true_and]; omega
      · simp only; omega
      · intro y hy
        rcases List.mem_append.1 hy with hy | hy
        · exact hps y hy
        · rw [List.mem_singleton] at hy; subst hy; unfold sfG; simp only; omega
      · simp only [go_sem]
        omega
    · (refine Cl.here ?_; simp only [go_sem])
      (refine Cl.here ?_; simp only [go_sem])
      (refine Cl.here ?_; simp only [go_sem])
      try rw [hwd]
      refine ⟨by omega, ?_⟩
      rw [sf_snoc]
      (refine Cl.tr [some 0,some 1] [] rfl rfl (by simp only [go_sem] <;> rfl) ?_; simp only [go_sem])
      (refine Cl.here ?_; simp only [go_sem])
      (refine Cl.here ?_; simp only [go_sem])
      rw [hwd1, hwd2]
      refine Cl.here ⟨⟨at_, _, d + 2, by rw [List.length_append]; rfl, rfl, by omega, by omega, by omega, by omega, ?_, ?_, plG_snoc hpg (by omega) ?_ _ ?_, plC_add hpc (by simp) (by simp) (by omega), ?_⟩, ?_⟩
      · rw [List.length_append, List.length_singleton]; omega
      · rw [List.length_append, List.length_singleton]; omega
      · simp only [true_and]; omega
      · simp only; omega
      · intro y hy
        rcases List.mem_append.1 hy with hy | hy
        · exact hps y hy
        · rw [List.mem_singleton] at hy; subst hy; unfold sfG; simp only; omega
      · simp only [go_sem]
        omega
    · (refine Cl.here ?_; simp only [go_sem])
      (refine Cl.here ?_; simp only [go_sem])
      (refine Cl.here ?_; simp only [go_sem])
      (refine Cl.here ?_; simp only [go_sem])
      try rw [hwd]
      (refine callC_pick [240,60] (pick_ok l hl _ (by simp) (by simp)) rfl rfl rfl rfl rfl (by decide) (by omega) (by omega) ?_; rintro _ at_ _ _ ⟨m,hmem,rfl⟩; simp only [List.mem_cons,List.not_mem_nil,or_false] at hmem; simp only [go_sem])
      have hm : m = 240 ∨ m = 60 := hmem
      clear hmem
      refine ⟨by omega, ?_⟩
      have hq : els pl ++ [[.int .i64 (20454 + d), .int .i64 360, .int .i64 240], [.int .i64 (20454 + d), .int .i64 720, .int .i64 m]] = els (pl ++ [⟨20454 + d, 360, 240⟩] ++ [⟨20454 + d, 720, m⟩]) := by
        rw [← els_snoc, ← els_snoc, List.append_assoc]; rfl
      rw [hq]
      (refine Cl.tr [some 0,some 1] [] rfl rfl (by simp only [go_sem] <;> rfl) ?_; simp only [go_sem])
      (refine Cl.here ?_; simp only [go_sem])
      rw [hwd1]
      have h1 : plT (pl ++ [⟨20454 + d, 360, 240⟩]) ((20454 + d) * 1440 + 600) := plT_snoc hpg (by simp only; omega) (by simp only; omega) _ (by simp only; omega)
      have h2 : plG (pl ++ [⟨20454 + d, 360, 240⟩] ++ [⟨20454 + d, 720, m⟩]) (d + 1) := plT_snoc h1 (by simp only; omega) (by simp only; omega) _ (by simp only; omega)
      have hlen : (pl ++ [(⟨20454 + d, 360, 240⟩ : Sf)] ++ [(⟨20454 + d, 720, m⟩ : Sf)]).length = pl.length + 2 := by simp
      refine Cl.here ⟨⟨at_, _, d + 1, by rw [hlen], rfl, by omega, by omega, by omega, by omega, by rw [hlen]; omega, by rw [hlen]; omega, h2, by rw [List.append_assoc]; exact plC_add hpc (by simp) (by simp) (by omega), ?_⟩, ?_⟩
      · intro y hy
        rcases List.mem_append.1 hy with hy | hy
        · rcases List.mem_append.1 hy with hy | hy
          · exact hps y hy
          · rw [List.mem_singleton] at hy; subst hy; unfold sfG; simp only; omega
        · rw [List.mem_singleton] at hy; subst hy; unfold sfG; simp only; omega
      · simp only [go_sem]
        omega
    · have e0 : (c == 0) = false := beq_eq_false_iff_ne.2 (by omega)
      have e1 : (c == 1) = false := beq_eq_false_iff_ne.2 (by omega)
      have e2 : (c == 2) = false := beq_eq_false_iff_ne.2 (by omega)
      refine Cl.here ?_
      simp only [go_sem,e0,e1,e2]
      refine Cl.here ?_
      simp only [go_sem,e0,e1,e2]
      refine Cl.here ?_
      simp only [go_sem,e0,e1,e2]
      refine Cl.here ?_
      simp only [go_sem,e0,e1,e2]
      refine Cl.here ?_
      simp only [go_sem,e0,e1,e2]
      refine Cl.here ?_
      simp only [go_sem,e0,e1,e2]
      rw [hwd1]
      obtain ⟨h1, h2⟩ := hpg
      refine ⟨⟨at_, pl, d + 1, rfl, rfl, by omega, by omega, by omega, by omega, by omega, by omega, ⟨h1, by omega⟩, plC_up hpc (by omega), hps⟩, by omega⟩
  · (refine Cl.here ?_; simp only [go_sem])
    (refine Cl.here ?_; simp only [go_sem])
    exact Cl.here ⟨at_, pl, rfl, rfl, by omega, by omega, hp2, plG_plE hpg (by omega), hpc.1, hps⟩

end Go.Proofs.YtpincjkjoeopkaaGreatDoor
