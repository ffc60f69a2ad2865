/- The reference: the premiums. -/
import Derived.Test.YtefemdpicjgkeaaGreatDoorZ8RCnt
import Derived.Test.YtefemdpicjgkeaaGreatDoorZ8CPl
set_option linter.unusedSimpArgs false
set_option linter.unusedVariables false
set_option linter.unusedSectionVars false
namespace Go.Proofs.YtefemdpicjgkeaaGreatDoor
open Go Go.Abs
set_option linter.unusedSimpArgs false
set_option linter.unusedVariables false

theorem isInt_ok (a b : Int) : AFn Tryz.prog 24 [.agg [.int .i64 a, .int .i64 b]] [] (fun v rs => v = .bool (decide (0 ≤ a ∧ a < b ∧ b ≤ 120968640)) ∧ rs = []) := by
  refine afn Tryz.func24 a24_ok (by simp [a24]) ?_
  simp only [go_sem,a24,a24r0,a24r1]
  repeat' (first | (refine grdC_intro ?_ ?_ <;> intro hg <;> (have hp := hg; try simp only [decide_eq_true_eq,decide_eq_false_iff_not,beq_iff_eq,beq_eq_false_iff_ne,bne_iff_ne,bne_eq_false_iff_eq,Bool.not_eq_true',Bool.not_eq_false',Int.not_lt,Int.not_le,ne_eq,Bool.and_eq_true,Bool.or_eq_true,Bool.or_eq_false_iff,Bool.and_eq_false_iff] at hp) <;> (first | omega | (simp only [go_sem,hg,a24,a24r0,a24r1]; clear hg))) | (refine grdD_intro ?_ ?_ <;> intro hg <;> (have hp := hg; try simp only [decide_eq_true_eq,decide_eq_false_iff_not,beq_iff_eq,beq_eq_false_iff_ne,bne_iff_ne,bne_eq_false_iff_eq,Bool.not_eq_true',Bool.not_eq_false',Int.not_lt,Int.not_le,ne_eq,Bool.and_eq_true,Bool.or_eq_true,Bool.or_eq_false_iff,Bool.and_eq_false_iff] at hp) <;> (first | omega | (simp only [go_sem,hg,a24,a24r0,a24r1]; clear hg))) | (refine condC_intro ?_ ?_ <;> intro hg <;> (have hp := hg; try simp only [decide_eq_true_eq,decide_eq_false_iff_not,beq_iff_eq,beq_eq_false_iff_ne,bne_iff_ne,bne_eq_false_iff_eq,Bool.not_eq_true',Bool.not_eq_false',Int.not_lt,Int.not_le,ne_eq,Bool.and_eq_true,Bool.or_eq_true,Bool.or_eq_false_iff,Bool.and_eq_false_iff] at hp) <;> (first | omega | (simp only [go_sem,hg,a24,a24r0,a24r1]; clear hg))) | (refine condW_intro ?_ ?_ <;> intro hg <;> (have hp := hg; try simp only [decide_eq_true_eq,decide_eq_false_iff_not,beq_iff_eq,beq_eq_false_iff_ne,bne_iff_ne,bne_eq_false_iff_eq,Bool.not_eq_true',Bool.not_eq_false',Int.not_lt,Int.not_le,ne_eq,Bool.and_eq_true,Bool.or_eq_true,Bool.or_eq_false_iff,Bool.and_eq_false_iff] at hp) <;> (first | omega | (simp only [go_sem,hg,a24,a24r0,a24r1]; clear hg))))
  all_goals (refine Cl.fin rfl ⟨congrArg AVal.bool ?_, rfl⟩; rw [Bool.eq_iff_iff]; simp only [decide_eq_true_eq, decide_eq_false_iff_not, beq_iff_eq, beq_eq_false_iff_ne, bne_iff_ne, bne_eq_false_iff_eq, Bool.not_eq_true', Bool.not_eq_false', Int.not_lt, Int.not_le, ne_eq, Bool.and_eq_true, Bool.or_eq_true, Bool.or_eq_false_iff, Bool.and_eq_false_iff, Bool.false_eq_true, false_iff, true_iff, iff_true, iff_false, and_true, true_and] at *; omega)

/-- the numbers f 0, f 1 .. -/
def cnts (f : Nat → Int) (n : Nat) : List Int := (List.range n).map f
theorem cnts_length (f : Nat → Int) (n : Nat) : (cnts f n).length = n := by simp [cnts]
theorem cnts_get {f : Nat → Int} {n i : Nat} (h : i < n) : (numsE .i64 (cnts f n)).getD i [] = [.int .i64 (f i)] := by
  rw [numsE_getD (by simpa [cnts] using h), List.getD_eq_getElem?_getD]; simp [cnts, h]
theorem cnts_set {f : Nat → Int} {n i : Nat} {v : Int} : (numsE .i64 (cnts f n)).set i [.int .i64 v] = numsE .i64 (cnts (fun j => if j = i then v else f j) n) := by
  apply List.ext_getElem?
  intro k
  rw [List.getElem?_set]
  by_cases hk : i = k
  · subst hk
    simp only [cnts, numsE, if_true]
    by_cases h : i < n <;> simp [h]
  · rw [if_neg hk]
    by_cases h : k < n <;> simp [cnts, numsE, h, Ne.symm hk]
theorem cnts_ext {f g : Nat → Int} {n : Nat} (h : ∀ j, j < n → f j = g j) : cnts f n = cnts g n := by
  unfold cnts
  exact List.map_congr_left fun j hj => h j (List.mem_range.1 hj)
theorem cnts_rep (n : Nat) : List.replicate n [AVal.int .i64 0] = numsE .i64 (cnts (fun _ => 0) n) := by
  apply List.ext_getElem?
  intro k
  by_cases h : k < n <;> simp [cnts, numsE, h]

/-- the lists of the days: their rows lie at D -/
def dRow (f : Nat → Int) (n : Nat) : Row := .live 3 1 (numsE .i64 (cnts f n))
structure DayR (ks : List Int) (ix : Int → Nat) (D : List Row) (n : Nat) (f : Int → Nat → Int) : Prop where
  at_ : ∀ d, d ∈ ks → D[ix d]? = some (dRow (f d) n)
  inj : ∀ d, d ∈ ks → ∀ e, e ∈ ks → ix d = ix e → d = e
theorem DayR.lt {ks : List Int} {ix : Int → Nat} {D : List Row} {n : Nat} {f : Int → Nat → Int} (h : DayR ks ix D n f) {d : Int} (hd : d ∈ ks) : ix d < D.length := by
  have := h.at_ d hd
  rcases Nat.lt_or_ge (ix d) D.length with hl | hl
  · exact hl
  · rw [List.getElem?_eq_none hl] at this; cases this
theorem DayR.app {ks : List Int} {ix : Int → Nat} {D : List Row} {n : Nat} {f : Int → Nat → Int} (h : DayR ks ix D n f) (E : List Row) : DayR ks ix (D ++ E) n f :=
  ⟨fun d hd => by rw [List.getElem?_append_left (h.lt hd)]; exact h.at_ d hd, h.inj⟩
theorem DayR.ext {ks : List Int} {ix : Int → Nat} {D : List Row} {n : Nat} {f g : Int → Nat → Int} (h : DayR ks ix D n f) (he : ∀ d, d ∈ ks → ∀ j, j < n → f d j = g d j) : DayR ks ix D n g :=
  ⟨fun d hd => by rw [h.at_ d hd, dRow, dRow, cnts_ext (he d hd)], h.inj⟩
theorem DayR.set {ks : List Int} {ix : Int → Nat} {D : List Row} {n : Nat} {f : Int → Nat → Int} (h : DayR ks ix D n f) {d : Int} (hd : d ∈ ks) (g : Nat → Int) : DayR ks ix (D.set (ix d) (dRow g n)) n (fun e => if e = d then g else f e) := by
  refine ⟨fun e he => ?_, h.inj⟩
  rw [List.getElem?_set]
  by_cases hed : e = d
  · subst hed
    rw [if_pos rfl, if_pos (h.lt he), if_pos rfl]
  · rw [if_neg (fun hx => hed (h.inj _ hd _ he hx).symm), if_neg hed]; exact h.at_ e he
theorem DayR.other {ks : List Int} {ix : Int → Nat} {D : List Row} {q : Nat} {d : Int} {r r' : Row} (hq : D[q]? = some r) (hx : ix d ≠ q) : (D.set (ix d) r')[q]? = some r := by
  rw [List.getElem?_set, if_neg hx]; exact hq
theorem DayR.setO {ks : List Int} {ix : Int → Nat} {D : List Row} {n : Nat} {f : Int → Nat → Int} (h : DayR ks ix D n f) {q : Nat} (hq : ∀ d, d ∈ ks → ix d ≠ q) (r : Row) : DayR ks ix (D.set q r) n f :=
  ⟨fun d hd => by rw [List.getElem?_set, if_neg (fun e => hq d hd e.symm)]; exact h.at_ d hd, h.inj⟩
theorem DayR.new {ks : List Int} {ix : Int → Nat} {D : List Row} {n : Nat} {f : Int → Nat → Int} (h : DayR ks ix D n f) {d : Int} (hd : d ∉ ks) (g : Nat → Int) (E : List Row) : DayR (addK d ks) (fun e => if e = d then D.length else ix e) (D ++ dRow g n :: E) n (fun e => if e = d then g else f e) := by
  have hm : ∀ e, e ∈ addK d ks → e ≠ d → e ∈ ks := fun e he hne => by
    rcases addK_mem.1 he with h1 | h1
    · exact absurd h1 hne
    · exact h1
  refine ⟨fun e he => ?_, fun e he e' he' hx => ?_⟩
  · by_cases hed : e = d
    · rw [if_pos hed, if_pos hed, List.getElem?_append_right (Nat.le_refl _)]; simp
    · have hk := hm e he hed
      rw [if_neg hed, if_neg hed, List.getElem?_append_left (h.lt hk)]; exact h.at_ e hk
  · by_cases h1 : e = d <;> by_cases h2 : e' = d
    · rw [h1, h2]
    · have := h.lt (hm e' he' h2)
      rw [if_pos h1, if_neg h2] at hx; omega
    · have := h.lt (hm e he h1)
      rw [if_neg h1, if_pos h2] at hx; omega
    · rw [if_neg h1, if_neg h2] at hx
      exact h.inj _ (hm e he h1) _ (hm e' he' h2) hx
theorem get_last {α : Type} (D : List α) (r : α) : (D ++ [r])[D.length]? = some r := by simp
/-- a day put into its place -/
theorem ins_sorted {L : List Int} {k : Nat} {d : Int} (hL : L.Pairwise (· < ·)) (hk : k ≤ L.length) (h1 : ∀ j (h : j < L.length), j < k → L[j] < d) (h2 : ∀ j (h : j < L.length), k ≤ j → d < L[j]) : (L.take k ++ d :: L.drop k).Pairwise (· < ·) := by
  have hL' := hL
  rw [← List.take_append_drop k L, List.pairwise_append] at hL'
  rw [List.pairwise_append, List.pairwise_cons]
  refine ⟨hL'.1, ⟨fun x hx => ?_, hL'.2.1⟩, fun x hx y hy => ?_⟩
  · obtain ⟨j, hj, rfl⟩ := List.mem_iff_getElem.1 hx
    rw [List.getElem_drop]
    rw [List.length_drop] at hj
    exact h2 _ (by omega) (by omega)
  · obtain ⟨j, hj, rfl⟩ := List.mem_iff_getElem.1 hx
    rw [List.length_take] at hj
    have hjd : (L.take k)[j] < d := by rw [List.getElem_take]; exact h1 _ (by omega) (by omega)
    rcases List.mem_cons.1 hy with rfl | hy
    · exact hjd
    · exact hL'.2.2 _ hx _ hy
theorem srt_of {L ks : List Int} (hL : L.Pairwise (· < ·)) (hk : ks.Nodup) (hm : ∀ x, x ∈ L ↔ x ∈ ks) : L = srt ks := by
  have hnd : L.Nodup := hL.imp fun h => Int.ne_of_lt h
  have hp : L.Perm (srt ks) := by
    refine List.Perm.trans ?_ (List.mergeSort_perm ks _).symm
    exact (List.perm_ext_iff_of_nodup hnd hk).2 hm
  exact hp.eq_of_pairwise (le := fun a b : Int => a ≤ b) (fun a b _ _ h1 h2 => by omega) (hL.imp fun h => Int.le_of_lt h) (srt_sorted ks)

end Go.Proofs.YtefemdpicjgkeaaGreatDoor
