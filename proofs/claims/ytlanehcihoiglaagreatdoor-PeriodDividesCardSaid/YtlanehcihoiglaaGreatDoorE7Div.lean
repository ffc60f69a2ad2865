/- Portions and divided amounts, or the errors: the program. -/
import Derived.Test.YtlanehcihoiglaaGreatDoorE7RAlo2
import Derived.Test.YtlanehcihoiglaaGreatDoorE7Por
import Derived.Test.YtlanehcihoiglaaGreatDoorE7RWts2
set_option linter.unusedSimpArgs false
set_option linter.unusedVariables false
set_option linter.unusedSectionVars false
namespace Go.Proofs.YtlanehcihoiglaaGreatDoor
open Go Go.Abs
set_option linter.unusedSimpArgs false
set_option linter.unusedVariables false

def porE (k a n : Int) (cs : List Int) (m : Int) (hs : List Hol) : Int := if wE k a n cs m hs ≠ 0 then wE k a n cs m hs else if (wL k a n cs m hs).sum = 0 then 5 else 0
def porL (k a n : Int) (cs : List Int) (m : Int) (hs : List Hol) : List Rt := (wL k a n cs m hs).map (rtP (wL k a n cs m hs).sum)
def porQ (k a n : Int) (cs : List Int) (m : Int) (hs : List Hol) (v : AVal) (rs : List Row) : Prop :=
  (porE k a n cs m hs ≠ 0 ∧ v = .tup [.nils, .int .i64 (porE k a n cs m hs)] ∧ rs = []) ∨ (porE k a n cs m hs = 0 ∧ v = .tup [.own 0 (porL k a n cs m hs).length 0 (porL k a n cs m hs).length, .int .i64 0] ∧ rs = [.live 61 2 (els (porL k a n cs m hs))])
def divE (t k a n : Int) (cs : List Int) (m : Int) (hs : List Hol) : Int := if wE k a n cs m hs ≠ 0 then wE k a n cs m hs else aloE t (wL k a n cs m hs)
def divR (t k a n : Int) (cs : List Int) (m : Int) (hs : List Hol) (v : AVal) (rs : List Row) : Prop :=
  (divE t k a n cs m hs ≠ 0 ∧ v = .tup [.nils, .int .i64 (divE t k a n cs m hs)] ∧ rs = []) ∨ (divE t k a n cs m hs = 0 ∧ v = .tup [.own 0 (wL k a n cs m hs).length 0 (wL k a n cs m hs).length, .int .i64 0] ∧ rs = [.live 3 1 (numsE .i64 (raloL t (wL k a n cs m hs)))])
theorem porL_len {k a n : Int} {cs : List Int} {m : Int} {hs : List Hol} : (porL k a n cs m hs).length = (wL k a n cs m hs).length := by simp [porL]
theorem raloL_len {t : Int} {ws : List Int} : (raloL t ws).length = ws.length := by
  unfold raloL
  split
  · rw [List.length_map, incs_len]; simp [partL]
  · rw [incs_len]; simp [partL]
theorem wL_len {k a n : Int} {cs : List Int} {m : Int} {hs : List Hol} (h : wE k a n cs m hs = 0) : (wL k a n cs m hs).length ≤ 31 := by
  have hb := wL_bd h
  unfold wE at h
  split at h
  · contradiction
  rename_i h1
  split at h
  · cases h
  rename_i h2
  split at h
  · cases h
  split at h
  · cases h
  rename_i h4
  obtain ⟨L, hL⟩ := Option.ne_none_iff_exists'.1 h4
  obtain ⟨b0, b1, b2, b3⟩ := sp_bd (by omega) (Decidable.not_not.1 h2)
  have := (parts_in b1 hL).2.1
  unfold wL
  rw [hL, Option.getD_some, List.length_map]
  omega

theorem PortionsG_ok (k a n : Int) (cs : List Int) (m : Int) (hs : List Hol) (hn : -9223372036854775808 ≤ n) (hn2 : n ≤ 9223372036854775807) (hcl : cs.length ≤ 1000) (hl : hs.length ≤ 1024) :
    AFn Tryz.prog 24 [.agg [.int .i64 k, .int .i64 a], .int .i64 n, .pure 1 (numsE .i64 cs), .int .i64 m, .pure 6 (els hs)] [] (porQ k a n cs m hs) := by
  by_cases he : wE k a n cs m hs = 0
  · refine (Portions_ok k a n cs m hs hn hn2 hcl (by omega) he).mono fun v rs hq => ?_
    unfold porQ porE
    rw [if_neg (fun h => h he), porL_len]
    rcases hq with ⟨h1, rfl, rfl⟩ | ⟨h1, rfl, rfl⟩
    · rw [if_pos h1]
      exact .inl ⟨by decide, rfl, rfl⟩
    · rw [if_neg (by omega)]
      exact .inr ⟨rfl, rfl, rfl⟩
  · refine afnW Tryz.func24 a24_ok (by simp [a24]) ?_
    simp only [go_sem,a24,a24r0,a24r1,a24r2,a24r3,a24r4,a24r5,a24r6,a24r7,a24r8,a24r9,a24r10,a24r11,a24r12,a24r13,a24r14,a24r15,a24r16,a24r17,a24r18]
    (repeat (first | (refine Cl.here ?_; simp only [go_sem]) | simp only [go_sem]))
    refine callC_of [] [] (by simp) rfl (bindL_clean _ (by first | rfl | simp only [go_sem])) (Weights_ok k a n cs m hs hn hn2 (by omega) (by omega)) ?_
    rintro _ _ (⟨_, rfl, rfl⟩ | ⟨h, _⟩)
    rotate_left
    · exact absurd h he
    refine ⟨.inl rfl, ?_⟩
    have hb : (wE k a n cs m hs != 0) = true := by simp [he]
    (repeat (first | (refine Cl.here ?_; simp only [go_sem,hb]) | simp only [go_sem,hb]))
    have hp : porE k a n cs m hs = wE k a n cs m hs := by unfold porE; rw [if_pos he]
    exact Cl.fin rfl (.inl ⟨by rw [hp]; exact he, by rw [hp], rfl⟩)

theorem DivideG_ok (t k a n : Int) (cs : List Int) (m : Int) (hs : List Hol) (hn : -9223372036854775808 ≤ n) (hn2 : n ≤ 9223372036854775807) (hcl : cs.length ≤ 1000) (hl : hs.length ≤ 1024) :
    AFn Tryz.prog 26 [.int .i64 t, .agg [.int .i64 k, .int .i64 a], .int .i64 n, .pure 1 (numsE .i64 cs), .int .i64 m, .pure 6 (els hs)] [] (divR t k a n cs m hs) := by
  refine afnW Tryz.func26 a26_ok (by simp [a26]) ?_
  simp only [go_sem,a26,a26r0,a26r1,a26r2,a26r3,a26r4]
  (repeat (first | (refine Cl.here ?_; simp only [go_sem]) | simp only [go_sem]))
  refine callC_of [] [] (by simp) rfl (bindL_clean _ (by first | rfl | simp only [go_sem])) (Weights_ok k a n cs m hs hn hn2 (by omega) (by omega)) ?_
  rintro _ _ (⟨he, rfl, rfl⟩ | ⟨he, rfl, rfl⟩)
  · refine ⟨.inl rfl, ?_⟩
    have hb : (wE k a n cs m hs != 0) = true := by simp [he]
    (repeat (first | (refine Cl.here ?_; simp only [go_sem,hb]) | simp only [go_sem,hb]))
    have hp : divE t k a n cs m hs = wE k a n cs m hs := by unfold divE; rw [if_pos he]
    exact Cl.fin rfl (.inl ⟨by rw [hp]; exact he, by rw [hp], rfl⟩)
  refine ⟨.inl rfl, ?_⟩
  obtain ⟨w1, w2, w3⟩ := wL_bd he
  have w4 := wL_len he
  have hp : divE t k a n cs m hs = aloE t (wL k a n cs m hs) := by unfold divE; rw [if_neg (fun h => h he)]
  unfold divR
  rw [hp]
  generalize wL k a n cs m hs = W at *
  have hsn : 0 ≤ W.sum := sum_nonneg fun w hw => (w1 w hw).1
  simp only [go_sem]
  (refine Cl.frz [] [ 1] rfl rfl (by simp only [go_sem] <;> rfl) ?_; simp only [go_sem])
  (repeat (first | (refine Cl.here ?_; simp only [go_sem,bne_self_eq_false]) | simp only [go_sem,bne_self_eq_false]))
  refine callC_of [] [] (by simp) rfl (bindL_clean _ (by first | rfl | simp only [go_sem])) (allocG_ok t W w2 (by omega) (fun w hw => by have := w1 w hw; omega)) ?_
  rintro _ _ (⟨h, rfl, rfl⟩ | ⟨h, S, hS, rfl, rfl⟩)
  · refine ⟨.inl rfl, ?_⟩
    (repeat (first | (refine Cl.here ?_; simp only [go_sem]) | simp only [go_sem]))
    exact Cl.here (.inl ⟨h, rfl, rfl⟩)
  · refine ⟨.inl rfl, ?_⟩
    have hs0 : 0 < W.sum := by
      unfold aloE at h
      split at h
      · cases h
      split at h
      · cases h
      omega
    rw [← raloL_eq w2 hs0 hS]
    (repeat (first | (refine Cl.here ?_; simp only [go_sem]) | simp only [go_sem]))
    exact Cl.here (.inr ⟨h, rfl, rfl⟩)

end Go.Proofs.YtlanehcihoiglaaGreatDoor
