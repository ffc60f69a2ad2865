/- PremiumCounts: the walk. -/
import Derived.Test.YtefemdpicjgkeaaDoorQ8Tap3
import Derived.Test.YtefemdpicjgkeaaDoorQ8CPl
import Derived.Test.YtefemdpicjgkeaaDoorQ8San
set_option linter.unusedSimpArgs false
set_option linter.unusedVariables false
set_option linter.unusedSectionVars false
namespace Go.Proofs.YtefemdpicjgkeaaDoor
open Go Go.Abs
set_option linter.unusedSimpArgs false
set_option linter.unusedVariables false

/-- windows with another group -/
def sg (g : ByteArray) (w : Win) : Win := ⟨w.name, g, w.rank, w.fr, w.to, w.wd, w.dy⟩
def wsI (g : ByteArray) (ws : List Win) (i : Nat) : List Win := (ws.take i).map (sg g) ++ ws.drop i
theorem wsI_length (g : ByteArray) (ws : List Win) (i : Nat) : (wsI g ws i).length = ws.length := by simp [wsI]; omega
theorem set_mid {α : Type} (M : List α) (x y : α) (B : List α) : (M ++ x :: B).set M.length y = M ++ y :: B := by
  induction M with
  | nil => rfl
  | cons m M ih => simp [ih]
theorem wsI_set {g : ByteArray} {ws : List Win} {i : Nat} (h : i < ws.length) : (els (wsI g ws i)).set i (List.take 1 ((els (wsI g ws i)).getD i []) ++ [.str g] ++ List.drop 2 ((els (wsI g ws i)).getD i [])) = els (wsI g ws (i + 1)) := by
  obtain ⟨A, x, B, rfl, rfl⟩ : ∃ A x B, ws = A ++ x :: B ∧ i = A.length := ⟨ws.take i, ws[i], ws.drop (i + 1), by rw [← List.drop_eq_getElem_cons h, List.take_append_drop], by simp; omega⟩
  have h1 : wsI g (A ++ x :: B) A.length = A.map (sg g) ++ x :: B := by simp [wsI]
  have h2 : wsI g (A ++ x :: B) (A.length + 1) = A.map (sg g) ++ sg g x :: B := by
    have : A ++ x :: B = (A ++ [x]) ++ B := by simp
    unfold wsI
    rw [this, show A.length + 1 = (A ++ [x]).length by simp, List.take_left', List.drop_left'] <;> simp
  rw [h1, h2]
  have hM : (A.map (sg g)).length = A.length := by simp
  generalize A.map (sg g) = M at hM
  rw [← hM]
  have hg : (els (M ++ x :: B)).getD M.length [] = Cel.c x := by
    rw [els_getD (by simp)]; simp
  rw [hg]
  have he : ∀ y : Win, els (M ++ y :: B) = els M ++ Cel.c y :: els B := fun y => by simp [els]
  rw [he, he]
  have hL : M.length = (els M).length := els_length.symm
  rw [hL, set_mid]; rfl
theorem validP_mk' {l : List Hol} (h1 : l.length ≤ 1024) (h2 : validL l = true) : validP l = 0 := by rw [validP, if_neg (by omega), if_pos h2]
theorem pcSum_le {B : Int} : ∀ {ps : List Pc}, (∀ p ∈ ps, p.to - p.fr ≤ B) → pcSum ps ≤ B * ps.length
  | [], _ => by simp [pcSum]
  | p :: ps, h => by
    have ih := pcSum_le (ps := ps) fun q hq => h q (List.mem_cons_of_mem _ hq)
    have h1 := h p List.mem_cons_self
    have h3 : B * (((p :: ps).length : Nat) : Int) = B * ps.length + B := by rw [List.length_cons, Int.natCast_add, Int.mul_add]; simp
    unfold pcSum at *
    rw [List.map_cons, List.sum_cons]; omega
theorem pcE_made {ps : List Pc} (hl : ps.length ≤ 4) (h : ∀ p ∈ ps, pcOk p ∧ p.to - p.fr ≤ 240) : pcE ps = 0 := by
  have h1 := pcSum_le (B := 240) fun p hp => (h p hp).2
  unfold pcE
  rw [if_neg (by omega), if_pos (fun p hp => (h p hp).1), if_neg (by omega)]
def spnS (f : Int → Int) (ps : List Pc) : Int := (ps.map fun p => spn f p.fr (pcN p)).sum
theorem spnS_take {f : Int → Int} {ps : List Pc} {i : Nat} (hi : i < ps.length) : spnS f (ps.take (i + 1)) = spnS f (ps.take i) + spn f ps[i].fr (pcN ps[i]) := by
  unfold spnS
  rw [List.take_succ_eq_append_getElem hi, List.map_append, List.sum_append]; simp
theorem spnS_bd {f : Int → Int} {ps : List Pc} (hf : ∀ t, 0 ≤ f t ∧ f t ≤ 3) (h : ∀ p ∈ ps, pcOk p ∧ p.to - p.fr ≤ 240) : 0 ≤ spnS f ps ∧ spnS f ps ≤ 720 * ps.length := by
  induction ps with
  | nil => simp [spnS]
  | cons p ps ih =>
    have ih := ih fun q hq => h q (List.mem_cons_of_mem _ hq)
    obtain ⟨h1, h2⟩ := h p List.mem_cons_self
    unfold pcOk at h1
    have h3 := spn_bd (f := f) (fr := p.fr) (B := 3) (k := pcN p) fun i _ => hf _
    have h4 : (pcN p : Int) = p.to - p.fr := by unfold pcN; omega
    unfold spnS at *
    rw [List.map_cons, List.sum_cons, List.length_cons]; omega
theorem pmSum_drop {M : List Pm} {i : Nat} (h : i < M.length) : pmSum (M.drop i) = M[i].min + pmSum (M.drop (i + 1)) := by
  unfold pmSum
  rw [List.drop_eq_getElem_cons h, List.map_cons, List.sum_cons]
theorem pmSum_nn : ∀ {M : List Pm}, (∀ m ∈ M, 1 ≤ m.min) → 0 ≤ pmSum M
  | [], _ => by simp [pmSum]
  | m :: M, h => by
    have := pmSum_nn (M := M) fun x hx => h x (List.mem_cons_of_mem _ hx)
    have := h m List.mem_cons_self
    unfold pmSum at *
    rw [List.map_cons, List.sum_cons]; omega
theorem pmSum_len : ∀ {M : List Pm}, (∀ m ∈ M, 1 ≤ m.min) → (M.length : Int) ≤ pmSum M
  | [], _ => by simp [pmSum]
  | m :: M, h => by
    have := pmSum_len (M := M) fun x hx => h x (List.mem_cons_of_mem _ hx)
    have := h m List.mem_cons_self
    unfold pmSum at *
    rw [List.map_cons, List.sum_cons, List.length_cons]; omega

end Go.Proofs.YtefemdpicjgkeaaDoor
