/- Leaves of the evaluator: maps.Keys, slices.Sorted of int keys, slices.SortedFunc of at most one key, slices.Clone of nil. -/
import Derived.Test.YtpincjkjoeopkaaGreatDoorF9Kys
import Derived.Test.YtpincjkjoeopkaaGreatDoorF9Kmp
import Derived.Test.YtpincjkjoeopkaaGreatDoorAbsMe
set_option linter.unusedSimpArgs false
set_option linter.unusedVariables false
set_option linter.unusedSectionVars false
namespace Go.Proofs.YtpincjkjoeopkaaGreatDoor
open Go Go.Abs
set_option linter.unusedSimpArgs false
set_option linter.unusedVariables false

/-- the keys of a map, if they are ints -/
def keysI : List (AVal × AVal) → Option (List Int)
  | [] => some []
  | (.int .i64 n, _) :: l => match keysI l with | some ns => some (n :: ns) | none => none
  | _ :: _ => none
theorem keysI_ok : ∀ {l : List (AVal × AVal)} {ns : List Int}, keysI l = some ns → l.map (·.1) = ns.map (AVal.int .i64 ·)
  | [], ns, h => by cases h; rfl
  | p :: l, ns, h => by
    unfold keysI at h
    split at h
    · cases ‹_ :: _ = []›
    · rename_i n v l' heq
      cases heq
      split at h
      · rename_i ms hms
        cases h
        rw [List.map_cons, keysI_ok hms]; rfl
      · cases h
    · cases h
def insI (x : Int) : List Int → List Int
  | [] => [x]
  | y :: ys => if x ≤ y then x :: y :: ys else y :: insI x ys
def sortI : List Int → List Int
  | [] => []
  | x :: xs => insI x (sortI xs)
theorem insI_perm (x : Int) : ∀ l : List Int, (insI x l).Perm (x :: l)
  | [] => List.Perm.refl _
  | y :: ys => by
    rw [insI]
    split
    · exact List.Perm.refl _
    · exact ((insI_perm x ys).cons y).trans (List.Perm.swap x y ys)
theorem sortI_perm : ∀ l : List Int, (sortI l).Perm l
  | [] => List.Perm.refl _
  | x :: xs => (insI_perm x (sortI xs)).trans ((sortI_perm xs).cons x)
theorem insI_sorted (x : Int) : ∀ l : List Int, l.Pairwise (· ≤ ·) → (insI x l).Pairwise (· ≤ ·)
  | [], _ => by simp [insI]
  | y :: ys, h => by
    rw [List.pairwise_cons] at h
    rw [insI]
    split
    · rename_i hxy
      rw [List.pairwise_cons, List.pairwise_cons]
      exact ⟨fun z hz => by rcases List.mem_cons.1 hz with rfl | hz; (· exact hxy); exact Int.le_trans hxy (h.1 z hz), h⟩
    · rename_i hxy
      rw [List.pairwise_cons]
      refine ⟨fun z hz => ?_, insI_sorted x ys h.2⟩
      rcases List.mem_cons.1 ((insI_perm x ys).mem_iff.1 hz) with rfl | hz
      · omega
      · exact h.1 z hz
theorem sortI_sorted : ∀ l : List Int, (sortI l).Pairwise (· ≤ ·)
  | [] => List.Pairwise.nil
  | x :: xs => insI_sorted x _ (sortI_sorted xs)
theorem srt_eq {l l' : List Int} (hp : l'.Perm l) (hs : l'.Pairwise (· ≤ ·)) : srt l = l' := by
  have h1 : (srt l).Pairwise (· ≤ ·) := by
    unfold srt
    have := List.pairwise_mergeSort (le := fun x y : Int => decide (x ≤ y)) (fun a b c h1 h2 => by simp only [decide_eq_true_eq] at *; omega) (fun a b => by simp; omega) l
    exact this.imp fun h => by simpa using h
  have h2 : (srt l).Perm l' := by
    unfold srt
    exact (List.mergeSort_perm l _).trans hp.symm
  exact h2.eq_of_pairwise (fun a b _ _ h1 h2 => Int.le_antisymm h1 h2) h1 hs
def wfI (n : Int) : Bool := (Lit.int .i64 n).wf
def nodupI : List Int → Bool
  | [] => true
  | x :: xs => !xs.contains x && nodupI xs
theorem nodupI_ok : ∀ {l : List Int}, nodupI l = true → l.Nodup
  | [], _ => List.nodup_nil
  | x :: xs, h => by
    simp only [nodupI, Bool.and_eq_true, Bool.not_eq_true', List.contains_eq_mem, decide_eq_false_iff_not] at h
    exact List.nodup_cons.2 ⟨h.1, nodupI_ok h.2⟩
def runSorted (args : List AVal) (rows : List Row) : Option (AVal × List Row) :=
  match args with
  | [.fn g [.ref b 1 0 0]] =>
    match rows[b]? with
    | some (.live _ 1 [[.mref a]]) =>
      match rows[a]? with
      | some (.obj (.map false [.int .i64] ents)) =>
        match keysI ents with
        | some ks => if (g = 128 ∨ g = 168 ∨ g = 204) ∧ nodupI ks = true ∧ ks.all wfI = true ∧ ks.length ≤ 1000000 then some (.pure 1 (numsE .i64 (sortI ks)), rows) else none
        | none => none
      | _ => none
    | _ => none
  | _ => none
theorem runSorted_ok (args : List AVal) (rows : List Row) (v : AVal) (rs : List Row) (h : runSorted args rows = some (v, rs)) : AFn Tryz.prog 47 args rows fun v' rs' => v' = v ∧ rs' = rs := by
  unfold runSorted at h
  split at h
  · rename_i g b
    split at h
    · rename_i T a hb
      split at h
      · rename_i ents ha
        split at h
        · rename_i ks hks
          split at h
          · rename_i hc
            simp only [Option.some.injEq, Prod.mk.injEq] at h
            obtain ⟨rfl, rfl⟩ := h
            obtain ⟨hg, h1, h2, h3⟩ := hc
            have hw : ∀ x ∈ ks, (Lit.int .i64 x).wf = true := fun x hx => List.all_eq_true.1 h2 x hx
            rw [← srt_eq (sortI_perm ks) (sortI_sorted ks)]
            rcases hg with rfl | rfl | rfl
            · exact sortedDr_ok ha hb (keysI_ok hks) (nodupI_ok h1) hw h3
            · exact sortedBo_ok ha hb (keysI_ok hks) (nodupI_ok h1) hw h3
            · exact sortedAr_ok ha hb (keysI_ok hks) (nodupI_ok h1) hw h3
          · cases h
        · cases h
      · cases h
    · cases h
  · cases h

end Go.Proofs.YtpincjkjoeopkaaGreatDoor
