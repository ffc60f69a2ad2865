/- A leaf of the evaluator: slices.Sorted of strings; the examples sane() and timed(). -/
import Derived.Test.YtpincjkjoeopkaaGreatDoorF9Mk0
import Derived.Test.YtpincjkjoeopkaaGreatDoorF9Kss
set_option linter.unusedSimpArgs false
set_option linter.unusedVariables false
set_option linter.unusedSectionVars false
namespace Go.Proofs.YtpincjkjoeopkaaGreatDoor
open Go Go.Abs
set_option linter.unusedSimpArgs false
set_option linter.unusedVariables false

def keysS : List (AVal × AVal) → Option (List ByteArray)
  | [] => some []
  | (.str n, _) :: l => match keysS l with | some ns => some (n :: ns) | none => none
  | _ :: _ => none
theorem keysS_ok : ∀ {l : List (AVal × AVal)} {ns : List ByteArray}, keysS l = some ns → l.map (·.1) = ns.map (AVal.str ·)
  | [], ns, h => by cases h; rfl
  | p :: l, ns, h => by
    unfold keysS at h
    split at h
    · cases ‹_ :: _ = []›
    · rename_i n v l' heq
      cases heq
      split at h
      · rename_i ms hms
        cases h
        rw [List.map_cons, keysS_ok hms]; rfl
      · cases h
    · cases h
/-- bytes, in order -/
def leU : List UInt8 → List UInt8 → Bool
  | [], _ => true
  | _ :: _, [] => false
  | x :: xs, y :: ys => if x.toNat < y.toNat then true else if y.toNat < x.toNat then false else leU xs ys
theorem leU_ok : ∀ (x y : List UInt8), leU x y = true → x ≤ y
  | [], y, _ => List.nil_le y
  | _ :: _, [], h => by simp [leU] at h
  | x :: xs, y :: ys, h => by
    rw [leU] at h
    split at h
    · rename_i hl
      exact List.le_of_lt (List.cons_lt_cons_iff.2 (.inl hl))
    · split at h
      · cases h
      · rename_i h1 h2
        obtain rfl : x = y := UInt8.toNat_inj.1 (by omega)
        exact List.cons_le_cons_iff.2 (.inr ⟨rfl, leU_ok xs ys h⟩)
theorem leU_tot : ∀ (x y : List UInt8), leU x y = false → leU y x = true
  | [], y, h => by simp [leU] at h
  | _ :: _, [], _ => rfl
  | x :: xs, y :: ys, h => by
    rw [leU] at h ⊢
    split at h
    · cases h
    · split at h
      · rename_i h1 h2
        rw [if_pos h2]
      · rename_i h1 h2
        rw [if_neg h2, if_neg h1]
        exact leU_tot xs ys h
def insU (x : List UInt8) : List (List UInt8) → List (List UInt8)
  | [] => [x]
  | y :: ys => if leU x y then x :: y :: ys else y :: insU x ys
def sortU : List (List UInt8) → List (List UInt8)
  | [] => []
  | x :: xs => insU x (sortU xs)
theorem insU_perm (x : List UInt8) : ∀ l : List (List UInt8), (insU x l).Perm (x :: l)
  | [] => List.Perm.refl _
  | y :: ys => by
    rw [insU]
    split
    · exact List.Perm.refl _
    · exact ((insU_perm x ys).cons y).trans (List.Perm.swap x y ys)
theorem sortU_perm : ∀ l : List (List UInt8), (sortU l).Perm l
  | [] => List.Perm.refl _
  | x :: xs => (insU_perm x _).trans ((sortU_perm xs).cons x)
theorem insU_sorted (x : List UInt8) : ∀ {l : List (List UInt8)}, l.Pairwise (· ≤ ·) → (insU x l).Pairwise (· ≤ ·)
  | [], _ => by simp [insU]
  | y :: ys, h => by
    rw [List.pairwise_cons] at h
    rw [insU]
    split
    · rename_i hc
      have h1 := leU_ok _ _ hc
      exact List.pairwise_cons.2 ⟨fun z hz => by
        rcases List.mem_cons.1 hz with rfl | hz
        · exact h1
        · exact List.le_trans h1 (h.1 z hz), List.pairwise_cons.2 h⟩
    · rename_i hc
      have h1 := leU_ok _ _ (leU_tot _ _ (by simpa using hc))
      exact List.pairwise_cons.2 ⟨fun z hz => by
        rcases List.mem_cons.1 ((insU_perm x ys).mem_iff.1 hz) with rfl | hz
        · exact h1
        · exact h.1 z hz, insU_sorted x h.2⟩
theorem sortU_sorted : ∀ l : List (List UInt8), (sortU l).Pairwise (· ≤ ·)
  | [] => List.Pairwise.nil
  | x :: xs => insU_sorted x (sortU_sorted xs)
theorem srtB_eq (ks : List ByteArray) : srtB ks = (sortU (ks.map fun s => s.data.toList)).map bS := by
  unfold srtB
  congr 1
  have tr : ∀ a b c : List UInt8, leB a b = true → leB b c = true → leB a c = true := fun a b c h1 h2 => by simp only [leB, decide_eq_true_eq] at *; exact List.le_trans h1 h2
  have to : ∀ a b : List UInt8, (leB a b || leB b a) = true := fun a b => by simp only [leB, Bool.or_eq_true, decide_eq_true_eq]; exact List.le_total a b
  refine List.Perm.eq_of_pairwise (le := fun a b => leB a b = true) (fun a b _ _ h1 h2 => ?_) (List.pairwise_mergeSort tr to _) ((sortU_sorted _).imp fun h => decide_eq_true h) ((List.mergeSort_perm _ leB).trans (sortU_perm _).symm)
  simp only [leB, decide_eq_true_eq] at h1 h2
  exact List.le_antisymm h1 h2
def nodupU : List (List UInt8) → Bool
  | [] => true
  | x :: xs => !xs.contains x && nodupU xs
theorem nodupU_ok : ∀ {l : List ByteArray}, nodupU (l.map fun s => s.data.toList) = true → l.Nodup
  | [], _ => List.nodup_nil
  | x :: xs, h => by
    simp only [List.map_cons, nodupU, Bool.and_eq_true, Bool.not_eq_true', List.contains_eq_mem, decide_eq_false_iff_not] at h
    exact List.nodup_cons.2 ⟨fun hm => h.1 (List.mem_map_of_mem hm), nodupU_ok h.2⟩
def runSortedS (args : List AVal) (rows : List Row) : Option (AVal × List Row) :=
  match args with
  | [.fn 189 [.ref b 1 0 0]] =>
    match rows[b]? with
    | some (.live _ 1 [[.mref a]]) =>
      match rows[a]? with
      | some (.obj (.map false [.str] ents)) =>
        match keysS ents with
        | some ks => if nodupU (ks.map fun s => s.data.toList) = true ∧ ks.all (fun s => decide (s.size ≤ 1000)) = true ∧ ks.length ≤ 1000000 then some (.pure 1 (strsE ((sortU (ks.map fun s => s.data.toList)).map bS)), rows) else none
        | none => none
      | _ => none
    | _ => none
  | _ => none
theorem runSortedS_ok (args : List AVal) (rows : List Row) (v : AVal) (rs : List Row) (h : runSortedS args rows = some (v, rs)) : AFn Tryz.prog 104 args rows fun v' rs' => v' = v ∧ rs' = rs := by
  unfold runSortedS at h
  split at h
  · split at h
    · rename_i hb
      split at h
      · rename_i ha
        split at h
        · rename_i ks hks
          split at h
          · rename_i hc
            simp only [Option.some.injEq, Prod.mk.injEq] at h
            obtain ⟨rfl, rfl⟩ := h
            rw [← srtB_eq]
            exact sortedSt_ok ha hb (keysS_ok hks) (nodupU_ok hc.1) (fun x hx => Nat.le_trans (of_decide_eq_true (List.all_eq_true.1 hc.2.1 x hx)) (by decide)) hc.2.2
          · cases h
        · cases h
      · cases h
    · cases h
  · cases h
theorem mapsKeysS_ok {rows : List Row} {a : Nat} : AFn Tryz.prog 105 [.mref a] rows
    (fun v rs => v = .fn 189 [.ref rows.length 1 0 0] ∧ rs = rows ++ [.live 201 1 [[.mref a]]]) := by
  refine AFn.keys fun mb w => ?_
  go_enter Tryz.func105, Tryz.ntmps105
  go_wp2
  go_ret
  exact ⟨rfl, rfl⟩
def leavesS : List (XLeaf Tryz.prog) := ⟨104, runSortedS, runSortedS_ok⟩ :: ⟨105, runKeys 189 201, runKeys_ok fun _ _ => mapsKeysS_ok⟩ :: leavesM

end Go.Proofs.YtpincjkjoeopkaaGreatDoor
