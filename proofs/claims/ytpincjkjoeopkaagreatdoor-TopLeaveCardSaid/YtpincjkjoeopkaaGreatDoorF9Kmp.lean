/- Maps from a day and a name to minutes; maps.Keys. -/
import Derived.Test.YtpincjkjoeopkaaGreatDoorF9Abs
import Derived.Test.YtpincjkjoeopkaaGreatDoorF9Sfn
import Derived.WalkKit
set_option linter.unusedSimpArgs false
set_option linter.unusedVariables false
set_option linter.unusedSectionVars false
namespace Go.Proofs.YtpincjkjoeopkaaGreatDoor
open Go Go.Abs
set_option linter.unusedSimpArgs false
set_option linter.unusedVariables false

def mapA (f : AKey → Int) (ks : List AKey) : List (AVal × AVal) := ks.map fun k => (.agg (Cel.c k), .int .i64 (f k))
theorem ak_iff {a b : AKey} : a = b ↔ a.d = b.d ∧ a.n.toList = b.n.toList :=
  ⟨fun e => by rw [e]; exact ⟨rfl, rfl⟩, fun ⟨h1, h2⟩ => by cases a; cases b; simp only at h1 h2; rw [h1, ba_ext h2]⟩
instance : DecidableEq AKey := fun a b => decidable_of_iff _ (ak_iff (a := a) (b := b)).symm
theorem isKey_ak (a b : AKey) : isKey (.agg (Cel.c a)) (.agg (Cel.c b)) = decide (a = b) := by
  simp only [isKey, acells, cel_akey, eqCells, Bool.and_true]
  rw [Bool.eq_iff_iff]
  simp only [Bool.and_eq_true, beq_iff_eq, decide_eq_true_eq]
  exact ak_iff.symm
def addA (k : AKey) (ks : List AKey) : List AKey := if k ∈ ks then ks else ks ++ [k]
theorem addA_mem {k x : AKey} {ks : List AKey} : x ∈ addA k ks ↔ x = k ∨ x ∈ ks := by
  unfold addA
  split
  · constructor
    · exact .inr
    · rintro (rfl | h)
      · assumption
      · exact h
  · rw [List.mem_append, List.mem_singleton]; exact Or.comm
theorem addA_nodup {k : AKey} {ks : List AKey} (h : ks.Nodup) : (addA k ks).Nodup := by
  unfold addA
  split
  · exact h
  · rename_i hk
    rw [List.nodup_append]
    exact ⟨h, by simp, fun a ha b hb => by rw [List.mem_singleton] at hb; subst hb; exact fun e => hk (e ▸ ha)⟩
theorem addA_length {k : AKey} {ks : List AKey} : (addA k ks).length ≤ ks.length + 1 := by
  unfold addA
  split
  · omega
  · simp
theorem kfind_mapA {f : AKey → Int} {k : AKey} : ∀ {l : List AKey}, kfind (.agg (Cel.c k)) (mapA f l) = if k ∈ l then some (.int .i64 (f k)) else none
  | [] => by simp [mapA, kfind]
  | p :: l => by
    have ih := kfind_mapA (f := f) (k := k) (l := l)
    unfold mapA at *
    rw [List.map_cons, kfind]
    simp only [isKey_ak, decide_eq_true_eq]
    by_cases hk : k = p
    · subst hk; simp
    · rw [if_neg hk, ih]
      simp only [List.mem_cons, hk, false_or]
theorem kput_mapA {f g : AKey → Int} {k : AKey} (hfg : ∀ x, x ≠ k → f x = g x) : ∀ {l : List AKey}, l.Nodup → kput (.agg (Cel.c k)) (.int .i64 (g k)) (mapA f l) = mapA g (addA k l)
  | [], _ => by simp [mapA, kput, addA]
  | p :: l, hl => by
    rw [List.nodup_cons] at hl
    have ih := kput_mapA hfg hl.2
    unfold mapA addA at *
    rw [List.map_cons, kput]
    simp only [isKey_ak, decide_eq_true_eq]
    by_cases hk : k = p
    · subst hk
      simp
      exact fun a ha => hfg a (fun e => hl.1 (e ▸ ha))
    · simp only [hk, if_false, ih, List.mem_cons, false_or]
      split <;> simp [hfg p (fun e => hk e.symm)]
/-- where a key is -/
def posA (k : AKey) : List AKey → Nat
  | [] => 0
  | p :: l => if k = p then 0 else posA k l + 1
theorem kpos_mapA {f : AKey → Int} {k : AKey} : ∀ {l : List AKey}, (kpos (.agg (Cel.c k)) (mapA f l)).getD (mapA f l).length = posA k l
  | [] => rfl
  | p :: l => by
    have ih := kpos_mapA (f := f) (k := k) (l := l)
    unfold mapA at *
    rw [List.map_cons, kpos]
    simp only [isKey_ak, decide_eq_true_eq, posA]
    by_cases hk : k = p
    · simp [hk]
    · rw [if_neg hk, if_neg hk, ← ih, List.length_cons]
      cases kpos (.agg (Cel.c k)) (List.map (fun k => (AVal.agg (Cel.c k), AVal.int IntKind.i64 (f k))) l) <;> simp
theorem posA_lt {k : AKey} : ∀ {l : List AKey}, k ∈ l → posA k l < l.length
  | [], h => by simp at h
  | p :: l, h => by
    rw [posA]
    split
    · simp
    · rename_i hk
      have := posA_lt (k := k) (l := l) (by rcases List.mem_cons.1 h with e | e; (· exact absurd e hk); exact e)
      simp; omega
theorem posA_addA {k : AKey} : ∀ {l : List AKey}, posA k l = posA k (addA k l)
  | [] => by simp [addA, posA]
  | p :: l => by
    have ih := posA_addA (k := k) (l := l)
    unfold addA at *
    by_cases hk : k = p
    · subst hk; simp [posA]
    · simp only [List.mem_cons, hk, false_or]
      by_cases hm : k ∈ l
      · rw [if_pos hm]
      · rw [if_neg hm] at ih ⊢
        rw [List.cons_append, posA, posA, if_neg hk, if_neg hk, ih]
theorem posA_get {k : AKey} : ∀ {l : List AKey}, k ∈ l → l[posA k l]? = some k
  | [], h => by simp at h
  | p :: l, h => by
    rw [posA]
    split
    · rename_i e; simp [e]
    · rename_i hk
      simpa using posA_get (k := k) (l := l) (by rcases List.mem_cons.1 h with e | e; (· exact absurd e hk); exact e)
/-- the entry of a key is written -/
theorem set_mapA {f : AKey → Int} {k : AKey} {v : Int} {l : List AKey} (hn : l.Nodup) (hk : k ∈ l) {z : AVal × AVal} :
    (mapA f l).set (posA k l) (((mapA f l).getD (posA k l) z).1, .int .i64 v) = mapA (fun x => if x = k then v else f x) l := by
  have hg := posA_get hk
  have hlt := posA_lt hk
  refine List.ext_getElem? fun i => ?_
  rw [List.getElem?_set]
  unfold mapA
  rw [List.getD_eq_getElem?_getD, List.getElem?_map, List.getElem?_map, hg]
  simp only [Option.map_some, Option.getD_some, List.length_map]
  by_cases hi : posA k l = i
  · subst hi
    rw [if_pos rfl, if_pos hlt, List.getElem?_map, hg]; simp
  · rw [if_neg hi, List.getElem?_map]
    cases h : l[i]? with
    | none => rfl
    | some x =>
      have hx : x ≠ k := fun e => by
        subst e
        refine hi ?_
        obtain ⟨h1, e1⟩ := List.getElem?_eq_some_iff.1 h
        obtain ⟨h2, e2⟩ := List.getElem?_eq_some_iff.1 hg
        exact (List.getElem_inj hn).1 (e2.trans e1.symm)
      simp [hx]
theorem mapA_keys {f : AKey → Int} {l : List AKey} : (mapA f l).map (·.1) = keysA l := by unfold mapA keysA; simp
theorem mapA_length {f : AKey → Int} {l : List AKey} : (mapA f l).length = l.length := by unfold mapA; simp
theorem mapA_in {n : Nat} {f : AKey → Int} : ∀ {l : List AKey}, inM n (mapA f l) = true
  | [] => rfl
  | d :: l => by
    show (inV n (.agg (Cel.c d)) && inV n (.int .i64 (f d)) && inM n (mapA f l)) = true
    rw [mapA_in]; rfl
/-- maps.Keys, whose named answer is the nil function at first: out of the model's own walk -/
theorem AFn.keys {f g : FuncId} {T : TypeId} (h : ∀ (mb : Nat) (w : World), Calls Tryz.prog f #[.map (some mb)] w fun e w' => e = .returned (.func (.func g) #[] #[.pointer (some ⟨w.heap.size, 0, none⟩)]) ∧ w' = w.alloc (.cells #[.map (some mb)] T)) {rows : List Row} {a : Nat} :
    AFn Tryz.prog f [.mref a] rows (fun v rs => v = .fn g [.ref rows.length 1 0 0] ∧ rs = rows ++ [.live T 1 [[.mref a]]]) := by
  intro C cargs hr hok hG hrep
  rw [RepL] at hrep
  obtain ⟨v0, rest, rfl, hv, hn⟩ := hrep
  rw [RepL] at hn
  subst hn
  have hv' := hv
  rw [Rep] at hv
  obtain ⟨hpm, ⟨mb, rfl⟩, _, _⟩ := hv
  refine (h mb C.w).mono ?_
  rintro e w' ⟨rfl, rfl⟩
  obtain ⟨k1, k2⟩ := cells_rep hv' (rfl : (acells (.mref a)).all Abs.one = true)
  have hp := push_row hok T 1 1 #[.map (some mb)] [[.mref a]] [.map (some mb)] (C.w.alloc (.cells #[.map (some mb)] T)) ⟨rfl, rfl, rfl, rfl⟩ (by simp) (by simp [maxLen]) (by simp) (elems_one rfl k1 k2) rfl
  refine ⟨_, .fn g [.ref rows.length 1 0 0], _, rfl, rfl, ?_, hp.1, by rw [← hr]; exact hp.2, rfl, by rw [hr]⟩
  rw [Rep]
  refine ⟨_, rfl, ?_⟩
  rw [RepL]
  refine ⟨_, [], rfl, ?_, by rw [RepL]⟩
  have h1 := new_ref (rows := C.rows) (phi := C.phi) (om := C.om) (w := C.w.alloc (.cells #[.map (some mb)] T)) (e := T) (sz := 1) (b := C.w.heap.size) (cap := 1) (cells := [.mref a]) hok.plen
  rw [hok.pm, ← hr]
  exact h1
theorem mapsKeys_ok {rows : List Row} {a : Nat} : AFn Tryz.prog 121 [.mref a] rows
    (fun v rs => v = .fn 207 [.ref rows.length 1 0 0] ∧ rs = rows ++ [.live 232 1 [[.mref a]]]) := by
  refine AFn.keys fun mb w => ?_
  go_enter Tryz.func121, Tryz.ntmps121
  go_wp2
  go_ret
  exact ⟨rfl, rfl⟩
theorem mapsKeysD_ok {rows : List Row} {a : Nat} : AFn Tryz.prog 48 [.mref a] rows
    (fun v rs => v = .fn 128 [.ref rows.length 1 0 0] ∧ rs = rows ++ [.live 116 1 [[.mref a]]]) := by
  refine AFn.keys fun mb w => ?_
  go_enter Tryz.func48, Tryz.ntmps48
  go_wp2
  go_ret
  exact ⟨rfl, rfl⟩

end Go.Proofs.YtpincjkjoeopkaaGreatDoor
