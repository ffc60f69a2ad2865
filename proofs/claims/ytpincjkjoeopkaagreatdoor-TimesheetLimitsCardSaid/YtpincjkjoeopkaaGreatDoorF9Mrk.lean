/- The reference: mark. -/
import Derived.Test.YtpincjkjoeopkaaGreatDoorF9Lea
import Derived.Test.YtpincjkjoeopkaaGreatDoorAbsMg
set_option linter.unusedSimpArgs false
set_option linter.unusedVariables false
set_option linter.unusedSectionVars false
namespace Go.Proofs.YtpincjkjoeopkaaGreatDoor
open Go Go.Abs
set_option linter.unusedSimpArgs false
set_option linter.unusedVariables false

/-- a number put into its place -/
def insM (d : Int) : List Int → List Int
  | [] => [d]
  | x :: t => if x < d then x :: insM d t else if x = d then x :: t else d :: x :: t
theorem insM_lt {d : Int} : ∀ {l : List Int} {k : Nat}, k ≤ l.length → (∀ j (hj : j < k) (hl : j < l.length), l[j] < d) → (∀ (hk : k < l.length), d < l[k]) → insM d l = l.take k ++ d :: l.drop k
  | [], 0, _, _, _ => rfl
  | [], k + 1, h, _, _ => by simp at h
  | x :: t, 0, _, _, h2 => by
    have := h2 (by simp)
    simp only [List.getElem_cons_zero] at this
    rw [insM, if_neg (by omega), if_neg (by omega)]; rfl
  | x :: t, k + 1, h, h1, h2 => by
    have hx := h1 0 (by omega) (by simp)
    simp only [List.getElem_cons_zero] at hx
    rw [insM, if_pos hx]
    have := insM_lt (d := d) (l := t) (k := k) (by simpa using h) (fun j hj hl => by have := h1 (j + 1) (by omega) (by simpa using hl); exact this) (fun hk => by have := h2 (by simpa using hk); exact this)
    rw [this]; rfl
theorem insM_eq {d : Int} : ∀ {l : List Int} {k : Nat} (hk : k < l.length), (∀ j (hj : j < k) (hl : j < l.length), l[j] < d) → l[k] = d → insM d l = l
  | x :: t, 0, _, _, h2 => by
    simp only [List.getElem_cons_zero] at h2
    rw [insM, if_neg (by omega), if_pos h2]
  | x :: t, k + 1, h, h1, h2 => by
    have hx := h1 0 (by omega) (by simp)
    simp only [List.getElem_cons_zero] at hx
    rw [insM, if_pos hx]
    have := insM_eq (d := d) (l := t) (k := k) (by simpa using h) (fun j hj hl => by have := h1 (j + 1) (by omega) (by simpa using hl); exact this) h2
    rw [this]
theorem insM_mem {d y : Int} : ∀ {l : List Int}, y ∈ insM d l ↔ y = d ∨ y ∈ l
  | [] => by simp [insM]
  | x :: t => by
    have := insM_mem (d := d) (y := y) (l := t)
    unfold insM
    split
    · simp only [List.mem_cons, this]; exact or_left_comm
    · split
      · rename_i e; simp only [List.mem_cons, ← e]; exact or_self_left.symm
      · simp only [List.mem_cons]
theorem insM_sorted (d : Int) : ∀ {l : List Int}, l.Pairwise (· < ·) → (insM d l).Pairwise (· < ·)
  | [], _ => by simp [insM]
  | x :: t, h => by
    rw [List.pairwise_cons] at h
    unfold insM
    split
    · rw [List.pairwise_cons]
      refine ⟨fun z hz => ?_, insM_sorted d h.2⟩
      rcases insM_mem.1 hz with rfl | hz
      · assumption
      · exact h.1 z hz
    · split
      · exact List.pairwise_cons.2 h
      · rw [List.pairwise_cons, List.pairwise_cons]
        exact ⟨fun z hz => by rcases List.mem_cons.1 hz with rfl | hz; (· omega); have := h.1 z hz; omega, h⟩
theorem insM_length (d : Int) : ∀ l : List Int, (insM d l).length ≤ l.length + 1
  | [] => by simp [insM]
  | x :: t => by
    have := insM_length d t
    unfold insM
    split
    · simp; omega
    · split <;> simp

theorem mark_ok (zs : List Int) (hz : zs.length ≤ 1000000) (hs : zs.Pairwise (· < ·)) (d : Int) : AFn Tryz.prog 53 [.own 0 zs.length 0 zs.length, .int .i64 d] [.live 3 1 (numsE .i64 zs)]
    (fun v rs => v = .own 0 (insM d zs).length 0 (insM d zs).length ∧ rs = [.live 3 1 (numsE .i64 (insM d zs))]) := by
  refine afn Tryz.func53 a53_ok (by simp [a53, s53]) ?_
  simp only [go_sem,a53,s53]
  refine avc_loop (fun env rows => ∃ k : Nat, k ≤ zs.length ∧ (∀ q (h : q < zs.length), k ≤ q → d ≤ zs[q]) ∧ env = [(0, .own 0 zs.length 0 zs.length), (1, .int .i64 d), (5, .int .i64 k)] ∧ rows = [.live 3 1 (numsE .i64 zs)])
    (fun env _ => match slot env 5 with | .int _ j => j.toNat | _ => 0) ?_ ?_
  · exact Cl.here ⟨zs.length, by omega, fun q h h2 => by omega, rfl, rfl⟩
  rintro env rows ⟨k, hk, hup, rfl, rfl⟩
  have hwk : IntKind.i64.wrap ((k : Int) + 1) = ((k + 1 : Nat) : Int) := by rw [wrap_i64 (by omega) (by omega)]; omega
  rcases Nat.eq_zero_or_pos k with hk0 | hk0
  · have hd : decide ((0 : Int) < k) = false := decide_eq_false (by omega)
    simp only [go_sem,a53,s53,hd]
    have hlow : ∀ j (hj : j < k) (hl : j < zs.length), zs[j] < d := fun j hj => by omega
    clear hd hk0
    generalize k = K at *
    by_cases hKl : K < zs.length
    · have e1 : decide ((K : Int) < (zs.length : Int)) = true := decide_eq_true (by omega)
      have z0 : (0 : Int) ≤ K := by omega
      have z1 : (K : Int) < zs.length := by omega
      have gz : (numsE .i64 zs).getD K [] = [.int .i64 zs[K]] := by rw [numsE_getD hKl, List.getD_eq_getElem?_getD, List.getElem?_eq_getElem hKl, Option.getD_some]
      rw [e1]
      by_cases heq : zs[K] = d
      · have e2 : (zs[K] == d) = true := beq_iff_eq.2 heq
        simp only [go_sem,z0,z1,gz,e2]
        rw [insM_eq hKl hlow heq]
        exact Cl.here ⟨rfl, rfl⟩
      · have e2 : (zs[K] == d) = false := beq_eq_false_iff_ne.2 heq
        have hlt : ∀ hKl : K < zs.length, d < zs[K] := fun h => by have := hup K h (by omega); omega
        simp only [go_sem,z0,z1,gz,e2]
        clear e1 e2 z0 z1 gz heq
        have hKz : K ≤ zs.length := hk
        have hwK : IntKind.i64.wrap ((K : Int) + 1) = ((K + 1 : Nat) : Int) := by rw [wrap_i64 (by omega) (by omega)]; omega
        have hl1 : (zs ++ [0]).length = zs.length + 1 := by simp
        have hk2 : K + (zs.length + 1 - K) = zs.length + 1 := by omega
        have hk3 : K + 1 + (zs.length + 1 - (K + 1)) = zs.length + 1 := by omega
        simp only [go_sem,hwK,hl1,hk2]
        repeat (refine And.intro (by first | rfl | omega) ?_)
        have hpart : List.take (min (List.take (zs.length + 1 - K) (List.drop K (zs ++ [0]))).length (zs.length + 1 - (K + 1))) (List.take (zs.length + 1 - K) (List.drop K (zs ++ [0]))) = zs.drop K := overL_part hKz (by simp only [List.length_take, List.length_drop, hl1]; omega) (by simp only [List.length_take, List.length_drop, hl1]; omega)
        rw [hpart]
        have hol := overL_length (z := (0 : Int)) hKz
        have hos := overL_set (z := (0 : Int)) (x := d) hKz
        generalize overL (zs ++ [0]) (K + 1) (zs.drop K) = ws at hol hos ⊢
        have hkw : K < ws.length := by omega
        have hgw : (numsE .i64 ws).getD K [] = [.int .i64 ws[K]] := by rw [numsE_getD hkw, List.getD_eq_getElem?_getD, List.getElem?_eq_getElem hkw, Option.getD_some]
        refine ⟨hol.symm, by omega, by omega, hol.symm, ?_⟩
        try simp only [Int.toNat_natCast]
        rw [hgw]
        simp only [go_sem,numsE_set,hos]
        have hins : insM d zs = zs.take K ++ d :: zs.drop K := insM_lt hKz hlow hlt
        have hwl : zs.length + 1 = (zs.take K ++ d :: zs.drop K).length := by rw [← hos, List.length_set, hol]
        rw [← hins] at hwl ⊢
        rw [hwl]
        (refine Cl.tr [some 0] [] rfl rfl (by simp only [go_sem] <;> rfl) ?_; simp only [go_sem])
        exact Cl.here ⟨rfl, rfl⟩
    · have e1 : decide ((K : Int) < (zs.length : Int)) = false := decide_eq_false (by omega)
      rw [e1]
      have hlt : ∀ hKl : K < zs.length, d < zs[K] := fun h => absurd h hKl
      simp only [go_sem]
      clear e1
      have hKz : K ≤ zs.length := hk
      have hwK : IntKind.i64.wrap ((K : Int) + 1) = ((K + 1 : Nat) : Int) := by rw [wrap_i64 (by omega) (by omega)]; omega
      have hl1 : (zs ++ [0]).length = zs.length + 1 := by simp
      have hk2 : K + (zs.length + 1 - K) = zs.length + 1 := by omega
      have hk3 : K + 1 + (zs.length + 1 - (K + 1)) = zs.length + 1 := by omega
      simp only [go_sem,hwK,hl1,hk2]
      repeat (refine And.intro (by first | rfl | omega) ?_)
      have hpart : List.take (min (List.take (zs.length + 1 - K) (List.drop K (zs ++ [0]))).length (zs.length + 1 - (K + 1))) (List.take (zs.length + 1 - K) (List.drop K (zs ++ [0]))) = zs.drop K := overL_part hKz (by simp only [List.length_take, List.length_drop, hl1]; omega) (by simp only [List.length_take, List.length_drop, hl1]; omega)
      rw [hpart]
      have hol := overL_length (z := (0 : Int)) hKz
      have hos := overL_set (z := (0 : Int)) (x := d) hKz
      generalize overL (zs ++ [0]) (K + 1) (zs.drop K) = ws at hol hos ⊢
      have hkw : K < ws.length := by omega
      have hgw : (numsE .i64 ws).getD K [] = [.int .i64 ws[K]] := by rw [numsE_getD hkw, List.getD_eq_getElem?_getD, List.getElem?_eq_getElem hkw, Option.getD_some]
      refine ⟨hol.symm, by omega, by omega, hol.symm, ?_⟩
      try simp only [Int.toNat_natCast]
      rw [hgw]
      simp only [go_sem,numsE_set,hos]
      have hins : insM d zs = zs.take K ++ d :: zs.drop K := insM_lt hKz hlow hlt
      have hwl : zs.length + 1 = (zs.take K ++ d :: zs.drop K).length := by rw [← hos, List.length_set, hol]
      rw [← hins] at hwl ⊢
      rw [hwl]
      (refine Cl.tr [some 0] [] rfl rfl (by simp only [go_sem] <;> rfl) ?_; simp only [go_sem])
      exact Cl.here ⟨rfl, rfl⟩
  · obtain ⟨k, rfl⟩ : ∃ j, k = j + 1 := ⟨k - 1, by omega⟩
    have hd : decide ((0 : Int) < ((k + 1 : Nat) : Int)) = true := decide_eq_true (by omega)
    have hws : IntKind.i64.wrap (((k + 1 : Nat) : Int) - 1) = k := by rw [wrap_i64 (by omega) (by omega)]; omega
    have y0 : (0 : Int) ≤ k := by omega
    have y1 : (k : Int) < zs.length := by omega
    have hkl : k < zs.length := by omega
    have hget : (numsE .i64 zs).getD k [] = [.int .i64 zs[k]] := by rw [numsE_getD hkl, List.getD_eq_getElem?_getD, List.getElem?_eq_getElem hkl, Option.getD_some]
    by_cases hgt : d ≤ zs[k]
    · have hdg : decide (d ≤ zs[k]) = true := decide_eq_true hgt
      simp only [go_sem,a53,s53,hd,hws,y0,y1,hget,hdg]
      refine Cl.here ⟨⟨k,by omega,fun q h hq => ?_,rfl,rfl⟩,by simp only [go_sem]; omega⟩
      by_cases hqk : q = k
      · subst hqk; exact hgt
      · exact hup q h (by omega)
    have hdg : decide (d ≤ zs[k]) = false := decide_eq_false hgt
    simp only [go_sem,a53,s53,hd,hws,y0,y1,hget,hdg]
    have hlow : ∀ j (hj : j < k + 1) (hl : j < zs.length), zs[j] < d := fun j hj hl => by
      by_cases hjk : j = k
      · subst hjk; omega
      · have := List.pairwise_iff_getElem.1 hs j k hl hkl (by omega); omega
    clear hd hws y0 y1 hget hdg hgt hk0 hkl
    generalize k + 1 = K at *
    by_cases hKl : K < zs.length
    · have e1 : decide ((K : Int) < (zs.length : Int)) = true := decide_eq_true (by omega)
      have z0 : (0 : Int) ≤ K := by omega
      have z1 : (K : Int) < zs.length := by omega
      have gz : (numsE .i64 zs).getD K [] = [.int .i64 zs[K]] := by rw [numsE_getD hKl, List.getD_eq_getElem?_getD, List.getElem?_eq_getElem hKl, Option.getD_some]
      rw [e1]
      by_cases heq : zs[K] = d
      · have e2 : (zs[K] == d) = true := beq_iff_eq.2 heq
        simp only [go_sem,z0,z1,gz,e2]
        rw [insM_eq hKl hlow heq]
        exact Cl.here ⟨rfl, rfl⟩
      · have e2 : (zs[K] == d) = false := beq_eq_false_iff_ne.2 heq
        have hlt : ∀ hKl : K < zs.length, d < zs[K] := fun h => by have := hup K h (by omega); omega
        simp only [go_sem,z0,z1,gz,e2]
        clear e1 e2 z0 z1 gz heq
        have hKz : K ≤ zs.length := hk
        have hwK : IntKind.i64.wrap ((K : Int) + 1) = ((K + 1 : Nat) : Int) := by rw [wrap_i64 (by omega) (by omega)]; omega
        have hl1 : (zs ++ [0]).length = zs.length + 1 := by simp
        have hk2 : K + (zs.length + 1 - K) = zs.length + 1 := by omega
        have hk3 : K + 1 + (zs.length + 1 - (K + 1)) = zs.length + 1 := by omega
        simp only [go_sem,hwK,hl1,hk2]
        repeat (refine And.intro (by first | rfl | omega) ?_)
        have hpart : List.take (min (List.take (zs.length + 1 - K) (List.drop K (zs ++ [0]))).length (zs.length + 1 - (K + 1))) (List.take (zs.length + 1 - K) (List.drop K (zs ++ [0]))) = zs.drop K := overL_part hKz (by simp only [List.length_take, List.length_drop, hl1]; omega) (by simp only [List.length_take, List.length_drop, hl1]; omega)
        rw [hpart]
        have hol := overL_length (z := (0 : Int)) hKz
        have hos := overL_set (z := (0 : Int)) (x := d) hKz
        generalize overL (zs ++ [0]) (K + 1) (zs.drop K) = ws at hol hos ⊢
        have hkw : K < ws.length := by omega
        have hgw : (numsE .i64 ws).getD K [] = [.int .i64 ws[K]] := by rw [numsE_getD hkw, List.getD_eq_getElem?_getD, List.getElem?_eq_getElem hkw, Option.getD_some]
        refine ⟨hol.symm, by omega, by omega, hol.symm, ?_⟩
        try simp only [Int.toNat_natCast]
        rw [hgw]
        simp only [go_sem,numsE_set,hos]
        have hins : insM d zs = zs.take K ++ d :: zs.drop K := insM_lt hKz hlow hlt
        have hwl : zs.length + 1 = (zs.take K ++ d :: zs.drop K).length := by rw [← hos, List.length_set, hol]
        rw [← hins] at hwl ⊢
        rw [hwl]
        (refine Cl.tr [some 0] [] rfl rfl (by simp only [go_sem] <;> rfl) ?_; simp only [go_sem])
        exact Cl.here ⟨rfl, rfl⟩
    · have e1 : decide ((K : Int) < (zs.length : Int)) = false := decide_eq_false (by omega)
      rw [e1]
      have hlt : ∀ hKl : K < zs.length, d < zs[K] := fun h => absurd h hKl
      simp only [go_sem]
      clear e1
      have hKz : K ≤ zs.length := hk
      have hwK : IntKind.i64.wrap ((K : Int) + 1) = ((K + 1 : Nat) : Int) := by rw [wrap_i64 (by omega) (by omega)]; omega
      have hl1 : (zs ++ [0]).length = zs.length + 1 := by simp
      have hk2 : K + (zs.length + 1 - K) = zs.length + 1 := by omega
      have hk3 : K + 1 + (zs.length + 1 - (K + 1)) = zs.length + 1 := by omega
      simp only [go_sem,hwK,hl1,hk2]
      repeat (refine And.intro (by first | rfl | omega) ?_)
      have hpart : List.take (min (List.take (zs.length + 1 - K) (List.drop K (zs ++ [0]))).length (zs.length + 1 - (K + 1))) (List.take (zs.length + 1 - K) (List.drop K (zs ++ [0]))) = zs.drop K := overL_part hKz (by simp only [List.length_take, List.length_drop, hl1]; omega) (by simp only [List.length_take, List.length_drop, hl1]; omega)
      rw [hpart]
      have hol := overL_length (z := (0 : Int)) hKz
      have hos := overL_set (z := (0 : Int)) (x := d) hKz
      generalize overL (zs ++ [0]) (K + 1) (zs.drop K) = ws at hol hos ⊢
      have hkw : K < ws.length := by omega
      have hgw : (numsE .i64 ws).getD K [] = [.int .i64 ws[K]] := by rw [numsE_getD hkw, List.getD_eq_getElem?_getD, List.getElem?_eq_getElem hkw, Option.getD_some]
      refine ⟨hol.symm, by omega, by omega, hol.symm, ?_⟩
      try simp only [Int.toNat_natCast]
      rw [hgw]
      simp only [go_sem,numsE_set,hos]
      have hins : insM d zs = zs.take K ++ d :: zs.drop K := insM_lt hKz hlow hlt
      have hwl : zs.length + 1 = (zs.take K ++ d :: zs.drop K).length := by rw [← hos, List.length_set, hol]
      rw [← hins] at hwl ⊢
      rw [hwl]
      (refine Cl.tr [some 0] [] rfl rfl (by simp only [go_sem] <;> rfl) ?_; simp only [go_sem])
      exact Cl.here ⟨rfl, rfl⟩

end Go.Proofs.YtpincjkjoeopkaaGreatDoor
