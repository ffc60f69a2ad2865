/- F4Lve, F0Uq, F5Lve, F6Lve joined. -/
import Derived.Test.YtpincjkjoeopkaaGreatDoorF3Evt
import Derived.Test.YtpincjkjoeopkaaGreatDoorF3Sort
set_option linter.unusedSimpArgs false
set_option linter.unusedVariables false
set_option linter.unusedSectionVars false
section
/- Leave accounts at the rules of TopLeave: the eventful days. -/
namespace Go.Proofs.YtpincjkjoeopkaaGreatDoor
open Go Go.Abs
set_option linter.unusedSimpArgs false
set_option linter.unusedVariables false

def lvR : List AVal := [.int .i64 1000, .int .i64 100000, .int .i64 12, .int .i64 28, .int .i64 100000, .int .i64 20454, .int .i64 20494, .int .i64 0]
def lvRow : Row := .live 99 8 [lvR]
theorem lwithin_ok (n a b : Int) : AFn Tryz.prog 100 [.int .i64 n, .int .i64 a, .int .i64 b] [] (fun v rs => v = .bool (decide (a ≤ n ∧ n ≤ b)) ∧ rs = []) := by
  refine afn Tryz.func100 a100_ok (by simp [a100, s100]) ?_
  by_cases h1 : a ≤ n
  · by_cases h2 : n ≤ b
    · simp only [go_sem,a100,s100,h1,h2]
      exact Cl.fin rfl ⟨rfl, rfl⟩
    · have d1 : decide (a ≤ n) = true := decide_eq_true h1
      have d2 : decide (n ≤ b) = false := decide_eq_false h2
      simp only [go_sem,a100,s100,d1,d2]
      exact Cl.fin rfl ⟨by rw [decide_eq_false (fun h : a ≤ n ∧ n ≤ b => h2 h.2)], rfl⟩
  · have d1 : decide (a ≤ n) = false := decide_eq_false h1
    simp only [go_sem,a100,s100,d1]
    exact Cl.fin rfl ⟨by rw [decide_eq_false (fun h : a ≤ n ∧ n ≤ b => h1 h.1)], rfl⟩
theorem delFn : fnOk Tryz.prog 185 := ⟨_, Tryz.func185, by kernel_rfl⟩
theorem del_ok (d : Int) : AFn Tryz.prog 185 [.int .i64 d, .ref 0 1 0 0, .ref 1 1 0 0] [lvRow, .live 3 1 [[.int .i64 20484]]] (fun v rs => v = .bool (!decide (20454 ≤ d ∧ d ≤ 20484)) ∧ rs = [lvRow, .live 3 1 [[.int .i64 20484]]]) := by
  refine afn Tryz.func185 a185_ok (by simp [a185, s185]) ?_
  unfold lvRow lvR
  simp only [go_sem,a185,s185]
  refine callC_det (lwithin_ok d 20454 20484) rfl rfl ?_
  simp only [go_sem]
  exact Cl.here ⟨rfl, rfl⟩
/-- days that are deleted, at the front -/
def dD (E : List Int) : List Int := 20423 :: 20451 :: E
def dRows (D : List Int) : List Row := [.live 3 1 (numsE .i64 D), lvRow, .live 3 1 [[.int .i64 20484]]]
theorem index_ok (E : List Int) (hl : E.length ≤ 1000) : AFn Tryz.prog 249 [.own 0 (E.length + 2) 0 (E.length + 2), .fn 185 [.ref 1 1 0 0, .ref 2 1 0 0]] (dRows (dD E)) (fun v rs => v = .int .i64 0 ∧ rs = dRows (dD E)) := by
  refine afn Tryz.func249 a249_ok (by simp [a249, s249]) ?_
  have hL : (numsE .i64 (dD E)).length = E.length + 2 := by rw [numsE_length]; rfl
  unfold dRows
  have hD := del_ok 20423
  unfold lvRow lvR at *
  simp only [go_sem,a249,s249,hL]
  refine avc_loop (fun env rows => env = [(0, .own 0 (E.length + 2) 0 (E.length + 2)), (1, .fn 185 [.ref 1 1 0 0, .ref 2 1 0 0]), (7, .int .i64 ((E.length + 2 : Nat) : Int)), (8, .int .i64 0)] ∧ rows = [.live 3 1 (numsE .i64 (dD E)), .live 99 8 [[.int .i64 1000, .int .i64 100000, .int .i64 12, .int .i64 28, .int .i64 100000, .int .i64 20454, .int .i64 20494, .int .i64 0]], .live 3 1 [[.int .i64 20484]]])
    (fun env _ => 0) ?_ ?_
  · exact Cl.here ⟨rfl, rfl⟩
  rintro env rows ⟨rfl, rfl⟩
  have h1 : decide ((0 : Int) < ((E.length + 2 : Nat) : Int)) = true := decide_eq_true (by omega)
  have h2 : (0 : Int) < ((E.length + 2 : Nat) : Int) := by omega
  have hg : (numsE .i64 (dD E)).getD 0 [] = [.int .i64 20423] := rfl
  simp only [go_sem,a249,s249,h1,h2,hL,hg]
  refine ⟨delFn, ?_⟩
  (refine callC_of [1,2] [] (by decide) (by simp only [go_sem] <;> rfl) (by simp only [go_sem] <;> rfl) (hD) ?_; rintro _ _ ⟨rfl,rfl⟩; refine ⟨.inl rfl,?_⟩; simp only [go_sem])
  exact Cl.here ⟨rfl, rfl⟩
/-- the list while days are deleted, k of E kept -/
def dL (E : List Int) (k : Nat) : List Int := E.take k ++ (dD E).drop k
theorem dL_len (E : List Int) {k : Nat} (hk : k ≤ E.length) : (dL E k).length = E.length + 2 := by
  unfold dL dD; simp; omega
theorem dL_get {E : List Int} {k : Nat} (hk : k < E.length) : (numsE .i64 (dL E k)).getD (k + 2) [] = [.int .i64 E[k]] := by
  rw [numsE_getD (by rw [dL_len E (by omega)]; omega)]
  congr 2
  unfold dL dD
  rw [List.getD_eq_getElem?_getD, List.getElem?_append_right (by simp; omega), List.getElem?_drop]
  rw [show k + (k + 2 - (List.take k E).length) = k + 2 by simp; omega]
  simp [hk]
theorem dL_set {E : List Int} {k : Nat} (hk : k < E.length) : (dL E k).set k E[k] = dL E (k + 1) := by
  unfold dL
  rw [List.set_append_right _ _ (by simp; omega), List.take_succ_eq_append_getElem hk, List.append_assoc]
  congr 1
  rw [show k - (List.take k E).length = 0 by simp; omega]
  have h : k < (dD E).length := by unfold dD; simp; omega
  rw [List.drop_eq_getElem_cons h]
  rfl
theorem delete_ok (E : List Int) (hl : E.length ≤ 1000) (hE : ∀ d ∈ E, 20454 ≤ d ∧ d ≤ 20484) : AFn Tryz.prog 184 [.own 0 (E.length + 2) 0 (E.length + 2), .fn 185 [.ref 1 1 0 0, .ref 2 1 0 0]] (dRows (dD E)) (fun v rs => v = .own 0 (E.length + 2) 0 E.length ∧ rs = dRows (E ++ [0, 0])) := by
  refine afn Tryz.func184 a184_ok (by simp [a184, s184]) ?_
  have hI := index_ok E hl
  have hD := del_ok
  unfold dRows lvRow lvR at *
  simp only [go_sem,a184,s184]
  (refine callC_of [0,1,2] [] (by decide) (by simp only [go_sem] <;> rfl) (by simp only [go_sem] <;> rfl) (hI) ?_; rintro _ _ ⟨rfl,rfl⟩; refine ⟨.inl rfl,?_⟩; simp only [go_sem])
  refine avc_loop (fun env rows => ∃ s : Nat, s ≤ E.length + 1 ∧ env = [(0, .own 0 (E.length + 2) 0 (E.length + 2)), (1, .fn 185 [.ref 1 1 0 0, .ref 2 1 0 0]), (5, .int .i64 ((s - 1 : Nat) : Int)), (6, .int .i64 ((s + 1 : Nat) : Int))] ∧ rows = [.live 3 1 (numsE .i64 (dL E (s - 1))), .live 99 8 [[.int .i64 1000, .int .i64 100000, .int .i64 12, .int .i64 28, .int .i64 100000, .int .i64 20454, .int .i64 20494, .int .i64 0]], .live 3 1 [[.int .i64 20484]]])
    (fun env _ => match slot env 6 with | .int _ j => ((E.length + 2 : Nat) - j).toNat | _ => 0) ?_ ?_
  · exact Cl.here ⟨0, by omega, rfl, rfl⟩
  rintro env rows ⟨s, hs, rfl, rfl⟩
  have hL : (numsE .i64 (dL E (s - 1))).length = E.length + 2 := by rw [numsE_length, dL_len E (by omega)]
  have hw : IntKind.i64.wrap (((s + 1 : Nat) : Int) + 1) = ((s + 1 + 1 : Nat) : Int) := by rw [wrap_i64 (by omega) (by omega)]; omega
  by_cases hlt : s < E.length + 1
  rotate_left
  · have h1 : decide (((s + 1 : Nat) : Int) < ((E.length + 2 : Nat) : Int)) = false := decide_eq_false (by omega)
    obtain rfl : s = E.length + 1 := by omega
    rw [show E.length + 1 - 1 = E.length by omega] at *
    have ho : over (numsE .i64 (dL E E.length)) E.length (List.replicate (E.length + 2 - E.length) [.int .i64 0]) = numsE .i64 (E ++ [0, 0]) := by
      rw [show E.length + 2 - E.length = 2 by omega]
      unfold over
      rw [numsE_take, numsE_drop]
      unfold dL
      rw [List.take_length, List.take_left', List.drop_of_length_le (by unfold dD; simp; omega)]
      · simp [numsE]
      · rfl
    simp only [go_sem,a184,s184,h1,hL]
    rw [ho]
    refine ⟨by omega, by omega, by omega, by omega, by omega, by omega, by rw [numsE_length]; simp, ?_⟩
    exact Cl.here ⟨rfl, rfl⟩
  have h1 : decide (((s + 1 : Nat) : Int) < ((E.length + 2 : Nat) : Int)) = true := decide_eq_true (by omega)
  have z0 : (0 : Int) ≤ ((s + 1 : Nat) : Int) := by omega
  have z1 : ((s + 1 : Nat) : Int) < ((E.length + 2 : Nat) : Int) := by omega
  cases s with
  | zero =>
    have hg : (numsE .i64 (dL E 0)).getD 1 [] = [.int .i64 20451] := rfl
    have h1' : decide ((1 : Int) < ((E.length + 2 : Nat) : Int)) = true := decide_eq_true (by omega)
    have z1' : (1 : Int) < ((E.length + 2 : Nat) : Int) := by omega
    have hL' : (numsE .i64 (dL E 0)).length = E.length + 2 := hL
    have hw' : IntKind.i64.wrap (1 + 1) = ((1 + 1 : Nat) : Int) := hw
    have hD1 := hD 20451
    simp only [go_sem,a184,s184,h1',z1',hL',hg]
    refine ⟨delFn, ?_⟩
    (refine callC_of [1,2] [] (by decide) (by simp only [go_sem] <;> rfl) (by simp only [go_sem] <;> rfl) (hD1) ?_; rintro _ _ ⟨rfl,rfl⟩; refine ⟨.inl rfl,?_⟩; simp only [go_sem])
    rw [hw']
    refine Cl.here ⟨⟨1, by omega, rfl, rfl⟩, ?_⟩
    simp only [go_sem]
    omega
  | succ k =>
    rw [show k + 1 - 1 = k by omega] at *
    have hg := dL_get (E := E) (k := k) (by omega)
    have hb := hE E[k] (List.getElem_mem _)
    have hDk := hD E[k]
    rw [decide_eq_true hb] at hDk
    have hst := dL_set (E := E) (k := k) (by omega)
    generalize hx : E[k] = x at *
    have hw5 : IntKind.i64.wrap ((k : Int) + 1) = ((k + 1 : Nat) : Int) := by rw [wrap_i64 (by omega) (by omega)]; omega
    have y0 : (0 : Int) ≤ k := by omega
    have y1 : (k : Int) < ((E.length + 2 : Nat) : Int) := by omega
    simp only [go_sem,a184,s184,h1,z0,z1,hL,hg]
    refine ⟨delFn, ?_⟩
    (refine callC_of [1,2] [] (by decide) (by simp only [go_sem] <;> rfl) (by simp only [go_sem] <;> rfl) (hDk) ?_; rintro _ _ ⟨rfl,rfl⟩; refine ⟨.inl rfl,?_⟩; simp only [go_sem])
    have hdr : List.drop 1 ((numsE .i64 (dL E k)).getD k []) = [] := by rw [numsE_getD (by rw [dL_len E (by omega)]; omega)]; rfl
    simp only [go_sem,a184,s184,hL,y0,y1,Int.toNat_natCast,hdr,numsE_set,hst,hw5,hw]
    refine ⟨(dL_len E (by omega)).symm, (dL_len E (by omega)).symm, ?_⟩
    refine Cl.here ⟨⟨k + 1 + 1, by omega, rfl, rfl⟩, ?_⟩
    simp only [go_sem]
    omega

end Go.Proofs.YtpincjkjoeopkaaGreatDoor
end

section
/- Sorted lists without repetitions. -/
namespace Go.Proofs.YtpincjkjoeopkaaGreatDoor
open Go Go.Abs
set_option linter.unusedSimpArgs false
set_option linter.unusedVariables false

theorem compact_up {d : Array Int} (hs : ∀ i j, i ≤ j → j < d.size → d[i]! ≤ d[j]!) : ∀ m, m ≤ d.size → (Lib.compactUpTo d m).Pairwise (· < ·) ∧ ∀ x, x ∈ Lib.compactUpTo d m ↔ ∃ j, j < m ∧ d[j]! = x
  | 0, _ => by simp [Lib.compactUpTo]
  | m + 1, hm => by
    obtain ⟨h1, h2⟩ := compact_up hs m (by omega)
    rw [Lib.compactUpTo_succ]
    by_cases hk : Lib.keeps d m = true
    · rw [if_pos hk]
      refine ⟨?_, fun x => ?_⟩
      · rw [List.pairwise_append]
        refine ⟨h1, by simp, fun a ha b hb => ?_⟩
        rw [List.mem_singleton] at hb
        subst hb
        obtain ⟨j, hj, rfl⟩ := (h2 a).1 ha
        have e1 := hs j (m - 1) (by omega) (by omega)
        have e2 := hs (m - 1) m (by omega) (by omega)
        simp only [Lib.keeps, decide_eq_true_eq] at hk
        rcases hk with hk | hk
        · omega
        · omega
      · rw [List.mem_append, h2, List.mem_singleton]
        constructor
        · rintro (⟨j, hj, rfl⟩ | rfl)
          · exact ⟨j, by omega, rfl⟩
          · exact ⟨m, by omega, rfl⟩
        · rintro ⟨j, hj, rfl⟩
          by_cases hjm : j = m
          · right; rw [hjm]
          · left; exact ⟨j, by omega, rfl⟩
    · rw [if_neg hk, List.append_nil]
      refine ⟨h1, fun x => ?_⟩
      rw [h2]
      simp only [Lib.keeps, decide_eq_true_eq, not_or, Decidable.not_not] at hk
      constructor
      · rintro ⟨j, hj, rfl⟩
        exact ⟨j, by omega, rfl⟩
      · rintro ⟨j, hj, rfl⟩
        by_cases hjm : j = m
        · exact ⟨m - 1, by omega, by rw [hjm]; exact hk.2.symm⟩
        · exact ⟨j, by omega, rfl⟩

theorem srt_sorted (zs : List Int) : (srt zs).Pairwise (· ≤ ·) := by
  have := List.pairwise_mergeSort (le := fun x y : Int => decide (x ≤ y)) (by simp; omega) (by simp; omega) zs
  unfold srt
  exact this.imp (by simp)
theorem srt_mem (zs : List Int) (x : Int) : x ∈ srt zs ↔ x ∈ zs := by unfold srt; exact List.mem_mergeSort
def uq (zs : List Int) : List Int := Lib.compact (srt zs)
theorem uq_spec (zs : List Int) : (uq zs).Pairwise (· < ·) ∧ ∀ x, x ∈ uq zs ↔ x ∈ zs := by
  have hs : ∀ i j, i ≤ j → j < (srt zs).toArray.size → (srt zs).toArray[i]! ≤ (srt zs).toArray[j]! := by
    intro i j hij hj
    have hj' : j < (srt zs).length := by simpa using hj
    have hi' : i < (srt zs).length := by omega
    rw [getElem!_pos _ i (by simpa using hi'), getElem!_pos _ j (by simpa using hj')]
    simp only [List.getElem_toArray]
    rcases Nat.eq_or_lt_of_le hij with rfl | hlt
    · omega
    · exact List.pairwise_iff_getElem.1 (srt_sorted zs) i j hi' hj' hlt
  obtain ⟨h1, h2⟩ := compact_up hs (srt zs).length (by simp)
  refine ⟨h1, fun x => ?_⟩
  unfold uq Lib.compact
  rw [h2, ← srt_mem zs x, List.mem_iff_getElem]
  constructor
  · rintro ⟨j, hj, rfl⟩
    exact ⟨j, hj, by rw [getElem!_pos _ j (by simpa using hj)]; simp⟩
  · rintro ⟨j, hj, rfl⟩
    exact ⟨j, hj, by rw [getElem!_pos _ j (by simpa using hj)]; simp⟩
theorem strict_eq {a b : List Int} (ha : a.Pairwise (· < ·)) (hb : b.Pairwise (· < ·)) (hm : ∀ x, x ∈ a ↔ x ∈ b) : a = b := by
  have hp : a.Perm b := (List.perm_ext_iff_of_nodup (ha.imp fun h => Int.ne_of_lt h) (hb.imp fun h => Int.ne_of_lt h)).2 hm
  exact hp.eq_of_pairwise (le := fun a b : Int => a ≤ b) (fun a b _ _ h1 h2 => by omega) (ha.imp fun h => Int.le_of_lt h) (hb.imp fun h => Int.le_of_lt h)

end Go.Proofs.YtpincjkjoeopkaaGreatDoor
end

section
/- Leave accounts: the sums of bookings, the eventful days. -/
namespace Go.Proofs.YtpincjkjoeopkaaGreatDoor
open Go Go.Abs
set_option linter.unusedSimpArgs false
set_option linter.unusedVariables false

/-- a booking -/
structure Bo where
  day : Int
  min : Int
instance : Cel Bo := ⟨fun a => [.int .i64 a.day, .int .i64 a.min], 2, fun _ => rfl, fun _ => rfl, fun _ => rfl⟩
instance : Flt Bo := ⟨fun _ => rfl⟩
theorem cel_bo (e : Bo) : Cel.c e = [.int .i64 e.day, .int .i64 e.min] := rfl
theorem cel_bo_sz : Cel.sz Bo = 2 := rfl
theorem cel_bo_take (e : Bo) : List.take 2 (Cel.c e) = Cel.c e := rfl
attribute [go_sem] cel_bo_sz cel_bo_take mapI_clean
def boM (l : List Bo) : List (Int × Int) := l.map fun b => (b.day, b.min)
/-- bookings in the order of their days -/
def boG (l : List Bo) : Prop := l.Pairwise (fun a b => a.day < b.day) ∧ ∀ b ∈ l, 20454 ≤ b.day ∧ b.day ≤ 20458 ∧ 1 ≤ b.min ∧ b.min ≤ 10000
theorem boG_len {l : List Bo} (h : boG l) : l.length ≤ 5 := by
  have hnd : (l.map Bo.day).Nodup := (List.pairwise_map.2 (h.1.imp fun h => Int.ne_of_lt h))
  have := hnd.length_le_of_subset (l₂ := [20454, 20455, 20456, 20457, 20458]) (fun x hx => by
    obtain ⟨b, hb, rfl⟩ := List.mem_map.1 hx
    have := h.2 b hb
    simp; omega)
  simpa using this
theorem putI_new {k v : Int} : ∀ {l : List (Int × Int)}, (∀ p ∈ l, p.1 ≠ k) → putI k v l = l ++ [(k, v)]
  | [], _ => rfl
  | p :: l, h => by
    have h1 : (k == p.1) = false := beq_eq_false_iff_ne.2 fun e => h p List.mem_cons_self e.symm
    rw [putI, h1]
    simp only [Bool.false_eq_true, if_false, List.cons_append]
    rw [putI_new fun q hq => h q (List.mem_cons_of_mem _ hq)]
theorem look_new {k : Int} {l : List (Int × Int)} (h : ∀ p ∈ l, p.1 ≠ k) : Abs.look l k = none := by
  unfold Abs.look
  rw [List.find?_eq_none.2 fun p hp => by simpa using fun e => h p hp e.symm]; rfl
theorem boM_take {l : List Bo} {i : Nat} (h : boG l) (hi : i < l.length) : (∀ p ∈ boM (l.take i), p.1 ≠ l[i].day) ∧ boM (l.take i) ++ [(l[i].day, l[i].min)] = boM (l.take (i + 1)) := by
  refine ⟨fun p hp => ?_, ?_⟩
  · obtain ⟨b, hb, rfl⟩ := List.mem_map.1 hp
    obtain ⟨j, hj, rfl⟩ := List.getElem_of_mem hb
    rw [List.length_take] at hj
    rw [List.getElem_take]
    have := List.pairwise_iff_getElem.1 h.1 j i (by omega) hi (by omega)
    simp only; omega
  · unfold boM
    rw [List.take_succ_eq_append_getElem hi, List.map_append]; rfl
theorem lsums_ok (l : List Bo) (h : boG l) : AFn Tryz.prog 101 [.pure 2 (els l)] [] (fun v rs => v = .mref 0 ∧ rs = [.obj (.map false [.int .i64] (mapI (boM l)))]) := by
  have hl := boG_len h
  refine afn Tryz.func101 a101_ok (by simp [a101, s101]) ?_
  simp only [go_sem,a101,s101,els_length]
  refine avc_loop (fun env rows => ∃ i : Nat, i ≤ l.length ∧ env = [(3, .mref 0), (7, .pure 2 (els l)), (8, .int .i64 l.length), (9, .int .i64 i)] ∧ rows = [.obj (.map false [.int .i64] (mapI (boM (l.take i))))])
    (fun env _ => match slot env 9 with | .int _ j => (l.length - j).toNat | _ => 0) ?_ ?_
  · exact Cl.here ⟨0, by omega, rfl, rfl⟩
  rintro env rows ⟨i, hi, rfl, rfl⟩
  have hw : IntKind.i64.wrap ((i : Int) + 1) = ((i + 1 : Nat) : Int) := by rw [wrap_i64 (by omega) (by omega)]; omega
  by_cases hlt : i < l.length
  rotate_left
  · have h1 : decide ((i : Int) < l.length) = false := decide_eq_false (by omega)
    obtain rfl : i = l.length := by omega
    simp only [go_sem,a101,s101,h1]
    try rw [List.take_length]
    exact Cl.here ⟨rfl, rfl⟩
  have h1 : decide ((i : Int) < l.length) = true := decide_eq_true (by omega)
  have z0 : (0 : Int) ≤ i := by omega
  have z1 : (i : Int) < l.length := by omega
  have hg : (els l).getD i [] = Cel.c l[i] := els_getD hlt
  obtain ⟨hn, hs⟩ := boM_take h hlt
  have hb := h.2 l[i] (List.getElem_mem hlt)
  generalize l[i] = b at *
  have hk : (kfind (.int .i64 b.day) (mapI (boM (l.take i)))) = none := by rw [kfind_mapI, look_new hn]; rfl
  have hp : kput (.int .i64 b.day) (.int .i64 b.min) (mapI (boM (l.take i))) = mapI (boM (l.take (i + 1))) := by rw [kput_mapI, putI_new hn, hs]
  have hw2 : IntKind.i64.wrap (0 + b.min) = b.min := by rw [wrap_i64 (by omega) (by omega)]; omega
  simp only [go_sem,a101,s101,h1,z0,z1,hg,els_length,cel_bo,hk,Option.getD_none,hw2,hp,hw]
  (refine Cl.tr [some 0] [] rfl rfl (by simp only [go_sem] <;> rfl) ?_; simp only [go_sem])
  refine Cl.here ⟨⟨i + 1, by omega, rfl, rfl⟩, ?_⟩
  simp only [go_sem]
  omega

theorem boM_len {l : List Bo} : (mapI (boM l)).length = l.length := by simp [mapI, boM]
def dayAt (l : List Bo) (s : Nat) : Int := ((boM l).getD s (0, 0)).1
/-- the eventful days -/
def evD (l : List Bo) : List Int := uq ([20454, 20482] ++ l.map Bo.day)
theorem evD_perm {l : List Bo} {seen : List Nat} (hnd : seen.Nodup) (hsn : ∀ s ∈ seen, s < l.length) (hall : ∀ i, i < l.length → i ∈ seen) : List.Perm (seen.map (dayAt l)) (l.map Bo.day) := by
  have hp : seen.Perm (List.range l.length) := (List.perm_ext_iff_of_nodup hnd List.nodup_range).2 fun x => ⟨fun hx => List.mem_range.2 (hsn x hx), fun hx => hall x (List.mem_range.1 hx)⟩
  refine (hp.map _).trans ?_
  have : (List.range l.length).map (dayAt l) = l.map Bo.day := by
    refine List.ext_getElem (by simp) fun i h1 h2 => ?_
    have hi : i < l.length := by simpa using h2
    simp [dayAt, boM, hi]
  rw [this]
theorem evD_eq {l : List Bo} {S : List Int} (h : S.Perm (l.map Bo.day)) : uq ([20454, 20482] ++ S) = evD l := by
  unfold evD
  refine strict_eq (uq_spec _).1 (uq_spec _).1 fun x => ?_
  rw [(uq_spec _).2, (uq_spec _).2, List.mem_append, List.mem_append, h.mem_iff]
theorem month0_ok : AFn Tryz.prog 106 [.int .i64 20454] [] (fun v rs => v = .int .i64 672 ∧ rs = []) :=
  run_afn (T := tab) (L := leaves) 60 [(.int .i64 672, [])] (by kernel_rfl) (by intro o h; rw [List.mem_singleton] at h; subst h; exact ⟨rfl, rfl⟩)
theorem month1_ok : AFn Tryz.prog 106 [.int .i64 20484] [] (fun v rs => v = .int .i64 672 ∧ rs = []) :=
  run_afn (T := tab) (L := leaves) 60 [(.int .i64 672, [])] (by kernel_rfl) (by intro o h; rw [List.mem_singleton] at h; subst h; exact ⟨rfl, rfl⟩)
theorem first0_ok : AFn Tryz.prog 107 [.int .i64 671] [] (fun v rs => v = .tup [.int .i64 20423, .bool true] ∧ rs = []) :=
  run_afn (T := tab) (L := leaves) 60 [(.tup [.int .i64 20423, .bool true], [])] (by kernel_rfl) (by intro o h; rw [List.mem_singleton] at h; subst h; exact ⟨rfl, rfl⟩)
theorem first1_ok : AFn Tryz.prog 107 [.int .i64 672] [] (fun v rs => v = .tup [.int .i64 20454, .bool true] ∧ rs = []) :=
  run_afn (T := tab) (L := leaves) 60 [(.tup [.int .i64 20454, .bool true], [])] (by kernel_rfl) (by intro o h; rw [List.mem_singleton] at h; subst h; exact ⟨rfl, rfl⟩)
def fD : List Int := [20423, 20451, 20454, 20482]
theorem eventful_ok (l : List Bo) (h : boG l) : AFn Tryz.prog 103 [.agg lvR, .mref 0, .int .i64 20484] [.obj (.map false [.int .i64] (mapI (boM l)))]
    (fun v rs => v = .own 1 (evD l).length 0 (evD l).length ∧ rs = [.obj (.map false [.int .i64] (mapI (boM l))), .live 3 1 (numsE .i64 (evD l))]) := by
  have hl := boG_len h
  refine afnW Tryz.func103 a103_ok (by simp [a103, s103]) ?_
  unfold lvR
  simp only [go_sem,a103,s103]
  (refine Cl.here ?_; simp only [go_sem])
  (refine Cl.here ?_; simp only [go_sem])
  refine callC_det month0_ok rfl rfl ?_
  simp only [go_sem]
  rw [show max (IntKind.i64.wrap (672 - 1)) 0 = 671 from by decide]
  (refine Cl.here ?_; simp only [go_sem])
  refine avcW_loop (fun env rows => (env = [(1, .mref 0), (3, .ref 1 1 0 0), (5, .ref 2 1 0 0), (7, .own 3 0 0 0), (8, .int .i64 671)] ∧ rows = [.obj (.map false [.int .i64] (mapI (boM l))), .live 99 8 [[.int .i64 1000, .int .i64 100000, .int .i64 12, .int .i64 28, .int .i64 100000, .int .i64 20454, .int .i64 20494, .int .i64 0]], .live 3 1 [[.int .i64 20484]], .live 3 1 []]) ∨ (env = [(1, .mref 0), (3, .ref 1 1 0 0), (5, .ref 2 1 0 0), (7, .own 3 2 0 2), (8, .int .i64 672)] ∧ rows = [.obj (.map false [.int .i64] (mapI (boM l))), .live 99 8 [[.int .i64 1000, .int .i64 100000, .int .i64 12, .int .i64 28, .int .i64 100000, .int .i64 20454, .int .i64 20494, .int .i64 0]], .live 3 1 [[.int .i64 20484]], .live 3 1 [[.int .i64 20423], [.int .i64 20451]]]) ∨ (env = [(1, .mref 0), (3, .ref 1 1 0 0), (5, .ref 2 1 0 0), (7, .own 3 4 0 4), (8, .int .i64 673)] ∧ rows = [.obj (.map false [.int .i64] (mapI (boM l))), .live 99 8 [[.int .i64 1000, .int .i64 100000, .int .i64 12, .int .i64 28, .int .i64 100000, .int .i64 20454, .int .i64 20494, .int .i64 0]], .live 3 1 [[.int .i64 20484]], .live 3 1 [[.int .i64 20423], [.int .i64 20451], [.int .i64 20454], [.int .i64 20482]]]))
    (fun env _ => match slot env 8 with | .int _ j => (673 - j).toNat | _ => 0) ?_ ?_
  · (refine Cl.ghost 7  3  1 rfl (Cl.norm [ 1,3,5,7,8] ?_); simp only [go_sem])
    exact Cl.here (.inl ⟨rfl, rfl⟩)
  · have w1 : IntKind.i64.wrap (20423 + 28) = 20451 := by decide
    have w2 : IntKind.i64.wrap (20454 + 28) = 20482 := by decide
    have w3 : IntKind.i64.wrap (671 + 1) = 672 := by decide
    have w4 : IntKind.i64.wrap (672 + 1) = 673 := by decide
    rintro env rows (⟨rfl, rfl⟩ | ⟨rfl, rfl⟩ | ⟨rfl, rfl⟩)
    · simp only [go_sem,a103,s103]
      refine callC_det month1_ok rfl rfl ?_
      simp only [go_sem]
      (refine Cl.here ?_; simp only [go_sem])
      (refine Cl.here ?_; simp only [go_sem])
      refine callC_det first0_ok rfl rfl ?_
      simp only [go_sem]
      (refine Cl.here ?_; simp only [go_sem])
      (refine Cl.here ?_; simp only [go_sem])
      simp only [go_sem,w1]
      (refine Cl.tr [some 0,some 1,some 2,some 3] [] rfl rfl (by simp only [go_sem] <;> rfl) ?_; simp only [go_sem])
      (refine Cl.here ?_; simp only [go_sem])
      rw [w3]
      refine Cl.here ⟨.inr (.inl ⟨rfl, rfl⟩), ?_⟩
      simp only [go_sem]
      decide
    · simp only [go_sem,a103,s103]
      refine callC_det month1_ok rfl rfl ?_
      simp only [go_sem]
      (refine Cl.here ?_; simp only [go_sem])
      (refine Cl.here ?_; simp only [go_sem])
      refine callC_det first1_ok rfl rfl ?_
      simp only [go_sem]
      (refine Cl.here ?_; simp only [go_sem])
      (refine Cl.here ?_; simp only [go_sem])
      simp only [go_sem,w2]
      (refine Cl.tr [some 0,some 1,some 2,some 3] [] rfl rfl (by simp only [go_sem] <;> rfl) ?_; simp only [go_sem])
      (refine Cl.here ?_; simp only [go_sem])
      rw [w4]
      refine Cl.here ⟨.inr (.inr ⟨rfl, rfl⟩), ?_⟩
      simp only [go_sem]
      decide
    · simp only [go_sem,a103,s103]
      refine callC_det month1_ok rfl rfl ?_
      simp only [go_sem]
      (refine Cl.here ?_; simp only [go_sem])
      (refine Cl.here ?_; simp only [go_sem])
      (refine Cl.here ?_; simp only [go_sem])
      refine avcW_loop (fun env rows => ∃ seen : List Nat, seen.Nodup ∧ (∀ s ∈ seen, s < l.length) ∧ env = [(3, .ref 1 1 0 0), (5, .ref 2 1 0 0), (7, .own 3 (4 + seen.length) 0 (4 + seen.length)), (38, .itref 4 0)] ∧ rows = [.obj (.map false [.int .i64] (mapI (boM l))), .live 99 8 [[.int .i64 1000, .int .i64 100000, .int .i64 12, .int .i64 28, .int .i64 100000, .int .i64 20454, .int .i64 20494, .int .i64 0]], .live 3 1 [[.int .i64 20484]], .live 3 1 (numsE .i64 (fD ++ seen.map (dayAt l))), .obj (.iter l.length seen)])
        (fun _ rows => match rows with | [_, _, _, _, .obj (.iter n s)] => n - s.length | _ => 0) ?_ ?_
      · refine Cl.here ⟨[], List.nodup_nil, by simp, rfl, ?_⟩
        rw [boM_len]; rfl
      rintro env rows ⟨seen, hnd, hsn, rfl, rfl⟩
      simp only [go_sem,a103,s103]
      unfold nextC evNext
      simp only [List.getElem?_cons_zero, List.getElem?_cons_succ]
      refine ⟨boM_len.symm, by decide, fun hall => ?_, fun j hj hjs => ?_⟩
      · have hE : List.Perm (seen.map (dayAt l)) (l.map Bo.day) := evD_perm hnd hsn hall
        have hd : fD ++ seen.map (dayAt l) = dD ([20454, 20482] ++ seen.map (dayAt l)) := rfl
        have hev : uq ([20454, 20482] ++ seen.map (dayAt l)) = evD l := evD_eq hE
        have hel : ([20454, 20482] ++ seen.map (dayAt l)).length = seen.length + 2 := by simp
        have hsl : seen.length ≤ 5 := by have := hE.length_eq; simp at this; omega
        have hEb : ∀ d ∈ [20454, 20482] ++ seen.map (dayAt l), 20454 ≤ d ∧ d ≤ 20484 := fun d hd => by
          rcases List.mem_append.1 hd with hd | hd
          · simp only [List.mem_cons, List.not_mem_nil, or_false] at hd; omega
          · obtain ⟨b, hb, rfl⟩ := List.mem_map.1 (hE.mem_iff.1 hd)
            have := h.2 b hb; omega
        rw [hd]
        rw [show 4 + seen.length = ([20454, 20482] ++ seen.map (dayAt l)).length + 2 by rw [hel]; omega]
        generalize [20454, 20482] ++ seen.map (dayAt l) = E at *
        have hDel := delete_ok E (by omega) hEb
        unfold dRows lvRow lvR at hDel
        simp only [go_sem,a103,s103]
        (refine Cl.tr [some 0,some 1,some 2,some 3] [] rfl rfl (by simp only [go_sem] <;> rfl) ?_; simp only [go_sem])
        (refine Cl.here ?_; simp only [go_sem])
        (refine Cl.here ?_; simp only [go_sem])
        (refine callC_of [3,1,2] [] (by decide) (by simp only [go_sem] <;> rfl) (by simp only [go_sem] <;> rfl) (hDel) ?_; rintro _ _ ⟨rfl,rfl⟩; refine ⟨.inl rfl,?_⟩; simp only [go_sem])
        refine Cl.step (.cut (vals := numsE .i64 (E ++ [0, 0])) 7 3 (E.length + 2) E.length rfl rfl (by rw [numsE_length]; simp)) ?_
        rw [numsE_take, List.take_left' rfl]
        simp only [go_sem]
        (refine Cl.tr [some 0,some 4] [] rfl rfl (by simp only [go_sem] <;> rfl) ?_; simp only [go_sem])
        (refine Cl.here ?_; simp only [go_sem])
        (refine callC_of [1] [] (by decide) (by simp only [go_sem] <;> rfl) (by simp only [go_sem] <;> rfl) (sortN_ok E (by omega)) ?_; rintro _ _ ⟨rfl,rfl⟩; refine ⟨.inl rfl,?_⟩; simp only [go_sem])
        (refine Cl.here ?_; simp only [go_sem])
        rw [← srt_length E]
        have hcl := compact_le (srt E)
        (refine callC_of [1] [] (by decide) (by simp only [go_sem] <;> rfl) (by simp only [go_sem] <;> rfl) (compactN_ok (srt E) (by rw [srt_length]; omega)) ?_; rintro _ _ ⟨rfl,rfl⟩; refine ⟨.inl rfl,?_⟩; simp only [go_sem])
        rw [show Lib.compact (srt E) = evD l from hev] at *
        refine Cl.step (.cut (vals := numsE .i64 (evD l ++ List.replicate ((srt E).length - (evD l).length) 0)) 6 1 (srt E).length (evD l).length rfl rfl (by rw [numsE_length]; simp; omega)) ?_
        rw [numsE_take, List.take_left' rfl]
        simp only [go_sem]
        (refine Cl.tr [some 0,some 2] [] rfl rfl (by simp only [go_sem] <;> rfl) ?_; simp only [go_sem])
        (refine Cl.here ?_; simp only [go_sem])
        exact Cl.here ⟨rfl, rfl⟩
      · have hlast : (seen ++ [j]).getLastD 0 = j := by simp
        have hj' : j < l.length := hj
        have hget : ((mapI (boM l)).getD j (.junk, .junk)).1 = .int .i64 (dayAt l j) := by simp [mapI, boM, dayAt, hj']
        have hn2 : (seen ++ [j]).Nodup := by
          rw [List.nodup_append]
          exact ⟨hnd, by simp, fun a ha b hb => by rw [List.mem_singleton] at hb; subst hb; exact fun e => hjs (e ▸ ha)⟩
        have hsn2 : ∀ s ∈ seen ++ [j], s < l.length := fun x hx => by
          rcases List.mem_append.1 hx with hx | hx
          · exact hsn x hx
          · rw [List.mem_singleton] at hx; subst hx; exact hj'
        have hsl : (seen ++ [j]).length ≤ l.length := by
          have := hn2.length_le_of_subset (l₂ := List.range l.length) (fun x hx => List.mem_range.2 (hsn2 x hx))
          simpa using this
        rw [List.length_append, List.length_singleton] at hsl
        have hsn3 : numsE .i64 (fD ++ seen.map (dayAt l)) ++ [[.int .i64 (dayAt l j)]] = numsE .i64 (fD ++ (seen ++ [j]).map (dayAt l)) := by
          rw [numsE_snoc, List.map_append, List.append_assoc]; rfl
        have hfl : (numsE .i64 (fD ++ seen.map (dayAt l))).length = 4 + seen.length := by rw [numsE_length, List.length_append, List.length_map]; rfl
        simp only [go_sem,a103,s103]
        (refine Cl.here ?_; simp only [go_sem])
        (refine Cl.here ?_; simp only [go_sem])
        rw [hlast]
        refine ⟨boM_len.symm, by simp, hj', ?_⟩
        rw [hget]
        (refine Cl.here ?_; simp only [go_sem])
        refine ⟨by rw [← hfl, numsE_length], by omega, ?_⟩
        (refine Cl.tr [some 0,some 1,some 2,some 3,some 4] [] rfl rfl (by simp only [go_sem] <;> rfl) ?_; simp only [go_sem])
        refine Cl.here ⟨⟨seen ++ [j], hn2, hsn2, ?_, ?_⟩, ?_⟩
        · rw [List.length_append, List.length_singleton, Nat.add_assoc]
        · rw [List.map_append, ← List.append_assoc]; rfl
        · simp only [List.length_append, List.length_singleton]; omega

end Go.Proofs.YtpincjkjoeopkaaGreatDoor
end

section
/- Leave accounts: what a day brings. -/
namespace Go.Proofs.YtpincjkjoeopkaaGreatDoor
open Go Go.Abs
set_option linter.unusedSimpArgs false
set_option linter.unusedVariables false

theorem turn0_ok (c u lo tk : Int) : AFn Tryz.prog 183 [.agg lvR, .agg [.int .i64 c, .int .i64 u, .int .i64 lo, .int .i64 tk], .int .i64 20454] [] (fun v rs => v = .agg [.int .i64 c, .int .i64 (IntKind.i64.wrap (u + 1000)), .int .i64 lo, .int .i64 tk] ∧ rs = []) :=
  run_afn (T := tab) (L := leaves) 60 [(.agg [.int .i64 c, .int .i64 (IntKind.i64.wrap (u + 1000)), .int .i64 lo, .int .i64 tk], [])] (by kernel_rfl) (by intro o h; rw [List.mem_singleton] at h; subst h; exact ⟨rfl, rfl⟩)
theorem turn1_ok (c u lo tk d : Int) (hd : d = 20455 ∨ d = 20456 ∨ d = 20457 ∨ d = 20458 ∨ d = 20482) : AFn Tryz.prog 183 [.agg lvR, .agg [.int .i64 c, .int .i64 u, .int .i64 lo, .int .i64 tk], .int .i64 d] [] (fun v rs => v = .agg [.int .i64 c, .int .i64 u, .int .i64 lo, .int .i64 tk] ∧ rs = []) := by
  rcases hd with rfl | rfl | rfl | rfl | rfl
  all_goals exact run_afn (T := tab) (L := leaves) 60 [(.agg [.int .i64 c, .int .i64 u, .int .i64 lo, .int .i64 tk], [])] (by kernel_rfl) (by intro o h; rw [List.mem_singleton] at h; subst h; exact ⟨rfl, rfl⟩)

/-- the minutes of a day -/
def mnt (l : List Bo) (d : Int) : Int := (Abs.look (boM l) d).getD 0
theorem mnt_bd {l : List Bo} (h : boG l) (d : Int) : 0 ≤ mnt l d ∧ mnt l d ≤ 10000 := by
  unfold mnt Abs.look
  cases hf : (boM l).find? fun p => d == p.1 with
  | none => simp
  | some p =>
    obtain ⟨b, hb, rfl⟩ := List.mem_map.1 (List.mem_of_find?_eq_some hf)
    have := h.2 b hb
    simp; omega
def tkn (l : List Bo) (i : Nat) : Int := (((evD l).take i).map (mnt l)).sum
theorem tkn_succ {l : List Bo} {i : Nat} (hi : i < (evD l).length) : tkn l (i + 1) = tkn l i + mnt l (evD l)[i] := by
  unfold tkn
  rw [List.take_succ_eq_append_getElem hi, List.map_append, List.sum_append]; simp
theorem tkn_bd {l : List Bo} (h : boG l) : ∀ i, 0 ≤ tkn l i ∧ tkn l i ≤ 10000 * i
  | 0 => by simp [tkn]
  | i + 1 => by
    have ih := tkn_bd h i
    by_cases hi : i < (evD l).length
    · have := mnt_bd h (evD l)[i]
      rw [tkn_succ hi]; omega
    · have : tkn l (i + 1) = tkn l i := by unfold tkn; rw [List.take_of_length_le (by omega), List.take_of_length_le (by omega)]
      rw [this]; omega
theorem evD_mem {l : List Bo} (h : boG l) {x : Int} : x ∈ evD l ↔ x = 20454 ∨ x = 20482 ∨ x ∈ l.map Bo.day := by
  unfold evD
  rw [(uq_spec _).2, List.mem_append]
  simp only [List.mem_cons, List.not_mem_nil, or_false]
  exact or_assoc
theorem evD_pos {l : List Bo} : 0 < (evD l).length := List.length_pos_iff.2 fun e => by
  have : (20454 : Int) ∈ evD l := by unfold evD; rw [(uq_spec _).2]; simp
  rw [e] at this; cases this
theorem evD_len {l : List Bo} (h : boG l) : (evD l).length ≤ 7 := by
  have hnd : (evD l).Nodup := (uq_spec _).1.imp fun h => Int.ne_of_lt h
  have := hnd.length_le_of_subset (l₂ := [20454, 20482, 20455, 20456, 20457, 20458, 0]) (fun x hx => by
    rcases (evD_mem h).1 hx with rfl | rfl | hx
    · simp
    · simp
    · obtain ⟨b, hb, rfl⟩ := List.mem_map.1 hx
      have := h.2 b hb
      simp; omega)
  simpa using this
theorem evD_zero {l : List Bo} (h : boG l) : (evD l)[0]'evD_pos = 20454 := by
  have hm : (20454 : Int) ∈ evD l := (evD_mem h).2 (.inl rfl)
  obtain ⟨j, hj, e⟩ := List.getElem_of_mem hm
  have h0 : 20454 ≤ (evD l)[0]'evD_pos := by
    rcases (evD_mem h).1 (List.getElem_mem evD_pos) with e | e | hx
    · omega
    · omega
    · obtain ⟨b, hb, e⟩ := List.mem_map.1 hx
      have := h.2 b hb; omega
  by_cases hj0 : j = 0
  · subst hj0; exact e
  · have := List.pairwise_iff_getElem.1 (uq_spec ([20454, 20482] ++ l.map Bo.day)).1 0 j evD_pos hj (by omega)
    have h1 : (evD l)[0]'evD_pos < (evD l)[j] := this
    omega
theorem evD_succ {l : List Bo} (h : boG l) {i : Nat} (hi : i < (evD l).length) (h0 : 0 < i) : (evD l)[i] = 20455 ∨ (evD l)[i] = 20456 ∨ (evD l)[i] = 20457 ∨ (evD l)[i] = 20458 ∨ (evD l)[i] = 20482 := by
  have h1 := List.pairwise_iff_getElem.1 (uq_spec ([20454, 20482] ++ l.map Bo.day)).1 0 i evD_pos hi h0
  have h2 : (evD l)[0]'evD_pos < (evD l)[i] := h1
  rw [evD_zero h] at h2
  rcases (evD_mem h).1 (List.getElem_mem hi) with e | e | hx
  · omega
  · omega
  · obtain ⟨b, hb, e⟩ := List.mem_map.1 hx
    have := h.2 b hb; omega
/-- the account after i days -/
def acU (l : List Bo) (i : Nat) : Int := (if i = 0 then 0 else 1000) - tkn l i
def acL (l : List Bo) (i : Nat) : List AVal := [.int .i64 0, .int .i64 (acU l i), .int .i64 0, .int .i64 (tkn l i)]
theorem pass_ok (l : List Bo) (h : boG l) : AFn Tryz.prog 102 [.agg lvR, .mref 0, .own 1 (evD l).length 0 (evD l).length] [.obj (.map false [.int .i64] (mapI (boM l))), .live 3 1 (numsE .i64 (evD l))]
    (fun v rs => v = .tup [.agg (acL l (evD l).length), .bool true] ∧ rs = [.obj (.map false [.int .i64] (mapI (boM l))), .live 3 1 (numsE .i64 (evD l))]) := by
  have hlen := evD_len h
  have hpos := evD_pos (l := l)
  refine afn Tryz.func102 a102_ok (by simp [a102, s102]) ?_
  have hT0 := turn0_ok
  have hT1 := turn1_ok
  unfold lvR at *
  simp only [go_sem,a102,s102,numsE_length]
  refine avc_loop (fun env rows => ∃ i : Nat, i ≤ (evD l).length ∧ env = [(1, .mref 0), (3, .ref 2 1 0 0), (6, .ref 3 1 0 0), (8, .ref 4 1 0 0), (16, .own 1 (evD l).length 0 (evD l).length), (17, .int .i64 (evD l).length), (18, .int .i64 i)] ∧
      rows = [.obj (.map false [.int .i64] (mapI (boM l))), .live 3 1 (numsE .i64 (evD l)), .live 99 8 [[.int .i64 1000, .int .i64 100000, .int .i64 12, .int .i64 28, .int .i64 100000, .int .i64 20454, .int .i64 20494, .int .i64 0]], .live 104 4 [[.int .i64 0, .int .i64 0, .int .i64 0, .int .i64 0]], .live 104 4 [acL l i]])
    (fun env _ => match slot env 18 with | .int _ j => ((evD l).length - j).toNat | _ => 0) ?_ ?_
  · exact Cl.here ⟨0, by omega, rfl, rfl⟩
  rintro env rows ⟨i, hi, rfl, rfl⟩
  have hw : IntKind.i64.wrap ((i : Int) + 1) = ((i + 1 : Nat) : Int) := by rw [wrap_i64 (by omega) (by omega)]; omega
  have hnl : (numsE .i64 (evD l)).length = (evD l).length := numsE_length
  unfold acL
  by_cases hlt : i < (evD l).length
  rotate_left
  · have h1 : decide ((i : Int) < (evD l).length) = false := decide_eq_false (by omega)
    obtain rfl : i = (evD l).length := by omega
    simp only [go_sem,a102,s102,h1,hnl]
    (refine Cl.tr [some 0,some 1] [] rfl rfl (by simp only [go_sem] <;> rfl) ?_; simp only [go_sem])
    exact Cl.here ⟨rfl, rfl⟩
  have h1 : decide ((i : Int) < (evD l).length) = true := decide_eq_true (by omega)
  have z0 : (0 : Int) ≤ i := by omega
  have z1 : (i : Int) < (evD l).length := by omega
  have hg : (numsE .i64 (evD l)).getD i [] = [.int .i64 (evD l)[i]] := by rw [numsE_getD hlt, List.getD_eq_getElem?_getD, List.getElem?_eq_getElem hlt]; rfl
  have hs := tkn_succ hlt
  have hb := tkn_bd h i
  have hm := mnt_bd h (evD l)[i]
  have hk : (Option.map (fun x => AVal.int .i64 x) (Abs.look (boM l) (evD l)[i])).getD (.int .i64 0) = .int .i64 (mnt l (evD l)[i]) := by
    unfold mnt; cases Abs.look (boM l) (evD l)[i] <;> rfl
  have hturn : AFn Tryz.prog 183 [.agg [.int .i64 1000, .int .i64 100000, .int .i64 12, .int .i64 28, .int .i64 100000, .int .i64 20454, .int .i64 20494, .int .i64 0], .agg [.int .i64 0, .int .i64 (acU l i), .int .i64 0, .int .i64 (tkn l i)], .int .i64 (evD l)[i]] [] (fun v rs => v = .agg [.int .i64 0, .int .i64 (1000 - tkn l i), .int .i64 0, .int .i64 (tkn l i)] ∧ rs = []) := by
    by_cases hi0 : i = 0
    · subst hi0
      rw [evD_zero h]
      have : acU l 0 = 0 - tkn l 0 := by unfold acU; rw [if_pos rfl]
      have hw0 : IntKind.i64.wrap (acU l 0 + 1000) = 1000 - tkn l 0 := by rw [this, wrap_i64 (by omega) (by omega)]; omega
      have := hT0 0 (acU l 0) 0 (tkn l 0)
      rw [hw0] at this
      exact this
    · have : acU l i = 1000 - tkn l i := by unfold acU; rw [if_neg hi0]
      rw [this]
      exact hT1 _ _ _ _ _ (evD_succ h hlt (by omega))
  generalize (evD l)[i] = d at *
  generalize mnt l d = m at *
  generalize hTk : tkn l i = T at *
  simp only [go_sem,a102,s102,h1,z0,z1,hg,hnl]
  refine callC_det hturn rfl rfl ?_
  have hmin : min m 0 = 0 := by omega
  have w0 : IntKind.i64.wrap (0 - 0) = 0 := by decide
  have w1 : IntKind.i64.wrap (m - 0) = m := by rw [wrap_i64 (by omega) (by omega)]; omega
  have w2 : IntKind.i64.wrap (1000 - T - m) = 1000 - tkn l (i + 1) := by rw [wrap_i64 (by omega) (by omega), hs]; omega
  have w3 : IntKind.i64.wrap (T + m) = tkn l (i + 1) := by rw [wrap_i64 (by omega) (by omega), hs]
  have w4 : IntKind.i64.wrap (0 - 100000) = -100000 := by decide
  have hac : acU l (i + 1) = 1000 - tkn l (i + 1) := by unfold acU; rw [if_neg (by omega)]
  have hb2 := tkn_bd h (i + 1)
  have hlt2 : decide (1000 - tkn l (i + 1) < -100000) = false := decide_eq_false (by omega)
  generalize hTq : tkn l (i + 1) = T' at *
  by_cases hm0 : 0 < m
  · have hd : decide (0 < m) = true := decide_eq_true hm0
    simp only [go_sem,a102,s102,hk,hmin,w0,w1,w2,w3,w4,hd,hlt2,hw]
    refine Cl.here ⟨⟨i + 1, by omega, rfl, ?_⟩, ?_⟩
    · rw [hac, hTq]
    · simp only [go_sem]
      omega
  · have hd : decide (0 < m) = false := decide_eq_false hm0
    simp only [go_sem,a102,s102,hk,hmin,w0,w1,w2,w3,w4,hd,hlt2,hw]
    refine Cl.here ⟨⟨i + 1, by omega, rfl, ?_⟩, ?_⟩
    · rw [hac, hTq]
    · simp only [go_sem]
      omega

/-- all that is taken -/
def tkS (l : List Bo) : Int := (l.map Bo.min).sum
theorem mnt_mem {l : List Bo} (h : boG l) {b : Bo} (hb : b ∈ l) : mnt l b.day = b.min := by
  unfold mnt Abs.look
  have hf : ∃ p, (boM l).find? (fun p => b.day == p.1) = some p := by
    cases hf : (boM l).find? fun p => b.day == p.1 with
    | none => exact absurd (List.find?_eq_none.1 hf (b.day, b.min) (List.mem_map.2 ⟨b, hb, rfl⟩)) (by simp)
    | some p => exact ⟨p, rfl⟩
  obtain ⟨p, hp⟩ := hf
  rw [hp]
  obtain ⟨c, hc, rfl⟩ := List.mem_map.1 (List.mem_of_find?_eq_some hp)
  have hd : b.day = c.day := by simpa using List.find?_some hp
  have : b = c := by
    obtain ⟨i, hi, rfl⟩ := List.getElem_of_mem hb
    obtain ⟨j, hj, rfl⟩ := List.getElem_of_mem hc
    rcases Nat.lt_trichotomy i j with hij | rfl | hij
    · have := List.pairwise_iff_getElem.1 h.1 i j hi hj hij; omega
    · rfl
    · have := List.pairwise_iff_getElem.1 h.1 j i hj hi hij; omega
  rw [this]; rfl
theorem mnt_none {l : List Bo} {d : Int} (hd : d ∉ l.map Bo.day) : mnt l d = 0 := by
  unfold mnt Abs.look
  rw [List.find?_eq_none.2 fun p hp => by
    obtain ⟨b, hb, rfl⟩ := List.mem_map.1 hp
    simp only [beq_iff_eq]
    exact fun e => hd (e ▸ List.mem_map_of_mem hb)]
  rfl
theorem sum_perm {a b : List Int} (h : a.Perm b) : a.sum = b.sum := by
  induction h with
  | nil => rfl
  | cons x _ ih => rw [List.sum_cons, List.sum_cons, ih]
  | swap x y l => simp only [List.sum_cons]; omega
  | trans _ _ h1 h2 => exact h1.trans h2
theorem sum_sub {D S : List Int} {f : Int → Int} (hD : D.Nodup) (hS : S.Nodup) (hm : ∀ x ∈ S, x ∈ D) (h0 : ∀ x ∈ D, x ∉ S → f x = 0) : (D.map f).sum = (S.map f).sum := by
  have h1 : (D.filter fun x => decide (x ∈ S)).Perm S := (List.perm_ext_iff_of_nodup (hD.filter _) hS).2 fun x => by
    rw [List.mem_filter, decide_eq_true_eq]
    exact ⟨fun h => h.2, fun h => ⟨hm x h, h⟩⟩
  rw [← sum_perm (h1.map f)]
  clear h1 hm hD hS
  induction D with
  | nil => rfl
  | cons x D ih =>
    have ih := ih fun y hy => h0 y (List.mem_cons_of_mem _ hy)
    rw [List.map_cons, List.sum_cons, ih, List.filter_cons]
    split
    · rw [List.map_cons, List.sum_cons]
    · rename_i hx
      rw [h0 x List.mem_cons_self (by simpa using hx)]; omega
theorem tkn_all {l : List Bo} (h : boG l) : tkn l (evD l).length = tkS l := by
  unfold tkn tkS
  rw [List.take_length]
  have hD : (evD l).Nodup := (uq_spec _).1.imp fun h => Int.ne_of_lt h
  have hS : (l.map Bo.day).Nodup := List.pairwise_map.2 (h.1.imp fun h => Int.ne_of_lt h)
  rw [sum_sub hD hS (fun x hx => (evD_mem h).2 (.inr (.inr hx))) (fun x _ hx => mnt_none hx), List.map_map]
  congr 1
  exact List.map_congr_left fun b hb => mnt_mem h hb
theorem lvValid_ok : AFn Tryz.prog 99 [.agg lvR] [] (fun v rs => v = .int .i64 0 ∧ rs = []) :=
  run_afn (T := tab) (L := leaves) 60 [(.int .i64 0, [])] (by kernel_rfl) (by intro o h; rw [List.mem_singleton] at h; subst h; exact ⟨rfl, rfl⟩)
theorem accrued_ok : AFn Tryz.prog 39 [.agg lvR, .int .i64 20484] [] (fun v rs => v = .int .i64 1000 ∧ rs = []) :=
  run_afn (T := tab) (L := leaves) 60 [(.int .i64 1000, [])] (by kernel_rfl) (by intro o h; rw [List.mem_singleton] at h; subst h; exact ⟨rfl, rfl⟩)
theorem balance_ok (l : List Bo) (h : boG l) : AFn Tryz.prog 37 [.agg lvR, .pure 2 (els l), .int .i64 20484] []
    (fun v rs => v = .tup [.agg [.int .i64 0, .int .i64 (1000 - tkS l), .int .i64 0, .int .i64 (tkS l)], .int .i64 0] ∧ rs = []) := by
  have hl := boG_len h
  have hV := lvValid_ok
  have hE := eventful_ok l h
  have hP := pass_ok l h
  have hS := lsums_ok l h
  have hac : acL l (evD l).length = [.int .i64 0, .int .i64 (1000 - tkS l), .int .i64 0, .int .i64 (tkS l)] := by
    unfold acL acU
    rw [tkn_all h, if_neg (by have := evD_pos (l := l); omega)]
  rw [hac] at hP
  refine afn Tryz.func37 a37_ok (by simp [a37, s37]) ?_
  unfold lvR at *
  simp only [go_sem,a37,s37,els_length]
  refine callC_det hV rfl rfl ?_
  simp only [go_sem,a37,s37]
  refine callC_det (lwithin_ok 20484 0 84005) rfl rfl ?_
  have h1 : decide ((1024 : Int) < l.length) = false := decide_eq_false (by omega)
  simp only [go_sem,a37,s37,h1,els_length]
  refine avc_loop (fun env rows => ∃ i : Nat, i ≤ l.length ∧ env = [(1, .pure 2 (els l)), (2, .int .i64 20484), (3, .ref 0 1 0 0), (6, .ref 1 1 0 0), (28, .pure 2 (els l)), (29, .int .i64 l.length), (30, .int .i64 i)] ∧ rows = [.live 99 8 [[.int .i64 1000, .int .i64 100000, .int .i64 12, .int .i64 28, .int .i64 100000, .int .i64 20454, .int .i64 20494, .int .i64 0]], .live 104 4 [[.int .i64 0, .int .i64 0, .int .i64 0, .int .i64 0]]])
    (fun env _ => match slot env 30 with | .int _ j => (l.length - j).toNat | _ => 0) ?_ ?_
  · exact Cl.here ⟨0, by omega, rfl, rfl⟩
  rintro env rows ⟨i, hi, rfl, rfl⟩
  have hw : IntKind.i64.wrap ((i : Int) + 1) = ((i + 1 : Nat) : Int) := by rw [wrap_i64 (by omega) (by omega)]; omega
  by_cases hlt : i < l.length
  · have h1 : decide ((i : Int) < l.length) = true := decide_eq_true (by omega)
    have z0 : (0 : Int) ≤ i := by omega
    have z1 : (i : Int) < l.length := by omega
    have hg : (els l).getD i [] = Cel.c l[i] := els_getD hlt
    have hb := h.2 l[i] (List.getElem_mem hlt)
    generalize l[i] = b at *
    have k1 := lwithin_ok b.day 20454 20494
    have k2 := lwithin_ok b.min 0 1000000
    rw [decide_eq_true (show 20454 ≤ b.day ∧ b.day ≤ 20494 by omega)] at k1
    rw [decide_eq_true (show 0 ≤ b.min ∧ b.min ≤ 1000000 by omega)] at k2
    simp only [go_sem,a37,s37,h1,z0,z1,hg,els_length,cel_bo]
    refine callC_det k1 rfl rfl ?_
    simp only [go_sem]
    refine callC_det k2 rfl rfl ?_
    simp only [go_sem,hw]
    (refine Cl.tr [some 0,some 1] [] rfl rfl (by simp only [go_sem] <;> rfl) ?_; simp only [go_sem])
    refine Cl.here ⟨⟨i + 1, by omega, rfl, rfl⟩, ?_⟩
    simp only [go_sem]
    omega
  have h1 : decide ((i : Int) < l.length) = false := decide_eq_false (by omega)
  simp only [go_sem,a37,s37,h1]
  refine callC_of [] [] (by simp) rfl (bindL_clean _ (by first | rfl | simp only [go_sem,els_clean])) hS ?_
  rintro _ _ ⟨rfl, rfl⟩
  refine ⟨.inl rfl, ?_⟩
  simp only [go_sem]
  (refine callD_of [2] [] (by simp only [go_sem]) (by decide) (by simp only [go_sem] <;> rfl) (by simp only [go_sem] <;> rfl) (hE) ?_; rintro _ _ ⟨rfl,rfl⟩; refine ⟨.inl rfl,?_⟩; simp only [go_sem])
  (refine callD_of [2,4] [] (by simp only [go_sem]) (by decide) (by simp only [go_sem] <;> rfl) (by simp only [go_sem] <;> rfl) (hP) ?_; rintro _ _ ⟨rfl,rfl⟩; refine ⟨.inl rfl,?_⟩; simp only [go_sem])
  exact Cl.fin rfl ⟨rfl, rfl⟩

end Go.Proofs.YtpincjkjoeopkaaGreatDoor
end
