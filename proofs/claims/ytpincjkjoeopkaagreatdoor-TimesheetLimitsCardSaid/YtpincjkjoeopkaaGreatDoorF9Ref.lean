/- The reference: add. -/
import Derived.Test.YtpincjkjoeopkaaGreatDoorF9Mrk
set_option linter.unusedSimpArgs false
set_option linter.unusedVariables false
set_option linter.unusedSectionVars false
namespace Go.Proofs.YtpincjkjoeopkaaGreatDoor
open Go Go.Abs
set_option linter.unusedSimpArgs false
set_option linter.unusedVariables false

/-- a time -/
structure Ti where
  n : ByteArray
  m : Int
instance : Cel Ti := ⟨fun a => [.str a.n, .int .i64 a.m], 2, fun _ => rfl, fun _ => rfl, fun _ => rfl⟩
instance : Flt Ti := ⟨fun _ => rfl⟩
theorem cel_ti (e : Ti) : Cel.c e = [.str e.n, .int .i64 e.m] := rfl
theorem cel_ti_sz : Cel.sz Ti = 2 := rfl
theorem cel_ti_take (e : Ti) : List.take 2 (Cel.c e) = Cel.c e := rfl
attribute [go_sem] cel_ti_sz cel_ti_take
/-- a time is added to an ordered list -/
def addT (nm : ByteArray) (mn : Int) : List Ti → List Ti
  | [] => [⟨nm, mn⟩]
  | x :: t => if x.n.toList < nm.toList then x :: addT nm mn t else if x.n = nm then ⟨nm, x.m + mn⟩ :: t else ⟨nm, mn⟩ :: x :: t
theorem addT_lt {nm : ByteArray} {mn : Int} : ∀ {l : List Ti} {k : Nat}, k ≤ l.length → (∀ j (hj : j < k) (hl : j < l.length), l[j].n.toList < nm.toList) → (∀ (hk : k < l.length), ¬ l[k].n.toList < nm.toList ∧ l[k].n ≠ nm) → addT nm mn l = l.take k ++ ⟨nm, mn⟩ :: l.drop k
  | [], 0, _, _, _ => rfl
  | [], k + 1, h, _, _ => by simp at h
  | x :: t, 0, _, _, h2 => by
    have := h2 (by simp)
    simp only [List.getElem_cons_zero] at this
    rw [addT, if_neg this.1, if_neg this.2]; rfl
  | x :: t, k + 1, h, h1, h2 => by
    have hx := h1 0 (by omega) (by simp)
    simp only [List.getElem_cons_zero] at hx
    rw [addT, if_pos hx]
    have := addT_lt (nm := nm) (mn := mn) (l := t) (k := k) (by simpa using h) (fun j hj hl => by have := h1 (j + 1) (by omega) (by simpa using hl); exact this) (fun hk => by have := h2 (by simpa using hk); exact this)
    rw [this]; rfl
theorem addT_eq {nm : ByteArray} {mn : Int} : ∀ {l : List Ti} {k : Nat} (hk : k < l.length), (∀ j (hj : j < k) (hl : j < l.length), l[j].n.toList < nm.toList) → l[k].n = nm → ¬ l[k].n.toList < nm.toList → addT nm mn l = l.set k ⟨nm, l[k].m + mn⟩
  | x :: t, 0, _, _, h2, h3 => by
    simp only [List.getElem_cons_zero] at h2 h3
    rw [addT, if_neg h3, if_pos h2]; rfl
  | x :: t, k + 1, h, h1, h2, h3 => by
    have hx := h1 0 (by omega) (by simp)
    simp only [List.getElem_cons_zero] at hx
    rw [addT, if_pos hx]
    have := addT_eq (nm := nm) (mn := mn) (l := t) (k := k) (by simpa using h) (fun j hj hl => by have := h1 (j + 1) (by omega) (by simpa using hl); exact this) h2 h3
    rw [this]; rfl

theorem ti_snoc {l : List Ti} : els l ++ [[.str ⟨#[]⟩, .int .i64 0]] = els (l ++ [(⟨⟨#[]⟩, 0⟩ : Ti)]) := by simp [els, cel_ti]
theorem ba_toList {a b : ByteArray} (h : a.toList = b.toList) : a = b := by
  exact ba_ext h
theorem addT_ok (l : List Ti) (hl : l.length ≤ 1000000) (hb : ∀ x ∈ l, 0 ≤ x.m ∧ x.m ≤ 1000000000000) (nm : ByteArray) (mn : Int) (hm : -1000 ≤ mn ∧ mn ≤ 1000000000000) : AFn Tryz.prog 140 [.own 0 l.length 0 l.length, .str nm, .int .i64 mn] [.live 78 2 (els l)]
    (fun v rs => v = .own 0 (addT nm mn l).length 0 (addT nm mn l).length ∧ rs = [.live 78 2 (els (addT nm mn l))]) := by
  refine afn Tryz.func140 a140_ok (by simp [a140, s140]) ?_
  simp only [go_sem,a140,s140]
  refine avc_loop (fun env rows => ∃ k : Nat, k ≤ l.length ∧ (∀ j (hj : j < k) (hl : j < l.length), l[j].n.toList < nm.toList) ∧ env = [(0, .own 0 l.length 0 l.length), (1, .str nm), (2, .int .i64 mn), (7, .int .i64 k)] ∧ rows = [.live 78 2 (els l)])
    (fun env _ => match slot env 7 with | .int _ j => (l.length - j).toNat | _ => 0) ?_ ?_
  · exact Cl.here ⟨0, by omega, fun q h h2 => by omega, rfl, rfl⟩
  rintro env rows ⟨k, hk, hlow, rfl, rfl⟩
  have hwk : IntKind.i64.wrap ((k : Int) + 1) = ((k + 1 : Nat) : Int) := by rw [wrap_i64 (by omega) (by omega)]; omega
  have hin : k ≤ l.length := hk
  by_cases hkl : k < l.length
  · have e1 : decide ((k : Int) < (l.length : Int)) = true := decide_eq_true (by omega)
    have z0 : (0 : Int) ≤ k := by omega
    have z1 : (k : Int) < l.length := by omega
    have gz : (els l).getD k [] = Cel.c l[k] := els_getD hkl
    have hne : ((k : Int) == (l.length : Int)) = false := beq_eq_false_iff_ne.2 (by omega)
    by_cases hlt1 : l[k].n.toList < nm.toList
    · have e2 : Op.bytesLess l[k].n.toList nm.toList = true := by rw [bl_eq]; exact decide_eq_true hlt1
      simp only [go_sem,a140,s140,e1,z0,z1,gz,cel_ti,e2,hwk]
      refine Cl.here ⟨⟨k + 1,by omega,fun j hj hl' => ?_,rfl,rfl⟩,by simp only [go_sem]; omega⟩
      by_cases hjk : j = k
      · subst hjk; exact hlt1
      · exact hlow j (by omega) hl'
    have e2 : Op.bytesLess l[k].n.toList nm.toList = false := by rw [bl_eq]; exact decide_eq_false hlt1
    by_cases heq : l[k].n = nm
    · have e3 : (l[k].n.toList == nm.toList) = true := by rw [heq]; exact beq_self_eq_true _
      have hbk := hb l[k] (List.getElem_mem hkl)
      have hwm : IntKind.i64.wrap (l[k].m + mn) = l[k].m + mn := wrap_i64 (by omega) (by omega)
      simp only [go_sem,a140,s140,e1,z0,z1,gz,cel_ti,e2,hne,e3,hwm]
      have hfe := addT_eq (mn := mn) hkl hlow heq hlt1
      have hcc : ([.str l[k].n, .int .i64 (l[k].m + mn)] : List AVal) = Cel.c (⟨nm, l[k].m + mn⟩ : Ti) := by rw [heq]; rfl
      have hfl : (addT nm mn l).length = l.length := by rw [hfe, List.length_set]
      rw [hcc, els_set, ← hfe]
      exact Cl.here ⟨by rw [hfl]; rfl, rfl⟩
    · have e3 : (l[k].n.toList == nm.toList) = false := beq_eq_false_iff_ne.2 fun h => heq (ba_toList h)
      have hlt : ∀ hk' : k < l.length, ¬ l[k].n.toList < nm.toList ∧ l[k].n ≠ nm := fun _ => ⟨hlt1, heq⟩
      simp only [go_sem,a140,s140,e1,z0,z1,gz,cel_ti,e2,hne,e3]
      clear e1 z0 z1 gz hne e2 e3
      have hwK : IntKind.i64.wrap ((k : Int) + 1) = ((k + 1 : Nat) : Int) := by rw [wrap_i64 (by omega) (by omega)]; omega
      have hl1 : (l ++ [(⟨⟨#[]⟩, 0⟩ : Ti)]).length = l.length + 1 := by simp
      have hk2 : k + (l.length + 1 - k) = l.length + 1 := by omega
      have hk3 : k + 1 + (l.length + 1 - (k + 1)) = l.length + 1 := by omega
      simp only [go_sem,hwK,hl1,hk2,ti_snoc]
      repeat (refine And.intro (by first | rfl | omega) ?_)
      have hpart : List.take (min (List.take (l.length + 1 - k) (List.drop k (l ++ [(⟨⟨#[]⟩, 0⟩ : Ti)]))).length (l.length + 1 - (k + 1))) (List.take (l.length + 1 - k) (List.drop k (l ++ [(⟨⟨#[]⟩, 0⟩ : Ti)]))) = l.drop k := overL_part hk (by simp only [List.length_take, List.length_drop, hl1]; omega) (by simp only [List.length_take, List.length_drop, hl1]; omega)
      rw [hpart]
      have hol := overL_length (z := (⟨⟨#[]⟩, 0⟩ : Ti)) hk
      have hos := overL_set (z := (⟨⟨#[]⟩, 0⟩ : Ti)) (x := ⟨nm, 0⟩) hk
      generalize overL (l ++ [(⟨⟨#[]⟩, 0⟩ : Ti)]) (k + 1) (l.drop k) = ws at hol hos ⊢
      have hkw : k < ws.length := by omega
      have hgw : (els ws).getD k [] = Cel.c ws[k] := els_getD hkw
      have hwl : l.length + 1 = (l.take k ++ (⟨nm, mn⟩ : Ti) :: l.drop k).length := by simp; omega
      have z0 : (0 : Int) ≤ k := by omega
      have z1 : (k : Int) < ((l.length + 1 : Nat) : Int) := by omega
      have hins : addT nm mn l = l.take k ++ ⟨nm, mn⟩ :: l.drop k := addT_lt hk hlow hlt
      have hs1 : (els ws).set k (.str nm :: .int .i64 0 :: List.drop 2 (Cel.c ws[k])) = els (l.take k ++ ⟨nm, 0⟩ :: l.drop k) := by
        rw [← hos, ← els_set]; rfl
      have hs2 : (els (l.take k ++ (⟨nm, 0⟩ : Ti) :: l.drop k)).getD k [] = [.str nm, .int .i64 0] := by
        rw [els_getD (by simp; omega), List.getElem_append_right (by simp; omega)]
        simp [cel_ti, Nat.min_eq_left hk]
      have hs3 : (els (l.take k ++ (⟨nm, 0⟩ : Ti) :: l.drop k)).set k [.str nm, .int .i64 mn] = els (addT nm mn l) := by
        rw [show ([.str nm, .int .i64 mn] : List AVal) = Cel.c (⟨nm, mn⟩ : Ti) from rfl, els_set, hins, List.set_append_right _ _ (by simp; omega)]
        simp [Nat.min_eq_left hk]
      have hs4 : IntKind.i64.wrap (0 + mn) = mn := by rw [wrap_i64 (by omega) (by omega)]; omega
      rw [← hins] at hwl
      simp only [go_sem,hgw,z0,z1,hol,hs1,hs2,hs4,hs3]
      rw [hwl]
      have hyl : (addT nm mn l).length = (l.take k ++ (⟨nm, 0⟩ : Ti) :: l.drop k).length := by rw [← hwl]; simp; omega
      refine ⟨hyl, hyl, ?_⟩
      (refine Cl.tr [some 0] [] rfl rfl (by simp only [go_sem] <;> rfl) ?_; simp only [go_sem])
      exact Cl.here ⟨rfl, rfl⟩
  · have e1 : decide ((k : Int) < (l.length : Int)) = false := decide_eq_false (by omega)
    have hne : ((k : Int) == (l.length : Int)) = true := beq_iff_eq.2 (by omega)
    · have hlt : ∀ hk' : k < l.length, ¬ l[k].n.toList < nm.toList ∧ l[k].n ≠ nm := fun h => absurd h hkl
      simp only [go_sem,a140,s140,e1,hne]
      clear e1 hne
      have hwK : IntKind.i64.wrap ((k : Int) + 1) = ((k + 1 : Nat) : Int) := by rw [wrap_i64 (by omega) (by omega)]; omega
      have hl1 : (l ++ [(⟨⟨#[]⟩, 0⟩ : Ti)]).length = l.length + 1 := by simp
      have hk2 : k + (l.length + 1 - k) = l.length + 1 := by omega
      have hk3 : k + 1 + (l.length + 1 - (k + 1)) = l.length + 1 := by omega
      simp only [go_sem,hwK,hl1,hk2,ti_snoc]
      repeat (refine And.intro (by first | rfl | omega) ?_)
      have hpart : List.take (min (List.take (l.length + 1 - k) (List.drop k (l ++ [(⟨⟨#[]⟩, 0⟩ : Ti)]))).length (l.length + 1 - (k + 1))) (List.take (l.length + 1 - k) (List.drop k (l ++ [(⟨⟨#[]⟩, 0⟩ : Ti)]))) = l.drop k := overL_part hk (by simp only [List.length_take, List.length_drop, hl1]; omega) (by simp only [List.length_take, List.length_drop, hl1]; omega)
      rw [hpart]
      have hol := overL_length (z := (⟨⟨#[]⟩, 0⟩ : Ti)) hk
      have hos := overL_set (z := (⟨⟨#[]⟩, 0⟩ : Ti)) (x := ⟨nm, 0⟩) hk
      generalize overL (l ++ [(⟨⟨#[]⟩, 0⟩ : Ti)]) (k + 1) (l.drop k) = ws at hol hos ⊢
      have hkw : k < ws.length := by omega
      have hgw : (els ws).getD k [] = Cel.c ws[k] := els_getD hkw
      have hwl : l.length + 1 = (l.take k ++ (⟨nm, mn⟩ : Ti) :: l.drop k).length := by simp; omega
      have z0 : (0 : Int) ≤ k := by omega
      have z1 : (k : Int) < ((l.length + 1 : Nat) : Int) := by omega
      have hins : addT nm mn l = l.take k ++ ⟨nm, mn⟩ :: l.drop k := addT_lt hk hlow hlt
      have hs1 : (els ws).set k (.str nm :: .int .i64 0 :: List.drop 2 (Cel.c ws[k])) = els (l.take k ++ ⟨nm, 0⟩ :: l.drop k) := by
        rw [← hos, ← els_set]; rfl
      have hs2 : (els (l.take k ++ (⟨nm, 0⟩ : Ti) :: l.drop k)).getD k [] = [.str nm, .int .i64 0] := by
        rw [els_getD (by simp; omega), List.getElem_append_right (by simp; omega)]
        simp [cel_ti, Nat.min_eq_left hk]
      have hs3 : (els (l.take k ++ (⟨nm, 0⟩ : Ti) :: l.drop k)).set k [.str nm, .int .i64 mn] = els (addT nm mn l) := by
        rw [show ([.str nm, .int .i64 mn] : List AVal) = Cel.c (⟨nm, mn⟩ : Ti) from rfl, els_set, hins, List.set_append_right _ _ (by simp; omega)]
        simp [Nat.min_eq_left hk]
      have hs4 : IntKind.i64.wrap (0 + mn) = mn := by rw [wrap_i64 (by omega) (by omega)]; omega
      rw [← hins] at hwl
      simp only [go_sem,hgw,z0,z1,hol,hs1,hs2,hs4,hs3]
      rw [hwl]
      have hyl : (addT nm mn l).length = (l.take k ++ (⟨nm, 0⟩ : Ti) :: l.drop k).length := by rw [← hwl]; simp; omega
      refine ⟨hyl, hyl, ?_⟩
      (refine Cl.tr [some 0] [] rfl rfl (by simp only [go_sem] <;> rfl) ?_; simp only [go_sem])
      exact Cl.here ⟨rfl, rfl⟩

end Go.Proofs.YtpincjkjoeopkaaGreatDoor
