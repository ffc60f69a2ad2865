/- How ints, strings and the keys of absences are compared. -/
import Derived.Test.YtpincjkjoeopkaaGreatDoorF9Sht
import Derived.Test.YtpincjkjoeopkaaGreatDoorAbs42
set_option linter.unusedSimpArgs false
set_option linter.unusedVariables false
set_option linter.unusedSectionVars false
namespace Go.Proofs.YtpincjkjoeopkaaGreatDoor
open Go Go.Abs
open Go.Sort (SWO)
set_option linter.unusedSimpArgs false
set_option linter.unusedVariables false

theorem evC_sgtr {rows : List Row} {d : Option Nat} {env : Env} {K : Env → List Row → Prop} {a b : ByteArray} : evC (.bin .gtr) [.str a, .str b] rows d env K = K (put env d (.bool !(Op.bytesLess a.toList b.toList || a.toList == b.toList))) rows := _root_.id rfl
attribute [go_sem] evC_sgtr
def cmpI (a b : Int) : Int := if a < b then -1 else if b < a then 1 else 0
def orL : List Int → Int
  | [] => 0
  | x :: xs => if x = 0 then orL xs else x
def cmpB (a b : ByteArray) : Int := if a.toList < b.toList then -1 else if b.toList < a.toList then 1 else 0
theorem bl_eq : ∀ (x y : List UInt8), Op.bytesLess x y = decide (x < y)
  | [], [] => by simp [Op.bytesLess]
  | _ :: _, [] => by simp [Op.bytesLess]
  | [], _ :: _ => by simp [Op.bytesLess]
  | a :: x, b :: y => by
    rw [Op.bytesLess, bl_eq x y]
    simp only [List.cons_lt_cons_iff]
    by_cases h1 : a < b <;> by_cases h2 : a = b <;> by_cases h3 : x < y <;> simp [h1, h2, h3]
theorem bl_tri {a b : List UInt8} (h : ¬ a < b) : a = b ∨ b < a := by
  rcases Decidable.em (b < a) with h1 | h1
  · exact .inr h1
  · exact .inl (List.le_antisymm (List.not_lt.1 h1) (List.not_lt.1 h))
theorem bl_irrefl (a : List UInt8) : ¬ a < a := List.lt_irrefl a
theorem bl_trans {a b c : List UInt8} (h : a < b) (k : b < c) : a < c := List.lt_trans h k

theorem orL_drop {xs : List Int} {i : Nat} (h : i < xs.length) : orL (xs.drop i) = if xs[i] = 0 then orL (xs.drop (i + 1)) else xs[i] := by
  rw [List.drop_eq_getElem_cons h, orL]
/-- a day and a name -/
structure AKey where
  d : Int
  n : ByteArray
instance : Cel AKey := ⟨fun k => [.int .i64 k.d, .str k.n], 2, fun _ => rfl, fun _ => rfl, fun _ => rfl⟩
instance : Flt AKey := ⟨fun _ => rfl⟩
instance : Inhabited AKey := ⟨⟨0, default⟩⟩
theorem cel_akey (e : AKey) : Cel.c e = [.int .i64 e.d, .str e.n] := rfl
theorem cel_akey_sz : Cel.sz AKey = 2 := rfl
theorem cel_akey_take (e : AKey) : List.take 2 (Cel.c e) = Cel.c e := rfl
attribute [go_sem] cel_akey_sz cel_akey_take
def cmpAK (a b : AKey) : Int := orL [cmpI a.d b.d, cmpB a.n b.n]
def akLt (a b : AKey) : Prop := a.d < b.d ∨ (a.d = b.d ∧ a.n.toList < b.n.toList)
theorem int_m1 : Int.negSucc 0 = -1 := rfl
attribute [go_sem] int_m1
section
variable [G : Glb]
theorem isNaN_ok (a : Int) : AFn Tryz.prog 159 [.int .i64 a] [] (fun v rs => v = .bool false ∧ rs = []) := by
  refine afn Tryz.func159 a159_ok (by simp [a159, s159]) ?_
  simp only [go_sem,a159,s159,bne_self_eq_false]
  exact Cl.fin rfl ⟨rfl, rfl⟩
theorem cmp_ok (a b : Int) : AFn Tryz.prog 74 [.int .i64 a, .int .i64 b] [] (fun v rs => v = .int .i64 (cmpI a b) ∧ rs = []) := by
  refine afn Tryz.func74 a74_ok (by simp [a74, s74]) ?_
  simp only [go_sem,a74,s74]
  refine callC_det (isNaN_ok a) rfl rfl ?_
  simp only [go_sem]
  refine callC_det (isNaN_ok b) rfl rfl ?_
  simp only [go_sem]
  unfold cmpI
  by_cases h1 : a < b
  · simp only [go_sem,h1]
    exact Cl.fin rfl ⟨rfl, rfl⟩
  · by_cases h2 : b < a <;> simp only [go_sem,h1,h2] <;> exact Cl.fin rfl ⟨rfl,rfl⟩
theorem isNaNs_ok (a : ByteArray) : AFn Tryz.prog 208 [.str a] [] (fun v rs => v = .bool false ∧ rs = []) := by
  refine afn Tryz.func208 a208_ok (by simp [a208, s208]) ?_
  simp only [go_sem,a208,s208,beq_self_eq_true,Bool.not_true]
  exact Cl.fin rfl ⟨rfl, rfl⟩
theorem cmpB_ok (a b : ByteArray) : AFn Tryz.prog 124 [.str a, .str b] [] (fun v rs => v = .int .i64 (cmpB a b) ∧ rs = []) := by
  refine afn Tryz.func124 a124_ok (by simp [a124, s124]) ?_
  simp only [go_sem,a124,s124]
  refine callC_det (isNaNs_ok a) rfl rfl ?_
  simp only [go_sem]
  refine callC_det (isNaNs_ok b) rfl rfl ?_
  simp only [go_sem]
  unfold cmpB
  rw [bl_eq]
  by_cases h1 : a.toList < b.toList
  · simp only [go_sem,h1]
    exact Cl.fin rfl ⟨rfl, rfl⟩
  · by_cases h2 : b.toList < a.toList
    · have h3 : (a.toList == b.toList) = false := by
        rw [beq_eq_false_iff_ne]
        exact fun e => bl_irrefl _ (e ▸ h2)
      simp only [go_sem,h1,h2,h3,bl_eq]
      exact Cl.fin rfl ⟨rfl, rfl⟩
    · have h3 : (a.toList == b.toList) = true := by
        rw [beq_iff_eq]
        rcases bl_tri h1 with e | e
        · exact e
        · exact absurd e h2
      simp only [go_sem,h1,h2,h3,bl_eq]
      exact Cl.fin rfl ⟨rfl, rfl⟩

theorem or_ok (xs : List Int) (hx : xs.length ≤ 1000) : AFn Tryz.prog 123 [.own 0 xs.length 0 xs.length] [.live 3 1 (numsE .i64 xs)] (fun v rs => v = .int .i64 (orL xs) ∧ rs = [.live 3 1 (numsE .i64 xs)]) := by
  refine afn Tryz.func123 a123_ok (by simp [a123, s123]) ?_
  simp only [go_sem,a123,s123]
  refine avc_loop (fun env rows => ∃ i : Nat, i ≤ xs.length ∧ orL xs = orL (xs.drop i) ∧ env = [(3, .int .i64 0), (6, .own 0 xs.length 0 xs.length), (7, .int .i64 xs.length), (8, .int .i64 i)] ∧ rows = [.live 3 1 (numsE .i64 xs)])
    (fun env _ => match slot env 8 with | .int _ j => (xs.length - j).toNat | _ => 0) ?_ ?_
  · exact Cl.here ⟨0, by omega, rfl, rfl, rfl⟩
  · rintro env rows ⟨i, hi, hor, rfl, rfl⟩
    have hw : IntKind.i64.wrap ((i : Int) + 1) = ((i + 1 : Nat) : Int) := by rw [wrap_i64 (by omega) (by omega)]; omega
    simp only [go_sem,a123,s123]
    refine condC_intro ?_ ?_ <;> intro hg2 <;> simp only [decide_eq_true_eq,decide_eq_false_iff_not,beq_iff_eq,beq_eq_false_iff_ne,bne_iff_ne,bne_eq_false_iff_eq,Bool.not_eq_true',Bool.not_eq_false',Int.not_lt,Int.not_le,ne_eq,Bool.and_eq_true,Bool.or_eq_true,Bool.or_eq_false_iff,Bool.and_eq_false_iff] at hg2 <;> simp only [go_sem,a123,s123]
    · have hlt : i < xs.length := by omega
      have hget : (numsE .i64 xs).getD i [] = [.int .i64 xs[i]] := by rw [numsE_getD hlt, List.getD_eq_getElem?_getD, List.getElem?_eq_getElem hlt, Option.getD_some]
      rw [orL_drop hlt] at hor
      refine ⟨by omega, by omega, ?_⟩
      simp only [Int.toNat_natCast, hget]
      simp only [go_sem]
      refine condC_intro ?_ ?_ <;> intro hg3 <;> simp only [decide_eq_true_eq,decide_eq_false_iff_not,beq_iff_eq,beq_eq_false_iff_ne,bne_iff_ne,bne_eq_false_iff_eq,Bool.not_eq_true',Bool.not_eq_false',Int.not_lt,Int.not_le,ne_eq,Bool.and_eq_true,Bool.or_eq_true,Bool.or_eq_false_iff,Bool.and_eq_false_iff] at hg3 <;> simp only [go_sem,a123,s123,hw]
      · exact Cl.here ⟨by rw [hor, if_neg hg3]; rfl, rfl⟩
      · rw [if_pos hg3] at hor
        refine Cl.here ⟨⟨i + 1, by omega, hor, rfl, rfl⟩, ?_⟩
        simp only [go_sem]
        omega
    · obtain rfl : i = xs.length := by omega
      rw [List.drop_length] at hor
      exact Cl.here ⟨by rw [hor]; rfl, rfl⟩

theorem cmpAK_ok (a b : AKey) : AFn Tryz.prog 122 [.agg (Cel.c a), .agg (Cel.c b)] [] (fun v rs => v = .int .i64 (cmpAK a b) ∧ rs = []) := by
  refine afn Tryz.func122 a122_ok (by simp [a122, s122]) ?_
  simp only [go_sem,a122,s122,cel_akey]
  refine callD_det (cmp_ok _ _) rfl rfl ?_
  simp only [go_sem]
  refine callD_det (cmpB_ok _ _) rfl rfl ?_
  simp only [go_sem]
  (refine callD_of [2] [] (by simp only [go_sem]) (by decide) (by simp only [go_sem] <;> rfl) (by simp only [go_sem] <;> rfl) (or_ok [cmpI a.d b.d,cmpB a.n b.n] (by simp)) ?_; rintro _ _ ⟨rfl,rfl⟩; refine ⟨.inl rfl,?_⟩; simp only [go_sem])
  exact Cl.fin rfl ⟨rfl, rfl⟩
end

theorem cmpI_neg {a b : Int} : cmpI a b < 0 ↔ a < b := by
  unfold cmpI; split
  · simp_all
  · split <;> simp_all
theorem cmpI_zero {a b : Int} : cmpI a b = 0 ↔ a = b := by
  unfold cmpI; split
  · simp; omega
  · split
    · simp; omega
    · simp; omega
theorem cmpB_neg {a b : ByteArray} : cmpB a b < 0 ↔ a.toList < b.toList := by
  unfold cmpB; split
  · simp_all
  · split <;> simp_all
theorem cmpB_zero {a b : ByteArray} : cmpB a b = 0 ↔ a.toList = b.toList := by
  unfold cmpB; split
  · rename_i h
    constructor
    · intro h; cases h
    · intro e; exact absurd h (e ▸ bl_irrefl _)
  · rename_i h; split
    · rename_i h2
      constructor
      · intro h; cases h
      · intro e; exact absurd h2 (e ▸ bl_irrefl _)
    · rename_i h2
      refine ⟨fun _ => ?_, fun _ => rfl⟩
      rcases bl_tri h with e | e
      · exact e
      · exact absurd e h2
theorem cmpAK_neg {a b : AKey} : cmpAK a b < 0 ↔ akLt a b := by
  unfold cmpAK akLt
  simp only [orL]
  by_cases h : cmpI a.d b.d = 0
  · rw [if_pos h]
    have h0 := cmpI_zero.1 h
    by_cases h2 : cmpB a.n b.n = 0
    · rw [if_pos h2]
      have h3 := cmpB_zero.1 h2
      constructor
      · intro h; cases h
      · rintro (h | ⟨_, h⟩)
        · omega
        · exact absurd h (h3 ▸ bl_irrefl _)
    · rw [if_neg h2, cmpB_neg]
      exact ⟨fun h => .inr ⟨h0, h⟩, fun h => by rcases h with h | h; (· omega); exact h.2⟩
  · rw [if_neg h, cmpI_neg]
    have h0 : ¬ a.d = b.d := fun e => h (cmpI_zero.2 e)
    exact ⟨.inl, fun h => by rcases h with h | h; (· exact h); exact absurd h.1 h0⟩

end Go.Proofs.YtpincjkjoeopkaaGreatDoor
