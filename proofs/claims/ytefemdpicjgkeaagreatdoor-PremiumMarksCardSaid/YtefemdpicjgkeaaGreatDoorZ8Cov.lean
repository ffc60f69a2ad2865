/- What a moment shows, and which windows cover it. -/
import Derived.Test.YtefemdpicjgkeaaGreatDoorZ3Gen
import Derived.Test.YtefemdpicjgkeaaGreatDoorAbs41
set_option linter.unusedSimpArgs false
set_option linter.unusedVariables false
set_option linter.unusedSectionVars false
namespace Go.Proofs.YtefemdpicjgkeaaGreatDoor
open Go Go.Abs
set_option linter.unusedSimpArgs false
set_option linter.unusedVariables false

/-- a window of the day -/
structure Win where
  name : ByteArray
  group : ByteArray
  rank : Int
  fr : Int
  to : Int
  wd : Int
  dy : Int
def Win.cells (p : Win) : List AVal := [.str p.name, .str p.group, .int .i64 p.rank, .int .i64 p.fr, .int .i64 p.to, .int .i64 p.wd, .int .i64 p.dy]
instance : Cel Win := ⟨Win.cells, 7, fun _ => rfl, fun _ => rfl, fun _ => rfl⟩
instance : Flt Win := ⟨fun _ => rfl⟩
theorem cel_win (p : Win) : Cel.c p = [.str p.name, .str p.group, .int .i64 p.rank, .int .i64 p.fr, .int .i64 p.to, .int .i64 p.wd, .int .i64 p.dy] := rfl
theorem cel_win_sz : Cel.sz Win = 7 := rfl
attribute [go_sem] cel_win_sz

def bitP (n i : Int) : Bool := n.toNat.testBit i.toNat
theorem bit_i64 {n : Int} {i : Nat} (h0 : 0 ≤ n) (h1 : n < 9223372036854775808) (hi : i ≤ 63) : band .i64 (bshr .i64 n i) 1 = if bitP n i then 1 else 0 := by
  obtain ⟨m, rfl⟩ : ∃ m : Nat, n = m := ⟨n.toNat, by omega⟩
  have hm : m / 2 ^ i ≤ m := Nat.div_le_self _ _
  rw [shr_i64 (by omega), show (1 : Int) = ((1 : Nat) : Int) from rfl, and_i64 (by omega) (by omega)]
  unfold bitP
  rw [Int.toNat_natCast, Int.toNat_natCast, Nat.testBit, Nat.shiftRight_eq_div_pow, Nat.and_comm]
  have h2 : 1 &&& m / 2 ^ i = 0 ∨ 1 &&& m / 2 ^ i = 1 := by
    rw [Nat.and_comm, Nat.and_one_is_mod]; omega
  rcases h2 with h2 | h2 <;> rw [h2] <;> rfl

/-- does a window cover a moment? -/
def covP (w : Win) (time wday : Int) (hol : Bool) : Bool :=
  (if w.to ≤ w.fr then decide (w.fr ≤ time) || decide (time < w.to) else decide (w.fr ≤ time) && decide (time < w.to)) && bitP w.wd wday && (if w.dy = 1 then hol else if w.dy = 2 then !hol else true)

theorem covers_ok (w : Win) (hw0 : 0 ≤ w.wd) (hw1 : w.wd ≤ 127) (time wday : Int) (hol : Bool) (h0 : 0 ≤ wday) (h1 : wday ≤ 6) :
    AFn Tryz.prog 36 [.agg (Cel.c w), .agg [.int .i64 time, .int .i64 wday, .bool hol]] [] (fun v rs => v = .bool (covP w time wday hol) ∧ rs = []) := by
  have hb := bit_i64 (n := w.wd) (i := wday.toNat) hw0 (by omega) (by omega)
  rw [Int.toNat_of_nonneg h0] at hb
  refine afn Tryz.func36 a36_ok (by simp [a36]) ?_
  simp only [go_sem,a36,a36r0,a36r1,a36r2,a36r3,a36r4,a36r5,a36r6,a36r7,a36r8,a36r9,a36r10,a36r11,cel_win]
  cases hbt : bitP w.wd wday <;> rw [hbt] at hb <;> simp only [Bool.false_eq_true, if_false, if_true] at hb
  all_goals (repeat' (first | (refine grdC_intro ?_ ?_ <;> intro hg <;> (have hp := hg; try simp only [decide_eq_true_eq,decide_eq_false_iff_not,beq_iff_eq,beq_eq_false_iff_ne,bne_iff_ne,bne_eq_false_iff_eq,Bool.not_eq_true',Bool.not_eq_false',Int.not_lt,Int.not_le,ne_eq,Bool.and_eq_true,Bool.or_eq_true,Bool.or_eq_false_iff,Bool.and_eq_false_iff] at hp) <;> (first | omega | (simp only [go_sem,hg,a36,a36r0,a36r1,a36r2,a36r3,a36r4,a36r5,a36r6,a36r7,a36r8,a36r9,a36r10,a36r11,hb,h0]; clear hg))) | (refine grdD_intro ?_ ?_ <;> intro hg <;> (have hp := hg; try simp only [decide_eq_true_eq,decide_eq_false_iff_not,beq_iff_eq,beq_eq_false_iff_ne,bne_iff_ne,bne_eq_false_iff_eq,Bool.not_eq_true',Bool.not_eq_false',Int.not_lt,Int.not_le,ne_eq,Bool.and_eq_true,Bool.or_eq_true,Bool.or_eq_false_iff,Bool.and_eq_false_iff] at hp) <;> (first | omega | (simp only [go_sem,hg,a36,a36r0,a36r1,a36r2,a36r3,a36r4,a36r5,a36r6,a36r7,a36r8,a36r9,a36r10,a36r11,hb,h0]; clear hg))) | (refine condC_intro ?_ ?_ <;> intro hg <;> (have hp := hg; try simp only [decide_eq_true_eq,decide_eq_false_iff_not,beq_iff_eq,beq_eq_false_iff_ne,bne_iff_ne,bne_eq_false_iff_eq,Bool.not_eq_true',Bool.not_eq_false',Int.not_lt,Int.not_le,ne_eq,Bool.and_eq_true,Bool.or_eq_true,Bool.or_eq_false_iff,Bool.and_eq_false_iff] at hp) <;> (first | omega | (simp only [go_sem,hg,a36,a36r0,a36r1,a36r2,a36r3,a36r4,a36r5,a36r6,a36r7,a36r8,a36r9,a36r10,a36r11,hb,h0]; clear hg))) | (refine condW_intro ?_ ?_ <;> intro hg <;> (have hp := hg; try simp only [decide_eq_true_eq,decide_eq_false_iff_not,beq_iff_eq,beq_eq_false_iff_ne,bne_iff_ne,bne_eq_false_iff_eq,Bool.not_eq_true',Bool.not_eq_false',Int.not_lt,Int.not_le,ne_eq,Bool.and_eq_true,Bool.or_eq_true,Bool.or_eq_false_iff,Bool.and_eq_false_iff] at hp) <;> (first | omega | (simp only [go_sem,hg,a36,a36r0,a36r1,a36r2,a36r3,a36r4,a36r5,a36r6,a36r7,a36r8,a36r9,a36r10,a36r11,hb,h0]; clear hg)))))
  all_goals (try (refine Cl.fin rfl ⟨congrArg AVal.bool ?_, rfl⟩))

  all_goals (try simp only [decide_eq_true_eq, decide_eq_false_iff_not, beq_iff_eq, beq_eq_false_iff_ne, bne_iff_ne, bne_eq_false_iff_eq, Bool.not_eq_true', Bool.not_eq_false', Int.not_lt, Int.not_le, ne_eq, Bool.and_eq_true, Bool.or_eq_true, Bool.or_eq_false_iff, Bool.and_eq_false_iff] at *)
  all_goals (unfold covP; simp only [hbt, *, if_true, if_false, Bool.and_false, Bool.false_and, Bool.true_and, Bool.and_true, decide_true, decide_false, Bool.or_true, Bool.true_or])
  all_goals (first | done | (split <;> simp <;> omega) | (simp <;> omega))

end Go.Proofs.YtefemdpicjgkeaaGreatDoor
