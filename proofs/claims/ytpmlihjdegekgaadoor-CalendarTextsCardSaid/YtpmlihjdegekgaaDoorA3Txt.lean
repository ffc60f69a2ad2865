/- The texts of days: the reference's. -/
import Derived.Test.YtpmlihjdegekgaaDoorA3Ref3
import Derived.Test.YtpmlihjdegekgaaDoorA3Fmt
import Derived.Test.YtpmlihjdegekgaaDoorAbs41
set_option linter.unusedSimpArgs false
set_option linter.unusedVariables false
set_option linter.unusedSectionVars false
namespace Go.Proofs.YtpmlihjdegekgaaDoor
open Go Go.Abs
set_option linter.unusedSimpArgs false
set_option linter.unusedVariables false

theorem ba_ext {a b : ByteArray} (h : (a.data.toList == b.data.toList) = true) : a = b := by
  have h := eq_of_beq h
  cases a; cases b
  simp only [Array.toList_inj] at h
  subst h
  rfl
def two2 (n : Int) : ByteArray := strOf [48 + n / 10, 48 + n % 10]
def chk2 (n : Nat) : Bool := (two2 n).data.toList == (twoP n).data.toList
theorem chk2_all : (List.range 100).all chk2 = true := by kernel_rfl
theorem two2_eq {n : Int} (h0 : 0 ≤ n) (h1 : n ≤ 99) : two2 n = twoP n := by
  obtain ⟨k, rfl⟩ : ∃ k : Nat, n = k := ⟨n.toNat, by omega⟩
  exact ba_ext (List.all_eq_true.1 chk2_all k (by simp; omega))
theorem bytesE_2 {a b : Int} : bytesE [[.int .u8 a], [.int .u8 b]] = some [a, b] := rfl
theorem bytesE_1 {a : Int} : bytesE [[.int .u8 a]] = some [a] := rfl
theorem strOf_1 (a : Int) : (strOf [a]).size = 1 := rfl
theorem ba_size (a b : ByteArray) : (a ++ b).size = a.size + b.size := by simp [ByteArray.size_append]
theorem rtwo_ok (n : Int) (h0 : 0 ≤ n) (h1 : n ≤ 99) : AFn Tryd.prog 65 [.int .i64 n] [] (fun v rs => v = .str (twoP n) ∧ rs = []) := by
  refine afn Tryd.func65 a65_ok (by simp [a65]) ?_
  rw [← two2_eq h0 h1, two2]
  simp only [go_sem, Nat.reduceAdd, Nat.reduceSub, Nat.reduceMul, Nat.reduceEqDiff, Nat.reduceLT, Nat.reduceLeDiff, Nat.reduceBEq, reduceIte, reduceCtorEq, Int.reduceToNat, Int.reduceLE, Int.reduceLT, Int.reduceBEq, Int.reduceBNe, a65, a65r0, a65r1]
  rw [Int.tdiv_eq_ediv_of_nonneg (by omega), Int.tmod_eq_emod_of_nonneg (by omega), wrap_i64 (x := n / 10) (by omega) (by omega), wrap_i64 (x := 48 + n / 10) (by omega) (by omega), wrap_i64 (x := 48 + n % 10) (by omega) (by omega), wrap_u8, wrap_u8, Int.emod_eq_of_lt (a := 48 + n / 10) (by omega) (by omega), Int.emod_eq_of_lt (a := 48 + n % 10) (by omega) (by omega)]
  refine ⟨by decide, by decide, ?_⟩
  rw [bytesE_2]
  simp only [go_sem, Nat.reduceAdd, Nat.reduceSub, Nat.reduceMul, Nat.reduceEqDiff, Nat.reduceLT, Nat.reduceLeDiff, Nat.reduceBEq, reduceIte, reduceCtorEq, Int.reduceToNat, Int.reduceLE, Int.reduceLT, Int.reduceBEq, Int.reduceBNe]
  exact Cl.fin rfl ⟨rfl, rfl⟩

def dec4 (y : Int) : ByteArray := strOf [48 + y / 10 / 10 / 10 % 10] ++ (strOf [48 + y / 10 / 10 % 10] ++ (strOf [48 + y / 10 % 10] ++ (strOf [48 + y % 10] ++ ⟨#[]⟩)))
def chk4 (n : Nat) : Bool := (dec4 (1970 + n)).data.toList == (itoaS (1970 + n)).data.toList
theorem chk4_all : (List.range 300).all chk4 = true := by kernel_rfl
theorem dec4_eq {y : Int} (h0 : 1970 ≤ y) (h1 : y ≤ 2240) : dec4 y = itoaS y := by
  obtain ⟨k, rfl⟩ : ∃ k : Nat, y = 1970 + k := ⟨(y - 1970).toNat, by omega⟩
  exact ba_ext (List.all_eq_true.1 chk4_all k (by simp; omega))
theorem rsize_ok (n : Int) (h0 : 0 ≤ n) (h1 : n ≤ 9223372036854775807) : AFn Tryd.prog 77 [.int .i64 n] [] (fun v rs => v = .int .u64 n ∧ rs = []) := by
  refine afn Tryd.func77 a77_ok (by simp [a77]) ?_
  have hn : ¬ n < 0 := by omega
  simp only [go_sem, Nat.reduceAdd, Nat.reduceSub, Nat.reduceMul, Nat.reduceEqDiff, Nat.reduceLT, Nat.reduceLeDiff, Nat.reduceBEq, reduceIte, reduceCtorEq, Int.reduceToNat, Int.reduceLE, Int.reduceLT, Int.reduceBEq, Int.reduceBNe, a77, a77r0, a77r1, a77r2, a77r3, hn]
  exact Cl.fin rfl ⟨by rw [wrap_u64 (by omega) (by omega)], rfl⟩
theorem rdec_ok (y : Int) (h0 : 1970 ≤ y) (h1 : y ≤ 2240) : AFn Tryd.prog 64 [.int .i64 y] [] (fun v rs => v = .str (itoaS y) ∧ rs = []) := by
  refine afn Tryd.func64 a64_ok (by simp [a64]) ?_
  simp only [go_sem, Nat.reduceAdd, Nat.reduceSub, Nat.reduceMul, Nat.reduceEqDiff, Nat.reduceLT, Nat.reduceLeDiff, Nat.reduceBEq, reduceIte, reduceCtorEq, Int.reduceToNat, Int.reduceLE, Int.reduceLT, Int.reduceBEq, Int.reduceBNe, a64, a64r0, a64r1, a64r2, a64r3, a64r4, a64r5, a64r6, a64r7, a64r8]
  refine callC_det (rsize_ok y (by omega) (by omega)) rfl rfl ?_
  simp only [go_sem, Nat.reduceAdd, Nat.reduceSub, Nat.reduceMul, Nat.reduceEqDiff, Nat.reduceLT, Nat.reduceLeDiff, Nat.reduceBEq, reduceIte, reduceCtorEq, Int.reduceToNat, Int.reduceLE, Int.reduceLT, Int.reduceBEq, Int.reduceBNe]
  refine avc_loop (fun env rows => ∃ (j : Nat) (m : Int) (s : ByteArray), ((j = 0 ∧ m = y ∧ s = ⟨#[]⟩) ∨ (j = 1 ∧ m = y / 10 ∧ s = strOf [48 + y % 10] ++ ⟨#[]⟩) ∨ (j = 2 ∧ m = y / 10 / 10 ∧ s = strOf [48 + y / 10 % 10] ++ (strOf [48 + y % 10] ++ ⟨#[]⟩)) ∨
      (j = 3 ∧ m = y / 10 / 10 / 10 ∧ s = strOf [48 + y / 10 / 10 % 10] ++ (strOf [48 + y / 10 % 10] ++ (strOf [48 + y % 10] ++ ⟨#[]⟩))) ∨ (j = 4 ∧ m = 0 ∧ s = dec4 y)) ∧ env = [(0, .int .i64 y), (3, .str s), (4, .int .u64 m)] ∧ rows = [])
    (fun env _ => match slot env 4 with | .int _ j => j.toNat | _ => 0) ?_ ?_
  · exact Cl.here ⟨0, y, ⟨#[]⟩, .inl ⟨rfl, rfl, rfl⟩, rfl, rfl⟩
  · rintro env rows ⟨j, m, s, hj, rfl, rfl⟩
    have hm : m = 0 ∨ 0 < m := by omega
    rcases hm with hm | hm
    · subst hm
      have hs : s = dec4 y := by
        rcases hj with ⟨_, h, _⟩ | ⟨_, h, _⟩ | ⟨_, h, _⟩ | ⟨_, h, _⟩ | ⟨_, _, h⟩
        · omega
        · omega
        · omega
        · omega
        · exact h
      have hne : (s.toList == (⟨#[]⟩ : ByteArray).toList) = false := by
        rw [← bytes_eq]
        rw [hs]
        rcases hb : (dec4 y == (⟨#[]⟩ : ByteArray)) with _ | _
        · rfl
        · rw [bytes_eq] at hb
          have := bytes_inj (eq_of_beq hb)
          have h2 := congrArg ByteArray.size this
          rw [dec4, ba_size, strOf_1] at h2
          have h3 : (⟨#[]⟩ : ByteArray).size = 0 := rfl
          omega
      have h0y : ¬ y < 0 := by omega
      simp only [go_sem, Nat.reduceAdd, Nat.reduceSub, Nat.reduceMul, Nat.reduceEqDiff, Nat.reduceLT, Nat.reduceLeDiff, Nat.reduceBEq, reduceIte, reduceCtorEq, Int.reduceToNat, Int.reduceLE, Int.reduceLT, Int.reduceBEq, Int.reduceBNe, a64, a64r0, a64r1, a64r2, a64r3, a64r4, a64r5, a64r6, a64r7, a64r8, hne, h0y]
      exact Cl.fin rfl ⟨by rw [hs, dec4_eq h0 h1], rfl⟩
    · have hsz : s.size ≤ 4 := by
        have he : (⟨#[]⟩ : ByteArray).size = 0 := rfl
        rcases hj with ⟨_, _, h⟩ | ⟨_, _, h⟩ | ⟨_, _, h⟩ | ⟨_, _, h⟩ | ⟨_, h, _⟩
        · rw [h]; decide
        · rw [h]; simp only [ba_size, strOf_1, he]; omega
        · rw [h]; simp only [ba_size, strOf_1, he]; omega
        · rw [h]; simp only [ba_size, strOf_1, he]; omega
        · omega
      have hmb : m ≤ 2240 := by rcases hj with ⟨_, h, _⟩ | ⟨_, h, _⟩ | ⟨_, h, _⟩ | ⟨_, h, _⟩ | ⟨_, h, _⟩ <;> omega
      simp only [go_sem, Nat.reduceAdd, Nat.reduceSub, Nat.reduceMul, Nat.reduceEqDiff, Nat.reduceLT, Nat.reduceLeDiff, Nat.reduceBEq, reduceIte, reduceCtorEq, Int.reduceToNat, Int.reduceLE, Int.reduceLT, Int.reduceBEq, Int.reduceBNe, a64, a64r0, a64r1, a64r2, a64r3, a64r4, a64r5, a64r6, a64r7, a64r8, hm]
      rw [Int.tmod_eq_emod_of_nonneg (by omega), wrap_u64 (x := 48 + m % 10) (by omega) (by omega), wrap_u8, Int.emod_eq_of_lt (a := 48 + m % 10) (by omega) (by omega)]
      refine ⟨by decide, ?_⟩
      rw [bytesE_1]
      simp only [go_sem, Nat.reduceAdd, Nat.reduceSub, Nat.reduceMul, Nat.reduceEqDiff, Nat.reduceLT, Nat.reduceLeDiff, Nat.reduceBEq, reduceIte, reduceCtorEq, Int.reduceToNat, Int.reduceLE, Int.reduceLT, Int.reduceBEq, Int.reduceBNe]
      rw [Int.tdiv_eq_ediv_of_nonneg (by omega), wrap_u64 (x := m / 10) (by omega) (by omega)]
      refine ⟨?_, by decide, ?_⟩
      · rw [strOf_1]
        show ((1 + s.size : Nat) : Int) ≤ 9223372036854775807
        omega
      · (refine Cl.tr [] [] rfl rfl (by simp only [go_sem, Nat.reduceAdd, Nat.reduceSub, Nat.reduceMul, Nat.reduceEqDiff, Nat.reduceLT, Nat.reduceLeDiff, Nat.reduceBEq, reduceIte, reduceCtorEq, Int.reduceToNat, Int.reduceLE, Int.reduceLT, Int.reduceBEq, Int.reduceBNe] <;> rfl) ?_; simp only [go_sem, Nat.reduceAdd, Nat.reduceSub, Nat.reduceMul, Nat.reduceEqDiff, Nat.reduceLT, Nat.reduceLeDiff, Nat.reduceBEq, reduceIte, reduceCtorEq, Int.reduceToNat, Int.reduceLE, Int.reduceLT, Int.reduceBEq, Int.reduceBNe])
        refine Cl.here ⟨⟨j + 1, m / 10, strOf [48 + m % 10] ++ s, ?_, rfl, rfl⟩, ?_⟩
        · rcases hj with ⟨rfl, rfl, rfl⟩ | ⟨rfl, rfl, rfl⟩ | ⟨rfl, rfl, rfl⟩ | ⟨rfl, rfl, rfl⟩ | ⟨_, h, _⟩
          · exact .inr (.inl ⟨rfl, rfl, rfl⟩)
          · exact .inr (.inr (.inl ⟨rfl, rfl, rfl⟩))
          · exact .inr (.inr (.inr (.inl ⟨rfl, rfl, rfl⟩)))
          · exact .inr (.inr (.inr (.inr ⟨rfl, by omega, rfl⟩)))
          · omega
        · simp only [go_sem, Nat.reduceAdd, Nat.reduceSub, Nat.reduceMul, Nat.reduceEqDiff, Nat.reduceLT, Nat.reduceLeDiff, Nat.reduceBEq, reduceIte, reduceCtorEq, Int.reduceToNat, Int.reduceLE, Int.reduceLT, Int.reduceBEq, Int.reduceBNe]
          omega

def fmtS (d : Int) : ByteArray := if okD d then fmtP d else ⟨#[]⟩
theorem Format_any (d : Int) : AFn Tryd.prog 43 [.int .i64 d] [] (fun v rs => v = .str (fmtS d) ∧ rs = []) := by
  unfold fmtS
  by_cases hd : okD d
  · rw [if_pos hd]; exact Format_ok d hd
  · rw [if_neg hd]
    refine afn Tryd.func43 a43_ok (by simp [a43]) ?_
    have hA := date_okc d
    rw [if_neg hd] at hA
    simp only [go_sem, Nat.reduceAdd, Nat.reduceSub, Nat.reduceMul, Nat.reduceEqDiff, Nat.reduceLT, Nat.reduceLeDiff, Nat.reduceBEq, reduceIte, reduceCtorEq, Int.reduceToNat, Int.reduceLE, Int.reduceLT, Int.reduceBEq, Int.reduceBNe, a43, a43r0, a43r1, a43r2, a43r3, a43r4]
    refine callC_det hA rfl rfl ?_
    simp only [go_sem, Nat.reduceAdd, Nat.reduceSub, Nat.reduceMul, Nat.reduceEqDiff, Nat.reduceLT, Nat.reduceLeDiff, Nat.reduceBEq, reduceIte, reduceCtorEq, Int.reduceToNat, Int.reduceLE, Int.reduceLT, Int.reduceBEq, Int.reduceBNe]
    exact Cl.fin rfl ⟨rfl, rfl⟩
theorem rFormat_any (d : Int) : AFn Tryd.prog 40 [.int .i64 d] [] (fun v rs => v = .str (fmtS d) ∧ rs = []) := by
  refine afn Tryd.func40 a40_ok (by simp [a40]) ?_
  have hA := rDate_ok d
  unfold fmtS
  by_cases hd : okD d
  rotate_left
  · rw [if_neg hd] at hA ⊢
    simp only [go_sem, Nat.reduceAdd, Nat.reduceSub, Nat.reduceMul, Nat.reduceEqDiff, Nat.reduceLT, Nat.reduceLeDiff, Nat.reduceBEq, reduceIte, reduceCtorEq, Int.reduceToNat, Int.reduceLE, Int.reduceLT, Int.reduceBEq, Int.reduceBNe, a40, a40r0, a40r1, a40r2, a40r3, a40r4]
    refine callC_det hA rfl rfl ?_
    simp only [go_sem, Nat.reduceAdd, Nat.reduceSub, Nat.reduceMul, Nat.reduceEqDiff, Nat.reduceLT, Nat.reduceLeDiff, Nat.reduceBEq, reduceIte, reduceCtorEq, Int.reduceToNat, Int.reduceLE, Int.reduceLT, Int.reduceBEq, Int.reduceBNe]
    exact Cl.fin rfl ⟨rfl, rfl⟩
  rw [if_pos hd] at hA ⊢
  obtain ⟨m, r, e1, e2, e3, e4, e5, _⟩ := date_ok (d := d) hd.1 (by have := hd.2; omega)
  obtain ⟨_, _, y1, y2⟩ := year_ok (d := d) hd.1 (by have := hd.2; omega)
  have hl := lenP_bd (y := yearP d) (m := m) (by omega) (by omega)
  have hf : fmtP d = itoaS (yearP d) ++ ⟨#[45]⟩ ++ twoP m ++ ⟨#[45]⟩ ++ twoP (r + 1) := by rw [fmtP, e1]
  rw [e1] at hA
  have s1 := itoaS_size (yearP d) (by omega) (by omega)
  have s2 := twoP_size m (by omega) (by omega)
  have s3 := twoP_size (r + 1) (by omega) (by omega)
  have hD := rdec_ok (yearP d) (by omega) (by omega)
  have hT1 := rtwo_ok m (by omega) (by omega)
  have hT2 := rtwo_ok (r + 1) (by omega) (by omega)
  rw [hf]
  simp only [go_sem, Nat.reduceAdd, Nat.reduceSub, Nat.reduceMul, Nat.reduceEqDiff, Nat.reduceLT, Nat.reduceLeDiff, Nat.reduceBEq, reduceIte, reduceCtorEq, Int.reduceToNat, Int.reduceLE, Int.reduceLT, Int.reduceBEq, Int.reduceBNe, a40, a40r0, a40r1, a40r2, a40r3, a40r4]
  refine callC_det hA rfl rfl ?_
  simp only [go_sem, Nat.reduceAdd, Nat.reduceSub, Nat.reduceMul, Nat.reduceEqDiff, Nat.reduceLT, Nat.reduceLeDiff, Nat.reduceBEq, reduceIte, reduceCtorEq, Int.reduceToNat, Int.reduceLE, Int.reduceLT, Int.reduceBEq, Int.reduceBNe]
  refine callC_det hD rfl rfl ?_
  generalize itoaS (yearP d) = S1 at s1 ⊢
  simp only [go_sem, Nat.reduceAdd, Nat.reduceSub, Nat.reduceMul, Nat.reduceEqDiff, Nat.reduceLT, Nat.reduceLeDiff, Nat.reduceBEq, reduceIte, reduceCtorEq, Int.reduceToNat, Int.reduceLE, Int.reduceLT, Int.reduceBEq, Int.reduceBNe]
  refine ⟨by show ((S1.size + 1 : Nat) : Int) ≤ 9223372036854775807; omega, ?_⟩
  refine callC_det hT1 rfl rfl ?_
  generalize twoP m = S2 at s2 ⊢
  simp only [go_sem, Nat.reduceAdd, Nat.reduceSub, Nat.reduceMul, Nat.reduceEqDiff, Nat.reduceLT, Nat.reduceLeDiff, Nat.reduceBEq, reduceIte, reduceCtorEq, Int.reduceToNat, Int.reduceLE, Int.reduceLT, Int.reduceBEq, Int.reduceBNe]
  refine ⟨by show ((S1.size + 1 + S2.size : Nat) : Int) ≤ 9223372036854775807; omega, ?_⟩
  refine ⟨by show ((S1.size + 1 + S2.size + 1 : Nat) : Int) ≤ 9223372036854775807; omega, ?_⟩
  refine callC_det hT2 rfl rfl ?_
  generalize twoP (r + 1) = S3 at s3 ⊢
  simp only [go_sem, Nat.reduceAdd, Nat.reduceSub, Nat.reduceMul, Nat.reduceEqDiff, Nat.reduceLT, Nat.reduceLeDiff, Nat.reduceBEq, reduceIte, reduceCtorEq, Int.reduceToNat, Int.reduceLE, Int.reduceLT, Int.reduceBEq, Int.reduceBNe]
  refine ⟨by show ((S1.size + 1 + S2.size + 1 + S3.size : Nat) : Int) ≤ 9223372036854775807; omega, ?_⟩
  exact Cl.fin rfl ⟨rfl, rfl⟩

end Go.Proofs.YtpmlihjdegekgaaDoor
