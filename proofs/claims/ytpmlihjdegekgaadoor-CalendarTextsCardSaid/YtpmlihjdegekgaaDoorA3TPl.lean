/- The texts of days: a text that is parsed is the text of its day. -/
import Derived.Test.YtpmlihjdegekgaaDoorA3Prs
import Derived.Test.YtpmlihjdegekgaaDoorA3Pl
set_option linter.unusedSimpArgs false
set_option linter.unusedVariables false
set_option linter.unusedSectionVars false
namespace Go.Proofs.YtpmlihjdegekgaaDoor
open Go Go.Abs
set_option linter.unusedSimpArgs false
set_option linter.unusedVariables false

theorem dl_list (s : ByteArray) : dl s = s.data.toList.map (fun b => (b.toNat : Int)) := by
  apply List.ext_getElem
  · rw [dl, List.length_map, List.length_map, List.length_range]; rfl
  · intro i h1 h2
    have hi : i < s.data.size := by rw [List.length_map] at h2; exact h2
    simp [dl, byt, hi]
    rw [Array.getElem?_eq_getElem hi]; rfl
theorem ext_list (s : ByteArray) (a b : Nat) : (s.extract a b).data.toList = (s.data.toList.take b).drop a := by
  rw [ByteArray.data_extract, Array.toList_extract, List.extract_eq_take_drop, List.drop_take]
theorem dg_cons {n b y : Int} {l : List Int} (h : dg n (b :: l) = some y) : 48 ≤ b ∧ b ≤ 57 ∧ dg (10 * n + (b - 48)) l = some y := by
  rw [dg] at h
  split at h
  · exact absurd h (by simp)
  · exact ⟨by omega, by omega, h⟩
theorem dg_nil {n y : Int} (h : dg n [] = some y) : n = y := by rw [dg] at h; exact Option.some.inj h
theorem ba_list {a b : ByteArray} (h : a.data.toList = b.data.toList) : a = b := ba_ext (by rw [h]; exact beq_self_eq_true _)
theorem byte_of {x : Int} {c : UInt8} (h : x = (c.toNat : Int)) : UInt8.ofNat x.toNat = c := by
  subst h
  rw [Int.toNat_natCast]
  exact UInt8.ofNat_toNat
theorem list10 {α} {l : List α} (h : l.length = 10) : ∃ a b c d e f g i j k, l = [a, b, c, d, e, f, g, i, j, k] := by
  match l, h with
  | [a, b, c, d, e, f, g, i, j, k], _ => exact ⟨a, b, c, d, e, f, g, i, j, k, rfl⟩
theorem app_list (a b : ByteArray) : (a ++ b).data.toList = a.data.toList ++ b.data.toList := by rw [ByteArray.data_append, Array.toList_append]
theorem str1 (x : Int) : (strOf [x]).data.toList = [UInt8.ofNat x.toNat] := rfl
theorem str2 (x y : Int) : (strOf [x, y]).data.toList = [UInt8.ofNat x.toNat, UInt8.ofNat y.toNat] := rfl
theorem parse_fmt {s : ByteArray} (h : (parseP s).2 = true) : okD (parseP s).1 ∧ fmtP (parseP s).1 = s := by
  rw [parseP] at h ⊢
  split at h
  rotate_left
  · exact absurd h (by simp)
  rename_i hc
  rw [if_pos hc]
  obtain ⟨c0, c4, c7⟩ := hc
  generalize e1 : digP (s.extract 0 4) = d1 at h ⊢
  generalize e2 : digP (s.extract 5 7) = d2 at h ⊢
  generalize e3 : digP (s.extract 8 10) = d3 at h ⊢
  rcases d1 with _ | y
  · exact absurd h (by simp)
  rcases d2 with _ | m
  · exact absurd h (by simp)
  rcases d3 with _ | d
  · exact absurd h (by simp)
  simp only at h ⊢
  rw [dayP] at h ⊢
  split at h
  rotate_left
  · exact absurd h (by simp)
  rename_i hk
  rw [if_pos hk]
  obtain ⟨y0, y1, m0, m1, k0, k1⟩ := hk
  obtain ⟨M, rfl⟩ : ∃ M : Nat, m = M := ⟨m.toNat, by omega⟩
  have hnum : numP y M d = beginP y + sumL y (M - 1) + (d - 1) := by
    rw [numP]
    have : ((M : Int) - 1).toNat = M - 1 := by omega
    rw [this]; omega
  have hD := date_okD (y := y) (m := M) (r := d - 1) y0 y1 (by omega) (by omega) (by omega) (by omega)
  obtain ⟨u1, u2⟩ := date_unique (y := y) (m := M) (r := d - 1) y0 y1 (by omega) (by omega) (by omega) (by omega)
  rw [← hnum] at hD u1 u2
  refine ⟨hD, ?_⟩
  have hl31 := lenP_bd (y := y) (m := M) (by omega) (by omega)
  show fmtP (numP y M d) = s
  rw [fmtP, u1, u2]
  show itoaS y ++ ⟨#[45]⟩ ++ twoP M ++ ⟨#[45]⟩ ++ twoP (d - 1 + 1) = s
  rw [← dec4_eq (by omega) (by omega), ← two2_eq (n := M) (by omega) (by omega), ← two2_eq (n := d - 1 + 1) (by omega) (by omega), dec4, two2, two2]
  have hlen : s.data.toList.length = 10 := c0
  rw [digP, dl_list, ext_list] at e1 e2 e3
  have c4' : s.data.toList.getD 4 0 = 45 := by
    have : (s.data.getD 4 0).toNat = 45 := by unfold byt at c4; omega
    have h2 : s.data.getD 4 0 = 45 := by rw [← UInt8.toNat_inj]; exact this
    rw [← h2]; simp
  have c7' : s.data.toList.getD 7 0 = 45 := by
    have : (s.data.getD 7 0).toNat = 45 := by unfold byt at c7; omega
    have h2 : s.data.getD 7 0 = 45 := by rw [← UInt8.toNat_inj]; exact this
    rw [← h2]; simp
  apply ba_list
  simp only [app_list, str1, str2]
  generalize s.data.toList = L at *
  obtain ⟨b0, b1, b2, b3, b4, b5, b6, b7, b8, b9, rfl⟩ := list10 hlen
  have e1 : dg 0 [(b0.toNat : Int), b1.toNat, b2.toNat, b3.toNat] = some y := e1
  have e2 : dg 0 [(b5.toNat : Int), b6.toNat] = some (M : Int) := e2
  have e3 : dg 0 [(b8.toNat : Int), b9.toNat] = some d := e3
  have c4' : b4 = 45 := c4'
  have c7' : b7 = 45 := c7'
  obtain ⟨x0, x1, e1⟩ := dg_cons e1
  obtain ⟨x2, x3, e1⟩ := dg_cons e1
  obtain ⟨x4, x5, e1⟩ := dg_cons e1
  obtain ⟨x6, x7, e1⟩ := dg_cons e1
  have e1 := dg_nil e1
  obtain ⟨w0, w1, e2⟩ := dg_cons e2
  obtain ⟨w2, w3, e2⟩ := dg_cons e2
  have e2 := dg_nil e2
  obtain ⟨v0, v1, e3⟩ := dg_cons e3
  obtain ⟨v2, v3, e3⟩ := dg_cons e3
  have e3 := dg_nil e3
  rw [c4', c7', byte_of (c := b0) (by omega), byte_of (c := b1) (by omega), byte_of (c := b2) (by omega), byte_of (c := b3) (by omega), byte_of (c := b5) (by omega), byte_of (c := b6) (by omega), byte_of (c := b8) (by omega), byte_of (c := b9) (by omega)]
  rfl
end Go.Proofs.YtpmlihjdegekgaaDoor
