/- Equality of structs, cell by cell. -/
import Derived.Test.YtjacobmkfkmdiaaAbs10
set_option linter.unusedSimpArgs false
set_option linter.unusedVariables false
set_option linter.unusedSectionVars false
namespace Go.Abs
section
variable {P : Program} {C : Ctx}

theorem fits_length : ∀ {ks : List CK} {cs : List AVal}, fits ks cs → cs.length = ks.length
  | [], [], _ => rfl
  | [], c :: cs, h => by simp [fits] at h
  | k :: ks, [], h => by cases k <;> simp [fits] at h
  | .int k :: ks, .int k' n :: cs, h => by simp only [fits] at h; simp [fits_length h.2]
  | .bool :: ks, .bool b :: cs, h => by simp only [fits] at h; simp [fits_length h]
  | .str :: ks, .str s :: cs, h => by simp only [fits] at h; simp [fits_length h]
  | .int _ :: ks, .bool _ :: cs, h | .int _ :: ks, .str _ :: cs, h | .int _ :: ks, .agg _ :: cs, h | .int _ :: ks, .tup _ :: cs, h | .int _ :: ks, .nils :: cs, h | .int _ :: ks, .pure _ _ :: cs, h
  | .int _ :: ks, .own _ _ _ _ :: cs, h | .int _ :: ks, .ref _ _ _ _ :: cs, h | .int _ :: ks, .pref _ _ :: cs, h | .int _ :: ks, .nilp :: cs, h | .int _ :: ks, .junk :: cs, h => by simp [fits] at h
  | .bool :: ks, .int _ _ :: cs, h | .bool :: ks, .str _ :: cs, h | .bool :: ks, .agg _ :: cs, h | .bool :: ks, .tup _ :: cs, h | .bool :: ks, .nils :: cs, h | .bool :: ks, .pure _ _ :: cs, h
  | .bool :: ks, .own _ _ _ _ :: cs, h | .bool :: ks, .ref _ _ _ _ :: cs, h | .bool :: ks, .pref _ _ :: cs, h | .bool :: ks, .nilp :: cs, h | .bool :: ks, .junk :: cs, h => by simp [fits] at h
  | .str :: ks, .int _ _ :: cs, h | .str :: ks, .bool _ :: cs, h | .str :: ks, .agg _ :: cs, h | .str :: ks, .tup _ :: cs, h | .str :: ks, .nils :: cs, h | .str :: ks, .pure _ _ :: cs, h
  | .str :: ks, .own _ _ _ _ :: cs, h | .str :: ks, .ref _ _ _ _ :: cs, h | .str :: ks, .pref _ _ :: cs, h | .str :: ks, .nilp :: cs, h | .str :: ks, .junk :: cs, h => by simp [fits] at h

theorem fits_cons {k : CK} {ks : List CK} {cs : List AVal} (h : fits (k :: ks) cs) : ∃ c rest, cs = c :: rest ∧ fits [k] [c] ∧ fits ks rest := by
  cases cs with
  | nil => cases k <;> simp [fits] at h
  | cons c rest =>
    refine ⟨c, rest, rfl, ?_⟩
    cases k <;> cases c <;> simp [fits] at h ⊢ <;> exact h

theorem fits_append : ∀ {ks ls : List CK} {cs : List AVal}, fits (ks ++ ls) cs → fits ks (cs.take ks.length) ∧ fits ls (cs.drop ks.length)
  | [], ls, cs, h => by simpa [fits] using h
  | k :: ks, ls, cs, h => by
    obtain ⟨c, rest, rfl, h1, h2⟩ := fits_cons h
    obtain ⟨h3, h4⟩ := fits_append h2
    refine ⟨?_, by simpa using h4⟩
    simp only [List.length_cons, List.take_succ_cons]
    cases k <;> cases c <;> simp [fits] at h1 ⊢
    · exact ⟨h1, h3⟩
    · exact h3
    · exact h3

theorem eqCells_append : ∀ {ks : List CK} {as bs cs ds : List AVal}, fits ks as → fits ks bs → eqCells (as ++ cs) (bs ++ ds) = (eqCells as bs && eqCells cs ds)
  | [], as, bs, cs, ds, h, k => by
    have e1 := fits_length h; have e2 := fits_length k
    simp at e1 e2; subst e1; subst e2
    simp [eqCells]
  | k :: ks, as, bs, cs, ds, h, h' => by
    obtain ⟨a, ra, rfl, a1, a2⟩ := fits_cons h
    obtain ⟨b, rb, rfl, b1, b2⟩ := fits_cons h'
    have ih := eqCells_append (cs := cs) (ds := ds) a2 b2
    cases k <;> cases a <;> simp [fits] at a1 <;> cases b <;> simp [fits] at b1 <;> simp [eqCells, ih, Bool.and_assoc]

/-- the value that cells of a type make -/
def Whole (P : Program) (t : TypeId) (vs : List Value) (v : Value) : Prop := (isAggT P t = some true ∧ v = .agg vs.toArray) ∨ (isAggT P t = some false ∧ vs = [v])

theorem run_part {t : TypeId} {n off : Nat} {b : Bool} {vs : List Value} {w : World} (ha : isAggT P t = some b) (hs : sizeT P t = some n) (hl : off + n ≤ vs.length) (h1 : b = false → n = 1) :
    ∃ v, (part t vs.toArray off).run P w = .ok v w ∧ Whole P t ((vs.drop off).take n) v := by
  cases b with
  | true =>
    refine ⟨.agg ((vs.drop off).take n).toArray, ?_, .inl ⟨ha, rfl⟩⟩
    simp only [part, Sem.run_bind, run_isAgg ha, Result.andThen_ok, if_true, run_sizeOf hs, Sem.run_pure]
    congr 2
    apply Array.ext'
    simp only [Array.toList_extract, List.extract_eq_take_drop]
    congr 1
    omega
  | false =>
    have hn := h1 rfl
    subst hn
    refine ⟨vs[off]'(by omega), ?_, .inr ⟨ha, ?_⟩⟩
    · have : off < vs.length := by omega
      simp [part, run_isAgg ha, this]
    · rw [List.drop_eq_getElem_cons (by omega), List.take_succ_cons, List.take_zero]

theorem flatK_agg {d : Nat} {t : TypeId} {ks : List CK} (h : flatK P d t = some ks) : ∃ b, isAggT P t = some b ∧ (b = false → ks.length = 1) := by
  cases d with
  | zero => simp [flatK] at h
  | succ d =>
    simp only [flatK] at h
    unfold isAggT
    split at h
    · rename_i hu; simp at h; subst h; exact ⟨false, by rw [hu], fun _ => rfl⟩
    · rename_i hu; simp at h; subst h; exact ⟨false, by rw [hu], fun _ => rfl⟩
    · rename_i hu; simp at h; subst h; exact ⟨false, by rw [hu], fun _ => rfl⟩
    · rename_i fs hu; exact ⟨true, by rw [hu], fun h => by cases h⟩
    · cases h

theorem eq_run (w : World) : ∀ (d D : Nat) (t : TypeId) (ks : List CK) (xs ys : List AVal) (vx vy : List Value) (x y : Value), flatK P d t = some ks → d ≤ D → fits ks xs → fits ks ys →
    RepL C xs vx → RepL C ys vy → Whole P t vx x → Whole P t vy y → (Op.equalIn D t x y).run P w = .ok (eqCells xs ys) w
  | 0, D, t, ks, xs, ys, vx, vy, x, y, h, _, _, _, _, _, _, _ => by simp [flatK] at h
  | d + 1, 0, t, ks, xs, ys, vx, vy, x, y, h, hd, _, _, _, _, _, _ => by omega
  | d + 1, D + 1, t, ks, xs, ys, vx, vy, x, y, h, hd, fx, fy, rx, ry, hx, hy => by
    have scalar : isAggT P t = some false → ∀ {k : CK}, ks = [k] → ∃ a b, xs = [a] ∧ ys = [b] ∧ Rep C a x ∧ Rep C b y := by
      intro hag k hk
      subst hk
      have l1 := fits_length fx; have l2 := fits_length fy
      rcases hx with ⟨h1, _⟩ | ⟨_, rfl⟩
      · rw [hag] at h1; cases h1
      rcases hy with ⟨h1, _⟩ | ⟨_, rfl⟩
      · rw [hag] at h1; cases h1
      obtain ⟨a, rfl, ra⟩ := repL1 rx
      obtain ⟨b, rfl, rb⟩ := repL1 ry
      exact ⟨a, b, rfl, rfl, ra, rb⟩
    simp only [flatK] at h
    split at h
    · rename_i k hu
      simp at h
      obtain ⟨a, b, rfl, rfl, ra, rb⟩ := scalar (by simp [isAggT, hu]) h.symm
      subst h
      cases a <;> simp [fits] at fx <;> cases b <;> simp [fits] at fy
      subst fx; subst fy
      rw [Rep] at ra rb
      subst ra; subst rb
      rw [run_equalIn_int w D t _ k _ _ hu]
      simp [eqCells]
    · rename_i hu
      simp at h
      obtain ⟨a, b, rfl, rfl, ra, rb⟩ := scalar (by simp [isAggT, hu]) h.symm
      subst h
      cases a <;> simp [fits] at fx <;> cases b <;> simp [fits] at fy
      rw [Rep] at ra rb
      subst ra; subst rb
      rw [run_equalIn_bool' w D t _ _ hu]
      simp [eqCells]
    · rename_i hu
      simp at h
      obtain ⟨a, b, rfl, rfl, ra, rb⟩ := scalar (by simp [isAggT, hu]) h.symm
      subst h
      cases a <;> simp [fits] at fx <;> cases b <;> simp [fits] at fy
      rw [Rep] at ra rb
      subst ra; subst rb
      rw [run_equalIn_string w D t _ _ hu]
      simp [eqCells]
    · rename_i fs hu
      split at h
      · cases h
      rename_i hst
      have hag : isAggT P t = some true := by simp [isAggT, hu]
      rcases hx with ⟨_, rfl⟩ | ⟨h1, _⟩
      · rcases hy with ⟨_, rfl⟩ | ⟨h1, _⟩
        · have hfo : P.fieldsOf t = fs := by simp [Program.fieldsOf, hu]
          rw [run_equalIn_struct w D t _ _ (by rw [hfo]; exact hu) (by simpa using hst), hfo]
          -- the fields, one by one
          have key : ∀ (fl : List Field) (off : Nat) (ls : List CK), flatFs P (flatK P d) fl off = some ls → off ≤ xs.length → off ≤ ys.length → fits ls (xs.drop off) → fits ls (ys.drop off) →
              (Op.eqFields D vx.toArray vy.toArray fl).run P w = .ok (eqCells (xs.drop off) (ys.drop off)) w := by
            intro fl
            induction fl with
            | nil =>
              intro off ls hl o1 o2 f1 f2
              simp [flatFs] at hl
              subst hl
              have l1 := fits_length f1; have l2 := fits_length f2
              rw [List.eq_nil_of_length_eq_zero l1, List.eq_nil_of_length_eq_zero l2]
              simp [Op.eqFields, eqCells]
            | cons f fl ih =>
              intro off ls hl o1 o2 f1 f2
              simp only [flatFs] at hl
              split at hl
              · rename_i hnm
                obtain ⟨hnm, hoff⟩ := hnm
                split at hl
                · rename_i k1 hk1
                  split at hl
                  · rename_i hsz
                    split at hl
                    · rename_i rest hrest
                      simp at hl
                      subst hl
                      obtain ⟨f11, f12⟩ := fits_append f1
                      obtain ⟨f21, f22⟩ := fits_append f2
                      obtain ⟨b, hb, hb1⟩ := flatK_agg hk1
                      have lx := rx.length; have ly := ry.length
                      have l1 := fits_length f1; have l2 := fits_length f2
                      simp only [List.length_drop, List.length_append] at l1 l2
                      by_cases hz : off + k1.length ≤ xs.length ∧ off + k1.length ≤ ys.length
                      · obtain ⟨v1, p1, w1⟩ := run_part (P := P) (w := w) (off := off) (vs := vx) hb hsz (by omega) hb1
                        obtain ⟨v2, p2, w2⟩ := run_part (P := P) (w := w) (off := off) (vs := vy) hb hsz (by omega) hb1
                        have e1 := eq_run w d D f.type k1 ((xs.drop off).take k1.length) ((ys.drop off).take k1.length) ((vx.drop off).take k1.length) ((vy.drop off).take k1.length) v1 v2 hk1 (by omega) f11 f21 ((rx.drop off).take _) ((ry.drop off).take _) w1 w2
                        rw [List.drop_drop] at f12 f22
                        have e2 := ih (off + k1.length) rest hrest (by omega) (by omega) f12 f22
                        have e3 : eqCells (xs.drop off) (ys.drop off) = (eqCells ((xs.drop off).take k1.length) ((ys.drop off).take k1.length) && eqCells (xs.drop (off + k1.length)) (ys.drop (off + k1.length))) := by
                          rw [← eqCells_append f11 f21, ← List.drop_drop, ← List.drop_drop, List.take_append_drop, List.take_append_drop]
                        simp only [Op.eqFields, hnm, ne_eq, not_false_eq_true, if_true, Sem.run_bind, hoff, p1, p2, Result.andThen_ok, e1, Sem.run_ite, e2, e3, Sem.run_pure]
                        cases eqCells ((xs.drop off).take k1.length) ((ys.drop off).take k1.length) <;> simp
                      · exfalso; omega
                    · cases hl
                  · cases hl
                · cases hl
              · cases hl
          have := key fs.toList 0 ks h (by simp) (by simp) (by simpa using fx) (by simpa using fy)
          simpa using this
        · rw [hag] at h1; cases h1
      · rw [hag] at h1; cases h1
    · cases h

end
end Go.Abs
