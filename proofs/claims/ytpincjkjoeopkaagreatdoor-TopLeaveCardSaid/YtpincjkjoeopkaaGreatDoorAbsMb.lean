/- Abs11, Abs11m, Abs12, Abs13, Abs14, Abs15, Abs16, Abs17 joined. -/
import Derived.Test.YtpincjkjoeopkaaGreatDoorAbsMa
import Derived.Maps.RangeRun
import Derived.MapKept
import Derived.Laws.StructEq
import Derived.Laws.BytesString
import Derived.Deep.LoopGhost
set_option linter.unusedSimpArgs false
set_option linter.unusedVariables false
set_option linter.unusedSectionVars false
section
/- Equality of structs, cell by cell. -/
namespace Go.Abs
variable [Dr]
section
variable {P : Program} {C : Ctx}

theorem fits_length : ∀ {ks : List CK} {cs : List AVal}, fits ks cs → cs.length = ks.length
  | [], [], _ => rfl
  | [], c :: cs, h => by simp [fits] at h
  | k :: ks, [], h => by cases k <;> simp [fits] at h
  | .int k :: ks, .int k' n :: cs, h => by simp only [fits] at h; simp [fits_length h.2]
  | .bool :: ks, .bool b :: cs, h => by simp only [fits] at h; simp [fits_length h]
  | .str :: ks, .str s :: cs, h => by simp only [fits] at h; simp [fits_length h]
  | .int _ :: ks, .bool _ :: cs, h | .int _ :: ks, .str _ :: cs, h | .int _ :: ks, .agg _ :: cs, h | .int _ :: ks, .tup _ :: cs, h | .int _ :: ks, .nils :: cs, h | .int _ :: ks, .pure _ _ :: cs, h
  | .int _ :: ks, .own _ _ _ _ :: cs, h | .int _ :: ks, .ref _ _ _ _ :: cs, h | .int _ :: ks, .pref _ _ :: cs, h | .int _ :: ks, .nilp :: cs, h | .int _ :: ks, .junk :: cs, h => by simp [fits] at h
  | .bool :: ks, .int _ _ :: cs, h | .bool :: ks, .str _ :: cs, h | .bool :: ks, .agg _ :: cs, h | .bool :: ks, .tup _ :: cs, h | .bool :: ks, .nils :: cs, h | .bool :: ks, .pure _ _ :: cs, h
  | .bool :: ks, .own _ _ _ _ :: cs, h | .bool :: ks, .ref _ _ _ _ :: cs, h | .bool :: ks, .pref _ _ :: cs, h | .bool :: ks, .nilp :: cs, h | .bool :: ks, .junk :: cs, h => by simp [fits] at h
  | .str :: ks, .int _ _ :: cs, h | .str :: ks, .bool _ :: cs, h | .str :: ks, .agg _ :: cs, h | .str :: ks, .tup _ :: cs, h | .str :: ks, .nils :: cs, h | .str :: ks, .pure _ _ :: cs, h
  | .str :: ks, .own _ _ _ _ :: cs, h | .str :: ks, .ref _ _ _ _ :: cs, h | .str :: ks, .pref _ _ :: cs, h | .str :: ks, .nilp :: cs, h | .str :: ks, .junk :: cs, h => by simp [fits] at h

theorem fits_cons {k : CK} {ks : List CK} {cs : List AVal} (h : fits (k :: ks) cs) : ∃ c rest, cs = c :: rest ∧ fits [k] [c] ∧ fits ks rest := by
  cases cs with
  | nil => cases k <;> simp [fits] at h
  | cons c rest =>
    refine ⟨c, rest, rfl, ?_⟩
    cases k <;> cases c <;> simp [fits] at h ⊢ <;> exact h

theorem fits_append : ∀ {ks ls : List CK} {cs : List AVal}, fits (ks ++ ls) cs → fits ks (cs.take ks.length) ∧ fits ls (cs.drop ks.length)
  | [], ls, cs, h => by simpa [fits] using h
  | k :: ks, ls, cs, h => by
    obtain ⟨c, rest, rfl, h1, h2⟩ := fits_cons h
    obtain ⟨h3, h4⟩ := fits_append h2
    refine ⟨?_, by simpa using h4⟩
    simp only [List.length_cons, List.take_succ_cons]
    cases k <;> cases c <;> simp [fits] at h1 ⊢
    · exact ⟨h1, h3⟩
    · exact h3
    · exact h3

theorem eqCells_append : ∀ {ks : List CK} {as bs cs ds : List AVal}, fits ks as → fits ks bs → eqCells (as ++ cs) (bs ++ ds) = (eqCells as bs && eqCells cs ds)
  | [], as, bs, cs, ds, h, k => by
    have e1 := fits_length h; have e2 := fits_length k
    simp at e1 e2; subst e1; subst e2
    simp [eqCells]
  | k :: ks, as, bs, cs, ds, h, h' => by
    obtain ⟨a, ra, rfl, a1, a2⟩ := fits_cons h
    obtain ⟨b, rb, rfl, b1, b2⟩ := fits_cons h'
    have ih := eqCells_append (cs := cs) (ds := ds) a2 b2
    cases k <;> cases a <;> simp [fits] at a1 <;> cases b <;> simp [fits] at b1 <;> simp [eqCells, ih, Bool.and_assoc]

/-- the value that cells of a type make -/
def Whole (P : Program) (t : TypeId) (vs : List Value) (v : Value) : Prop := (isAggT P t = some true ∧ v = .agg vs.toArray) ∨ (isAggT P t = some false ∧ vs = [v])

theorem run_part {t : TypeId} {n off : Nat} {b : Bool} {vs : List Value} {w : World} (ha : isAggT P t = some b) (hs : sizeT P t = some n) (hl : off + n ≤ vs.length) (h1 : b = false → n = 1) :
    ∃ v, (part t vs.toArray off).run P w = .ok v w ∧ Whole P t ((vs.drop off).take n) v := by
  cases b with
  | true =>
    refine ⟨.agg ((vs.drop off).take n).toArray, ?_, .inl ⟨ha, rfl⟩⟩
    simp only [part, Sem.run_bind, run_isAgg ha, Result.andThen_ok, if_true, run_sizeOf hs, Sem.run_pure]
    congr 2
    apply Array.ext'
    simp only [Array.toList_extract, List.extract_eq_take_drop]
    congr 1
    omega
  | false =>
    have hn := h1 rfl
    subst hn
    refine ⟨vs[off]'(by omega), ?_, .inr ⟨ha, ?_⟩⟩
    · have : off < vs.length := by omega
      simp [part, run_isAgg ha, this]
    · rw [List.drop_eq_getElem_cons (by omega), List.take_succ_cons, List.take_zero]

theorem flatK_agg {d : Nat} {t : TypeId} {ks : List CK} (h : flatK P d t = some ks) : ∃ b, isAggT P t = some b ∧ (b = false → ks.length = 1) := by
  cases d with
  | zero => simp [flatK] at h
  | succ d =>
    simp only [flatK] at h
    unfold isAggT
    split at h
    · rename_i hu; simp at h; subst h; exact ⟨false, by rw [hu], fun _ => rfl⟩
    · rename_i hu; simp at h; subst h; exact ⟨false, by rw [hu], fun _ => rfl⟩
    · rename_i hu; simp at h; subst h; exact ⟨false, by rw [hu], fun _ => rfl⟩
    · rename_i fs hu; exact ⟨true, by rw [hu], fun h => by cases h⟩
    · cases h

theorem eq_run (w : World) : ∀ (d D : Nat) (t : TypeId) (ks : List CK) (xs ys : List AVal) (vx vy : List Value) (x y : Value), flatK P d t = some ks → d ≤ D → fits ks xs → fits ks ys →
    RepL C xs vx → RepL C ys vy → Whole P t vx x → Whole P t vy y → (Op.equalIn D t x y).run P w = .ok (eqCells xs ys) w
  | 0, D, t, ks, xs, ys, vx, vy, x, y, h, _, _, _, _, _, _, _ => by simp [flatK] at h
  | d + 1, 0, t, ks, xs, ys, vx, vy, x, y, h, hd, _, _, _, _, _, _ => by omega
  | d + 1, D + 1, t, ks, xs, ys, vx, vy, x, y, h, hd, fx, fy, rx, ry, hx, hy => by
    have scalar : isAggT P t = some false → ∀ {k : CK}, ks = [k] → ∃ a b, xs = [a] ∧ ys = [b] ∧ Rep C a x ∧ Rep C b y := by
      intro hag k hk
      subst hk
      have l1 := fits_length fx; have l2 := fits_length fy
      rcases hx with ⟨h1, _⟩ | ⟨_, rfl⟩
      · rw [hag] at h1; cases h1
      rcases hy with ⟨h1, _⟩ | ⟨_, rfl⟩
      · rw [hag] at h1; cases h1
      obtain ⟨a, rfl, ra⟩ := repL1 rx
      obtain ⟨b, rfl, rb⟩ := repL1 ry
      exact ⟨a, b, rfl, rfl, ra, rb⟩
    simp only [flatK] at h
    split at h
    · rename_i k hu
      simp at h
      obtain ⟨a, b, rfl, rfl, ra, rb⟩ := scalar (by simp [isAggT, hu]) h.symm
      subst h
      cases a <;> simp [fits] at fx <;> cases b <;> simp [fits] at fy
      subst fx; subst fy
      rw [Rep] at ra rb
      subst ra; subst rb
      rw [run_equalIn_int w D t _ k _ _ hu]
      simp [eqCells]
    · rename_i hu
      simp at h
      obtain ⟨a, b, rfl, rfl, ra, rb⟩ := scalar (by simp [isAggT, hu]) h.symm
      subst h
      cases a <;> simp [fits] at fx <;> cases b <;> simp [fits] at fy
      rw [Rep] at ra rb
      subst ra; subst rb
      rw [run_equalIn_bool' w D t _ _ hu]
      simp [eqCells]
    · rename_i hu
      simp at h
      obtain ⟨a, b, rfl, rfl, ra, rb⟩ := scalar (by simp [isAggT, hu]) h.symm
      subst h
      cases a <;> simp [fits] at fx <;> cases b <;> simp [fits] at fy
      rw [Rep] at ra rb
      subst ra; subst rb
      rw [run_equalIn_string w D t _ _ hu]
      simp [eqCells]
    · rename_i fs hu
      split at h
      · cases h
      rename_i hst
      have hag : isAggT P t = some true := by simp [isAggT, hu]
      rcases hx with ⟨_, rfl⟩ | ⟨h1, _⟩
      · rcases hy with ⟨_, rfl⟩ | ⟨h1, _⟩
        · have hfo : P.fieldsOf t = fs := by simp [Program.fieldsOf, hu]
          rw [run_equalIn_struct w D t _ _ (by rw [hfo]; exact hu) (by simpa using hst), hfo]
          -- the fields, one by one
          have key : ∀ (fl : List Field) (off : Nat) (ls : List CK), flatFs P (flatK P d) fl off = some ls → off ≤ xs.length → off ≤ ys.length → fits ls (xs.drop off) → fits ls (ys.drop off) →
              (Op.eqFields D vx.toArray vy.toArray fl).run P w = .ok (eqCells (xs.drop off) (ys.drop off)) w := by
            intro fl
            induction fl with
            | nil =>
              intro off ls hl o1 o2 f1 f2
              simp [flatFs] at hl
              subst hl
              have l1 := fits_length f1; have l2 := fits_length f2
              rw [List.eq_nil_of_length_eq_zero l1, List.eq_nil_of_length_eq_zero l2]
              simp [Op.eqFields, eqCells]
            | cons f fl ih =>
              intro off ls hl o1 o2 f1 f2
              simp only [flatFs] at hl
              split at hl
              · rename_i hnm
                obtain ⟨hnm, hoff⟩ := hnm
                split at hl
                · rename_i k1 hk1
                  split at hl
                  · rename_i hsz
                    split at hl
                    · rename_i rest hrest
                      simp at hl
                      subst hl
                      obtain ⟨f11, f12⟩ := fits_append f1
                      obtain ⟨f21, f22⟩ := fits_append f2
                      obtain ⟨b, hb, hb1⟩ := flatK_agg hk1
                      have lx := rx.length; have ly := ry.length
                      have l1 := fits_length f1; have l2 := fits_length f2
                      simp only [List.length_drop, List.length_append] at l1 l2
                      by_cases hz : off + k1.length ≤ xs.length ∧ off + k1.length ≤ ys.length
                      · obtain ⟨v1, p1, w1⟩ := run_part (P := P) (w := w) (off := off) (vs := vx) hb hsz (by omega) hb1
                        obtain ⟨v2, p2, w2⟩ := run_part (P := P) (w := w) (off := off) (vs := vy) hb hsz (by omega) hb1
                        have e1 := eq_run w d D f.type k1 ((xs.drop off).take k1.length) ((ys.drop off).take k1.length) ((vx.drop off).take k1.length) ((vy.drop off).take k1.length) v1 v2 hk1 (by omega) f11 f21 ((rx.drop off).take _) ((ry.drop off).take _) w1 w2
                        rw [List.drop_drop] at f12 f22
                        have e2 := ih (off + k1.length) rest hrest (by omega) (by omega) f12 f22
                        have e3 : eqCells (xs.drop off) (ys.drop off) = (eqCells ((xs.drop off).take k1.length) ((ys.drop off).take k1.length) && eqCells (xs.drop (off + k1.length)) (ys.drop (off + k1.length))) := by
                          rw [← eqCells_append f11 f21, ← List.drop_drop, ← List.drop_drop, List.take_append_drop, List.take_append_drop]
                        simp only [Op.eqFields, hnm, ne_eq, not_false_eq_true, if_true, Sem.run_bind, hoff, p1, p2, Result.andThen_ok, e1, Sem.run_ite, e2, e3, Sem.run_pure]
                        cases eqCells ((xs.drop off).take k1.length) ((ys.drop off).take k1.length) <;> simp
                      · exfalso; omega
                    · cases hl
                  · cases hl
                · cases hl
              · cases hl
          have := key fs.toList 0 ks h (by simp) (by simp) (by simpa using fx) (by simpa using fy)
          simpa using this
        · rw [hag] at h1; cases h1
      · rw [hag] at h1; cases h1
    · cases h

end
end Go.Abs
end

section
/- Each operation does what its abstract form says: maps, iterators, copies. -/
namespace Go.Abs
variable [Dr]
open Go.ChangeMaps (setBlock)
section
variable {P : Program} {C : Ctx} {K : AVal → List Row → Prop}

theorem keyK_spec {t : TypeId} {ag : Bool} {ks : List CK} (h : keyK P t = some (ag, ks)) : isAggT P t = some ag ∧ flatK P 20 t = some ks := by
  unfold keyK at h
  split at h
  · simp at h; obtain ⟨rfl, rfl⟩ := h; exact ⟨by assumption, by assumption⟩
  · cases h

theorem key_whole {t : TypeId} {ag : Bool} {ks : List CK} (ht : isAggT P t = some ag) {k : AVal} {v : Value} (hf : keyFits ag ks k) (hr : Rep C k v) : ∃ vs, RepL C (acells k) vs ∧ Whole P t vs v := by
  obtain ⟨h1, h2⟩ := hf
  cases k with
  | agg cs =>
    simp [isAg] at h1; subst h1
    rw [Rep] at hr
    obtain ⟨vs, rfl, hr⟩ := hr
    exact ⟨vs.toList, hr, .inl ⟨ht, rfl⟩⟩
  | _ =>
    simp [isAg] at h1; subst h1
    exact ⟨[v], by show RepL C [_] [v]; rw [RepL]; exact ⟨v, [], rfl, hr, by rw [RepL]⟩, .inr ⟨ht, rfl⟩⟩

theorem check_run (w : World) (em : Bool) : ∀ (d D : Nat) (t : TypeId) (ks : List CK) (xs : List AVal) (vx : List Value) (x : Value), flatK P d t = some ks → d ≤ D → fits ks xs → RepL C xs vx → Whole P t vx x → (Instr.checkKey em D t x).run P w = .ok () w
  | 0, D, t, ks, xs, vx, x, h, _, _, _, _ => by simp [flatK] at h
  | d + 1, 0, t, ks, xs, vx, x, h, hd, _, _, _ => by omega
  | d + 1, D + 1, t, ks, xs, vx, x, h, hd, fx, rx, hx => by
    have scalar : isAggT P t = some false → ∀ {k : CK}, ks = [k] → ∃ a, xs = [a] ∧ Rep C a x := by
      intro hag k hk
      subst hk
      rcases hx with ⟨h1, _⟩ | ⟨_, rfl⟩
      · rw [hag] at h1; cases h1
      obtain ⟨a, rfl, ra⟩ := repL1 rx
      exact ⟨a, rfl, ra⟩
    simp only [flatK] at h
    split at h
    · rename_i k hu
      simp at h
      obtain ⟨a, rfl, ra⟩ := scalar (by simp [isAggT, hu]) h.symm
      subst h
      cases a <;> simp [fits] at fx
      rw [Rep] at ra
      subst ra
      simp [Instr.checkKey, run_underlying hu]
    · rename_i hu
      simp at h
      obtain ⟨a, rfl, ra⟩ := scalar (by simp [isAggT, hu]) h.symm
      subst h
      cases a <;> simp [fits] at fx
      rw [Rep] at ra
      subst ra
      simp [Instr.checkKey, run_underlying hu]
    · rename_i hu
      simp at h
      obtain ⟨a, rfl, ra⟩ := scalar (by simp [isAggT, hu]) h.symm
      subst h
      cases a <;> simp [fits] at fx
      rw [Rep] at ra
      subst ra
      simp [Instr.checkKey, run_underlying hu]
    · rename_i fs hu
      split at h
      · cases h
      have hag : isAggT P t = some true := by simp [isAggT, hu]
      rcases hx with ⟨_, rfl⟩ | ⟨h1, _⟩
      · rw [Instr.checkKey]
        simp only [Sem.run_bind, run_underlying hu, Result.andThen_ok]
        rw [← Array.forIn_toList]
        have key : ∀ (fl : List Field) (off : Nat) (ls : List CK), flatFs P (flatK P d) fl off = some ls → off ≤ xs.length → fits ls (xs.drop off) →
            (forIn fl PUnit.unit fun f _ => (do
              if f.name ≠ "_" then
                Instr.checkKey em D f.type (← part f.type vx.toArray f.offset)
                pure (ForInStep.yield PUnit.unit)
              else pure (ForInStep.yield PUnit.unit) : Sem (ForInStep PUnit))).run P w = .ok PUnit.unit w := by
          intro fl
          induction fl with
          | nil => intro off ls hl o1 f1; simp
          | cons f fl ih =>
            intro off ls hl o1 f1
            simp only [flatFs] at hl
            split at hl
            · rename_i hnm
              obtain ⟨hnm, hoff⟩ := hnm
              split at hl
              · rename_i k1 hk1
                split at hl
                · rename_i hsz
                  split at hl
                  · rename_i rest hrest
                    simp at hl
                    subst hl
                    obtain ⟨f11, f12⟩ := fits_append f1
                    obtain ⟨b, hb, hb1⟩ := flatK_agg hk1
                    have lx := rx.length
                    have l1 := fits_length f1
                    simp only [List.length_drop, List.length_append] at l1
                    obtain ⟨v1, p1, w1⟩ := run_part (P := P) (w := w) (off := off) (vs := vx) hb hsz (by omega) hb1
                    have e1 := check_run w em d D f.type k1 ((xs.drop off).take k1.length) ((vx.drop off).take k1.length) v1 hk1 (by omega) f11 ((rx.drop off).take _) w1
                    rw [List.drop_drop] at f12
                    have e2 := ih (off + k1.length) rest hrest (by omega) f12
                    simp only [List.forIn_cons, Sem.run_bind, hnm, ne_eq, not_false_eq_true, if_true, hoff, p1, e1, Result.andThen_ok, Sem.run_pure]
                    exact e2
                  · cases hl
                · cases hl
              · cases hl
            · cases hl
        rw [key fs.toList 0 ks h (by simp) (by simpa using fx)]
        rfl
      · rw [hag] at h1; cases h1
    · cases h

theorem bytes_eq (a b : ByteArray) : (a == b) = (a.toList == b.toList) := beq_toListBytes a b
theorem bytes_inj {a b : ByteArray} (h : a.toList = b.toList) : a = b := by
  have e1 : a.data.toList = b.data.toList := by simpa [ByteArray.toList_eq] using h
  cases a; cases b; simp_all

/-- two keys that are equal are one value -/
theorem cells_same {ks : List CK} : ∀ {xs ys : List AVal} {vx vy : List Value}, fits ks xs → fits ks ys → eqCells xs ys = true → RepL C xs vx → RepL C ys vy → vx = vy := by
  induction ks with
  | nil =>
    intro xs ys vx vy f1 f2 _ r1 r2
    have e1 := fits_length f1; have e2 := fits_length f2
    simp at e1 e2; subst e1; subst e2
    rw [RepL] at r1 r2; rw [r1, r2]
  | cons k ks ih =>
    intro xs ys vx vy f1 f2 he r1 r2
    obtain ⟨a, ra, rfl, a1, a2⟩ := fits_cons f1
    obtain ⟨b, rb, rfl, b1, b2⟩ := fits_cons f2
    rw [RepL] at r1 r2
    obtain ⟨v, rest, rfl, h1, h2⟩ := r1
    obtain ⟨v', rest', rfl, h1', h2'⟩ := r2
    cases k <;> cases a <;> simp [fits] at a1 <;> cases b <;> simp [fits] at b1 <;> simp only [eqCells, Bool.and_eq_true, beq_iff_eq] at he <;> rw [Rep] at h1 h1' <;> subst h1 <;> subst h1'
    · subst a1; subst b1
      rw [ih a2 b2 he.2 h2 h2', he.1]
    · rw [ih a2 b2 he.2 h2 h2', he.1]
    · rw [ih a2 b2 he.2 h2 h2']
      rw [bytes_inj he.1]

theorem key_same {ag : Bool} {ks : List CK} {k k' : AVal} {v v' : Value} (f1 : keyFits ag ks k) (f2 : keyFits ag ks k') (he : isKey k k' = true) (r1 : Rep C k v) (r2 : Rep C k' v') : v = v' := by
  obtain ⟨g1, h1⟩ := f1
  obtain ⟨g2, h2⟩ := f2
  unfold isKey at he
  by_cases ha : ag = true
  · subst ha
    cases k <;> simp [isAg] at g1
    cases k' <;> simp [isAg] at g2
    rw [Rep] at r1 r2
    obtain ⟨vs, rfl, r1⟩ := r1
    obtain ⟨vs', rfl, r2⟩ := r2
    have := cells_same h1 h2 he r1 r2
    rw [Array.toList_inj.1 this]
  · have e1 : acells k = [k] := by cases k <;> first | rfl | (simp [isAg] at g1; exact (ha g1).elim)
    have e2 : acells k' = [k'] := by cases k' <;> first | rfl | (simp [isAg] at g2; exact (ha g2).elim)
    rw [e1] at h1 he
    rw [e2] at h2 he
    have := cells_same h1 h2 he (vx := [v]) (vy := [v']) (by rw [RepL]; exact ⟨_, _, rfl, r1, by rw [RepL]⟩) (by rw [RepL]; exact ⟨_, _, rfl, r2, by rw [RepL]⟩)
    simpa using this

theorem bits_flat {ks : List CK} : ∀ {xs : List AVal} {vx : List Value} (n : Nat), fits ks xs → RepL C xs vx → ((vx.zip vx).all fun (x, y) => Instr.sameBits n x y) = true := by
  induction ks with
  | nil =>
    intro xs vx n f1 r1
    have e1 := fits_length f1
    simp at e1; subst e1
    rw [RepL] at r1; simp [r1]
  | cons k ks ih =>
    intro xs vx n f1 r1
    obtain ⟨a, ra, rfl, a1, a2⟩ := fits_cons f1
    rw [RepL] at r1
    obtain ⟨v, rest, rfl, h1, h2⟩ := r1
    simp only [List.zip_cons_cons, List.all_cons, Bool.and_eq_true]
    refine ⟨?_, ih n a2 h2⟩
    cases k <;> cases a <;> simp [fits] at a1 <;> rw [Rep] at h1 <;> subst h1 <;> simp [Instr.sameBits, bytes_eq]

theorem key_bits {ag : Bool} {ks : List CK} {k : AVal} {v : Value} (f1 : keyFits ag ks k) (r1 : Rep C k v) : Instr.sameBits 10000 v v = true := by
  obtain ⟨g1, h1⟩ := f1
  by_cases ha : ag = true
  · subst ha
    cases k <;> simp [isAg] at g1
    rw [Rep] at r1
    obtain ⟨vs, rfl, r1⟩ := r1
    simp only [Instr.sameBits, beq_self_eq_true, Bool.true_and]
    exact bits_flat 9999 h1 r1
  · have e1 : acells k = [k] := by cases k <;> first | rfl | (simp [isAg] at g1; exact (ha g1).elim)
    rw [e1] at h1
    have := bits_flat (vx := [v]) 10000 h1 (by rw [RepL]; exact ⟨_, _, rfl, r1, by rw [RepL]⟩)
    simpa using this

theorem kpos_lt {k : AVal} : ∀ {ents : List (AVal × AVal)} {i : Nat}, kpos k ents = some i → i < ents.length
  | [], i, h => by simp [kpos] at h
  | p :: ps, i, h => by
    simp only [kpos] at h
    split at h
    · simp at h; subst h; simp
    · cases hp : kpos k ps with
      | none => rw [hp] at h; simp at h
      | some j =>
        rw [hp] at h; simp at h; subst h
        have := kpos_lt hp
        simp; omega
theorem kpos_key {k : AVal} : ∀ {ents : List (AVal × AVal)} {i : Nat}, kpos k ents = some i → isKey k (ents.getD i (.junk, .junk)).1 = true
  | [], i, h => by simp [kpos] at h
  | p :: ps, i, h => by
    simp only [kpos] at h
    split at h
    · rename_i hk; simp at h; subst h; simpa using hk
    · cases hp : kpos k ps with
      | none => rw [hp] at h; simp at h
      | some j =>
        rw [hp] at h; simp at h; subst h
        simpa using kpos_key hp
theorem kfind_pos (k : AVal) : ∀ (ents : List (AVal × AVal)), kfind k ents = (kpos k ents).map fun i => (ents.getD i (.junk, .junk)).2
  | [] => rfl
  | p :: ps => by
    simp only [kfind, kpos]
    split
    · simp
    · rw [kfind_pos k ps]
      cases kpos k ps <;> simp
theorem kput_some {k v : AVal} : ∀ {ents : List (AVal × AVal)} {i : Nat}, kpos k ents = some i → kput k v ents = ents.set i (k, v)
  | [], i, h => by simp [kpos] at h
  | p :: ps, i, h => by
    simp only [kpos] at h
    simp only [kput]
    split at h
    · rename_i hk; simp at h; subst h; simp [hk]
    · rename_i hk
      cases hp : kpos k ps with
      | none => rw [hp] at h; simp at h
      | some j =>
        rw [hp] at h; simp at h; subst h
        rw [if_neg hk, kput_some hp]; simp
theorem kput_none {k v : AVal} : ∀ {ents : List (AVal × AVal)}, kpos k ents = none → kput k v ents = ents ++ [(k, v)]
  | [], _ => rfl
  | p :: ps, h => by
    simp only [kpos] at h
    simp only [kput]
    split at h
    · cases h
    · rename_i hk
      cases hp : kpos k ps with
      | none => rw [if_neg hk, kput_none hp]; simp
      | some j => rw [hp] at h; simp at h

/-- what is found, from 'i' on -/
def found (k : AVal) (ents : List (AVal × AVal)) (es : List MapEntry) (i : Nat) : Option (Nat × Value) := (kpos k ents).map fun j => (i + j, ((es[j]?).map (·.val)).getD undef)

theorem found_cons {k : AVal} {p : AVal × AVal} {ps : List (AVal × AVal)} {e : MapEntry} {es : List MapEntry} {i : Nat} : found k (p :: ps) (e :: es) i = if isKey k p.1 then some (i, e.val) else found k ps es (i + 1) := by
  unfold found
  simp only [kpos]
  split
  · simp
  · cases kpos k ps with
    | none => simp
    | some j => simp; omega

theorem now_same {kt : TypeId} {d : TypeDesc} {ag : Bool} {ks : List CK} (hd : P.underlying kt = some d) (hk : keyK P kt = some (ag, ks)) {k k' : AVal} {v v' : Value} (f1 : keyFits ag ks k) (f2 : keyFits ag ks k') (r1 : Rep C k v) (r2 : Rep C k' v') {b : Bool} (h : Instr.sameNow d v v' = some b) : b = isKey k k' := by
  obtain ⟨hag, hfl⟩ := keyK_spec hk
  unfold Instr.sameNow at h
  split at h
  · rename_i k1 k2 x k3 y
    have : ag = false := by rw [isAggT, hd] at hag; simpa using hag.symm
    subst this
    obtain ⟨g1, f1⟩ := f1
    obtain ⟨g2, f2⟩ := f2
    simp only [flatK, hd, Option.some.injEq] at hfl
    subst hfl
    cases k <;> simp [isAg] at g1 <;> simp [acells, fits] at f1
    cases k' <;> simp [isAg] at g2 <;> simp [acells, fits] at f2
    rw [Rep] at r1 r2
    cases r1; cases r2
    split at h
    · simp at h; rw [← h]; simp [isKey, acells, eqCells]
    · cases h
  · rename_i x y
    have : ag = false := by rw [isAggT, hd] at hag; simpa using hag.symm
    subst this
    obtain ⟨g1, f1⟩ := f1
    obtain ⟨g2, f2⟩ := f2
    simp only [flatK, hd, Option.some.injEq] at hfl
    subst hfl
    cases k <;> simp [isAg] at g1 <;> simp [acells, fits] at f1
    cases k' <;> simp [isAg] at g2 <;> simp [acells, fits] at f2
    rw [Rep] at r1 r2
    cases r1; cases r2
    simp at h; rw [← h]; simp [isKey, acells, eqCells, bytes_eq]
  · rename_i x y
    have : ag = false := by rw [isAggT, hd] at hag; simpa using hag.symm
    subst this
    obtain ⟨g1, f1⟩ := f1
    obtain ⟨g2, f2⟩ := f2
    simp only [flatK, hd, Option.some.injEq] at hfl
    subst hfl
    cases k <;> simp [isAg] at g1 <;> simp [acells, fits] at f1
    cases k' <;> simp [isAg] at g2 <;> simp [acells, fits] at f2
    rw [Rep] at r1 r2
    cases r1; cases r2
    simp at h; rw [← h]; simp [isKey, acells, eqCells]
  · cases h

theorem run_findKey' (w : World) {kt : TypeId} {ag : Bool} {ks : List CK} (hk : keyK P kt = some (ag, ks)) {k : AVal} {v : Value} (f1 : keyFits ag ks k) (r1 : Rep C k v) (ents : List (AVal × AVal)) (es : List MapEntry)
    (hr : RepL C (ents.map (·.1)) (es.map (·.key))) (hf : ∀ p ∈ ents, keyFits ag ks p.1) : (Instr.findKey kt v es).run P w = .ok (found k ents es 0) w := by
  obtain ⟨hag, hfl⟩ := keyK_spec hk
  obtain ⟨d, hd⟩ : ∃ d, P.underlying kt = some d := by
    cases hu : P.underlying kt with
    | none => rw [isAggT, hu] at hag; cases hag
    | some d => exact ⟨d, rfl⟩
  have now : ∀ (ents : List (AVal × AVal)) (es : List MapEntry) (i : Nat) (x : Option (Nat × Value)), RepL C (ents.map (·.1)) (es.map (·.key)) → (∀ p ∈ ents, keyFits ag ks p.1) → Instr.findNow d v es i = some x → x = found k ents es i := by
    intro ents
    induction ents with
    | nil =>
      intro es i x hr _ h
      rw [List.map_nil, RepL] at hr
      have : es = [] := by simpa using hr
      subst this
      simp [Instr.findNow] at h; subst h; rfl
    | cons p ps ih =>
      intro es i x hr hf h
      rw [List.map_cons, RepL] at hr
      obtain ⟨v', rest, he, h1, h2⟩ := hr
      cases es with
      | nil => simp at he
      | cons e es =>
        simp at he
        obtain ⟨rfl, rfl⟩ := he
        rw [found_cons]
        simp only [Instr.findNow] at h
        split at h
        · rename_i hs
          rw [← now_same hd hk f1 (hf p (by simp)) r1 h1 hs]
          simp at h; subst h; rfl
        · rename_i hs
          rw [← now_same hd hk f1 (hf p (by simp)) r1 h1 hs]
          exact ih es (i + 1) x h2 (fun q hq => hf q (by simp [hq])) h
        · cases h
  have ask : ∀ (ents : List (AVal × AVal)) (es : List MapEntry) (i : Nat), RepL C (ents.map (·.1)) (es.map (·.key)) → (∀ p ∈ ents, keyFits ag ks p.1) → (Instr.findAsking kt v es i).run P w = .ok (found k ents es i) w := by
    intro ents
    induction ents with
    | nil =>
      intro es i hr _
      rw [List.map_nil, RepL] at hr
      have : es = [] := by simpa using hr
      subst this
      simp [Instr.findAsking, found, kpos]
    | cons p ps ih =>
      intro es i hr hf
      rw [List.map_cons, RepL] at hr
      obtain ⟨v', rest, he, h1, h2⟩ := hr
      cases es with
      | nil => simp at he
      | cons e es =>
        simp at he
        obtain ⟨rfl, rfl⟩ := he
        obtain ⟨vs, g1, g2⟩ := key_whole hag f1 r1
        obtain ⟨vs', g1', g2'⟩ := key_whole hag (hf p (by simp)) h1
        have e1 := eq_run (C := C) w 20 10000 kt ks (acells k) (acells p.1) vs vs' v e.key hfl (by omega) f1.2 (hf p (by simp)).2 g1 g1' g2 g2'
        rw [found_cons]
        simp only [Instr.findAsking, Op.equal, Op.maxDepth, Sem.run_bind, e1, Result.andThen_ok, Sem.run_ite]
        show (if isKey k p.1 = true then _ else _) = _
        split
        · rfl
        · exact ih es (i + 1) h2 (fun q hq => hf q (by simp [hq]))
  unfold Instr.findKey
  simp only [Sem.run_bind, run_underlying hd, Result.andThen_ok]
  cases hn : Instr.findNow d v es 0 with
  | some x => simp only [Sem.run_pure]; rw [now ents es 0 x hr hf hn]
  | none => exact ask ents es 0 hr hf

theorem check_key (w : World) (em : Bool) {kt : TypeId} {ag : Bool} {ks : List CK} (hk : keyK P kt = some (ag, ks)) {k : AVal} {v : Value} (f1 : keyFits ag ks k) (r1 : Rep C k v) : (Instr.checkKey em 10000 kt v).run P w = .ok () w := by
  obtain ⟨hag, hfl⟩ := keyK_spec hk
  obtain ⟨vs, g1, g2⟩ := key_whole hag f1 r1
  exact check_run (C := C) w em 20 10000 kt ks (acells k) vs v hfl (by omega) f1.2 g1 g2

theorem RepL.getV {C : Ctx} {as : List AVal} {vs : List Value} (i : Nat) (h : RepL C as vs) (hi : i < as.length) {d : AVal} {u : Value} : Rep C (as.getD i d) ((vs[i]?).getD u) := by
  obtain ⟨v, h1, h2⟩ := h.get i hi
  rw [h1]
  have : as.getD i d = as.getD i .junk := by simp [List.getD_eq_getElem?_getD, List.getElem?_eq_getElem hi]
  rw [this]
  exact h2

theorem RepL.setV {C : Ctx} : ∀ {as : List AVal} {vs : List Value} (i : Nat) {a : AVal} {v : Value}, RepL C as vs → Rep C a v → RepL C (as.set i a) (vs.set i v)
  | [], vs, i, a, v, h, _ => by rw [RepL] at h; subst h; simp [RepL]
  | x :: as, vs, i, a, v, h, k => by
    rw [RepL] at h
    obtain ⟨u, rest, rfl, h1, h2⟩ := h
    cases i with
    | zero => rw [List.set_cons_zero, List.set_cons_zero, RepL]; exact ⟨_, _, rfl, k, h2⟩
    | succ i => rw [List.set_cons_succ, List.set_cons_succ, RepL]; exact ⟨_, _, rfl, h1, h2.setV i k⟩

theorem RepL.oneV {C : Ctx} {a : AVal} {v : Value} (h : Rep C a v) : RepL C [a] [v] := by rw [RepL]; exact ⟨_, _, rfl, h, by rw [RepL]⟩

/-- a map of a row -/
structure MapAt (C : Ctx) (r : Nat) (b c : Nat) (es : Array MapEntry) (ag : Bool) (ks : List CK) (ents : List (AVal × AVal)) : Prop where
  phi : C.phi[r]? = some (some (b, c))
  om : ¬ C.om b
  heap : C.w.heap[b]? = some (.map es es.size)
  born : ∀ (i : Nat) (e : MapEntry), es[i]? = some e → e.born = i
  keys : RepL C (ents.map (·.1)) (es.toList.map (·.key))
  vals : RepL C (ents.map (·.2)) (es.toList.map (·.val))
  fits : ∀ p ∈ ents, keyFits ag ks p.1

theorem mapAt (hok : Ok C) {r : Nat} {ag : Bool} {ks : List CK} {ents : List (AVal × AVal)} (hr : C.rows[r]? = some (.obj (.map ag ks ents))) : ∃ b c es, MapAt C r b c es ag ks ents := by
  have := hok.rows r _ hr
  rw [RowOk] at this
  obtain ⟨b, c, es, h1, h2, h3, h4, h5, h6, h7⟩ := this
  exact ⟨b, c, es, h1, h2, h3, h4, h5, h6, h7⟩

theorem MapAt.size {r b c : Nat} {es : Array MapEntry} {ag : Bool} {ks : List CK} {ents : List (AVal × AVal)} (h : MapAt C r b c es ag ks ents) : es.size = ents.length := by
  have := h.keys.length
  simpa using this

theorem MapAt.val {r b c : Nat} {es : Array MapEntry} {ag : Bool} {ks : List CK} {ents : List (AVal × AVal)} (h : MapAt C r b c es ag ks ents) {i : Nat} (hi : i < ents.length) :
    Rep C (ents.getD i (.junk, .junk)).2 (((es.toList[i]?).map (·.val)).getD undef) := by
  have := h.vals.getV i (by simpa using hi) (d := .junk) (u := undef)
  simpa [List.getD_eq_getElem?_getD, List.getElem?_eq_getElem hi] using this
theorem MapAt.key {r b c : Nat} {es : Array MapEntry} {ag : Bool} {ks : List CK} {ents : List (AVal × AVal)} (h : MapAt C r b c es ag ks ents) {i : Nat} (hi : i < ents.length) :
    Rep C (ents.getD i (.junk, .junk)).1 (((es.toList[i]?).map (·.key)).getD undef) := by
  have := h.keys.getV i (by simpa using hi) (d := .junk) (u := undef)
  simpa [List.getD_eq_getElem?_getD, List.getElem?_eq_getElem hi] using this

theorem mref_at (hok : Ok C) {r : Nat} {cx : Value} {ag : Bool} {ks : List CK} {ents : List (AVal × AVal)} (hx : Rep C (.mref r) cx) (hr : C.rows[r]? = some (.obj (.map ag ks ents))) : ∃ b c es, MapAt C r b c es ag ks ents ∧ cx = .map (some b) := by
  obtain ⟨b, c, es, h⟩ := mapAt hok hr
  rw [Rep] at hx
  obtain ⟨_, _, _, hx⟩ := hx
  obtain ⟨b', c', h1, h2⟩ := hx _ hr
  rw [h.phi] at h1
  simp at h1
  obtain ⟨rfl, rfl⟩ := h1
  exact ⟨b, c, es, h, h2⟩

theorem run_look (hok : Ok C) {t kt et : TypeId} {ok ag : Bool} {ks : List CK} {z x k : AVal} {cx ck : Value} (hu : P.underlying t = some (.map kt et)) (hk : keyK P kt = some (ag, ks)) (hz : zeroV P et = some z) (hx : Rep C x cx) (hkr : Rep C k ck)
    (h : evLook C.rows ok ag ks z x k fun v => K v C.rows) : ∃ cv v, (Instr.lookup t cx ck ok).run P C.w = .ok cv C.w ∧ Rep C v cv ∧ K v C.rows := by
  unfold evLook at h
  split at h
  · exact h.elim
  rename_i ents hents
  obtain ⟨hf, hK⟩ := h
  obtain ⟨i, zv, hi, hzv, hzr⟩ := zeroV_spec hz
  have hzrun := run_zero hi hzv C.w
  -- the entries in the model
  have hes : ∃ es : Array MapEntry, ((cx = .map none ∧ es = #[]) ∨ ∃ b c, cx = .map (some b) ∧ C.w.heap[b]? = some (.map es c)) ∧ RepL C (ents.map (·.1)) (es.toList.map (·.key)) ∧ RepL C (ents.map (·.2)) (es.toList.map (·.val)) ∧ ∀ p ∈ ents, keyFits ag ks p.1 := by
    unfold ments at hents
    split at hents
    · rename_i r
      split at hents
      · rename_i ag' ks' ents' hrow
        split at hents
        · rename_i hc
          obtain ⟨rfl, rfl⟩ := hc
          simp at hents; subst hents
          obtain ⟨b, c, es, hm, rfl⟩ := mref_at hok hx hrow
          exact ⟨es, .inr ⟨b, _, rfl, hm.heap⟩, hm.keys, hm.vals, hm.fits⟩
        · cases hents
      · cases hents
    · simp at hents; subst hents
      rw [Rep] at hx
      subst hx
      exact ⟨#[], .inl ⟨rfl, rfl⟩, by simp [RepL], by simp [RepL], by simp⟩
    · cases hents
  obtain ⟨es, hrun, hkeys, hvals, hfits⟩ := hes
  have hfk := run_findKey' (P := P) C.w hk hf hkr ents es.toList hkeys hfits
  have hck := fun em => check_key (P := P) C.w em hk hf hkr
  have hval : Rep C ((kfind k ents).getD z) (((found k ents es.toList 0).map (·.2)).getD zv) := by
    rw [kfind_pos]
    unfold found
    cases hp : kpos k ents with
    | none => exact hzr C
    | some j =>
      have := hvals.getV j (by simpa using kpos_lt hp) (d := .junk) (u := undef)
      simpa [List.getD_eq_getElem?_getD, List.getElem?_eq_getElem (kpos_lt hp)] using this
  have hok' : (found k ents es.toList 0).isSome = (kfind k ents).isSome := by
    rw [kfind_pos]; unfold found; cases kpos k ents <;> rfl
  refine ⟨if ok then .tuple #[((found k ents es.toList 0).map (·.2)).getD zv, .bool (found k ents es.toList 0).isSome] else ((found k ents es.toList 0).map (·.2)).getD zv, _, ?_, ?_, hK⟩
  · unfold Instr.lookup
    simp only [Sem.run_bind, run_underlying hu, Result.andThen_ok]
    rcases hrun with ⟨rfl, rfl⟩ | ⟨b, c, rfl, hb⟩
    · simp only [Sem.run_bind, Sem.run_pure, Result.andThen_ok, hck, hfk]
      cases found k ents (#[] : Array MapEntry).toList 0 with
      | none => simp [hzrun]
      | some q => simp
    · simp only [Sem.run_bind, Go.run_getObj_map _ _ _ _ hb, Sem.run_pure, Result.andThen_ok, hck, hfk]
      cases found k ents es.toList 0 with
      | none => simp [hzrun]
      | some q => simp
  · rw [hok']
    cases ok
    · exact hval
    · simp only [if_true]
      rw [Rep]
      exact ⟨_, rfl, by rw [RepL]; exact ⟨_, _, rfl, hval, RepL.oneV (by rw [Rep])⟩⟩

theorem run_setObj' {w : World} {b : Nat} {es : Array MapEntry} {clock : Nat} (o : Obj) (hb : w.heap[b]? = some (.map es clock)) : (setObj b o).run P w = .ok () { w with heap := w.heap.setIfInBounds b o } := by
  simp [setObj, Sem.run, hb]
/-- the world with another object in a block -/
def objW (w : World) (b : Nat) (o : Obj) : World := { w with heap := w.heap.setIfInBounds b o }
theorem objW_grown (w : World) (b : Nat) (o : Obj) : w.grownBy (objW w b o) (some b) :=
  ⟨rfl, rfl, rfl, by simp [objW], fun k _ hk => by simp [objW, Array.getElem?_setIfInBounds_ne (fun e : b = k => hk (by rw [e]))]⟩
theorem objW_at {w : World} {b : Nat} {o o' : Obj} (h : w.heap[b]? = some o') : (objW w b o).heap[b]? = some o := by
  have := (Array.getElem?_eq_some_iff.1 h).1
  simp [objW, this]

theorem set_map_key {ents : List (AVal × AVal)} {i : Nat} {k v : AVal} : (ents.set i (k, v)).map (·.1) = (ents.map (·.1)).set i k := by simp [List.map_set]
theorem set_map_val {ents : List (AVal × AVal)} {i : Nat} {k v : AVal} : (ents.set i (k, v)).map (·.2) = (ents.map (·.2)).set i v := by simp [List.map_set]

/-- an entry of a map is put, or put anew -/
theorem map_put (hok : Ok C) {r b c : Nat} {es : Array MapEntry} {ag : Bool} {ks : List CK} {ents : List (AVal × AVal)} (hr : C.rows[r]? = some (.obj (.map ag ks ents))) (h : MapAt C r b c es ag ks ents)
    {k v : AVal} {ck cv : Value} (hf : keyFits ag ks k) (hk : Rep C k ck) (hv : Rep C v cv) :
    ∃ es', (match kpos k ents with | some i => es' = es.modify i fun e => { e with key := ck, val := cv } | none => es' = es.push ⟨ck, cv, es.size⟩) ∧
      Ok ⟨C.rows.set r (.obj (.map ag ks (kput k v ents))), C.phi, C.om, objW C.w b (.map es' es'.size), C.pm⟩ ∧ Later C.rows.length C ⟨C.rows.set r (.obj (.map ag ks (kput k v ents))), C.phi, C.om, objW C.w b (.map es' es'.size), C.pm⟩ := by
  have hsz := h.size
  cases hp : kpos k ents with
  | some i =>
    have hi := kpos_lt hp
    have hie : i < es.size := by omega
    refine ⟨_, rfl, set_obj hok hr h.phi _ _ (objW_grown _ _ _) fun C' he ho hw hph => ?_⟩
    rw [RowOk, kput_some hp, set_map_key, set_map_val]
    refine ⟨b, c, es.modify i fun e => { e with key := ck, val := cv }, hph, by rw [ho]; exact h.om, by rw [hw]; exact objW_at h.heap, fun j e hj => ?_, ?_, ?_, fun p hp' => ?_⟩
    · rw [Array.getElem?_modify] at hj
      split at hj
      · subst_vars
        cases hx : es[j]? with
        | none => rw [hx] at hj; simp at hj
        | some e0 => rw [hx] at hj; simp at hj; subst hj; exact h.born j e0 hx
      · exact h.born j e hj
    · have : (es.modify i fun e => { e with key := ck, val := cv }).toList.map (·.key) = (es.toList.map (·.key)).set i ck := by
        apply List.ext_getElem?
        intro j
        simp only [List.getElem?_map, Array.getElem?_toList, Array.getElem?_modify, List.getElem?_set, List.length_map, Array.length_toList]
        split
        · subst_vars
          simp [hie]
        · rfl
      rw [this]
      exact (RepL.ext he _ _ h.keys).setV i (Rep.ext he _ _ hk)
    · have : (es.modify i fun e => { e with key := ck, val := cv }).toList.map (·.val) = (es.toList.map (·.val)).set i cv := by
        apply List.ext_getElem?
        intro j
        simp only [List.getElem?_map, Array.getElem?_toList, Array.getElem?_modify, List.getElem?_set, List.length_map, Array.length_toList]
        split
        · subst_vars
          simp [hie]
        · rfl
      rw [this]
      exact (RepL.ext he _ _ h.vals).setV i (Rep.ext he _ _ hv)
    · rcases List.mem_or_eq_of_mem_set hp' with hp' | rfl
      · exact h.fits p hp'
      · exact hf
  | none =>
    refine ⟨_, rfl, set_obj hok hr h.phi _ _ (objW_grown _ _ _) fun C' he ho hw hph => ?_⟩
    rw [RowOk, kput_none hp]
    refine ⟨b, c, es.push ⟨ck, cv, es.size⟩, hph, by rw [ho]; exact h.om, by rw [hw]; exact objW_at h.heap, fun j e hj => ?_, ?_, ?_, fun p hp' => ?_⟩
    · rw [Array.getElem?_push] at hj
      split at hj
      · subst_vars; simp at hj; subst hj; rfl
      · exact h.born j e hj
    · simp only [List.map_append, List.map_cons, List.map_nil, Array.toList_push]
      exact (RepL.ext he _ _ h.keys).append (RepL.oneV (Rep.ext he _ _ hk))
    · simp only [List.map_append, List.map_cons, List.map_nil, Array.toList_push]
      exact (RepL.ext he _ _ h.vals).append (RepL.oneV (Rep.ext he _ _ hv))
    · rcases List.mem_append.1 hp' with hp' | hp'
      · exact h.fits p hp'
      · simp at hp'; subst hp'; exact hf

theorem stays {ag : Bool} {ks : List CK} {r b c : Nat} {es : Array MapEntry} {ents : List (AVal × AVal)} (h : MapAt C r b c es ag ks ents) {k : AVal} {ck : Value} (hf : keyFits ag ks k) (hk : Rep C k ck) {i : Nat} (hp : kpos k ents = some i) :
    (Instr.keyThatStays (((es[i]?).map (·.key)).getD ck) ck).run P C.w = .ok ck C.w := by
  have hi := kpos_lt hp
  have hsz := h.size
  have h1 := h.key hi
  have hmem : ents.getD i (.junk, .junk) ∈ ents := by rw [List.getD_eq_getElem?_getD, List.getElem?_eq_getElem hi]; simp
  have h2 := key_same hf (h.fits _ hmem) (kpos_key hp) hk h1
  have h3 : ((es[i]?).map (·.key)).getD ck = ck := by
    have hlt : i < es.size := by omega
    rw [Array.getElem?_eq_getElem hlt]
    simpa [hlt] using h2.symm
  rw [h3]
  simp [Instr.keyThatStays, key_bits hf hk]

theorem run_mset (hok : Ok C) {t kt et : TypeId} {ag : Bool} {ks : List CK} {x k v : AVal} {cx ck cv : Value} (hu : P.underlying t = some (.map kt et)) (hk : keyK P kt = some (ag, ks)) (hx : Rep C x cx) (hkr : Rep C k ck) (hv : Rep C v cv) {K : List Row → Prop}
    (h : evMset C.rows ag ks x k v K) : ∃ C', (Instr.mapUpdate t cx ck cv).run P C.w = .ok () C'.w ∧ Ok C' ∧ Later C.rows.length C C' ∧ K C'.rows := by
  unfold evMset at h
  split at h
  · rename_i r
    split at h
    · rename_i ag' ks' ents hrow
      obtain ⟨⟨rfl, rfl⟩, hf, hK⟩ := h
      obtain ⟨b, c, es, hm, rfl⟩ := mref_at hok hx hrow
      obtain ⟨es', he, g1, g2⟩ := map_put hok hrow hm hf hkr hv
      refine ⟨_, ?_, g1, g2, hK⟩
      have hfk := run_findKey' (P := P) C.w hk hf hkr ents es.toList hm.keys hm.fits
      have hck := fun em => check_key (P := P) C.w em hk hf hkr
      simp only [Instr.mapUpdate, Sem.run_bind, run_underlying hu, Result.andThen_ok, Go.run_getObj_map _ _ _ _ hm.heap, hck, hfk]
      cases hp : kpos k ents with
      | some i =>
        rw [hp] at he
        simp only at he
        subst he
        simp only [found, hp, Option.map_some, Sem.run_bind, Nat.zero_add, stays hm hf hkr hp, Result.andThen_ok, run_setObj' _ hm.heap, objW, Array.size_modify]
      | none =>
        rw [hp] at he
        simp only at he
        subst he
        simp only [found, hp, Option.map_none, run_setObj' _ hm.heap, objW, Array.size_push]
    · exact h.elim
  · exact h.elim

theorem run_ment (hok : Ok C) {t kt et : TypeId} {ag : Bool} {ks : List CK} {z x k : AVal} {cx ck : Value} (hu : P.underlying t = some (.map kt et)) (hk : keyK P kt = some (ag, ks)) (hz : zeroV P et = some z) (hx : Rep C x cx) (hkr : Rep C k ck)
    (h : evMent C.rows ag ks z x k K) : ∃ cv v C', (Instr.mapEntry t cx ck).run P C.w = .ok cv C'.w ∧ Rep C' v cv ∧ Ok C' ∧ Later C.rows.length C C' ∧ K v C'.rows := by
  unfold evMent at h
  split at h
  · rename_i r
    split at h
    · rename_i ag' ks' ents hrow
      obtain ⟨⟨rfl, rfl⟩, ⟨hf, _⟩, hK⟩ := h
      obtain ⟨b, c, es, hm, rfl⟩ := mref_at hok hx hrow
      obtain ⟨i, zv, hi, hzv, hzr⟩ := zeroV_spec hz
      have hzrun := run_zero hi hzv C.w
      have hsz := hm.size
      have hfk := run_findKey' (P := P) C.w hk hf hkr ents es.toList hm.keys hm.fits
      have hck := fun em => check_key (P := P) C.w em hk hf hkr
      cases hp : kpos k ents with
      | some i =>
        have hil := kpos_lt hp
        have hval := hm.val hil
        have hfi : (kfind k ents).getD z = (ents.getD i (.junk, .junk)).2 := by rw [kfind_pos, hp]; rfl
        rw [hfi, hp] at hK
        obtain ⟨es', he, g1, g2⟩ := map_put hok hrow hm hf hkr hval
        rw [hp] at he
        simp only at he
        refine ⟨.tuple #[((es.toList[i]?).map (·.val)).getD undef, .int .i64 i], _, _, ?_, ?_, g1, g2, hK⟩
        · have hlt : i < es.size := by omega
          have hb : es[i].born = i := hm.born i es[i] (by simp [hlt])
          have hes : es' = es.modify i fun e => { e with key := ck } := by
            rw [he]
            apply Array.ext_getElem?
            intro j
            rw [Array.getElem?_modify, Array.getElem?_modify]
            split
            · subst_vars; simp [hlt]
            · rfl
          simp only [Instr.mapEntry, Sem.run_bind, run_underlying hu, Result.andThen_ok, Go.run_getObj_map _ _ _ _ hm.heap, hck, hfk, found, hp, Option.map_some, Nat.zero_add, stays hm hf hkr hp, run_setObj' _ hm.heap, objW, hes, Array.size_modify, Sem.run_pure]
          simp [hlt, hb, goInt]
        · rw [Rep]
          exact ⟨_, rfl, by rw [RepL]; exact ⟨_, _, rfl, Rep.ext g2.ext _ _ hval, RepL.oneV (by rw [Rep]; rfl)⟩⟩
      | none =>
        have hfi : (kfind k ents).getD z = z := by rw [kfind_pos, hp]; rfl
        rw [hfi, hp] at hK
        obtain ⟨es', he, g1, g2⟩ := map_put hok hrow hm hf hkr (hzr C)
        rw [hp] at he
        simp only at he
        subst he
        refine ⟨.tuple #[zv, .int .i64 es.size], _, _, ?_, ?_, g1, g2, hK⟩
        · simp only [Instr.mapEntry, Sem.run_bind, run_underlying hu, Result.andThen_ok, Go.run_getObj_map _ _ _ _ hm.heap, hck, hfk, found, hp, Option.map_none, hzrun, run_setObj' _ hm.heap, objW, Array.size_push, Sem.run_pure]
          rfl
        · rw [Rep]
          exact ⟨_, rfl, by rw [RepL]; exact ⟨_, _, rfl, hzr _, RepL.oneV (by rw [Rep, hsz]; rfl)⟩⟩
    · exact h.elim
  · exact h.elim

theorem find_born' {es : Array MapEntry} (hb : ∀ (i : Nat) (e : MapEntry), es[i]? = some e → e.born = i) {n : Int} (h0 : 0 ≤ n) (h1 : n < es.size) : es.findIdx? (fun e => (e.born : Int) == n) = some n.toNat := by
  rw [Array.findIdx?_eq_some_iff_getElem]
  have hlt : n.toNat < es.size := by omega
  refine ⟨hlt, ?_, fun j hj => ?_⟩
  · rw [hb n.toNat es[n.toNat] (by simp [hlt])]; simp; omega
  · rw [hb j es[j] (by simp)]; simp; omega

theorem run_estore (hok : Ok C) {t : TypeId} {x i v : AVal} {cx ci cv : Value} (hx : Rep C x cx) (hir : Rep C i ci) (hv : Rep C v cv) {K : List Row → Prop} (h : evEstore C.rows x i v K) :
    ∃ C', (Instr.entryStore t cx ci cv).run P C.w = .ok () C'.w ∧ Ok C' ∧ Later C.rows.length C C' ∧ K C'.rows := by
  unfold evEstore at h
  split at h
  · rename_i r kk n
    split at h
    · rename_i ag ks ents hrow
      obtain ⟨h0, h1, hK⟩ := h
      obtain ⟨b, c, es, hm, rfl⟩ := mref_at hok hx hrow
      rw [Rep] at hir
      subst hir
      have hsz := hm.size
      have hlt : n.toNat < es.size := by omega
      have hput : Ok ⟨C.rows.set r (.obj (.map ag ks (ents.set n.toNat ((ents.getD n.toNat (.junk, .junk)).1, v)))), C.phi, C.om, objW C.w b (.map (es.modify n.toNat fun e => { e with val := cv }) es.size), C.pm⟩ ∧
          Later C.rows.length C ⟨C.rows.set r (.obj (.map ag ks (ents.set n.toNat ((ents.getD n.toNat (.junk, .junk)).1, v)))), C.phi, C.om, objW C.w b (.map (es.modify n.toNat fun e => { e with val := cv }) es.size), C.pm⟩ := by
        refine set_obj hok hrow hm.phi _ _ (objW_grown _ _ _) fun C' he ho hw hph => ?_
        rw [RowOk, set_map_key, set_map_val]
        refine ⟨b, c, es.modify n.toNat fun e => { e with val := cv }, hph, by rw [ho]; exact hm.om, by rw [hw]; simpa using objW_at hm.heap, fun j e hj => ?_, ?_, ?_, fun p hp' => ?_⟩
        · rw [Array.getElem?_modify] at hj
          split at hj
          · subst_vars
            cases hx : es[n.toNat]? with
            | none => rw [hx] at hj; simp at hj
            | some e0 => rw [hx] at hj; simp at hj; subst hj; exact hm.born _ e0 hx
          · exact hm.born j e hj
        · have e1 : (es.modify n.toNat fun e => { e with val := cv }).toList.map (·.key) = es.toList.map (·.key) := by
            apply List.ext_getElem?
            intro j
            simp only [List.getElem?_map, Array.getElem?_toList, Array.getElem?_modify]
            split
            · subst_vars; simp [hlt]
            · rfl
          have e2 : (ents.map (·.1)).set n.toNat (ents.getD n.toNat (.junk, .junk)).1 = ents.map (·.1) := by
            apply List.ext_getElem?
            intro j
            rw [List.getElem?_set]
            split
            · subst_vars
              have : n.toNat < ents.length := by omega
              simp [this]
            · rfl
          rw [e1, e2]
          exact RepL.ext he _ _ hm.keys
        · have : (es.modify n.toNat fun e => { e with val := cv }).toList.map (·.val) = (es.toList.map (·.val)).set n.toNat cv := by
            apply List.ext_getElem?
            intro j
            simp only [List.getElem?_map, Array.getElem?_toList, Array.getElem?_modify, List.getElem?_set, List.length_map, Array.length_toList]
            split
            · subst_vars; simp [hlt]
            · rfl
          rw [this]
          exact (RepL.ext he _ _ hm.vals).setV _ (Rep.ext he _ _ hv)
        · rcases List.mem_or_eq_of_mem_set hp' with hp' | rfl
          · exact hm.fits p hp'
          · have hmem : ents.getD n.toNat (.junk, .junk) ∈ ents := by rw [List.getD_eq_getElem?_getD, List.getElem?_eq_getElem (by omega)]; simp
            have := hm.fits _ hmem
            exact this
      refine ⟨_, ?_, hput.1, hput.2, hK⟩
      simp only [Instr.entryStore, Sem.run_bind, Go.run_getObj_map _ _ _ _ hm.heap, Result.andThen_ok, asInt, asIntOf, Sem.run_pure, find_born' hm.born h0 (by omega), run_setObj' _ hm.heap, objW]
    · exact h.elim
  · exact h.elim

theorem run_iter (hok : Ok C) {t kt et : TypeId} {x : AVal} {cx : Value} (hu : P.underlying t = some (.map kt et)) (hx : Rep C x cx) (h : evIter C.rows x K) :
    ∃ cv v C', (Instr.range t cx).run P C.w = .ok cv C'.w ∧ Rep C' v cv ∧ Ok C' ∧ Later C.rows.length C C' ∧ K v C'.rows := by
  unfold evIter at h
  split at h
  · rename_i m
    split at h
    · rename_i ag ks ents hrow
      obtain ⟨b, c, es, hm, rfl⟩ := mref_at hok hx hrow
      have hsz := hm.size
      obtain ⟨g1, g2⟩ := push_obj hok (.iter ents.length []) (.mapIter (some b) es.size #[] es.size) b (C.w.alloc (.mapIter (some b) es.size #[] es.size)) ⟨rfl, rfl, rfl, rfl⟩ fun C' he ho hw hph => by
        rw [RowOk]
        refine ⟨_, _, hph, ?_, ?_⟩
        · rw [ho]; intro hq; have := hok.om _ hq; omega
        · rw [hw, heap_alloc_new, hsz]
      refine ⟨.pointer (some ⟨C.w.heap.size, 0, none⟩), _, _, ?_, ?_, g1, g2, h⟩
      · simp only [Instr.range, Sem.run_bind, run_underlying hu, Result.andThen_ok, Go.run_getObj_map _ _ _ _ hm.heap, Sem.run_pure]
        rfl
      · have hml : m < C.rows.length := (List.getElem?_eq_some_iff.1 hrow).1
        rw [Rep]
        refine ⟨hok.pm, ⟨_, rfl⟩, by simp, by simp; omega, fun o o' _ _ => ⟨C.w.heap.size, b, c, by simp [← hok.plen], ?_, rfl⟩⟩
        show (C.phi ++ [some (C.w.heap.size, b)])[m]? = _
        rw [List.getElem?_append, if_pos (by rw [hok.plen]; exact hml)]
        exact hm.phi
    · exact h.elim
  · exact h.elim

/-- an iterator, and the map that it goes over -/
theorem itref_at (hok : Ok C) {r m n : Nat} {seen : List Nat} {cx : Value} {ag : Bool} {ks : List CK} {ents : List (AVal × AVal)} (hx : Rep C (.itref r m) cx) (hr : C.rows[r]? = some (.obj (.iter n seen))) (hm : C.rows[m]? = some (.obj (.map ag ks ents))) :
    ∃ b bm c es, MapAt C m bm c es ag ks ents ∧ C.phi[r]? = some (some (b, bm)) ∧ ¬ C.om b ∧ C.w.heap[b]? = some (.mapIter (some bm) n seen.toArray n) ∧ cx = .pointer (some ⟨b, 0, none⟩) := by
  obtain ⟨bm, c, es, h⟩ := mapAt hok hm
  have hrow := hok.rows r _ hr
  rw [RowOk] at hrow
  obtain ⟨b, bm', p1, p2, p3⟩ := hrow
  rw [Rep] at hx
  obtain ⟨_, _, _, _, hx⟩ := hx
  obtain ⟨b2, bm2, c2, q1, q2, q3⟩ := hx _ _ hr hm
  rw [p1] at q1
  simp at q1
  obtain ⟨rfl, rfl⟩ := q1
  rw [h.phi] at q2
  simp at q2
  obtain ⟨rfl, rfl⟩ := q2
  exact ⟨b, bm, c, es, h, p1, p2, p3, q3⟩

theorem born_nodup {es : Array MapEntry} (hb : ∀ (i : Nat) (e : MapEntry), es[i]? = some e → e.born = i) : (es.toList.map (·.born)).Nodup := by
  have : es.toList.map (·.born) = List.range es.size := by
    apply List.ext_getElem?
    intro i
    by_cases hi : i < es.size
    · rw [List.getElem?_map, Array.getElem?_toList, Array.getElem?_eq_getElem hi, Option.map_some, hb i es[i] (by simp [hi]), List.getElem?_range hi]
    · rw [List.getElem?_eq_none (by simpa using hi), List.getElem?_eq_none (by simpa using hi)]
  rw [this]
  exact List.nodup_range

theorem run_next (hok : Ok C) {ty : TypeId} {x : AVal} {cx : Value} (hx : Rep C x cx) (h : evNext C.rows x K) :
    ∃ cv v C', (Instr.next cx false ty).run P C.w = .ok cv C'.w ∧ Rep C' v cv ∧ Ok C' ∧ Later C.rows.length C C' ∧ K v C'.rows := by
  unfold evNext at h
  split at h
  · rename_i r m
    split at h
    · rename_i n seen ag ks ents hr hmr
      obtain ⟨hn, hrm, h0, h1⟩ := h
      obtain ⟨b, bm, c, es, hm, p1, p2, p3, rfl⟩ := itref_at hok hx hr hmr
      have hsz := hm.size
      have hborn : ∀ x ∈ es.toList, x.born < n := by
        intro x hxm
        obtain ⟨i, hi, rfl⟩ := List.getElem_of_mem hxm
        rw [hm.born i _ (by simp at hi; simp [hi])]
        simp at hi; omega
      rcases run_next_at (P := P) C.w ty b bm n n seen.toArray es es.size p3 hm.heap hborn (Nat.le_refl _) with ⟨g1, g2⟩ | ⟨e, he, w1, hw1, g2⟩
      · refine ⟨_, .tup [.bool false], C, g2, by rw [Rep]; exact ⟨_, rfl, RepL.oneV (by rw [Rep])⟩, hok, Later.refl C, h0 fun i hi => ?_⟩
        by_cases hs : i ∈ seen
        · exact hs
        · exfalso
          have hie : i < es.size := by omega
          have : es[i] ∈ leftOf es seen.toArray := by
            unfold leftOf
            simp only [Array.mem_filter, Array.getElem_mem, true_and, hm.born i es[i] (by simp [hie])]
            simpa using hs
          have hz : leftOf es seen.toArray = #[] := Array.eq_empty_of_size_eq_zero g1
          rw [hz] at this
          simp at this
      · have hmem : e ∈ es ∧ e.born ∉ seen := by
          unfold leftOf at he
          simpa using he
        obtain ⟨i, hi, rfl⟩ := Array.getElem_of_mem hmem.1
        have hb := hm.born i es[i] (by simp [hi])
        rw [hb] at hmem g2
        have hil : i < ents.length := by omega
        have hw1' : w1.os = C.w.os ∧ w1.tape = C.w.tape ∧ w1.output = C.w.output ∧ w1.heap = C.w.heap := by rcases hw1 with rfl | rfl <;> exact ⟨rfl, rfl, rfl, rfl⟩
        obtain ⟨u1, u2, u3, u4⟩ := hw1'
        have hlt := hok.lt p1
        obtain ⟨s1, s2⟩ := set_obj hok hr p1 (.iter n (seen ++ [i])) (setBlock w1 b (.mapIter (some bm) n (seen.toArray.push i) es.size))
          ⟨u1, u2, u3, by simp [setBlock, u4], fun k _ hk => by simp [setBlock, u4, Array.getElem?_setIfInBounds_ne (fun e : b = k => hk (by rw [e]))]⟩ fun C' he ho hw hph => by
            rw [RowOk]
            refine ⟨b, bm, hph, by rw [ho]; exact p2, ?_⟩
            rw [hw]
            simp [setBlock, u4, hlt]
            omega
        refine ⟨_, _, _, g2, ?_, s1, s2, h1 i (by omega) hmem.2⟩
        rw [Rep]
        have k1 := hm.key hil
        have k2 := hm.val hil
        rw [Array.getElem?_toList, Array.getElem?_eq_getElem hi] at k1 k2
        refine ⟨_, rfl, ?_⟩
        rw [RepL]
        refine ⟨_, _, rfl, by rw [Rep], ?_⟩
        rw [RepL]
        exact ⟨_, _, rfl, Rep.ext s2.ext _ _ k1, RepL.oneV (Rep.ext s2.ext _ _ k2)⟩
    · exact h.elim
  · exact h.elim

theorem run_entry' (hok : Ok C) {x : AVal} {cx : Value} (hx : Rep C x cx) (h : evEntry C.rows x fun v => K v C.rows) :
    ∃ cv v, (Instr.entry cx).run P C.w = .ok cv C.w ∧ Rep C v cv ∧ K v C.rows := by
  unfold evEntry at h
  split at h
  · rename_i r m
    split at h
    · rename_i n seen ag ks ents hr hmr
      obtain ⟨hn, hpos, hlast, hK⟩ := h
      obtain ⟨b, bm, c, es, hm, p1, p2, p3, rfl⟩ := itref_at hok hx hr hmr
      have hsz := hm.size
      have hi : seen.getLastD 0 < es.size := by omega
      have hil : seen.getLastD 0 < ents.length := by omega
      have hb := hm.born (seen.getLastD 0) es[seen.getLastD 0] (Array.getElem?_eq_getElem hi)
      have hse : seen.toArray = seen.dropLast.toArray.push es[seen.getLastD 0].born := by
        rw [hb]
        have hne : seen ≠ [] := by intro e; simp [e] at hpos
        apply Array.ext'
        simp only [Array.toList_push]
        rw [show seen.getLastD 0 = seen.getLast hne from by cases seen with | nil => exact (hne rfl).elim | cons a l => rfl]
        exact (List.dropLast_concat_getLast hne).symm
      have hp3 : C.w.heap[b]? = some (.mapIter (some bm) n (seen.dropLast.toArray.push es[seen.getLastD 0].born) es.size) := by rw [← hse, p3, hn, hsz]
      have := run_entry_at (P := P) C.w b bm n seen.dropLast.toArray es es.size es[seen.getLastD 0] hp3 hm.heap (by simp) (born_nodup hm.born)
      have k1 := hm.key hil
      have k2 := hm.val hil
      rw [Array.getElem?_toList, Array.getElem?_eq_getElem hi] at k1 k2
      refine ⟨_, _, this, ?_, hK⟩
      rw [Rep]
      refine ⟨_, rfl, ?_⟩
      rw [RepL]
      exact ⟨_, _, rfl, k1, RepL.oneV k2⟩
    · exact h.elim
  · exact h.elim

theorem over_flatten {sz : Nat} {vals ys : List (List AVal)} {off : Nat} (hs : ∀ e ∈ vals, e.length = sz) (hy : ∀ e ∈ ys, e.length = sz) (h : off + ys.length ≤ vals.length) : (over vals off ys).flatten = splice vals.flatten (off * sz) ys.flatten := by
  have h1 : (vals.take off).flatten.length = off * sz := by
    rw [flatten_length (sz := sz) fun e he => hs e (List.mem_of_mem_take he), List.length_take]
    congr 1; omega
  have h2 : ys.flatten.length = ys.length * sz := flatten_length hy
  have h3 : vals.flatten = (vals.take off).flatten ++ (vals.drop off).flatten := by rw [← List.flatten_append, List.take_append_drop]
  have h4 : (vals.drop off).flatten = ((vals.drop off).take ys.length).flatten ++ (vals.drop (off + ys.length)).flatten := by
    rw [← List.drop_drop, ← List.flatten_append, List.take_append_drop]
  have h5 : ((vals.drop off).take ys.length).flatten.length = ys.length * sz := by
    rw [flatten_length (sz := sz) fun e he => hs e (List.mem_of_mem_drop (List.mem_of_mem_take he)), List.length_take, List.length_drop]
    congr 1; omega
  unfold over splice
  rw [List.flatten_append, List.flatten_append, h3, ← h1, List.take_left, h2]
  congr 1
  rw [← List.drop_drop (l := (vals.take off).flatten ++ _), List.drop_left, h4, ← h5, List.drop_left]

theorem run_copy (hok : Ok C) {t ty e : TypeId} {sz : Nat} (ht : P.underlying t = some (.slice e)) (hs : sizeT P e = some sz) {x y : AVal} {cx cy : Value} (hx : Rep C x cx) (hy : Rep C y cy) (h : evCopy C.rows sz x y K) :
    ∃ cv v C', (Builtin.copy_ #[t, t] ty #[cx, cy]).run P C.w = .ok cv C'.w ∧ Rep C' v cv ∧ Ok C' ∧ Later C.rows.length C C' ∧ K v C'.rows := by
  unfold evCopy at h
  split at h
  · exact h.elim
  rename_i ys hys
  obtain ⟨ao, c, rfl, hsrc⟩ := source hok hy hys
  split at h
  · rename_i r n off len
    split at h
    · rename_i e' sz' vals hrow
      obtain ⟨rfl, hn, hol, hK⟩ := h
      rw [Rep] at hx
      obtain ⟨_, _, hrl, hx⟩ := hx
      obtain ⟨_, p, hp, hv⟩ := (hx e' sz' vals hrow).2 hn
      have hlen_ : ∀ (a : Option Addr) (m c : Nat), (Builtin.lenOf (.slice a m c)).run P C.w = .ok m C.w := fun _ _ _ => rfl
      -- what is copied
      have hys' : (ys.take (min ys.length len)).length = min ys.length len := by rw [List.length_take]; omega
      have nothing : min ys.length len = 0 → (Builtin.copy_ #[t, t] ty #[cx, .slice ao ys.length c]).run P C.w = .ok (goInt 0) C.w → ∃ cv v C', (Builtin.copy_ #[t, t] ty #[cx, .slice ao ys.length c]).run P C.w = .ok cv C'.w ∧ Rep C' v cv ∧ Ok C' ∧ Later C.rows.length C C' ∧ K v C'.rows := by
        intro h0 hrun
        refine ⟨_, .int .i64 0, C, hrun, by rw [Rep]; rfl, hok, Later.refl C, ?_⟩
        rw [h0] at hK
        have hset : C.rows.set r (.live e' sz' (over vals off (ys.take 0))) = C.rows := by
          have : over vals off (ys.take 0) = vals := by simp [over]
          rw [this]
          apply List.ext_getElem?
          intro k
          rw [List.getElem?_set]
          split
          · subst_vars
            first | exact hrow.symm | (rw [if_pos hrl]; exact hrow.symm)
          · rfl
        rw [hset] at hK
        exact hK
      rcases hok.live hrow with ⟨hl, hnil⟩ | ⟨b, cap, cs, hl, h1, h2, h3, h4, h5, h6⟩
      · subst hnil
        rw [hp] at hl; simp at hl; subst hl
        simp only [ownv] at hv
        obtain ⟨⟨ax, rfl⟩, _, rfl⟩ := hv
        refine nothing (by simp) ?_
        rcases hsrc with ⟨rfl, rfl⟩ | ⟨a, vs, rfl, hel, hcell⟩
        · cases ax <;> simp [Builtin.copy_, run_underlying ht, hlen_, run_sizeOf hs, Builtin.firstCells, storeCells]
        · cases ax <;> simp [Builtin.copy_, run_underlying ht, hlen_, run_sizeOf hs, Builtin.firstCells, storeCells, loadCells, loadCellsFrom]
      · rw [hp] at hl; simp at hl; subst hl
        simp only [ownv] at hv
        obtain ⟨ad, c', rfl, hlc, hsp, hbk, hoff, ho⟩ := hv
        by_cases h0 : min ys.length len = 0
        · refine nothing h0 ?_
          have h0' : Nat.min ys.length len = 0 := h0
          rcases hsrc with ⟨rfl, rfl⟩ | ⟨a, vs, rfl, hel, hcell⟩
          · simp [Builtin.copy_, run_underlying ht, hlen_, run_sizeOf hs, Builtin.firstCells, storeCells]
          · simp [Builtin.copy_, run_underlying ht, hlen_, run_sizeOf hs, Builtin.firstCells, storeCells, loadCells, loadCellsFrom, h0']
        · rcases hsrc with ⟨rfl, rfl⟩ | ⟨a, vs, rfl, hel, hcell⟩
          · simp at h0
          · have ha : ad = ⟨b, off * sz', none⟩ := by
              obtain ⟨x, y, z⟩ := ad
              simp only at hsp hbk ho
              rw [hsp, hbk, ho (by omega)]
            subst ha
            have hvl := hel.length
            have hm : min ys.length len * sz' ≤ vs.length := by rw [hvl]; exact Nat.mul_le_mul_right _ (by omega)
            -- the cells that are copied
            have hnews : Elems C sz' (ys.take (min ys.length len)) (vs.take (min ys.length len * sz')) := by
              refine ⟨fun x hx => hel.szs x (List.mem_of_mem_take hx), ?_, fun v hv => hel.one v (List.mem_of_mem_take hv)⟩
              have : (ys.take (min ys.length len)).flatten = ys.flatten.take (min ys.length len * sz') := by
                have e1 : ys.flatten = (ys.take (min ys.length len)).flatten ++ (ys.drop (min ys.length len)).flatten := by rw [← List.flatten_append, List.take_append_drop]
                have e2 : (ys.take (min ys.length len)).flatten.length = min ys.length len * sz' := by rw [flatten_length (sz := sz') fun x hx => hel.szs x (List.mem_of_mem_take hx), hys']
                rw [e1, ← e2, List.take_left]
              rw [this]
              exact hel.rep.take _
            have hnl : (vs.take (min ys.length len * sz')).length = min ys.length len * sz' := by rw [List.length_take]; omega
            have hload : (loadCells a (min ys.length len * sz')).run P C.w = .ok (vs.take (min ys.length len * sz')).toArray C.w := by
              have := run_loadCells_list (P := P) C.w a (vs.take (min ys.length len * sz')) fun j u hj => by
                rw [List.getElem?_take] at hj
                split at hj
                · exact hcell j u hj
                · cases hj
              rw [hnl] at this
              exact this
            obtain ⟨xs, he, hca⟩ := h6.elems
            have htake := take_of_cellsAt h2 hca
            have hxl := he.length
            have hfit : off * sz' + min ys.length len * sz' ≤ vals.length * sz' := by rw [← Nat.add_mul]; exact Nat.mul_le_mul_right _ (by omega)
            have hcap : vals.length * sz' ≤ cap * sz' := Nat.mul_le_mul_right _ h5
            have hst := run_storeCells_at P b (off * sz') e' (vs.take (min ys.length len * sz')) 0 cs C.w h2 (by rw [hnl]; omega) hnews.one
            simp only [Nat.add_zero] at hst
            have hnew := set_row hok hrow hp b cap (cs.toList.take (off * sz') ++ vs.take (min ys.length len * sz') ++ cs.toList.drop (off * sz' + (vs.take (min ys.length len * sz')).length)).toArray
              (over vals off (ys.take (min ys.length len))) (xs.take (off * sz') ++ vs.take (min ys.length len * sz') ++ xs.drop (off * sz' + (vs.take (min ys.length len * sz')).length))
              (C.w.setRow b (cs.toList.take (off * sz') ++ vs.take (min ys.length len * sz') ++ cs.toList.drop (off * sz' + (vs.take (min ys.length len * sz')).length)).toArray)
              ⟨rfl, rfl, rfl, by simp, fun k _ hk' => setRow_other C.w b k _ (fun e => hk' (by simp [e]))⟩ (.inl rfl) (setRow_heap C.w b cs _ e' _ h2)
              (by simp only [List.size_toArray, List.length_append, List.length_drop, hnl, Array.length_toList]; rw [List.length_take]; simp only [Array.length_toList]; omega)
              h4 (by simp only [over, List.length_append, List.length_take, List.length_drop]; omega)
              ⟨fun x hx => ?_, ?_, he.one.splice hnews.one⟩ ?_ (by simp only [over, List.length_append, List.length_take, List.length_drop]; omega) (fun _ => rfl)
            · refine ⟨goInt (min ys.length len : Nat), _, _, ?_, by rw [Rep]; rfl, hnew.1, hnew.2, hK⟩
              have hmin : Nat.min ys.length len = min ys.length len := rfl
              simp only [Builtin.copy_, run_underlying ht, Sem.run_bind, Result.andThen_ok, hlen_, run_sizeOf hs, Builtin.firstCells, hmin, hload, hst, Sem.run_pure]
              simp [run_underlying ht, hlen_, run_sizeOf hs, hmin, hload, hst]
            · unfold over at hx
              rcases List.mem_append.1 hx with hx | hx
              · rcases List.mem_append.1 hx with hx | hx
                · exact he.szs x (List.mem_of_mem_take hx)
                · exact hnews.szs x hx
              · exact he.szs x (List.mem_of_mem_drop hx)
            · rw [over_flatten he.szs hnews.szs (by omega)]
              exact he.rep.splice hnews.rep
            · rw [hnl]
              simp only [List.length_append, List.length_take, List.length_drop]
              have hvc : xs.length ≤ cs.toList.length := by simp only [Array.length_toList]; omega
              have e1 : min (off * sz') xs.length + min (min ys.length len * sz') vs.length + (xs.length - (off * sz' + min ys.length len * sz')) = xs.length := by omega
              rw [e1]
              have := splice_take cs.toList (vs.take (min ys.length len * sz')) xs.length (off * sz') (by rw [hnl]; omega) hvc
              rw [hnl] at this
              show List.take xs.length (cs.toList.take (off * sz') ++ vs.take (min ys.length len * sz') ++ cs.toList.drop (off * sz' + min ys.length len * sz')) = _
              rw [this, htake]
    · exact h.elim
  · exact h.elim

theorem run_clear (hok : Ok C) {t ty e : TypeId} {z : List AVal} (ht : P.underlying t = some (.slice e)) (hz : zeroOf P e = some z) {x : AVal} {cx : Value} (hx : Rep C x cx) (h : evClear C.rows z.length z x fun rows => K (.tup []) rows) :
    ∃ cv v C', (Builtin.clear_ #[t] ty #[cx]).run P C.w = .ok cv C'.w ∧ Rep C' v cv ∧ Ok C' ∧ Later C.rows.length C C' ∧ K v C'.rows := by
  obtain ⟨i, zv, hi, hzv, habs, hl, hpos, hsz⟩ := zeroOf_spec hz
  obtain ⟨k1, k2⟩ := absVs_rep (C := C) habs
  have hone := ones_rep k1 k2
  have hz0 : ∀ n, RepL C (List.replicate n z).flatten (List.replicate n zv.cells.toList).flatten ∧ allOne (List.replicate n zv.cells.toList).flatten := by
    intro n
    induction n with
    | zero => simp [RepL, allOne]
    | succ n ih =>
      rw [List.replicate_succ, List.replicate_succ, List.flatten_cons, List.flatten_cons]
      refine ⟨k1.append ih.1, fun v hv => ?_⟩
      rcases List.mem_append.1 hv with hv | hv
      · exact hone v hv
      · exact ih.2 v hv
  unfold evClear at h
  split at h
  · rename_i r n off len
    split at h
    · rename_i e' sz' vals hrow
      obtain ⟨rfl, hn, hol, hK⟩ := h
      rw [Rep] at hx
      obtain ⟨_, _, hrl, hx⟩ := hx
      obtain ⟨_, p, hp, hv⟩ := (hx e' _ vals hrow).2 hn
      have nothing : len = 0 → (Builtin.clear_ #[t] ty #[cx]).run P C.w = .ok (.tuple #[]) C.w → ∃ cv v C', (Builtin.clear_ #[t] ty #[cx]).run P C.w = .ok cv C'.w ∧ Rep C' v cv ∧ Ok C' ∧ Later C.rows.length C C' ∧ K v C'.rows := by
        intro h0 hrun
        refine ⟨_, .tup [], C, hrun, by rw [Rep]; exact ⟨#[], rfl, by simp [RepL]⟩, hok, Later.refl C, ?_⟩
        rw [h0] at hK
        have hset : C.rows.set r (.live e' z.length (over vals off (List.replicate 0 z))) = C.rows := by
          have : over vals off (List.replicate 0 z) = vals := by simp [over]
          rw [this]
          apply List.ext_getElem?
          intro k
          rw [List.getElem?_set]
          split
          · subst_vars
            first | exact hrow.symm | (rw [if_pos hrl]; exact hrow.symm)
          · rfl
        rw [hset] at hK
        exact hK
      rcases hok.live hrow with ⟨hl', hnil⟩ | ⟨b, cap, cs, hl', h1, h2, h3, h4, h5, h6⟩
      · subst hnil
        rw [hp] at hl'; simp at hl'; subst hl'
        simp only [ownv] at hv
        obtain ⟨⟨ax, rfl⟩, _, rfl⟩ := hv
        refine nothing rfl ?_
        cases ax <;> simp [Builtin.clear_, run_underlying ht]
      · rw [hp] at hl'; simp at hl'; subst hl'
        simp only [ownv] at hv
        obtain ⟨ad, c', rfl, hlc, hsp, hbk, hoff, ho⟩ := hv
        by_cases h0 : len = 0
        · refine nothing h0 ?_
          subst h0
          simp [Builtin.clear_, run_underlying ht]
        · have ha : ad = ⟨b, off * z.length, none⟩ := by
            obtain ⟨x, y, z⟩ := ad
            simp only at hsp hbk ho
            rw [hsp, hbk, ho (by omega)]
          subst ha
          have hnews : Elems C z.length (List.replicate len z) (List.replicate len zv.cells.toList).flatten :=
            ⟨fun x hx => by rw [List.eq_of_mem_replicate hx], (hz0 _).1, (hz0 _).2⟩
          have hnl : (List.replicate len zv.cells.toList).flatten.length = len * z.length := by rw [hnews.length, List.length_replicate]
          have hzc : (Builtin.zeroCells zv.cells len).toList = (List.replicate len zv.cells.toList).flatten := by
            unfold Builtin.zeroCells
            exact zeroRow zv.cells len
          obtain ⟨xs, he, hca⟩ := h6.elems
          have htake := take_of_cellsAt h2 hca
          have hxl := he.length
          have hfit : off * z.length + len * z.length ≤ vals.length * z.length := by rw [← Nat.add_mul]; exact Nat.mul_le_mul_right _ (by omega)
          have hcap : vals.length * z.length ≤ cap * z.length := Nat.mul_le_mul_right _ h5
          have hst := run_storeCells_at P b (off * z.length) e' (List.replicate len zv.cells.toList).flatten 0 cs C.w h2 (by rw [hnl]; omega) hnews.one
          simp only [Nat.add_zero] at hst
          have hnew := set_row hok hrow hp b cap (cs.toList.take (off * z.length) ++ (List.replicate len zv.cells.toList).flatten ++ cs.toList.drop (off * z.length + (List.replicate len zv.cells.toList).flatten.length)).toArray
            (over vals off (List.replicate len z)) (xs.take (off * z.length) ++ (List.replicate len zv.cells.toList).flatten ++ xs.drop (off * z.length + (List.replicate len zv.cells.toList).flatten.length))
            (C.w.setRow b (cs.toList.take (off * z.length) ++ (List.replicate len zv.cells.toList).flatten ++ cs.toList.drop (off * z.length + (List.replicate len zv.cells.toList).flatten.length)).toArray)
            ⟨rfl, rfl, rfl, by simp, fun k _ hk' => setRow_other C.w b k _ (fun e => hk' (by simp [e]))⟩ (.inl rfl) (setRow_heap C.w b cs _ e' _ h2)
            (by simp only [List.size_toArray, List.length_append, List.length_drop, hnl, Array.length_toList]; rw [List.length_take]; simp only [Array.length_toList]; omega)
            h4 (by simp only [over, List.length_append, List.length_take, List.length_drop, List.length_replicate]; omega)
            ⟨fun x hx => ?_, ?_, he.one.splice hnews.one⟩ ?_ (by simp only [over, List.length_append, List.length_take, List.length_drop, List.length_replicate]; omega) (fun _ => rfl)
          · refine ⟨.tuple #[], .tup [], _, ?_, by rw [Rep]; exact ⟨#[], rfl, by simp [RepL]⟩, hnew.1, hnew.2, hK⟩
            obtain ⟨m, rfl⟩ : ∃ m, len = m + 1 := ⟨len - 1, by omega⟩
            simp only [Builtin.clear_, run_underlying ht, Sem.run_bind, Result.andThen_ok, run_zero hi hzv, hzc, hst, Sem.run_pure]
            simp [run_underlying ht, run_zero hi hzv, hzc, hst]
          · unfold over at hx
            rcases List.mem_append.1 hx with hx | hx
            · rcases List.mem_append.1 hx with hx | hx
              · exact he.szs x (List.mem_of_mem_take hx)
              · exact hnews.szs x hx
            · exact he.szs x (List.mem_of_mem_drop hx)
          · rw [over_flatten he.szs hnews.szs (by simp only [List.length_replicate]; omega)]
            exact he.rep.splice hnews.rep
          · rw [hnl]
            simp only [List.length_append, List.length_take, List.length_drop, hnl]
            have hvc : xs.length ≤ cs.toList.length := by simp only [Array.length_toList]; omega
            have e1 : min (off * z.length) xs.length + len * z.length + (xs.length - (off * z.length + len * z.length)) = xs.length := by omega
            rw [e1]
            have := splice_take cs.toList (List.replicate len zv.cells.toList).flatten xs.length (off * z.length) (by rw [hnl]; omega) hvc
            rw [hnl] at this
            show List.take xs.length (cs.toList.take (off * z.length) ++ (List.replicate len zv.cells.toList).flatten ++ cs.toList.drop (off * z.length + len * z.length)) = _
            rw [this, htake]
    · exact h.elim
  · exact h.elim

theorem run_indexArr {t e : TypeId} {len sz : Nat} {x y : AVal} {cx cy : Value} (hu : P.underlying t = some (.array len e)) (hs : sizeT P e = some sz) (h1 : 1 < len) (hx : Rep C x cx) (hy : Rep C y cy)
    (h : evIndexArr len sz x y fun v => K v C.rows) : ∃ cv v, (Instr.indexAt t cx cy).run P C.w = .ok cv C.w ∧ Rep C v cv ∧ K v C.rows := by
  unfold evIndexArr at h
  split at h
  · rename_i r n i off k j
    obtain ⟨j0, j1, hK⟩ := h
    rw [Rep] at hy
    subst hy
    rw [Rep] at hx
    obtain ⟨hpm, ⟨ad, ea⟩, hrl, hx⟩ := hx
    subst ea
    refine ⟨.pointer (some (ad.add (j.toNat * sz))), _, ?_, ?_, hK⟩
    · simp [Instr.indexAt, asIntOf, run_underlying hu, Instr.sureAddr, run_sizeOf hs, j0, j1]
    · rw [Rep]
      refine ⟨hpm, ⟨_, rfl⟩, hrl, fun e sz2 vals hv => ⟨(hx e sz2 vals hv).1, fun hm => ?_⟩⟩
      obtain ⟨g1, b, c, g2, g3⟩ := (hx e sz2 vals hv).2 hm
      simp at g3
      subst g3
      exact ⟨g1, b, c, g2, by rw [addr_add, Nat.add_assoc]⟩
  · rename_i cells off k j
    obtain ⟨j0, j1, hK⟩ := h
    rw [Rep] at hy
    subst hy
    rw [Rep] at hx
    obtain ⟨b, o, rfl, hb, hcl⟩ := hx
    refine ⟨.pointer (some ⟨b, o + off + j.toNat * sz, none⟩), _, ?_, ?_, hK⟩
    · simp [Instr.indexAt, asIntOf, run_underlying hu, Instr.sureAddr, run_sizeOf hs, j0, j1, addr_add]
    · rw [Rep]; exact ⟨b, o, by rw [Nat.add_assoc], hb, hcl⟩
  · exact h.elim

theorem run_buildA {t e : TypeId} {len n : Nat} {z : List AVal} {parts : Array (Nat × Operand)} {ρ : Operand → Value} {vs cs : List AVal} {w : World}
    (hz : zeroOf P t = some z) (hu : P.underlying t = some (.array len e)) (hs : sizeT P e = some n) (hr : RepL C vs ((parts.toList.map (·.2)).map ρ))
    (hf : fillC z ((parts.toList.map (·.1)).map fun i => (i * n, n)) vs = some cs) (h1 : (vs.all fun v => (acells v).all one) = true) :
    ∃ cv, (Instr.build t (parts.map fun (i, x) => (i, ρ x))).run P w = .ok cv w ∧ Rep C (.agg cs) cv := by
  obtain ⟨i, zv, hi, hzv, habs, hl, hpos, hsz⟩ := zeroOf_spec hz
  obtain ⟨k1, k2⟩ := absVs_rep (C := C) habs
  obtain ⟨r, r1, r2, _⟩ := fill_rep (C := C) (fun (i : Nat) => some (i * n, n)) (parts.toList.map (·.1)) _ vs _ z cs zv.cells rfl (by simp) hr (by rw [List.filterMap_eq_map']; exact hf) h1 k1
  refine ⟨.agg r, ?_, by rw [Rep]; exact ⟨r, rfl, r2⟩⟩
  have hz2 : (parts.map fun (i, x) => (i, ρ x)).toList = (parts.toList.map (·.1)).zip ((parts.toList.map (·.2)).map ρ) := by
    rw [Array.toList_map]; exact zip_map_pair _ _
  simp only [Instr.build, Sem.run_bind, run_zero hi hzv, Result.andThen_ok, run_underlying hu, run_sizeOf hs]
  rw [hz2, r1]
  simp

end
end Go.Abs
end

section
/- Each operation but a call does what its abstract form says. -/
namespace Go.Abs
variable [Dr]
section
variable {P : Program} {C : Ctx} {K : AVal → List Row → Prop}

theorem Runs.val (hok : Ok C) {s : Sem Value} (h : ∃ cv v, s.run P C.w = .ok cv C.w ∧ Rep C v cv ∧ K v C.rows) : Runs P C (do pure (.value (← s))) K := by
  obtain ⟨cv, v, h1, h2, h3⟩ := h
  exact Runs.of hok h1 h2 h3

theorem Runs.val' {s : Sem Value} (h : ∃ cv v C', s.run P C.w = .ok cv C'.w ∧ Rep C' v cv ∧ Ok C' ∧ Later C.rows.length C C' ∧ K v C'.rows) : Runs P C (do pure (.value (← s))) K := by
  obtain ⟨cv, v, C', h1, h2, h3, h4, h5⟩ := h
  exact Runs.of' h3 h4 h1 h2 h5

theorem guard_int (op : BinOp) (t : TypeId) (ox oy : Operand) (k k' : IntKind) (a b : Int) (w : World) : (eqGuard op t ox oy (.int k a) (.int k' b)).run P w = .ok () w := by
  cases op <;> simp [eqGuard]
theorem guard_str (op : BinOp) (t : TypeId) (ox oy : Operand) (a b : ByteArray) (w : World) : (eqGuard op t ox oy (.string a) (.string b)).run P w = .ok () w := by
  cases op <;> simp [eqGuard]
theorem guard_bool (op : BinOp) (t : TypeId) (ox oy : Operand) (a b : Bool) (w : World) : (eqGuard op t ox oy (.bool a) (.bool b)).run P w = .ok () w := by
  cases op <;> simp [eqGuard]

theorem run_bin' {op : BinOp} {t : TypeId} {x y : AVal} {cx cy : Value} {ox oy : Operand} (hx : Rep C x cx) (hy : Rep C y cy)
    {K : AVal → Prop} (h : evBin op x y K) :
    ∃ cv v, (do eqGuard op t ox oy cx cy; binOp op t cx cy : Sem Value).run P C.w = .ok cv C.w ∧ Rep C v cv ∧ K v := by
  unfold evBin at h
  split at h
  · rename_i k a k' b
    rw [Rep] at hx hy
    subst hx; subst hy
    simp only [Sem.run_bind, guard_int, Result.andThen_ok]
    split at h
    case h_1 => exact ⟨_, _, by simp only [binOp, Op.shift]; rw [if_neg (by omega)]; rfl, by rw [Rep], h.2⟩
    case h_2 => exact ⟨_, _, by simp only [binOp, Op.shift]; rw [if_neg (by omega)]; rfl, by rw [Rep], h.2⟩
    case h_3 => obtain ⟨rfl, h⟩ := h; exact ⟨_, _, by simp only [binOp, Op.intArith, ne_eq, not_true_eq_false, if_false]; rfl, by rw [Rep], h⟩
    case h_4 => obtain ⟨rfl, h⟩ := h; exact ⟨_, _, by simp only [binOp, Op.intArith, ne_eq, not_true_eq_false, if_false]; rfl, by rw [Rep], h⟩
    case h_5 => obtain ⟨rfl, h⟩ := h; exact ⟨_, _, by simp only [binOp, Op.intArith, ne_eq, not_true_eq_false, if_false]; rfl, by rw [Rep], h⟩
    case h_6 => obtain ⟨rfl, h0, h⟩ := h; exact ⟨_, _, by simp only [binOp, Op.intDiv, ne_eq, not_true_eq_false, if_false, h0]; rfl, by rw [Rep], h⟩
    case h_7 => obtain ⟨rfl, h0, h⟩ := h; exact ⟨_, _, by simp only [binOp, Op.intDiv, ne_eq, not_true_eq_false, if_false, h0]; rfl, by rw [Rep], h⟩
    case h_8 => obtain ⟨rfl, h⟩ := h; exact ⟨_, _, by simp only [binOp, Op.intBits, ne_eq, not_true_eq_false, if_false]; rfl, by rw [Rep], h⟩
    case h_9 => obtain ⟨rfl, h⟩ := h; exact ⟨_, _, by simp only [binOp, Op.intBits, ne_eq, not_true_eq_false, if_false]; rfl, by rw [Rep], h⟩
    case h_10 => obtain ⟨rfl, h⟩ := h; exact ⟨_, _, by simp only [binOp, Op.intBits, ne_eq, not_true_eq_false, if_false]; rfl, by rw [Rep], h⟩
    case h_11 => obtain ⟨rfl, h⟩ := h; exact ⟨_, _, by simp only [binOp, Op.intCmp, ne_eq, not_true_eq_false, if_false]; rfl, by rw [Rep], h⟩
    case h_12 => obtain ⟨rfl, h⟩ := h; exact ⟨_, _, by simp only [binOp, Op.intCmp, ne_eq, not_true_eq_false, if_false]; rfl, by rw [Rep], h⟩
    case h_13 => obtain ⟨rfl, h⟩ := h; exact ⟨_, _, by simp only [binOp, Op.intCmp, ne_eq, not_true_eq_false, if_false]; rfl, by rw [Rep], h⟩
    case h_14 => obtain ⟨rfl, h⟩ := h; exact ⟨_, _, by simp only [binOp, Op.intCmp, ne_eq, not_true_eq_false, if_false]; rfl, by rw [Rep], h⟩
    case h_15 => obtain ⟨rfl, h⟩ := h; exact ⟨_, _, by simp only [binOp, Op.intCmp, ne_eq, not_true_eq_false, if_false]; rfl, by rw [Rep], h⟩
    case h_16 => obtain ⟨rfl, h⟩ := h; exact ⟨_, _, by simp only [binOp, Op.intCmp, ne_eq, not_true_eq_false, if_false]; rfl, by rw [Rep], h⟩
    case h_17 => exact h.elim
  · rename_i a b
    rw [Rep] at hx hy
    subst hx; subst hy
    simp only [Sem.run_bind, guard_str, Result.andThen_ok]
    split at h
    case h_1 => exact ⟨_, _, by simp only [binOp, Op.stringOp]; rfl, by rw [Rep], h⟩
    case h_2 => exact ⟨_, _, by simp only [binOp, Op.stringOp]; rfl, by rw [Rep], h⟩
    case h_3 => exact ⟨_, _, by simp only [binOp, Op.stringOp]; rfl, by rw [Rep], h⟩
    case h_4 => exact ⟨_, _, by simp only [binOp, Op.stringOp]; rfl, by rw [Rep], h⟩
    case h_5 => exact ⟨_, _, by simp only [binOp, Op.stringOp]; rfl, by rw [Rep], h⟩
    case h_6 => exact ⟨_, _, by simp only [binOp, Op.stringOp]; rfl, by rw [Rep], h⟩
    case h_7 => exact ⟨_, _, by simp only [binOp, Op.stringOp]; rw [if_neg (by omega)]; rfl, by rw [Rep], h.2⟩
    case h_8 => exact h.elim
  · exact h.elim

theorem run_eqB {bop : BinOp} {t : TypeId} {ox oy : Operand} {cx cy : Value} {vals : List AVal} {neg : Bool} (hop : bop = if neg then .neq else .eql) (hu : P.underlying t = some .bool)
    (hr : RepL C vals [cx, cy]) (h : ev (.eqB neg) vals C.rows K) : ∃ cv v, (do eqGuard bop t ox oy cx cy; binOp bop t cx cy : Sem Value).run P C.w = .ok cv C.w ∧ Rep C v cv ∧ K v C.rows := by
  obtain ⟨a, b, rfl, ha, hb⟩ := repL2 hr
  cases a with
  | bool p =>
    cases b with
    | bool q =>
      simp only [ev] at h
      rw [Rep] at ha hb
      refine ⟨.bool ((p == q) != neg), _, ?_, by rw [Rep], h⟩
      simp only [ha, hb, Sem.run_bind, guard_bool, Result.andThen_ok]
      cases neg <;> simp at hop <;> subst hop <;> simp [binOp, Op.equal, Op.maxDepth, run_equalIn_bool' C.w 9999 t _ _ hu]
    | _ => simp [ev] at h
  | _ => simp [ev] at h

theorem run_eqA {bop : BinOp} {t : TypeId} {ox oy : Operand} {cx cy : Value} {vals : List AVal} {neg : Bool} {ks : List CK} {fields : Array Field} (hop : bop = if neg then .neq else .eql)
    (hu : P.underlying t = some (.struct fields)) (hks : flatK P 20 t = some ks) (hg : P.eqGuardType P.depth t = false)
    (hr : RepL C vals [cx, cy]) (h : ev (.eqA neg ks) vals C.rows K) : ∃ cv v, (do eqGuard bop t ox oy cx cy; binOp bop t cx cy : Sem Value).run P C.w = .ok cv C.w ∧ Rep C v cv ∧ K v C.rows := by
  obtain ⟨a, b, rfl, ha, hb⟩ := repL2 hr
  cases a with
  | agg p =>
    cases b with
    | agg q =>
      simp only [ev] at h
      obtain ⟨f1, f2, hk⟩ := h
      rw [Rep] at ha hb
      obtain ⟨vx, rfl, rx⟩ := ha
      obtain ⟨vy, rfl, ry⟩ := hb
      have hag : isAggT P t = some true := by simp [isAggT, hu]
      have he := eq_run (C := C) C.w 20 10000 t ks p q vx.toList vy.toList (.agg vx) (.agg vy) hks (by omega) f1 f2 rx ry (.inl ⟨hag, rfl⟩) (.inl ⟨hag, rfl⟩)
      refine ⟨.bool (eqCells p q != neg), _, ?_, by rw [Rep], hk⟩
      have hgd : (eqGuard bop t ox oy (.agg vx) (.agg vy)).run P C.w = .ok () C.w := by
        cases bop <;> simp [eqGuard, hg]
      simp only [Sem.run_bind, hgd, Result.andThen_ok]
      cases neg <;> simp at hop <;> subst hop <;> simp [binOp, Op.equal, Op.maxDepth, he]
    | _ => simp [ev] at h
  | _ => simp [ev] at h

theorem run_equalIn_nil (w : World) (n : Nat) (t e : TypeId) (a : Addr) (l c : Nat) (hu : P.underlying t = some (.slice e)) : (Op.equalIn (n + 1) t (.slice (some a) l c) (.slice none 0 0)).run P w = .ok false w := by
  rw [Op.equalIn]
  simp only [Sem.run_bind, run_underlying hu, Result.andThen_ok, Sem.run_pure]
theorem run_isnil {bop : BinOp} {t e : TypeId} {ox oy : Operand} {cx : Value} {x : AVal} {sz : Nat} {neg : Bool} (hop : bop = if neg then .neq else .eql) (hok : Ok C) (hu : P.underlying t = some (.slice e)) (hx : Rep C x cx)
    (h : evIsnil C.rows sz neg x fun v => K v C.rows) : ∃ cv v, (do eqGuard bop t ox oy cx (.slice none 0 0); binOp bop t cx (.slice none 0 0) : Sem Value).run P C.w = .ok cv C.w ∧ Rep C v cv ∧ K v C.rows := by
  unfold evIsnil at h
  split at h
  · rename_i ys hys
    obtain ⟨ao, c, rfl, ⟨rfl, rfl⟩ | ⟨a, vs, rfl, _, _⟩⟩ := source hok hx hys
    · simp at h
    · refine ⟨.bool neg, _, ?_, by rw [Rep], h.2⟩
      have hgd : (eqGuard bop t ox oy (.slice (some a) ys.length c) (.slice none 0 0)).run P C.w = .ok () C.w := by
        cases bop <;> simp [eqGuard]
      simp only [Sem.run_bind, hgd, Result.andThen_ok]
      cases neg <;> simp at hop <;> subst hop <;> simp [binOp, Op.equal, Op.maxDepth, run_equalIn_nil C.w 9999 t e _ _ _ hu]
  · exact h.elim

theorem bytesE_rep {C : Ctx} : ∀ {ys : List (List AVal)} {ns : List Int} {vs : List Value}, bytesE ys = some ns → RepL C ys.flatten vs → vs = ns.map (Value.int .u8)
  | [], ns, vs, h, r => by simp [bytesE] at h; subst h; simpa [RepL] using r
  | y :: ys, ns, vs, h, r => by
    unfold bytesE at h
    split at h
    · cases ‹_ :: _ = []›
    · rename_i n es heq
      cases heq
      split at h
      · rename_i ms hms
        simp at h; subst h
        simp only [List.flatten_cons, List.cons_append, List.nil_append] at r
        rw [RepL] at r
        obtain ⟨v, rest, rfl, h1, h2⟩ := r
        rw [Rep] at h1
        rw [h1, bytesE_rep hms h2]; rfl
      · cases h
    · cases h

theorem run_b2s (hok : Ok C) {s d e : TypeId} {x : AVal} {cx : Value} (hs : P.underlying s = some (.slice e)) (he : P.underlying e = some (.int .u8)) (hd : P.underlying d = some .string) (hx : Rep C x cx)
    (h : evB2s C.rows x fun v => K v C.rows) : ∃ cv v, (convert s d cx).run P C.w = .ok cv C.w ∧ Rep C v cv ∧ K v C.rows := by
  simp only [evB2s] at h
  split at h
  · exact h.elim
  · rename_i ys hys
    split at h
    · rename_i ns hns
      obtain ⟨ao, c, rfl, hsrc⟩ := source hok hx hys
      refine ⟨.string (strOf ns), _, ?_, by rw [Rep], h⟩
      rw [run_convert_bytes_string _ _ _ _ _ _ _ hs he hd]
      rcases hsrc with ⟨rfl, rfl⟩ | ⟨a, vs, rfl, hel, hcell⟩
      · simp [bytesE] at hns; subst hns
        simp [Conv.bytesToString, strOf]
      · have hv := bytesE_rep hns hel.rep
        have hl := hel.length
        rw [Nat.mul_one] at hl
        rw [← hl]
        exact run_bytesToString _ _ _ _ ns (by rw [← hv]; exact run_loadCells_list _ _ vs hcell)
    · exact h.elim

theorem run_frz (hok : Ok C) {s e : TypeId} {x : AVal} {cx : Value} (hs : P.underlying s = some (.slice e)) (he : P.underlying e = some (.int .u8)) (hx : Rep C x cx) (h : evFrz C.rows x K) :
    ∃ cv v C', (convert s s cx).run P C.w = .ok cv C'.w ∧ Rep C' v cv ∧ Ok C' ∧ Later C.rows.length C C' ∧ K v C'.rows := by
  unfold evFrz at h
  split at h
  · rename_i r n off len
    split at h
    · rename_i e' sz vals hrow
      obtain ⟨hn, rfl, rfl, hpos, hcl, hk⟩ := h
      rw [Rep] at hx
      obtain ⟨hpm, _, hrl, hx⟩ := hx
      obtain ⟨_, p, hp, hv⟩ := (hx e' sz vals hrow).2 hn
      rcases hok.live hrow with ⟨_, rfl⟩ | ⟨b, cap, cs, hp', k1, k2, k3, k4, k5, k6⟩
      · simp at hn; omega
      · rw [hp'] at hp; simp at hp; subst hp
        simp only [ownv] at hv
        obtain ⟨⟨ab, ao, asp⟩, c, rfl, hlc, hspot, hblk, hoff, _⟩ := hv
        simp only at hspot hblk hoff
        subst hspot; subst hblk
        obtain ⟨rfl, _⟩ := hoff trivial
        have hsh : C.w.shape? ab = some (e', cs.size) := by simp [World.shape?, k2]
        have hold : ∀ k, k ≠ ab → (C.w.freeze ⟨ab, cs.size, none⟩ 1).heap[k]? = C.w.heap[k]? := by
          intro k hk
          simp [World.freeze, Array.getElem?_modify, hk.symm]
        have hnew : (C.w.freeze ⟨ab, cs.size, none⟩ 1).heap[ab]? = some (.cells cs e' (cs.size, cs.size + 1)) := by
          simp [World.freeze, Array.getElem?_modify, k2]
        have hcell : ∀ o, (C.w.freeze ⟨ab, cs.size, none⟩ 1).cell? ⟨ab, o, none⟩ = C.w.cell? ⟨ab, o, none⟩ := by
          intro o
          simp [World.cell?, hnew, k2]
        have hsize : (C.w.freeze ⟨ab, cs.size, none⟩ 1).heap.size = C.w.heap.size := by simp [World.freeze]
        have hrp : r < C.phi.length := by rw [hok.plen]; exact hrl
        have phi' : ∀ {k : Nat}, k ≠ r → (C.phi.set r none)[k]? = C.phi[k]? := fun hne => by rw [List.getElem?_set, if_neg (fun e => hne e.symm)]
        have phir : (C.phi.set r none)[r]? = some none := by rw [List.getElem?_set, if_pos rfl, if_pos hrp]
        have old : ∀ {k : Nat} {q : Nat × Nat}, (C.phi.set r none)[k]? = some (some q) → k ≠ r ∧ C.phi[k]? = some (some q) := by
          intro k q hk
          by_cases hkr : k = r
          · subst hkr; rw [phir] at hk; simp at hk
          · rw [phi' hkr] at hk; exact ⟨hkr, hk⟩
        have later : Later C.rows.length C ⟨C.rows.set r .dead, C.phi.set r none, C.om, C.w.freeze ⟨ab, cs.size, none⟩ 1, C.pm⟩ := by
          refine ⟨rfl, rfl, rfl, by rw [hsize]; exact Nat.le_refl _, fun k hk ho => hold k fun hkb => ?_, fun k b' c' hk => .inl ⟨k, c', (old hk).2⟩, rfl, rfl, by simp, fun k e2 sz2 vals2 hk hv2 => ?_, fun k o2 hk hv2 => ?_, fun _ => Nat.le_refl _⟩
          · subst hkb; exact ho r cap hp'
          · by_cases hkr : k = r
            · subst hkr
              simp only [List.getElem?_set, if_true, hrl] at hv2
              simp at hv2
            · simp only [List.getElem?_set] at hv2
              rw [if_neg (fun e => hkr e.symm)] at hv2
              exact ⟨vals2, hv2, Nat.le_refl _, fun _ => phi' hkr⟩
          · by_cases hkr : k = r
            · subst hkr
              simp only [List.getElem?_set, if_true, hrl] at hv2
              simp at hv2
            · simp only [List.getElem?_set] at hv2
              rw [if_neg (fun e => hkr e.symm)] at hv2
              exact ⟨o2, hv2, phi' hkr⟩
        refine ⟨.slice (some ⟨ab, 0, none⟩) len c, .pure sz vals, ⟨C.rows.set r .dead, C.phi.set r none, C.om, C.w.freeze ⟨ab, cs.size, none⟩ 1, C.pm⟩, ?_, ?_, ⟨hok.pm, by simp [hok.plen], fun k row hk => ?_, fun k k' b' c1 c2 h1 h2 => ?_, fun b' hb' => by rw [hsize]; exact hok.om b' hb'⟩, later, hk⟩
        · simp [convert, run_underlying hs, run_underlying he, markStringish, hsh]
        · rw [Rep]
          refine ⟨_, c, by rw [← hn], by rw [← hn]; exact hlc, .inr ⟨ab, 0, rfl, ⟨by rw [hsize]; exact hok.lt hp', k1, fun k c' hk => ?_⟩, ?_⟩⟩
          · obtain ⟨g1, g2⟩ := old hk
            exact g1 (hok.inj k r ab c' cap g2 hp')
          · obtain ⟨g1, g2⟩ := RepE_iff.1 (RepE.toP ab sz 0 vals hcl k6)
            exact RepE_iff.2 ⟨g1, g2.move later.ext.p fun j _ => hcell _⟩
        · by_cases hkr : k = r
          · subst hkr
            simp only [List.getElem?_set, if_true, hrl] at hk
            simp at hk; subst hk
            exact phir
          · have hk' : C.rows[k]? = some row := by
              simp only [List.getElem?_set] at hk
              rw [if_neg (fun e => hkr e.symm)] at hk
              exact hk
            refine RowOk.move later.ext rfl (phi' hkr) (fun b' c' hb' => hold b' fun hbb => ?_) (hok.rows k row hk')
            subst hbb
            exact hkr (hok.inj k r b' c' cap hb' hp')
        · exact hok.inj k k' b' c1 c2 (old h1).2 (old h2).2
    · exact h.elim
  · exact h.elim

theorem ev_sound {o : Oper} {aop : AOp} {xs : List Operand} (hc : compileOp P o = some (aop, xs)) (hcall : ∀ f, aop ≠ .call f) (hok : Ok C) (ρ : Operand → Value) (hρ : ∀ v, ρ (.const v) = v) {vals : List AVal}
    (hr : RepL C vals (xs.map ρ)) (h : ev aop vals C.rows K) : Runs P C (execOp ρ o) K := by
  obtain ⟨dst, op, type, pos, after, guard⟩ := o
  unfold compileOp at hc
  simp only at hc
  split at hc
  · -- move
    simp at hc; obtain ⟨rfl, rfl⟩ := hc
    obtain ⟨a, rfl, ha⟩ := repL1 hr
    exact ⟨.value _, _, a, C, rfl, .inl rfl, ha, hok, Later.refl C, h⟩
  · -- assign
    simp at hc; obtain ⟨rfl, rfl⟩ := hc
    obtain ⟨a, rfl, ha⟩ := repL1 hr
    exact ⟨.value _, _, a, C, rfl, .inl rfl, ha, hok, Later.refl C, h⟩
  · -- pick
    simp at hc; obtain ⟨rfl, rfl⟩ := hc
    obtain ⟨a, b, c, rfl, ha, hb, hc⟩ := repL3 hr
    cases a <;> simp only [ev] at h
    rename_i t
    rw [Rep] at ha
    cases t
    · exact ⟨.value _, _, c, C, by simp only [execOp, ha, asBool, Sem.run_bind, Sem.run_pure, Result.andThen_ok]; rfl, .inl rfl, hc, hok, Later.refl C, h⟩
    · exact ⟨.value _, _, b, C, by simp only [execOp, ha, asBool, Sem.run_bind, Sem.run_pure, Result.andThen_ok]; rfl, .inl rfl, hb, hok, Later.refl C, h⟩
  · -- alloc
    split at hc
    · rename_i t z hz
      simp at hc; obtain ⟨rfl, rfl⟩ := hc
      rw [repL0 hr] at h
      exact Runs.val' (run_alloc' hok hz h)
    · cases hc
  · -- box
    split at hc
    · rename_i t x n hs
      simp at hc; obtain ⟨rfl, rfl⟩ := hc
      obtain ⟨a, rfl, ha⟩ := repL1 hr
      simp only [ev] at h
      exact Runs.val' (run_box' hok ha h.1 h.2.1 h.2.2)
    · cases hc
  · -- build
    split at hc
    · rename_i t parts z fields hz hu
      split at hc
      · rename_i places hp
        split at hc
        · rename_i hall
          simp only [Option.some.injEq, Prod.mk.injEq] at hc; obtain ⟨rfl, rfl⟩ := hc
          simp only [ev] at h
          split at h
          · rename_i cs hf
            obtain ⟨cv, r1, r2⟩ := run_build' (P := P) (w := C.w) hz hu hp hall hr hf h.1
            exact Runs.val hok ⟨cv, _, r1, r2, h.2⟩
          · exact h.elim
        · cases hc
      · cases hc
    · rename_i t parts z len e hz hu
      split at hc
      · rename_i n hs
        simp only [Option.some.injEq, Prod.mk.injEq] at hc; obtain ⟨rfl, rfl⟩ := hc
        simp only [ev] at h
        split at h
        · rename_i cs hf
          obtain ⟨cv, r1, r2⟩ := run_buildA (P := P) (w := C.w) hz hu hs hr hf h.1
          exact Runs.val hok ⟨cv, _, r1, r2, h.2⟩
        · exact h.elim
      · cases hc
    · cases hc
  · -- buildSlice
    split at hc
    · rename_i t len parts _ e hu
      split at hc
      · rename_i z hz
        split at hc
        · rename_i h0
          simp only [Option.some.injEq, Prod.mk.injEq] at hc; obtain ⟨rfl, rfl⟩ := hc
          rw [repL0 hr] at h
          obtain ⟨rfl, hp0⟩ := h0
          have hp1 : parts = #[] := Array.eq_empty_of_size_eq_zero hp0
          subst hp1
          obtain ⟨i, zv, hi, hzv, habs, hl, hpos, hsz⟩ := zeroOf_spec hz
          obtain ⟨g1, g2⟩ := garbage hok (.cells #[] e)
          refine Runs.val' ⟨.slice (some ⟨C.w.heap.size, 0, none⟩) 0 0, .nils, _, ?_, by rw [Rep]; exact ⟨_, rfl⟩, g1, g2, h⟩
          have hr0 : Array.range 0 = #[] := rfl
          simp [Instr.buildSlice, run_underlying hu, sizeOf, typeInfo, hi, Instr.fill, newRow, hr0]
        split at hc
        · rename_i hl
          simp only [Option.some.injEq, Prod.mk.injEq] at hc; obtain ⟨rfl, rfl⟩ := hc
          simp only [ev] at h
          split at h
          · rename_i es hf
            exact Runs.val' (run_bslice' hok hu hz hl hr hf h.1 h.2)
          · exact h.elim
        · cases hc
      · cases hc
    · cases hc
  · -- makeSlice
    split at hc
    · rename_i t l c e hu
      split at hc
      · rename_i z by_ hz hb
        split at hc
        · cases hc
        simp at hc; obtain ⟨rfl, rfl⟩ := hc
        obtain ⟨a, b, rfl, ha, hb'⟩ := repL2 hr
        cases a <;> simp only [ev] at h
        cases b <;> simp only at h
        rw [Rep] at ha hb'
        simp only [execOp, ha, hb']
        exact Runs.val' (run_mkslice' hok hu hz hb h.1 h.2.1 h.2.2.1 h.2.2.2.1 h.2.2.2.2)
      · cases hc
    · cases hc
  · -- load
    split at hc
    · rename_i t x n hag hs
      simp at hc; obtain ⟨rfl, rfl⟩ := hc
      obtain ⟨a, rfl, ha⟩ := repL1 hr
      exact Runs.val hok (run_loadA hok ha hag hs h)
    · rename_i t x n hag
      simp at hc; obtain ⟨rfl, rfl⟩ := hc
      obtain ⟨a, rfl, ha⟩ := repL1 hr
      exact Runs.val hok (run_load1 hok ha hag h)
    · cases hc
  · -- store
    split at hc
    · rename_i t x y n hs
      simp at hc; obtain ⟨rfl, rfl⟩ := hc
      obtain ⟨a, b, rfl, ha, hb⟩ := repL2 hr
      obtain ⟨C', r1, r2, r3, r4⟩ := run_store' hok ha hb hs h
      exact Runs.unit r2 r3 r1 r4
    · cases hc
  · -- nilCheck
    simp at hc; obtain ⟨rfl, rfl⟩ := hc
    obtain ⟨a, rfl, ha⟩ := repL1 hr
    cases a <;> simp only [ev] at h
    · have ha' := ha
      rw [Rep] at ha'
      obtain ⟨_, ⟨ad, e⟩, _⟩ := ha'
      refine ⟨.value _, _, _, C, ?_, .inl rfl, ha, hok, Later.refl C, h⟩
      simp [execOp, e]
    · have ha' := ha
      rw [Rep] at ha'
      obtain ⟨b, o, e, _⟩ := ha'
      refine ⟨.value _, _, _, C, ?_, .inl rfl, ha, hok, Later.refl C, h⟩
      simp [execOp, e]
  · -- binOp
    rename_i bop t x y yt
    split at hc
    · simp at hc; obtain ⟨rfl, rfl⟩ := hc
      obtain ⟨a, b, rfl, ha, hb⟩ := repL2 hr
      exact Runs.val hok (run_bin' (K := fun v => K v C.rows) ha hb h)
    · simp at hc; obtain ⟨rfl, rfl⟩ := hc
      obtain ⟨a, b, rfl, ha, hb⟩ := repL2 hr
      exact Runs.val hok (run_bin' (K := fun v => K v C.rows) ha hb h)
    · rename_i hu
      split at hc
      · simp at hc; obtain ⟨rfl, rfl⟩ := hc; exact Runs.val hok (run_eqB (neg := false) rfl hu hr h)
      · simp at hc; obtain ⟨rfl, rfl⟩ := hc; exact Runs.val hok (run_eqB (neg := true) rfl hu hr h)
      · cases hc
    · rename_i fields hu
      split at hc
      · rename_i ks hks
        split at hc
        · cases hc
        rename_i hg
        split at hc
        · simp at hc; obtain ⟨rfl, rfl⟩ := hc; exact Runs.val hok (run_eqA (neg := false) rfl hu hks (by simpa using hg) hr h)
        · simp at hc; obtain ⟨rfl, rfl⟩ := hc; exact Runs.val hok (run_eqA (neg := true) rfl hu hks (by simpa using hg) hr h)
        · cases hc
      · cases hc
    · rename_i e hu
      split at hc
      · simp at hc; obtain ⟨rfl, rfl⟩ := hc
        obtain ⟨a, rfl, ha⟩ := repL1 hr
        simp only [ev] at h
        have hh := run_isnil (ox := x) (oy := .const (.slice none 0 0)) (neg := false) rfl hok hu ha h
        exact Runs.val hok (by rw [hρ]; exact hh)
      · simp at hc; obtain ⟨rfl, rfl⟩ := hc
        obtain ⟨a, rfl, ha⟩ := repL1 hr
        simp only [ev] at h
        have hh := run_isnil (ox := x) (oy := .const (.slice none 0 0)) (neg := true) rfl hok hu ha h
        exact Runs.val hok (by rw [hρ]; exact hh)
      · cases hc
    · cases hc
  · -- not
    simp at hc; obtain ⟨rfl, rfl⟩ := hc
    obtain ⟨a, rfl, ha⟩ := repL1 hr
    cases a <;> simp only [ev] at h
    rw [Rep] at ha
    exact Runs.val hok ⟨_, _, by simp only [ha, Op.unary]; rfl, by rw [Rep], h⟩
  · -- neg
    simp at hc; obtain ⟨rfl, rfl⟩ := hc
    obtain ⟨a, rfl, ha⟩ := repL1 hr
    cases a <;> simp only [ev] at h
    rw [Rep] at ha
    exact Runs.val hok ⟨_, _, by simp only [ha, Op.unary, Op.intArith]; rfl, by rw [Rep], h⟩
  · -- convert
    rename_i s d x
    split at hc
    · rename_i ks kd hs hd
      simp at hc; obtain ⟨rfl, rfl⟩ := hc
      obtain ⟨a, rfl, ha⟩ := repL1 hr
      cases a <;> simp only [ev] at h
      rw [Rep] at ha
      refine Runs.val hok ⟨_, _, ?_, by rw [Rep], h⟩
      simp [ha, convert, run_underlying hs, run_underlying hd, Conv.intToInt]
    · rename_i e hs hd
      split at hc
      · rename_i he
        simp at hc; obtain ⟨rfl, rfl⟩ := hc
        obtain ⟨a, rfl, ha⟩ := repL1 hr
        simp only [ev] at h
        exact Runs.val hok (run_b2s hok hs he hd ha h)
      · cases hc
    · rename_i e e' hs hd
      split at hc
      · rename_i hsd
        subst hsd
        split at hc
        · rename_i he
          simp at hc; obtain ⟨rfl, rfl⟩ := hc
          obtain ⟨a, rfl, ha⟩ := repL1 hr
          simp only [ev] at h
          exact Runs.val' (run_frz hok hs he ha h)
        · cases hc
      · cases hc
    · cases hc
  · -- fieldAddr
    rename_i s x f
    split at hc
    · rename_i fields hu
      split at hc
      · rename_i fd hf
        split at hc
        · rename_i n hs
          split at hc
          · cases hc
          rename_i hn
          simp at hc; obtain ⟨rfl, rfl⟩ := hc
          obtain ⟨a, rfl, ha⟩ := repL1 hr
          simp only [ev] at h
          cases a <;> simp only [evFieldAddr] at h
          · rename_i r m i off
            rw [Rep] at ha
            obtain ⟨hpm, ⟨ad, ea⟩, hrl, hx⟩ := ha
            refine Runs.val hok ⟨.pointer (some (ad.add fd.offset)), _, ?_, ?_, h⟩
            · simp [Instr.fieldAt, Instr.sureAddr, fieldPlace, run_underlying hu, hf, ea, run_sizeOf hs, hn]
            · rw [Rep]
              refine ⟨hpm, ⟨_, rfl⟩, hrl, fun e sz vals hv => ⟨(hx e sz vals hv).1, fun hm => ?_⟩⟩
              obtain ⟨g1, b, c, g2, g3⟩ := (hx e sz vals hv).2 hm
              rw [ea] at g3
              simp at g3
              subst g3
              exact ⟨g1, b, c, g2, by rw [addr_add, Nat.add_assoc]⟩
          · rename_i cells off
            rw [Rep] at ha
            obtain ⟨b, o, ea, hb, hcl⟩ := ha
            refine Runs.val hok ⟨.pointer (some ⟨b, o + off + fd.offset, none⟩), _, ?_, ?_, h⟩
            · simp [Instr.fieldAt, Instr.sureAddr, fieldPlace, run_underlying hu, hf, ea, run_sizeOf hs, hn, addr_add]
            · rw [Rep]; exact ⟨b, o, by rw [Nat.add_assoc], hb, hcl⟩
        · cases hc
      · cases hc
    · cases hc
  · -- field
    rename_i s x f
    split at hc
    · rename_i fields hu
      split at hc
      · rename_i fd hf
        split at hc
        · rename_i n hag hs
          simp at hc; obtain ⟨rfl, rfl⟩ := hc
          obtain ⟨a, rfl, ha⟩ := repL1 hr
          cases a <;> simp only [ev] at h
          rename_i cs
          rw [Rep] at ha
          obtain ⟨vs, ea, hv⟩ := ha
          have hl := hv.length
          obtain ⟨v, p1, p2⟩ := run_part (P := P) (w := C.w) (off := fd.offset) (vs := vs.toList) hag hs (by omega) (by intro h; cases h)
          rcases p2 with ⟨_, rfl⟩ | ⟨h2, _⟩
          · refine Runs.val hok ⟨.agg ((vs.toList.drop fd.offset).take n).toArray, _, ?_, ?_, h.2⟩
            · simp only [Instr.field, Sem.run_bind, run_underlying hu, Result.andThen_ok, hf, ea, asAgg, Sem.run_pure]
              simpa using p1
            · rw [Rep]; exact ⟨_, rfl, by simpa using (hv.drop fd.offset).take n⟩
          · rw [hag] at h2; cases h2
        · rename_i n hag
          simp at hc; obtain ⟨rfl, rfl⟩ := hc
          obtain ⟨a, rfl, ha⟩ := repL1 hr
          cases a <;> simp only [ev] at h
          rename_i cs
          rw [Rep] at ha
          obtain ⟨vs, ea, hv⟩ := ha
          obtain ⟨v, g1, g2⟩ := hv.get fd.offset h.1
          refine Runs.val hok ⟨v, _, ?_, g2, h.2⟩
          have g1' : vs[fd.offset]? = some v := by simpa using g1
          simp [Instr.field, run_underlying hu, hf, ea, asAgg, part, run_isAgg hag, g1']
        · cases hc
      · cases hc
    · cases hc
  · -- indexAddr
    rename_i t x i
    split at hc
    · rename_i e hu
      split at hc
      · rename_i n hs
        simp at hc; obtain ⟨rfl, rfl⟩ := hc
        obtain ⟨a, b, rfl, ha, hb⟩ := repL2 hr
        exact Runs.val hok (run_indexAddr' hok hu hs ha hb h)
      · cases hc
    · rename_i len e hu
      split at hc
      · rename_i n hs
        split at hc
        · rename_i hl1
          simp at hc; obtain ⟨rfl, rfl⟩ := hc
          obtain ⟨a, b, rfl, ha, hb⟩ := repL2 hr
          exact Runs.val hok (run_indexArr hu hs hl1 ha hb h)
        · cases hc
      · cases hc
    · cases hc
  · -- index
    rename_i t x i
    split at hc
    · rename_i hu
      simp at hc; obtain ⟨rfl, rfl⟩ := hc
      obtain ⟨a, b, rfl, ha, hb⟩ := repL2 hr
      cases a <;> simp only [ev] at h
      cases b <;> simp only at h
      rename_i s k n
      simp only [Rep] at ha hb
      obtain ⟨h0, h1, hk⟩ := h
      have hlt : n.toNat < s.size := by omega
      refine Runs.val hok ⟨_, _, ?_, by rw [Rep], hk⟩
      have e1 : s[n.toNat]? = some (s.data.getD n.toNat 0) := by
        rw [getElem?_pos s n.toNat hlt]
        have h2 : n.toNat < s.data.size := hlt
        simp only [Array.getD, h2, dif_pos]
        rfl
      simp [ha, hb, Instr.index, asIntOf, run_underlying hu, h0, e1]
    · rename_i len e hu
      split at hc
      · rename_i n hag hs
        simp at hc; obtain ⟨rfl, rfl⟩ := hc
        obtain ⟨a, b, rfl, ha, hb⟩ := repL2 hr
        cases a <;> simp only [ev] at h
        cases b <;> simp only at h
        rename_i cs k j
        obtain ⟨⟨j0, j1⟩, hlt, hk⟩ := h
        simp only [Rep] at ha hb
        obtain ⟨vs, ea, hv⟩ := ha
        have hl := hv.length
        obtain ⟨v, p1, p2⟩ := run_part (P := P) (w := C.w) (off := j.toNat * n) (vs := vs.toList) hag hs (by omega) (by intro h; cases h)
        rcases p2 with ⟨_, rfl⟩ | ⟨h2, _⟩
        · refine Runs.val hok ⟨.agg ((vs.toList.drop (j.toNat * n)).take n).toArray, _, ?_, ?_, hk⟩
          · simp only [Instr.index, hb, asIntOf, Sem.run_bind, Sem.run_pure, run_underlying hu, Result.andThen_ok, ea, j0, j1, and_self, if_true, run_sizeOf hs]
            simpa using p1
          · rw [Rep]; exact ⟨_, rfl, by simpa using (hv.drop (j.toNat * n)).take n⟩
        · rw [hag] at h2; cases h2
      · rename_i hag hs
        simp at hc; obtain ⟨rfl, rfl⟩ := hc
        obtain ⟨a, b, rfl, ha, hb⟩ := repL2 hr
        cases a <;> simp only [ev] at h
        cases b <;> simp only at h
        rename_i cs k j
        obtain ⟨⟨j0, j1⟩, hlt, hk⟩ := h
        simp only [Rep] at ha hb
        obtain ⟨vs, ea, hv⟩ := ha
        obtain ⟨v, g1, g2⟩ := hv.get j.toNat hlt
        refine Runs.val hok ⟨v, _, ?_, g2, hk⟩
        have g1' : vs[j.toNat]? = some v := by simpa using g1
        simp [Instr.index, hb, asIntOf, run_underlying hu, ea, j0, j1, run_sizeOf hs, part, run_isAgg hag, g1']
      · cases hc
    · cases hc
  · -- slice
    rename_i t x lo hi
    have parts : ∀ {x : AVal} {vs : List AVal}, vals = x :: vs → RepL C vs ((lo.toList ++ hi.toList).map ρ) →
        ∃ alo ahi : Option AVal, ((∃ l cl, alo = some l ∧ lo.map ρ = some cl ∧ Rep C l cl) ∨ (alo = none ∧ lo.map ρ = none)) ∧ ((∃ l cl, ahi = some l ∧ hi.map ρ = some cl ∧ Rep C l cl) ∨ (ahi = none ∧ hi.map ρ = none)) ∧
          vs = alo.toList ++ ahi.toList ∧ lo.isSome = alo.isSome ∧ hi.isSome = ahi.isSome := by
      intro x vs _ hv
      cases lo with
      | none =>
        cases hi with
        | none =>
          have := repL0 (C := C) (as := vs) (by simpa using hv)
          subst this
          exact ⟨none, none, .inr ⟨rfl, rfl⟩, .inr ⟨rfl, rfl⟩, rfl, rfl, rfl⟩
        | some b =>
          obtain ⟨bb, rfl, hb⟩ := repL1 (C := C) (as := vs) (by simpa using hv)
          exact ⟨none, some bb, .inr ⟨rfl, rfl⟩, .inl ⟨bb, _, rfl, rfl, hb⟩, rfl, rfl, rfl⟩
      | some a =>
        cases hi with
        | none =>
          obtain ⟨aa, rfl, ha⟩ := repL1 (C := C) (as := vs) (by simpa using hv)
          exact ⟨some aa, none, .inl ⟨aa, _, rfl, rfl, ha⟩, .inr ⟨rfl, rfl⟩, rfl, rfl, rfl⟩
        | some b =>
          obtain ⟨aa, bb, rfl, ha, hb⟩ := repL2 (C := C) (as := vs) (by simpa using hv)
          exact ⟨some aa, some bb, .inl ⟨aa, _, rfl, rfl, ha⟩, .inl ⟨bb, _, rfl, rfl, hb⟩, rfl, rfl, rfl⟩
    have first : ∀ {ys : List Operand}, RepL C vals ((x :: ys).map ρ) → ∃ a as, vals = a :: as ∧ Rep C a (ρ x) ∧ RepL C as (ys.map ρ) := by
      intro ys hv
      cases vals with
      | nil => rw [List.map_cons, RepL] at hv; cases hv
      | cons a as =>
        rw [List.map_cons, RepL] at hv
        obtain ⟨v, rest, he, h1, h2⟩ := hv
        simp at he; obtain ⟨rfl, rfl⟩ := he
        exact ⟨a, as, rfl, h1, h2⟩
    split at hc
    · rename_i e hu
      split at hc
      · rename_i n hs
        simp only [Option.some.injEq, Prod.mk.injEq] at hc; obtain ⟨rfl, rfl⟩ := hc
        obtain ⟨a, as, rfl, ha, hv⟩ := first hr
        obtain ⟨alo, ahi, hlo, hhi, rfl, e1, e2⟩ := parts rfl hv
        refine Runs.val hok (run_slice' ha hu hs hlo hhi ?_)
        rw [e1, e2] at h
        cases alo <;> cases ahi <;> exact h
      · cases hc
    · rename_i hu
      simp only [Option.some.injEq, Prod.mk.injEq] at hc; obtain ⟨rfl, rfl⟩ := hc
      obtain ⟨a, as, rfl, ha, hv⟩ := first hr
      obtain ⟨alo, ahi, hlo, hhi, rfl, e1, e2⟩ := parts rfl hv
      refine Runs.val hok (run_sliceS' ha hu hlo hhi ?_)
      rw [e1, e2] at h
      cases alo <;> cases ahi <;> exact h
    · cases hc
  · -- extract
    simp at hc; obtain ⟨rfl, rfl⟩ := hc
    obtain ⟨a, rfl, ha⟩ := repL1 hr
    cases a <;> simp only [ev] at h
    rename_i i cs
    rw [Rep] at ha
    obtain ⟨vs, ea, hv⟩ := ha
    obtain ⟨v, g1, g2⟩ := hv.get _ h.1
    refine Runs.val hok ⟨v, _, ?_, g2, h.2⟩
    have g1' : vs[i]? = some v := by simpa using g1
    simp [Instr.extract, ea, g1']
  · -- len
    rename_i x t
    split at hc
    · rename_i e hu
      simp at hc; obtain ⟨rfl, rfl⟩ := hc
      obtain ⟨a, rfl, ha⟩ := repL1 hr
      simp only [ev] at h
      split at h
      · rename_i l hl
        have hv : ∃ ao c, ρ x = .slice ao l c := by
          cases a <;> simp [len?] at hl <;> subst hl
          case pure => rw [Rep] at ha; obtain ⟨ao, c, e, _⟩ := ha; exact ⟨ao, c, e⟩
          case nils => rw [Rep] at ha; obtain ⟨ao, e⟩ := ha; exact ⟨ao, 0, e⟩
          case own => rw [Rep] at ha; obtain ⟨_, ⟨ao, c, e⟩, _⟩ := ha; exact ⟨ao, c, e⟩
        obtain ⟨ao, c, e⟩ := hv
        refine ⟨.value (goInt l), goInt l, _, C, ?_, .inl rfl, ?_, hok, Later.refl C, h⟩
        · simp [execOp, resolve, invoke, builtin, Builtin.len_, run_underlying hu, e]
        · rw [Rep]; rfl
      · exact h.elim
    · rename_i hu
      simp at hc; obtain ⟨rfl, rfl⟩ := hc
      obtain ⟨a, rfl, ha⟩ := repL1 hr
      cases a <;> simp only [ev] at h
      rw [Rep] at ha
      rename_i s
      refine ⟨.value (goInt s.size), goInt s.size, _, C, ?_, .inl rfl, ?_, hok, Later.refl C, h⟩
      · simp [execOp, resolve, invoke, builtin, Builtin.len_, run_underlying hu, ha]
      · rw [Rep]; rfl
    · rename_i kt et hu
      simp at hc; obtain ⟨rfl, rfl⟩ := hc
      obtain ⟨a, rfl, ha⟩ := repL1 hr
      cases a <;> simp only [ev] at h
      rename_i r
      split at h
      · rename_i ag ks ents hrow
        obtain ⟨b, c, es, hm, e⟩ := mref_at hok ha hrow
        refine ⟨.value (goInt es.size), goInt es.size, _, C, ?_, .inl rfl, ?_, hok, Later.refl C, h⟩
        · simp [execOp, resolve, invoke, builtin, Builtin.len_, run_underlying hu, e, Go.run_getObj_map _ _ _ _ hm.heap]
        · rw [Rep, hm.size]; rfl
      · exact h.elim
    · cases hc
  · -- append
    rename_i x y t u
    split at hc
    · rename_i htu
      subst htu
      split at hc
      · rename_i e hu
        split at hc
        · rename_i z by_ hz hb
          split at hc
          · cases hc
          rename_i hb0
          simp at hc; obtain ⟨rfl, rfl⟩ := hc
          obtain ⟨a, b, rfl, ha, hb'⟩ := repL2 hr
          obtain ⟨i, zv, hi, hzv, habs, hl, hpos, hsz⟩ := zeroOf_spec hz
          have hby : i.bytes = by_ := by simpa [hi] using hb
          subst hby
          simp only [ev, hl] at h
          obtain ⟨cv, v, C', r1, r2, r3, r4, r5⟩ := run_appendA (ty := type) hok hu hi hzv hsz hb0 ha hb' h
          refine ⟨.value cv, cv, v, C', ?_, .inl rfl, r2, r3, r4, r5⟩
          simp [execOp, resolve, invoke, builtin, r1]
        · cases hc
      · cases hc
    · split at hc
      · rename_i e ht hu
        split at hc
        · rename_i z by_ hz hb
          split at hc
          · cases hc
          · rename_i hb0
            simp at hc; obtain ⟨rfl, rfl⟩ := hc
            obtain ⟨a, b, rfl, ha, hb'⟩ := repL2 hr
            cases a <;> simp only [ev] at h
            cases b <;> simp only at h
            rename_i k n
            rw [Rep] at hb'
            obtain ⟨cv, v, C', r1, r2, r3, r4, r5⟩ := run_appendZ (ty := type) (k := k) hok ht hu hz hb hb0 ha h.1 h.2.1 h.2.2
            rw [← hb'] at r1
            refine ⟨.value cv, cv, v, C', ?_, .inl rfl, r2, r3, r4, r5⟩
            simp [execOp, resolve, invoke, builtin, r1]
        · cases hc
      · cases hc
  · -- min
    rename_i x y ats
    simp at hc; obtain ⟨rfl, rfl⟩ := hc
    obtain ⟨a, b, rfl, ha, hb⟩ := repL2 hr
    cases a <;> simp only [ev] at h
    cases b <;> simp only at h
    rename_i k p k' q
    rw [Rep] at ha hb
    obtain ⟨rfl, hk⟩ := h
    refine ⟨.value (.int k (min p q)), .int k (min p q), .int k (min p q), C, ?_, .inl rfl, by rw [Rep], hok, Later.refl C, hk⟩
    have : (if q < p then q else p) = min p q := by simp only [Int.min_def]; split <;> split <;> omega
    simp [execOp, resolve, invoke, builtin, Builtin.min_, Builtin.min2, ha, hb, this]
  · -- max
    rename_i x y ats
    simp at hc; obtain ⟨rfl, rfl⟩ := hc
    obtain ⟨a, b, rfl, ha, hb⟩ := repL2 hr
    cases a <;> simp only [ev] at h
    cases b <;> simp only at h
    rename_i k p k' q
    rw [Rep] at ha hb
    obtain ⟨rfl, hk⟩ := h
    refine ⟨.value (.int k (max p q)), .int k (max p q), .int k (max p q), C, ?_, .inl rfl, by rw [Rep], hok, Later.refl C, hk⟩
    have : (if p < q then q else p) = max p q := by simp only [Int.max_def]; split <;> split <;> omega
    simp [execOp, resolve, invoke, builtin, Builtin.max_, Builtin.max2, ha, hb, this]
  · -- call
    split at hc
    · split at hc
      · simp at hc; exact (hcall _ hc.1.symm).elim
      · cases hc
    · cases hc
  · -- copy
    rename_i x y t u
    split at hc
    · rename_i htu
      subst htu
      split at hc
      · rename_i e hu
        split at hc
        · rename_i n hs
          simp at hc; obtain ⟨rfl, rfl⟩ := hc
          obtain ⟨a, b, rfl, ha, hb⟩ := repL2 hr
          simp only [ev] at h
          obtain ⟨cv, v, C', r1, r2, r3, r4, r5⟩ := run_copy (ty := type) hok hu hs ha hb h
          refine ⟨.value cv, cv, v, C', ?_, .inl rfl, r2, r3, r4, r5⟩
          simp [execOp, resolve, invoke, builtin, r1]
        · cases hc
      · cases hc
    · cases hc
  · -- makeFunc
    rename_i f captured
    simp at hc; obtain ⟨rfl, rfl⟩ := hc
    simp only [ev] at h
    refine ⟨.value (.func (.func f) #[] (captured.map ρ)), _, _, C, ?_, .inl rfl, ?_, hok, Later.refl C, h⟩
    · simp [execOp, Instr.makeFunc]
    · rw [Rep]; exact ⟨_, rfl, by simpa using hr⟩
  · -- makeMap
    rename_i t
    split at hc
    · rename_i kt et hu
      split at hc
      · rename_i ag ks hk
        simp at hc; obtain ⟨rfl, rfl⟩ := hc
        rw [repL0 hr] at h
        simp only [ev] at h
        obtain ⟨g1, g2⟩ := push_obj hok (.map ag ks []) (.map #[] 0) 0 (C.w.alloc (.map #[] 0)) ⟨rfl, rfl, rfl, rfl⟩ fun C' he ho hw hph => by
          rw [RowOk]
          refine ⟨_, _, #[], hph, ?_, by rw [hw, heap_alloc_new]; rfl, by simp, by simp [RepL], by simp [RepL], by simp⟩
          rw [ho]; intro hq; have := hok.om _ hq; omega
        refine Runs.val' ⟨.map (some C.w.heap.size), _, _, ?_, ?_, g1, g2, h⟩
        · simp only [Option.map_none, Instr.makeMap]; rfl
        · rw [Rep]
          exact ⟨hok.pm, ⟨_, rfl⟩, by simp, fun o _ => ⟨C.w.heap.size, 0, by simp [← hok.plen], rfl⟩⟩
      · cases hc
    · cases hc
  · -- lookup
    rename_i t x i ok
    split at hc
    · rename_i kt et hu
      split at hc
      · rename_i ag ks z hk hz
        simp at hc; obtain ⟨rfl, rfl⟩ := hc
        obtain ⟨a, b, rfl, ha, hb⟩ := repL2 hr
        exact Runs.val hok (run_look hok hu hk hz ha hb h)
      · cases hc
    · cases hc
  · -- mapUpdate
    rename_i t m i v
    split at hc
    · rename_i kt et hu
      split at hc
      · rename_i ag ks hk
        simp at hc; obtain ⟨rfl, rfl⟩ := hc
        obtain ⟨a, b, c, rfl, ha, hb, hv⟩ := repL3 hr
        obtain ⟨C', r1, r2, r3, r4⟩ := run_mset hok hu hk ha hb hv h
        exact Runs.unit r2 r3 r1 r4
      · cases hc
    · cases hc
  · -- mapEntry
    rename_i t m i
    split at hc
    · rename_i kt et hu
      split at hc
      · rename_i ag ks z hk hz
        simp at hc; obtain ⟨rfl, rfl⟩ := hc
        obtain ⟨a, b, rfl, ha, hb⟩ := repL2 hr
        exact Runs.val' (run_ment hok hu hk hz ha hb h)
      · cases hc
    · cases hc
  · -- entryStore
    simp at hc; obtain ⟨rfl, rfl⟩ := hc
    obtain ⟨a, b, c, rfl, ha, hb, hv⟩ := repL3 hr
    obtain ⟨C', r1, r2, r3, r4⟩ := run_estore hok ha hb hv h
    exact Runs.unit r2 r3 r1 r4
  · -- range
    rename_i t x
    split at hc
    · rename_i kt et hu
      simp at hc; obtain ⟨rfl, rfl⟩ := hc
      obtain ⟨a, rfl, ha⟩ := repL1 hr
      exact Runs.val' (run_iter hok hu ha h)
    · cases hc
  · -- next
    simp at hc; obtain ⟨rfl, rfl⟩ := hc
    simp [ev] at h
  · -- entry
    simp at hc; obtain ⟨rfl, rfl⟩ := hc
    obtain ⟨a, rfl, ha⟩ := repL1 hr
    exact Runs.val hok (run_entry' hok ha h)
  · -- cap
    rename_i x t
    split at hc
    · rename_i e hu
      simp at hc; obtain ⟨rfl, rfl⟩ := hc
      obtain ⟨a, rfl, ha⟩ := repL1 hr
      cases a <;> simp only [ev] at h
      rw [Rep] at ha
      obtain ⟨ao, ha⟩ := ha
      refine ⟨.value (goInt 0), goInt 0, _, C, ?_, .inl rfl, ?_, hok, Later.refl C, h⟩
      · simp [execOp, resolve, invoke, builtin, Builtin.cap_, run_underlying hu, ha]
      · rw [Rep]; rfl
    · cases hc
  · -- clear
    rename_i x t
    split at hc
    · rename_i e hu
      split at hc
      · rename_i z hz
        simp at hc; obtain ⟨rfl, rfl⟩ := hc
        obtain ⟨a, rfl, ha⟩ := repL1 hr
        simp only [ev] at h
        obtain ⟨cv, v, C', r1, r2, r3, r4, r5⟩ := run_clear (ty := type) hok hu hz ha h
        refine ⟨.value cv, cv, v, C', ?_, .inl rfl, r2, r3, r4, r5⟩
        simp [execOp, resolve, invoke, builtin, r1]
      · cases hc
    · cases hc
  · -- a call of a value
    simp at hc; obtain ⟨rfl, rfl⟩ := hc
    simp [ev] at h
  · cases hc

theorem next_sound {o : Oper} {xs : List Operand} (hc : compileOp P o = some (.next, xs)) (hok : Ok C) (ρ : Operand → Value) {x : AVal}
    (hr : RepL C [x] (xs.map ρ)) (h : evNext C.rows x K) : Runs P C (execOp ρ o) K := by
  obtain ⟨dst, op, type, pos, after, guard⟩ := o
  have key : ∃ y, op = .next y false ∧ xs = [y] := by
    unfold compileOp at hc
    simp only at hc
    split at hc <;> (repeat' (split at hc)) <;> simp at hc
    exact ⟨_, rfl, hc.symm⟩
  obtain ⟨y, rfl, rfl⟩ := key
  rw [List.map_cons, List.map_nil, RepL] at hr
  obtain ⟨v, rest, he, h1, _⟩ := hr
  simp at he
  obtain ⟨rfl, _⟩ := he
  exact Runs.val' (run_next (ty := type) hok h1 h)

end
end Go.Abs
end

section
/- Names of rows: values seen by a caller and by a callee. -/
namespace Go.Abs

mutual
/-- no reference to memory that never changes -/
def flat : AVal → Bool
  | .pure _ vals => vals.isEmpty
  | .pref .. => false
  | .agg cs => flatL cs
  | .tup cs => flatL cs
  | .fn _ cs => flatL cs
  | _ => true
def flatL : List AVal → Bool
  | [] => true
  | c :: cs => flat c && flatL cs
end

def flatE : List (List AVal) → Bool
  | [] => true
  | e :: es => flatL e && flatE es

def flatRow : Row → Bool
  | .dead => true
  | .live _ _ vals => flatE vals
  | .obj (.map _ _ ents) => flatL (ents.map (·.1)) && flatL (ents.map (·.2))
  | .obj (.iter _ _) => true

mutual
def renV (f : Nat → Nat) : AVal → AVal
  | .own r n off len => .own (f r) n off len
  | .ref r n i off => .ref (f r) n i off
  | .agg cs => .agg (renL f cs)
  | .tup cs => .tup (renL f cs)
  | .fn g cs => .fn g (renL f cs)
  | .mref r => .mref (f r)
  | .itref r m => .itref (f r) (f m)
  | v => v
def renL (f : Nat → Nat) : List AVal → List AVal
  | [] => []
  | c :: cs => renV f c :: renL f cs
end

def renE (f : Nat → Nat) (es : List (List AVal)) : List (List AVal) := if cleanE es then es else es.map (renL f)

def renRow (f : Nat → Nat) : Row → Row
  | .dead => .dead
  | .live e sz vals => .live e sz (renE f vals)
  | .obj (.map ag ks ents) => .obj (.map ag ks (ents.map fun p => (renV f p.1, renV f p.2)))
  | .obj (.iter n seen) => .obj (.iter n seen)

mutual
theorem renV_clean (f : Nat → Nat) : ∀ (a : AVal), clean a = true → renV f a = a
  | .own .., h => by simp [clean] at h
  | .ref .., h => by simp [clean] at h
  | .agg cs, h => by rw [clean] at h; rw [renV, renL_clean f cs h]
  | .tup cs, h => by rw [clean] at h; rw [renV, renL_clean f cs h]
  | .int .., _ => rfl
  | .bool .., _ => rfl
  | .str .., _ => rfl
  | .nils, _ => rfl
  | .nilp, _ => rfl
  | .junk, _ => rfl
  | .pure .., _ => rfl
  | .pref .., _ => rfl
  | .fn g cs, h => by rw [clean] at h; rw [renV, renL_clean f cs h]
  | .nilm, _ => rfl
  | .mref _, h => by simp [clean] at h
  | .itref .., h => by simp [clean] at h
theorem renL_clean (f : Nat → Nat) : ∀ (as : List AVal), cleanL as = true → renL f as = as
  | [], _ => rfl
  | a :: as, h => by
    simp only [cleanL, Bool.and_eq_true] at h
    rw [renL, renV_clean f a h.1, renL_clean f as h.2]
end

theorem renE_eq (f : Nat → Nat) (es : List (List AVal)) : renE f es = es.map (renL f) := by
  unfold renE
  split
  · rename_i h
    induction es with
    | nil => rfl
    | cons e es ih =>
      simp only [cleanE, Bool.and_eq_true] at h
      rw [List.map_cons, renL_clean f e h.1, ← ih h.2]
  · rfl

theorem renL_length (f : Nat → Nat) : ∀ (as : List AVal), (renL f as).length = as.length
  | [] => rfl
  | a :: as => by simp [renL, renL_length f as]

/-- C' sees what C sees, under other names -/
structure ExtF (f : Nat → Nat) (C C' : Ctx) : Prop where
  pm : C'.pm = C.pm
  keep : ∀ b, C.pureBlk b → C'.w.heap[b]? = C.w.heap[b]? ∧ C'.pureBlk b
  rows : ∀ r, r < C.rows.length → f r < C'.rows.length ∧ ∀ e sz vals', C'.rows[f r]? = some (.live e sz vals') →
    ∃ vals, C.rows[r]? = some (.live e sz vals) ∧ vals.length ≤ vals'.length ∧ (vals.length = vals'.length → C'.phi[f r]? = C.phi[r]?)
  objs : ∀ r, r < C.rows.length → ∀ o', C'.rows[f r]? = some (.obj o') → ∃ o, C.rows[r]? = some (.obj o) ∧ C'.phi[f r]? = C.phi[r]?

/-- of values that never change the names do not matter -/
theorem ExtF.p {f : Nat → Nat} {C C' : Ctx} (h : ExtF f C C') : ExtF f C.p C'.p := ⟨rfl, h.keep, h.rows, h.objs⟩

mutual
theorem Rep.keepP {C C' : Ctx} (hk : ∀ b, C.pureBlk b → C'.w.heap[b]? = C.w.heap[b]? ∧ C'.pureBlk b) (hC : C.pm = true) (hC' : C'.pm = true) : ∀ (a : AVal) (v : Value), Rep C a v → Rep C' a v
  | .int .., _, r => by simpa [Rep] using r
  | .bool .., _, r => by simpa [Rep] using r
  | .str .., _, r => by simpa [Rep] using r
  | .nils, _, r => by simpa [Rep] using r
  | .nilp, _, r => by simpa [Rep] using r
  | .junk, _, _ => by simp [Rep]
  | .agg cs, v, r => by
    rw [Rep] at r ⊢
    obtain ⟨vs, rfl, hr⟩ := r
    exact ⟨vs, rfl, RepL.keepP hk hC hC' cs _ hr⟩
  | .tup cs, v, r => by
    rw [Rep] at r ⊢
    obtain ⟨vs, rfl, hr⟩ := r
    exact ⟨vs, rfl, RepL.keepP hk hC hC' cs _ hr⟩
  | .pure sz vals, v, r => by
    rw [Rep] at r ⊢
    obtain ⟨ao, cap, rfl, hle, hr⟩ := r
    refine ⟨ao, cap, rfl, hle, ?_⟩
    rcases hr with hr | ⟨b, o, rfl, hb, he⟩
    · exact .inl hr
    · exact .inr ⟨b, o, rfl, (hk b hb).2, RepE.keepP (C := C.p) (C' := C'.p) hk rfl rfl b o sz hb vals he⟩
  | .own .., v, hr => by rw [Rep, hC] at hr; cases hr.1
  | .ref .., v, hr => by rw [Rep, hC] at hr; cases hr.1
  | .pref cells off, v, hr => by
    rw [Rep] at hr ⊢
    obtain ⟨b, o, rfl, hb, hc⟩ := hr
    exact ⟨b, o, rfl, (hk b hb).2, RepC.keepP (C := C.p) (C' := C'.p) hk rfl rfl b o hb cells hc⟩
  | .fn f cs, v, r => by
    rw [Rep] at r ⊢
    obtain ⟨vs, rfl, hr⟩ := r
    exact ⟨vs, rfl, RepL.keepP hk hC hC' cs _ hr⟩
  | .nilm, _, r => by simpa [Rep] using r
  | .mref _, v, hr => by rw [Rep, hC] at hr; cases hr.1
  | .itref .., v, hr => by rw [Rep, hC] at hr; cases hr.1
theorem RepL.keepP {C C' : Ctx} (hk : ∀ b, C.pureBlk b → C'.w.heap[b]? = C.w.heap[b]? ∧ C'.pureBlk b) (hC : C.pm = true) (hC' : C'.pm = true) : ∀ (as : List AVal) (vs : List Value), RepL C as vs → RepL C' as vs
  | [], vs, r => by simpa [RepL] using r
  | a :: as, vs, r => by
    rw [RepL] at r ⊢
    obtain ⟨v, rest, rfl, h1, h2⟩ := r
    exact ⟨v, rest, rfl, Rep.keepP hk hC hC' a v h1, RepL.keepP hk hC hC' as rest h2⟩
theorem RepC.keepP {C C' : Ctx} (hk : ∀ b, C.pureBlk b → C'.w.heap[b]? = C.w.heap[b]? ∧ C'.pureBlk b) (hC : C.pm = true) (hC' : C'.pm = true) (b o : Nat) (hb : C.pureBlk b) : ∀ (as : List AVal), RepC C b o as → RepC C' b o as
  | [], _ => by simp [RepC]
  | a :: as, r => by
    rw [RepC] at r ⊢
    obtain ⟨⟨v, h1, h2, h3⟩, h4⟩ := r
    exact ⟨⟨v, by rw [World.cell?_of_block (w := C.w) (hk b hb).1]; exact h1, h2, Rep.keepP hk hC hC' a v h3⟩, RepC.keepP hk hC hC' b (o + 1) hb as h4⟩
theorem RepE.keepP {C C' : Ctx} (hk : ∀ b, C.pureBlk b → C'.w.heap[b]? = C.w.heap[b]? ∧ C'.pureBlk b) (hC : C.pm = true) (hC' : C'.pm = true) (b o sz : Nat) (hb : C.pureBlk b) : ∀ (es : List (List AVal)), RepE C b o sz es → RepE C' b o sz es
  | [], _ => by simp [RepE]
  | e :: es, r => by
    rw [RepE] at r ⊢
    exact ⟨r.1, RepC.keepP hk hC hC' b o hb e r.2.1, RepE.keepP hk hC hC' b (o + sz) sz hb es r.2.2⟩
end

mutual
theorem Rep.ren {f : Nat → Nat} {C C' : Ctx} (h : ExtF f C C') : ∀ (a : AVal) (v : Value), Rep C a v → Rep C' (renV f a) v
  | .int .., _, r => by simpa [renV, Rep] using r
  | .bool .., _, r => by simpa [renV, Rep] using r
  | .str .., _, r => by simpa [renV, Rep] using r
  | .nils, _, r => by simpa [renV, Rep] using r
  | .nilp, _, r => by simpa [renV, Rep] using r
  | .junk, _, _ => by simp [renV, Rep]
  | .agg cs, v, r => by
    rw [Rep] at r; rw [renV, Rep]
    obtain ⟨vs, rfl, hr⟩ := r
    exact ⟨vs, rfl, RepL.ren h cs _ hr⟩
  | .tup cs, v, r => by
    rw [Rep] at r; rw [renV, Rep]
    obtain ⟨vs, rfl, hr⟩ := r
    exact ⟨vs, rfl, RepL.ren h cs _ hr⟩
  | .pure sz vals, v, r => by
    have e : renV f (.pure sz vals) = .pure sz vals := by simp [renV]
    rw [Rep] at r; rw [e, Rep]
    obtain ⟨ao, cap, rfl, hle, hr⟩ := r
    refine ⟨ao, cap, rfl, hle, ?_⟩
    rcases hr with hr | ⟨b, o, rfl, hb, he⟩
    · exact .inl hr
    · exact .inr ⟨b, o, rfl, (h.keep b hb).2, RepE.keepP (C := C.p) (C' := C'.p) h.keep rfl rfl b o sz hb vals he⟩
  | .own r n off len, v, hr => by
    rw [Rep] at hr; rw [renV, Rep]
    obtain ⟨hm, h0, h1, h2⟩ := hr
    refine ⟨h.pm.trans hm, h0, (h.rows r h1).1, fun e sz vals' hv => ?_⟩
    obtain ⟨vals, a1, a2, a3⟩ := (h.rows r h1).2 e sz vals' hv
    obtain ⟨b1, b2⟩ := h2 e sz vals a1
    refine ⟨by omega, fun hn => ?_⟩
    obtain ⟨c1, p, c2, c3⟩ := b2 (by omega)
    exact ⟨c1, p, by rw [a3 (by omega)]; exact c2, c3⟩
  | .ref r n i off, v, hr => by
    rw [Rep] at hr; rw [renV, Rep]
    obtain ⟨hm, h0, h1, h2⟩ := hr
    refine ⟨h.pm.trans hm, h0, (h.rows r h1).1, fun e sz vals' hv => ?_⟩
    obtain ⟨vals, a1, a2, a3⟩ := (h.rows r h1).2 e sz vals' hv
    obtain ⟨b1, b2⟩ := h2 e sz vals a1
    refine ⟨by omega, fun hn => ?_⟩
    obtain ⟨c1, b, c, c2, c3⟩ := b2 (by omega)
    exact ⟨c1, b, c, by rw [a3 (by omega)]; exact c2, c3⟩
  | .pref cells off, v, hr => by
    have e : renV f (.pref cells off) = .pref cells off := by simp [renV]
    rw [Rep] at hr; rw [e, Rep]
    obtain ⟨b, o, rfl, hb, hc⟩ := hr
    exact ⟨b, o, rfl, (h.keep b hb).2, RepC.keepP (C := C.p) (C' := C'.p) h.keep rfl rfl b o hb cells hc⟩
  | .fn g cs, v, r => by
    rw [Rep] at r; rw [renV, Rep]
    obtain ⟨vs, rfl, hr⟩ := r
    exact ⟨vs, rfl, RepL.ren h cs _ hr⟩
  | .nilm, _, r => by simpa [renV, Rep] using r
  | .mref r, v, hr => by
    rw [Rep] at hr; rw [renV, Rep]
    obtain ⟨hm, h0, h1, h2⟩ := hr
    refine ⟨h.pm.trans hm, h0, (h.rows r h1).1, fun o' ho => ?_⟩
    obtain ⟨o, a1, a2⟩ := h.objs r h1 o' ho
    rw [a2]
    exact h2 o a1
  | .itref r m, v, hr => by
    rw [Rep] at hr; rw [renV, Rep]
    obtain ⟨hm, h0, h1, h2, h3⟩ := hr
    refine ⟨h.pm.trans hm, h0, (h.rows r h1).1, (h.rows m h2).1, fun o1 o2 ho1 ho2 => ?_⟩
    obtain ⟨p1, a1, a2⟩ := h.objs r h1 o1 ho1
    obtain ⟨p2, b1, b2⟩ := h.objs m h2 o2 ho2
    rw [a2, b2]
    exact h3 p1 p2 a1 b1
theorem RepL.ren {f : Nat → Nat} {C C' : Ctx} (h : ExtF f C C') : ∀ (as : List AVal) (vs : List Value), RepL C as vs → RepL C' (renL f as) vs
  | [], vs, r => by simpa [renL, RepL] using r
  | a :: as, vs, r => by
    rw [RepL] at r; rw [renL, RepL]
    obtain ⟨v, rest, rfl, h1, h2⟩ := r
    exact ⟨v, rest, rfl, Rep.ren h a v h1, RepL.ren h as rest h2⟩
end

theorem renE_flatten (f : Nat → Nat) (es : List (List AVal)) : (renE f es).flatten = renL f es.flatten := by
  have app : ∀ xs ys : List AVal, renL f (xs ++ ys) = renL f xs ++ renL f ys := by
    intro xs ys
    induction xs with
    | nil => rfl
    | cons x xs ih => simp [renL, ih]
  rw [renE_eq]
  induction es with
  | nil => rfl
  | cons e es ih => simp [app, ih]

theorem Elems.ren {f : Nat → Nat} {C C' : Ctx} {sz : Nat} {vals : List (List AVal)} {vs : List Value} (h : ExtF f C C') (k : Elems C sz vals vs) : Elems C' sz (renE f vals) vs := by
  refine ⟨fun e he => ?_, ?_, k.one⟩
  · rw [renE_eq] at he
    obtain ⟨x, hx, rfl⟩ := List.mem_map.1 he
    rw [renL_length]
    exact k.szs x hx
  · rw [renE_flatten]
    exact RepL.ren h _ _ k.rep

theorem fits_clean : ∀ {ks : List CK} {cs : List AVal}, fits ks cs → cleanL cs = true
  | [], [], _ => rfl
  | [], c :: cs, h => by simp [fits] at h
  | k :: ks, [], h => by cases k <;> simp [fits] at h
  | k :: ks, c :: cs, h => by
    cases k <;> cases c <;> simp only [fits] at h <;> simp only [cleanL, clean, Bool.true_and]
    · exact fits_clean h.2
    · exact fits_clean h
    · exact fits_clean h

theorem keyFits_clean {ag : Bool} {ks : List CK} {k : AVal} (h : keyFits ag ks k) : clean k = true := by
  have := fits_clean h.2
  cases k <;> simp only [acells, cleanL, clean, Bool.and_true] at this ⊢ <;> first | exact this | simpa using this

theorem renL_map (f : Nat → Nat) : ∀ (as : List AVal), renL f as = as.map (renV f)
  | [] => rfl
  | a :: as => by simp [renL, renL_map f as]

theorem renE_length (f : Nat → Nat) (es : List (List AVal)) : (renE f es).length = es.length := by rw [renE_eq]; simp

end Go.Abs
end

section
/- Contracts, and calls under contracts. -/
namespace Go.Abs

mutual
theorem Rep.renF {f : Nat → Nat} {C C' : Ctx} (hp : C'.pm = C.pm) (h : ∀ r, r < C.rows.length → f r < C'.rows.length ∧ ∀ e sz vals', C'.rows[f r]? = some (.live e sz vals') →
    ∃ vals, C.rows[r]? = some (.live e sz vals) ∧ vals.length ≤ vals'.length ∧ (vals.length = vals'.length → C'.phi[f r]? = C.phi[r]?))
    (hO : ∀ r, r < C.rows.length → ∀ o', C'.rows[f r]? = some (.obj o') → ∃ o, C.rows[r]? = some (.obj o) ∧ C'.phi[f r]? = C.phi[r]?) : ∀ (a : AVal) (v : Value), flat a = true → Rep C a v → Rep C' (renV f a) v
  | .int .., _, _, r => by simpa [renV, Rep] using r
  | .bool .., _, _, r => by simpa [renV, Rep] using r
  | .str .., _, _, r => by simpa [renV, Rep] using r
  | .nils, _, _, r => by simpa [renV, Rep] using r
  | .nilp, _, _, r => by simpa [renV, Rep] using r
  | .junk, _, _, _ => by simp [renV, Rep]
  | .agg cs, v, hf, r => by
    rw [flat] at hf
    rw [Rep] at r; rw [renV, Rep]
    obtain ⟨vs, rfl, hr⟩ := r
    exact ⟨vs, rfl, RepL.renF hp h hO cs _ hf hr⟩
  | .tup cs, v, hf, r => by
    rw [flat] at hf
    rw [Rep] at r; rw [renV, Rep]
    obtain ⟨vs, rfl, hr⟩ := r
    exact ⟨vs, rfl, RepL.renF hp h hO cs _ hf hr⟩
  | .pure sz vals, v, hf, r => by
    have e : renV f (.pure sz vals) = .pure sz vals := by simp [renV]
    rw [flat] at hf
    rw [Rep] at r; rw [e, Rep]
    obtain ⟨ao, cap, rfl, hle, hr⟩ := r
    refine ⟨ao, cap, rfl, hle, .inl ?_⟩
    simpa using hf
  | .own r n off len, v, _, hr => by
    rw [Rep] at hr; rw [renV, Rep]
    obtain ⟨hm, h0, h1, h2⟩ := hr
    refine ⟨hp.trans hm, h0, (h r h1).1, fun e sz vals' hv => ?_⟩
    obtain ⟨vals, a1, a2, a3⟩ := (h r h1).2 e sz vals' hv
    obtain ⟨b1, b2⟩ := h2 e sz vals a1
    refine ⟨by omega, fun hn => ?_⟩
    obtain ⟨c1, p, c2, c3⟩ := b2 (by omega)
    exact ⟨c1, p, by rw [a3 (by omega)]; exact c2, c3⟩
  | .ref r n i off, v, _, hr => by
    rw [Rep] at hr; rw [renV, Rep]
    obtain ⟨hm, h0, h1, h2⟩ := hr
    refine ⟨hp.trans hm, h0, (h r h1).1, fun e sz vals' hv => ?_⟩
    obtain ⟨vals, a1, a2, a3⟩ := (h r h1).2 e sz vals' hv
    obtain ⟨b1, b2⟩ := h2 e sz vals a1
    refine ⟨by omega, fun hn => ?_⟩
    obtain ⟨c1, b, c, c2, c3⟩ := b2 (by omega)
    exact ⟨c1, b, c, by rw [a3 (by omega)]; exact c2, c3⟩
  | .pref cells off, v, hf, hr => by simp [flat] at hf
  | .fn g cs, v, hf, r => by
    rw [flat] at hf
    rw [Rep] at r; rw [renV, Rep]
    obtain ⟨vs, rfl, hr⟩ := r
    exact ⟨vs, rfl, RepL.renF hp h hO cs _ hf hr⟩
  | .nilm, _, _, r => by simpa [renV, Rep] using r
  | .mref r, v, _, hr => by
    rw [Rep] at hr; rw [renV, Rep]
    obtain ⟨hm, h0, h1, h2⟩ := hr
    refine ⟨hp.trans hm, h0, (h r h1).1, fun o' ho => ?_⟩
    obtain ⟨o, a1, a2⟩ := hO r h1 o' ho
    rw [a2]
    exact h2 o a1
  | .itref r m, v, _, hr => by
    rw [Rep] at hr; rw [renV, Rep]
    obtain ⟨hm, h0, h1, h2, h3⟩ := hr
    refine ⟨hp.trans hm, h0, (h r h1).1, (h m h2).1, fun o1 o2 ho1 ho2 => ?_⟩
    obtain ⟨p1, a1, a2⟩ := hO r h1 o1 ho1
    obtain ⟨p2, b1, b2⟩ := hO m h2 o2 ho2
    rw [a2, b2]
    exact h3 p1 p2 a1 b1
theorem RepL.renF {f : Nat → Nat} {C C' : Ctx} (hp : C'.pm = C.pm) (h : ∀ r, r < C.rows.length → f r < C'.rows.length ∧ ∀ e sz vals', C'.rows[f r]? = some (.live e sz vals') →
    ∃ vals, C.rows[r]? = some (.live e sz vals) ∧ vals.length ≤ vals'.length ∧ (vals.length = vals'.length → C'.phi[f r]? = C.phi[r]?))
    (hO : ∀ r, r < C.rows.length → ∀ o', C'.rows[f r]? = some (.obj o') → ∃ o, C.rows[r]? = some (.obj o) ∧ C'.phi[f r]? = C.phi[r]?) : ∀ (as : List AVal) (vs : List Value), flatL as = true → RepL C as vs → RepL C' (renL f as) vs
  | [], vs, _, r => by simpa [renL, RepL] using r
  | a :: as, vs, hf, r => by
    simp only [flatL, Bool.and_eq_true] at hf
    rw [RepL] at r; rw [renL, RepL]
    obtain ⟨v, rest, rfl, h1, h2⟩ := r
    exact ⟨v, rest, rfl, Rep.renF hp h hO a v hf.1 h1, RepL.renF hp h hO as rest hf.2 h2⟩
end

theorem flatE_flatten : ∀ {es : List (List AVal)}, flatE es = true → flatL es.flatten = true
  | [], _ => rfl
  | e :: es, h => by
    simp only [flatE, Bool.and_eq_true] at h
    have app : ∀ xs ys : List AVal, flatL xs = true → flatL ys = true → flatL (xs ++ ys) = true := by
      intro xs ys hx hy
      induction xs with
      | nil => exact hy
      | cons x xs ih =>
        simp only [flatL, Bool.and_eq_true] at hx
        simp only [List.cons_append, flatL, Bool.and_eq_true]
        exact ⟨hx.1, ih hx.2⟩
    rw [List.flatten_cons]
    exact app _ _ h.1 (flatE_flatten h.2)

/-- where a row is found under new names: a list of old rows ('none': a row that is gone) -/
def pos? : List (Option Nat) → Nat → Option Nat
  | [], _ => none
  | none :: ss, r => (pos? ss r).map (· + 1)
  | some s :: ss, r => if s = r then some 0 else (pos? ss r).map (· + 1)

theorem pos?_some : ∀ {sel : List (Option Nat)} {r i : Nat}, pos? sel r = some i → sel[i]? = some (some r)
  | [], r, i, h => by simp [pos?] at h
  | none :: ss, r, i, h => by
    simp only [pos?] at h
    cases hp : pos? ss r with
    | none => rw [hp] at h; simp at h
    | some j => rw [hp] at h; simp at h; subst h; simpa using pos?_some hp
  | some s :: ss, r, i, h => by
    simp only [pos?] at h
    split at h
    · rename_i he; simp at h; subst h; simp [he]
    · cases hp : pos? ss r with
      | none => rw [hp] at h; simp at h
      | some j => rw [hp] at h; simp at h; subst h; simpa using pos?_some hp

theorem pos?_none : ∀ {sel : List (Option Nat)} {r : Nat}, pos? sel r = none → some r ∉ sel
  | [], r, _ => by simp
  | none :: ss, r, h => by
    simp only [pos?] at h
    cases hp : pos? ss r with
    | none => have := pos?_none hp; simp [this]
    | some j => rw [hp] at h; simp at h
  | some s :: ss, r, h => by
    simp only [pos?] at h
    split at h
    · cases h
    · rename_i hne
      cases hp : pos? ss r with
      | none => have := pos?_none hp; simp [this, Ne.symm hne]
      | some j => rw [hp] at h; simp at h

mutual
/-- a value under new names: rows 'vw' are lent (or become unchangeable), other rows are gone -/
def bindV (rows : List Row) (sel : List (Option Nat)) (vw : List Nat) : AVal → AVal
  | .own r n off len =>
    match pos? sel r with
    | some i => .own i n off len
    | none =>
      if vw.contains r then
        match rows[r]? with
        | some (.live _ sz vals) => if n = vals.length ∧ off + len ≤ n ∧ cleanE vals = true then .pure sz ((vals.drop off).take len) else .junk
        | _ => .junk
      else .junk
  | .ref r n i off =>
    match pos? sel r with
    | some j => .ref j n i off
    | none =>
      if vw.contains r then
        match rows[r]? with
        | some (.live _ _ vals) => if n = vals.length ∧ cleanE vals = true then .pref (vals.getD i []) off else .junk
        | _ => .junk
      else .junk
  | .agg cs => .agg (bindL rows sel vw cs)
  | .tup cs => .tup (bindL rows sel vw cs)
  | .fn f cs => .fn f (bindL rows sel vw cs)
  | .mref r =>
    match pos? sel r with
    | some i => .mref i
    | none => .junk
  | .itref r m =>
    match pos? sel r, pos? sel m with
    | some i, some j => .itref i j
    | _, _ => .junk
  | v => v
def bindL (rows : List Row) (sel : List (Option Nat)) (vw : List Nat) : List AVal → List AVal
  | [] => []
  | c :: cs => bindV rows sel vw c :: bindL rows sel vw cs
end

def bindE (rows : List Row) (sel : List (Option Nat)) (vw : List Nat) (es : List (List AVal)) : List (List AVal) := if cleanE es then es else es.map (bindL rows sel vw)

def bindRow (rows : List Row) (sel : List (Option Nat)) (vw : List Nat) : Row → Row
  | .dead => .dead
  | .live e sz vals => .live e sz (bindE rows sel vw vals)
  | .obj (.map ag ks ents) => .obj (.map ag ks (ents.map fun p => (bindV rows sel vw p.1, bindV rows sel vw p.2)))
  | .obj (.iter n seen) => .obj (.iter n seen)

def getRows (rows : List Row) (vw : List Nat) (all : List (Option Nat)) : List (Option Nat) → Option (List Row)
  | [] => some []
  | none :: rs =>
    match getRows rows vw all rs with
    | some ys => some (.dead :: ys)
    | none => none
  | some r :: rs =>
    match rows[r]?, getRows rows vw all rs with
    | some x, some ys => some (bindRow rows all vw x :: ys)
    | _, _ => none

/-- what is known of the first blocks of memory (package-level variables), which nobody changes -/
class Glb extends Dr where
  n : Nat
  H : World → Prop
  keep : ∀ w w' : World, (∀ b, b < n → w'.heap[b]? = w.heap[b]?) → H w → H w'
def GOk [Glb] (C : Ctx) : Prop := Glb.n ≤ C.w.heap.size ∧ (∀ b, b < Glb.n → ∀ r c : Nat, C.phi[r]? ≠ some (some (b, c))) ∧ Glb.H C.w
theorem GOk.later [Glb] {n : Nat} {C C' : Ctx} (h : GOk C) (hl : Later n C C') : GOk C' := by
  obtain ⟨h1, h2, h3⟩ := h
  refine ⟨Nat.le_trans h1 hl.size, fun b hb r c hc => ?_, Glb.keep _ _ (fun b hb => hl.block b (Nat.lt_of_lt_of_le hb h1) (h2 b hb)) h3⟩
  rcases hl.fresh r b c hc with ⟨r', c', h'⟩ | h'
  · exact h2 b hb r' c' h'
  · omega
class GO [Glb] (C : Ctx) : Prop where
  ok : GOk C
variable [Glb]

/-- what a function does: whatever memory fits -/
def AFn (P : Program) (f : FuncId) (args : List AVal) (rows : List Row) (Q : AVal → List Row → Prop) : Prop :=
  ∀ (C : Ctx) (cargs : List Value), C.rows = rows → Ok C → GOk C → RepL C args cargs →
    Calls P f cargs.toArray C.w fun e w' => ∃ cv v C', e = .returned cv ∧ C'.w = w' ∧ Rep C' v cv ∧ Ok C' ∧ Later rows.length C C' ∧ Q v C'.rows

theorem AFn.mono {P : Program} {f : FuncId} {args : List AVal} {rows : List Row} {Q Q' : AVal → List Row → Prop} (h : AFn P f args rows Q) (hq : ∀ v rs, Q v rs → Q' v rs) : AFn P f args rows Q' :=
  fun C cargs h1 h2 hG h3 => (h C cargs h1 h2 hG h3).mono fun _ _ ⟨cv, v, C', a, b, c, d, e, q⟩ => ⟨cv, v, C', a, b, c, d, e, hq _ _ q⟩

/-- the caller's name of a callee's row -/
def back (n : Nat) : List Nat → Nat → Nat
  | [], i => n + i
  | s :: _, 0 => s
  | _ :: ss, i + 1 => back n ss i

def mergeR {α : Type} : List α → List Nat → List α → List α
  | xs, [], ys => xs ++ ys
  | xs, r :: sel, y :: ys => mergeR (xs.set r y) sel ys
  | xs, _ :: _, [] => xs

theorem mergeR_length {α : Type} : ∀ (sel : List Nat) (xs ys : List α), sel.length ≤ ys.length → (mergeR xs sel ys).length = xs.length + (ys.length - sel.length)
  | [], xs, ys, _ => by simp [mergeR]
  | r :: sel, xs, [], h => by simp at h
  | r :: sel, xs, y :: ys, h => by
    rw [mergeR, mergeR_length sel _ ys (by simpa using h)]
    simp

theorem mergeR_other {α : Type} : ∀ (sel : List Nat) (xs ys : List α) (r : Nat), r < xs.length → r ∉ sel → (mergeR xs sel ys)[r]? = xs[r]?
  | [], xs, ys, r, h, _ => by rw [mergeR, List.getElem?_append, if_pos h]
  | s :: sel, xs, [], r, h, hn => by rw [mergeR]
  | s :: sel, xs, y :: ys, r, h, hn => by
    simp at hn
    rw [mergeR, mergeR_other sel _ ys r (by simpa using h) hn.2, List.getElem?_set, if_neg (fun e => hn.1 e.symm)]

theorem mergeR_back {α : Type} : ∀ (sel : List Nat) (xs ys : List α) (i : Nat), sel.Nodup → (∀ r ∈ sel, r < xs.length) → i < ys.length → sel.length ≤ ys.length → (mergeR xs sel ys)[back xs.length sel i]? = ys[i]?
  | [], xs, ys, i, _, _, hi, _ => by rw [mergeR, back, List.getElem?_append, if_neg (by omega)]; congr 1; omega
  | r :: sel, xs, [], i, _, _, hi, _ => by simp at hi
  | r :: sel, xs, y :: ys, 0, hn, hl, hi, _ => by
    simp at hn
    rw [mergeR, back, mergeR_other sel _ ys r (by simpa using hl r (by simp)) hn.1, List.getElem?_set, if_pos rfl, if_pos (hl r (by simp))]
    rfl
  | r :: sel, xs, y :: ys, i + 1, hn, hl, hi, hle => by
    simp at hn
    have := mergeR_back sel (xs.set r y) ys i hn.2 (fun s hs => by simpa using hl s (by simp [hs])) (by simpa using hi) (by simpa using hle)
    rw [List.length_set] at this
    rw [mergeR, back, this]
    simp

theorem back_sel : ∀ (sel : List Nat) (n i : Nat), (hi : i < sel.length) → back n sel i = sel[i]
  | s :: ss, n, 0, _ => rfl
  | s :: ss, n, i + 1, h => by rw [back, back_sel ss n i (by simpa using h)]; simp

theorem back_new : ∀ (sel : List Nat) (n i : Nat), sel.length ≤ i → back n sel i = n + (i - sel.length)
  | [], n, i, _ => by simp [back]
  | s :: ss, n, 0, h => by simp at h
  | s :: ss, n, i + 1, h => by rw [back, back_new ss n i (by simpa using h)]; simp

/-- every row is an old one that was not handed over, or one that came back -/
theorem back_cases (sel : List Nat) (n m k : Nat) (hsel : ∀ r ∈ sel, r < n) (hle : sel.length ≤ m) (hk : k < n + (m - sel.length)) : (k < n ∧ k ∉ sel) ∨ ∃ i, i < m ∧ k = back n sel i := by
  by_cases h : k < n
  · by_cases hs : k ∈ sel
    · obtain ⟨i, hi, rfl⟩ := List.getElem_of_mem hs
      exact .inr ⟨i, by omega, (back_sel sel n i hi).symm⟩
    · exact .inl ⟨h, hs⟩
  · refine .inr ⟨sel.length + (k - n), by omega, ?_⟩
    rw [back_new sel n _ (by omega)]; omega

end Go.Abs
end

section
/- A call under a contract. -/
namespace Go.Abs
variable [Glb]

theorem getRows_spec {rows : List Row} {vw : List Nat} {all : List (Option Nat)} : ∀ {sel : List (Option Nat)} {ys : List Row}, getRows rows vw all sel = some ys →
    ys.length = sel.length ∧ (∀ (i r : Nat), sel[i]? = some (some r) → ∃ x, rows[r]? = some x ∧ ys[i]? = some (bindRow rows all vw x)) ∧ (∀ (i : Nat), sel[i]? = some none → ys[i]? = some .dead)
  | [], ys, h => by simp [getRows] at h; subst h; simp
  | none :: rs, ys, h => by
    simp only [getRows] at h
    split at h
    · rename_i zs hz
      simp at h; subst h
      obtain ⟨h1, h2, h3⟩ := getRows_spec hz
      refine ⟨by simp [h1], fun i s hs => ?_, fun i hs => ?_⟩
      · cases i with
        | zero => simp at hs
        | succ i => simpa using h2 i s (by simpa using hs)
      · cases i with
        | zero => rfl
        | succ i => simpa using h3 i (by simpa using hs)
    · cases h
  | some r :: rs, ys, h => by
    simp only [getRows] at h
    split at h
    · rename_i x zs hx hz
      simp at h; subst h
      obtain ⟨h1, h2, h3⟩ := getRows_spec hz
      refine ⟨by simp [h1], fun i s hs => ?_, fun i hs => ?_⟩
      · cases i with
        | zero => simp at hs; subst hs; exact ⟨x, hx, rfl⟩
        | succ i => simpa using h2 i s (by simpa using hs)
      · cases i with
        | zero => simp at hs
        | succ i => simpa using h3 i (by simpa using hs)
    · cases h

theorem bindL_length {rows : List Row} {sel : List (Option Nat)} {vw : List Nat} : ∀ (es : List AVal), (bindL rows sel vw es).length = es.length
  | [] => rfl
  | e :: es => by simp [bindL, bindL_length es]

theorem bindE_length {rows : List Row} {sel : List (Option Nat)} {vw : List Nat} (es : List (List AVal)) : (bindE rows sel vw es).length = es.length := by
  unfold bindE; split <;> simp

theorem bindRow_live {rows : List Row} {sel : List (Option Nat)} {vw : List Nat} {x : Row} {e : TypeId} {sz : Nat} {vals' : List (List AVal)} (h : bindRow rows sel vw x = .live e sz vals') :
    ∃ vals, x = .live e sz vals ∧ vals' = bindE rows sel vw vals := by
  cases x with
  | dead => simp [bindRow] at h
  | live e' sz' vals => simp [bindRow] at h; obtain ⟨rfl, rfl, rfl⟩ := h; exact ⟨vals, rfl, rfl⟩
  | obj o => cases o <;> simp [bindRow] at h

theorem bindRow_obj {rows : List Row} {sel : List (Option Nat)} {vw : List Nat} {x : Row} {o' : AObj} (h : bindRow rows sel vw x = .obj o') : ∃ o, x = .obj o := by
  cases x with
  | dead => simp [bindRow] at h
  | live e' sz' vals => simp [bindRow] at h
  | obj o => exact ⟨o, rfl⟩

/-- the context of a callee -/
def calleeCtx (C : Ctx) (sel : List (Option Nat)) (vw : List Nat) (srows : List Row) : Ctx :=
  ⟨srows, sel.map (fun o => o.bind fun r => (C.phi[r]?).getD none), fun b => C.om b ∨ ∃ r c : Nat, some r ∉ sel ∧ r ∉ vw ∧ C.phi[r]? = some (some (b, c)), C.w, false⟩

section
variable {C : Ctx} {sel : List (Option Nat)} {vw : List Nat} {srows : List Row}

theorem callee_phi (hok : Ok C) (hg : getRows C.rows vw sel sel = some srows) {i r : Nat} (hi : sel[i]? = some (some r)) : (calleeCtx C sel vw srows).phi[i]? = C.phi[r]? := by
  obtain ⟨x, h1, _⟩ := (getRows_spec hg).2.1 i r hi
  have hr : r < C.phi.length := by rw [hok.plen]; exact (List.getElem?_eq_some_iff.1 h1).1
  simp [calleeCtx, hi, List.getElem?_eq_getElem hr]

theorem callee_phi_inv (hok : Ok C) (hg : getRows C.rows vw sel sel = some srows) {i b c : Nat} (h : (calleeCtx C sel vw srows).phi[i]? = some (some (b, c))) : ∃ r, sel[i]? = some (some r) ∧ C.phi[r]? = some (some (b, c)) := by
  cases hs : sel[i]? with
  | none => simp [calleeCtx, hs] at h
  | some o =>
    cases o with
    | none => simp [calleeCtx, hs] at h
    | some r => exact ⟨r, rfl, by rw [← callee_phi hok hg hs]; exact h⟩

theorem callee_keep (hok : Ok C) (hg : getRows C.rows vw sel sel = some srows) (b : Nat) (hb : C.pureBlk b) : (calleeCtx C sel vw srows).w.heap[b]? = C.w.heap[b]? ∧ (calleeCtx C sel vw srows).pureBlk b := by
  obtain ⟨h1, h2, h3⟩ := hb
  refine ⟨rfl, h1, ?_, fun i c hc => ?_⟩
  · rintro (h | ⟨r, c, _, _, h⟩)
    · exact h2 h
    · exact h3 r c h
  · obtain ⟨r, _, hr⟩ := callee_phi_inv hok hg hc
    exact h3 r c hr

/-- the block of a row that is lent does not change -/
theorem callee_view (hok : Ok C) (hg : getRows C.rows vw sel sel = some srows) {r b c : Nat} (hr : some r ∉ sel) (hv : r ∈ vw) (hp : C.phi[r]? = some (some (b, c))) (ho : ¬ C.om b) : (calleeCtx C sel vw srows).pureBlk b := by
  refine ⟨hok.lt hp, ?_, fun i c' hc => ?_⟩
  · rintro (h | ⟨r', c', h1, h2, h3⟩)
    · exact ho h
    · exact h2 (hok.inj _ _ _ _ _ h3 hp ▸ hv)
  · obtain ⟨r', h1, h2⟩ := callee_phi_inv hok hg hc
    have := hok.inj _ _ _ _ _ h2 hp
    subst this
    exact hr (List.mem_of_getElem? h1)

theorem view_repE (hok : Ok C) (hg : getRows C.rows vw sel sel = some srows) {b o sz : Nat} {vals : List (List AVal)} (hc : cleanE vals = true) (h : RepE C b o sz vals) : RepE (calleeCtx C sel vw srows).p b o sz vals := by
  obtain ⟨vs, h1, h2⟩ := (RepE.toP b sz o vals hc h).elems
  have h3 : Elems (calleeCtx C sel vw srows).p sz vals vs := ⟨h1.szs, RepL.keepP (C := C.p) (C' := (calleeCtx C sel vw srows).p) (fun x hx => callee_keep (C := C) hok hg x hx) rfl rfl _ _ h1.rep, h1.one⟩
  exact h3.repE h2

mutual
theorem Rep.bind (hok : Ok C) (hg : getRows C.rows vw sel sel = some srows) : ∀ (a : AVal) (v : Value), Rep C a v → Rep (calleeCtx C sel vw srows) (bindV C.rows sel vw a) v
  | .int .., _, r => by simpa [bindV, Rep] using r
  | .bool .., _, r => by simpa [bindV, Rep] using r
  | .str .., _, r => by simpa [bindV, Rep] using r
  | .nils, _, r => by simpa [bindV, Rep] using r
  | .nilp, _, r => by simpa [bindV, Rep] using r
  | .junk, _, _ => by simp [bindV, Rep]
  | .agg cs, v, r => by
    rw [Rep] at r; rw [bindV, Rep]
    obtain ⟨vs, rfl, hr⟩ := r
    exact ⟨vs, rfl, RepL.bind hok hg cs _ hr⟩
  | .tup cs, v, r => by
    rw [Rep] at r; rw [bindV, Rep]
    obtain ⟨vs, rfl, hr⟩ := r
    exact ⟨vs, rfl, RepL.bind hok hg cs _ hr⟩
  | .pure sz vals, v, r => by
    have e : bindV C.rows sel vw (.pure sz vals) = .pure sz vals := by simp [bindV]
    rw [Rep] at r; rw [e, Rep]
    obtain ⟨ao, cap, rfl, hle, hr⟩ := r
    refine ⟨ao, cap, rfl, hle, ?_⟩
    rcases hr with hr | ⟨b, o, rfl, hb, he⟩
    · exact .inl hr
    · exact .inr ⟨b, o, rfl, (callee_keep hok hg b hb).2, RepE.keepP (C := C.p) (C' := (calleeCtx C sel vw srows).p) (fun x hx => callee_keep (C := C) hok hg x hx) rfl rfl b o sz hb vals he⟩
  | .pref cells off, v, r => by
    have e : bindV C.rows sel vw (.pref cells off) = .pref cells off := by simp [bindV]
    rw [Rep] at r; rw [e, Rep]
    obtain ⟨b, o, rfl, hb, hc⟩ := r
    exact ⟨b, o, rfl, (callee_keep hok hg b hb).2, RepC.keepP (C := C.p) (C' := (calleeCtx C sel vw srows).p) (fun x hx => callee_keep (C := C) hok hg x hx) rfl rfl b o hb cells hc⟩
  | .own r n off len, v, hr => by
    rw [bindV]
    rw [Rep] at hr
    obtain ⟨hm, h0, h1, h2⟩ := hr
    split
    · rename_i i hi
      have hs := pos?_some hi
      obtain ⟨x, g1, g3⟩ := (getRows_spec hg).2.1 i r hs
      rw [Rep]
      refine ⟨rfl, h0, (List.getElem?_eq_some_iff.1 g3).1, fun e sz vals' hv => ?_⟩
      rw [show (calleeCtx C sel vw srows).rows = srows from rfl, g3] at hv
      simp only [Option.some.injEq] at hv
      obtain ⟨vals, rfl, rfl⟩ := bindRow_live hv
      rw [bindE_length]
      obtain ⟨k1, k2⟩ := h2 e sz vals g1
      refine ⟨by omega, fun hn => ?_⟩
      rw [callee_phi hok hg hs]
      exact k2 (by omega)
    · rename_i hi
      have hns := pos?_none hi
      split
      · rename_i hvw
        split
        · rename_i e sz vals hrow
          split
          · rename_i hc
            obtain ⟨hn, hol, hcl⟩ := hc
            obtain ⟨_, p, hp, hov⟩ := (h2 e sz vals hrow).2 hn
            have hlen : ((vals.drop off).take len).length = len := by rw [List.length_take, List.length_drop]; omega
            rw [Rep, hlen]
            rcases hok.live hrow with ⟨hl, hnil⟩ | ⟨b, cap, cs, hl, k1, k2, k3, k4, k5, k6⟩
            · rw [hp] at hl; simp at hl; subst hl
              simp only [ownv] at hov
              obtain ⟨⟨ao, rfl⟩, _, rfl⟩ := hov
              exact ⟨ao, 0, rfl, Nat.le_refl _, .inl rfl⟩
            · rw [hp] at hl; simp at hl; subst hl
              simp only [ownv] at hov
              obtain ⟨a, c, rfl, hlc, hsp, hbk, _, ho⟩ := hov
              refine ⟨some a, c, rfl, hlc, ?_⟩
              by_cases hz : len = 0
              · exact .inl hz
              · right
                have ha : a = ⟨b, off * sz, none⟩ := by
                  obtain ⟨x, y, z⟩ := a
                  simp only at hsp hbk ho
                  rw [hsp, hbk, ho (by omega)]
                refine ⟨b, off * sz, by rw [ha], callee_view hok hg hns (by simpa using hvw) hp k1, ?_⟩
                have := ((view_repE hok hg hcl k6).drop off).take len
                simpa using this
          · simp [Rep]
        · simp [Rep]
      · simp [Rep]
  | .ref r n i off, v, hr => by
    rw [bindV]
    rw [Rep] at hr
    obtain ⟨hm, h0, h1, h2⟩ := hr
    split
    · rename_i j hi
      have hs := pos?_some hi
      obtain ⟨x, g1, g3⟩ := (getRows_spec hg).2.1 j r hs
      rw [Rep]
      refine ⟨rfl, h0, (List.getElem?_eq_some_iff.1 g3).1, fun e sz vals' hv => ?_⟩
      rw [show (calleeCtx C sel vw srows).rows = srows from rfl, g3] at hv
      simp only [Option.some.injEq] at hv
      obtain ⟨vals, rfl, rfl⟩ := bindRow_live hv
      rw [bindE_length]
      obtain ⟨k1, k2⟩ := h2 e sz vals g1
      refine ⟨by omega, fun hn => ?_⟩
      rw [callee_phi hok hg hs]
      exact k2 (by omega)
    · rename_i hi
      have hns := pos?_none hi
      split
      · rename_i hvw
        split
        · rename_i e sz vals hrow
          split
          · rename_i hc
            obtain ⟨hn, hcl⟩ := hc
            obtain ⟨hin, b, c, hp, rfl⟩ := (h2 e sz vals hrow).2 hn
            rcases hok.live hrow with ⟨hl, hnil⟩ | ⟨b', cap, cs, hl, k1, k2, k3, k4, k5, k6⟩
            · rw [hp] at hl; simp at hl
            · rw [hp] at hl; simp at hl; obtain ⟨rfl, rfl⟩ := hl
              have := ((view_repE (sel := sel) (vw := vw) (srows := srows) hok hg hcl k6).get i (by omega)).2
              rw [Rep]
              refine ⟨b, i * sz, rfl, callee_view hok hg hns (by simpa using hvw) hp k1, ?_⟩
              simpa using this
          · simp [Rep]
        · simp [Rep]
      · simp [Rep]
  | .fn f cs, v, r => by
    rw [Rep] at r; rw [bindV, Rep]
    obtain ⟨vs, rfl, hr⟩ := r
    exact ⟨vs, rfl, RepL.bind hok hg cs _ hr⟩
  | .nilm, _, r => by simpa [bindV, Rep] using r
  | .mref r, v, hr => by
    rw [bindV]
    rw [Rep] at hr
    obtain ⟨hm, h0, h1, h2⟩ := hr
    split
    · rename_i i hi
      have hs := pos?_some hi
      obtain ⟨x, g1, g3⟩ := (getRows_spec hg).2.1 i r hs
      rw [Rep]
      refine ⟨rfl, h0, (List.getElem?_eq_some_iff.1 g3).1, fun o' ho => ?_⟩
      rw [show (calleeCtx C sel vw srows).rows = srows from rfl, g3] at ho
      simp only [Option.some.injEq] at ho
      obtain ⟨o, rfl⟩ := bindRow_obj ho
      rw [callee_phi hok hg hs]
      exact h2 o g1
    · simp [Rep]
  | .itref r m, v, hr => by
    rw [bindV]
    rw [Rep] at hr
    obtain ⟨hm, h0, h1, h2, h3⟩ := hr
    split
    · rename_i i j hi hj
      have hs := pos?_some hi
      have hs' := pos?_some hj
      obtain ⟨x, g1, g3⟩ := (getRows_spec hg).2.1 i r hs
      obtain ⟨x', g1', g3'⟩ := (getRows_spec hg).2.1 j m hs'
      rw [Rep]
      refine ⟨rfl, h0, (List.getElem?_eq_some_iff.1 g3).1, (List.getElem?_eq_some_iff.1 g3').1, fun o1 o2 ho1 ho2 => ?_⟩
      rw [show (calleeCtx C sel vw srows).rows = srows from rfl, g3] at ho1
      rw [show (calleeCtx C sel vw srows).rows = srows from rfl, g3'] at ho2
      simp only [Option.some.injEq] at ho1 ho2
      obtain ⟨p1, rfl⟩ := bindRow_obj ho1
      obtain ⟨p2, rfl⟩ := bindRow_obj ho2
      rw [callee_phi hok hg hs, callee_phi hok hg hs']
      exact h3 p1 p2 g1 g1'
    · simp [Rep]
theorem RepL.bind (hok : Ok C) (hg : getRows C.rows vw sel sel = some srows) : ∀ (as : List AVal) (vs : List Value), RepL C as vs → RepL (calleeCtx C sel vw srows) (bindL C.rows sel vw as) vs
  | [], vs, r => by simpa [bindL, RepL] using r
  | a :: as, vs, r => by
    rw [RepL] at r; rw [bindL, RepL]
    obtain ⟨v, rest, rfl, k1, k2⟩ := r
    exact ⟨v, rest, rfl, Rep.bind hok hg a v k1, RepL.bind hok hg as rest k2⟩
end

theorem bindL_map {rows : List Row} : ∀ (as : List AVal), bindL rows sel vw as = as.map (bindV rows sel vw)
  | [] => rfl
  | a :: as => by simp [bindL, bindL_map as]

mutual
theorem bindV_same {rows : List Row} {sel : List (Option Nat)} {vw : List Nat} : ∀ (a : AVal), clean a = true → bindV rows sel vw a = a
  | .own .., h => by simp [clean] at h
  | .ref .., h => by simp [clean] at h
  | .agg cs, h => by rw [clean] at h; rw [bindV, bindL_same cs h]
  | .tup cs, h => by rw [clean] at h; rw [bindV, bindL_same cs h]
  | .fn f cs, h => by rw [clean] at h; rw [bindV, bindL_same cs h]
  | .int .., _ => by simp [bindV]
  | .bool .., _ => by simp [bindV]
  | .str .., _ => by simp [bindV]
  | .nils, _ => by simp [bindV]
  | .nilp, _ => by simp [bindV]
  | .junk, _ => by simp [bindV]
  | .pure .., _ => by simp [bindV]
  | .pref .., _ => by simp [bindV]
  | .nilm, _ => by simp [bindV]
  | .mref _, h => by simp [clean] at h
  | .itref .., h => by simp [clean] at h
theorem bindL_same {rows : List Row} {sel : List (Option Nat)} {vw : List Nat} : ∀ (as : List AVal), cleanL as = true → bindL rows sel vw as = as
  | [], _ => rfl
  | a :: as, h => by
    simp only [cleanL, Bool.and_eq_true] at h
    rw [bindL, bindV_same a h.1, bindL_same as h.2]
end

theorem bindL_append {rows : List Row} : ∀ (xs ys : List AVal), bindL rows sel vw (xs ++ ys) = bindL rows sel vw xs ++ bindL rows sel vw ys
  | [], ys => rfl
  | x :: xs, ys => by simp [bindL, bindL_append xs ys]

theorem cleanL_append : ∀ (xs ys : List AVal), cleanL xs = true → cleanL ys = true → cleanL (xs ++ ys) = true
  | [], ys, _, h => h
  | x :: xs, ys, hx, hy => by
    simp only [cleanL, Bool.and_eq_true] at hx
    simp only [List.cons_append, cleanL, Bool.and_eq_true]
    exact ⟨hx.1, cleanL_append xs ys hx.2 hy⟩

theorem cleanE_flatten : ∀ {es : List (List AVal)}, cleanE es = true → cleanL es.flatten = true
  | [], _ => rfl
  | e :: es, h => by
    simp only [cleanE, Bool.and_eq_true] at h
    rw [List.flatten_cons]
    exact cleanL_append _ _ h.1 (cleanE_flatten h.2)

theorem Elems.bind (hok : Ok C) (hg : getRows C.rows vw sel sel = some srows) {sz : Nat} {vals : List (List AVal)} {vs : List Value}
    (he : Elems C sz vals vs) : Elems (calleeCtx C sel vw srows) sz (bindE C.rows sel vw vals) vs := by
  unfold bindE
  split
  · rename_i hc
    refine ⟨he.szs, RepL.unp _ _ ?_, he.one⟩
    exact RepL.keepP (C := C.p) (C' := (calleeCtx C sel vw srows).p) (fun x hx => callee_keep (C := C) hok hg x hx) rfl rfl _ _ (RepL.toP _ _ (cleanE_flatten hc) he.rep)
  · refine ⟨fun e hm => ?_, ?_, he.one⟩
    · obtain ⟨x, hx, rfl⟩ := List.mem_map.1 hm
      rw [bindL_length]
      exact he.szs x hx
    · have hfl : ∀ es : List (List AVal), (es.map (bindL C.rows sel vw)).flatten = bindL C.rows sel vw es.flatten := by
        intro es
        induction es with
        | nil => rfl
        | cons e es ih => simp [bindL_append, ih]
      rw [hfl]
      exact RepL.bind hok hg _ _ he.rep

/-- no old row has two new names -/
def once (sel : List (Option Nat)) : Prop := ∀ i j r : Nat, sel[i]? = some (some r) → sel[j]? = some (some r) → i = j

theorem callee_ok (hok : Ok C) (hn : once sel) (hg : getRows C.rows vw sel sel = some srows) : Ok (calleeCtx C sel vw srows) := by
  obtain ⟨hl, hget, hdead⟩ := getRows_spec hg
  refine ⟨rfl, by simp [calleeCtx, hl], fun i row hi => ?_, fun i j b c c' h1 h2 => ?_, fun b hb => ?_⟩
  · have hil : i < sel.length := by rw [← hl]; exact (List.getElem?_eq_some_iff.1 hi).1
    have hi' : srows[i]? = some row := hi
    cases ho : sel[i] with
    | none =>
      have := hdead i (by rw [List.getElem?_eq_getElem hil, ho])
      rw [hi'] at this
      simp at this; subst this
      rw [RowOk]
      simp [calleeCtx, List.getElem?_eq_getElem hil, ho]
    | some r =>
      have hsi : sel[i]? = some (some r) := by rw [List.getElem?_eq_getElem hil, ho]
      obtain ⟨x, g1, g3⟩ := hget i r hsi
      rw [hi'] at g3
      simp at g3; subst g3
      have hphi := callee_phi hok hg hsi
      cases x with
      | dead => rw [bindRow, RowOk, hphi]; exact hok.rows _ _ g1
      | live e sz vals =>
        rw [bindRow, RowOk, hphi]
        rcases hok.live g1 with ⟨h1, rfl⟩ | ⟨b, cap, cs, h1, k1, k2, k3, k4, k5, k6⟩
        · exact ⟨none, h1, by simp [bindE, cleanE]⟩
        · obtain ⟨vs, e1, e2⟩ := k6.elems
          refine ⟨_, h1, ?_, cs, k2, k3, k4, by rw [bindE_length]; exact k5, (Elems.bind hok hg e1).repE e2⟩
          rintro (h | ⟨r', c, m1, _, m3⟩)
          · exact k1 h
          · have := hok.inj _ _ _ _ _ m3 h1
            subst this
            exact m1 (List.mem_of_getElem? hsi)
      | obj o =>
        have hno : ∀ {b c : Nat}, C.phi[r]? = some (some (b, c)) → ¬ C.om b → ¬ (calleeCtx C sel vw srows).om b := by
          intro b c hp ho
          rintro (h | ⟨r', c', m1, _, m3⟩)
          · exact ho h
          · have := hok.inj _ _ _ _ _ m3 hp
            subst this
            exact m1 (List.mem_of_getElem? hsi)
        have hrow := hok.rows _ _ g1
        cases o with
        | map ag ks ents =>
          rw [RowOk] at hrow
          obtain ⟨b, c, es, h1, h2, h3, h4, h5, h6, h7⟩ := hrow
          rw [bindRow, RowOk, hphi]
          refine ⟨b, c, es, h1, hno h1 h2, h3, h4, ?_, ?_, fun p hp => ?_⟩
          · have := RepL.bind hok hg _ _ h5
            rw [bindL_map] at this
            simpa [List.map_map, Function.comp_def] using this
          · have := RepL.bind hok hg _ _ h6
            rw [bindL_map] at this
            simpa [List.map_map, Function.comp_def] using this
          · obtain ⟨q, hq, rfl⟩ := List.mem_map.1 hp
            have := h7 q hq
            simpa only [bindV_same _ (keyFits_clean this)] using this
        | iter n seen =>
          rw [RowOk] at hrow
          obtain ⟨b, bm, h1, h2, h3⟩ := hrow
          rw [bindRow, RowOk, hphi]
          exact ⟨b, bm, h1, hno h1 h2, h3⟩
  · obtain ⟨r, s1, p1⟩ := callee_phi_inv hok hg h1
    obtain ⟨r', s2, p2⟩ := callee_phi_inv hok hg h2
    have := hok.inj _ _ _ _ _ p1 p2
    subst this
    exact hn i j r s1 s2
  · rcases hb with h | ⟨r, c, _, _, h⟩
    · exact hok.om b h
    · exact hok.lt h

end
end Go.Abs
end

section
/- What a caller has behind a call. -/
namespace Go.Abs
variable [Glb]

def backCtx (C : Ctx) (sel : List Nat) (D : Ctx) : Ctx :=
  ⟨mergeR C.rows sel (D.rows.map (renRow (back C.rows.length sel))), mergeR C.phi sel D.phi, C.om, D.w, C.pm⟩

theorem renRow_live {f : Nat → Nat} {row : Row} {e : TypeId} {sz : Nat} {vals : List (List AVal)} (h : renRow f row = .live e sz vals) : ∃ vals', row = .live e sz vals' ∧ vals = renE f vals' := by
  cases row with
  | dead => simp [renRow] at h
  | live e' sz' vals' => simp [renRow] at h; obtain ⟨rfl, rfl, rfl⟩ := h; exact ⟨vals', rfl, rfl⟩
  | obj o => cases o <;> simp [renRow] at h

theorem renRow_obj {f : Nat → Nat} {row : Row} {o' : AObj} (h : renRow f row = .obj o') : ∃ o, row = .obj o := by
  cases row with
  | dead => simp [renRow] at h
  | live e' sz' vals => simp [renRow] at h
  | obj o => exact ⟨o, rfl⟩

section
variable {C D : Ctx} {sel vw : List Nat} {srows : List Row}

theorem back_sound (hok : Ok C) (hn : sel.Nodup) (hg : getRows C.rows vw (sel.map some) (sel.map some) = some srows) (hD : Ok D) (hl : Later srows.length (calleeCtx C (sel.map some) vw srows) D)
    (hf : vw = [] ∨ (D.rows.all flatRow) = true) :
    Ok (backCtx C sel D) ∧ Later C.rows.length C (backCtx C sel D) ∧ ∀ v cv, (vw = [] ∨ flat v = true) → Rep D v cv → Rep (backCtx C sel D) (renV (back C.rows.length sel) v) cv := by
  obtain ⟨hsl, hget, _⟩ := getRows_spec hg
  rw [List.length_map] at hsl
  have osel : ∀ {i r : Nat}, (sel.map some)[i]? = some (some r) → sel[i]? = some r := by
    intro i r h; simpa using h
  have selo : ∀ {i : Nat} (hi : i < sel.length), (sel.map some)[i]? = some (some sel[i]) := by
    intro i hi; simp [hi]
  have hlt : ∀ r ∈ sel, r < C.rows.length := by
    intro r hr
    obtain ⟨i, hi, rfl⟩ := List.getElem_of_mem hr
    obtain ⟨x, g1, _⟩ := hget i sel[i] (selo hi)
    exact (List.getElem?_eq_some_iff.1 g1).1
  have hle : sel.length ≤ D.rows.length := by rw [← hsl]; exact hl.len
  have hlem : sel.length ≤ (D.rows.map (renRow (back C.rows.length sel))).length := by simpa using hle
  have hlep : sel.length ≤ D.phi.length := by rw [hD.plen]; exact hle
  have hltp : ∀ r ∈ sel, r < C.phi.length := by rw [hok.plen]; exact hlt
  have rowsLen : (backCtx C sel D).rows.length = C.rows.length + (D.rows.length - sel.length) := by
    show (mergeR _ _ _).length = _
    rw [mergeR_length sel _ _ hlem]; simp
  have rb : ∀ i, i < D.rows.length → (backCtx C sel D).rows[back C.rows.length sel i]? = (D.rows[i]?).map (renRow (back C.rows.length sel)) := by
    intro i hi
    show (mergeR _ _ _)[_]? = _
    rw [mergeR_back sel _ _ i hn hlt (by simpa using hi) hlem]; simp
  have pb : ∀ i, i < D.rows.length → (backCtx C sel D).phi[back C.rows.length sel i]? = D.phi[i]? := by
    intro i hi
    show (mergeR _ _ _)[_]? = _
    rw [← hok.plen]
    exact mergeR_back sel _ _ i hn hltp (by rw [hD.plen]; exact hi) hlep
  have ro : ∀ r, r < C.rows.length → r ∉ sel → (backCtx C sel D).rows[r]? = C.rows[r]? := fun r h1 h2 => mergeR_other sel _ _ r h1 h2
  have po : ∀ r, r < C.rows.length → r ∉ sel → (backCtx C sel D).phi[r]? = C.phi[r]? := fun r h1 h2 => mergeR_other sel _ _ r (by rw [hok.plen]; exact h1) h2
  have cases_ : ∀ k, k < (backCtx C sel D).rows.length → (k < C.rows.length ∧ k ∉ sel) ∨ ∃ i, i < D.rows.length ∧ k = back C.rows.length sel i := by
    intro k hk
    rw [rowsLen] at hk
    exact back_cases sel _ _ k hlt hle hk
  have plen' : (backCtx C sel D).phi.length = (backCtx C sel D).rows.length := by
    rw [rowsLen]
    show (mergeR _ _ _).length = _
    rw [mergeR_length sel _ _ hlep, hok.plen, hD.plen]
  -- who owns a block
  have owner : ∀ k b c : Nat, (backCtx C sel D).phi[k]? = some (some (b, c)) → (k < C.rows.length ∧ k ∉ sel ∧ C.phi[k]? = some (some (b, c))) ∨ ∃ i : Nat, i < D.rows.length ∧ k = back C.rows.length sel i ∧ D.phi[i]? = some (some (b, c)) := by
    intro k b c hk
    have hkl : k < (backCtx C sel D).rows.length := by
      rw [← plen']; exact (List.getElem?_eq_some_iff.1 hk).1
    rcases cases_ k hkl with ⟨h1, h2⟩ | ⟨i, h1, rfl⟩
    · exact .inl ⟨h1, h2, by rw [← po k h1 h2]; exact hk⟩
    · exact .inr ⟨i, h1, rfl, by rw [← pb i h1]; exact hk⟩
  have fresh : ∀ i b c : Nat, D.phi[i]? = some (some (b, c)) → (∃ r c' : Nat, r ∈ sel ∧ C.phi[r]? = some (some (b, c'))) ∨ C.w.heap.size ≤ b := by
    intro i b c hi
    rcases hl.fresh i b c hi with ⟨j, c', h⟩ | h
    · obtain ⟨r, h1, h2⟩ := callee_phi_inv hok hg h
      exact .inl ⟨r, c', List.mem_of_getElem? (osel h1), h2⟩
    · exact .inr h
  have notOwned : ∀ b, (∀ r c : Nat, r ∈ sel → C.phi[r]? ≠ some (some (b, c))) → ∀ i c : Nat, (calleeCtx C (sel.map some) vw srows).phi[i]? ≠ some (some (b, c)) := by
    intro b hb i c hc
    obtain ⟨r, h1, h2⟩ := callee_phi_inv hok hg hc
    exact hb r c (List.mem_of_getElem? (osel h1)) h2
  have blockSame : ∀ b, b < C.w.heap.size → (∀ r c : Nat, r ∈ sel → C.phi[r]? ≠ some (some (b, c))) → D.w.heap[b]? = C.w.heap[b]? := fun b hb ho => hl.block b hb (notOwned b ho)
  have later : Later C.rows.length C (backCtx C sel D) := by
    refine ⟨hl.os, hl.tape, hl.output, hl.size, fun b hb ho => blockSame b hb fun r c _ => ho r c, fun k b c hk => ?_, rfl, rfl, by rw [rowsLen]; omega, fun r e sz vals' hr hv => ?_, fun r o' hr hv => ?_, hl.drawn⟩
    · rcases owner k b c hk with ⟨_, _, h⟩ | ⟨i, _, _, h⟩
      · exact .inl ⟨k, c, h⟩
      · rcases fresh i b c h with ⟨r, c', _, h⟩ | h
        · exact .inl ⟨r, c', h⟩
        · exact .inr h
    · by_cases hs : r ∈ sel
      · obtain ⟨i, hi, rfl⟩ := List.getElem_of_mem hs
        have hbk := back_sel sel C.rows.length i hi
        rw [← hbk, rb i (by omega)] at hv
        have hid : i < D.rows.length := by omega
        rw [List.getElem?_eq_getElem hid] at hv
        simp at hv
        obtain ⟨v2, hd, rfl⟩ := renRow_live hv
        obtain ⟨v1, c1, c2, c3⟩ := hl.rows i e sz v2 (by omega) (by rw [List.getElem?_eq_getElem hid, hd])
        obtain ⟨x, g1, g3⟩ := hget i sel[i] (selo hi)
        rw [show (calleeCtx C (sel.map some) vw srows).rows = srows from rfl, g3] at c1
        simp only [Option.some.injEq] at c1
        obtain ⟨vals, rfl, rfl⟩ := bindRow_live c1
        rw [bindE_length] at c2 c3
        refine ⟨vals, g1, by rw [renE_length]; omega, fun heq => ?_⟩
        rw [renE_length] at heq
        have := c3 (by omega)
        rw [callee_phi hok hg (selo hi)] at this
        rw [← hbk, pb i hid, hbk]
        exact this
      · rw [ro r hr hs] at hv
        exact ⟨vals', hv, Nat.le_refl _, fun _ => po r hr hs⟩
    · by_cases hs : r ∈ sel
      · obtain ⟨i, hi, rfl⟩ := List.getElem_of_mem hs
        have hbk := back_sel sel C.rows.length i hi
        rw [← hbk, rb i (by omega)] at hv
        have hid : i < D.rows.length := by omega
        rw [List.getElem?_eq_getElem hid] at hv
        simp at hv
        obtain ⟨o2, hd⟩ := renRow_obj hv
        obtain ⟨o1, c1, c2⟩ := hl.objs i o2 (by omega) (by rw [List.getElem?_eq_getElem hid, hd])
        obtain ⟨x, g1, g3⟩ := hget i sel[i] (selo hi)
        rw [show (calleeCtx C (sel.map some) vw srows).rows = srows from rfl, g3] at c1
        simp only [Option.some.injEq] at c1
        obtain ⟨o, rfl⟩ := bindRow_obj c1
        refine ⟨o, g1, ?_⟩
        rw [callee_phi hok hg (selo hi)] at c2
        rw [← hbk, pb i hid, hbk]
        exact c2
      · rw [ro r hr hs] at hv
        exact ⟨o', hv, po r hr hs⟩
  have hrowsF : ∀ r, r < D.rows.length → back C.rows.length sel r < (backCtx C sel D).rows.length ∧ ∀ e sz vals', (backCtx C sel D).rows[back C.rows.length sel r]? = some (.live e sz vals') →
      ∃ vals, D.rows[r]? = some (.live e sz vals) ∧ vals.length ≤ vals'.length ∧ (vals.length = vals'.length → (backCtx C sel D).phi[back C.rows.length sel r]? = D.phi[r]?) := by
    intro r hr
    have hget2 := rb r hr
    rw [List.getElem?_eq_getElem hr] at hget2
    refine ⟨(List.getElem?_eq_some_iff.1 (by simpa using hget2)).1, fun e sz vals' hv => ?_⟩
    rw [hget2] at hv
    simp at hv
    obtain ⟨v2, hd, rfl⟩ := renRow_live hv
    exact ⟨v2, by rw [List.getElem?_eq_getElem hr, hd], by rw [renE_length]; exact Nat.le_refl _, fun _ => pb r hr⟩
  have hobjF : ∀ r, r < D.rows.length → ∀ o', (backCtx C sel D).rows[back C.rows.length sel r]? = some (.obj o') → ∃ o, D.rows[r]? = some (.obj o) ∧ (backCtx C sel D).phi[back C.rows.length sel r]? = D.phi[r]? := by
    intro r hr o' hv
    rw [rb r hr, List.getElem?_eq_getElem hr] at hv
    simp at hv
    obtain ⟨o, hd⟩ := renRow_obj hv
    exact ⟨o, by rw [List.getElem?_eq_getElem hr, hd], pb r hr⟩
  have hpm : (backCtx C sel D).pm = D.pm := by rw [hD.pm]; exact hok.pm
  have keepD : vw = [] → ∀ b, D.pureBlk b → (backCtx C sel D).w.heap[b]? = D.w.heap[b]? ∧ (backCtx C sel D).pureBlk b := by
    intro hv b hb
    obtain ⟨h1, h2, h3⟩ := hb
    rw [hl.om] at h2
    refine ⟨rfl, h1, fun ho => h2 (.inl ho), fun k c hk => ?_⟩
    rcases owner k b c hk with ⟨q1, q2, q3⟩ | ⟨i, _, _, q⟩
    · exact h2 (.inr ⟨k, c, by simpa using q2, by simp [hv], q3⟩)
    · exact h3 i c q
  have repV : ∀ v cv, (vw = [] ∨ flat v = true) → Rep D v cv → Rep (backCtx C sel D) (renV (back C.rows.length sel) v) cv := by
    intro v cv hvf hr
    rcases hvf with hv | hv
    · exact Rep.ren ⟨hpm, keepD hv, hrowsF, hobjF⟩ v cv hr
    · exact Rep.renF hpm hrowsF hobjF v cv hv hr
  have repE : ∀ (i : Nat) (e : TypeId) (sz : Nat) (vals : List (List AVal)) (vs : List Value), D.rows[i]? = some (.live e sz vals) → Elems D sz vals vs → Elems (backCtx C sel D) sz (renE (back C.rows.length sel) vals) vs := by
    intro i e sz vals vs hi he
    rcases hf with hv | hv
    · exact Elems.ren ⟨hpm, keepD hv, hrowsF, hobjF⟩ he
    · have hflat : flatE vals = true := List.all_eq_true.1 hv _ (List.mem_of_getElem? hi)
      refine ⟨fun x hx => ?_, ?_, he.one⟩
      · rw [renE_eq] at hx
        obtain ⟨y, hy, rfl⟩ := List.mem_map.1 hx
        rw [renL_length]
        exact he.szs y hy
      · rw [renE_flatten]
        exact RepL.renF hpm hrowsF hobjF _ _ (flatE_flatten hflat) he.rep
  refine ⟨⟨hok.pm, plen', fun k row hk => ?_, fun k k' b c c' h1 h2 => ?_, fun b hb => Nat.lt_of_lt_of_le (hok.om b hb) hl.size⟩, later, repV⟩
  · have hkl : k < (backCtx C sel D).rows.length := (List.getElem?_eq_some_iff.1 hk).1
    rcases cases_ k hkl with ⟨h1, h2⟩ | ⟨i, hi, rfl⟩
    · rw [ro k h1 h2] at hk
      refine RowOk.move later.ext rfl (po k h1 h2) (fun b c hb => ?_) (hok.rows k row hk)
      refine blockSame b (hok.lt hb) fun r c' hr hr' => ?_
      have := hok.inj _ _ _ _ _ hb hr'
      subst this
      exact h2 hr
    · rw [rb i hi, List.getElem?_eq_getElem hi] at hk
      simp at hk
      have hrow := hD.rows i _ (List.getElem?_eq_getElem hi)
      cases hd : D.rows[i] with
      | dead =>
        rw [hd] at hk hrow
        simp [renRow] at hk
        subst hk
        rw [RowOk] at hrow ⊢
        rw [pb i hi]; exact hrow
      | live e sz vals =>
        rw [hd] at hk
        simp [renRow] at hk
        subst hk
        have hdi : D.rows[i]? = some (.live e sz vals) := by rw [List.getElem?_eq_getElem hi, hd]
        rw [RowOk, pb i hi]
        rcases hD.live hdi with ⟨p1, rfl⟩ | ⟨b, cap, cs, p1, k1, k2, k3, k4, k5, k6⟩
        · exact ⟨none, p1, by simp [renE, cleanE]⟩
        · obtain ⟨vs, e1, e2⟩ := k6.elems
          refine ⟨_, p1, fun ho => k1 ?_, cs, k2, k3, k4, by rw [renE_length]; exact k5, (repE i e sz vals vs hdi e1).repE e2⟩
          rw [hl.om]
          exact .inl ho
      | obj o =>
        have hdi : D.rows[i]? = some (.obj o) := by rw [List.getElem?_eq_getElem hi, hd]
        cases o with
        | map ag ks ents =>
          rw [hd] at hk hrow
          simp only [renRow] at hk
          subst hk
          rw [RowOk] at hrow
          obtain ⟨b, c, es, h1, h2, h3, h4, h5, h6, h7⟩ := hrow
          have rep : ∀ as vs, (vw = [] ∨ flatL as = true) → RepL D as vs → RepL (backCtx C sel D) (renL (back C.rows.length sel) as) vs := by
            intro as vs hvf hr
            rcases hvf with hv | hv
            · exact RepL.ren ⟨hpm, keepD hv, hrowsF, hobjF⟩ as vs hr
            · exact RepL.renF hpm hrowsF hobjF as vs hv hr
          have hfl : vw = [] ∨ (flatL (ents.map (·.1)) = true ∧ flatL (ents.map (·.2)) = true) := by
            rcases hf with hv | hv
            · exact .inl hv
            · right
              have := List.all_eq_true.1 hv _ (List.mem_of_getElem? hdi)
              simpa [flatRow] using this
          rw [RowOk, pb i hi]
          refine ⟨b, c, es, h1, fun ho => h2 ?_, h3, h4, ?_, ?_, fun p hp => ?_⟩
          · rw [hl.om]; exact .inl ho
          · have := rep _ _ (hfl.imp id (·.1)) h5
            rw [renL_map] at this
            simpa [List.map_map, Function.comp_def] using this
          · have := rep _ _ (hfl.imp id (·.2)) h6
            rw [renL_map] at this
            simpa [List.map_map, Function.comp_def] using this
          · obtain ⟨q, hq, rfl⟩ := List.mem_map.1 hp
            have := h7 q hq
            simpa only [renV_clean _ _ (keyFits_clean this)] using this
        | iter n seen =>
          rw [hd] at hk hrow
          simp only [renRow] at hk
          subst hk
          rw [RowOk] at hrow
          obtain ⟨b, bm, h1, h2, h3⟩ := hrow
          rw [RowOk, pb i hi]
          exact ⟨b, bm, h1, fun ho => h2 (by rw [hl.om]; exact .inl ho), h3⟩
  · have clash : ∀ {k i b c c' : Nat}, k < C.rows.length → k ∉ sel → C.phi[k]? = some (some (b, c)) → D.phi[i]? = some (some (b, c')) → False := by
      intro k i b c c' h1 h2 h3 h4
      rcases fresh i b c' h4 with ⟨r, c2, hr, h⟩ | h
      · have := hok.inj _ _ _ _ _ h3 h
        subst this
        exact h2 hr
      · have := hok.lt h3; omega
    rcases owner k b c h1 with ⟨a1, a2, a3⟩ | ⟨i, a1, a2, a3⟩ <;> rcases owner k' b c' h2 with ⟨b1, b2, b3⟩ | ⟨j, b1, b2, b3⟩
    · exact hok.inj _ _ _ _ _ a3 b3
    · exact (clash a1 a2 a3 b3).elim
    · exact (clash b1 b2 b3 a3).elim
    · have := hD.inj _ _ _ _ _ a3 b3
      rw [a2, b2, this]

end

/-- a call under a contract, as its caller sees it -/
def callK (P : Program) (f : FuncId) (args : List AVal) (rows : List Row) (K : AVal → List Row → Prop) : Prop :=
  ∃ (sel vw : List Nat) (srows : List Row), sel.Nodup ∧ getRows rows vw (sel.map some) (sel.map some) = some srows ∧
    AFn P f (bindL rows (sel.map some) vw args) srows fun v rs => (vw = [] ∨ (flat v = true ∧ (rs.all flatRow) = true)) ∧ K (renV (back rows.length sel) v) (mergeR rows sel (rs.map (renRow (back rows.length sel))))

theorem once_of_nodup {sel : List Nat} (h : sel.Nodup) : once (sel.map some) := by
  intro i j r h1 h2
  have h1' : sel[i]? = some r := by simpa using h1
  have h2' : sel[j]? = some r := by simpa using h2
  obtain ⟨i1, e1⟩ := List.getElem?_eq_some_iff.1 h1'
  obtain ⟨i2, e2⟩ := List.getElem?_eq_some_iff.1 h2'
  exact (List.getElem_inj h).1 (e1.trans e2.symm)

theorem gok_callee {C : Ctx} {sel : List (Option Nat)} {vw : List Nat} {srows : List Row} (hok : Ok C) (hg : getRows C.rows vw sel sel = some srows) (hG : GOk C) : GOk (calleeCtx C sel vw srows) := by
  obtain ⟨h1, h2, h3⟩ := hG
  refine ⟨h1, fun b hb r c hc => ?_, h3⟩
  obtain ⟨r', _, h'⟩ := callee_phi_inv hok hg hc
  exact h2 b hb r' c h'

theorem call_sound {P : Program} {C : Ctx} (hok : Ok C) (hG : GOk C) {f : FuncId} {args : List AVal} {cargs : List Value} (hr : RepL C args cargs) {K : AVal → List Row → Prop} (h : callK P f args C.rows K) :
    Calls P f cargs.toArray C.w fun e w' => ∃ cv v C', e = .returned cv ∧ C'.w = w' ∧ Rep C' v cv ∧ Ok C' ∧ Later C.rows.length C C' ∧ K v C'.rows := by
  obtain ⟨sel, vw, srows, hn, hg, hA⟩ := h
  refine (hA (calleeCtx C (sel.map some) vw srows) cargs rfl (callee_ok hok (once_of_nodup hn) hg) (gok_callee hok hg hG) (RepL.bind hok hg _ _ hr)).mono ?_
  rintro e w' ⟨cv, v, D, rfl, rfl, hv, hD, hl, hq, hk⟩
  obtain ⟨b1, b2, b3⟩ := back_sound hok hn hg hD hl (hq.imp id (·.2))
  exact ⟨cv, _, backCtx C sel D, rfl, rfl, b3 v cv (hq.imp id (·.1)) hv, b1, b2, hk⟩

end Go.Abs
end

section
/- States: what is known of the slots; what may be forgotten, renamed or added without an operation. -/
namespace Go.Abs
variable [Glb]

abbrev Env := List (Nat × AVal)

def slot : Env → Nat → AVal
  | [], _ => .junk
  | (s, v) :: r, t => if s = t then v else slot r t

structure Sim (n : Nat) (env : Env) (C : Ctx) (a : Act) : Prop where
  ok : Ok C
  size : a.tmps.size = n
  defers : a.defers = []
  slots : ∀ t, Rep C (slot env t) (a.tmps.getD t undef)

/-- the new names of the first n rows: as they were, or gone -/
def keeps (n0 : Nat) (sel : List (Option Nat)) : Prop := n0 ≤ sel.length ∧ ∀ i, i < n0 → sel[i]? = some (some i) ∨ sel[i]? = some none

inductive Wk (n0 : Nat) : Env → List Row → Env → List Row → Prop
  | refl (env : Env) (rows : List Row) : Wk n0 env rows env rows
  | trans {e1 e2 e3 : Env} {r1 r2 r3 : List Row} (h : Wk n0 e1 r1 e2 r2) (k : Wk n0 e2 r2 e3 r3) : Wk n0 e1 r1 e3 r3
  | env {e1 e2 : Env} {rows : List Row} (h : ∀ t, slot e2 t = slot e1 t ∨ slot e2 t = .junk) : Wk n0 e1 rows e2 rows
  | ghost {env : Env} {rows : List Row} (s : Nat) (e : TypeId) (sz : Nat) (h : slot env s = .nils) : Wk n0 env rows ((s, .own rows.length 0 0 0) :: env) (rows ++ [.live e sz []])
  | ghostC {env : Env} {rows : List Row} {e' : TypeId} {sz' : Nat} {vals : List (List AVal)} (r i off : Nat) (e : TypeId) (sz : Nat) (h : rows[r]? = some (.live e' sz' vals)) (hi : i < vals.length) (ho : off < sz')
      (hv : (vals.getD i []).getD off .junk = .nils) : Wk n0 env rows env (rows.set r (.live e' sz' (vals.set i (splice (vals.getD i []) off [.own rows.length 0 0 0]))) ++ [.live e sz []])
  /-- a slice of the first elements becomes a row of its own; the old row is gone -/
  | cut {env : Env} {rows : List Row} {e : TypeId} {sz : Nat} {vals : List (List AVal)} (s r n k : Nat) (h : slot env s = .own r n 0 k) (hr : rows[r]? = some (.live e sz vals)) (hn : n = vals.length) :
      Wk n0 env rows ((s, .own rows.length k 0 k) :: env) (rows.set r .dead ++ [.live e sz (vals.take k)])
  | tr {env : Env} {rows srows : List Row} (sel : List (Option Nat)) (vw : List Nat) (h1 : once sel) (h2 : keeps n0 sel) (hg : getRows rows vw sel sel = some srows) :
      Wk n0 env rows (env.map fun p => (p.1, bindV rows sel vw p.2)) srows

theorem slot_map (f : AVal → AVal) (hf : f .junk = .junk) : ∀ (env : Env) (t : Nat), slot (env.map fun p => (p.1, f p.2)) t = f (slot env t)
  | [], t => by simp [slot, hf]
  | (s, v) :: r, t => by
    simp only [List.map_cons, slot]
    split
    · rfl
    · exact slot_map f hf r t

/-- fewer blocks that others own -/
theorem Ext.om {C : Ctx} {om' : Nat → Prop} (h : ∀ b, om' b → C.om b) : Ext C { C with om := om' } :=
  ⟨rfl, fun b hb => ⟨rfl, hb.1, fun ho => hb.2.1 (h b ho), hb.2.2⟩, Nat.le_refl _, fun _ _ _ vals _ h => ⟨vals, h, Nat.le_refl _, fun _ => rfl⟩, fun _ o _ h => ⟨o, h, rfl⟩⟩

theorem wk_sound {n n0 : Nat} {C0 : Ctx} {a : Act} {env : Env} {rows : List Row} {env' : Env} {rows' : List Row} (h : Wk n0 env rows env' rows') : ∀ (C : Ctx), C.rows = rows → Sim n env C a → Later n0 C0 C →
    ∃ C', C'.w = C.w ∧ C'.rows = rows' ∧ Sim n env' C' a ∧ Later n0 C0 C' := by
  induction h with
  | refl env rows => intro C hr hs hl; exact ⟨C, rfl, hr, hs, hl⟩
  | trans _ _ ih1 ih2 =>
    intro C hr hs hl
    obtain ⟨C1, a1, a2, a3, a4⟩ := ih1 C hr hs hl
    obtain ⟨C2, b1, b2, b3, b4⟩ := ih2 C1 a2 a3 a4
    exact ⟨C2, b1.trans a1, b2, b3, b4⟩
  | env h =>
    intro C hr hs hl
    refine ⟨C, rfl, hr, ⟨hs.ok, hs.size, hs.defers, fun t => ?_⟩, hl⟩
    rcases h t with h | h
    · rw [h]; exact hs.slots t
    · rw [h]; simp [Rep]
  | @ghost env rows s e sz h =>
    intro C hr hs hl
    subst hr
    obtain ⟨h1, h2⟩ := push_nil hs.ok e sz
    refine ⟨⟨C.rows ++ [.live e sz []], C.phi ++ [none], C.om, C.w, C.pm⟩, rfl, rfl, ⟨h1, hs.size, hs.defers, fun t => ?_⟩, hl.trans h2 hl.len⟩
    simp only [slot]
    split
    · rename_i hst
      subst hst
      have := hs.slots s
      rw [h, Rep] at this
      obtain ⟨ao, this⟩ := this
      rw [this, Rep]
      refine ⟨hs.ok.pm, ⟨_, _, rfl⟩, by simp, fun e2 sz2 vals2 hv => ?_⟩
      simp at hv
      obtain ⟨rfl, rfl, rfl⟩ := hv
      exact ⟨by simp, fun _ => ⟨by simp, none, by simp [← hs.ok.plen], ⟨_, rfl⟩, rfl, rfl⟩⟩
    · exact Rep.ext h2.ext _ _ (hs.slots t)
  | @cut env rows e sz vals s r n k h hr0 hn =>
    intro C hr hs hl
    subst hr
    have hok := hs.ok
    have hrl : r < C.rows.length := (List.getElem?_eq_some_iff.1 hr0).1
    have hrp : r < C.phi.length := by rw [hok.plen]; exact hrl
    have hslot := hs.slots s
    rw [h, Rep] at hslot
    obtain ⟨_, hform, _, hslot⟩ := hslot
    obtain ⟨hkn, p, hp, hv⟩ := (hslot _ _ _ hr0).2 hn
    have old : ∀ {k' : Nat} {q : Nat × Nat}, (C.phi.set r none ++ [p])[k']? = some (some q) → (k' ≠ r ∧ k' < C.phi.length ∧ C.phi[k']? = some (some q)) ∨ (k' = C.phi.length ∧ p = some q) := by
      intro k' q hk
      rw [List.getElem?_append] at hk
      split at hk
      · rename_i hlt
        rw [List.length_set] at hlt
        rw [List.getElem?_set] at hk
        split at hk
        · rename_i he; subst he; simp [hrp] at hk
        · rename_i hne; exact .inl ⟨fun e => hne e.symm, hlt, hk⟩
      · rename_i hge
        rw [List.length_set] at hk hge
        cases hz : k' - C.phi.length with
        | zero => rw [hz] at hk; simp at hk; exact .inr ⟨by omega, hk⟩
        | succ m => rw [hz] at hk; simp at hk
    have phi' : ∀ {k' : Nat}, k' < C.rows.length → k' ≠ r → (C.phi.set r none ++ [p])[k']? = C.phi[k']? := by
      intro k' hk hne
      rw [List.getElem?_append, if_pos (by rw [List.length_set, hok.plen]; exact hk), List.getElem?_set, if_neg (fun e => hne e.symm)]
    have rows' : ∀ {k' : Nat}, k' < C.rows.length → k' ≠ r → (C.rows.set r .dead ++ [.live e sz (vals.take k)])[k']? = C.rows[k']? := by
      intro k' hk hne
      rw [List.getElem?_append, if_pos (by rw [List.length_set]; exact hk), List.getElem?_set, if_neg (fun e => hne e.symm)]
    have rowr : (C.rows.set r .dead ++ [.live e sz (vals.take k)])[r]? = some .dead := by
      rw [List.getElem?_append, if_pos (by rw [List.length_set]; exact hrl), List.getElem?_set, if_pos rfl, if_pos hrl]
    have later : Later C.rows.length C ⟨C.rows.set r .dead ++ [.live e sz (vals.take k)], C.phi.set r none ++ [p], C.om, C.w, C.pm⟩ := by
      refine ⟨rfl, rfl, rfl, Nat.le_refl _, fun _ _ _ => rfl, fun k' b c hk => ?_, rfl, rfl, by simp, fun k' e2 sz2 vals2 hk hv2 => ?_, fun k' o2 hk hv2 => ?_, fun _ => Nat.le_refl _⟩
      · rcases old hk with ⟨_, _, h1⟩ | ⟨_, h1⟩
        · exact .inl ⟨k', c, h1⟩
        · exact .inl ⟨r, c, by rw [hp, h1]⟩
      · by_cases hne : k' = r
        · subst hne
          have : some Row.dead = some (Row.live e2 sz2 vals2) := rowr.symm.trans hv2
          cases this
        · exact ⟨vals2, (rows' hk hne).symm.trans hv2, Nat.le_refl _, fun _ => phi' hk hne⟩
      · by_cases hne : k' = r
        · subst hne
          have : some Row.dead = some (Row.obj o2) := rowr.symm.trans hv2
          cases this
        · exact ⟨o2, (rows' hk hne).symm.trans hv2, phi' hk hne⟩
    refine ⟨⟨C.rows.set r .dead ++ [.live e sz (vals.take k)], C.phi.set r none ++ [p], C.om, C.w, C.pm⟩, rfl, rfl, ⟨⟨hok.pm, by simp [hok.plen], fun k' row hk => ?_, fun k1 k2 b c c' h1 h2 => ?_, hok.om⟩, hs.size, hs.defers, fun t => ?_⟩, hl.trans later hl.len⟩
    · by_cases hk1 : k' < C.rows.length
      · by_cases hne : k' = r
        · subst hne
          have : some Row.dead = some row := rowr.symm.trans hk
          cases this
          rw [RowOk]
          show (C.phi.set k' none ++ [p])[k']? = _
          rw [List.getElem?_append, if_pos (by rw [List.length_set]; exact hrp), List.getElem?_set, if_pos rfl, if_pos hrp]
        · exact RowOk.move later.ext rfl (phi' hk1 hne) (fun b c hb => rfl) (hok.rows k' row ((rows' hk1 hne).symm.trans hk))
      · have hk2 : k' = C.rows.length := by
          have := (List.getElem?_eq_some_iff.1 hk).1
          simp at this
          omega
        subst hk2
        have hrow : row = .live e sz (vals.take k) := by
          rw [List.getElem?_append, if_neg (by simp)] at hk
          simp at hk
          exact hk.symm
        subst hrow
        rw [RowOk]
        refine ⟨p, ?_, ?_⟩
        · show (C.phi.set r none ++ [p])[C.rows.length]? = _
          rw [List.getElem?_append, if_neg (by rw [List.length_set, hok.plen]; omega)]
          simp [hok.plen]
        · rcases hok.live hr0 with ⟨hl', hnil⟩ | ⟨b, cap, cs, hl', h1, h2, h3, h4, h5, h6⟩
          · rw [hp] at hl'; simp at hl'; subst hl'
            simp [hnil]
          · rw [hp] at hl'; simp at hl'; subst hl'
            exact ⟨h1, cs, h2, h3, h4, by rw [List.length_take]; omega, ((RepE.take k h6).move later.ext rfl)⟩
    · rcases old h1 with ⟨n1, l1, g1⟩ | ⟨e1, g1⟩ <;> rcases old h2 with ⟨n2, l2, g2⟩ | ⟨e2, g2⟩
      · exact hok.inj k1 k2 b c c' g1 g2
      · exact (n1 (hok.inj k1 r b c c' g1 (by rw [hp, g2]))).elim
      · exact (n2 (hok.inj k2 r b c' c g2 (by rw [hp, g1]))).elim
      · rw [e1, e2]
    · simp only [slot]
      split
      · rename_i hst
        subst hst
        rw [Rep]
        refine ⟨hok.pm, ?_, by simp, fun e2 sz2 vals2 hv2 => ?_⟩
        · exact hform
        · simp at hv2
          obtain ⟨rfl, rfl, rfl⟩ := hv2
          refine ⟨by rw [List.length_take]; omega, fun _ => ⟨by omega, p, ?_, hv⟩⟩
          show (C.phi.set r none ++ [p])[C.rows.length]? = _
          rw [List.getElem?_append, if_neg (by rw [List.length_set, hok.plen]; omega)]
          simp [hok.plen]
      · exact Rep.ext later.ext _ _ (hs.slots t)
  | @ghostC env rows e' sz' vals r i off e sz h hi ho hv =>
    intro C hr hs hl
    subst hr
    have hok := hs.ok
    have hrl : r < C.rows.length := (List.getElem?_eq_some_iff.1 h).1
    -- the new context
    have later : Later C.rows.length C ⟨C.rows.set r (.live e' sz' (vals.set i (splice (vals.getD i []) off [.own C.rows.length 0 0 0]))) ++ [.live e sz []], C.phi ++ [none], C.om, C.w, C.pm⟩ := by
      refine ⟨rfl, rfl, rfl, Nat.le_refl _, fun _ _ _ => rfl, fun k b c hk => ?_, rfl, rfl, by simp, fun k e2 sz2 vals2 hk hv2 => ?_, fun k o2 hk hv2 => ?_, fun _ => Nat.le_refl _⟩
      · simp only [List.getElem?_append] at hk
        split at hk
        · exact .inl ⟨k, c, hk⟩
        · cases hz : k - C.phi.length with
          | zero => rw [hz] at hk; simp at hk
          | succ m => rw [hz] at hk; simp at hk
      · have hpk : (C.phi ++ [none])[k]? = C.phi[k]? := by
          rw [List.getElem?_append, if_pos (by rw [hok.plen]; exact hk)]
        simp only [List.getElem?_append, List.length_set, hk, if_true, List.getElem?_set] at hv2
        split at hv2
        · rename_i hrk
          subst hrk
          simp at hv2
          obtain ⟨rfl, rfl, rfl⟩ := hv2
          exact ⟨vals, h, by simp, fun _ => hpk⟩
        · exact ⟨vals2, hv2, Nat.le_refl _, fun _ => hpk⟩
      · have hpk : (C.phi ++ [none])[k]? = C.phi[k]? := by
          rw [List.getElem?_append, if_pos (by rw [hok.plen]; exact hk)]
        simp only [List.getElem?_append, List.length_set, hk, if_true, List.getElem?_set] at hv2
        split at hv2
        · rename_i hrk
          subst hrk
          simp at hv2
        · exact ⟨o2, hv2, hpk⟩
    have hnewlen : (C.rows.set r (.live e' sz' (vals.set i (splice (vals.getD i []) off [.own C.rows.length 0 0 0]))) ++ [Row.live e sz []]).length = C.rows.length + 1 := by simp
    have newRep : ∀ ao, Rep ⟨C.rows.set r (.live e' sz' (vals.set i (splice (vals.getD i []) off [.own C.rows.length 0 0 0]))) ++ [.live e sz []], C.phi ++ [none], C.om, C.w, C.pm⟩ (.own C.rows.length 0 0 0) (.slice ao 0 0) := by
      intro ao
      rw [Rep]
      refine ⟨hok.pm, ⟨_, _, rfl⟩, by simp, fun e2 sz2 vals2 hv2 => ?_⟩
      simp at hv2
      obtain ⟨rfl, rfl, rfl⟩ := hv2
      exact ⟨by simp, fun _ => ⟨by simp, none, by simp [← hok.plen], ⟨_, rfl⟩, rfl, rfl⟩⟩
    refine ⟨⟨C.rows.set r (.live e' sz' (vals.set i (splice (vals.getD i []) off [.own C.rows.length 0 0 0]))) ++ [.live e sz []], C.phi ++ [none], C.om, C.w, C.pm⟩, rfl, rfl, ⟨⟨hok.pm, by simp [hok.plen], fun k row hk => ?_, fun k k' b c c' h1 h2 => ?_, hok.om⟩, hs.size, hs.defers, fun t => Rep.ext later.ext _ _ (hs.slots t)⟩, hl.trans later hl.len⟩
    · have hpk : k < C.rows.length → (C.phi ++ [none])[k]? = C.phi[k]? := fun hk => by rw [List.getElem?_append, if_pos (by rw [hok.plen]; exact hk)]
      by_cases hk1 : k < C.rows.length
      · simp only [List.getElem?_append, List.length_set, hk1, if_true, List.getElem?_set] at hk
        split at hk
        · rename_i hrk
          subst hrk
          simp only [Option.some.injEq] at hk
          subst hk
          rw [RowOk]
          rcases hok.live h with ⟨p1, rfl⟩ | ⟨b, cap, cs, p1, k1, k2, k3, k4, k5, k6⟩
          · simp at hi
          · refine ⟨some (b, cap), (hpk hk1).trans p1, k1, cs, k2, k3, k4, by simpa using k5, ?_⟩
            obtain ⟨vs, e1, e2⟩ := k6.elems
            have hmem : vals.getD i [] ∈ vals := by rw [List.getD_eq_getElem?_getD, List.getElem?_eq_getElem hi]; simp
            have hel := e1.szs _ hmem
            have e1' := e1.ext later.ext
            refine Elems.repE (vs := vs) ⟨fun x hx => ?_, ?_, e1.one⟩ e2
            · rcases List.mem_or_eq_of_mem_set hx with hx | rfl
              · exact e1.szs x hx
              · rw [splice_length (by simp only [List.length_singleton]; omega)]; exact hel
            · rw [flatten_set (sz := sz') [.own C.rows.length 0 0 0] off vals i e1.szs hi (by simp; omega)]
              -- the cell held the nil slice
              obtain ⟨c1, c2⟩ := k6.get i hi
              obtain ⟨v, g1, g2⟩ := c2.get off (by omega)
              rw [hv, Rep] at g2
              obtain ⟨ao, rfl⟩ := g2
              have hvl := e1.length
              have hil : (i + 1) * sz' ≤ vals.length * sz' := Nat.mul_le_mul_right _ (by omega)
              rw [Nat.add_mul] at hil
              have hlt : i * sz' + off < vs.length := by omega
              have hcell : vs[i * sz' + off]? = some (.slice ao 0 0) := by
                obtain ⟨u, hu⟩ : ∃ u, vs[i * sz' + off]? = some u := ⟨_, List.getElem?_eq_getElem hlt⟩
                have := e2 _ _ hu
                rw [Nat.zero_add] at this g1
                rw [g1] at this
                rw [hu]; exact this.symm
              have hsp : vs = vs.take (i * sz' + off) ++ [.slice ao 0 0] ++ vs.drop (i * sz' + off + 1) := by
                conv => lhs; rw [← List.take_append_drop (i * sz' + off) vs, List.drop_eq_getElem_cons hlt]
                rw [List.getElem?_eq_getElem hlt] at hcell
                simp at hcell
                rw [hcell]; simp
              rw [hsp]
              refine RepL.append (RepL.append ?_ ?_) ?_
              · exact e1'.rep.take _
              · rw [RepL]; exact ⟨_, [], rfl, newRep ao, by rw [RepL]⟩
              · exact e1'.rep.drop _
        · rename_i hne
          exact RowOk.move later.ext rfl (hpk hk1) (fun b c hb => rfl) (hok.rows k row hk)
      · have hk2 : k = C.rows.length := by
          have := (List.getElem?_eq_some_iff.1 hk).1
          rw [hnewlen] at this; omega
        subst hk2
        simp at hk
        subst hk
        rw [RowOk]
        exact ⟨none, by simp [← hok.plen], rfl⟩
    · have old : ∀ {k : Nat} {q : Nat × Nat}, (C.phi ++ [none])[k]? = some (some q) → C.phi[k]? = some (some q) := by
        intro k q hk
        simp only [List.getElem?_append] at hk
        split at hk
        · exact hk
        · cases hz : k - C.phi.length with
          | zero => rw [hz] at hk; simp at hk
          | succ m => rw [hz] at hk; simp at hk
      exact hok.inj k k' b c c' (old h1) (old h2)
  | @tr env rows srows sel vw h1 h2 hg =>
    intro C hr hs hl
    subst hr
    have hok := hs.ok
    have hc := callee_ok hok h1 hg
    obtain ⟨hsl, hget, hdead⟩ := getRows_spec hg
    have hext : Ext (calleeCtx C sel vw srows) { calleeCtx C sel vw srows with om := C.om } := Ext.om fun b hb => .inl hb
    refine ⟨{ calleeCtx C sel vw srows with om := C.om }, rfl, rfl, ⟨⟨rfl, hc.plen, fun i row hi => ?_, hc.inj, hok.om⟩, hs.size, hs.defers, fun t => ?_⟩, ?_⟩
    · have := hc.rows i row hi
      cases row with
      | dead => exact this
      | live e sz vals =>
        rw [RowOk] at this ⊢
        obtain ⟨p, p1, p2⟩ := this
        refine ⟨p, p1, ?_⟩
        cases p with
        | none => exact p2
        | some q =>
          obtain ⟨b, cap⟩ := q
          obtain ⟨k1, cs, k2, k3, k4, k5, k6⟩ := p2
          exact ⟨fun ho => k1 (.inl ho), cs, k2, k3, k4, k5, k6.move hext rfl⟩
      | obj o =>
        cases o with
        | map ag ks ents =>
          rw [RowOk] at this ⊢
          obtain ⟨b, c, es, h1, h2, h3, h4, h5, h6, h7⟩ := this
          exact ⟨b, c, es, h1, fun ho => h2 (.inl ho), h3, h4, RepL.ext hext _ _ h5, RepL.ext hext _ _ h6, h7⟩
        | iter n seen =>
          rw [RowOk] at this ⊢
          obtain ⟨b, bm, h1, h2, h3⟩ := this
          exact ⟨b, bm, h1, fun ho => h2 (.inl ho), h3⟩
    · rw [slot_map (bindV C.rows sel vw) (by simp [bindV])]
      exact Rep.ext hext _ _ (Rep.bind hok hg _ _ (hs.slots t))
    · have hstep : Later n0 C { calleeCtx C sel vw srows with om := C.om } := by
        refine ⟨rfl, rfl, rfl, Nat.le_refl _, fun _ _ _ => rfl, fun i b c hi => ?_, rfl, hok.pm.symm, by show n0 ≤ srows.length; rw [hsl]; exact h2.1, fun i e sz vals' hi hv => ?_, fun i o' hi hv => ?_, fun _ => Nat.le_refl _⟩
        · obtain ⟨r, _, hr⟩ := callee_phi_inv hok hg hi
          exact .inl ⟨r, c, hr⟩
        · rcases h2.2 i hi with hsi | hsi
          · obtain ⟨x, g1, g3⟩ := hget i i hsi
            have hv' : srows[i]? = some (.live e sz vals') := hv
            rw [g3] at hv'
            simp only [Option.some.injEq] at hv'
            obtain ⟨vals, rfl, rfl⟩ := bindRow_live hv'
            exact ⟨vals, g1, by rw [bindE_length]; exact Nat.le_refl _, fun _ => callee_phi hok hg hsi⟩
          · have hv' : srows[i]? = some (.live e sz vals') := hv
            rw [hdead i hsi] at hv'
            cases hv'
        · have hv' : srows[i]? = some (.obj o') := hv
          rcases h2.2 i hi with hsi | hsi
          · obtain ⟨x, g1, g3⟩ := hget i i hsi
            rw [g3] at hv'
            simp only [Option.some.injEq] at hv'
            obtain ⟨o, rfl⟩ := bindRow_obj hv'
            exact ⟨o, g1, callee_phi hok hg hsi⟩
          · rw [hdead i hsi] at hv'
            cases hv'
      exact hl.trans hstep (Nat.le_refl _)

/-- K holds behind some forgetting, renaming and adding -/
def Cl (n0 : Nat) (K : Env → List Row → Prop) (env : Env) (rows : List Row) : Prop := ∃ env' rows', Wk n0 env rows env' rows' ∧ K env' rows'

theorem Cl.here {n0 : Nat} {K : Env → List Row → Prop} {env : Env} {rows : List Row} (h : K env rows) : Cl n0 K env rows := ⟨env, rows, .refl _ _, h⟩

theorem Cl.step {n0 : Nat} {K : Env → List Row → Prop} {env env' : Env} {rows rows' : List Row} (w : Wk n0 env rows env' rows') (h : Cl n0 K env' rows') : Cl n0 K env rows := by
  obtain ⟨e, r, h1, h2⟩ := h
  exact ⟨e, r, w.trans h1, h2⟩

end Go.Abs
end
