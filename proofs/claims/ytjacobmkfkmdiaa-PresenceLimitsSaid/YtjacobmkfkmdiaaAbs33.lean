/- Arguments of whatever plain type (numbers, bools, strings, structs, slices of these) as values that never change. -/
import Derived.Test.YtjacobmkfkmdiaaAbs32
import Derived.Deep.Slices
import Derived.ChangeArms
import Derived.ChangeOld
set_option linter.unusedSimpArgs false
set_option linter.unusedVariables false
set_option linter.unusedSectionVars false
namespace Go.Abs
open Go.Deep

/-- fields that lie one behind the other -/
def tiledB (P : Program) (total : Nat) : List Field → Nat → Bool
  | [], off => off == total
  | f :: fs, off => f.offset == off && tiledB P total fs (off + P.cellsOf f.type)

/-- plain types -/
def suppB (P : Program) : Nat → TypeId → Bool
  | 0, _ => false
  | m + 1, t =>
    match P.underlying t with
    | some .bool => true
    | some (.int _) => true
    | some .string => true
    | some (.slice e) => decide (0 < P.cellsOf e) && suppB P m e
    | some (.struct fs) => tiledB P (P.cellsOf t) fs.toList 0 && fs.toList.all fun f => suppB P m f.type
    | _ => false

/-- the cells of a value of a plain type -/
def Got (P : Program) : Nat → TypeId → List AVal → Prop
  | 0, _, _ => False
  | m + 1, t, as =>
    match P.underlying t with
    | some .bool => ∃ b, as = [.bool b]
    | some (.int k) => ∃ n, as = [.int k n] ∧ k.min ≤ n ∧ n ≤ k.max
    | some .string => ∃ s, as = [.str s] ∧ s.size ≤ maxLen
    | some (.slice e) => ∃ vals, as = [.pure (P.cellsOf e) vals] ∧ vals.length ≤ maxLen ∧ ∀ v ∈ vals, v.length = P.cellsOf e ∧ Got P m e v
    | some (.struct fs) => as.length = P.cellsOf t ∧ ∀ f ∈ fs.toList, Got P m f.type ((as.drop f.offset).take (P.cellsOf f.type))
    | _ => False

theorem tiled_le {P : Program} {total : Nat} : ∀ {fs : List Field} {off : Nat}, tiledB P total fs off = true → off ≤ total ∧ ∀ f ∈ fs, off ≤ f.offset
  | [], off, h => by simp [tiledB] at h; exact ⟨by omega, by simp⟩
  | f :: fs, off, h => by
    simp only [tiledB, Bool.and_eq_true, beq_iff_eq] at h
    obtain ⟨h1, h2⟩ := tiled_le h.2
    refine ⟨by omega, fun g hg => ?_⟩
    rcases List.mem_cons.1 hg with rfl | hg
    · omega
    · have := h2 g hg; omega

theorem tile_build {P : Program} {C : Ctx} {total : Nat} {cs : List Value} {G : Field → List AVal → Prop} (hl : cs.length = total) : ∀ (fs : List Field) (off : Nat), tiledB P total fs off = true →
    (∀ f ∈ fs, ∃ as, RepL C as ((cs.drop f.offset).take (P.cellsOf f.type)) ∧ G f as ∧ allOne ((cs.drop f.offset).take (P.cellsOf f.type))) →
    ∃ as, RepL C as (cs.drop off) ∧ allOne (cs.drop off) ∧ ∀ f ∈ fs, G f ((as.drop (f.offset - off)).take (P.cellsOf f.type))
  | [], off, h, _ => by
    simp [tiledB] at h
    rw [List.drop_of_length_le (by omega)]
    exact ⟨[], by rw [RepL], by intro v hv; simp at hv, by simp⟩
  | f :: fs, off, h, hf => by
    have hle := tiled_le h
    simp only [tiledB, Bool.and_eq_true, beq_iff_eq] at h
    obtain ⟨ho, ht⟩ := h
    have hle2 := tiled_le ht
    obtain ⟨as1, a1, a2, a3⟩ := hf f (by simp)
    obtain ⟨as2, b1, b2, b3⟩ := tile_build hl fs _ ht fun g hg => hf g (by simp [hg])
    have hl1 : as1.length = P.cellsOf f.type := by
      have := a1.length
      simp only [List.length_take, List.length_drop] at this
      omega
    have hcs : cs.drop off = (cs.drop f.offset).take (P.cellsOf f.type) ++ cs.drop (off + P.cellsOf f.type) := by
      rw [ho, ← List.drop_drop, List.take_append_drop]
    refine ⟨as1 ++ as2, by rw [hcs]; exact a1.append b1, ?_, fun g hg => ?_⟩
    · rw [hcs]
      intro v hv
      rcases List.mem_append.1 hv with hv | hv
      · exact a3 v hv
      · exact b2 v hv
    · by_cases hgf : g ∈ fs
      · have h1 := hle2.2 g hgf
        have := b3 g hgf
        rw [List.drop_append, List.drop_of_length_le (by omega), List.nil_append, hl1, show g.offset - off - P.cellsOf f.type = g.offset - (off + P.cellsOf f.type) from by omega]
        exact this
      · rcases List.mem_cons.1 hg with rfl | hg
        · rw [ho, Nat.sub_self, List.drop_zero, List.take_append_of_le_length (by omega), List.take_of_length_le (by omega)]
          exact a2
        · exact (hgf hg).elim

section
variable {H : Type} {enc : TypeId × Value → H} {P : Program} {w : World} {base : Nat} {spare : Nat → Bool} {held : Bool}

theorem repE_of {C : Ctx} {b sz : Nat} : ∀ (vals : List (List AVal)) (o : Nat), (∀ (i : Nat) (v : List AVal), vals[i]? = some v → v.length = sz ∧ RepC C b (o + i * sz) v) → RepE C b o sz vals
  | [], o, _ => by simp [RepE]
  | v :: vals, o, h => by
    rw [RepE]
    obtain ⟨h1, h2⟩ := h 0 v (by simp)
    refine ⟨h1, by simpa using h2, repE_of vals (o + sz) fun i u hu => ?_⟩
    have := h (i + 1) u (by simpa using hu)
    rw [show o + sz + i * sz = o + (i + 1) * sz from by rw [Nat.add_mul]; omega]
    exact this

theorem got_of : ∀ (m : Nat) (t : TypeId) (fuel : Nat) (cs : List Value) (x : DataW H × List MemPlace), suppB P m t = true → DataW.trod enc P w base spare held fuel t cs = some x →
    ∃ as, RepL (ctx0 w).p as cs ∧ Got P m t as ∧ allOne cs
  | 0, t, fuel, cs, x, hs, _ => by simp [suppB] at hs
  | m + 1, t, 0, cs, x, _, h => by simp [DataW.trod] at h
  | m + 1, t, fuel + 1, cs, x, hs, h => by
    unfold suppB at hs
    have one1 : ∀ v : Value, v.oneCell' = true → allOne [v] := by intro v hv u hu; simp at hu; subst hu; exact hv
    split at hs
    · rename_i hu
      unfold DataW.trod at h
      rw [hu] at h
      split at h <;> simp_all
      rename_i b
      refine ⟨[.bool b], ?_, ?_, one1 _ (_root_.id rfl)⟩
      · rw [RepL]; exact ⟨_, [], _root_.id rfl, by rw [Rep], by rw [RepL]⟩
      · rw [Got, hu]; exact ⟨b, _root_.id rfl⟩
    · rename_i k hu
      unfold DataW.trod at h
      rw [hu] at h
      split at h <;> simp_all
      rename_i k' n hk
      obtain ⟨⟨rfl, hwf⟩, _⟩ := h
      refine ⟨[.int k' n], ?_, ?_, one1 _ (_root_.id rfl)⟩
      · rw [RepL]; exact ⟨_, [], _root_.id rfl, by rw [Rep], by rw [RepL]⟩
      · rw [Got, hu]; exact ⟨n, _root_.id rfl, by simpa [Lit.wf] using hwf⟩
    · rename_i hu
      unfold DataW.trod at h
      rw [hu] at h
      split at h <;> simp_all
      rename_i s
      refine ⟨[.str s], ?_, ?_, one1 _ (_root_.id rfl)⟩
      · rw [RepL]; exact ⟨_, [], _root_.id rfl, by rw [Rep], by rw [RepL]⟩
      · rw [Got, hu]; exact ⟨s, _root_.id rfl, by exact h.1⟩
    · rename_i e hu
      simp only [Bool.and_eq_true, decide_eq_true_eq] at hs
      rcases open_slice hu h with ⟨rfl, _⟩ | ⟨a, len, cap, mm, n, D, Pl, rfl, hb, hl, hm, hmm, rfl, hx⟩
      · refine ⟨[.pure (P.cellsOf e) []], ?_, ?_, one1 _ (_root_.id rfl)⟩
        · rw [RepL]; exact ⟨_, [], _root_.id rfl, by rw [Rep]; exact ⟨none, 0, by simp, by simp, .inl (by simp)⟩, by rw [RepL]⟩
        · rw [Got, hu]; exact ⟨[], _root_.id rfl, by simp, by simp⟩
      · have hlm : len ≤ mm := by rw [hmm]; split <;> omega
        have key : ∀ i, i < len → ∃ cs' as, w.cells? base (a.add (i * P.cellsOf e)) (P.cellsOf e) = some cs' ∧ RepL (ctx0 w).p as cs' ∧ Got P m e as ∧ allOne cs' := by
          intro i hi
          obtain ⟨cs', h1, h2⟩ := hx i (by omega)
          obtain ⟨as, g1, g2, g3⟩ := got_of m e n cs' _ hs.2 h2
          exact ⟨cs', as, h1, g1, g2, g3⟩
        -- the elements as a list
        have build : ∀ k, k ≤ len → ∃ vals : List (List AVal), vals.length = k ∧ ∀ (i : Nat) (v : List AVal), vals[i]? = some v → ∃ cs', w.cells? base (a.add (i * P.cellsOf e)) (P.cellsOf e) = some cs' ∧ RepL (ctx0 w).p v cs' ∧ Got P m e v ∧ allOne cs' := by
          intro k
          induction k with
          | zero => intro _; exact ⟨[], _root_.id rfl, fun i v hv => by simp at hv⟩
          | succ k ih =>
            intro hk
            obtain ⟨vals, h1, h2⟩ := ih (by omega)
            obtain ⟨cs', as, g1, g2, g3, g4⟩ := key k (by omega)
            refine ⟨vals ++ [as], by simp [h1], fun i v hv => ?_⟩
            rw [List.getElem?_append] at hv
            split at hv
            · exact h2 i v hv
            · rename_i hlt
              have : i = k := by
                rcases Nat.eq_or_lt_of_le (Nat.le_of_not_lt hlt) with h | h
                · omega
                · rw [List.getElem?_eq_none (by simp; omega)] at hv; cases hv
              subst this
              rw [h1, Nat.sub_self] at hv
              simp at hv
              subst hv
              exact ⟨cs', g1, g2, g3, g4⟩
        obtain ⟨vals, v1, v2⟩ := build len (Nat.le_refl _)
        have clen : ∀ {i : Nat} {cs' : List Value}, w.cells? base (a.add (i * P.cellsOf e)) (P.cellsOf e) = some cs' → cs'.length = P.cellsOf e ∧ ∀ j, j < P.cellsOf e → w.cell? ((a.add (i * P.cellsOf e)).add j) = cs'[j]? := by
          intro i cs' h
          have := World.cells?_some h
          exact ⟨this.2.1, this.2.2⟩
        refine ⟨[.pure (P.cellsOf e) vals], ?_, ?_, one1 _ (_root_.id rfl)⟩
        · rw [RepL]
          refine ⟨_, [], _root_.id rfl, ?_, by rw [RepL]⟩
          rw [Rep]
          refine ⟨some a, cap, by rw [v1], by omega, ?_⟩
          by_cases h0 : len = 0
          · exact .inl (by omega)
          · right
            obtain ⟨b, o, spot⟩ := a
            -- the first cell
            obtain ⟨as0, has0⟩ : ∃ v, vals[0]? = some v := ⟨_, List.getElem?_eq_getElem (by omega)⟩
            obtain ⟨cs0, c1, c2, c3, c4⟩ := v2 0 as0 has0
            obtain ⟨d1, d2⟩ := clen c1
            have hc0 := d2 0 hs.1
            rw [List.getElem?_eq_getElem (by omega)] at hc0
            have hspot : spot = none := by simpa [Addr.add] using World.cell?_spot hc0
            subst hspot
            have hadd : ∀ i j, ((⟨b, o, none⟩ : Addr).add i).add j = ⟨b, o + i + j, none⟩ := by
              intro i j
              have ap := Go.WideShapes.add_plain
              rw [ap, ap]
            rw [hadd] at hc0
            refine ⟨b, o, _root_.id rfl, ⟨World.block_lt_of_cell? w _ hc0, fun h => h, fun r c hr => by simp [ctx0, Ctx.p] at hr⟩, repE_of vals o fun i v hv => ?_⟩
            obtain ⟨cs', e1, e2, e3, e4⟩ := v2 i v hv
            obtain ⟨f1, f2⟩ := clen e1
            refine ⟨by rw [← e2.length, f1], RepC_iff.2 ⟨cs', e2, fun j u hj => ?_, e4⟩⟩
            have hjl : j < P.cellsOf e := by
              rw [← f1]
              exact (List.getElem?_eq_some_iff.1 hj).1
            have := f2 j hjl
            rw [hadd, hj] at this
            exact this
        · rw [Got, hu]
          refine ⟨vals, _root_.id rfl, by omega, fun v hv => ?_⟩
          obtain ⟨i, hi⟩ := List.getElem?_of_mem hv
          obtain ⟨cs', e1, e2, e3, e4⟩ := v2 i v hi
          exact ⟨by rw [← e2.length, (clen e1).1], e3⟩
    · rename_i fs hu
      simp only [Bool.and_eq_true, List.all_eq_true] at hs
      obtain ⟨xs, n, hfu, _, hl, hxl, hfx⟩ := DataW.trod_struct hu h
      obtain ⟨as, t1, t2, t3⟩ := tile_build (P := P) (C := (ctx0 w).p) (cs := cs) (G := fun f as => Got P m f.type as) hl fs.toList 0 hs.1 fun f hf => by
        obtain ⟨i, hi⟩ := List.getElem?_of_mem hf
        have hfi := hfx i f (by simpa using hi)
        have hix : i < xs.length := by
          rw [hxl]
          have := (List.getElem?_eq_some_iff.1 hi).1
          simpa using this
        rw [List.getElem?_eq_getElem hix] at hfi
        obtain ⟨as, g1, g2, g3⟩ := got_of m f.type n _ _ (hs.2 f hf) hfi
        exact ⟨as, g1, g2, g3⟩
      rw [List.drop_zero] at t1 t2
      refine ⟨as, t1, ?_, t2⟩
      rw [Got, hu]
      refine ⟨by rw [← t1.length, hl], fun f hf => ?_⟩
      simpa using t3 f hf
    · cases hs
end

end Go.Abs
