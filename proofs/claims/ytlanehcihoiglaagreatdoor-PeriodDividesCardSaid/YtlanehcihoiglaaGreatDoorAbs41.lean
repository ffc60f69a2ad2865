/- An element put into its place: append, copy, store. -/
import Derived.Test.YtlanehcihoiglaaGreatDoorAbsMd
set_option linter.unusedSimpArgs false
set_option linter.unusedVariables false
set_option linter.unusedSectionVars false
namespace Go.Abs
variable [Glb]

/-- elements put over others -/
def overL {α : Type} (zs : List α) (off : Nat) (ys : List α) : List α := zs.take off ++ ys ++ zs.drop (off + ys.length)
theorem over_numsE {k : IntKind} {a b : List Int} {off : Nat} : over (numsE k a) off (numsE k b) = numsE k (overL a off b) := by
  simp [over, overL, numsE]
theorem over_els {α : Type} [Cel α] {a b : List α} {off : Nat} : over (els a) off (els b) = els (overL a off b) := by
  simp [over, overL, els]
attribute [go_sem] over_numsE over_els

theorem avcW_cut {P : Program} {n0 : Nat} {c : ACode} {K : Post} {env : Env} {rows : List Row} (R : Env → List Row → Prop) (h : avcW P n0 c ⟨R, K.x, K.r⟩ env rows) (hR : ∀ e r, R e r → K.n e r) : avcW P n0 c K env rows :=
  avcW_mono (K := ⟨R, K.x, K.r⟩) (K' := K) c hR (fun _ _ _ h => h) (fun _ _ h => h) h
/-- ways that meet behind a statement -/
theorem avcW_seq_cut {P : Program} {n0 : Nat} {a b : ACode} {K : Post} {env : Env} {rows : List Row} (R : Env → List Row → Prop) (h : avcW P n0 a ⟨R, K.x, K.r⟩ env rows) (hR : ∀ e r, R e r → Cl n0 (avcW P n0 b K) e r) : avcW P n0 (.seq a b) K env rows := by
  rw [avcW_seq]
  exact avcW_cut (K := ⟨Cl n0 (avcW P n0 b K), K.x, K.r⟩) R h hR
theorem avc_seq_cut {P : Program} {n0 : Nat} {a b : ACode} {K : Post} {env : Env} {rows : List Row} (R : Env → List Row → Prop) (h : avc P n0 a ⟨R, K.x, K.r⟩ env rows) (hR : ∀ e r, R e r → avc P n0 b K e r) : avc P n0 (.seq a b) K env rows := by
  rw [avc_seq]
  exact avc_cut (K := ⟨avc P n0 b K, K.x, K.r⟩) R h hR

/-- maps from numbers to numbers -/
def mapI (l : List (Int × Int)) : List (AVal × AVal) := l.map fun p => (.int .i64 p.1, .int .i64 p.2)
def look (l : List (Int × Int)) (k : Int) : Option Int := (l.find? fun p => k == p.1).map (·.2)
def putI (k v : Int) : List (Int × Int) → List (Int × Int)
  | [] => [(k, v)]
  | p :: ps => if k == p.1 then (k, v) :: ps else p :: putI k v ps
theorem mapI_clean : ∀ {l : List (Int × Int)}, cleanM (mapI l) = true
  | [] => _root_.id rfl
  | p :: l => by
    have := mapI_clean (l := l)
    simp only [cleanM, mapI, List.map_map, Bool.and_eq_true] at this ⊢
    simp only [List.map_cons, cleanL, Function.comp_apply, clean, Bool.true_and]
    exact this
theorem kfind_mapI {k : Int} : ∀ {l : List (Int × Int)}, kfind (.int .i64 k) (mapI l) = (look l k).map (.int .i64 ·)
  | [] => _root_.id rfl
  | p :: l => by
    have ih := kfind_mapI (k := k) (l := l)
    unfold mapI look at *
    rw [List.map_cons, kfind, List.find?_cons]
    have : isKey (.int .i64 k) (.int .i64 p.1) = (k == p.1) := by simp [isKey, acells, eqCells]
    simp only [this]
    cases hk : k == p.1
    · simpa using ih
    · rfl
theorem kput_mapI {k v : Int} : ∀ {l : List (Int × Int)}, kput (.int .i64 k) (.int .i64 v) (mapI l) = mapI (putI k v l)
  | [] => _root_.id rfl
  | p :: l => by
    have ih := kput_mapI (k := k) (v := v) (l := l)
    unfold mapI at *
    rw [List.map_cons, kput, putI]
    have : isKey (.int .i64 k) (.int .i64 p.1) = (k == p.1) := by simp [isKey, acells, eqCells]
    simp only [this]
    cases hk : k == p.1
    · simp only [Bool.false_eq_true, if_false, List.map_cons, ih]
    · rfl
attribute [go_sem] Option.isSome_some Option.isSome_none Option.getD_some Option.getD_none mapI_clean kfind_mapI kput_mapI

end Go.Abs
