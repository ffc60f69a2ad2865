/- Regions that draw their order: two operations whose order is open. -/
import Derived.Test.YtjacobmkfkmdiaaAbs19
set_option linter.unusedSimpArgs false
set_option linter.unusedVariables false
set_option linter.unusedSectionVars false
namespace Go.Abs

def Eff.stay : Eff → Bool
  | .push _ => false
  | _ => true

theorem ap_swap {a b : Eff} {rows : List Row} (ha : a.stay = true) (h1 : ∀ k y, a = .set k y → k < rows.length) (h2 : ∀ k y r x, a = .set k y → b = .set r x → k ≠ r) : a.ap (b.ap rows) = b.ap (a.ap rows) := by
  cases a with
  | none => rfl
  | push => cases ha
  | set k y =>
    have hk := h1 k y rfl
    cases b with
    | none => rfl
    | push x => simp only [Eff.ap]; rw [List.set_append, if_pos hk]
    | set r x => simp only [Eff.ap]; rw [List.set_comm]; exact fun e => h2 k y r x rfl rfl e.symm

theorem ap_get {a : Eff} {rows : List Row} {r : Nat} (hr : r < rows.length) (h : ∀ k y, a = .set k y → k ≠ r) : (a.ap rows)[r]? = rows[r]? := by
  cases a with
  | none => rfl
  | push x => simp only [Eff.ap]; rw [List.getElem?_append, if_pos hr]
  | set k y => simp only [Eff.ap]; rw [List.getElem?_set, if_neg (h k y rfl)]

theorem ap_len {a : Eff} {rows : List Row} (h : a.stay = true) : (a.ap rows).length = rows.length := by
  cases a with
  | none => rfl
  | push => cases h
  | set k y => simp [Eff.ap]

theorem det_swap {W R : List Nat} {b : Bool} {F : List Row → (AVal → List Row → Prop) → Prop} (h : Det W R b F) {a : Eff} {rows : List Row} {R0 : List Nat} (ha : a.stay = true)
    (hk : ∀ k y, a = .set k y → k < rows.length ∧ k ∉ W ∧ k ∉ R) (hR : ∀ r ∈ R0, r < rows.length ∧ r ∉ W) {K : AVal → List Row → Prop} (hf : F (a.ap rows) K) :
    F rows (fun v rows' => (∀ r ∈ R0, rows'[r]? = rows[r]?) ∧ K v (a.ap rows')) := by
  obtain ⟨v, e, h1, h2, h3, h4, h5⟩ := h _ _ hf
  refine h5 rows _ (fun x _ => (ap_len ha).symm) (fun r hr => ?_) ⟨fun r hr => ?_, ?_⟩
  · have := h4 r hr
    rw [ap_len ha] at this
    refine (ap_get this fun k y he hkr => ?_).symm
    subst hkr
    obtain ⟨_, g1, g2⟩ := hk k y he
    rcases hr with hr | hr
    · exact g1 hr
    · exact g2 hr
  · exact ap_get (hR r hr).1 fun k y he hkr => by subst hkr; exact (hR k hr).2 (h3 k y he)
  · rw [ap_swap ha (fun k y he => (hk k y he).1) (fun k y r x he he' hkr => ?_)]
    · exact h1
    · subst hkr; exact (hk k y he).2.1 (h3 k x he')

mutual
theorem bindV_set {rows : List Row} {k : Nat} {y : Row} (sel : List (Option Nat)) {vw : List Nat} (hk : k ∉ vw) : ∀ (v : AVal), bindV (rows.set k y) sel vw v = bindV rows sel vw v
  | .int .. | .bool _ | .str _ | .nils | .pure .. | .pref .. | .nilp | .junk => by simp [bindV]
  | .agg cs => by rw [bindV, bindV, bindL_set sel hk cs]
  | .tup cs => by rw [bindV, bindV, bindL_set sel hk cs]
  | .own r n off len => by
    rw [bindV, bindV]
    split
    · rfl
    · split
      · rename_i hc
        have : k ≠ r := fun e => hk (by subst e; simpa using hc)
        rw [List.getElem?_set_ne this]
      · rfl
  | .ref r n i off => by
    rw [bindV, bindV]
    split
    · rfl
    · split
      · rename_i hc
        have : k ≠ r := fun e => hk (by subst e; simpa using hc)
        rw [List.getElem?_set_ne this]
      · rfl
theorem bindL_set {rows : List Row} {k : Nat} {y : Row} (sel : List (Option Nat)) {vw : List Nat} (hk : k ∉ vw) : ∀ (vs : List AVal), bindL (rows.set k y) sel vw vs = bindL rows sel vw vs
  | [] => by simp [bindL]
  | v :: vs => by rw [bindL, bindL, bindV_set sel hk v, bindL_set sel hk vs]
end

theorem bindRow_set {rows : List Row} {k : Nat} {y : Row} (sel : List (Option Nat)) {vw : List Nat} (hk : k ∉ vw) (x : Row) : bindRow (rows.set k y) sel vw x = bindRow rows sel vw x := by
  cases x with
  | dead => rfl
  | live e sz vals =>
    simp only [bindRow, bindE]
    have : (bindL (rows.set k y) sel vw) = bindL rows sel vw := funext fun vs => bindL_set sel hk vs
    rw [this]

theorem getRows_set {rows : List Row} {k : Nat} {y : Row} (all : List (Option Nat)) {vw : List Nat} (hk : k ∉ vw) : ∀ (sel : List (Option Nat)), some k ∉ sel → getRows (rows.set k y) vw all sel = getRows rows vw all sel
  | [], _ => rfl
  | none :: rs, h => by rw [getRows, getRows, getRows_set all hk rs (fun hm => h (by simp [hm]))]
  | some r :: rs, h => by
    have hne : k ≠ r := fun e => h (by simp [e])
    rw [getRows, getRows, getRows_set all hk rs (fun hm => h (by simp [hm])), List.getElem?_set_ne hne]
    split
    · rename_i x ys h1 h2; simp only [bindRow_set all hk]
    · rfl

theorem mergeR_set {α : Type} : ∀ (sel : List Nat) (xs ys : List α) (k : Nat) (y : α), k < xs.length → k ∉ sel → mergeR (xs.set k y) sel ys = (mergeR xs sel ys).set k y
  | [], xs, ys, k, y, hk, _ => by rw [mergeR, mergeR, List.set_append, if_pos hk]
  | r :: sel, xs, [], k, y, _, _ => by rw [mergeR, mergeR]
  | r :: sel, xs, y' :: ys, k, y, hk, hn => by
    simp at hn
    rw [mergeR, mergeR, List.set_comm _ _ hn.1, mergeR_set sel (xs.set r y') ys k y (by simpa using hk) hn.2]

theorem callT_swap {P : Program} {f : FuncId} {args : List AVal} {un : List Nat} {tk tk1 : Tk} {a : Eff} {rows : List Row} {R0 : List Nat} {i : Nat} (hi : i ∈ un) (ht : ∀ e ∈ tk, e ∈ tk1) (ha : a.stay = true)
    (hk : ∀ k y, a = .set k y → k < rows.length ∧ (i, k, true) ∈ tk1) (hR : ∀ r ∈ R0, r < rows.length ∧ ∃ w, (i, r, w) ∈ tk1) {K : AVal → List Row → Prop} (hf : callT P f args un tk1 (a.ap rows) K) :
    callT P f args un tk rows (fun v rows' => (∀ r ∈ R0, rows'[r]? = rows[r]?) ∧ K v (a.ap rows')) := by
  obtain ⟨sel, vw, srows, h1, h2, h3, h4⟩ := hf
  have hR' : ∀ r ∈ R0, r < rows.length ∧ r ∉ sel := fun r hr => by
    obtain ⟨g1, w, g2⟩ := hR r hr
    exact ⟨g1, (h1 i r w g2 hi).1⟩
  refine ⟨sel, vw, srows, fun j r w hm hj => h1 j r w (ht _ hm) hj, h2, ?_, ?_⟩
  · cases a with
    | none => exact h3
    | push => cases ha
    | set k y =>
      obtain ⟨g1, g2⟩ := hk k y rfl
      have g3 := h1 i k true g2 hi
      simp only [Eff.ap] at h3
      rw [getRows_set _ (g3.2 rfl) _ (by simpa using g3.1)] at h3
      exact h3
  · cases a with
    | none =>
      refine h4.mono fun v rs ⟨q1, q2⟩ => ⟨q1, fun r hr => ?_, q2⟩
      exact mergeR_other _ _ _ _ (hR' r hr).1 (hR' r hr).2
    | push => cases ha
    | set k y =>
      obtain ⟨g1, g2⟩ := hk k y rfl
      have g3 := h1 i k true g2 hi
      simp only [Eff.ap] at h4
      rw [bindL_set _ (g3.2 rfl), List.length_set] at h4
      refine h4.mono fun v rs ⟨q1, q2⟩ => ⟨q1, fun r hr => mergeR_other _ _ _ _ (hR' r hr).1 (hR' r hr).2, ?_⟩
      rw [mergeR_set _ _ _ _ _ g1 g3.1] at q2
      exact q2

/-! slots -/

def looks (o : IOp) : List Nat := (o.args.filterMap fun | .t s => some s | .c _ => none) ++ (match o.guard with | some (s, _) => [s] | none => [])

structure Apart (x y : IOp) : Prop where
  xy : ∀ d, x.dst = some d → d ∉ looks y
  yx : ∀ d, y.dst = some d → d ∉ looks x
  ne : ∀ d, x.dst = some d → y.dst ≠ some d

theorem upd_other {ρ : Rho} {d : Option Nat} {v : AVal} {t : Nat} (h : d ≠ some t) : upd ρ d v t = ρ t := by
  cases d with
  | none => rfl
  | some d => simp only [upd]; rw [if_neg (fun e => h (by rw [e]))]

theorem upd_comm {ρ : Rho} {d e : Option Nat} {u v : AVal} (h : ∀ x, d = some x → e ≠ some x) : upd (upd ρ d u) e v = upd (upd ρ e v) d u := by
  cases d with
  | none => rfl
  | some d =>
    cases e with
    | none => rfl
    | some e =>
      funext t
      have := h d rfl
      simp only [ne_eq, Option.some.injEq] at this
      simp only [upd]
      by_cases h1 : e = t <;> by_cases h2 : d = t <;> simp [h1, h2]
      subst h1; subst h2; exact absurd rfl this

theorem args_upd {o : IOp} {ρ : Rho} {d : Option Nat} {v : AVal} (h : ∀ x, d = some x → x ∉ looks o) : o.args.map (Opd.evF (upd ρ d v)) = o.args.map (Opd.evF ρ) := by
  refine List.map_congr_left fun x hx => ?_
  cases x with
  | c v => rfl
  | t s =>
    refine upd_other fun e => h s e ?_
    exact List.mem_append_left _ (List.mem_filterMap.2 ⟨.t s, hx, rfl⟩)

theorem lets_upd {o : IOp} {ρ : Rho} {d : Option Nat} {v : AVal} (h : ∀ x, d = some x → x ∉ looks o) : lets o.guard (upd ρ d v) = lets o.guard ρ := by
  unfold lets
  cases hg : o.guard with
  | none => rfl
  | some g =>
    obtain ⟨s, want⟩ := g
    simp only
    rw [upd_other fun e => h s e (by simp [looks, hg])]

section
variable {P : Program} {base : Nat}

/-- an operation behind another one, put before it -/
theorem step_swap {dj : DOp} {i : Nat} (hi : i ∈ dj.un) {tk tk1 : Tk} (ht : ∀ e ∈ tk, e ∈ tk1) {a : Eff} (ha : a.stay = true) {rows : List Row} {R0 : List Nat}
    (hk : ∀ k y, a = .set k y → k < rows.length ∧ (i, k, true) ∈ tk1) (hR : ∀ r ∈ R0, r < rows.length ∧ ∃ w, (i, r, w) ∈ tk1) {d : Option Nat} {v : AVal} {ρ : Rho}
    (h1 : ∀ x, d = some x → x ∉ looks dj.io) (h2 : ∀ x, d = some x → dj.io.dst ≠ some x) {K : Rho → List Row → Prop} (hs : stepT P base dj tk1 (upd ρ d v) (a.ap rows) K) :
    stepT P base dj tk ρ rows (fun ρ1 rows1 => (∃ u, ρ1 = upd ρ dj.io.dst u) ∧ (∀ r ∈ R0, rows1[r]? = rows[r]?) ∧ K (upd ρ1 d v) (a.ap rows1)) := by
  have okmono : ∀ {un : List Nat} {W R : List Nat}, okTk un tk1 W R → okTk un tk W R := fun h j r w hm hj => h j r w (ht _ hm) hj
  have swap : ∀ {W R : List Nat} {b : Bool} {F : List Row → (AVal → List Row → Prop) → Prop}, Det W R b F → okTk dj.un tk1 W R → F (a.ap rows) (fun u rows' => K (upd (upd ρ d v) dj.io.dst u) rows') →
      F rows (fun u rows' => (∃ u', upd ρ dj.io.dst u = upd ρ dj.io.dst u') ∧ (∀ r ∈ R0, rows'[r]? = rows[r]?) ∧ K (upd (upd ρ dj.io.dst u) d v) (a.ap rows')) := by
    intro W R b F hd hok hf
    have := det_swap hd (R0 := R0) ha (fun k y he => ?_) (fun r hr => ?_) hf
    · obtain ⟨u, e, g1, _, _, _, g5⟩ := hd _ _ this
      refine g5 rows _ (fun _ _ => rfl) (fun _ _ => rfl) ⟨⟨u, rfl⟩, g1.1, ?_⟩
      rw [upd_comm fun x hx hx' => h2 x hx' hx]
      exact g1.2
    · obtain ⟨g1, g2⟩ := hk k y he
      have := hok i k true g2 hi
      exact ⟨g1, this.1, this.2 rfl⟩
    · obtain ⟨g1, w, g2⟩ := hR r hr
      exact ⟨g1, (hok i r w g2 hi).1⟩
  unfold stepT at hs ⊢
  rw [lets_upd h1] at hs
  split
  · rename_i hl
    rw [hl] at hs
    simp only at hs
    unfold runT at hs ⊢
    rw [args_upd h1] at hs
    split
    · rename_i q hq
      rw [hq] at hs
      simp only at hs
      exact ⟨okmono hs.1, swap (evR_det _ _ _) hs.1 hs.2⟩
    · rename_i hq
      rw [hq] at hs
      simp only at hs
      split
      · rename_i f hop
        rw [hop] at hs
        simp only at hs
        have := callT_swap (R0 := R0) hi ht ha hk hR hs
        obtain ⟨sel, vw, srows, g1, g2, g3, g4⟩ := this
        refine ⟨sel, vw, srows, g1, g2, g3, g4.mono fun u rs ⟨q1, q2, q3⟩ => ⟨q1, ⟨_, rfl⟩, q2, ?_⟩⟩
        rw [upd_comm fun x hx hx' => h2 x hx' hx]
        exact q3
      · rename_i op hop
        split at hs
        · rename_i f hf; exact absurd hf (hop f)
        · exact ⟨okmono hs.1, swap (ev_det _ _) hs.1 hs.2⟩
  · rename_i hl
    rw [hl] at hs
    simp only at hs
    refine ⟨⟨_, rfl⟩, fun r hr => rfl, ?_⟩
    rw [upd_comm fun x hx hx' => h2 x hx' hx]
    exact hs
  · rename_i hl
    rw [hl] at hs
    exact hs

/-- an operation that may be taken first -/
def DOp.easy (d : DOp) : Bool := d.res.isSome || !isE d.io.op

theorem commute {di dj : DOp} {i : Nat} (he : di.easy = true) (hap : Apart di.io dj.io) (hi : i ∈ dj.un) {tk : Tk} {ρ : Rho} {rows : List Row} {K : Rho → List Row → Prop}
    (h : stepT P base di tk ρ rows (fun ρ1 rows1 => stepT P base dj (ext base i di ρ tk) ρ1 rows1 K)) :
    stepT P base dj tk ρ rows (fun ρ1 rows1 => ext base i di ρ1 tk = ext base i di ρ tk ∧ stepT P base di tk ρ1 rows1 K) := by
  have hsame : ∀ u, ext base i di (upd ρ dj.io.dst u) tk = ext base i di ρ tk := fun u => by
    unfold ext
    rw [lets_upd hap.yx, args_upd hap.yx]
  have mono : ∀ {K K' : Rho → List Row → Prop}, stepT P base dj tk ρ rows K → (∀ ρ1 rows1, K ρ1 rows1 → K' ρ1 rows1) → stepT P base dj tk ρ rows K' := fun h hk => step_mono (fun _ h => h) h hk
  unfold stepT at h
  split at h
  · rename_i hl
    unfold runT at h
    split at h
    · rename_i q hq
      obtain ⟨h1, h2⟩ := h
      have hext : ext base i di ρ tk = (i, base + q, true) :: tk := by simp [ext, hl, hq]
      obtain ⟨v, y0, g1, g4, g5⟩ := evR_out h2
      rw [hext] at g1
      have := step_swap (tk := tk) (a := .set (base + q) y0) (R0 := [base + q]) hi (fun e hm => List.mem_cons_of_mem _ hm) rfl (fun k y he => ?_) (fun r hr => ?_) hap.xy hap.ne g1
      · refine mono this fun ρ1 rows1 ⟨⟨u, hu⟩, q2, q3⟩ => ?_
        subst hu
        refine ⟨hsame u, ?_⟩
        simp only [stepT, lets_upd hap.yx, hl, runT, hq, args_upd hap.yx]
        exact ⟨h1, g5 rows1 _ (q2 _ (by simp)) q3⟩
      · cases he
        exact ⟨g4, by simp⟩
      · simp at hr; subst hr
        exact ⟨g4, true, by simp⟩
    · rename_i hq
      have hnE : isE di.io.op = false := by simpa [DOp.easy, hq] using he
      split at h
      · rename_i f hop; rw [hop] at hnE; simp [isE] at hnE
      · rename_i op hop
        obtain ⟨h1, h2⟩ := h
        have hext : ext base i di ρ tk = (tR di.io.op (di.io.args.map (Opd.evF ρ))).map (fun r => (i, r, false)) ++ tk := by simp [ext, hl, hq, hnE]
        obtain ⟨v, a, g1, g2, g3, g4, g5⟩ := ev_det _ _ _ _ h2
        have ha : a = .none := g2 (by rw [hnE]; rfl)
        subst ha
        rw [hext] at g1
        have := step_swap (tk := tk) (R0 := tR di.io.op (di.io.args.map (Opd.evF ρ))) hi (fun e hm => List.mem_append_right _ hm) rfl (fun k y he => (by cases he)) (fun r hr => ⟨g4 r (.inr hr), false, List.mem_append_left _ (List.mem_map.2 ⟨r, hr, rfl⟩)⟩) hap.xy hap.ne g1
        refine mono this fun ρ1 rows1 ⟨⟨u, hu⟩, q2, q3⟩ => ?_
        subst hu
        refine ⟨hsame u, ?_⟩
        have hW := tW_easy (args := di.io.args.map (Opd.evF ρ)) hnE
        simp only [stepT, lets_upd hap.yx, hl, runT, hq, args_upd hap.yx]
        refine ⟨h1, g5 rows1 _ (fun x hx => (by cases hx)) (fun r hr => ?_) q3⟩
        rcases hr with hr | hr
        · rw [hW] at hr; simp at hr
        · exact q2 r hr
  · rename_i hl
    have hext : ext base i di ρ tk = tk := by simp [ext, hl]
    rw [hext] at h
    have := step_swap (tk := tk) (a := .none) (R0 := []) hi (fun e hm => hm) rfl (fun k y he => (by cases he)) (fun r hr => (by simp at hr)) hap.xy hap.ne h
    refine mono this fun ρ1 rows1 ⟨⟨u, hu⟩, q2, q3⟩ => ?_
    subst hu
    refine ⟨hsame u, ?_⟩
    simp only [stepT, lets_upd hap.yx, hl]
    exact q3
  · exact h.elim

end
end Go.Abs
