/- Contracts under forgetting and freezing: a function whose argument never changes may be given an owned row, which is then unchangeable. -/
import Derived.Test.YtjacobmkfkmdiaaAbs36
set_option linter.unusedSimpArgs false
set_option linter.unusedVariables false
set_option linter.unusedSectionVars false
namespace Go.Abs

theorem AFn.wk {P : Program} {f : FuncId} {args args' : List AVal} {rows rows' : List Row} {Q : AVal → List Row → Prop} (w : Wk rows.length [(0, .tup args)] rows [(0, .tup args')] rows') (h : callK P f args' rows' Q) : AFn P f args rows Q := by
  intro C cargs hr hok hrep
  subst hr
  have hsim : Sim 1 [(0, .tup args)] C ⟨#[.tuple cargs.toArray], []⟩ := by
    refine ⟨hok, rfl, rfl, fun t => ?_⟩
    simp only [slot]
    split
    · rename_i ht
      subst ht
      rw [Rep]
      exact ⟨cargs.toArray, rfl, by simpa using hrep⟩
    · simp [Rep]
  obtain ⟨C', hw, hr', hs, hl⟩ := wk_sound w C rfl hsim (Later.refl C)
  subst hr'
  have h0 := hs.slots 0
  have e : slot [(0, .tup args')] 0 = AVal.tup args' := _root_.id rfl
  rw [e, Rep] at h0
  obtain ⟨vs, h1, h2⟩ := h0
  have h3 : vs = cargs.toArray := by
    have : Value.tuple cargs.toArray = .tuple vs := h1
    injection this with this
    exact this.symm
  subst h3
  rw [← hw]
  refine (call_sound hs.ok (by simpa using h2) h).mono ?_
  rintro e w' ⟨cv, v, D, rfl, rfl, a1, a2, a3, a4⟩
  exact ⟨cv, v, D, rfl, rfl, a1, a2, hl.trans a3 hl.len, a4⟩

/-- the first argument is given away -/
theorem AFn.give {α : Type} [Cel α] {P : Program} {f : FuncId} {l : List α} {T sz : Nat} {as : List AVal} {Q : AVal → List Row → Prop} (hc : cleanL as = true) (hA : AFn P f (.pure sz (els l) :: as) [] Q) (hq : ∀ v rs, Q v rs → clean v = true ∧ rs = []) :
    AFn P f (.own 0 l.length 0 l.length :: as) [.live T sz (els l)] (fun v rs => Q v [] ∧ rs = [.dead]) := by
  have hb : bindV [.live T sz (els l)] [none] [0] (.own 0 l.length 0 l.length) = .pure sz (els l) := bindV_frz (_root_.id rfl) (_root_.id rfl) (_root_.id rfl) els_length.symm els_clean
  have w : Wk 1 [(0, .tup (.own 0 l.length 0 l.length :: as))] [.live T sz (els l)] [(0, .tup (.pure sz (els l) :: as))] [.dead] := by
    have := Wk.tr (n0 := 1) (env := [(0, .tup (.own 0 l.length 0 l.length :: as))]) (rows := [.live T sz (els l)]) (srows := [.dead]) [none] [0] (onceB_spec (_root_.id rfl)) (keeps_of (_root_.id rfl)) (_root_.id rfl)
    simpa only [List.map_cons, List.map_nil, bindV, bindL, ← hb, bindL_clean as hc] using this
  refine AFn.wk w ⟨[], [], [], by simp, _root_.id rfl, ?_⟩
  rw [bindL_clean]
  · refine hA.mono fun v rs h => ?_
    obtain ⟨h1, rfl⟩ := hq v rs h
    refine ⟨.inl rfl, ?_, _root_.id rfl⟩
    rw [renV_clean _ _ h1]; exact h
  · simp [cleanL, clean, hc]

end Go.Abs
