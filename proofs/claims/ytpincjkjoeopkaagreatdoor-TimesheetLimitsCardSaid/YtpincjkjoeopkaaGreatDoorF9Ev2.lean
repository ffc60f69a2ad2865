/- Evaluate without events: the same answer as the reference's. -/
import Derived.Test.YtpincjkjoeopkaaGreatDoorF9EPl
set_option linter.unusedSimpArgs false
set_option linter.unusedVariables false
set_option linter.unusedSectionVars false
namespace Go.Proofs.YtpincjkjoeopkaaGreatDoor
open Go Go.Abs
set_option linter.unusedSimpArgs false
set_option linter.unusedVariables false

theorem AFn.answerR {P : Program} {f : FuncId} {args : List AVal} {rows : List Row} {Q Q' : AVal → List Row → Prop} (h : AFn P f args rows Q) (hw : ∀ v rs, Q v rs → ∃ w, Q' w rs ∧ ∀ C x, Rep C v x → Rep C w x) : AFn P f args rows Q' := by
  intro C cargs h1 h2 hG h3
  refine (h C cargs h1 h2 hG h3).mono ?_
  rintro e w' ⟨cv, x, C', a, b, c, d, e', q⟩
  obtain ⟨w, hq, hr⟩ := hw _ _ q
  exact ⟨cv, w, C', a, b, hr _ _ c, d, e', hq⟩

theorem pEval_ok2 (z0 z1 v2 v3 v4 v5 v6 v7 v8 v9 v10 v11 v12 v13 : AVal) (hcl : cleanL [z0, z1, v2, v3, v4, v5, v6, v7, v8, v9, v10, v11, v12, v13] = true) (hon : ([z0, z1, v2, v3, v4, v5, v6, v7, v8, v9, v10, v11, v12, v13] : List AVal).all Abs.one = true)
    (pl : List Sf) (hpl : pl.length ≤ 1000000) (emp : Int)
    (hW : AFn Tryz.prog 20 [.agg [z0, z1, v2, v3, v4, v5, v6, v7, v8, v9, v10, v11, v12, v13], .pure 3 (els pl), .nils, .int .i64 emp] [] (fun v rs => v = .tup [.nils, .nils, .int .i64 0] ∧ rs = []))
    (hD : AFn Tryz.prog 41 [.agg [v9, v10, v11], .nils] [] (fun v rs => v = .tup [.nils, .int .i64 0] ∧ rs = []))
    (hM : AFn Tryz.prog 42 [.agg [z0, z1], v13, v12, .nils] [] (fun v rs => v = .tup [.nils, .int .i64 0] ∧ rs = []))
    (l : List Ab) (hl : l.length ≤ 100000) (hV : ∀ a ∈ l, AFn Tryz.prog 40 [.agg (Cel.c a)] [] (fun v rs => v = .bool true ∧ rs = [])) (hok : ∀ a ∈ l, abOk a) (hwf : ∀ a ∈ l, (Lit.int .i64 a.day).wf = true ∧ a.name.size ≤ maxLen) (fr to : Int) :
    AFn Tryz.prog 11 [.agg [z0, z1, v2, v3, v4, v5, v6, v7, v8, v9, v10, v11, v12, v13], .pure 3 (els pl), .nils, .pure 4 (els l), .int .i64 emp, .int .i64 fr, .int .i64 to] []
      (fun v rs => (evE l fr to ≠ 0 ∧ v = .tup [.nils, .int .i64 (evE l fr to)] ∨ evE l fr to = 0 ∧ v = .tup [.pure 3 (els (dayRs pl emp fr to l (mrkL l))), .int .i64 0]) ∧ rs = []) := by
  refine AFn.answerR (pEval_ok z0 z1 v2 v3 v4 v5 v6 v7 v8 v9 v10 v11 v12 v13 hcl hon pl hpl emp hW hD hM l hl hV hok hwf fr to) ?_
  rintro v rs ⟨h | ⟨h0, L, hL, hs, rfl⟩, rfl⟩
  · exact ⟨v, ⟨.inl h, rfl⟩, fun _ _ h => h⟩
  · refine ⟨_, ⟨.inr ⟨h0, rfl⟩, rfl⟩, fun C x hx => ?_⟩
    rw [Rep] at hx ⊢
    obtain ⟨vs, rfl, hx⟩ := hx
    refine ⟨vs, rfl, ?_⟩
    rw [RepL] at hx ⊢
    obtain ⟨a, rest, e, h1, h2⟩ := hx
    exact ⟨a, rest, e, ev_rep hL hs h1, h2⟩

end Go.Proofs.YtpincjkjoeopkaaGreatDoor
