/- InboxCancels: the walk. -/
import Derived.Test.YtodbafiepdcfbaaA5CanPl
set_option linter.unusedSimpArgs false
set_option linter.unusedVariables false
set_option linter.unusedSectionVars false
namespace Go.Proofs.Ytodbafiepdcfbaa
open Go Go.Abs
set_option linter.unusedSimpArgs false
set_option linter.unusedVariables false

set_option maxRecDepth 4000 in
theorem inboxCancels (l : List Int) (hl : TapeOk l) (n : Int) : AFn Try.prog 10 [.pure 1 (numsE .i64 l), .int .i64 n] [] (fun v _ => v = .bool true) := by
  refine afnW Try.func10 a10_ok (by simp [a10]) ?_
  simp only [go_sem, Nat.reduceAdd, Nat.reduceSub, Nat.reduceMul, Nat.reduceEqDiff, Nat.reduceLT, Nat.reduceLeDiff, Nat.reduceBEq, reduceIte, reduceCtorEq, Int.reduceToNat, Int.reduceLE, Int.reduceLT, Int.reduceBEq, Int.reduceBNe, a10, a10r0, a10r1, a10r2, a10r3, a10r4, a10r5, a10r6, a10r7, a10r8, a10r9, a10r10, a10r11, a10r12, a10r13, a10r14, a10r15, a10r16, a10r17, a10r18, a10r19, a10r20]
  repeat (refine Cl.here ?_; simp only [go_sem, Nat.reduceAdd, Nat.reduceSub, Nat.reduceMul, Nat.reduceEqDiff, Nat.reduceLT, Nat.reduceLeDiff, Nat.reduceBEq, reduceIte, reduceCtorEq, Int.reduceToNat, Int.reduceLE, Int.reduceLT, Int.reduceBEq, Int.reduceBNe])
  (refine callC_of [] [] (by simp) rfl (bindL_clean _ (by first | rfl | simp only [go_sem, Nat.reduceAdd, Nat.reduceSub, Nat.reduceMul, Nat.reduceEqDiff, Nat.reduceLT, Nat.reduceLeDiff, Nat.reduceBEq, reduceIte, reduceCtorEq, Int.reduceToNat, Int.reduceLE, Int.reduceLT, Int.reduceBEq, Int.reduceBNe])) (new_ok l) ?_; rintro _ _ ⟨rfl, rfl⟩; refine ⟨.inl rfl, ?_⟩; simp only [go_sem, Nat.reduceAdd, Nat.reduceSub, Nat.reduceMul, Nat.reduceEqDiff, Nat.reduceLT, Nat.reduceLeDiff, Nat.reduceBEq, reduceIte, reduceCtorEq, Int.reduceToNat, Int.reduceLE, Int.reduceLT, Int.reduceBEq, Int.reduceBNe])
  repeat (refine Cl.here ?_; simp only [go_sem, Nat.reduceAdd, Nat.reduceSub, Nat.reduceMul, Nat.reduceEqDiff, Nat.reduceLT, Nat.reduceLeDiff, Nat.reduceBEq, reduceIte, reduceCtorEq, Int.reduceToNat, Int.reduceLE, Int.reduceLT, Int.reduceBEq, Int.reduceBNe])
  (refine callC_of [0] [] (by decide) (by simp only [go_sem, Nat.reduceAdd, Nat.reduceSub, Nat.reduceMul, Nat.reduceEqDiff, Nat.reduceLT, Nat.reduceLeDiff, Nat.reduceBEq, reduceIte, reduceCtorEq, Int.reduceToNat, Int.reduceLE, Int.reduceLT, Int.reduceBEq, Int.reduceBNe] <;> rfl) (by simp only [go_sem, Nat.reduceAdd, Nat.reduceSub, Nat.reduceMul, Nat.reduceEqDiff, Nat.reduceLT, Nat.reduceLeDiff, Nat.reduceBEq, reduceIte, reduceCtorEq, Int.reduceToNat, Int.reduceLE, Int.reduceLT, Int.reduceBEq, Int.reduceBNe] <;> rfl) (events_ok l hl 8 (by omega) (by omega) 0 (by omega) (by omega)) ?_; rintro _ _ ⟨at_, a, rfl, rfl, h0, h1, ha, hav⟩; refine ⟨.inl rfl, ?_⟩; simp only [go_sem, Nat.reduceAdd, Nat.reduceSub, Nat.reduceMul, Nat.reduceEqDiff, Nat.reduceLT, Nat.reduceLeDiff, Nat.reduceBEq, reduceIte, reduceCtorEq, Int.reduceToNat, Int.reduceLE, Int.reduceLT, Int.reduceBEq, Int.reduceBNe])
  unfold tp
  simp only [go_sem, Nat.reduceAdd, Nat.reduceSub, Nat.reduceMul, Nat.reduceEqDiff, Nat.reduceLT, Nat.reduceLeDiff, Nat.reduceBEq, reduceIte, reduceCtorEq, Int.reduceToNat, Int.reduceLE, Int.reduceLT, Int.reduceBEq, Int.reduceBNe]
  (refine callC_of [0] [] (by decide) (by simp only [go_sem, Nat.reduceAdd, Nat.reduceSub, Nat.reduceMul, Nat.reduceEqDiff, Nat.reduceLT, Nat.reduceLeDiff, Nat.reduceBEq, reduceIte, reduceCtorEq, Int.reduceToNat, Int.reduceLE, Int.reduceLT, Int.reduceBEq, Int.reduceBNe] <;> rfl) (by simp only [go_sem, Nat.reduceAdd, Nat.reduceSub, Nat.reduceMul, Nat.reduceEqDiff, Nat.reduceLT, Nat.reduceLeDiff, Nat.reduceBEq, reduceIte, reduceCtorEq, Int.reduceToNat, Int.reduceLE, Int.reduceLT, Int.reduceBEq, Int.reduceBNe] <;> rfl) (days_ok l hl 1 (by omega) (by omega) at_ h0 h1) ?_; rintro _ _ ⟨at_, b, rfl, rfl, h0, h1, hb, hbv⟩; refine ⟨.inl rfl, ?_⟩; simp only [go_sem, Nat.reduceAdd, Nat.reduceSub, Nat.reduceMul, Nat.reduceEqDiff, Nat.reduceLT, Nat.reduceLeDiff, Nat.reduceBEq, reduceIte, reduceCtorEq, Int.reduceToNat, Int.reduceLE, Int.reduceLT, Int.reduceBEq, Int.reduceBNe])
  unfold tp
  simp only [go_sem, Nat.reduceAdd, Nat.reduceSub, Nat.reduceMul, Nat.reduceEqDiff, Nat.reduceLT, Nat.reduceLeDiff, Nat.reduceBEq, reduceIte, reduceCtorEq, Int.reduceToNat, Int.reduceLE, Int.reduceLT, Int.reduceBEq, Int.reduceBNe]
  have hgv : ∀ e ∈ a ++ b, evG e := fun e he => (List.mem_append.1 he).elim (hav e) (hbv e)
  have ga : Gd a 8 := ⟨fun e he => evG_v (hav e he), by omega⟩
  have gb : Gd b 5 := ⟨fun e he => evG_v (hbv e he), by omega⟩
  refine ⟨by omega, ?_⟩
  have gl := ga.app gb
  have hll : a.length + b.length = (a ++ b).length := by rw [List.length_append]
  rw [hll]
  generalize a ++ b = L at *
  have hLl := gl.len
  (refine Cl.frz [] [ 1] rfl rfl (by simp only [go_sem, Nat.reduceAdd, Nat.reduceSub, Nat.reduceMul, Nat.reduceEqDiff, Nat.reduceLT, Nat.reduceLeDiff, Nat.reduceBEq, reduceIte, reduceCtorEq, Int.reduceToNat, Int.reduceLE, Int.reduceLT, Int.reduceBEq, Int.reduceBNe] <;> rfl) ?_; simp only [go_sem, Nat.reduceAdd, Nat.reduceSub, Nat.reduceMul, Nat.reduceEqDiff, Nat.reduceLT, Nat.reduceLeDiff, Nat.reduceBEq, reduceIte, reduceCtorEq, Int.reduceToNat, Int.reduceLE, Int.reduceLT, Int.reduceBEq, Int.reduceBNe])
  repeat (refine Cl.here ?_; simp only [go_sem, Nat.reduceAdd, Nat.reduceSub, Nat.reduceMul, Nat.reduceEqDiff, Nat.reduceLT, Nat.reduceLeDiff, Nat.reduceBEq, reduceIte, reduceCtorEq, Int.reduceToNat, Int.reduceLE, Int.reduceLT, Int.reduceBEq, Int.reduceBNe])
  refine callC_of [] [] (by simp) rfl (bindL_clean _ (by first | rfl | simp only [go_sem, Nat.reduceAdd, Nat.reduceSub, Nat.reduceMul, Nat.reduceEqDiff, Nat.reduceLT, Nat.reduceLeDiff, Nat.reduceBEq, reduceIte, reduceCtorEq, Int.reduceToNat, Int.reduceLE, Int.reduceLT, Int.reduceBEq, Int.reduceBNe])) (effG gl (by omega) 1) ?_
  rintro _ _ ⟨S, hp, hs, hSl, rfl, rfl⟩
  refine ⟨.inl rfl, ?_⟩
  simp only [go_sem, Nat.reduceAdd, Nat.reduceSub, Nat.reduceMul, Nat.reduceEqDiff, Nat.reduceLT, Nat.reduceLeDiff, Nat.reduceBEq, reduceIte, reduceCtorEq, Int.reduceToNat, Int.reduceLE, Int.reduceLT, Int.reduceBEq, Int.reduceBNe]
  (refine Cl.frz [] [ 0] rfl rfl (by simp only [go_sem, Nat.reduceAdd, Nat.reduceSub, Nat.reduceMul, Nat.reduceEqDiff, Nat.reduceLT, Nat.reduceLeDiff, Nat.reduceBEq, reduceIte, reduceCtorEq, Int.reduceToNat, Int.reduceLE, Int.reduceLT, Int.reduceBEq, Int.reduceBNe] <;> rfl) ?_; simp only [go_sem, Nat.reduceAdd, Nat.reduceSub, Nat.reduceMul, Nat.reduceEqDiff, Nat.reduceLT, Nat.reduceLeDiff, Nat.reduceBEq, reduceIte, reduceCtorEq, Int.reduceToNat, Int.reduceLE, Int.reduceLT, Int.reduceBEq, Int.reduceBNe])
  repeat (refine Cl.here ?_; simp only [go_sem, Nat.reduceAdd, Nat.reduceSub, Nat.reduceMul, Nat.reduceEqDiff, Nat.reduceLT, Nat.reduceLeDiff, Nat.reduceBEq, reduceIte, reduceCtorEq, Int.reduceToNat, Int.reduceLE, Int.reduceLT, Int.reduceBEq, Int.reduceBNe])
  rcases Nat.eq_zero_or_pos S.length with hS0 | hS0
  · have hd : ((S.length : Int) == 0) = true := beq_iff_eq.2 (by omega)
    simp only [go_sem, Nat.reduceAdd, Nat.reduceSub, Nat.reduceMul, Nat.reduceEqDiff, Nat.reduceLT, Nat.reduceLeDiff, Nat.reduceBEq, reduceIte, reduceCtorEq, Int.reduceToNat, Int.reduceLE, Int.reduceLT, Int.reduceBEq, Int.reduceBNe, hd]
    repeat (refine Cl.here ?_; simp only [go_sem, Nat.reduceAdd, Nat.reduceSub, Nat.reduceMul, Nat.reduceEqDiff, Nat.reduceLT, Nat.reduceLeDiff, Nat.reduceBEq, reduceIte, reduceCtorEq, Int.reduceToNat, Int.reduceLE, Int.reduceLT, Int.reduceBEq, Int.reduceBNe])
    refine callC_det sane8_ok rfl rfl ?_
    try simp only [go_sem, Nat.reduceAdd, Nat.reduceSub, Nat.reduceMul, Nat.reduceEqDiff, Nat.reduceLT, Nat.reduceLeDiff, Nat.reduceBEq, reduceIte, reduceCtorEq, Int.reduceToNat, Int.reduceLE, Int.reduceLT, Int.reduceBEq, Int.reduceBNe]
    repeat (refine Cl.here ?_; simp only [go_sem, Nat.reduceAdd, Nat.reduceSub, Nat.reduceMul, Nat.reduceEqDiff, Nat.reduceLT, Nat.reduceLeDiff, Nat.reduceBEq, reduceIte, reduceCtorEq, Int.reduceToNat, Int.reduceLE, Int.reduceLT, Int.reduceBEq, Int.reduceBNe])
    exact Cl.fin rfl rfl
  have hd : ((S.length : Int) == 0) = false := beq_eq_false_iff_ne.2 (by omega)
  simp only [go_sem, Nat.reduceAdd, Nat.reduceSub, Nat.reduceMul, Nat.reduceEqDiff, Nat.reduceLT, Nat.reduceLeDiff, Nat.reduceBEq, reduceIte, reduceCtorEq, Int.reduceToNat, Int.reduceLE, Int.reduceLT, Int.reduceBEq, Int.reduceBNe, hd]
  repeat (refine Cl.here ?_; simp only [go_sem, Nat.reduceAdd, Nat.reduceSub, Nat.reduceMul, Nat.reduceEqDiff, Nat.reduceLT, Nat.reduceLeDiff, Nat.reduceBEq, reduceIte, reduceCtorEq, Int.reduceToNat, Int.reduceLE, Int.reduceLT, Int.reduceBEq, Int.reduceBNe])
  refine callC_det (mod_ok n S.length (by omega) (by omega)) rfl rfl ?_
  have hkm : 0 ≤ mod n S.length ∧ mod n S.length < S.length := mod_bounds (by omega)
  generalize mod n S.length = kk at hkm
  obtain ⟨k, rfl⟩ : ∃ k : Nat, kk = k := ⟨kk.toNat, by omega⟩
  have hk0 := hkm.1
  have hk1 := hkm.2
  have hkl : k < S.length := by omega
  have hgk : (els S).getD k [] = Cel.c S[k] := els_getD hkl
  have hxm := List.getElem_mem hkl
  generalize S[k] = x at *
  have hxs := hp.mem_iff.1 hxm
  have hxk : vKey x.kt x.ks := by
    obtain ⟨e, he, hes⟩ := List.mem_filterMap.1 hxs
    have hk := (stOf_key hes).1
    unfold effF forE at he
    have hm := (mem_uni L e).1 (mem_fk (List.mem_filter.1 he).1)
    have hv := (hgv e hm).1.1
    have e1 : x.kt = e.kt := congrArg Ky.t hk
    have e2 : x.ks = e.ks := congrArg Ky.s hk
    rw [e1, e2]
    exact hv
  have hFt : ∀ e ∈ effF L 1, 1000 ≤ e.time := fun e he => by
    unfold effF forE at he
    exact (hgv e ((mem_uni L e).1 (mem_fk (List.mem_filter.1 he).1))).2.2.1
  have hlt : ∀ k : Ev, k.kt = 60000 → ∀ y ∈ L, y.kt < k.kt := fun k hk y hy => by have := (hgv y hy).2.1; omega
  have hkeys : (stamps (effF L 1)).Pairwise fun x y => x.key ≠ y.key := List.Pairwise.imp (S := fun x y : Stamp => x.key ≠ y.key) (fun {x y} h (e : x.key = y.key) => kLt_irrefl y.key (by rw [e] at h; exact h)) (stamps_asc (effF_asc L 1))
  have g1 : ∀ e : Ev, vEv e → Gd (L ++ [e]) 14 := fun e he => gl.app (m := 1) ⟨fun y hy => by rw [List.mem_singleton] at hy; subst hy; exact he, by simp⟩
  have gc := g1 ⟨60000, 1, 1, 0, 5, x.kt, x.ks⟩ (by unfold vEv; exact ⟨by simp [vKey], by simp, by simp, by simp, by simp, .inr ⟨.inl rfl, hxk⟩⟩)
  have go := g1 ⟨60000, 1, 2, 0, 5, x.kt, x.ks⟩ (by unfold vEv; exact ⟨by simp [vKey], by simp, by simp, by simp, by simp, .inr ⟨.inl rfl, hxk⟩⟩)
  have gm := g1 ⟨60000, 1, 1, 7, 6, x.kt, x.ks⟩ (by unfold vEv; exact ⟨by simp [vKey], by simp, by simp, by simp, by simp, .inr ⟨.inr rfl, hxk⟩⟩)
  have fc : effF (L ++ [⟨60000, 1, 1, 0, 5, x.kt, x.ks⟩]) 1 = effF L 1 ++ [⟨60000, 1, 1, 0, 5, x.kt, x.ks⟩] := by rw [effF_top (hlt _ rfl), if_pos rfl]
  have fo : effF (L ++ [⟨60000, 1, 2, 0, 5, x.kt, x.ks⟩]) 1 = effF L 1 := by rw [effF_top (hlt _ rfl), if_neg (by simp)]
  have fm : effF (L ++ [⟨60000, 1, 1, 7, 6, x.kt, x.ks⟩]) 1 = effF L 1 ++ [⟨60000, 1, 1, 7, 6, x.kt, x.ks⟩] := by rw [effF_top (hlt _ rfl), if_pos rfl]
  have ec := effG gc (by omega) 1
  have eo := effG go (by omega) 1
  have em := effG gm (by omega) 1
  rw [fc, stamps_cancel rfl] at ec
  rw [fo] at eo
  rw [fm, stamps_correct rfl] at em
  have hln : ∀ e : Ev, L.length + 1 = (L ++ [e]).length := fun e => by simp
  simp only [go_sem, Nat.reduceAdd, Nat.reduceSub, Nat.reduceMul, Nat.reduceEqDiff, Nat.reduceLT, Nat.reduceLeDiff, Nat.reduceBEq, reduceIte, reduceCtorEq, Int.reduceToNat, Int.reduceLE, Int.reduceLT, Int.reduceBEq, Int.reduceBNe, hk0, hk1, hgk]
  (refine Cl.here ?_; simp only [go_sem, Nat.reduceAdd, Nat.reduceSub, Nat.reduceMul, Nat.reduceEqDiff, Nat.reduceLT, Nat.reduceLeDiff, Nat.reduceBEq, reduceIte, reduceCtorEq, Int.reduceToNat, Int.reduceLE, Int.reduceLT, Int.reduceBEq, Int.reduceBNe])
  (refine Cl.here ?_; simp only [go_sem, Nat.reduceAdd, Nat.reduceSub, Nat.reduceMul, Nat.reduceEqDiff, Nat.reduceLT, Nat.reduceLeDiff, Nat.reduceBEq, reduceIte, reduceCtorEq, Int.reduceToNat, Int.reduceLE, Int.reduceLT, Int.reduceBEq, Int.reduceBNe])
  simp only [go_sem, Nat.reduceAdd, Nat.reduceSub, Nat.reduceMul, Nat.reduceEqDiff, Nat.reduceLT, Nat.reduceLeDiff, Nat.reduceBEq, reduceIte, reduceCtorEq, Int.reduceToNat, Int.reduceLE, Int.reduceLT, Int.reduceBEq, Int.reduceBNe, cel_stamp]
  refine ⟨by omega, by omega, ?_⟩
  rw [ev_snoc, hln ⟨60000, 1, 1, 0, 5, x.kt, x.ks⟩]
  generalize L ++ [⟨60000, 1, 1, 0, 5, x.kt, x.ks⟩] = Lc at *
  refine callD_of [] [3] (by simp only [go_sem, Nat.reduceAdd, Nat.reduceSub, Nat.reduceMul, Nat.reduceEqDiff, Nat.reduceLT, Nat.reduceLeDiff, Nat.reduceBEq, reduceIte, reduceCtorEq, Int.reduceToNat, Int.reduceLE, Int.reduceLT, Int.reduceBEq, Int.reduceBNe]) (by decide) rfl (by simp only [go_sem, Nat.reduceAdd, Nat.reduceSub, Nat.reduceMul, Nat.reduceEqDiff, Nat.reduceLT, Nat.reduceLeDiff, Nat.reduceBEq, reduceIte, reduceCtorEq, Int.reduceToNat, Int.reduceLE, Int.reduceLT, Int.reduceBEq, Int.reduceBNe] <;> rfl) ec ?_
  rintro _ _ ⟨Sc, hpc, hsc, hlc, rfl, rfl⟩
  refine ⟨.inr ⟨rfl, by simp only [go_sem, Nat.reduceAdd, Nat.reduceSub, Nat.reduceMul, Nat.reduceEqDiff, Nat.reduceLT, Nat.reduceLeDiff, Nat.reduceBEq, reduceIte, reduceCtorEq, Int.reduceToNat, Int.reduceLE, Int.reduceLT, Int.reduceBEq, Int.reduceBNe]⟩, ?_⟩
  simp only [go_sem, Nat.reduceAdd, Nat.reduceSub, Nat.reduceMul, Nat.reduceEqDiff, Nat.reduceLT, Nat.reduceLeDiff, Nat.reduceBEq, reduceIte, reduceCtorEq, Int.reduceToNat, Int.reduceLE, Int.reduceLT, Int.reduceBEq, Int.reduceBNe]
  (refine Cl.frz [some 0, some 1] [ 4] rfl rfl (by simp only [go_sem, Nat.reduceAdd, Nat.reduceSub, Nat.reduceMul, Nat.reduceEqDiff, Nat.reduceLT, Nat.reduceLeDiff, Nat.reduceBEq, reduceIte, reduceCtorEq, Int.reduceToNat, Int.reduceLE, Int.reduceLT, Int.reduceBEq, Int.reduceBNe] <;> rfl) ?_; simp only [go_sem, Nat.reduceAdd, Nat.reduceSub, Nat.reduceMul, Nat.reduceEqDiff, Nat.reduceLT, Nat.reduceLeDiff, Nat.reduceBEq, reduceIte, reduceCtorEq, Int.reduceToNat, Int.reduceLE, Int.reduceLT, Int.reduceBEq, Int.reduceBNe])
  (refine Cl.here ?_; simp only [go_sem, Nat.reduceAdd, Nat.reduceSub, Nat.reduceMul, Nat.reduceEqDiff, Nat.reduceLT, Nat.reduceLeDiff, Nat.reduceBEq, reduceIte, reduceCtorEq, Int.reduceToNat, Int.reduceLE, Int.reduceLT, Int.reduceBEq, Int.reduceBNe])
  refine ⟨by omega, by omega, ?_⟩
  rw [ev_snoc, hln ⟨60000, 1, 2, 0, 5, x.kt, x.ks⟩]
  generalize L ++ [⟨60000, 1, 2, 0, 5, x.kt, x.ks⟩] = Lo at *
  refine callD_of [] [3] (by simp only [go_sem, Nat.reduceAdd, Nat.reduceSub, Nat.reduceMul, Nat.reduceEqDiff, Nat.reduceLT, Nat.reduceLeDiff, Nat.reduceBEq, reduceIte, reduceCtorEq, Int.reduceToNat, Int.reduceLE, Int.reduceLT, Int.reduceBEq, Int.reduceBNe]) (by decide) rfl (by simp only [go_sem, Nat.reduceAdd, Nat.reduceSub, Nat.reduceMul, Nat.reduceEqDiff, Nat.reduceLT, Nat.reduceLeDiff, Nat.reduceBEq, reduceIte, reduceCtorEq, Int.reduceToNat, Int.reduceLE, Int.reduceLT, Int.reduceBEq, Int.reduceBNe] <;> rfl) eo ?_
  rintro _ _ ⟨So, hpo, hso, hlo, rfl, rfl⟩
  refine ⟨.inr ⟨rfl, by simp only [go_sem, Nat.reduceAdd, Nat.reduceSub, Nat.reduceMul, Nat.reduceEqDiff, Nat.reduceLT, Nat.reduceLeDiff, Nat.reduceBEq, reduceIte, reduceCtorEq, Int.reduceToNat, Int.reduceLE, Int.reduceLT, Int.reduceBEq, Int.reduceBNe]⟩, ?_⟩
  simp only [go_sem, Nat.reduceAdd, Nat.reduceSub, Nat.reduceMul, Nat.reduceEqDiff, Nat.reduceLT, Nat.reduceLeDiff, Nat.reduceBEq, reduceIte, reduceCtorEq, Int.reduceToNat, Int.reduceLE, Int.reduceLT, Int.reduceBEq, Int.reduceBNe]
  (refine Cl.frz [some 0, some 1] [ 4] rfl rfl (by simp only [go_sem, Nat.reduceAdd, Nat.reduceSub, Nat.reduceMul, Nat.reduceEqDiff, Nat.reduceLT, Nat.reduceLeDiff, Nat.reduceBEq, reduceIte, reduceCtorEq, Int.reduceToNat, Int.reduceLE, Int.reduceLT, Int.reduceBEq, Int.reduceBNe] <;> rfl) ?_; simp only [go_sem, Nat.reduceAdd, Nat.reduceSub, Nat.reduceMul, Nat.reduceEqDiff, Nat.reduceLT, Nat.reduceLeDiff, Nat.reduceBEq, reduceIte, reduceCtorEq, Int.reduceToNat, Int.reduceLE, Int.reduceLT, Int.reduceBEq, Int.reduceBNe])
  (refine Cl.here ?_; simp only [go_sem, Nat.reduceAdd, Nat.reduceSub, Nat.reduceMul, Nat.reduceEqDiff, Nat.reduceLT, Nat.reduceLeDiff, Nat.reduceBEq, reduceIte, reduceCtorEq, Int.reduceToNat, Int.reduceLE, Int.reduceLT, Int.reduceBEq, Int.reduceBNe])
  refine ⟨by omega, by omega, ?_⟩
  rw [ev_snoc, hln ⟨60000, 1, 1, 7, 6, x.kt, x.ks⟩]
  generalize L ++ [⟨60000, 1, 1, 7, 6, x.kt, x.ks⟩] = Lm at *
  refine callD_of [] [3] (by simp only [go_sem, Nat.reduceAdd, Nat.reduceSub, Nat.reduceMul, Nat.reduceEqDiff, Nat.reduceLT, Nat.reduceLeDiff, Nat.reduceBEq, reduceIte, reduceCtorEq, Int.reduceToNat, Int.reduceLE, Int.reduceLT, Int.reduceBEq, Int.reduceBNe]) (by decide) rfl (by simp only [go_sem, Nat.reduceAdd, Nat.reduceSub, Nat.reduceMul, Nat.reduceEqDiff, Nat.reduceLT, Nat.reduceLeDiff, Nat.reduceBEq, reduceIte, reduceCtorEq, Int.reduceToNat, Int.reduceLE, Int.reduceLT, Int.reduceBEq, Int.reduceBNe] <;> rfl) em ?_
  rintro _ _ ⟨Sm, hpm, hsm, hlm, rfl, rfl⟩
  refine ⟨.inr ⟨rfl, by simp only [go_sem, Nat.reduceAdd, Nat.reduceSub, Nat.reduceMul, Nat.reduceEqDiff, Nat.reduceLT, Nat.reduceLeDiff, Nat.reduceBEq, reduceIte, reduceCtorEq, Int.reduceToNat, Int.reduceLE, Int.reduceLT, Int.reduceBEq, Int.reduceBNe]⟩, ?_⟩
  simp only [go_sem, Nat.reduceAdd, Nat.reduceSub, Nat.reduceMul, Nat.reduceEqDiff, Nat.reduceLT, Nat.reduceLeDiff, Nat.reduceBEq, reduceIte, reduceCtorEq, Int.reduceToNat, Int.reduceLE, Int.reduceLT, Int.reduceBEq, Int.reduceBNe]
  (refine Cl.frz [some 0] [ 4] rfl rfl (by simp only [go_sem, Nat.reduceAdd, Nat.reduceSub, Nat.reduceMul, Nat.reduceEqDiff, Nat.reduceLT, Nat.reduceLeDiff, Nat.reduceBEq, reduceIte, reduceCtorEq, Int.reduceToNat, Int.reduceLE, Int.reduceLT, Int.reduceBEq, Int.reduceBNe] <;> rfl) ?_; simp only [go_sem, Nat.reduceAdd, Nat.reduceSub, Nat.reduceMul, Nat.reduceEqDiff, Nat.reduceLT, Nat.reduceLeDiff, Nat.reduceBEq, reduceIte, reduceCtorEq, Int.reduceToNat, Int.reduceLE, Int.reduceLT, Int.reduceBEq, Int.reduceBNe])
  have hSS : So = S := sorted_unique (hpo.trans hp.symm) hso hs
  subst hSS
  have lc : Sc.length + 1 = So.length := by
    rw [hpc.length_eq, hp.length_eq]
    exact filter_len (x := x) hkeys hxs
  have lm : Sm.length = So.length := by rw [hpm.length_eq, hp.length_eq, List.length_map]
  have hwl : IntKind.i64.wrap ((So.length : Int) - 1) = Sc.length := by rw [wrap_i64 (by omega) (by omega)]; omega
  have hck : ∀ s ∈ Sc, s.key ≠ x.key := fun s h => by
    have := hpc.mem_iff.1 h
    rw [List.mem_filter] at this
    exact of_decide_eq_true this.2
  (refine Cl.here ?_; simp only [go_sem, Nat.reduceAdd, Nat.reduceSub, Nat.reduceMul, Nat.reduceEqDiff, Nat.reduceLT, Nat.reduceLeDiff, Nat.reduceBEq, reduceIte, reduceCtorEq, Int.reduceToNat, Int.reduceLE, Int.reduceLT, Int.reduceBEq, Int.reduceBNe])
  simp only [go_sem, Nat.reduceAdd, Nat.reduceSub, Nat.reduceMul, Nat.reduceEqDiff, Nat.reduceLT, Nat.reduceLeDiff, Nat.reduceBEq, reduceIte, reduceCtorEq, Int.reduceToNat, Int.reduceLE, Int.reduceLT, Int.reduceBEq, Int.reduceBNe, hwl, bne_self_eq_false]
  refine callC_det (sameS_ok So (by omega)) rfl rfl ?_
  simp only [go_sem, Nat.reduceAdd, Nat.reduceSub, Nat.reduceMul, Nat.reduceEqDiff, Nat.reduceLT, Nat.reduceLeDiff, Nat.reduceBEq, reduceIte, reduceCtorEq, Int.reduceToNat, Int.reduceLE, Int.reduceLT, Int.reduceBEq, Int.reduceBNe, lm, bne_self_eq_false]
  have hm0 : 0 < Sm.length := by omega
  have hmx : (⟨7, x.kind, x.kt, x.ks⟩ : Stamp) ∈ Sm := by
    rw [hpm.mem_iff, List.mem_map]
    exact ⟨x, hxs, if_pos rfl⟩
  have hall : ∀ s ∈ Sm, 1000 ≤ s.time ∨ s = ⟨7, x.kind, x.kt, x.ks⟩ := by
    intro s hs2
    rw [hpm.mem_iff, List.mem_map] at hs2
    obtain ⟨y, hy, rfl⟩ := hs2
    by_cases hyx : y.key = x.key
    · right
      have : y = x := by
        obtain ⟨i, hi, rfl⟩ := List.mem_iff_getElem.1 hy
        obtain ⟨j, hj, rfl⟩ := List.mem_iff_getElem.1 hxs
        rcases Nat.lt_trichotomy i j with h | h | h
        · exact (List.pairwise_iff_getElem.1 hkeys i j hi hj h hyx).elim
        · subst h; rfl
        · exact (List.pairwise_iff_getElem.1 hkeys j i hj hi h hyx.symm).elim
      subst this
      exact if_pos rfl
    · left
      have h9 : ¬ y.key = (⟨60000, 1, 1, 7, 6, x.kt, x.ks⟩ : Ev).tg := hyx
      rw [if_neg h9]
      exact stamps_time hFt y hy
  have hfirst : Sm[0] = ⟨7, x.kind, x.kt, x.ks⟩ := by
    rcases hall _ (List.getElem_mem hm0) with h | h
    · obtain ⟨j, hj, hje⟩ := List.mem_iff_getElem.1 hmx
      rcases Nat.eq_zero_or_pos j with h00 | h00
      · subst h00; exact hje
      · have := List.pairwise_iff_getElem.1 hsm 0 j hm0 hj h00
        rw [hje] at this
        unfold sLt at this
        simp only at this
        omega
    · exact h
  have gm0 : (els Sm).getD 0 [] = Cel.c (⟨7, x.kind, x.kt, x.ks⟩ : Stamp) := by rw [els_getD hm0, hfirst]
  have hmI : (0 : Int) < Sm.length := by omega
  repeat (refine Cl.here ?_; simp only [go_sem, Nat.reduceAdd, Nat.reduceSub, Nat.reduceMul, Nat.reduceEqDiff, Nat.reduceLT, Nat.reduceLeDiff, Nat.reduceBEq, reduceIte, reduceCtorEq, Int.reduceToNat, Int.reduceLE, Int.reduceLT, Int.reduceBEq, Int.reduceBNe])
  refine avcW_loop (fun env rows => ∃ i : Nat, i ≤ Sc.length ∧ env = [(9, .ref 0 1 0 0), (11, .pure 4 (els Sc)), (15, .pure 4 (els Sm)), (17, .int .i64 i)] ∧ rows = [.live 77 4 [[.int .i64 x.time, .int .i64 x.kind, .int .i64 x.kt, .int .i64 x.ks]]])
    (fun env _ => match slot env 17 with | .int _ j => (Sc.length - j).toNat | _ => 0) ?_ ?_
  · exact Cl.here ⟨0, by omega, rfl, rfl⟩
  rintro env rows ⟨i, hi, rfl, rfl⟩
  have hw1 : IntKind.i64.wrap ((i : Int) + 1) = ((i + 1 : Nat) : Int) := by rw [wrap_i64 (by omega) (by omega)]; omega
  simp only [go_sem, Nat.reduceAdd, Nat.reduceSub, Nat.reduceMul, Nat.reduceEqDiff, Nat.reduceLT, Nat.reduceLeDiff, Nat.reduceBEq, reduceIte, reduceCtorEq, Int.reduceToNat, Int.reduceLE, Int.reduceLT, Int.reduceBEq, Int.reduceBNe, a10, a10r0, a10r1, a10r2, a10r3, a10r4, a10r5, a10r6, a10r7, a10r8, a10r9, a10r10, a10r11, a10r12, a10r13, a10r14, a10r15, a10r16, a10r17, a10r18, a10r19, a10r20]
  repeat (refine Cl.here ?_; simp only [go_sem, Nat.reduceAdd, Nat.reduceSub, Nat.reduceMul, Nat.reduceEqDiff, Nat.reduceLT, Nat.reduceLeDiff, Nat.reduceBEq, reduceIte, reduceCtorEq, Int.reduceToNat, Int.reduceLE, Int.reduceLT, Int.reduceBEq, Int.reduceBNe])
  refine condW_intro ?_ ?_ <;> intro hg <;> simp only [decide_eq_true_eq, decide_eq_false_iff_not, beq_iff_eq, beq_eq_false_iff_ne, bne_iff_ne, bne_eq_false_iff_eq, Bool.not_eq_true', Bool.not_eq_false', Int.not_lt, Int.not_le, ne_eq, Bool.and_eq_true, Bool.or_eq_true, Bool.or_eq_false_iff, Bool.and_eq_false_iff] at hg <;> simp only [go_sem, Nat.reduceAdd, Nat.reduceSub, Nat.reduceMul, Nat.reduceEqDiff, Nat.reduceLT, Nat.reduceLeDiff, Nat.reduceBEq, reduceIte, reduceCtorEq, Int.reduceToNat, Int.reduceLE, Int.reduceLT, Int.reduceBEq, Int.reduceBNe, a10, a10r0, a10r1, a10r2, a10r3, a10r4, a10r5, a10r6, a10r7, a10r8, a10r9, a10r10, a10r11, a10r12, a10r13, a10r14, a10r15, a10r16, a10r17, a10r18, a10r19, a10r20]
  · have hlti : i < Sc.length := by omega
    have z0 : (0 : Int) ≤ i := by omega
    have z1 : (i : Int) < Sc.length := by omega
    have gi : (els Sc).getD i [] = Cel.c Sc[i] := els_getD hlti
    have b1 : decide (Sc[i].key = x.key) = false := decide_eq_false (hck _ (List.getElem_mem hlti))
    (refine Cl.here ?_; simp only [go_sem, Nat.reduceAdd, Nat.reduceSub, Nat.reduceMul, Nat.reduceEqDiff, Nat.reduceLT, Nat.reduceLeDiff, Nat.reduceBEq, reduceIte, reduceCtorEq, Int.reduceToNat, Int.reduceLE, Int.reduceLT, Int.reduceBEq, Int.reduceBNe])
    simp only [go_sem, Nat.reduceAdd, Nat.reduceSub, Nat.reduceMul, Nat.reduceEqDiff, Nat.reduceLT, Nat.reduceLeDiff, Nat.reduceBEq, reduceIte, reduceCtorEq, Int.reduceToNat, Int.reduceLE, Int.reduceLT, Int.reduceBEq, Int.reduceBNe, z0, z1, gi, cel_stamp, fits2, skey_eq, b1]
    repeat (refine Cl.here ?_; simp only [go_sem, Nat.reduceAdd, Nat.reduceSub, Nat.reduceMul, Nat.reduceEqDiff, Nat.reduceLT, Nat.reduceLeDiff, Nat.reduceBEq, reduceIte, reduceCtorEq, Int.reduceToNat, Int.reduceLE, Int.reduceLT, Int.reduceBEq, Int.reduceBNe])
    simp only [go_sem, Nat.reduceAdd, Nat.reduceSub, Nat.reduceMul, Nat.reduceEqDiff, Nat.reduceLT, Nat.reduceLeDiff, Nat.reduceBEq, reduceIte, reduceCtorEq, Int.reduceToNat, Int.reduceLE, Int.reduceLT, Int.reduceBEq, Int.reduceBNe, hw1]
    exact ⟨⟨i + 1, by omega, rfl⟩, by omega⟩
  · (refine Cl.here ?_; simp only [go_sem, Nat.reduceAdd, Nat.reduceSub, Nat.reduceMul, Nat.reduceEqDiff, Nat.reduceLT, Nat.reduceLeDiff, Nat.reduceBEq, reduceIte, reduceCtorEq, Int.reduceToNat, Int.reduceLE, Int.reduceLT, Int.reduceBEq, Int.reduceBNe])
    simp only [go_sem, Nat.reduceAdd, Nat.reduceSub, Nat.reduceMul, Nat.reduceEqDiff, Nat.reduceLT, Nat.reduceLeDiff, Nat.reduceBEq, reduceIte, reduceCtorEq, Int.reduceToNat, Int.reduceLE, Int.reduceLT, Int.reduceBEq, Int.reduceBNe, gm0, hmI, Int.le_refl, cel_stamp]
    refine callD_det sane8_ok rfl rfl ?_
    try simp only [go_sem, Nat.reduceAdd, Nat.reduceSub, Nat.reduceMul, Nat.reduceEqDiff, Nat.reduceLT, Nat.reduceLeDiff, Nat.reduceBEq, reduceIte, reduceCtorEq, Int.reduceToNat, Int.reduceLE, Int.reduceLT, Int.reduceBEq, Int.reduceBNe]
    repeat (refine Cl.here ?_; simp only [go_sem, Nat.reduceAdd, Nat.reduceSub, Nat.reduceMul, Nat.reduceEqDiff, Nat.reduceLT, Nat.reduceLeDiff, Nat.reduceBEq, reduceIte, reduceCtorEq, Int.reduceToNat, Int.reduceLE, Int.reduceLT, Int.reduceBEq, Int.reduceBNe])
    exact Cl.fin rfl rfl

end Go.Proofs.Ytodbafiepdcfbaa
