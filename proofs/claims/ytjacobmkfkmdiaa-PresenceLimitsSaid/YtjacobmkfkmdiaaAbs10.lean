/- Each operation does what its abstract form says (4). -/
import Derived.Test.YtjacobmkfkmdiaaAbs9
set_option linter.unusedSimpArgs false
set_option linter.unusedVariables false
set_option linter.unusedSectionVars false
namespace Go.Abs
section
variable {P : Program} {C : Ctx} {K : AVal → List Row → Prop}

theorem run_mkslice' (hok : Ok C) {t e : TypeId} {z : List AVal} {by_ : Nat} (hu : P.underlying t = some (.slice e)) (hz : zeroOf P e = some z) (hb : (P.info? e).map (·.bytes) = some by_)
    {k k' : IntKind} {l c : Int} (h1 : 0 ≤ l) (h2 : l ≤ c) (h3 : c * by_ ≤ 140737488355328) (h4 : c ≤ 140737488355328)
    (h : K (.own C.rows.length l.toNat 0 l.toNat) (C.rows ++ [.live e z.length (List.replicate l.toNat z)])) :
    ∃ cv v C', (Instr.makeSlice t (.int k l) (.int k' c)).run P C.w = .ok cv C'.w ∧ Rep C' v cv ∧ Ok C' ∧ Later C.rows.length C C' ∧ K v C'.rows := by
  obtain ⟨i, zv, hi, hzv, habs, hl, hpos, hsz⟩ := zeroOf_spec hz
  obtain ⟨k1, k2⟩ := absVs_rep (C := C) habs
  have ho := ones_rep k1 k2
  have hby : i.bytes = by_ := by simpa [hi] using hb
  subst hby
  have hz0 : ∀ n, RepL C (List.replicate n z).flatten (List.replicate n zv.cells.toList).flatten ∧ allOne (List.replicate n zv.cells.toList).flatten := by
    intro n
    induction n with
    | zero => simp [RepL, allOne]
    | succ n ih =>
      rw [List.replicate_succ, List.replicate_succ, List.flatten_cons, List.flatten_cons]
      refine ⟨k1.append ih.1, fun v hv => ?_⟩
      rcases List.mem_append.1 hv with hv | hv
      · exact ho v hv
      · exact ih.2 v hv
  have hinit : ((Array.range (c.toNat * i.size)).map (zv.cells[· % zv.cells.size]!)).toList = (List.replicate c.toNat zv.cells.toList).flatten := by
    rw [← hsz]; exact zeroRow zv.cells c.toNat
  have hcs : ((Array.range (c.toNat * i.size)).map (zv.cells[· % zv.cells.size]!)).size = c.toNat * z.length := by simp [hl]
  have helems : Elems C z.length (List.replicate l.toNat z) (List.replicate l.toNat zv.cells.toList).flatten :=
    ⟨fun x hx => by rw [List.eq_of_mem_replicate hx], (hz0 _).1, (hz0 _).2⟩
  have htake : ((Array.range (c.toNat * i.size)).map (zv.cells[· % zv.cells.size]!)).toList.take (List.replicate l.toNat zv.cells.toList).flatten.length = (List.replicate l.toNat zv.cells.toList).flatten := by
    rw [hinit, show c.toNat = l.toNat + (c.toNat - l.toNat) from by omega, ← List.replicate_append_replicate, List.flatten_append]
    exact List.take_left
  have hp := push_row hok e z.length c.toNat _ (List.replicate l.toNat z) _ (C.w.alloc (.cells ((Array.range (c.toNat * i.size)).map (zv.cells[· % zv.cells.size]!)) e)) ⟨rfl, rfl, rfl, rfl⟩ hcs (by simp only [maxLen]; omega) (by simp; omega) helems htake
  refine ⟨.slice (some ⟨C.w.heap.size, 0, none⟩) l.toNat c.toNat, .own C.rows.length l.toNat 0 l.toNat, _, ?_, ?_, hp.1, hp.2, h⟩
  · have wl : IntKind.i64.wrap l = l := by simp only [IntKind.wrap, IntKind.bits, IntKind.signed]; simp; omega
    have wc : IntKind.i64.wrap c = c := by simp only [IntKind.wrap, IntKind.bits, IntKind.signed]; simp; omega
    have hso : (sizeOf e).run P C.w = .ok i.size C.w := by simp [sizeOf, typeInfo, hi]
    have hti : (typeInfo e).run P C.w = .ok i C.w := by simp [typeInfo, hi]
    have hb2 : (i.bytes : Int) * c ≤ 140737488355328 := by rw [Int.mul_comm]; exact h3
    have t1 : decide (c < 0) = false := by simp; omega
    have t2 : decide ((281474976710656 : Int) < i.bytes * c) = false := by simp; omega
    have t3 : decide (l < 0) = false := by simp; omega
    have t4 : decide (c < l) = false := by simp; omega
    simp only [Instr.makeSlice, Sem.run_bind, run_underlying hu, Result.andThen_ok, asInt, asIntOf, Sem.run_pure, hti, wl, wc]
    have hcond : ¬ ((decide (c < 0) || decide ((i.bytes : Int) * c > 2 ^ 48) || decide (l < 0) || decide (l > c)) = true) := by
      simp; omega
    rw [if_neg hcond]
    simp only [Sem.run_bind, run_askRoom, Result.andThen_ok, hso, Sem.run_pure, Sem.run_ite]
    by_cases h0 : c.toNat * i.size = 0
    · have hc0 : c.toNat = 0 := by
        rcases Nat.mul_eq_zero.1 h0 with h | h
        · exact h
        · omega
      rw [if_pos h0]
      have hr0 : Array.range 0 = #[] := rfl
      simp [hc0, newRow, hr0]
    · rw [if_neg h0]
      simp [run_zero hi hzv, newRow]
  · have := new_own (rows := C.rows) (phi := C.phi) (om := C.om) (w := C.w.alloc (.cells ((Array.range (c.toNat * i.size)).map (zv.cells[· % zv.cells.size]!)) e)) (e := e) (sz := z.length) (b := C.w.heap.size) (cap := c.toNat) (vals := List.replicate l.toNat z) hok.plen (by simp; omega)
    rw [hok.pm]
    simpa using this

theorem run_indexAddr' (hok : Ok C) {t e : TypeId} {n : Nat} (hu : P.underlying t = some (.slice e)) (hs : sizeT P e = some n) {x y : AVal} {cx cy : Value} (hx : Rep C x cx) (hy : Rep C y cy)
    (h : evIndexAddr C.rows n x y fun v => K v C.rows) : ∃ cv v, (Instr.indexAt t cx cy).run P C.w = .ok cv C.w ∧ Rep C v cv ∧ K v C.rows := by
  unfold evIndexAddr at h
  split at h
  · rename_i sz' vals k i
    obtain ⟨rfl, h0, h1, hk⟩ := h
    simp only [Rep] at hx hy
    subst hy
    obtain ⟨ao, cap, rfl, _, hr⟩ := hx
    rcases hr with hr | ⟨b, o, rfl, hb, he⟩
    · omega
    · have hi : i.toNat < vals.length := by omega
      obtain ⟨g1, g2⟩ := he.get i.toNat hi
      refine ⟨.pointer (some ⟨b, o + i.toNat * sz', none⟩), _, ?_, ?_, hk⟩
      · simp [Instr.indexAt, asIntOf, run_underlying hu, h0, h1, run_sizeOf hs, addr_add]
      · rw [Rep]; exact ⟨b, o + i.toNat * sz', rfl, hb, g2⟩
  · rename_i r m off len k i
    split at h
    · rename_i e' sz' vals hrow
      obtain ⟨rfl, hn, h0, h1, hk⟩ := h
      rw [Rep] at hy
      subst hy
      have hx' := hx
      rw [Rep] at hx
      obtain ⟨_, _, hrl, hx⟩ := hx
      obtain ⟨hol, p, hp, hv⟩ := (hx e' sz' vals hrow).2 hn
      rcases hok.live hrow with ⟨hl, hnil⟩ | ⟨b, cap, cs, hl, k1, k2, k3, k4, k5, k6⟩
      · subst hnil; simp at hn; omega
      · rw [hp] at hl; simp at hl; subst hl
        simp only [ownv] at hv
        obtain ⟨a, c, rfl, _, hsp, hbk, _, ho⟩ := hv
        have ha : a = ⟨b, off * sz', none⟩ := by
          obtain ⟨x, y, z⟩ := a
          simp only at hsp hbk ho
          rw [hsp, hbk, ho (by omega)]
        subst ha
        refine ⟨.pointer (some ⟨b, off * sz' + i.toNat * sz', none⟩), _, ?_, ?_, hk⟩
        · simp [Instr.indexAt, asIntOf, run_underlying hu, h0, h1, run_sizeOf hs, addr_add]
        · rw [Rep]
          refine ⟨hok.pm, ⟨_, rfl⟩, hrl, fun e2 sz2 vals2 h2 => ?_⟩
          rw [hrow] at h2
          simp at h2
          obtain ⟨rfl, rfl, rfl⟩ := h2
          exact ⟨by omega, fun _ => ⟨by omega, b, cap, hp, by rw [Nat.add_mul]; rfl⟩⟩
    · exact h.elim
  · exact h.elim

theorem run_sliceBounds {len cap : Nat} {lo hi : Option Value} {k k' : IntKind} {a b : Int} {w : World} (hlo : lo = some (.int k a) ∨ (lo = none ∧ a = 0)) (hhi : hi = some (.int k' b) ∨ (hi = none ∧ b = len))
    (h0 : 0 ≤ a) (h1 : a ≤ b) (h2 : b ≤ cap) (isSlice : Bool) : (Instr.sliceBounds isSlice len cap lo hi none).run P w = .ok (a.toNat, b.toNat, cap) w := by
  have hab : a ≤ (b.toNat : Int) := by omega
  rcases hlo with rfl | ⟨rfl, rfl⟩ <;> rcases hhi with rfl | ⟨rfl, rfl⟩ <;>
    simp only [Instr.sliceBounds, Instr.sliceBound, asIntOf, Sem.run_bind, Sem.run_pure, Result.andThen_ok, Sem.run_ite]
  · rw [if_pos ⟨by omega, h2⟩]
    simp only [Result.andThen_ok]
    rw [if_pos ⟨h0, hab⟩]
    rfl
  · rw [if_pos ⟨h0, by omega⟩]
    simp
  · rw [if_pos ⟨by omega, h2⟩]
    simp
  · simp

theorem run_slice' {t e : TypeId} {n : Nat} {x : AVal} {cx : Value} {lo hi : Option AVal} {clo chi : Option Value} (hx : Rep C x cx)
    (hu : P.underlying t = some (.slice e)) (hs : sizeT P e = some n)
    (hlo : (∃ l cl, lo = some l ∧ clo = some cl ∧ Rep C l cl) ∨ (lo = none ∧ clo = none)) (hhi : (∃ l cl, hi = some l ∧ chi = some cl ∧ Rep C l cl) ∨ (hi = none ∧ chi = none))
    (h : evSlice C.rows lo hi n x fun v => K v C.rows) : ∃ cv v, (Instr.sliceAt t cx clo chi none).run P C.w = .ok cv C.w ∧ Rep C v cv ∧ K v C.rows := by
  unfold evSlice at h
  split at h
  · exact h.elim
  rename_i l hl
  split at h
  · rename_i ka a kb b ea eb
    obtain ⟨h0, h1, h2, hk⟩ := h
    have hlo' : clo = some (.int ka a) ∨ (clo = none ∧ a = 0) := by
      rcases hlo with ⟨x, cl, rfl, rfl, hr⟩ | ⟨rfl, rfl⟩
      · simp at ea; subst ea; rw [Rep] at hr; subst hr; exact .inl rfl
      · simp at ea; exact .inr ⟨rfl, ea.2.symm⟩
    have hhi' : chi = some (.int kb b) ∨ (chi = none ∧ b = l) := by
      rcases hhi with ⟨x, cl, rfl, rfl, hr⟩ | ⟨rfl, rfl⟩
      · simp at eb; subst eb; rw [Rep] at hr; subst hr; exact .inl rfl
      · simp at eb; exact .inr ⟨rfl, eb.2.symm⟩
    -- a slice of the model
    have slc : ∀ {ao : Option Addr} {cap : Nat}, l ≤ cap →
        (Instr.sliceAt t (.slice ao l cap) clo chi none).run P C.w = .ok (.slice (if cap = a.toNat then ao else ao.map (·.add (a.toNat * n))) (b.toNat - a.toNat) (cap - a.toNat)) C.w := by
      intro ao cap hc
      simp [Instr.sliceAt, Instr.slice, run_underlying hu, run_sliceBounds (P := P) (w := C.w) (cap := cap) hlo' hhi' h0 h1 (by omega) true, run_sizeOf hs]
    cases x <;> simp only at hk
    case pure sz' vals =>
      obtain ⟨rfl, hk⟩ := hk
      simp [len?] at hl
      subst hl
      rw [Rep] at hx
      obtain ⟨ao, cap, rfl, hle, hr⟩ := hx
      refine ⟨_, _, slc hle, ?_, hk⟩
      rw [Rep]
      have hlen : ((vals.drop a.toNat).take (b.toNat - a.toNat)).length = b.toNat - a.toNat := by rw [List.length_take, List.length_drop]; omega
      refine ⟨_, _, by rw [hlen], by rw [hlen]; omega, ?_⟩
      rcases hr with hr | ⟨bb, o, rfl, hb, he⟩
      · exact .inl (by rw [hlen]; omega)
      · by_cases hz : b.toNat - a.toNat = 0
        · exact .inl (by rw [hlen]; exact hz)
        · right
          refine ⟨bb, o + a.toNat * sz', ?_, hb, (he.drop a.toNat).take _⟩
          rw [if_neg (by omega)]
          simp [addr_add]
    case nils =>
      simp [len?] at hl
      subst hl
      rw [Rep] at hx
      obtain ⟨ao, rfl⟩ := hx
      have ha : a.toNat = 0 := by omega
      have hb : b.toNat = 0 := by omega
      refine ⟨_, _, slc (Nat.le_refl _), ?_, hk⟩
      rw [Rep, ha, hb]
      exact ⟨_, rfl⟩
    case own r m off len =>
      simp [len?] at hl
      subst hl
      split at hk
      · rename_i e' sz' vals hrow
        obtain ⟨rfl, hn, hk⟩ := hk
        rw [Rep] at hx
        obtain ⟨hpm, _, hrl, hx⟩ := hx
        obtain ⟨hol, p, hp, hv⟩ := (hx e' sz' vals hrow).2 hn
        cases p with
        | none =>
          simp only [ownv] at hv
          obtain ⟨⟨ao, rfl⟩, rfl, rfl⟩ := hv
          have ha : a.toNat = 0 := by omega
          have hb : b.toNat = 0 := by omega
          refine ⟨_, _, slc (Nat.le_refl _), ?_, hk⟩
          rw [Rep, ha, hb]
          refine ⟨hpm, ⟨_, _, rfl⟩, hrl, fun e2 sz2 vals2 h2 => ⟨(hx e2 sz2 vals2 h2).1, fun _ => ⟨by omega, none, hp, ?_⟩⟩⟩
          simp [ownv]
        | some q =>
          obtain ⟨bk, cap⟩ := q
          simp only [ownv] at hv
          obtain ⟨ad, c, rfl, hlc, hsp, hbk, hoff, ho⟩ := hv
          refine ⟨_, _, slc hlc, ?_, hk⟩
          rw [Rep]
          refine ⟨hpm, ⟨_, _, rfl⟩, hrl, fun e2 sz2 vals2 h2 => ⟨(hx e2 sz2 vals2 h2).1, fun _ => ⟨by omega, _, hp, ?_⟩⟩⟩
          rw [hrow] at h2
          simp at h2
          obtain ⟨rfl, rfl, rfl⟩ := h2
          simp only [ownv]
          by_cases hca : c = a.toNat
          · rw [if_pos hca]
            refine ⟨ad, _, rfl, by omega, hsp, hbk, fun hz => ?_, fun hz => by omega⟩
            obtain ⟨g1, g2⟩ := hoff (by omega)
            exact ⟨g1, by omega⟩
          · rw [if_neg hca]
            have hadd : ad.add (a.toNat * sz') = ⟨bk, ad.off + a.toNat * sz', none⟩ := by
              obtain ⟨x, y, z⟩ := ad
              simp only at hsp hbk
              subst hsp; subst hbk
              exact addr_add _ _ _
            refine ⟨_, _, by rw [Option.map_some, hadd], by omega, rfl, rfl, fun hz => ?_, fun hz => ?_⟩
            · obtain ⟨g1, g2⟩ := hoff (by omega)
              have ha : a.toNat = 0 := by omega
              simp [ha, g1, g2]
            · show ad.off + a.toNat * sz' = _
              rw [ho (by omega), Nat.add_mul]
      · exact hk.elim
    all_goals exact hk.elim
  · exact h.elim

theorem run_sliceS' {t : TypeId} {x : AVal} {cx : Value} {lo hi : Option AVal} {clo chi : Option Value} (hx : Rep C x cx) (hu : P.underlying t = some .string)
    (hlo : (∃ l cl, lo = some l ∧ clo = some cl ∧ Rep C l cl) ∨ (lo = none ∧ clo = none)) (hhi : (∃ l cl, hi = some l ∧ chi = some cl ∧ Rep C l cl) ∨ (hi = none ∧ chi = none))
    (h : evSliceS lo hi x fun v => K v C.rows) : ∃ cv v, (Instr.sliceAt t cx clo chi none).run P C.w = .ok cv C.w ∧ Rep C v cv ∧ K v C.rows := by
  unfold evSliceS at h
  split at h
  · rename_i s
    split at h
    · rename_i ka a kb b ea eb
      obtain ⟨h0, h1, h2, hk⟩ := h
      rw [Rep] at hx
      subst hx
      have hlo' : clo = some (.int ka a) ∨ (clo = none ∧ a = 0) := by
        rcases hlo with ⟨x, cl, rfl, rfl, hr⟩ | ⟨rfl, rfl⟩
        · simp at ea; subst ea; rw [Rep] at hr; subst hr; exact .inl rfl
        · simp at ea; exact .inr ⟨rfl, ea.2.symm⟩
      have hhi' : chi = some (.int kb b) ∨ (chi = none ∧ b = s.size) := by
        rcases hhi with ⟨x, cl, rfl, rfl, hr⟩ | ⟨rfl, rfl⟩
        · simp at eb; subst eb; rw [Rep] at hr; subst hr; exact .inl rfl
        · simp at eb; exact .inr ⟨rfl, eb.2.symm⟩
      refine ⟨.string (s.extract a.toNat b.toNat), _, ?_, ?_, hk⟩
      · simp [Instr.sliceAt, Instr.slice, run_underlying hu, run_sliceBounds (P := P) (w := C.w) (cap := s.size) hlo' hhi' h0 h1 h2 false]
      · rw [Rep]
    · exact h.elim
  · exact h.elim

end
end Go.Abs
