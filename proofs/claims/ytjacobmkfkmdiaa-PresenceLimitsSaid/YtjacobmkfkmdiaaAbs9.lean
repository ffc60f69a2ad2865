/- Each operation does what its abstract form says (3). -/
import Derived.Test.YtjacobmkfkmdiaaAbs8
set_option linter.unusedSimpArgs false
set_option linter.unusedVariables false
set_option linter.unusedSectionVars false
namespace Go.Abs
section
variable {P : Program} {C : Ctx} {K : AVal → List Row → Prop}

theorem run_alloc' (hok : Ok C) {t : TypeId} {z : List AVal} (hz : zeroOf P t = some z) (h : K (.ref C.rows.length 1 0 0) (C.rows ++ [.live t z.length [z]])) :
    ∃ cv v C', (Instr.alloc t true (.tuple #[])).run P C.w = .ok cv C'.w ∧ Rep C' v cv ∧ Ok C' ∧ Later C.rows.length C C' ∧ K v C'.rows := by
  obtain ⟨i, zv, hi, hzv, habs, hl, hpos, hsz⟩ := zeroOf_spec hz
  obtain ⟨k1, k2⟩ := absVs_rep (C := C) habs
  have hlen := k1.length
  have hp := push_row hok t z.length 1 zv.cells [z] zv.cells.toList (C.w.alloc (.cells zv.cells t)) ⟨rfl, rfl, rfl, rfl⟩ (by omega) (by simp [maxLen]) (by simp) (elems_one rfl k1 (ones_rep k1 k2)) List.take_length
  refine ⟨.pointer (some ⟨C.w.heap.size, 0, none⟩), _, _, ?_, (hok.pm ▸ new_ref hok.plen), hp.1, hp.2, h⟩
  simp [Instr.alloc, run_zero hi hzv, newVar, newRow]

theorem run_box' (hok : Ok C) {t : TypeId} {n : Nat} {x : AVal} {cx : Value} (hx : Rep C x cx) (h1 : (acells x).length = n) (h2 : (acells x).all one = true)
    (h : K (.ref C.rows.length 1 0 0) (C.rows ++ [.live t n [acells x]])) :
    ∃ cv v C', (Instr.box t cx).run P C.w = .ok cv C'.w ∧ Rep C' v cv ∧ Ok C' ∧ Later C.rows.length C C' ∧ K v C'.rows := by
  obtain ⟨k1, k2⟩ := cells_rep hx h2
  have hlen := k1.length
  simp only [Array.length_toList] at hlen
  have hp := push_row hok t n 1 cx.cells [acells x] cx.cells.toList (C.w.alloc (.cells cx.cells t)) ⟨rfl, rfl, rfl, rfl⟩ (by omega) (by simp [maxLen]) (by simp) (elems_one h1 k1 k2) List.take_length
  refine ⟨.pointer (some ⟨C.w.heap.size, 0, none⟩), _, _, ?_, (hok.pm ▸ new_ref hok.plen), hp.1, hp.2, h⟩
  simp [Instr.box, newVar, newRow]

theorem run_mapM_places {w : World} : ∀ (fs : List Field) (ps : List (Nat × Nat)), fs.mapM (fun f => (sizeT P f.type).map fun n => (f.offset, n)) = some ps →
    (fs.mapM (m := Sem) fun f => do pure (f.offset, ← sizeOf f.type)).run P w = .ok ps w
  | [], ps, h => by simp at h; subst h; simp
  | f :: fs, ps, h => by
    simp only [List.mapM_cons] at h
    cases hs : sizeT P f.type with
    | none => simp [hs] at h
    | some n =>
      cases hr : fs.mapM (fun f => (sizeT P f.type).map fun n => (f.offset, n)) with
      | none => simp [hs, hr] at h
      | some rest =>
        simp [hs, hr] at h
        subst h
        have ih := run_mapM_places (w := w) fs rest hr
        simp only [List.mapM_cons, Sem.run_bind, run_sizeOf hs, Result.andThen_ok, Sem.run_pure, ih]

theorem zip_map_pair (parts : List (Nat × Operand)) (ρ : Operand → Value) : (parts.map fun p => (p.1, ρ p.2)) = (parts.map (·.1)).zip ((parts.map (·.2)).map ρ) := by
  induction parts with
  | nil => rfl
  | cons p ps ih => simp [ih]

theorem run_build' {t : TypeId} {z : List AVal} {fields : Array Field} {places : List (Nat × Nat)} {parts : Array (Nat × Operand)} {ρ : Operand → Value} {vs cs : List AVal} {w : World}
    (hz : zeroOf P t = some z) (hu : P.underlying t = some (.struct fields)) (hp : fields.toList.mapM (fun f => (sizeT P f.type).map fun n => (f.offset, n)) = some places)
    (ha : (parts.toList.map (·.1)).all (fun i => (places[i]?).isSome) = true) (hr : RepL C vs ((parts.toList.map (·.2)).map ρ))
    (hf : fillC z ((parts.toList.map (·.1)).filterMap (places[·]?)) vs = some cs) (h1 : (vs.all fun v => (acells v).all one) = true) :
    ∃ cv, (Instr.build t (parts.map fun (i, x) => (i, ρ x))).run P w = .ok cv w ∧ Rep C (.agg cs) cv := by
  obtain ⟨i, zv, hi, hzv, habs, hl, hpos, hsz⟩ := zeroOf_spec hz
  obtain ⟨k1, k2⟩ := absVs_rep (C := C) habs
  obtain ⟨r, r1, r2, _⟩ := fill_rep (C := C) (fun (i : Nat) => places[i]?) (parts.toList.map (·.1)) _ vs _ z cs zv.cells rfl ha hr hf h1 k1
  refine ⟨.agg r, ?_, by rw [Rep]; exact ⟨r, rfl, r2⟩⟩
  have hm := run_mapM_places (P := P) (w := w) fields.toList places hp
  have hm' : (fields.mapM (m := Sem) fun f => do pure (f.offset, ← sizeOf f.type)).run P w = .ok places.toArray w := by
    rw [Array.mapM_eq_mapM_toList]
    simp only [Sem.run_map, hm, Result.andThen_ok]
  have hz2 : (parts.map fun (i, x) => (i, ρ x)).toList = (parts.toList.map (·.1)).zip ((parts.toList.map (·.2)).map ρ) := by
    rw [Array.toList_map]; exact zip_map_pair _ _
  simp only [Instr.build, Sem.run_bind, run_zero hi hzv, Result.andThen_ok, run_underlying hu, hm']
  have : (fun (x : Nat) => places.toArray[x]?) = fun (i : Nat) => places[i]? := by funext x; simp
  rw [hz2, this, r1]
  simp

theorem run_bslice' (hok : Ok C) {t e : TypeId} {z : List AVal} {len : Nat} {parts : Array (Nat × Operand)} {ρ : Operand → Value} {vs : List AVal} {es : List (List AVal)}
    (hu : P.underlying t = some (.slice e)) (hz : zeroOf P e = some z) (hlen : len * z.length ≤ 16777216)
    (hr : RepL C vs ((parts.toList.map (·.2)).map ρ)) (hf : fillE (List.replicate len z) z.length (parts.toList.map (·.1)) vs = some es) (h1 : (vs.all fun v => (acells v).all one) = true)
    (h : K (.own C.rows.length len 0 len) (C.rows ++ [.live e z.length es])) :
    ∃ cv v C', (Instr.buildSlice t len (parts.map fun (i, x) => (i, ρ x))).run P C.w = .ok cv C'.w ∧ Rep C' v cv ∧ Ok C' ∧ Later C.rows.length C C' ∧ K v C'.rows := by
  obtain ⟨i, zv, hi, hzv, habs, hl, hpos, hsz⟩ := zeroOf_spec hz
  obtain ⟨k1, k2⟩ := absVs_rep (C := C) habs
  have ho := ones_rep k1 k2
  obtain ⟨f1, f2, f3⟩ := fillE_fillC _ vs _ es hf (by intro x hx; rw [List.eq_of_mem_replicate hx])
  rw [List.length_replicate] at f3
  -- the zero cells
  have hz0 : RepL C (List.replicate len z).flatten (List.replicate len zv.cells.toList).flatten ∧ allOne (List.replicate len zv.cells.toList).flatten := by
    clear hf f1 f3 hlen h
    induction len with
    | zero => simp [RepL, allOne]
    | succ n ih =>
      rw [List.replicate_succ, List.replicate_succ, List.flatten_cons, List.flatten_cons]
      refine ⟨k1.append ih.1, fun v hv => ?_⟩
      rcases List.mem_append.1 hv with hv | hv
      · exact ho v hv
      · exact ih.2 v hv
  have hsize : i.size = z.length := hl.symm
  have hinit : ((Array.range (len * i.size)).map (zv.cells[· % zv.cells.size]!)).toList = (List.replicate len zv.cells.toList).flatten := by
    rw [← hsz]; exact zeroRow zv.cells len
  obtain ⟨r, r1, r2, r3⟩ := fill_rep (C := C) (fun j => some (j * z.length, z.length)) (parts.toList.map (·.1)) ((parts.toList.map (·.1)).map fun j => (j * z.length, z.length)) vs _ _ es.flatten
    ((Array.range (len * i.size)).map (zv.cells[· % zv.cells.size]!)) (by rw [← List.filterMap_eq_map]; rfl) (by simp) hr f1 h1 (by rw [hinit]; exact hz0.1)
  have r4 := r3 (by rw [hinit]; exact hz0.2)
  have helems : Elems C z.length es r.toList := ⟨f2, r2, r4⟩
  have hrl := helems.length
  simp only [Array.length_toList] at hrl
  have hlm : len ≤ maxLen := by
    have : len ≤ len * z.length := Nat.le_mul_of_pos_right _ (by omega)
    simp only [maxLen]; omega
  have hp := push_row hok e z.length len r es r.toList (C.w.alloc (.cells r e)) ⟨rfl, rfl, rfl, rfl⟩ (by rw [hrl, f3]) hlm (by omega) helems List.take_length
  refine ⟨.slice (some ⟨C.w.heap.size, 0, none⟩) len len, .own C.rows.length len 0 len, _, ?_, ?_, hp.1, hp.2, h⟩
  · have hz2 : (parts.map fun (i, x) => (i, ρ x)).toList = (parts.toList.map (·.1)).zip ((parts.toList.map (·.2)).map ρ) := by
      rw [Array.toList_map]; exact zip_map_pair _ _
    have hso : (sizeOf e).run P C.w = .ok i.size C.w := by simp [sizeOf, typeInfo, hi]
    rw [← hsize] at r1 hlen
    simp only [Instr.buildSlice, Sem.run_bind, run_underlying hu, Result.andThen_ok, hso, Sem.run_ite]
    rw [if_neg (by omega)]
    by_cases h0 : len * i.size = 0
    · have hlen0 : len = 0 := by
        rcases Nat.mul_eq_zero.1 h0 with h | h
        · exact h
        · omega
      subst hlen0
      have er : Array.map (fun x => zv.cells[x % zv.cells.size]!) (Array.range (0 * i.size)) = #[] := by simp
      have eg : Array.map (fun x => (#[] : Array Value)[x % (#[] : Array Value).size]!) (Array.range (0 * i.size)) = #[] := by simp
      rw [er] at r1
      rw [if_pos h0]
      simp only [Sem.run_pure, Result.andThen_ok]
      rw [eg, hz2, r1]
      simp [newRow]
    · simp only [h0, if_false, Sem.run_bind, run_zero hi hzv, Sem.run_pure, Result.andThen_ok]
      rw [hz2, r1]
      simp [newRow]
  · have := new_own (rows := C.rows) (phi := C.phi) (om := C.om) (w := C.w.alloc (.cells r e)) (e := e) (sz := z.length) (b := C.w.heap.size) (cap := len) (vals := es) hok.plen (by omega)
    rw [f3] at this
    rw [hok.pm]
    exact this

end
end Go.Abs
