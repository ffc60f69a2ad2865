/- Laws on lists of cells: a part put in its place; zero cells. -/
import Derived.Test.YtjacobmkfkmdiaaAbs4
set_option linter.unusedSimpArgs false
set_option linter.unusedVariables false
set_option linter.unusedSectionVars false
namespace Go.Abs

theorem splice_take {α : Type} (l ws : List α) (n o : Nat) (h : o + ws.length ≤ n) (hn : n ≤ l.length) :
    (l.take o ++ ws ++ l.drop (o + ws.length)).take n = (l.take n).take o ++ ws ++ (l.take n).drop (o + ws.length) := by
  refine List.ext_getElem? fun j => ?_
  simp only [List.getElem?_take, List.getElem?_append, List.getElem?_drop, List.length_append, List.length_take]
  have h1 : min o l.length = o := by omega
  have h2 : min n l.length = n := by omega
  have h3 : min o (min n l.length) = o := by omega
  simp only [h1, h3]
  by_cases a : j < n
  · by_cases b : j < o
    · have c : j < o + ws.length := by omega
      simp [a, b, c]
    · by_cases c : j < o + ws.length
      · simp [a, b, c]
      · simp only [a, c, if_true, if_false]
        rw [if_pos (by omega)]
  · have b : ¬ j < o + ws.length := by omega
    have c : ¬ o + ws.length + (j - (o + ws.length)) < n := by omega
    simp [a, b, c]

theorem flatten_set {sz : Nat} (c : List AVal) (off : Nat) : ∀ (vals : List (List AVal)) (i : Nat), (∀ e ∈ vals, e.length = sz) → i < vals.length → off + c.length ≤ sz →
    (vals.set i (splice (vals.getD i []) off c)).flatten = splice vals.flatten (i * sz + off) c
  | [], i, _, h, _ => by simp at h
  | e :: es, 0, hs, _, ho => by
    have he := hs e (by simp)
    simp only [List.set_cons_zero, List.getD_cons_zero, List.flatten_cons, Nat.zero_mul, Nat.zero_add, splice]
    rw [List.take_append_of_le_length (by omega), List.drop_append_of_le_length (by omega)]
    simp
  | e :: es, i + 1, hs, hi, ho => by
    have he := hs e (by simp)
    have ih := flatten_set c off es i (fun x hx => hs x (by simp [hx])) (by simpa using hi) ho
    simp only [List.set_cons_succ, List.getD_cons_succ, List.flatten_cons, ih]
    simp only [splice]
    have e1 : (i + 1) * sz + off = e.length + (i * sz + off) := by rw [he, Nat.add_mul]; omega
    rw [e1, List.take_length_add_append, Nat.add_assoc e.length, List.drop_length_add_append]
    simp

theorem splice_length {l c : List AVal} {off : Nat} (h : off + c.length ≤ l.length) : (splice l off c).length = l.length := by
  simp only [splice, List.length_append, List.length_take, List.length_drop]; omega

theorem RepL.splice {C : Ctx} {xs c : List AVal} {vs ws : List Value} {o : Nat} (h : RepL C xs vs) (k : RepL C c ws) :
    RepL C (Abs.splice xs o c) (vs.take o ++ ws ++ vs.drop (o + ws.length)) := by
  unfold Abs.splice
  rw [← k.length]
  exact ((h.take o).append k).append (h.drop _)

theorem allOne.splice {vs ws : List Value} {o k : Nat} (h : allOne vs) (h' : allOne ws) : allOne (vs.take o ++ ws ++ vs.drop k) := by
  intro v hv
  rcases List.mem_append.1 hv with hv | hv
  · rcases List.mem_append.1 hv with hv | hv
    · exact h v (List.mem_of_mem_take hv)
    · exact h' v hv
  · exact h v (List.mem_of_mem_drop hv)

theorem foldl_set (off : Nat) : ∀ (ws : List Value) (k : Nat) (cells : Array Value), off + k + ws.length ≤ cells.size →
    ((ws.zipIdx k).foldl (fun cs (x : Value × Nat) => cs.setIfInBounds (off + x.2) x.1) cells).toList = cells.toList.take (off + k) ++ ws ++ cells.toList.drop (off + k + ws.length)
  | [], k, cells, _ => by simp
  | v :: rest, k, cells, h => by
    simp only [List.zipIdx_cons, List.foldl_cons]
    rw [foldl_set off rest (k + 1) _ (by simp at h ⊢; omega)]
    have e := list_seg_step cells.toList (off + k) v rest (by simp at h ⊢; omega)
    simpa [Array.toList_setIfInBounds, Nat.add_assoc] using e

theorem fill_step (cells : Array Value) (off : Nat) (v : Value) (h : off + v.cells.size ≤ cells.size) :
    (v.cells.zipIdx.foldl (fun cs (x : Value × Nat) => cs.setIfInBounds (off + x.2) x.1) cells).toList = cells.toList.take off ++ v.cells.toList ++ cells.toList.drop (off + v.cells.toList.length) := by
  have := foldl_set off v.cells.toList 0 cells (by simpa using h)
  simp only [Nat.add_zero] at this
  rw [← this, ← Array.foldl_toList]
  simp

/-- 'fill' puts parts where 'fillC' puts them -/
theorem fill_rep {C : Ctx} (place : Nat → Option (Nat × Nat)) : ∀ (idx : List Nat) (ps : List (Nat × Nat)) (vs : List AVal) (ws : List Value) (cs cs' : List AVal) (cells : Array Value),
    ps = idx.filterMap place → idx.all (fun i => (place i).isSome) = true → RepL C vs ws → fillC cs ps vs = some cs' → (vs.all fun v => (acells v).all one) = true → RepL C cs cells.toList →
    ∃ r, Instr.fill place cells (idx.zip ws) = some r ∧ RepL C cs' r.toList ∧ (allOne cells.toList → allOne r.toList)
  | [], ps, vs, ws, cs, cs', cells, hp, _, hv, hf, h1, hc => by
    simp at hp; subst hp
    cases vs with
    | nil => simp [fillC] at hf; subst hf; exact ⟨cells, by simp [Instr.fill], hc, fun h => h⟩
    | cons v vs => simp [fillC] at hf
  | i :: idx, ps, vs, ws, cs, cs', cells, hp, ha, hv, hf, h1, hc => by
    simp only [List.all_cons, Bool.and_eq_true] at ha
    obtain ⟨q, hq⟩ := Option.isSome_iff_exists.1 ha.1
    obtain ⟨off, sz⟩ := q
    simp only [List.filterMap_cons, hq] at hp
    subst hp
    cases vs with
    | nil => simp [fillC] at hf
    | cons v vs =>
      rw [RepL] at hv
      obtain ⟨u, rest, rfl, hu, hrest⟩ := hv
      simp only [List.all_cons, Bool.and_eq_true] at h1
      simp only [fillC] at hf
      split at hf
      · rename_i hcond
        obtain ⟨k1, k2⟩ := cells_rep hu h1.1
        have hlen : u.cells.toList.length = (acells v).length := k1.length
        have hcl := hc.length
        simp only [Array.length_toList] at hlen hcl
        have hst := fill_step cells off u (by omega)
        have hrep : RepL C (splice cs off (acells v)) (u.cells.zipIdx.foldl (fun cs (x : Value × Nat) => cs.setIfInBounds (off + x.2) x.1) cells).toList := by
          rw [hst]; exact hc.splice k1
        obtain ⟨r, r1, r2, r3⟩ := fill_rep place idx _ vs rest _ cs' _ rfl ha.2 hrest hf h1.2 hrep
        refine ⟨r, ?_, r2, fun hone => r3 ?_⟩
        · simp only [List.zip_cons_cons, Instr.fill, hq]
          rw [if_neg (by simp; omega)]
          exact r1
        · rw [hst]; exact hone.splice k2
      · cases hf

theorem zeroRow (z : Array Value) : ∀ (n : Nat), ((Array.range (n * z.size)).map (z[· % z.size]!)).toList = (List.replicate n z.toList).flatten
  | 0 => by simp
  | n + 1 => by
    rw [List.replicate_succ', List.flatten_append, ← zeroRow z n]
    refine List.ext_getElem? fun j => ?_
    simp only [Array.toList_map, Array.toList_range, List.getElem?_map, List.getElem?_append, List.length_map, List.length_range, List.flatten_cons, List.flatten_nil, List.append_nil]
    by_cases h : j < n * z.size
    · rw [if_pos h, List.getElem?_range h, List.getElem?_range (by rw [Nat.add_mul]; omega)]
    · rw [if_neg h]
      by_cases h2 : j < (n + 1) * z.size
      · have h3 : j - n * z.size < z.size := by rw [Nat.add_mul] at h2; omega
        rw [List.getElem?_range h2]
        have : j % z.size = j - n * z.size := by
          rw [Nat.mod_eq_sub_mul_div]
          have : j / z.size = n := by
            refine Nat.div_eq_of_lt_le ?_ ?_
            · omega
            · exact h2
          rw [this, Nat.mul_comm]
        simp [this, h3]
      · rw [Nat.add_mul] at h2
        rw [List.getElem?_eq_none (by simp [Nat.add_mul]; omega), List.getElem?_eq_none (by simp; omega)]
        rfl

theorem fillE_fillC {sz : Nat} : ∀ (idx : List Nat) (vs : List AVal) (es es' : List (List AVal)), fillE es sz idx vs = some es' → (∀ e ∈ es, e.length = sz) →
    fillC es.flatten (idx.map fun i => (i * sz, sz)) vs = some es'.flatten ∧ (∀ e ∈ es', e.length = sz) ∧ es'.length = es.length
  | [], [], es, es', h, hs => by simp [fillE] at h; subst h; exact ⟨by simp [fillC], hs, rfl⟩
  | [], v :: vs, es, es', h, hs => by simp [fillE] at h
  | i :: idx, [], es, es', h, hs => by simp [fillE] at h
  | i :: idx, v :: vs, es, es', h, hs => by
    simp only [fillE] at h
    split at h
    · rename_i hc
      have hget : es.getD i [] ∈ es := by
        rw [List.getD_eq_getElem?_getD, List.getElem?_eq_getElem hc.2]; simp
      have hsp : splice (es.getD i []) 0 (acells v) = acells v := by
        have := hs _ hget
        simp only [splice, List.take_zero, List.nil_append, Nat.zero_add]
        rw [List.drop_eq_nil_of_le (by omega)]
        simp
      have hf := flatten_set (sz := sz) (acells v) 0 es i hs hc.2 (by omega)
      rw [hsp, Nat.add_zero] at hf
      have hs' : ∀ e ∈ es.set i (acells v), e.length = sz := by
        intro e he
        rcases List.mem_or_eq_of_mem_set he with he | rfl
        · exact hs e he
        · exact hc.1
      obtain ⟨k1, k2, k3⟩ := fillE_fillC idx vs _ es' h hs'
      refine ⟨?_, k2, by simpa using k3⟩
      simp only [List.map_cons, fillC]
      have hle : i * sz + sz ≤ es.flatten.length := by
        rw [flatten_length hs]
        have : (i + 1) * sz ≤ es.length * sz := Nat.mul_le_mul_right _ hc.2
        rw [Nat.add_mul] at this; omega
      rw [if_pos ⟨hc.1, hle⟩, ← hf]
      exact k1
    · cases h

end Go.Abs
