/- A time is added to the sheet. -/
import Derived.Test.YtpincjkjoeopkaaGreatDoorF9Sht
set_option linter.unusedSimpArgs false
set_option linter.unusedVariables false
set_option linter.unusedSectionVars false
namespace Go.Proofs.YtpincjkjoeopkaaGreatDoor
open Go Go.Abs
set_option linter.unusedSimpArgs false
set_option linter.unusedVariables false

theorem ShX.ext {rows t : List Row} {s m : Nat} {fr to : Int} {ks : List Int} {V : Int → Bool → List (List AVal)} {X : Int → Bool → Nat} (h : ShX rows s m fr to ks V X) (ht : ∀ row ∈ t, inRow (rows.length + t.length) row = true) : ShX (rows ++ t) s m fr to ks V X :=
  ⟨inAll_app h.all ht, app_some h.s, app_some h.m, h.nd, h.out, h.cl, fun d k hv => app_some (h.x d k hv), h.inj⟩
def ShR (rows : List Row) (s m : Nat) (fr to : Int) (ks : List Int) (V : Int → Bool → List (List AVal)) : Prop := ∃ X, ShX rows s m fr to ks V X
theorem ShF.app {rows t : List Row} {m : Nat} : ShF rows (rows ++ t) m := ⟨by simp, fun r row h _ _ => app_some h⟩
theorem one_shV {X : Int → Bool → Nat} {V : Int → Bool → List (List AVal)} {d : Int} {k : Bool} : one (shV X V d k) = true := by
  unfold shV
  split <;> rfl
theorem sh_look {X : Int → Bool → Nat} {V : Int → Bool → List (List AVal)} {ks : List Int} {day : Int} (h : ∀ d k, V d k ≠ [] → d ∈ ks) :
    ∃ dd : Int, (kfind (.int .i64 day) (mapF (shD X V) ks)).getD (.agg [.int .i64 0, .nils, .nils]) = .agg [.int .i64 dd, shV X V day false, shV X V day true] := by
  rw [kfind_mapF]
  by_cases hd : day ∈ ks
  · exact ⟨day, by rw [if_pos hd]; rfl⟩
  · have hv : ∀ k, V day k = [] := fun k => by
      apply Classical.byContradiction
      intro hne
      exact hd (h day k hne)
    exact ⟨0, by rw [if_neg hd]; simp [shV, hv]⟩
theorem sh_kput {X : Int → Bool → Nat} {V : Int → Bool → List (List AVal)} {ks : List Int} {day : Int} {c : List AVal} {q : Nat} (hn : ks.Nodup) (k : Bool) (v : AVal) (hv : v = shD (shPut X day k q) (shAdd V day k c) day) :
    kput (.int .i64 day) v (mapF (shD X V) ks) = mapF (shD (shPut X day k q) (shAdd V day k c)) (addK day ks) := by
  rw [hv]
  refine kput_mapG (fun x hx => ?_) hn
  have e1 : ∀ k', shPut X day k q x k' = X x k' := fun k' => by unfold shPut; rw [if_neg (fun e => hx e.1)]
  have e2 : ∀ k', shAdd V day k c x k' = V x k' := fun k' => by unfold shAdd; rw [if_neg (fun e => hx e.1)]
  unfold shD shV
  rw [e1, e1, e2, e2]

theorem shD_put {X : Int → Bool → Nat} {V : Int → Bool → List (List AVal)} {d : Int} {c : List AVal} {q : Nat} (k : Bool) :
    shD (shPut X d k q) (shAdd V d k c) d = .agg [.int .i64 d, if k then shV X V d false else .own q ((V d k).length + 1) 0 ((V d k).length + 1), if k then .own q ((V d k).length + 1) 0 ((V d k).length + 1) else shV X V d true] := by
  unfold shD shV shPut shAdd
  cases k <;> simp
/-- the map's row at the end -/
def shM (X : Int → Bool → Nat) (V : Int → Bool → List (List AVal)) (ks : List Int) (d : Int) (v : AVal) : Row := .obj (.map false [.int .i64] (kput (.int .i64 d) v (mapF (shD X V) ks)))
theorem ShX.lt {rows : List Row} {s m : Nat} {fr to : Int} {ks : List Int} {V : Int → Bool → List (List AVal)} {X : Int → Bool → Nat} (h : ShX rows s m fr to ks V X) (d : Int) (k : Bool) (hv : V d k ≠ []) : X d k < rows.length := row_lt (h.x d k hv)
theorem sh_fin {rows W : List Row} {s m : Nat} {fr to : Int} {ks : List Int} {V : Int → Bool → List (List AVal)} {X : Int → Bool → Nat} (h : ShX rows s m fr to ks V X) (d : Int) (k : Bool) (c : List AVal) (hc : cleanL c = true) (q : Nat) (v : AVal)
    (hv : v = .agg [.int .i64 d, if k then shV X V d false else .own q ((V d k).length + 1) 0 ((V d k).length + 1), if k then .own q ((V d k).length + 1) 0 ((V d k).length + 1) else shV X V d true])
    (hq : V d k ≠ [] → q = X d k) (hq0 : V d k = [] → rows.length ≤ q) (hW : inAll W) (hl : rows.length ≤ W.length) (hn : W[q]? = some (.live (shT k) 2 (V d k ++ [c]))) (ho : ∀ r row, rows[r]? = some row → r ≠ q → W[r]? = some row) :
    ShF rows (W.set m (shM X V ks d v)) m ∧ ShR (W.set m (shM X V ks d v)) s m fr to (addK d ks) (shAdd V d k c) := by
  have hmq : m ≠ q := fun e => by
    by_cases hv0 : V d k = []
    · have := hq0 hv0; have := row_lt h.m; omega
    · have h1 := h.m; rw [e, hq hv0, h.x d k hv0] at h1; cases h1
  have hmW : m < W.length := Nat.lt_of_lt_of_le (row_lt h.m) hl
  have hM : shM X V ks d v = .obj (.map false [.int .i64] (mapF (shD (shPut X d k q) (shAdd V d k c)) (addK d ks))) := by
    unfold shM
    rw [sh_kput (c := c) (q := q) h.nd k v (by rw [hv, shD_put])]
  have ho' : ∀ r row, rows[r]? = some row → r ≠ m → r ≠ q → (W.set m (shM X V ks d v))[r]? = some row := fun r row h1 h2 h3 => by
    rw [List.getElem?_set, if_neg (fun e => h2 e.symm)]; exact ho r row h1 h3
  refine ⟨⟨by rw [List.length_set]; exact hl, fun r row h1 h2 h3 => ho' r row h1 h2 fun e => ?_⟩, shPut X d k q, h.app d k c hc q hq hq0 ?_ ?_ ?_ ho'⟩
  · by_cases hv0 : V d k = []
    · have := hq0 hv0; have := row_lt h1; omega
    · rw [e, hq hv0, h.x d k hv0] at h1
      exact h3 k _ (Option.some.inj h1).symm
  · refine inAll_set hW ?_
    rw [hM]
    refine inM_map fun x _ => shD_in (fun d' k' hv' => ?_) x
    unfold shAdd at hv'
    unfold shPut
    split
    · exact row_lt hn
    · rename_i e
      rw [if_neg e] at hv'
      exact Nat.lt_of_lt_of_le (h.lt d' k' hv') hl
  · rw [List.getElem?_set, if_pos rfl, if_pos hmW, hM]
  · rw [List.getElem?_set, if_neg hmq]; exact hn
/-- a first element: T are the rows behind -/
theorem sh_new {rows T : List Row} {s m : Nat} {fr to : Int} {ks : List Int} {V : Int → Bool → List (List AVal)} {X : Int → Bool → Nat} (h : ShX rows s m fr to ks V X) (d : Int) (k : Bool) (c : List AVal) (hc : cleanL c = true) (j : Nat) (v : AVal)
    (hv0 : V d k = []) (hv : v = .agg [.int .i64 d, if k then shV X V d false else .own (rows.length + j) 1 0 1, if k then .own (rows.length + j) 1 0 1 else shV X V d true])
    (hT : T[j]? = some (.live (shT k) 2 [c])) (hTi : ∀ row ∈ T, inRow (rows.length + T.length) row = true) :
    ShF rows ((rows ++ T).set m (shM X V ks d v)) m ∧ ShR ((rows ++ T).set m (shM X V ks d v)) s m fr to (addK d ks) (shAdd V d k c) :=
  sh_fin h d k c hc (rows.length + j) v (by rw [hv, hv0]; rfl) (fun e => absurd hv0 e) (fun _ => by omega) (inAll_app h.all hTi) (by simp) (by rw [app_at, hT, hv0]; rfl) fun r row h1 _ => app_some h1
/-- a further one -/
theorem sh_more {rows T : List Row} {s m : Nat} {fr to : Int} {ks : List Int} {V : Int → Bool → List (List AVal)} {X : Int → Bool → Nat} (h : ShX rows s m fr to ks V X) (d : Int) (k : Bool) (c : List AVal) (hc : cleanL c = true) (v : AVal)
    (hv0 : V d k ≠ []) (hv : v = .agg [.int .i64 d, if k then shV X V d false else .own (X d k) ((V d k).length + 1) 0 ((V d k).length + 1), if k then .own (X d k) ((V d k).length + 1) 0 ((V d k).length + 1) else shV X V d true])
    (hTi : ∀ row ∈ T, inRow (rows.length + T.length) row = true) :
    ShF rows ((rows.set (X d k) (.live (shT k) 2 (V d k ++ [c])) ++ T).set m (shM X V ks d v)) m ∧ ShR ((rows.set (X d k) (.live (shT k) 2 (V d k ++ [c])) ++ T).set m (shM X V ks d v)) s m fr to (addK d ks) (shAdd V d k c) := by
  have hl := h.lt d k hv0
  have hi : inAll (rows.set (X d k) (.live (shT k) 2 (V d k ++ [c]))) := inAll_set h.all (inE_clean (by rw [cleanE_append, h.cl]; simp [cleanE, hc]))
  refine sh_fin h d k c hc (X d k) v hv (fun _ => rfl) (fun e => absurd e hv0) (inAll_app hi (by rw [List.length_set]; exact hTi)) (by simp) ?_ fun r row h1 h2 => app_some ?_
  · refine app_some ?_
    rw [List.getElem?_set, if_pos rfl, if_pos hl]
  · rw [List.getElem?_set, if_neg (fun e => h2 e.symm)]; exact h1

theorem addTime_ok {rows : List Row} {s m : Nat} {fr to : Int} {ks : List Int} {V : Int → Bool → List (List AVal)} (h0 : ShR rows s m fr to ks V) (hB : ∀ d k, (V d k).length ≤ 1000000) (day : Int) (nm : ByteArray) (mn : Int) :
    AFn Tryz.prog 118 [.ref s 1 0 0, .int .i64 day, .agg [.str nm, .int .i64 mn]] rows
      (fun v W => v = .tup [] ∧ ShF rows W m ∧ if fr ≤ day ∧ day ≤ to then ShR W s m fr to (addK day ks) (shAdd V day false [.str nm, .int .i64 mn]) else ShR W s m fr to ks V) := by
  obtain ⟨X, h⟩ := h0
  refine afn Tryz.func118 a118_ok (by simp [a118, s118]) ?_
  have hs := h.s
  have hm := h.m
  by_cases hd : fr ≤ day ∧ day ≤ to
  rotate_left
  · have key : ∀ (t : List Row), (∀ row ∈ t, inRow (rows.length + t.length) row = true) → ShF rows (rows ++ t) m ∧ if fr ≤ day ∧ day ≤ to then ShR (rows ++ t) s m fr to (addK day ks) (shAdd V day false [.str nm, .int .i64 mn]) else ShR (rows ++ t) s m fr to ks V := fun t ht =>
      ⟨ShF.app, by rw [if_neg hd]; exact ⟨X, h.ext ht⟩⟩
    by_cases d1 : day < fr
    · simp only [go_sem,a118,s118,List.append_assoc,app_some hs,d1]
      exact Cl.here ⟨rfl, key _ (by simp [inRow, inE, inL, inV])⟩
    · have d2 : to < day := by omega
      simp only [go_sem,a118,s118,List.append_assoc,app_some hs,d1,d2]
      exact Cl.here ⟨rfl, key _ (by simp [inRow, inE, inL, inV])⟩
  have d1 : ¬ day < fr := by omega
  have d2 : ¬ to < day := by omega
  obtain ⟨dd, hlook⟩ := sh_look (X := X) (day := day) h.out
  have hB1 := hB day false
  have h1 : one (shV X V day true) = true := one_shV
  have hin : ∀ n, rows.length ≤ n → inV n (shV X V day true) = true := fun n hn => inV_mono hn _ (shV_in h.lt day true)
  by_cases hv : V day false = []
  · have e0 : shV X V day false = .nils := by unfold shV; rw [hv]; rfl
    rw [e0] at hlook
    simp only [go_sem,a118,s118,List.append_assoc,app_some hs,app_some hm,app_at,app_at0,app_set,app_set0,List.length_append,d1,d2,hlook,h1]
    refine Cl.here ⟨rfl, ?_⟩
    rw [if_pos hd]
    exact sh_new h day false _ rfl 3 _ hv rfl rfl (by
      simp only [List.mem_cons, List.not_mem_nil, or_false, forall_eq_or_imp, forall_eq, inRow, inE, inL, inV, hin _ (Nat.le_add_right _ _), List.length_cons, List.length_nil, Bool.and_true, Bool.true_and, decide_eq_true_eq, true_and, and_true]
      omega)
  · have hx := h.x day false hv
    have hp : 0 < (V day false).length := List.length_pos_iff.2 hv
    have e0 : shV X V day false = .own (X day false) (V day false).length 0 (V day false).length := by unfold shV; rw [if_neg (by omega)]
    rw [e0] at hlook
    simp only [go_sem,a118,s118,List.append_assoc,app_some hs,app_some hm,app_some hx,app_at,app_at0,app_set,app_set0,List.length_append,d1,d2,hlook,h1]
    refine ⟨rfl, by omega, ?_⟩
    have hxs : X day false ≠ s := fun e => (by rw [e, hs] at hx; simp only [Option.some.injEq, Row.live.injEq] at hx; omega)
    have hxm : X day false ≠ m := fun e => (by rw [e, hm] at hx; cases hx)
    have hsR : (rows.set (X day false) (.live 78 2 (V day false ++ [[.str nm, .int .i64 mn]])))[s]? = some (.live 118 3 [[.int .i64 fr, .int .i64 to, .mref m]]) := by rw [List.getElem?_set, if_neg hxs]; exact hs
    have hmR : (rows.set (X day false) (.live 78 2 (V day false ++ [[.str nm, .int .i64 mn]])))[m]? = some (.obj (.map false [.int .i64] (mapF (shD X V) ks))) := by rw [List.getElem?_set, if_neg hxm]; exact hm
    have hRl : (rows.set (X day false) (.live 78 2 (V day false ++ [[.str nm, .int .i64 mn]]))).length = rows.length := List.length_set
    have hfin := fun (T : List Row) hT => sh_more (T := T) h day false [.str nm, .int .i64 mn] rfl _ hv rfl hT
    simp only [app_setL hx]
    have hin' : ∀ n, rows.length ≤ n → inV n (.own (X day false) ((V day false).length + 1) 0 ((V day false).length + 1)) = true := fun n hn => by
      have := h.lt day false hv
      simp only [inV, decide_eq_true_eq]; omega
    simp only [show shT false = 78 from rfl] at hfin
    generalize rows.set (X day false) (.live 78 2 (V day false ++ [[.str nm, .int .i64 mn]])) = R at *
    simp only [← hRl] at hin hin' hfin ⊢
    simp only [go_sem,app_some hsR,app_some hmR,app_at,app_at0,app_set,app_set0,List.length_append,h1]
    refine Cl.here ⟨rfl, ?_⟩
    rw [if_pos hd]
    refine hfin _ ?_
    simp only [List.mem_cons, List.not_mem_nil, or_false, forall_eq_or_imp, forall_eq, inRow, inE, inL, inV, hin _ (Nat.le_add_right _ _), hin' _ (Nat.le_add_right _ _), List.length_cons, List.length_nil, Bool.and_true, Bool.true_and, decide_eq_true_eq, true_and, and_true]
    all_goals (have := h.lt day false hv; omega)

end Go.Proofs.YtpincjkjoeopkaaGreatDoor
