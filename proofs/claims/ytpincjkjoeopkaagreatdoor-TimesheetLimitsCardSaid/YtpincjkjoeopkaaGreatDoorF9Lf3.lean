/- More leaves of the evaluator: maps.Keys, SortedFunc of at most one key, Clone of nothing. -/
import Derived.Test.YtpincjkjoeopkaaGreatDoorF9Lf2
set_option linter.unusedSimpArgs false
set_option linter.unusedVariables false
set_option linter.unusedSectionVars false
namespace Go.Proofs.YtpincjkjoeopkaaGreatDoor
open Go Go.Abs
open Go.RowKit (Below)
set_option linter.unusedSimpArgs false
set_option linter.unusedVariables false

theorem mapsKeysB_ok {rows : List Row} {a : Nat} : AFn Tryz.prog 82 [.mref a] rows
    (fun v rs => v = .fn 168 [.ref rows.length 1 0 0] ∧ rs = rows ++ [.live 169 1 [[.mref a]]]) := by
  refine AFn.keys fun mb w => ?_
  go_enter Tryz.func82, Tryz.ntmps82
  go_wp2
  go_ret
  exact ⟨rfl, rfl⟩
def runKeys (g : FuncId) (T : TypeId) (args : List AVal) (rows : List Row) : Option (AVal × List Row) :=
  match args with
  | [.mref a] => some (.fn g [.ref rows.length 1 0 0], rows ++ [.live T 1 [[.mref a]]])
  | _ => none
theorem runKeys_ok {f g : FuncId} {T : TypeId} (hK : ∀ (rows : List Row) (a : Nat), AFn Tryz.prog f [.mref a] rows fun v rs => v = .fn g [.ref rows.length 1 0 0] ∧ rs = rows ++ [.live T 1 [[.mref a]]]) (args : List AVal) (rows : List Row) (v : AVal) (rs : List Row) (h : runKeys g T args rows = some (v, rs)) : AFn Tryz.prog f args rows fun v' rs' => v' = v ∧ rs' = rs := by
  unfold runKeys at h
  split at h
  · simp only [Option.some.injEq, Prod.mk.injEq] at h
    obtain ⟨rfl, rfl⟩ := h
    exact hK _ _
  · cases h
/-- the keys of a map of at most one entry -/
def keyA1 : List (AVal × AVal) → Option (List AKey)
  | [] => some []
  | [(.agg [.int .i64 d, .str n], _)] => some [⟨d, n⟩]
  | _ => none
def runSfn (args : List AVal) (rows : List Row) : Option (AVal × List Row) :=
  match args with
  | [.fn 207 [.ref b 1 0 0], .fn 122 []] =>
    match rows[b]? with
    | some (.live _ 1 [[.mref a]]) =>
      match rows[a]? with
      | some (.obj (.map true [.int .i64, .str] ents)) =>
        match keyA1 ents with
        | some ks => if (ks.all fun k => wfI k.d && decide (k.n.size ≤ 1000)) && rows.all (inRow rows.length) then some (.own rows.length ks.length 0 ks.length, rows ++ [.live 235 2 (els ks)]) else none
        | none => none
      | _ => none
    | _ => none
  | _ => none
theorem keyA1_ok {ents : List (AVal × AVal)} {ks : List AKey} (h : keyA1 ents = some ks) : ents.map (·.1) = keysA ks ∧ ks.Nodup ∧ ks.length ≤ 1 := by
  unfold keyA1 at h
  split at h
  · cases h; exact ⟨rfl, List.nodup_nil, by simp⟩
  · cases h; exact ⟨rfl, by simp, by simp⟩
  · cases h
theorem runSfn_ok (args : List AVal) (rows : List Row) (v : AVal) (rs : List Row) (h : runSfn args rows = some (v, rs)) : AFn Tryz.prog 120 args rows fun v' rs' => v' = v ∧ rs' = rs := by
  unfold runSfn at h
  split at h
  · split at h
    · rename_i hb
      split at h
      · rename_i ha
        split at h
        · rename_i ks hks
          split at h
          · rename_i hc
            simp only [Bool.and_eq_true, List.all_eq_true, decide_eq_true_eq] at hc
            simp only [Option.some.injEq, Prod.mk.injEq] at h
            obtain ⟨rfl, rfl⟩ := h
            obtain ⟨k1, k2, k3⟩ := keyA1_ok hks
            refine (sortedK_ok (fun r row hr => hc.2 row (List.mem_of_getElem? hr)) ha hb k1 k2 (fun x hx => ⟨(hc.1 x hx).1, Nat.le_trans (hc.1 x hx).2 (by decide)⟩) (by omega)).mono ?_
            rintro v rs ⟨l, hl, _, rfl, rfl⟩
            have : l = ks := by
              match ks, k3 with
              | [], _ => exact List.perm_nil.1 hl
              | [x], _ => exact List.perm_singleton.1 hl
            subst this
            exact ⟨rfl, rfl⟩
          · cases h
        · cases h
      · cases h
    · cases h
  · cases h
def runLen (args : List AVal) (rows : List Row) : Option (AVal × List Row) :=
  match args, rows with
  | [.int .i64 y, .int .i64 m], [] => if 0 ≤ y ∧ 1 ≤ m ∧ m ≤ 12 then some (.int .i64 (lenP y m), []) else none
  | _, _ => none
theorem runLen_ok (args : List AVal) (rows : List Row) (v : AVal) (rs : List Row) (h : runLen args rows = some (v, rs)) : AFn Tryz.prog 255 args rows fun v' rs' => v' = v ∧ rs' = rs := by
  unfold runLen at h
  split at h
  · split at h
    · rename_i hc
      simp only [Option.some.injEq, Prod.mk.injEq] at h
      obtain ⟨rfl, rfl⟩ := h
      exact length_ok _ _ hc.1 hc.2.1 hc.2.2
    · cases h
  · cases h
def leaves : List (XLeaf Tryz.prog) := [⟨47, runSorted, runSorted_ok⟩, ⟨116, runKeysA, runKeysA_ok⟩,
  ⟨82, runKeys 168 169, runKeys_ok fun _ _ => mapsKeysB_ok⟩,
  ⟨48, runKeys 128 116, runKeys_ok fun _ _ => mapsKeysD_ok⟩,
  ⟨121, runKeys 207 232, runKeys_ok fun _ _ => mapsKeys_ok⟩,
  ⟨120, runSfn, runSfn_ok⟩, ⟨255, runLen, runLen_ok⟩]
end Go.Proofs.YtpincjkjoeopkaaGreatDoor
