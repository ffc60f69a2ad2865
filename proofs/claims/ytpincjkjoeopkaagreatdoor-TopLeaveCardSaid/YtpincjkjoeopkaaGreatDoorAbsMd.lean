/- Abs27, Abs28, Abs29, Abs30, Abs31, Abs32, Abs33, Abs34, Abs35, Abs36, Abs37, Abs38, Abs39, Abs40 joined. -/
import Derived.Test.YtpincjkjoeopkaaGreatDoorAbs26
import Derived.Below
import Derived.OpenShut
import Derived.Deep.Slices
import Derived.ChangeArms
import Derived.ChangeOld
import Derived.Sort.OwnSortedInts
set_option linter.unusedSimpArgs false
set_option linter.unusedVariables false
set_option linter.unusedSectionVars false
section
/- Everyday laws: numbers that fit, calls by contracts in short words, lists of numbers in rows, the bridge to the given statements. -/
namespace Go.Abs
variable [Glb]
open Go.RowKit (Below)

theorem wrap_i64 {x : Int} (h1 : -9223372036854775808 ≤ x) (h2 : x ≤ 9223372036854775807) : IntKind.i64.wrap x = x := by
  simp only [IntKind.wrap, IntKind.bits, IntKind.signed]; simp; omega
/-- a call of a function that touches no rows -/
theorem callC_fn {P : Program} {f : FuncId} {args : List AVal} {rows : List Row} {dst : Option Nat} {env : Env} {K : Env → List Row → Prop} {Q : AVal → Prop}
    (hA : AFn P f args [] fun v rs => Q v ∧ rs = []) (hc : cleanL args = true) (hk : ∀ v, Q v → clean v = true ∧ K (put env dst v) rows) : callC P f args rows dst env K := by
  refine callC_of [] [] (by simp) (srows := []) (_root_.id rfl) (bindL_clean args hc) hA ?_
  rintro v rs ⟨hq, rfl⟩
  obtain ⟨h1, h2⟩ := hk v hq
  refine ⟨.inl rfl, ?_⟩
  rw [renV_clean _ _ h1]
  simpa [mergeR] using h2

theorem callC_det {P : Program} {f : FuncId} {args : List AVal} {rows : List Row} {dst : Option Nat} {env : Env} {K : Env → List Row → Prop} {r : AVal}
    (hA : AFn P f args [] fun v rs => v = r ∧ rs = []) (hc : cleanL args = true) (hr : clean r = true) (hk : K (put env dst r) rows) : callC P f args rows dst env K :=
  callC_fn hA hc fun v hv => by subst hv; exact ⟨hr, hk⟩

theorem callD_fn {P : Program} {f : FuncId} {args : List AVal} {un : List Nat} {tk : Tk} {rows : List Row} {dst : Option Nat} {env : Env} {K : Env → List Row → Prop} {Q : AVal → Prop}
    (hA : AFn P f args [] fun v rs => Q v ∧ rs = []) (hc : cleanL args = true) (hk : ∀ v, Q v → clean v = true ∧ K (put env dst v) rows) : callD P f args un tk rows dst env K := by
  refine callD_of [] [] (by rw [okTk_none]; trivial) (by simp) (srows := []) (_root_.id rfl) (bindL_clean args hc) hA ?_
  rintro v rs ⟨hq, rfl⟩
  obtain ⟨h1, h2⟩ := hk v hq
  refine ⟨.inl rfl, ?_⟩
  rw [renV_clean _ _ h1]
  simpa [mergeR] using h2

theorem callD_det {P : Program} {f : FuncId} {args : List AVal} {un : List Nat} {tk : Tk} {rows : List Row} {dst : Option Nat} {env : Env} {K : Env → List Row → Prop} {r : AVal}
    (hA : AFn P f args [] fun v rs => v = r ∧ rs = []) (hc : cleanL args = true) (hr : clean r = true) (hk : K (put env dst r) rows) : callD P f args un tk rows dst env K :=
  callD_fn hA hc fun v hv => by subst hv; exact ⟨hr, hk⟩

/-- weaker knowledge of the arguments -/
theorem AFn.weak {P : Program} {f : FuncId} {args args' : List AVal} {rows : List Row} {Q : AVal → List Row → Prop} (h : AFn P f args' rows Q) (hw : ∀ C vs, RepL C args vs → RepL C args' vs) : AFn P f args rows Q :=
  fun C cargs h1 h2 hG h3 => h C cargs h1 h2 hG (hw C cargs h3)

/-- a value that says more -/
def Says (a b : AVal) : Prop := ∀ C v, Rep C a v → Rep C b v
theorem Says.rfl {a : AVal} : Says a a := fun _ _ h => h
inductive SaysL : List AVal → List AVal → Prop
  | nil : SaysL [] []
  | cons {a b : AVal} {as bs : List AVal} (h : Says a b) (k : SaysL as bs) : SaysL (a :: as) (b :: bs)
theorem SaysL.rep {as bs : List AVal} (h : SaysL as bs) : ∀ C vs, RepL C as vs → RepL C bs vs := by
  induction h with
  | nil => intro C vs h; exact h
  | cons h k ih =>
    intro C vs hr
    rw [RepL] at hr ⊢
    obtain ⟨v, rest, rfl, h1, h2⟩ := hr
    exact ⟨v, rest, rfl, h C v h1, ih C rest h2⟩
theorem AFn.says {P : Program} {f : FuncId} {args args' : List AVal} {rows : List Row} {Q : AVal → List Row → Prop} (h : AFn P f args' rows Q) (hw : SaysL args args') : AFn P f args rows Q := h.weak hw.rep

/-- numbers as the elements of a slice -/
def numsE (k : IntKind) (l : List Int) : List (List AVal) := l.map fun n => [.int k n]
theorem numsE_length {k : IntKind} {l : List Int} : (numsE k l).length = l.length := by simp [numsE]
theorem numsE_clean {k : IntKind} : ∀ {l : List Int}, cleanE (numsE k l) = true
  | [] => _root_.id rfl
  | n :: l => by simpa [numsE, cleanE, cleanL, clean] using (numsE_clean (k := k) (l := l))
theorem numsE_flat {k : IntKind} : ∀ {l : List Int}, flatE (numsE k l) = true
  | [] => _root_.id rfl
  | n :: l => by simpa [numsE, flatE, flatL, flat] using (numsE_flat (k := k) (l := l))
theorem numsE_append {k : IntKind} {a b : List Int} : numsE k a ++ numsE k b = numsE k (a ++ b) := by simp [numsE]
theorem numsE_snoc {k : IntKind} {a : List Int} {n : Int} : numsE k a ++ [[.int k n]] = numsE k (a ++ [n]) := by simp [numsE]
theorem numsE_getD {k : IntKind} {l : List Int} {i : Nat} (h : i < l.length) : (numsE k l).getD i [] = [.int k (l.getD i 0)] := by
  simp [numsE, List.getD_eq_getElem?_getD, List.getElem?_eq_getElem h]
theorem numsE_take {k : IntKind} {l : List Int} {n : Nat} : (numsE k l).take n = numsE k (l.take n) := by simp [numsE]
theorem numsE_drop {k : IntKind} {l : List Int} {n : Nat} : (numsE k l).drop n = numsE k (l.drop n) := by simp [numsE]
theorem numsE_set {k : IntKind} {l : List Int} {i : Nat} {n : Int} : (numsE k l).set i [.int k n] = numsE k (l.set i n) := by simp [numsE, List.map_set]
def ctx0 (w : World) : Ctx := ⟨[], [], fun _ => False, w, false⟩
theorem ok0 (w : World) : Ok (ctx0 w) := ⟨_root_.id rfl, _root_.id rfl, fun r row h => by simp [ctx0] at h, fun r r' b c c' h => by simp [ctx0] at h, fun b h => h.elim⟩

theorem calls_of_afn {P : Program} {f : FuncId} {args : List AVal} {cargs : List Value} {w : World} (h : AFn P f args [] fun v _ => v = .bool true) (hr : RepL (ctx0 w) args cargs) (hG : GOk (ctx0 w)) :
    Calls P f cargs.toArray w fun e w' => e = .returned (.bool true) ∧ Below w.heap.size w w' := by
  refine (h (ctx0 w) cargs (_root_.id rfl) (ok0 w) hG hr).mono ?_
  rintro e w' ⟨cv, v, C', rfl, rfl, h1, h2, h3, rfl⟩
  rw [Rep] at h1
  subst h1
  exact ⟨_root_.id rfl, ⟨h3.os, h3.tape, h3.output, h3.size, fun b hb => h3.block b hb fun r c hr => by simp [ctx0] at hr⟩⟩

end Go.Abs
end

section
/- The evaluation rules, as one set. -/
namespace Go.Abs
variable [Glb]
theorem bindRow_l {rows : List Row} {sel : List (Option Nat)} {vw : List Nat} {e : TypeId} {sz : Nat} {vals : List (List AVal)} : bindRow rows sel vw (.live e sz vals) = .live e sz (bindE rows sel vw vals) := _root_.id rfl
theorem bindRow_d {rows : List Row} {sel : List (Option Nat)} {vw : List Nat} : bindRow rows sel vw .dead = .dead := _root_.id rfl
theorem renRow_l {f : Nat → Nat} {e : TypeId} {sz : Nat} {vals : List (List AVal)} : renRow f (.live e sz vals) = .live e sz (renE f vals) := _root_.id rfl
theorem renRow_d {f : Nat → Nat} : renRow f .dead = .dead := _root_.id rfl
theorem flatRow_l {e : TypeId} {sz : Nat} {vals : List (List AVal)} : flatRow (.live e sz vals) = flatE vals := _root_.id rfl
theorem flatRow_d : flatRow .dead = true := _root_.id rfl
def cleanM (ents : List (AVal × AVal)) : Bool := cleanL (ents.map (·.1)) && cleanL (ents.map (·.2))
def flatM (ents : List (AVal × AVal)) : Bool := flatL (ents.map (·.1)) && flatL (ents.map (·.2))
theorem mapM_clean {g : AVal → AVal} (hg : ∀ a, clean a = true → g a = a) : ∀ {ents : List (AVal × AVal)}, cleanM ents = true → ents.map (fun p => (g p.1, g p.2)) = ents
  | [], _ => _root_.id rfl
  | p :: ps, h => by
    simp only [cleanM, List.map_cons, cleanL, Bool.and_eq_true] at h
    have := mapM_clean hg (ents := ps) (by simp only [cleanM, Bool.and_eq_true]; exact ⟨h.1.2, h.2.2⟩)
    rw [List.map_cons, this, hg _ h.1.1, hg _ h.2.1]
theorem bindRow_m {rows : List Row} {sel : List (Option Nat)} {vw : List Nat} {ag : Bool} {ks : List CK} {ents : List (AVal × AVal)} : bindRow rows sel vw (.obj (.map ag ks ents)) = .obj (.map ag ks (if cleanM ents then ents else ents.map fun p => (bindV rows sel vw p.1, bindV rows sel vw p.2))) := by
  rw [bindRow]
  split
  · rw [mapM_clean (fun a ha => bindV_clean a ha) ‹_›]
  · rfl
theorem renRow_m {f : Nat → Nat} {ag : Bool} {ks : List CK} {ents : List (AVal × AVal)} : renRow f (.obj (.map ag ks ents)) = .obj (.map ag ks (if cleanM ents then ents else ents.map fun p => (renV f p.1, renV f p.2))) := by
  rw [renRow]
  split
  · rw [mapM_clean (fun a ha => renV_clean f a ha) ‹_›]
  · rfl
theorem flatRow_m {ag : Bool} {ks : List CK} {ents : List (AVal × AVal)} : flatRow (.obj (.map ag ks ents)) = flatM ents := _root_.id rfl
theorem bindRow_i {rows : List Row} {sel : List (Option Nat)} {vw : List Nat} {n : Nat} {seen : List Nat} : bindRow rows sel vw (.obj (.iter n seen)) = .obj (.iter n seen) := _root_.id rfl
theorem renRow_i {f : Nat → Nat} {n : Nat} {seen : List Nat} : renRow f (.obj (.iter n seen)) = .obj (.iter n seen) := _root_.id rfl
theorem flatRow_i {n : Nat} {seen : List Nat} : flatRow (.obj (.iter n seen)) = true := _root_.id rfl
theorem cleanM_nil : cleanM [] = true := _root_.id rfl
theorem flatM_nil : flatM [] = true := _root_.id rfl
theorem kfind_nil {k : AVal} : kfind k [] = none := _root_.id rfl
theorem kpos_nil {k : AVal} : kpos k [] = none := _root_.id rfl
theorem kput_nil {k v : AVal} : kput k v [] = [(k, v)] := _root_.id rfl
attribute [go_sem] runK_copy runK_indexArr runK_arr1 runK_arrA runK_mkfn runK_mkmap runK_look runK_mset runK_ment runK_estore runK_lenM runK_iter
attribute [go_sem] runK_entry runK_next evC_copy copyC_live evC_indexArr_ref evC_indexArr_pref evC_arr1 evC_arrA evC_mkfn evC_mkmap evC_look lookC_t
attribute [go_sem] lookC_f evC_mset msetC_map evC_ment mentC_map evC_estore estoreC_map evC_lenM lenMC_map evC_iter iterC_map evC_entry
attribute [go_sem] entryC_map keyFits_eq isAg_int isAg_str isAg_bool isAg_agg acells_mref acells_nilm acells_nilp acells_fn one_mref one_nilm
attribute [go_sem] one_nilp one_fn rowOf_mref rowOf_itref runD_indexArr runD_arr1 runD_arrA runD_mkfn runD_mkmap runD_look runD_lenM runD_entry
attribute [go_sem] runK_appendZ evC_appendZ
attribute [go_sem] runK_callv callVC_fn runK_cap runK_clear evC_cap evC_clear clearC_live runD_callv callVD_fn runD_cap
attribute [go_sem] runD_iter runD_mset runD_ment runD_estore runD_copy
attribute [go_sem] bindRow_m renRow_m flatRow_m bindRow_i renRow_i flatRow_i cleanM_nil flatM_nil kfind_nil kpos_nil kput_nil Row.obj.injEq AObj.map.injEq
attribute [go_sem] avc_skip avc_region avc_seq avc_cond avc_block avc_exit avc_ret blockX_eq condC_true condC_false regK_nil regK_none
attribute [go_sem] regK_some grdC_tt grdC_ff grdC_tf grdC_ft grdC_un runK_call runK_mv runK_pick runK_alloc runK_box runK_build
attribute [go_sem] runK_bslice runK_mkslice runK_nilsl runK_load1 runK_loadA runK_store runK_nilchk runK_bin runK_eqA runK_eqB runK_not runK_neg
attribute [go_sem] runK_conv runK_fieldAddr runK_field1 runK_fieldA runK_indexAddr runK_index runK_slice runK_sliceS runK_len runK_lenS runK_append runK_extract
attribute [go_sem] runK_isnil evC_isnil isnilC_some runD_isnil
attribute [go_sem] runK_b2s runK_frz runK_minmax evC_nilsl evC_mv evC_pick_t evC_pick_f evC_alloc evC_box evC_build evC_bslice evC_mkslice
attribute [go_sem] evC_load1_ref evC_load1_pref evC_loadA_ref evC_loadA_pref evC_store evC_nilchk_ref evC_nilchk_pref evC_add evC_sub evC_mul evC_quo evC_rem
attribute [go_sem] evC_and evC_or evC_xor evC_shl evC_shr evC_eql evC_neq evC_lss evC_leq evC_gtr evC_geq evC_seql
attribute [go_sem] evC_sneq evC_slss evC_sadd evC_eqA evC_eqB evC_not evC_neg evC_conv evC_fieldAddr_ref evC_fieldAddr_pref evC_field1 evC_fieldA
attribute [go_sem] evC_indexAddr_pure evC_indexAddr_own evC_index evC_slice_pure_tt evC_slice_pure_tf evC_slice_pure_ft evC_slice_own_tt evC_slice_own_tf evC_slice_own_ft evC_sliceS_tt evC_sliceS_tf evC_sliceS_ft
attribute [go_sem] evC_len_pure evC_len_own evC_len_nils evC_lenS evC_append_nils evC_append_own evC_b2s b2sC_some bytesO_some evC_frz frzC_live evC_extract
attribute [go_sem] evC_min evC_max load1C_live loadAC_live storeC_live indexC_live sliceC_live appC_live appNilC_some buildC_some bsliceC_some elems_pure
attribute [go_sem] elems_nils elems_own elemsC_live fillC_nil fillC_cons fillE_nil fillE_cons acells_agg acells_int acells_bool acells_str acells_nils
attribute [go_sem] acells_pure acells_own acells_ref one_int one_bool one_str one_nils one_pure one_own one_ref slot_nil slot_cons
attribute [go_sem] put_some put_none norm_nil norm_cons opd_t opd_c splice_eq eqCells_int eqCells_bool eqCells_str eqCells_nil fits_int
attribute [go_sem] fits_bool fits_str fits_nil argEnv_nil argEnv_cons retK_nil retK_tmp retK_cellA retK_cell1 cellA_ref cell1_ref retAC_live
attribute [go_sem] ret1C_live oneOrTup_one oneOrTup_nil oneOrTup_two rowH_cons rowT_two rowOf_own rowOf_ref rowOf_pure rowOf_pref rowOf_nils tkOf_nil
attribute [go_sem] tkOf_cons okTk_none okTk_nil okTk_r okTk_w avc_draw drawC_eq reserved_nil reserved_cons drawK_nil drawK_none drawK_some
attribute [go_sem] grdD_tt grdD_ff grdD_tf grdD_ft grdD_un runD_call runD_mv runD_pick runD_build runD_nilsl runD_nilchk runD_bin
attribute [go_sem] runD_eqA runD_eqB runD_not runD_neg runD_conv runD_fieldAddr runD_field1 runD_fieldA runD_index runD_sliceS runD_len runD_lenS
attribute [go_sem] runD_extract runD_minmax runD_load1 runD_loadA runD_indexAddr runD_slice runD_b2s runD_store runD_frz runD_append runD_mkslice runD_alloc
attribute [go_sem] runD_box boxC_eq runD_bslice bresC_some runD_mkslR msliceC_int
attribute [go_sem] List.map_cons List.map_nil List.contains_cons List.contains_nil beq_self_eq_true Bool.or_true Bool.true_or Bool.or_false Bool.false_or Bool.and_false Bool.false_and Row.live.injEq
attribute [go_sem] List.length_cons List.length_nil List.cons_append List.nil_append List.getElem?_cons_zero List.getElem?_cons_succ List.getElem?_nil List.getD_cons_zero List.getD_cons_succ List.set_cons_zero List.set_cons_succ List.take_succ_cons
attribute [go_sem] List.take_zero List.drop_succ_cons List.drop_zero List.all_cons List.all_nil List.replicate_succ List.replicate_zero List.take_nil List.drop_nil List.append_nil Nat.zero_add Nat.add_zero
attribute [go_sem] Nat.lt_irrefl Nat.le_refl Nat.succ_ne_zero if_true if_false ite_true ite_false true_and and_true and_self Bool.and_true Bool.true_and
attribute [go_sem] Bool.and_self decide_true decide_false Bool.not_true Bool.not_false Option.some.injEq not_false_eq_true ne_eq Bool.false_eq_true Int.toNat_zero Int.toNat_one Bool.bne_false
attribute [go_sem] Bool.bne_true Int.cast_ofNat_Int
attribute [go_sem] getRows bindL bindV bindRow_l bindRow_d bindE pos? cleanE cleanL clean back mergeR
attribute [go_sem] renV renL renRow_l renRow_d renE numsE_clean numsE_flat numsE_length flatE flatL flat flatRow_l
attribute [go_sem] flatRow_d numsE_snoc numsE_append numsE_take numsE_drop
end Go.Abs
end

section
/- Tapes of choices in memory, and functions that choose. -/
namespace Go.Abs
variable [Glb]

/-- a tape of choices in memory -/
def tapeRow (T : TypeId) (l : List Int) (at_ : Int) : Row := .live T 2 [[.pure 1 (numsE .i64 l), .int .i64 at_]]
structure TapeOk (l : List Int) : Prop where
  len : l.length ≤ 9223372036854775807
  num : ∀ n ∈ l, -9223372036854775808 ≤ n ∧ n ≤ 9223372036854775807

/-- a function that chooses, and hands back a value without memory of its own -/
def TapeFn (P : Program) (T : TypeId) (f : FuncId) (rest : List AVal) (l : List Int) (Q : AVal → Prop) : Prop :=
  ∀ at_ : Int, 0 ≤ at_ → at_ ≤ l.length → AFn P f (.ref 0 1 0 0 :: rest) [tapeRow T l at_] fun v rs => ∃ a : Int, rs = [tapeRow T l a] ∧ 0 ≤ a ∧ a ≤ l.length ∧ clean v = true ∧ Q v

theorem tape_getRows {T : TypeId} {l : List Int} {at_ : Int} {rows : List Row} {r : Nat} (hr : rows[r]? = some (tapeRow T l at_)) : getRows rows [] [some r] [some r] = some [tapeRow T l at_] := by
  simp only [getRows, hr]
  simp [tapeRow, bindRow, bindE, cleanE, cleanL, clean]

theorem tape_bind {rows : List Row} {r : Nat} {rest : List AVal} (hc : cleanL rest = true) : bindL rows [some r] [] (.ref r 1 0 0 :: rest) = .ref 0 1 0 0 :: rest := by
  simp [bindL, bindV, pos?, bindL_clean rest hc]

theorem tape_ren {f : Nat → Nat} {T : TypeId} {l : List Int} {at_ : Int} : renRow f (tapeRow T l at_) = tapeRow T l at_ := by
  simp [tapeRow, renRow, renE, cleanE, cleanL, clean]

theorem callC_tape {P : Program} {T : TypeId} {f : FuncId} {rest : List AVal} {l : List Int} {Q : AVal → Prop} {rows : List Row} {dst : Option Nat} {env : Env} {K : Env → List Row → Prop} {r : Nat} {at_ : Int}
    (hA : TapeFn P T f rest l Q) (hc : cleanL rest = true) (hr : rows[r]? = some (tapeRow T l at_)) (h0 : 0 ≤ at_) (h1 : at_ ≤ l.length)
    (hk : ∀ (v : AVal) (a : Int), 0 ≤ a → a ≤ l.length → Q v → K (put env dst v) (rows.set r (tapeRow T l a))) : callC P f (.ref r 1 0 0 :: rest) rows dst env K := by
  refine callC_of [r] [] (by simp) (tape_getRows hr) (tape_bind hc) (hA at_ h0 h1) ?_
  rintro v rs ⟨a, rfl, h2, h3, h4, h5⟩
  refine ⟨.inl rfl, ?_⟩
  rw [renV_clean _ _ h4, List.map_cons, List.map_nil, tape_ren]
  simpa [mergeR] using hk v a h2 h3 h5

theorem callD_tape {P : Program} {T : TypeId} {f : FuncId} {rest : List AVal} {l : List Int} {Q : AVal → Prop} {un : List Nat} {tk : Tk} {rows : List Row} {dst : Option Nat} {env : Env} {K : Env → List Row → Prop} {r : Nat} {at_ : Int}
    (hA : TapeFn P T f rest l Q) (ht : okTk un tk [r] []) (hc : cleanL rest = true) (hr : rows[r]? = some (tapeRow T l at_)) (h0 : 0 ≤ at_) (h1 : at_ ≤ l.length)
    (hk : ∀ (v : AVal) (a : Int), 0 ≤ a → a ≤ l.length → Q v → K (put env dst v) (rows.set r (tapeRow T l a))) : callD P f (.ref r 1 0 0 :: rest) un tk rows dst env K := by
  refine callD_of [r] [] ht (by simp) (tape_getRows hr) (tape_bind hc) (hA at_ h0 h1) ?_
  rintro v rs ⟨a, rfl, h2, h3, h4, h5⟩
  refine ⟨.inl rfl, ?_⟩
  rw [renV_clean _ _ h4, List.map_cons, List.map_nil, tape_ren]
  simpa [mergeR] using hk v a h2 h3 h5

/-- the end of a function that chooses: its other rows are gone -/
theorem Cl.tape {T : TypeId} {l : List Int} {a : Int} {Q : AVal → Prop} {v : AVal} {rows : List Row} (hv : clean v = true) (h0 : 0 ≤ a) (h1 : a ≤ l.length) (h : Q v) :
    Cl 1 (finK fun v rs => ∃ a : Int, rs = [tapeRow T l a] ∧ 0 ≤ a ∧ a ≤ l.length ∧ clean v = true ∧ Q v) [(0, v)] (tapeRow T l a :: rows) := by
  refine Cl.tr (srows := [tapeRow T l a]) [some 0] [] (by decide) (by decide) (tape_getRows (by simp)) (Cl.here ?_)
  simp only [finK, List.map_cons, List.map_nil, slot_cons, if_true]
  refine ⟨a, _root_.id rfl, h0, h1, ?_⟩
  rw [bindV_clean v hv]
  exact ⟨hv, h⟩

/-- a function that chooses and is handed a slice of numbers, which stays as it is -/
def TapeFn1 (P : Program) (T e : TypeId) (f : FuncId) (l xs : List Int) (Q : AVal → Prop) : Prop :=
  ∀ at_ : Int, 0 ≤ at_ → at_ ≤ l.length → AFn P f [.ref 0 1 0 0, .own 1 xs.length 0 xs.length] [tapeRow T l at_, .live e 1 (numsE .i64 xs)]
    fun v rs => ∃ a : Int, rs = [tapeRow T l a, .live e 1 (numsE .i64 xs)] ∧ 0 ≤ a ∧ a ≤ l.length ∧ clean v = true ∧ Q v

theorem tape_getRows1 {T e : TypeId} {l xs : List Int} {at_ : Int} {rows : List Row} {r q : Nat} {vals : List (List AVal)} (hr : rows[r]? = some (tapeRow T l at_)) (hq : rows[q]? = some (.live e 1 vals)) (hv : vals = numsE .i64 xs) :
    getRows rows [] [some r, some q] [some r, some q] = some [tapeRow T l at_, .live e 1 (numsE .i64 xs)] := by
  subst hv
  simp only [getRows, hr, hq]
  simp [tapeRow, bindRow, bindE, cleanE, cleanL, clean, numsE_clean]

theorem tape_after1 {T e : TypeId} {l xs : List Int} {a : Int} {rows : List Row} {r q : Nat} {vals : List (List AVal)} (hq : rows[q]? = some (.live e 1 vals)) (hv : vals = numsE .i64 xs) (hne : r ≠ q) (f : Nat → Nat) :
    mergeR rows [r, q] ([tapeRow T l a, .live e 1 (numsE .i64 xs)].map (renRow f)) = rows.set r (tapeRow T l a) := by
  subst hv
  have h1 : [tapeRow T l a, Row.live e 1 (numsE .i64 xs)].map (renRow f) = [tapeRow T l a, .live e 1 (numsE .i64 xs)] := by
    rw [List.map_cons, List.map_cons, List.map_nil, tape_ren]
    simp [renRow, renE, numsE_clean]
  rw [h1]
  simp only [mergeR, List.append_nil]
  rw [List.set_comm _ _ hne]
  congr 1
  apply List.ext_getElem?
  intro i
  rw [List.getElem?_set]
  split
  · rename_i h; subst h
    split
    · exact hq.symm
    · rename_i h; rw [List.getElem?_eq_none (by omega)]
  · rfl

theorem callC_pick {P : Program} {T e : TypeId} {f : FuncId} {l : List Int} {Q : AVal → Prop} {rows : List Row} {dst : Option Nat} {env : Env} {K : Env → List Row → Prop} {r q n m : Nat} {at_ : Int} {vals : List (List AVal)} (xs : List Int)
    (hA : TapeFn1 P T e f l xs Q) (hr : rows[r]? = some (tapeRow T l at_)) (hq : rows[q]? = some (.live e 1 vals)) (hv : vals = numsE .i64 xs) (hn : n = xs.length) (hm : m = xs.length) (hne : r ≠ q) (h0 : 0 ≤ at_) (h1 : at_ ≤ l.length)
    (hk : ∀ (v : AVal) (a : Int), 0 ≤ a → a ≤ l.length → Q v → K (put env dst v) (rows.set r (tapeRow T l a))) : callC P f [.ref r 1 0 0, .own q n 0 m] rows dst env K := by
  subst hn; subst hm
  refine callC_of [r, q] [] (by simp [hne]) (tape_getRows1 hr hq hv) (by simp [bindL, bindV, pos?, hne]) (hA at_ h0 h1) ?_
  rintro v rs ⟨a, rfl, h2, h3, h4, h5⟩
  refine ⟨.inl rfl, ?_⟩
  rw [renV_clean _ _ h4, tape_after1 hq hv hne]
  exact hk v a h2 h3 h5

theorem callD_pick {P : Program} {T e : TypeId} {f : FuncId} {l : List Int} {Q : AVal → Prop} {un : List Nat} {tk : Tk} {rows : List Row} {dst : Option Nat} {env : Env} {K : Env → List Row → Prop} {r q n m : Nat} {at_ : Int} {vals : List (List AVal)} (xs : List Int)
    (hA : TapeFn1 P T e f l xs Q) (ht : okTk un tk [r, q] []) (hr : rows[r]? = some (tapeRow T l at_)) (hq : rows[q]? = some (.live e 1 vals)) (hv : vals = numsE .i64 xs) (hn : n = xs.length) (hm : m = xs.length) (hne : r ≠ q) (h0 : 0 ≤ at_) (h1 : at_ ≤ l.length)
    (hk : ∀ (v : AVal) (a : Int), 0 ≤ a → a ≤ l.length → Q v → K (put env dst v) (rows.set r (tapeRow T l a))) : callD P f [.ref r 1 0 0, .own q n 0 m] un tk rows dst env K := by
  subst hn; subst hm
  refine callD_of [r, q] [] ht (by simp [hne]) (tape_getRows1 hr hq hv) (by simp [bindL, bindV, pos?, hne]) (hA at_ h0 h1) ?_
  rintro v rs ⟨a, rfl, h2, h3, h4, h5⟩
  refine ⟨.inl rfl, ?_⟩
  rw [renV_clean _ _ h4, tape_after1 hq hv hne]
  exact hk v a h2 h3 h5

/-- a number from 0 to below n, or 0 -/
def Pickd (n : Int) (v : AVal) : Prop := ∃ x : Int, v = .int .i64 x ∧ 0 ≤ x ∧ (x < n ∨ x = 0)

def mod (v n : Int) : Int := if v.tmod n < 0 then v.tmod n + n else v.tmod n
theorem mod_bounds {v n : Int} (hn : 0 < n) : 0 ≤ mod v n ∧ mod v n < n := by
  unfold mod
  have h1 := Int.tmod_lt_of_pos v hn
  have h2 : -n < v.tmod n := by
    have := Int.lt_tmod_of_pos v hn
    omega
  split <;> omega

end Go.Abs
end

section
/- Structs as the elements of slices; more everyday laws. -/
namespace Go.Abs
variable [Glb]

/-- a type of values whose cells hold no references to memory -/
class Cel (α : Type) where
  c : α → List AVal
  sz : Nat
  len : ∀ x, (c x).length = sz
  cl : ∀ x, cleanL (c x) = true
  on : ∀ x, (c x).all one = true
/-- no references at all -/
class Flt (α : Type) [Cel α] : Prop where
  fl : ∀ x : α, flatL (Cel.c x) = true

def els {α : Type} [Cel α] (l : List α) : List (List AVal) := l.map Cel.c

section
variable {α : Type} [Cel α]
theorem els_length {l : List α} : (els l).length = l.length := by simp [els]
theorem els_clean : ∀ {l : List α}, cleanE (els l) = true
  | [] => _root_.id rfl
  | x :: l => by
    show (cleanL (Cel.c x) && cleanE (els l)) = true
    rw [Cel.cl, els_clean]; exact _root_.id rfl
theorem els_flat [Flt α] : ∀ {l : List α}, flatE (els l) = true
  | [] => _root_.id rfl
  | x :: l => by
    show (flatL (Cel.c x) && flatE (els l)) = true
    rw [Flt.fl, els_flat]; exact _root_.id rfl
theorem els_append {a b : List α} : els a ++ els b = els (a ++ b) := by simp [els]
theorem els_snoc {a : List α} {x : α} : els a ++ [Cel.c x] = els (a ++ [x]) := by simp [els]
theorem els_take {l : List α} {n : Nat} : (els l).take n = els (l.take n) := by simp [els]
theorem els_drop {l : List α} {n : Nat} : (els l).drop n = els (l.drop n) := by simp [els]
theorem els_set {l : List α} {i : Nat} {x : α} : (els l).set i (Cel.c x) = els (l.set i x) := by simp [els, List.map_set]
theorem els_getD {l : List α} {i : Nat} (h : i < l.length) : (els l).getD i [] = Cel.c (l[i]'h) := by
  simp [els, List.getD_eq_getElem?_getD, List.getElem?_eq_getElem h]
end
theorem tape_bindRow {rows : List Row} {sel : List (Option Nat)} {vw : List Nat} {T : TypeId} {l : List Int} {a : Int} : bindRow rows sel vw (tapeRow T l a) = tapeRow T l a := by
  simp [tapeRow, bindRow, bindE, cleanE, cleanL, clean]
attribute [go_sem] tape_bindRow tape_ren Option.map_some Option.map_none
attribute [go_sem] els_snoc els_append els_take els_drop els_length els_clean els_flat Cel.len Cel.cl Flt.fl Cel.on

end Go.Abs
end

section
/- Bytes, and operations on bits of numbers that are not negative. -/
namespace Go.Abs
variable [Glb]

instance : Cel UInt8 := ⟨fun b => [.int .u8 b.toNat], 1, fun _ => _root_.id rfl, fun _ => _root_.id rfl, fun _ => _root_.id rfl⟩
instance : Flt UInt8 := ⟨fun _ => _root_.id rfl⟩
theorem cel_u8_sz : Cel.sz UInt8 = 1 := _root_.id rfl
attribute [go_sem] cel_u8_sz
theorem tape_of {l : List Int} {n : Nat} (h1 : l.length = n) (h2 : n ≤ maxLen) (h : ∀ x ∈ l, IntKind.i64.min ≤ x ∧ x ≤ IntKind.i64.max) : TapeOk l := by
  refine ⟨by rw [h1]; exact h2, fun x hx => ?_⟩
  have := h x hx
  rw [show IntKind.i64.min = -9223372036854775808 from _root_.id rfl, show IntKind.i64.max = 9223372036854775807 from _root_.id rfl] at this
  exact this
theorem repL_nil {C : Ctx} : RepL C [] [] := by rw [RepL]
theorem repL_cons {C : Ctx} {a : AVal} {as : List AVal} {v : Value} {vs : List Value} (h : Rep C a v) (k : RepL C as vs) : RepL C (a :: as) (v :: vs) := by rw [RepL]; exact ⟨v, vs, _root_.id rfl, h, k⟩

end Go.Abs
end

section
/- Ways that meet again: what follows is shown once. -/
namespace Go.Abs
variable [Glb]

theorem ev_mono {op : AOp} {args : List AVal} {rows : List Row} {K K' : AVal → List Row → Prop} (hK : ∀ v rs, K v rs → K' v rs) (h : ev op args rows K) : ev op args rows K' := (ev_det op args).mono h hK
theorem callK_mono {P : Program} {f : FuncId} {args : List AVal} {rows : List Row} {K K' : AVal → List Row → Prop} (hK : ∀ v rs, K v rs → K' v rs) (h : callK P f args rows K) : callK P f args rows K' := by
  obtain ⟨sel, vw, srows, h1, h2, h3⟩ := h
  exact ⟨sel, vw, srows, h1, h2, h3.mono fun v rs hq => ⟨hq.1, hK _ _ hq.2⟩⟩
theorem evNext_mono {rows : List Row} {x : AVal} {K K' : AVal → List Row → Prop} (hK : ∀ v rs, K v rs → K' v rs) (h : evNext rows x K) : evNext rows x K' := by
  unfold evNext at h
  split at h
  · split at h
    · rename_i hr hm
      simp only [evNext, hr, hm]
      exact ⟨h.1, h.2.1, fun ha => hK _ _ (h.2.2.1 ha), fun i hi hs => hK _ _ (h.2.2.2 i hi hs)⟩
    · exact h.elim
  · exact h.elim
theorem callV_mono {P : Program} {vs : List AVal} {rows : List Row} {K K' : AVal → List Row → Prop} (hK : ∀ v rs, K v rs → K' v rs) (h : callV P vs rows K) : callV P vs rows K' := by
  unfold callV at h ⊢
  split
  · exact ⟨h.1, callK_mono hK h.2⟩
  · rename_i hno
    split at h
    · rename_i f cs xs; exact (hno f cs xs rfl).elim
    · exact h
theorem runK_mono {P : Program} {o : IOp} {env : Env} {rows : List Row} {K K' : Env → List Row → Prop} (hK : ∀ e r, K e r → K' e r) (h : runK P o env rows K) : runK P o env rows K' := by
  unfold runK at h ⊢
  split
  · rename_i f hf
    rw [hf] at h
    exact callK_mono (fun v rs => hK _ _) h
  · rename_i hf
    rw [hf] at h
    simp only at h
    split
    · rename_i x hx
      rw [hx] at h
      exact evNext_mono (fun v rs => hK _ _) h
    · rename_i hno
      split at h
      · rename_i x hx
        exact (hno x hx).elim
      · exact h
  · rename_i hf
    rw [hf] at h
    simp only at h
    exact callV_mono (fun v rs => hK _ _) h
  · rename_i hne hnn hnv
    split at h
    · rename_i f hf
      exact (hne f hf).elim
    · rename_i hf
      exact (hnn hf).elim
    · rename_i hf
      exact (hnv hf).elim
    · exact ev_mono (fun v rs => hK _ _) h
theorem gK_mono {b w : Bool} {A A' B B' : Prop} (h1 : A → A') (h2 : B → B') (h : gK b w A B) : gK b w A' B' := by
  unfold gK at h ⊢
  by_cases hb : b = w
  · rw [if_pos hb] at h ⊢; exact h1 h
  · rw [if_neg hb] at h ⊢; exact h2 h
theorem stepK_mono {P : Program} {o : IOp} {env : Env} {rows : List Row} {K K' : Env → List Row → Prop} (hK : ∀ e r, K e r → K' e r) (h : stepK P o env rows K) : stepK P o env rows K' := by
  unfold stepK at h ⊢
  split
  · rename_i hg
    rw [hg] at h
    exact runK_mono hK h
  · rename_i s want hg
    rw [hg] at h
    simp only at h
    split
    · rename_i b hb
      rw [hb] at h
      exact gK_mono (runK_mono hK) (hK _ _) h
    · rename_i hb
      rw [hb] at h
      exact hK _ _ h
    · rename_i h1 h2
      split at h
      · rename_i b hb; exact (h1 b hb).elim
      · rename_i hb; exact (h2 hb).elim
      · exact h
theorem listK_mono {P : Program} : ∀ {os : List IOp} {env : Env} {rows : List Row} {K K' : Env → List Row → Prop}, (∀ e r, K e r → K' e r) → listK P os K env rows → listK P os K' env rows
  | [], _, _, _, _, hK, h => hK _ _ h
  | _ :: _, _, _, _, _, hK, h => stepK_mono (fun _ _ => listK_mono hK) h
theorem callT_mono {P : Program} {f : FuncId} {args : List AVal} {un : List Nat} {tk : Tk} {rows : List Row} {K K' : AVal → List Row → Prop} (hK : ∀ v rs, K v rs → K' v rs) (h : callT P f args un tk rows K) : callT P f args un tk rows K' := by
  obtain ⟨sel, vw, srows, h0, h1, h2, h3⟩ := h
  exact ⟨sel, vw, srows, h0, h1, h2, h3.mono fun v rs hq => ⟨hq.1, hK _ _ hq.2⟩⟩
theorem callVT_mono {P : Program} {vs : List AVal} {un : List Nat} {tk : Tk} {rows : List Row} {K K' : AVal → List Row → Prop} (hK : ∀ v rs, K v rs → K' v rs) (h : callVT P vs un tk rows K) : callVT P vs un tk rows K' := by
  unfold callVT at h ⊢
  split
  · exact ⟨h.1, callT_mono hK h.2⟩
  · rename_i hno
    split at h
    · rename_i f cs xs; exact (hno f cs xs rfl).elim
    · exact h
theorem runD_mono {P : Program} {base i : Nat} {d : DOp} {tk : Tk} {env : Env} {rows : List Row} {K K' : Tk → Env → List Row → Prop} (hK : ∀ t e r, K t e r → K' t e r) (h : runD P base i d tk env rows K) : runD P base i d tk env rows K' := by
  unfold runD at h ⊢
  split
  · rename_i q hq
    rw [hq] at h
    exact ⟨h.1, (evR_det _ _ _).mono h.2 fun v rs => hK _ _ _⟩
  · rename_i hq
    rw [hq] at h
    simp only at h
    split
    · rename_i f hf
      rw [hf] at h
      exact callT_mono (fun v rs => hK _ _ _) h
    · rename_i hf
      rw [hf] at h
      exact callVT_mono (fun v rs => hK _ _ _) h
    · rename_i hne hnv
      split at h
      · rename_i f hf
        exact (hne f hf).elim
      · rename_i hf
        exact (hnv hf).elim
      · exact ⟨h.1, ev_mono (fun v rs => hK _ _ _) h.2⟩
theorem grdD_mono {P : Program} {base i : Nat} {v : AVal} {want : Bool} {d : DOp} {tk : Tk} {env : Env} {rows : List Row} {K K' : Tk → Env → List Row → Prop} (hK : ∀ t e r, K t e r → K' t e r) (h : grdD P base v want i d tk env rows K) : grdD P base v want i d tk env rows K' := by
  unfold grdD at h ⊢
  split
  · exact gK_mono (runD_mono hK) (hK _ _ _) h
  · exact hK _ _ _ h
  · rename_i h1 h2
    split at h
    · rename_i b; exact (h1 b rfl).elim
    · exact (h2 rfl).elim
    · exact h
theorem drawK_mono {P : Program} {base : Nat} {live : List Nat} : ∀ {ds : List (Nat × DOp)} {tk : Tk} {env : Env} {rows : List Row} {K K' : Env → List Row → Prop}, (∀ e r, K e r → K' e r) → drawK P base ds live K tk env rows → drawK P base ds live K' tk env rows
  | [], _, _, _, _, _, hK, h => hK _ _ h
  | (i, d) :: ds, tk, env, rows, K, K', hK, h => by
    rw [drawK] at h ⊢
    split
    · rename_i hg
      rw [hg] at h
      exact runD_mono (fun _ _ _ => drawK_mono hK) h
    · rename_i s want hg
      rw [hg] at h
      exact grdD_mono (fun _ _ _ => drawK_mono hK) h
theorem Cl.mono {n0 : Nat} {K K' : Env → List Row → Prop} {env : Env} {rows : List Row} (hK : ∀ e r, K e r → K' e r) (h : Cl n0 K env rows) : Cl n0 K' env rows := by
  obtain ⟨e, r, h1, h2⟩ := h
  exact ⟨e, r, h1, hK _ _ h2⟩

theorem avc_mono {P : Program} {n0 : Nat} : ∀ (c : ACode) {K K' : Post} {env : Env} {rows : List Row}, (∀ e r, K.n e r → K'.n e r) → (∀ j e r, K.x j e r → K'.x j e r) → (∀ e r, K.r e r → K'.r e r) → avc P n0 c K env rows → avc P n0 c K' env rows
  | .skip, _, _, _, _, h1, _, _, h => h1 _ _ h
  | .region _ _, _, _, _, _, h1, _, _, h => listK_mono (fun _ _ => h1 _ _) h
  | .draw _ _ _, _, _, _, _, h1, _, _, h => drawK_mono h1 h
  | .seq a b, K, K', _, _, h1, h2, h3, h => avc_mono a (K := ⟨avc P n0 b K, K.x, K.r⟩) (K' := ⟨avc P n0 b K', K'.x, K'.r⟩) (fun _ _ => avc_mono b h1 h2 h3) h2 h3 h
  | .cond c a b, K, K', env, rows, h1, h2, h3, h => by
    rw [avc] at h ⊢
    unfold condK at h ⊢
    split
    · rename_i b' hb
      rw [hb] at h
      exact ⟨fun e => avc_mono a h1 h2 h3 (h.1 e), fun e => avc_mono b h1 h2 h3 (h.2 e)⟩
    · rename_i hne
      split at h
      · rename_i b' hb; exact (hne b' hb).elim
      · exact h
  | .block id c, K, K', env, rows, h1, h2, h3, h => by
    rw [avc] at h ⊢
    refine avc_mono c (K := ⟨K.n, fun j => if j = id then K.n else K.x j, K.r⟩) (K' := ⟨K'.n, fun j => if j = id then K'.n else K'.x j, K'.r⟩) h1 (fun j e r hx => ?_) h3 h
    by_cases hj : j = id
    · simp only [hj, if_true] at hx ⊢; exact h1 _ _ hx
    · simp only [hj, if_false] at hx ⊢; exact h2 _ _ _ hx
  | .loop c, K, K', env, rows, h1, h2, h3, h => by
    rw [avc] at h ⊢
    obtain ⟨I, μ, g1, g2⟩ := h
    exact ⟨I, μ, g1, fun e r hi => avc_mono c (K := ⟨Cl n0 fun env' rows' => I env' rows' ∧ μ env' rows' < μ e r, K.x, K.r⟩) (fun _ _ hx => hx) h2 h3 (g2 e r hi)⟩
  | .exit id, _, _, _, _, _, h2, _, h => h2 _ _ _ h
  | .ret, _, _, _, _, _, _, h3, h => h3 _ _ h

attribute [go_sem] Int.toNat_natCast List.take_length List.length_set els_set
end Go.Abs
end

section
/- Arguments of whatever plain type (numbers, bools, strings, structs, slices of these) as values that never change. -/
namespace Go.Abs
variable [Glb]
open Go.Deep

/-- fields that lie one behind the other -/
def tiledB (P : Program) (total : Nat) : List Field → Nat → Bool
  | [], off => off == total
  | f :: fs, off => f.offset == off && tiledB P total fs (off + P.cellsOf f.type)

/-- plain types -/
def suppB (P : Program) : Nat → TypeId → Bool
  | 0, _ => false
  | m + 1, t =>
    match P.underlying t with
    | some .bool => true
    | some (.int _) => true
    | some .string => true
    | some (.slice e) => decide (0 < P.cellsOf e) && suppB P m e
    | some (.struct fs) => tiledB P (P.cellsOf t) fs.toList 0 && fs.toList.all fun f => suppB P m f.type
    | _ => false

/-- the cells of a value of a plain type -/
def Got (P : Program) : Nat → TypeId → List AVal → Prop
  | 0, _, _ => False
  | m + 1, t, as =>
    match P.underlying t with
    | some .bool => ∃ b, as = [.bool b]
    | some (.int k) => ∃ n, as = [.int k n] ∧ k.min ≤ n ∧ n ≤ k.max
    | some .string => ∃ s, as = [.str s] ∧ s.size ≤ maxLen
    | some (.slice e) => ∃ vals, as = [.pure (P.cellsOf e) vals] ∧ vals.length ≤ maxLen ∧ ∀ v ∈ vals, v.length = P.cellsOf e ∧ Got P m e v
    | some (.struct fs) => as.length = P.cellsOf t ∧ ∀ f ∈ fs.toList, Got P m f.type ((as.drop f.offset).take (P.cellsOf f.type))
    | _ => False

theorem tiled_le {P : Program} {total : Nat} : ∀ {fs : List Field} {off : Nat}, tiledB P total fs off = true → off ≤ total ∧ ∀ f ∈ fs, off ≤ f.offset
  | [], off, h => by simp [tiledB] at h; exact ⟨by omega, by simp⟩
  | f :: fs, off, h => by
    simp only [tiledB, Bool.and_eq_true, beq_iff_eq] at h
    obtain ⟨h1, h2⟩ := tiled_le h.2
    refine ⟨by omega, fun g hg => ?_⟩
    rcases List.mem_cons.1 hg with rfl | hg
    · omega
    · have := h2 g hg; omega

theorem tile_build {P : Program} {C : Ctx} {total : Nat} {cs : List Value} {G : Field → List AVal → Prop} (hl : cs.length = total) : ∀ (fs : List Field) (off : Nat), tiledB P total fs off = true →
    (∀ f ∈ fs, ∃ as, RepL C as ((cs.drop f.offset).take (P.cellsOf f.type)) ∧ G f as ∧ allOne ((cs.drop f.offset).take (P.cellsOf f.type))) →
    ∃ as, RepL C as (cs.drop off) ∧ allOne (cs.drop off) ∧ ∀ f ∈ fs, G f ((as.drop (f.offset - off)).take (P.cellsOf f.type))
  | [], off, h, _ => by
    simp [tiledB] at h
    rw [List.drop_of_length_le (by omega)]
    exact ⟨[], by rw [RepL], by intro v hv; simp at hv, by simp⟩
  | f :: fs, off, h, hf => by
    have hle := tiled_le h
    simp only [tiledB, Bool.and_eq_true, beq_iff_eq] at h
    obtain ⟨ho, ht⟩ := h
    have hle2 := tiled_le ht
    obtain ⟨as1, a1, a2, a3⟩ := hf f (by simp)
    obtain ⟨as2, b1, b2, b3⟩ := tile_build hl fs _ ht fun g hg => hf g (by simp [hg])
    have hl1 : as1.length = P.cellsOf f.type := by
      have := a1.length
      simp only [List.length_take, List.length_drop] at this
      omega
    have hcs : cs.drop off = (cs.drop f.offset).take (P.cellsOf f.type) ++ cs.drop (off + P.cellsOf f.type) := by
      rw [ho, ← List.drop_drop, List.take_append_drop]
    refine ⟨as1 ++ as2, by rw [hcs]; exact a1.append b1, ?_, fun g hg => ?_⟩
    · rw [hcs]
      intro v hv
      rcases List.mem_append.1 hv with hv | hv
      · exact a3 v hv
      · exact b2 v hv
    · by_cases hgf : g ∈ fs
      · have h1 := hle2.2 g hgf
        have := b3 g hgf
        rw [List.drop_append, List.drop_of_length_le (by omega), List.nil_append, hl1, show g.offset - off - P.cellsOf f.type = g.offset - (off + P.cellsOf f.type) from by omega]
        exact this
      · rcases List.mem_cons.1 hg with rfl | hg
        · rw [ho, Nat.sub_self, List.drop_zero, List.take_append_of_le_length (by omega), List.take_of_length_le (by omega)]
          exact a2
        · exact (hgf hg).elim

section
variable {H : Type} {enc : TypeId × Value → H} {P : Program} {w : World} {base : Nat} {spare : Nat → Bool} {held : Bool}

theorem repE_of {C : Ctx} {b sz : Nat} : ∀ (vals : List (List AVal)) (o : Nat), (∀ (i : Nat) (v : List AVal), vals[i]? = some v → v.length = sz ∧ RepC C b (o + i * sz) v) → RepE C b o sz vals
  | [], o, _ => by simp [RepE]
  | v :: vals, o, h => by
    rw [RepE]
    obtain ⟨h1, h2⟩ := h 0 v (by simp)
    refine ⟨h1, by simpa using h2, repE_of vals (o + sz) fun i u hu => ?_⟩
    have := h (i + 1) u (by simpa using hu)
    rw [show o + sz + i * sz = o + (i + 1) * sz from by rw [Nat.add_mul]; omega]
    exact this

theorem got_of : ∀ (m : Nat) (t : TypeId) (fuel : Nat) (cs : List Value) (x : DataW H × List MemPlace), suppB P m t = true → DataW.trod enc P w base spare held fuel t cs = some x →
    ∃ as, RepL (ctx0 w).p as cs ∧ Got P m t as ∧ allOne cs
  | 0, t, fuel, cs, x, hs, _ => by simp [suppB] at hs
  | m + 1, t, 0, cs, x, _, h => by simp [DataW.trod] at h
  | m + 1, t, fuel + 1, cs, x, hs, h => by
    unfold suppB at hs
    have one1 : ∀ v : Value, v.oneCell' = true → allOne [v] := by intro v hv u hu; simp at hu; subst hu; exact hv
    split at hs
    · rename_i hu
      unfold DataW.trod at h
      rw [hu] at h
      split at h <;> simp_all
      rename_i b
      refine ⟨[.bool b], ?_, ?_, one1 _ (_root_.id rfl)⟩
      · rw [RepL]; exact ⟨_, [], _root_.id rfl, by rw [Rep], by rw [RepL]⟩
      · rw [Got, hu]; exact ⟨b, _root_.id rfl⟩
    · rename_i k hu
      unfold DataW.trod at h
      rw [hu] at h
      split at h <;> simp_all
      rename_i k' n hk
      obtain ⟨⟨rfl, hwf⟩, _⟩ := h
      refine ⟨[.int k' n], ?_, ?_, one1 _ (_root_.id rfl)⟩
      · rw [RepL]; exact ⟨_, [], _root_.id rfl, by rw [Rep], by rw [RepL]⟩
      · rw [Got, hu]; exact ⟨n, _root_.id rfl, by simpa [Lit.wf] using hwf⟩
    · rename_i hu
      unfold DataW.trod at h
      rw [hu] at h
      split at h <;> simp_all
      rename_i s
      refine ⟨[.str s], ?_, ?_, one1 _ (_root_.id rfl)⟩
      · rw [RepL]; exact ⟨_, [], _root_.id rfl, by rw [Rep], by rw [RepL]⟩
      · rw [Got, hu]; exact ⟨s, _root_.id rfl, by exact h.1⟩
    · rename_i e hu
      simp only [Bool.and_eq_true, decide_eq_true_eq] at hs
      rcases open_slice hu h with ⟨rfl, _⟩ | ⟨a, len, cap, mm, n, D, Pl, rfl, hb, hl, hm, hmm, rfl, hx⟩
      · refine ⟨[.pure (P.cellsOf e) []], ?_, ?_, one1 _ (_root_.id rfl)⟩
        · rw [RepL]; exact ⟨_, [], _root_.id rfl, by rw [Rep]; exact ⟨none, 0, by simp, by simp, .inl (by simp)⟩, by rw [RepL]⟩
        · rw [Got, hu]; exact ⟨[], _root_.id rfl, by simp, by simp⟩
      · have hlm : len ≤ mm := by rw [hmm]; split <;> omega
        have key : ∀ i, i < len → ∃ cs' as, w.cells? base (a.add (i * P.cellsOf e)) (P.cellsOf e) = some cs' ∧ RepL (ctx0 w).p as cs' ∧ Got P m e as ∧ allOne cs' := by
          intro i hi
          obtain ⟨cs', h1, h2⟩ := hx i (by omega)
          obtain ⟨as, g1, g2, g3⟩ := got_of m e n cs' _ hs.2 h2
          exact ⟨cs', as, h1, g1, g2, g3⟩
        -- the elements as a list
        have build : ∀ k, k ≤ len → ∃ vals : List (List AVal), vals.length = k ∧ ∀ (i : Nat) (v : List AVal), vals[i]? = some v → ∃ cs', w.cells? base (a.add (i * P.cellsOf e)) (P.cellsOf e) = some cs' ∧ RepL (ctx0 w).p v cs' ∧ Got P m e v ∧ allOne cs' := by
          intro k
          induction k with
          | zero => intro _; exact ⟨[], _root_.id rfl, fun i v hv => by simp at hv⟩
          | succ k ih =>
            intro hk
            obtain ⟨vals, h1, h2⟩ := ih (by omega)
            obtain ⟨cs', as, g1, g2, g3, g4⟩ := key k (by omega)
            refine ⟨vals ++ [as], by simp [h1], fun i v hv => ?_⟩
            rw [List.getElem?_append] at hv
            split at hv
            · exact h2 i v hv
            · rename_i hlt
              have : i = k := by
                rcases Nat.eq_or_lt_of_le (Nat.le_of_not_lt hlt) with h | h
                · omega
                · rw [List.getElem?_eq_none (by simp; omega)] at hv; cases hv
              subst this
              rw [h1, Nat.sub_self] at hv
              simp at hv
              subst hv
              exact ⟨cs', g1, g2, g3, g4⟩
        obtain ⟨vals, v1, v2⟩ := build len (Nat.le_refl _)
        have clen : ∀ {i : Nat} {cs' : List Value}, w.cells? base (a.add (i * P.cellsOf e)) (P.cellsOf e) = some cs' → cs'.length = P.cellsOf e ∧ ∀ j, j < P.cellsOf e → w.cell? ((a.add (i * P.cellsOf e)).add j) = cs'[j]? := by
          intro i cs' h
          have := World.cells?_some h
          exact ⟨this.2.1, this.2.2⟩
        refine ⟨[.pure (P.cellsOf e) vals], ?_, ?_, one1 _ (_root_.id rfl)⟩
        · rw [RepL]
          refine ⟨_, [], _root_.id rfl, ?_, by rw [RepL]⟩
          rw [Rep]
          refine ⟨some a, cap, by rw [v1], by omega, ?_⟩
          by_cases h0 : len = 0
          · exact .inl (by omega)
          · right
            obtain ⟨b, o, spot⟩ := a
            -- the first cell
            obtain ⟨as0, has0⟩ : ∃ v, vals[0]? = some v := ⟨_, List.getElem?_eq_getElem (by omega)⟩
            obtain ⟨cs0, c1, c2, c3, c4⟩ := v2 0 as0 has0
            obtain ⟨d1, d2⟩ := clen c1
            have hc0 := d2 0 hs.1
            rw [List.getElem?_eq_getElem (by omega)] at hc0
            have hspot : spot = none := by simpa [Addr.add] using World.cell?_spot hc0
            subst hspot
            have hadd : ∀ i j, ((⟨b, o, none⟩ : Addr).add i).add j = ⟨b, o + i + j, none⟩ := by
              intro i j
              have ap := Go.WideShapes.add_plain
              rw [ap, ap]
            rw [hadd] at hc0
            refine ⟨b, o, _root_.id rfl, ⟨World.block_lt_of_cell? w _ hc0, fun h => h, fun r c hr => by simp [ctx0, Ctx.p] at hr⟩, repE_of vals o fun i v hv => ?_⟩
            obtain ⟨cs', e1, e2, e3, e4⟩ := v2 i v hv
            obtain ⟨f1, f2⟩ := clen e1
            refine ⟨by rw [← e2.length, f1], RepC_iff.2 ⟨cs', e2, fun j u hj => ?_, e4⟩⟩
            have hjl : j < P.cellsOf e := by
              rw [← f1]
              exact (List.getElem?_eq_some_iff.1 hj).1
            have := f2 j hjl
            rw [hadd, hj] at this
            exact this
        · rw [Got, hu]
          refine ⟨vals, _root_.id rfl, by omega, fun v hv => ?_⟩
          obtain ⟨i, hi⟩ := List.getElem?_of_mem hv
          obtain ⟨cs', e1, e2, e3, e4⟩ := v2 i v hi
          exact ⟨by rw [← e2.length, (clen e1).1], e3⟩
    · rename_i fs hu
      simp only [Bool.and_eq_true, List.all_eq_true] at hs
      obtain ⟨xs, n, hfu, _, hl, hxl, hfx⟩ := DataW.trod_struct hu h
      obtain ⟨as, t1, t2, t3⟩ := tile_build (P := P) (C := (ctx0 w).p) (cs := cs) (G := fun f as => Got P m f.type as) hl fs.toList 0 hs.1 fun f hf => by
        obtain ⟨i, hi⟩ := List.getElem?_of_mem hf
        have hfi := hfx i f (by simpa using hi)
        have hix : i < xs.length := by
          rw [hxl]
          have := (List.getElem?_eq_some_iff.1 hi).1
          simpa using this
        rw [List.getElem?_eq_getElem hix] at hfi
        obtain ⟨as, g1, g2, g3⟩ := got_of m f.type n _ _ (hs.2 f hf) hfi
        exact ⟨as, g1, g2, g3⟩
      rw [List.drop_zero] at t1 t2
      refine ⟨as, t1, ?_, t2⟩
      rw [Got, hu]
      refine ⟨by rw [← t1.length, hl], fun f hf => ?_⟩
      simpa using t3 f hf
    · cases hs
end

end Go.Abs
end

section
/- From what an argument reads as to what it is as a value that never changes. -/
namespace Go.Abs
variable [Glb]
open Go.WideShapes

/-- a value of a plain type -/
def GotV (P : Program) (m : Nat) (t : TypeId) (a : AVal) : Prop := ∃ as, Got P m t as ∧ match P.underlying t with
  | some (.struct _) => a = .agg as
  | _ => as = [a]

theorem gotV_of {H : Type} {enc : TypeId × Value → H} {P : Program} {w : World} {base : Nat} {spare : Nat → Bool} {held : Bool} {r : Reach} {b0 : Nat} {t : TypeId} {v : Value} {d : DataW H} {p : List MemPlace} (m : Nat)
    (hs : suppB P m t = true) (hv : Value.okWide P w r b0 t v) (h : DataW.Trod enc P w base spare held t v d p) : ∃ a, Rep (ctx0 w) a v ∧ GotV P m t a := by
  obtain ⟨fuel, hf⟩ := h
  obtain ⟨as, h1, h2, _⟩ := got_of m t fuel _ _ hs hf
  have h1' := RepL.unp as _ h1
  cases m with
  | zero => simp [suppB] at hs
  | succ m =>
    by_cases hst : ∃ fs, P.underlying t = some (.struct fs)
    · obtain ⟨fs, hu⟩ := hst
      obtain ⟨cs, rfl, _⟩ := okWide_struct hu hv
      refine ⟨.agg as, by rw [Rep]; exact ⟨cs, _root_.id rfl, h1'⟩, as, h2, ?_⟩
      rw [hu]
    · have key : ∃ a, as = [a] := by
        have hg := h2
        unfold Got at hg
        split at hg
        · obtain ⟨b, rfl⟩ := hg; exact ⟨_, _root_.id rfl⟩
        · obtain ⟨n, rfl, _⟩ := hg; exact ⟨_, _root_.id rfl⟩
        · obtain ⟨s, rfl, _⟩ := hg; exact ⟨_, _root_.id rfl⟩
        · obtain ⟨vals, rfl, _⟩ := hg; exact ⟨_, _root_.id rfl⟩
        · rename_i fs hu; exact (hst ⟨fs, hu⟩).elim
        · exact hg.elim
      obtain ⟨a, rfl⟩ := key
      have hv1 : v.cells.toList = [v] := by
        have hg := h2
        unfold Got at hg
        split at hg
        · rename_i hu
          simp only [Value.okWide, hu, Cell.okWide] at hv
          cases v <;> simp_all [Cell.ok] <;> rfl
        · rename_i k hu
          obtain ⟨n, rfl⟩ := okWide_int hu hv; rfl
        · rename_i hu
          obtain ⟨s, rfl⟩ := okWide_string hu hv; rfl
        · rename_i e hu
          obtain ⟨a, len, cap, rfl⟩ := okWide_slice hu hv; rfl
        · rename_i fs hu; exact (hst ⟨fs, hu⟩).elim
        · exact hg.elim
      rw [hv1] at h1'
      rw [RepL] at h1'
      obtain ⟨u, rest, he, h3, _⟩ := h1'
      simp at he
      obtain ⟨rfl, _⟩ := he
      refine ⟨a, h3, [a], h2, ?_⟩
      split
      · rename_i fs hu; exact (hst ⟨fs, hu⟩).elim
      · rfl

theorem got_int {P : Program} {m : Nat} {t : TypeId} {as : List AVal} {k : IntKind} (hu : P.underlying t = some (.int k)) (h : Got P (m + 1) t as) : ∃ n, as = [.int k n] ∧ k.min ≤ n ∧ n ≤ k.max := by
  rw [Got, hu] at h
  exact h
theorem got_slice {P : Program} {m : Nat} {t e : TypeId} {as : List AVal} (hu : P.underlying t = some (.slice e)) (h : Got P (m + 1) t as) :
    ∃ vals, as = [.pure (P.cellsOf e) vals] ∧ vals.length ≤ maxLen ∧ ∀ v ∈ vals, v.length = P.cellsOf e ∧ Got P m e v := by
  rw [Got, hu] at h
  exact h
theorem gotV_slice {P : Program} {m : Nat} {t e : TypeId} {a : AVal} (hu : P.underlying t = some (.slice e)) (h : GotV P (m + 1) t a) :
    ∃ vals, a = .pure (P.cellsOf e) vals ∧ vals.length ≤ maxLen ∧ ∀ v ∈ vals, v.length = P.cellsOf e ∧ Got P m e v := by
  obtain ⟨as, h1, h2⟩ := h
  obtain ⟨vals, rfl, h3⟩ := got_slice hu h1
  rw [hu] at h2
  simp at h2
  exact ⟨vals, h2.symm, h3⟩
/-- elements, one by one -/
theorem list_of {α β : Type} {f : β → α} {Q : β → Prop} : ∀ (l : List α), (∀ x ∈ l, ∃ y, x = f y ∧ Q y) → ∃ ys : List β, l = ys.map f ∧ ∀ y ∈ ys, Q y
  | [], _ => ⟨[], _root_.id rfl, by simp⟩
  | x :: l, h => by
    obtain ⟨y, hy, hq⟩ := h x (by simp)
    obtain ⟨ys, h1, h2⟩ := list_of l fun z hz => h z (by simp [hz])
    refine ⟨y :: ys, by rw [hy, h1]; rfl, fun z hz => ?_⟩
    rcases List.mem_cons.1 hz with rfl | hz
    · exact hq
    · exact h2 z hz
theorem gotV_ints {P : Program} {m : Nat} {t e : TypeId} {a : AVal} {k : IntKind} (hu : P.underlying t = some (.slice e)) (he : P.underlying e = some (.int k)) (hc : P.cellsOf e = 1) (h : GotV P (m + 2) t a) :
    ∃ l, a = .pure 1 (numsE k l) ∧ l.length ≤ maxLen ∧ ∀ n ∈ l, k.min ≤ n ∧ n ≤ k.max := by
  obtain ⟨vals, rfl, h1, h2⟩ := gotV_slice hu h
  obtain ⟨l, rfl, h3⟩ := list_of (f := fun n : Int => [AVal.int k n]) vals fun v hv => got_int he (h2 v hv).2
  exact ⟨l, by rw [hc]; rfl, by simpa using h1, h3⟩
theorem gotV_tape {P : Program} {m : Nat} {t e : TypeId} {a : AVal} (hu : P.underlying t = some (.slice e)) (he : P.underlying e = some (.int .i64)) (hc : P.cellsOf e = 1) (h : GotV P (m + 2) t a) :
    ∃ l, a = .pure 1 (numsE .i64 l) ∧ TapeOk l := by
  obtain ⟨l, rfl, h1, h2⟩ := gotV_ints hu he hc h
  exact ⟨l, _root_.id rfl, tape_of (_root_.id rfl) h1 h2⟩
end Go.Abs
end

section
/- Code, with forgetting, renaming and freezing between any two statements. -/
namespace Go.Abs
variable [Glb]

def avcW (P : Program) (n0 : Nat) : ACode → Post → Env → List Row → Prop
  | .seq a b, K, env, rows => avcW P n0 a ⟨Cl n0 (avcW P n0 b K), K.x, K.r⟩ env rows
  | .cond c a b, K, env, rows => condK (c.ev env) (avcW P n0 a K env rows) (avcW P n0 b K env rows)
  | .block id c, K, env, rows => avcW P n0 c ⟨K.n, fun j => if j = id then K.n else K.x j, K.r⟩ env rows
  | .loop c, K, env, rows => ∃ (I : Env → List Row → Prop) (μ : Env → List Row → Nat), Cl n0 I env rows ∧
      ∀ env rows, I env rows → avcW P n0 c ⟨Cl n0 fun env' rows' => I env' rows' ∧ μ env' rows' < μ env rows, K.x, K.r⟩ env rows
  | .skip, K, env, rows => K.n env rows
  | .region ops live, K, env, rows => avc P n0 (.region ops live) K env rows
  | .draw ops res live, K, env, rows => avc P n0 (.draw ops res live) K env rows
  | .exit id, K, env, rows => K.x id env rows
  | .ret, K, env, rows => K.r env rows

section
variable {P : Program} {n n0 : Nat} {C0 : Ctx} [GO C0] {live : Nat → Info}
theorem avcW_sound : ∀ (c : Code) (ac : ACode), compileC P n live c = some ac → ∀ (K : Post) (a : Act) (w : World), Holds n n0 C0 (avcW P n0 ac K) a w → c.wp P (PostOf n n0 C0 K) a w
  | .skip, ac, hc, K, a, w, h => avc_sound .skip ac hc K a w (by simp [compileC] at hc; subst hc; exact h)
  | .region id ops false, ac, hc, K, a, w, h => by
    have hc' := hc
    simp only [compileC] at hc'
    split at hc'
    · simp at hc'; subst hc'; exact avc_sound _ _ hc K a w h
    · cases hc'
  | .region id ops true, ac, hc, K, a, w, h => by
    have hc' := hc
    simp only [compileC] at hc'
    split at hc'
    · obtain ⟨rt, hc'⟩ := compileD_R hc'
      unfold compileR at hc'
      split at hc'
      · simp at hc'; subst hc'; exact avc_sound _ _ hc K a w h
      · cases hc'
    · cases hc'
  | .seq x y, ac, hc, K, a, w, h => by
    simp only [compileC] at hc
    split at hc
    · rename_i ax ay hx hy
      simp at hc; subst hc
      refine wp_seq (wp_mono (avcW_sound x ax hx ⟨Cl n0 (avcW P n0 ay K), K.x, K.r⟩ a w h) ?_)
      intro e a' w' hq
      cases e with
      | normal => exact avcW_sound y ay hy K a' w' (holds_cl hq)
      | exit id => exact hq
      | ret => exact hq
      | goto l => exact hq
      | panic ch => exact hq
      | outgrown => exact hq
    · cases hc
  | .cond c x y, ac, hc, K, a, w, h => by
    simp only [compileC] at hc
    split at hc
    · rename_i o ax ay ho hx hy
      simp at hc; subst hc
      obtain ⟨env, C, rfl, hs, hl, hk⟩ := h
      have hr := opd_rep hs ho
      simp only [avcW, condK] at hk
      split at hk
      · rename_i b hb
        rw [hb, Rep] at hr
        refine wp_cond hr ?_
        cases b with
        | true => exact avcW_sound x ax hx K a C.w ⟨env, C, rfl, hs, hl, hk.1 rfl⟩
        | false => exact avcW_sound y ay hy K a C.w ⟨env, C, rfl, hs, hl, hk.2 rfl⟩
      · exact hk.elim
    · cases hc
  | .block id x, ac, hc, K, a, w, h => by
    simp only [compileC] at hc
    split at hc
    · rename_i ax hx
      simp at hc; subst hc
      refine wp_block (wp_mono (avcW_sound x ax hx _ a w h) ?_)
      intro e a' w' hq
      cases e with
      | normal => exact hq
      | exit j =>
        simp only [Exit.inBlock]
        simp only [PostOf] at hq
        split
        · rename_i hj; rw [if_pos hj] at hq; exact hq
        · rename_i hj; rw [if_neg hj] at hq; exact hq
      | ret => exact hq
      | goto l => exact hq
      | panic ch => exact hq
      | outgrown => exact hq
    · cases hc
  | .loop x, ac, hc, K, a, w, h => by
    simp only [compileC] at hc
    split at hc
    · rename_i ax hx
      simp at hc; subst hc
      obtain ⟨env, C, rfl, hs, hl, I, μ, h0, hround⟩ := h
      obtain ⟨env1, C1, hw1, hs1, hl1, hI1⟩ := holds_cl ⟨env, C, rfl, hs, hl, h0⟩
      rw [← hw1]
      refine wp_loop_ghost (fun m a w => Holds n n0 C0 (fun env rows => I env rows ∧ μ env rows = m) a w) (μ env1 C1.rows) ⟨env1, C1, rfl, hs1, hl1, hI1, rfl⟩ ?_
      rintro m a' w' ⟨env2, C2, rfl, hs2, hl2, hI2, rfl⟩
      refine wp_mono (avcW_sound x ax hx _ a' C2.w ⟨env2, C2, rfl, hs2, hl2, hround env2 C2.rows hI2⟩) ?_
      intro e a3 w3 hq
      cases e with
      | normal =>
        obtain ⟨env3, C3, rfl, hs3, hl3, hI3, hlt⟩ := holds_cl hq
        exact ⟨μ env3 C3.rows, hlt, env3, C3, rfl, hs3, hl3, hI3, rfl⟩
      | exit j => exact hq
      | ret => exact hq
      | goto l => exact hq
      | panic ch => exact hq
      | outgrown => exact hq
    · cases hc
  | .exit id, ac, hc, K, a, w, h => by
    simp [compileC] at hc; subst hc
    exact wp_exit h
  | .ret, ac, hc, K, a, w, h => by
    simp [compileC] at hc; subst hc
    exact wp_ret h
  | .rangeFunc .., ac, hc, K, a, w, h => by simp [compileC] at hc
  | .scope .., ac, hc, K, a, w, h => by simp [compileC] at hc
  | .label .., ac, hc, K, a, w, h => by simp [compileC] at hc
  | .goto .., ac, hc, K, a, w, h => by simp [compileC] at hc
  | .refuse .., ac, hc, K, a, w, h => by simp [compileC] at hc
end
theorem afnW_of_vc {P : Program} {f : FuncId} {fn : Func} {live : Nat → Info} {af : AFunc} (hf : P.funcs[f]? = some fn) (hc : compileF P live fn = some af) {args : List AVal} {rows : List Row} {Q : AVal → List Row → Prop}
    (hn : args.length ≤ af.ntmps) (h : avcW P rows.length af.body ⟨fun env rs => resK rs env af.results fun vs => Cl rows.length (fun env' rs' => Q (slot env' 0) rs') [(0, oneOrTup vs)] rs, fun _ _ _ => False, fun env rs => resK rs env af.results fun vs => Cl rows.length (fun env' rs' => Q (slot env' 0) rs') [(0, oneOrTup vs)] rs⟩ (argEnv args 0) rows) : AFn P f args rows Q := by
  intro C cargs hr hok hG hrep
  haveI : GO C := ⟨hG⟩
  subst hr
  unfold compileF at hc
  split at hc
  · rename_i c hb
    split at hc
    · rename_i ac rs hac hrs
      simp at hc; subst hc
      have hlen := hrep.length
      have hsz : (cargs.toArray ++ Array.replicate (fn.ntmps - cargs.toArray.size) undef).size = fn.ntmps := by
        have hn' : args.length ≤ fn.ntmps := hn
        simp; omega
      refine calls_of_wp hf hb (wp_mono (avcW_sound (C0 := C) c ac hac _ _ C.w ⟨_, C, rfl, ⟨hok, hsz, rfl, fun t => ?_⟩, Later.refl C, h⟩) ?_)
      · have := slot_argEnv args cargs 0 t hrep (Nat.zero_le _)
        rw [Nat.sub_zero] at this
        have e : (cargs.toArray ++ Array.replicate (fn.ntmps - cargs.toArray.size) undef).getD t undef = cargs.getD t undef := by
          simp only [Array.getD_eq_getD_getElem?, Array.getElem?_append, List.size_toArray, List.getElem?_toArray, List.getD_eq_getElem?_getD]
          split
          · rfl
          · rename_i hlt
            rw [List.getElem?_eq_none (by omega)]
            simp only [Array.getElem?_replicate]
            split <;> rfl
        rw [e]
        exact this
      · intro e a' w' hq
        have fin : Holds fn.ntmps C.rows.length C (fun env rs' => resK rs' env rs fun vs => Cl C.rows.length (fun env' rs' => Q (slot env' 0) rs') [(0, oneOrTup vs)] rs') a' w' →
            a'.defers = [] ∧ ∃ v, (results fn a'.tmps).run P w' = .ok v w' ∧ ∃ cv v' C', Ending.returned v = .returned cv ∧ C'.w = w' ∧ Rep C' v' cv ∧ Ok C' ∧ Later C.rows.length C C' ∧ Q v' C'.rows := by
          rintro ⟨env, D, rfl, hs, hl, hk⟩
          refine ⟨hs.defers, ?_⟩
          obtain ⟨vs, as, h1, h2, h3⟩ := res_sound hs fn.results.toList rs _ hrs hk
          -- the value that is handed back
          have hval : ∃ cv, (results fn a'.tmps).run P D.w = .ok cv D.w ∧ Rep D (oneOrTup as) cv := by
            have hm : (fn.results.mapM (m := Sem) (resGet a'.tmps)).run P D.w = .ok vs.toArray D.w := by
              rw [Array.mapM_eq_mapM_toList]
              simp only [Sem.run_map, h1, Result.andThen_ok]
            rw [results_eq]
            simp only [Sem.run_bind, hm, Result.andThen_ok, Sem.run_pure]
            refine ⟨_, rfl, ?_⟩
            cases as with
            | nil =>
              have hv0 : vs = [] := by rw [RepL] at h2; exact h2
              subst hv0
              simp only [oneOrTup]
              rw [Rep]
              exact ⟨#[], by simp, by simp [RepL]⟩
            | cons x xs =>
              cases xs with
              | nil =>
                rw [RepL] at h2
                obtain ⟨v, rest, rfl, h4, h5⟩ := h2
                rw [RepL] at h5
                subst h5
                simpa [oneOrTup] using h4
              | cons y ys =>
                have hl2 := h2.length
                simp only [oneOrTup]
                rw [Rep]
                refine ⟨vs.toArray, ?_, by simpa using h2⟩
                rw [dif_neg (by simp at hl2 ⊢; omega)]
          obtain ⟨cv, r1, r2⟩ := hval
          refine ⟨cv, r1, ?_⟩
          -- forget and rename
          obtain ⟨env', rows', hw, hq'⟩ := h3
          have hsim : Sim 1 [(0, oneOrTup as)] D ⟨#[cv], []⟩ := by
            refine ⟨hs.ok, rfl, rfl, fun t => ?_⟩
            simp only [slot]
            split
            · rename_i ht; subst ht; simpa using r2
            · simp [Rep]
          obtain ⟨D', d1, d2, d3, d4⟩ := wk_sound hw D rfl hsim hl
          refine ⟨cv, slot env' 0, D', rfl, d1, ?_, d3.ok, d4, by rw [d2]; exact hq'⟩
          simpa using d3.slots 0
        cases e with
        | normal => exact fin hq
        | ret => exact fin hq
        | exit id => obtain ⟨_, _, _, _, _, hk⟩ := hq; exact hk.elim
        | goto l => exact hq.elim
        | panic ch => exact hq.elim
        | outgrown => exact hq.elim
    · cases hc
  · cases hc

theorem afnW {P : Program} {f : FuncId} {fn : Func} {live : Nat → Info} {af : AFunc} (hf : P.funcs[f]? = some fn) (hc : compileF P live fn = some af) {args : List AVal} {rows : List Row} {Q : AVal → List Row → Prop}
    (hn : args.length ≤ af.ntmps) (h : avcW P rows.length af.body ⟨retK rows.length Q [] af.results, noX, retK rows.length Q [] af.results⟩ (argEnv args 0) rows) : AFn P f args rows Q :=
  afnW_of_vc hf hc hn h

/-- a branch -/
def condW (P : Program) (n0 : Nat) (v : AVal) (a b : ACode) (K : Post) (env : Env) (rows : List Row) : Prop := condK v (avcW P n0 a K env rows) (avcW P n0 b K env rows)
section
variable {P : Program} {n0 : Nat} {K : Post} {env : Env} {rows : List Row}
theorem avcW_skip : avcW P n0 .skip K env rows = K.n env rows := _root_.id rfl
theorem avcW_region {ops : List IOp} {live : List Nat} : avcW P n0 (.region ops live) K env rows = regK P ops live K.n env rows := _root_.id rfl
theorem avcW_draw {ops : List (Nat × DOp)} {res : List (TypeId × Nat)} {live : List Nat} : avcW P n0 (.draw ops res live) K env rows = drawC P ops res live K.n rows.length env rows := _root_.id rfl
theorem avcW_seq {a b : ACode} : avcW P n0 (.seq a b) K env rows = avcW P n0 a ⟨Cl n0 (avcW P n0 b K), K.x, K.r⟩ env rows := _root_.id rfl
theorem avcW_cond {c : Opd} {a b : ACode} : avcW P n0 (.cond c a b) K env rows = condW P n0 (c.ev env) a b K env rows := _root_.id rfl
theorem avcW_block {id : Nat} {c : ACode} : avcW P n0 (.block id c) K env rows = avcW P n0 c ⟨K.n, blockX id K, K.r⟩ env rows := by
  rw [avcW]
  congr 1
  congr 1
  funext j env rows
  unfold blockX
  split <;> rfl
theorem avcW_exit {id : Nat} : avcW P n0 (.exit id) K env rows = K.x id env rows := _root_.id rfl
theorem avcW_ret : avcW P n0 .ret K env rows = K.r env rows := _root_.id rfl
theorem condW_true {a b : ACode} : condW P n0 (.bool true) a b K env rows = avcW P n0 a K env rows := by simp [condW, condK]
theorem condW_false {a b : ACode} : condW P n0 (.bool false) a b K env rows = avcW P n0 b K env rows := by simp [condW, condK]
theorem condW_intro {b : Bool} {x y : ACode} (h1 : b = true → avcW P n0 x K env rows) (h2 : b = false → avcW P n0 y K env rows) : condW P n0 (.bool b) x y K env rows := ⟨h1, h2⟩
theorem avcW_loop {c : ACode} (I : Env → List Row → Prop) (μ : Env → List Row → Nat) (h0 : Cl n0 I env rows)
    (h : ∀ env rows, I env rows → avcW P n0 c ⟨Cl n0 fun env' rows' => I env' rows' ∧ μ env' rows' < μ env rows, K.x, K.r⟩ env rows) : avcW P n0 (.loop c) K env rows := ⟨I, μ, h0, h⟩
end
attribute [go_sem] avcW_skip avcW_region avcW_draw avcW_seq avcW_cond avcW_block avcW_exit avcW_ret condW_true condW_false

/-- rows that never change from now on -/
theorem Cl.frz {n0 : Nat} {K : Env → List Row → Prop} {env : Env} {rows srows : List Row} (sel : List (Option Nat)) (vw : List Nat) (h1 : onceB sel = true) (h2 : keepsB n0 0 sel = true) (hg : getRows rows vw sel sel = some srows)
    (h : Cl n0 K (env.map fun p => (p.1, bindV rows sel vw p.2)) srows) : Cl n0 K env rows := Cl.tr sel vw h1 h2 hg h

end Go.Abs
end

section
/- Rows that are nearly final: one element holds a slice that is made unchangeable. -/
namespace Go.Abs
variable [Glb]

theorem cleanE_append : ∀ {a b : List (List AVal)}, cleanE (a ++ b) = (cleanE a && cleanE b)
  | [], b => by simp [cleanE]
  | e :: a, b => by simp only [List.cons_append, cleanE, cleanE_append, Bool.and_assoc]
theorem map_bindL_clean {rows : List Row} {sel : List (Option Nat)} {vw : List Nat} : ∀ {es : List (List AVal)}, cleanE es = true → es.map (bindL rows sel vw) = es
  | [], _ => _root_.id rfl
  | e :: es, h => by
    simp only [cleanE, Bool.and_eq_true] at h
    rw [List.map_cons, bindL_clean e h.1, map_bindL_clean h.2]
theorem bindE_eq {rows : List Row} {sel : List (Option Nat)} {vw : List Nat} {es : List (List AVal)} : bindE rows sel vw es = es.map (bindL rows sel vw) := by
  unfold bindE
  split
  · rename_i h; rw [map_bindL_clean h]
  · rfl
theorem bindE_snoc {α : Type} [Cel α] {rows : List Row} {sel : List (Option Nat)} {vw : List Nat} {l : List α} {x : List AVal} : bindE rows sel vw (els l ++ [x]) = els l ++ [bindL rows sel vw x] := by
  rw [bindE_eq, List.map_append, map_bindL_clean els_clean]; rfl
theorem map_renL_clean {f : Nat → Nat} : ∀ {es : List (List AVal)}, cleanE es = true → es.map (renL f) = es
  | [], _ => _root_.id rfl
  | e :: es, h => by
    simp only [cleanE, Bool.and_eq_true] at h
    rw [List.map_cons, renL_clean f e h.1, map_renL_clean h.2]
theorem renE_snoc {α : Type} [Cel α] {f : Nat → Nat} {l : List α} {x : List AVal} : renE f (els l ++ [x]) = els l ++ [renL f x] := by
  rw [renE_eq, List.map_append, map_renL_clean els_clean]; rfl
theorem bindE_if_snoc {α : Type} [Cel α] {rows : List Row} {sel : List (Option Nat)} {vw : List Nat} {l : List α} {x : List AVal} :
    (if cleanE (els l ++ [x]) = true then els l ++ [x] else (els l ++ [x]).map (bindL rows sel vw)) = els l ++ [bindL rows sel vw x] := bindE_snoc
theorem renE_if_snoc {α : Type} [Cel α] {f : Nat → Nat} {l : List α} {x : List AVal} : (if cleanE (els l ++ [x]) = true then els l ++ [x] else (els l ++ [x]).map (renL f)) = els l ++ [renL f x] := renE_snoc
attribute [go_sem] bindE_if_snoc renE_if_snoc
/-- a slice of a row that is made unchangeable -/
theorem bindV_frz {rows : List Row} {sel : List (Option Nat)} {vw : List Nat} {r n : Nat} {e : TypeId} {sz : Nat} {vals : List (List AVal)} (hs : pos? sel r = none) (hv : vw.contains r = true) (hr : rows[r]? = some (.live e sz vals)) (hn : n = vals.length) (hc : cleanE vals = true) :
    bindV rows sel vw (.own r n 0 n) = .pure sz vals := by
  rw [bindV]
  simp only [hs, hv, if_true, hr]
  rw [if_pos ⟨hn, by omega, hc⟩, List.drop_zero, hn, List.take_length]

end Go.Abs
end

section
/- Contracts under forgetting and freezing: a function whose argument never changes may be given an owned row, which is then unchangeable. -/
namespace Go.Abs
variable [Glb]

theorem AFn.wk {P : Program} {f : FuncId} {args args' : List AVal} {rows rows' : List Row} {Q : AVal → List Row → Prop} (w : Wk rows.length [(0, .tup args)] rows [(0, .tup args')] rows') (h : callK P f args' rows' Q) : AFn P f args rows Q := by
  intro C cargs hr hok hG hrep
  subst hr
  have hsim : Sim 1 [(0, .tup args)] C ⟨#[.tuple cargs.toArray], []⟩ := by
    refine ⟨hok, rfl, rfl, fun t => ?_⟩
    simp only [slot]
    split
    · rename_i ht
      subst ht
      rw [Rep]
      exact ⟨cargs.toArray, rfl, by simpa using hrep⟩
    · simp [Rep]
  obtain ⟨C', hw, hr', hs, hl⟩ := wk_sound w C rfl hsim (Later.refl C)
  subst hr'
  have h0 := hs.slots 0
  have e : slot [(0, .tup args')] 0 = AVal.tup args' := _root_.id rfl
  rw [e, Rep] at h0
  obtain ⟨vs, h1, h2⟩ := h0
  have h3 : vs = cargs.toArray := by
    have : Value.tuple cargs.toArray = .tuple vs := h1
    injection this with this
    exact this.symm
  subst h3
  rw [← hw]
  refine (call_sound hs.ok (hG.later hl) (by simpa using h2) h).mono ?_
  rintro e w' ⟨cv, v, D, rfl, rfl, a1, a2, a3, a4⟩
  exact ⟨cv, v, D, rfl, rfl, a1, a2, hl.trans a3 hl.len, a4⟩

/-- the first argument is given away -/
theorem AFn.give {α : Type} [Cel α] {P : Program} {f : FuncId} {l : List α} {T sz : Nat} {as : List AVal} {Q : AVal → List Row → Prop} (hc : cleanL as = true) (hA : AFn P f (.pure sz (els l) :: as) [] Q) (hq : ∀ v rs, Q v rs → clean v = true ∧ rs = []) :
    AFn P f (.own 0 l.length 0 l.length :: as) [.live T sz (els l)] (fun v rs => Q v [] ∧ rs = [.dead]) := by
  have hb : bindV [.live T sz (els l)] [none] [0] (.own 0 l.length 0 l.length) = .pure sz (els l) := bindV_frz (_root_.id rfl) (_root_.id rfl) (_root_.id rfl) els_length.symm els_clean
  have w : Wk 1 [(0, .tup (.own 0 l.length 0 l.length :: as))] [.live T sz (els l)] [(0, .tup (.pure sz (els l) :: as))] [.dead] := by
    have := Wk.tr (n0 := 1) (env := [(0, .tup (.own 0 l.length 0 l.length :: as))]) (rows := [.live T sz (els l)]) (srows := [.dead]) [none] [0] (onceB_spec (_root_.id rfl)) (keeps_of (_root_.id rfl)) (_root_.id rfl)
    simpa only [List.map_cons, List.map_nil, bindV, bindL, ← hb, bindL_clean as hc] using this
  refine AFn.wk w ⟨[], [], [], by simp, _root_.id rfl, ?_⟩
  rw [bindL_clean]
  · refine hA.mono fun v rs h => ?_
    obtain ⟨h1, rfl⟩ := hq v rs h
    refine ⟨.inl rfl, ?_, _root_.id rfl⟩
    rw [renV_clean _ _ h1]; exact h
  · simp [cleanL, clean, hc]

end Go.Abs
end

section
/- Contracts: an empty slice where a list that never changes is asked for; an owned row inside an argument is given away. -/
namespace Go.Abs
variable [Glb]

theorem AFn.args {P : Program} {f : FuncId} {args args' : List AVal} {rows : List Row} {Q : AVal → List Row → Prop} (hr : ∀ (C : Ctx) (vs : List Value), RepL C args' vs → RepL C args vs) (h : AFn P f args rows Q) : AFn P f args' rows Q :=
  fun C cargs h1 h2 hG h3 => h C cargs h1 h2 hG (hr C cargs h3)

theorem rep_nils {C : Ctx} {sz : Nat} {v : Value} (h : Rep C .nils v) : Rep C (.pure sz []) v := by
  have h' : ∃ ao, v = .slice ao 0 0 := by simpa [Rep] using h
  obtain ⟨ao, rfl⟩ := h'
  rw [Rep]
  exact ⟨ao, 0, _root_.id rfl, by simp, .inl (_root_.id rfl)⟩

mutual
/-- b says no more than a: an empty slice may stand for an empty list -/
def le : AVal → AVal → Prop
  | .nils, .pure _ vals => vals = []
  | .agg as, .agg bs => leL as bs
  | .tup as, .tup bs => leL as bs
  | a, b => a = b
def leL : List AVal → List AVal → Prop
  | a :: as, b :: bs => le a b ∧ leL as bs
  | [], [] => True
  | _, _ => False
end

theorem le_refl (a : AVal) : (∀ as, a ≠ .agg as) → (∀ as, a ≠ .tup as) → le a a := by
  intro h1 h2
  cases a with
  | agg as => exact absurd (_root_.id rfl) (h1 as)
  | tup as => exact absurd (_root_.id rfl) (h2 as)
  | _ => simp [le]

mutual
theorem rep_le {C : Ctx} : ∀ (a b : AVal) (v : Value), le a b → Rep C a v → Rep C b v
  | .agg as, .agg bs, v, h, r => by
    rw [le] at h
    rw [Rep] at r ⊢
    obtain ⟨vs, rfl, hr⟩ := r
    exact ⟨vs, _root_.id rfl, repL_le as bs _ h hr⟩
  | .tup as, .tup bs, v, h, r => by
    rw [le] at h
    rw [Rep] at r ⊢
    obtain ⟨vs, rfl, hr⟩ := r
    exact ⟨vs, _root_.id rfl, repL_le as bs _ h hr⟩
  | .nils, .pure sz vals, v, h, r => by
    rw [le] at h
    subst h
    exact rep_nils r
  | .int .., b, v, h, r => by simp [le] at h; subst h; exact r
  | .bool .., b, v, h, r => by simp [le] at h; subst h; exact r
  | .str .., b, v, h, r => by simp [le] at h; subst h; exact r
  | .pure .., b, v, h, r => by simp [le] at h; subst h; exact r
  | .own .., b, v, h, r => by simp [le] at h; subst h; exact r
  | .ref .., b, v, h, r => by simp [le] at h; subst h; exact r
  | .pref .., b, v, h, r => by simp [le] at h; subst h; exact r
  | .nilp, b, v, h, r => by simp [le] at h; subst h; exact r
  | .junk, b, v, h, r => by simp [le] at h; subst h; exact r
  | .nils, .nils, v, h, r => r
  | .nils, .int .., v, h, r => by simp [le] at h
  | .nils, .bool .., v, h, r => by simp [le] at h
  | .nils, .str .., v, h, r => by simp [le] at h
  | .nils, .agg .., v, h, r => by simp [le] at h
  | .nils, .tup .., v, h, r => by simp [le] at h
  | .nils, .own .., v, h, r => by simp [le] at h
  | .nils, .ref .., v, h, r => by simp [le] at h
  | .nils, .pref .., v, h, r => by simp [le] at h
  | .nils, .nilp, v, h, r => by simp [le] at h
  | .nils, .junk, v, h, r => by simp [le] at h
  | .agg as, .int .., v, h, r => by simp [le] at h
  | .agg as, .bool .., v, h, r => by simp [le] at h
  | .agg as, .str .., v, h, r => by simp [le] at h
  | .agg as, .tup .., v, h, r => by simp [le] at h
  | .agg as, .own .., v, h, r => by simp [le] at h
  | .agg as, .ref .., v, h, r => by simp [le] at h
  | .agg as, .pref .., v, h, r => by simp [le] at h
  | .agg as, .nilp, v, h, r => by simp [le] at h
  | .agg as, .junk, v, h, r => by simp [le] at h
  | .agg as, .nils, v, h, r => by simp [le] at h
  | .agg as, .pure .., v, h, r => by simp [le] at h
  | .tup as, .int .., v, h, r => by simp [le] at h
  | .tup as, .bool .., v, h, r => by simp [le] at h
  | .tup as, .str .., v, h, r => by simp [le] at h
  | .tup as, .agg .., v, h, r => by simp [le] at h
  | .tup as, .own .., v, h, r => by simp [le] at h
  | .tup as, .ref .., v, h, r => by simp [le] at h
  | .tup as, .pref .., v, h, r => by simp [le] at h
  | .tup as, .nilp, v, h, r => by simp [le] at h
  | .tup as, .junk, v, h, r => by simp [le] at h
  | .tup as, .nils, v, h, r => by simp [le] at h
  | .tup as, .pure .., v, h, r => by simp [le] at h
  | .fn .., b, v, h, r => by simp [le] at h; subst h; exact r
  | .mref .., b, v, h, r => by simp [le] at h; subst h; exact r
  | .nilm, b, v, h, r => by simp [le] at h; subst h; exact r
  | .itref .., b, v, h, r => by simp [le] at h; subst h; exact r
  | .nils, .fn .., v, h, r => by simp [le] at h
  | .nils, .mref .., v, h, r => by simp [le] at h
  | .nils, .nilm, v, h, r => by simp [le] at h
  | .nils, .itref .., v, h, r => by simp [le] at h
  | .agg as, .fn .., v, h, r => by simp [le] at h
  | .agg as, .mref .., v, h, r => by simp [le] at h
  | .agg as, .nilm, v, h, r => by simp [le] at h
  | .agg as, .itref .., v, h, r => by simp [le] at h
  | .tup as, .fn .., v, h, r => by simp [le] at h
  | .tup as, .mref .., v, h, r => by simp [le] at h
  | .tup as, .nilm, v, h, r => by simp [le] at h
  | .tup as, .itref .., v, h, r => by simp [le] at h
theorem repL_le {C : Ctx} : ∀ (as bs : List AVal) (vs : List Value), leL as bs → RepL C as vs → RepL C bs vs
  | [], [], vs, _, r => r
  | a :: as, b :: bs, vs, h, r => by
    rw [leL] at h
    rw [RepL] at r ⊢
    obtain ⟨v, rest, rfl, h1, h2⟩ := r
    exact ⟨v, rest, _root_.id rfl, rep_le a b v h.1 h1, repL_le as bs rest h.2 h2⟩
  | [], _ :: _, vs, h, _ => by simp [leL] at h
  | _ :: _, [], vs, h, _ => by simp [leL] at h
end

theorem AFn.le {P : Program} {f : FuncId} {args args' : List AVal} {rows : List Row} {Q : AVal → List Row → Prop} (h : AFn P f args rows Q) (hr : leL args' args) : AFn P f args' rows Q :=
  h.args fun _ vs => repL_le args' args vs hr

/-- a row that some argument holds is given away -/
theorem AFn.give1 {α : Type} [Cel α] {P : Program} {f : FuncId} {l : List α} {T sz : Nat} {args args' : List AVal} {Q : AVal → List Row → Prop} (hb : bindL [.live T sz (els l)] [none] [0] args = args') (hc : cleanL args' = true) (hA : AFn P f args' [] Q)
    (hq : ∀ v rs, Q v rs → clean v = true ∧ rs = []) : AFn P f args [.live T sz (els l)] (fun v rs => Q v [] ∧ rs = [.dead]) := by
  have w : Wk 1 [(0, .tup args)] [.live T sz (els l)] [(0, .tup args')] [.dead] := by
    have := Wk.tr (n0 := 1) (env := [(0, .tup args)]) (rows := [.live T sz (els l)]) (srows := [.dead]) [none] [0] (onceB_spec (_root_.id rfl)) (keeps_of (_root_.id rfl)) (_root_.id rfl)
    simpa only [List.map_cons, List.map_nil, bindV, hb] using this
  refine AFn.wk w ⟨[], [], [], by simp, _root_.id rfl, ?_⟩
  rw [bindL_clean _ hc]
  refine hA.mono fun v rs h => ?_
  obtain ⟨h1, rfl⟩ := hq v rs h
  refine ⟨.inl rfl, ?_, _root_.id rfl⟩
  rw [renV_clean _ _ h1]; exact h

end Go.Abs
end

section
/- A contract from elsewhere: a call whose frame is known. -/
namespace Go.Abs
open Go.RowKit (Below)
variable [Glb]

theorem below_ok {C : Ctx} {w' : World} (h : Ok C) (hb : Below C.w.heap.size C.w w') (hd : Dr.d → C.w.drawn ≤ w'.drawn) : Ok { C with w := w' } ∧ Later C.rows.length C { C with w := w' } := by
  have later : Later C.rows.length C { C with w := w' } :=
    ⟨hb.os, hb.tape, hb.output, hb.size, fun b hl _ => hb.block b hl, fun r _ c h => .inl ⟨r, c, h⟩, _root_.id rfl, _root_.id rfl, Nat.le_refl _, fun _ _ _ vals _ h => ⟨vals, h, Nat.le_refl _, fun _ => _root_.id rfl⟩, fun _ o _ h => ⟨o, h, _root_.id rfl⟩, hd⟩
  refine ⟨⟨h.pm, h.plen, fun r row hr => ?_, h.inj, fun b hl => Nat.lt_of_lt_of_le (h.om b hl) hb.size⟩, later⟩
  exact RowOk.move later.ext (_root_.id rfl) (_root_.id rfl) (fun b c hl => hb.block b (h.lt hl)) (h.rows r row hr)

theorem AFn.leaf {P : Program} {f : FuncId} {args : List AVal} {rows : List Row} {Q : AVal → List Row → Prop}
    (h : ∀ (C : Ctx) (cargs : List Value), C.rows = rows → Ok C → GOk C → RepL C args cargs → Calls P f cargs.toArray C.w fun e w' => ∃ cv v, e = .returned cv ∧ (Below C.w.heap.size C.w w' ∧ C.w.drawn ≤ w'.drawn) ∧ (∀ C' : Ctx, Ext C C' → Rep C' v cv) ∧ Q v rows) : AFn P f args rows Q := by
  intro C cargs hr hok hG hrep
  refine (h C cargs hr hok hG hrep).mono ?_
  rintro e w' ⟨cv, v, rfl, ⟨hb, hd⟩, hv, hq⟩
  obtain ⟨h1, h2⟩ := below_ok hok hb (fun _ => hd)
  subst hr
  exact ⟨cv, v, _, _root_.id rfl, _root_.id rfl, hv _ h2.ext, h1, h2, hq⟩

/-- .. where nothing is known of the choices, and what comes back may lie in new memory that never changes -/
theorem AFn.leafN {P : Program} {f : FuncId} {args : List AVal} {rows : List Row} {Q : AVal → List Row → Prop} (h0 : ¬ Dr.d)
    (h : ∀ (C : Ctx) (cargs : List Value), C.rows = rows → Ok C → GOk C → RepL C args cargs → Calls P f cargs.toArray C.w fun e w' => ∃ cv v, e = .returned cv ∧ Below C.w.heap.size C.w w' ∧ (Ok { C with w := w' } → Rep { C with w := w' } v cv) ∧ Q v rows) : AFn P f args rows Q := by
  intro C cargs hr hok hG hrep
  refine (h C cargs hr hok hG hrep).mono ?_
  rintro e w' ⟨cv, v, rfl, hb, hv, hq⟩
  obtain ⟨h1, h2⟩ := below_ok hok hb (fun d => absurd d h0)
  subst hr
  exact ⟨cv, v, _, _root_.id rfl, _root_.id rfl, hv h1, h1, h2, hq⟩

end Go.Abs
end

section
/- A call that turns a row of numbers in its place: contracts of slices.Sort's make. -/
namespace Go.Abs
open Go.Sort
variable [Glb]

theorem repL_nums {C : Ctx} : ∀ {zs : List Int} {vs : List Value}, RepL C (numsE .i64 zs).flatten vs → vs = zs.map (Value.int .i64)
  | [], vs, h => by simpa [numsE, RepL] using h
  | z :: zs, vs, h => by
    have h' : RepL C (.int .i64 z :: (numsE .i64 zs).flatten) vs := h
    rw [RepL] at h'
    obtain ⟨v, rest, rfl, h1, h2⟩ := h'
    rw [Rep] at h1
    rw [h1, repL_nums h2]; rfl
theorem nums_repL {C : Ctx} : ∀ (zs : List Int), RepL C (numsE .i64 zs).flatten (zs.map (Value.int .i64))
  | [] => by simp [numsE, RepL]
  | z :: zs => by
    show RepL C (.int .i64 z :: (numsE .i64 zs).flatten) (Value.int .i64 z :: zs.map (Value.int .i64))
    rw [RepL]
    exact ⟨_, _, _root_.id rfl, by rw [Rep], nums_repL zs⟩
theorem nums_elems {C : Ctx} (zs : List Int) : Elems C 1 (numsE .i64 zs) (zs.map (Value.int .i64)) := by
  refine ⟨?_, nums_repL zs, ?_⟩
  · intro e he
    simp only [numsE, List.mem_map] at he
    obtain ⟨z, _, rfl⟩ := he
    rfl
  · intro v hv
    simp only [List.mem_map] at hv
    obtain ⟨z, _, rfl⟩ := hv
    rfl

theorem AFn.inPlaceG {P : Program} {f : FuncId} {T : TypeId} {zs zs' : List Int} (cv : Nat → Nat → Value) (v : AVal) (hlen : zs'.length = zs.length) (hpos : 0 < zs.length)
    (hV : ∀ (C : Ctx) (b c : Nat), C.pm = false → C.rows = [.live T 1 (numsE .i64 zs')] → C.phi[0]? = some (some (b, c)) → zs'.length ≤ c → Rep C v (cv b c))
    (h : ∀ (w : World) (blk cap : Nat), Go.Sort.Holds (Value.int .i64) w blk 0 zs.toArray → blk < w.heap.size → zs.length ≤ cap → Calls P f #[.slice (some ⟨blk, 0, none⟩) zs.length cap] w fun e w' =>
      e = .returned (cv blk cap) ∧ ∃ n os, w' = grow (putRow (Value.int .i64) (Sort.ahead w n) blk 0 zs'.toArray) os) :
    AFn P f [.own 0 zs.length 0 zs.length] [.live T 1 (numsE .i64 zs)] (fun v' rs => v' = v ∧ rs = [.live T 1 (numsE .i64 zs')]) := by
  intro C cargs hr hok hG hrep
  rw [RepL] at hrep
  obtain ⟨v0, rest, rfl, hv, hn⟩ := hrep
  rw [RepL] at hn
  subst hn
  have hr0 : C.rows[0]? = some (.live T 1 (numsE .i64 zs)) := by rw [hr]; rfl
  rcases hok.live hr0 with ⟨_, h0⟩ | ⟨b, cap, cs, hp, hom, hheap, hcs, hcap, hle, hE⟩
  · have := numsE_length (k := .i64) (l := zs)
    rw [h0] at this
    simp at this
    omega
  rw [Rep] at hv
  obtain ⟨hpm, _, _, hv⟩ := hv
  obtain ⟨_, hv⟩ := hv _ _ _ hr0
  obtain ⟨_, p, hp', hv⟩ := hv (by simp [numsE])
  obtain rfl := Option.some.inj (hp.symm.trans hp')
  obtain ⟨a, c, rfl, _, ha1, ha2, ha3, _⟩ := hv
  obtain ⟨ha4, rfl⟩ := ha3 rfl
  have haddr : a = ⟨b, 0, none⟩ := by cases a; simp_all
  subst haddr
  obtain ⟨vs, hel, hca⟩ := hE.elems
  have hvs := repL_nums hel.rep
  subst hvs
  have hblk : b < C.w.heap.size := (Array.getElem?_eq_some_iff.1 hheap).1
  have htake := take_of_cellsAt hheap hca
  have hH : Go.Sort.Holds (Value.int .i64) C.w b 0 zs.toArray := by
    intro j hj
    have hj' : j < zs.length := by simpa using hj
    have hc : cs[j]? = some (Value.int .i64 zs[j]) := by
      have := congrArg (fun l : List Value => l[j]?) htake
      simpa [List.getElem?_take, hj'] using this
    refine ⟨?_, ?_⟩
    · unfold World.cell?
      simp [hheap, hc, hj']
    · unfold World.frozen?
      simp [hheap]
  refine (h C.w b c hH hblk (by simpa [numsE] using hle)).mono ?_
  rintro e w' ⟨rfl, n, os, rfl⟩
  have hheap' : (grow (putRow (Value.int .i64) (Sort.ahead C.w n) b 0 zs'.toArray) os).heap[b]? = some (.cells (putCells (Value.int .i64) 0 zs'.toArray cs) T (0, 0)) := by
    unfold grow putRow mapBlock
    show (((C.w.heap.modify b (onCells (putCells (Value.int .i64) 0 zs'.toArray)))) ++ os)[b]? = _
    rw [Array.getElem?_append_left (by simpa using hblk), Array.getElem?_modify]
    simp [hheap, onCells]
  have hsz : (putCells (Value.int .i64) 0 zs'.toArray cs).size = c * 1 := by unfold putCells; simpa using hcs
  have hcl : zs.length ≤ cs.size := by rw [hcs]; simpa [numsE] using hle
  have ht : (putCells (Value.int .i64) 0 zs'.toArray cs).toList.take (zs'.map (Value.int .i64)).length = zs'.map (Value.int .i64) := by
    apply List.ext_getElem?
    intro i
    by_cases hi : i < zs'.length
    · have hics : i < cs.size := by omega
      simp only [List.length_map, List.getElem?_take, if_pos hi, Array.getElem?_toList, putCells, Array.getElem?_mapIdx, Array.getElem?_eq_getElem hics, Option.map_some, List.getElem?_map, List.getElem?_eq_getElem hi]
      simp [hi]
    · rw [List.getElem?_eq_none (by simp; omega), List.getElem?_eq_none (by simpa using hi)]
  obtain ⟨h1, h2⟩ := set_row hok hr0 hp b c (putCells (Value.int .i64) 0 zs'.toArray cs) (numsE .i64 zs') (zs'.map (Value.int .i64)) _ (grownBy_sortedI (n := n) (os := os) zs'.toArray) (.inl rfl) hheap' hsz hcap
    (by simpa [numsE, hlen] using hle) (nums_elems zs') ht (by simp [numsE, hlen]) (fun _ => rfl) (Nat.le_add_right _ _)
  refine ⟨_, v, _, rfl, rfl, ?_, h1, ?_, rfl, ?_⟩
  · refine hV _ b c hpm (by rw [hr]; rfl) ?_ (by simpa [numsE, hlen] using hle)
    have hl : 0 < C.phi.length := (List.getElem?_eq_some_iff.1 hp).1
    simp [hl]
  · rw [hr] at h2 ⊢; exact h2
  · rw [hr]; rfl

theorem AFn.inPlace {P : Program} {f : FuncId} {T : TypeId} {zs zs' : List Int} (hlen : zs'.length = zs.length) (hpos : 0 < zs.length)
    (h : ∀ (w : World) (blk cap : Nat), Go.Sort.Holds (Value.int .i64) w blk 0 zs.toArray → blk < w.heap.size → Calls P f #[.slice (some ⟨blk, 0, none⟩) zs.length cap] w fun e w' =>
      e = .returned (.tuple #[]) ∧ ∃ n os, w' = grow (putRow (Value.int .i64) (Sort.ahead w n) blk 0 zs'.toArray) os) :
    AFn P f [.own 0 zs.length 0 zs.length] [.live T 1 (numsE .i64 zs)] (fun v rs => v = .tup [] ∧ rs = [.live T 1 (numsE .i64 zs')]) :=
  AFn.inPlaceG (fun _ _ => .tuple #[]) (.tup []) hlen hpos (fun _ _ _ _ _ _ _ => by rw [Rep]; exact ⟨#[], rfl, by simp [RepL]⟩) (fun w b c h1 h2 _ => h w b c h1 h2)

theorem AFn.inPlaceCut {P : Program} {f : FuncId} {T : TypeId} {zs zs' : List Int} {m : Nat} (hlen : zs'.length = zs.length) (hpos : 0 < zs.length) (hm : m ≤ zs.length)
    (h : ∀ (w : World) (blk cap : Nat), Go.Sort.Holds (Value.int .i64) w blk 0 zs.toArray → blk < w.heap.size → zs.length ≤ cap → Calls P f #[.slice (some ⟨blk, 0, none⟩) zs.length cap] w fun e w' =>
      e = .returned (.slice (some ⟨blk, 0, none⟩) m cap) ∧ ∃ n os, w' = grow (putRow (Value.int .i64) (Sort.ahead w n) blk 0 zs'.toArray) os) :
    AFn P f [.own 0 zs.length 0 zs.length] [.live T 1 (numsE .i64 zs)] (fun v rs => v = .own 0 zs.length 0 m ∧ rs = [.live T 1 (numsE .i64 zs')]) := by
  refine AFn.inPlaceG (fun b c => .slice (some ⟨b, 0, none⟩) m c) (.own 0 zs.length 0 m) hlen hpos (fun C b c hpm hr hp hc => ?_) h
  rw [Rep]
  refine ⟨hpm, ⟨_, _, rfl⟩, by rw [hr]; simp, fun e sz vals hv => ?_⟩
  rw [hr] at hv
  simp only [List.getElem?_cons_zero, Option.some.injEq, Row.live.injEq] at hv
  obtain ⟨rfl, rfl, rfl⟩ := hv
  refine ⟨by simp [numsE, hlen], fun _ => ⟨by omega, _, hp, ?_⟩⟩
  exact ⟨_, _, rfl, by omega, rfl, rfl, fun _ => ⟨rfl, rfl⟩, fun _ => by simp⟩

attribute [go_sem] Nat.reduceAdd Nat.reduceSub Nat.reduceMul Nat.reduceEqDiff Nat.reduceLT Nat.reduceLeDiff Nat.reduceBEq reduceIte reduceCtorEq Int.reduceToNat Int.reduceLE Int.reduceLT Int.reduceBEq Int.reduceBNe
end Go.Abs
end
