/- The evaluation rules, as one set. -/
import Derived.Test.YtjacobmkfkmdiaaAbs27
set_option linter.unusedSimpArgs false
set_option linter.unusedVariables false
set_option linter.unusedSectionVars false
namespace Go.Abs
theorem bindRow_l {rows : List Row} {sel : List (Option Nat)} {vw : List Nat} {e : TypeId} {sz : Nat} {vals : List (List AVal)} : bindRow rows sel vw (.live e sz vals) = .live e sz (bindE rows sel vw vals) := _root_.id rfl
theorem bindRow_d {rows : List Row} {sel : List (Option Nat)} {vw : List Nat} : bindRow rows sel vw .dead = .dead := _root_.id rfl
theorem renRow_l {f : Nat → Nat} {e : TypeId} {sz : Nat} {vals : List (List AVal)} : renRow f (.live e sz vals) = .live e sz (renE f vals) := _root_.id rfl
theorem renRow_d {f : Nat → Nat} : renRow f .dead = .dead := _root_.id rfl
theorem flatRow_l {e : TypeId} {sz : Nat} {vals : List (List AVal)} : flatRow (.live e sz vals) = flatE vals := _root_.id rfl
theorem flatRow_d : flatRow .dead = true := _root_.id rfl
attribute [go_sem] avc_skip avc_region avc_seq avc_cond avc_block avc_exit avc_ret blockX_eq condC_true condC_false regK_nil regK_none
attribute [go_sem] regK_some grdC_tt grdC_ff grdC_tf grdC_ft grdC_un runK_call runK_mv runK_pick runK_alloc runK_box runK_build
attribute [go_sem] runK_bslice runK_mkslice runK_nilsl runK_load1 runK_loadA runK_store runK_nilchk runK_bin runK_eqA runK_eqB runK_not runK_neg
attribute [go_sem] runK_conv runK_fieldAddr runK_field1 runK_fieldA runK_indexAddr runK_index runK_slice runK_sliceS runK_len runK_lenS runK_append runK_extract
attribute [go_sem] runK_b2s runK_frz runK_minmax evC_nilsl evC_mv evC_pick_t evC_pick_f evC_alloc evC_box evC_build evC_bslice evC_mkslice
attribute [go_sem] evC_load1_ref evC_load1_pref evC_loadA_ref evC_loadA_pref evC_store evC_nilchk_ref evC_nilchk_pref evC_add evC_sub evC_mul evC_quo evC_rem
attribute [go_sem] evC_and evC_or evC_xor evC_shl evC_shr evC_eql evC_neq evC_lss evC_leq evC_gtr evC_geq evC_seql
attribute [go_sem] evC_sneq evC_slss evC_sadd evC_eqA evC_eqB evC_not evC_neg evC_conv evC_fieldAddr_ref evC_fieldAddr_pref evC_field1 evC_fieldA
attribute [go_sem] evC_indexAddr_pure evC_indexAddr_own evC_index evC_slice_pure_tt evC_slice_pure_tf evC_slice_pure_ft evC_slice_own_tt evC_slice_own_tf evC_slice_own_ft evC_sliceS_tt evC_sliceS_tf evC_sliceS_ft
attribute [go_sem] evC_len_pure evC_len_own evC_len_nils evC_lenS evC_append_nils evC_append_own evC_b2s b2sC_some bytesO_some evC_frz frzC_live evC_extract
attribute [go_sem] evC_min evC_max load1C_live loadAC_live storeC_live indexC_live sliceC_live appC_live appNilC_some buildC_some bsliceC_some elems_pure
attribute [go_sem] elems_nils elems_own elemsC_live fillC_nil fillC_cons fillE_nil fillE_cons acells_agg acells_int acells_bool acells_str acells_nils
attribute [go_sem] acells_pure acells_own acells_ref one_int one_bool one_str one_nils one_pure one_own one_ref slot_nil slot_cons
attribute [go_sem] put_some put_none norm_nil norm_cons opd_t opd_c splice_eq eqCells_int eqCells_bool eqCells_str eqCells_nil fits_int
attribute [go_sem] fits_bool fits_str fits_nil argEnv_nil argEnv_cons retK_nil retK_tmp retK_cellA retK_cell1 cellA_ref cell1_ref retAC_live
attribute [go_sem] ret1C_live oneOrTup_one oneOrTup_nil oneOrTup_two rowH_cons rowT_two rowOf_own rowOf_ref rowOf_pure rowOf_pref rowOf_nils tkOf_nil
attribute [go_sem] tkOf_cons okTk_none okTk_nil okTk_r okTk_w avc_draw drawC_eq reserved_nil reserved_cons drawK_nil drawK_none drawK_some
attribute [go_sem] grdD_tt grdD_ff grdD_tf grdD_ft grdD_un runD_call runD_mv runD_pick runD_build runD_nilsl runD_nilchk runD_bin
attribute [go_sem] runD_eqA runD_eqB runD_not runD_neg runD_conv runD_fieldAddr runD_field1 runD_fieldA runD_index runD_sliceS runD_len runD_lenS
attribute [go_sem] runD_extract runD_minmax runD_load1 runD_loadA runD_indexAddr runD_slice runD_b2s runD_store runD_frz runD_append runD_mkslice runD_alloc
attribute [go_sem] runD_box boxC_eq runD_bslice bresC_some
attribute [go_sem] List.map_cons List.map_nil List.contains_cons List.contains_nil beq_self_eq_true Bool.or_true Bool.true_or Bool.or_false Bool.false_or Bool.and_false Bool.false_and Row.live.injEq
attribute [go_sem] List.length_cons List.length_nil List.cons_append List.nil_append List.getElem?_cons_zero List.getElem?_cons_succ List.getElem?_nil List.getD_cons_zero List.getD_cons_succ List.set_cons_zero List.set_cons_succ List.take_succ_cons
attribute [go_sem] List.take_zero List.drop_succ_cons List.drop_zero List.all_cons List.all_nil List.replicate_succ List.replicate_zero List.take_nil List.drop_nil List.append_nil Nat.zero_add Nat.add_zero
attribute [go_sem] Nat.lt_irrefl Nat.le_refl Nat.succ_ne_zero if_true if_false ite_true ite_false true_and and_true and_self Bool.and_true Bool.true_and
attribute [go_sem] Bool.and_self decide_true decide_false Bool.not_true Bool.not_false Option.some.injEq not_false_eq_true ne_eq Bool.false_eq_true Int.toNat_zero Int.toNat_one Bool.bne_false
attribute [go_sem] Bool.bne_true Int.cast_ofNat_Int
attribute [go_sem] getRows bindL bindV bindRow_l bindRow_d bindE pos? cleanE cleanL clean back mergeR
attribute [go_sem] renV renL renRow_l renRow_d renE numsE_clean numsE_flat numsE_length flatE flatL flat flatRow_l
attribute [go_sem] flatRow_d numsE_snoc numsE_append numsE_take numsE_drop
end Go.Abs
