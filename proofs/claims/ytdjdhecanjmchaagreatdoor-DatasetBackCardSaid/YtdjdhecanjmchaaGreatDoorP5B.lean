/- Contracts: decimal numbers in text, as the references print them. -/
import Derived.Test.YtdjdhecanjmchaaGreatDoorP4B
import Derived.Test.YtdjdhecanjmchaaGreatDoorL1B
import Derived.Lib.ItoaLen
set_option linter.unusedSimpArgs false
set_option linter.unusedVariables false
namespace Go.Proofs.YtdjdhecanjmchaaGreatDoor
open Go Go.V
attribute [local go_sem ↓] mw_nil mw_inBlock mw_inLoop mw_skip mw_seq mw_block mw_exit mw_ret mw_named mw_loop mw_cond mw_reg mw_any mw_dfr KW_none KW_some KD_none KD_some mexit_inBlock mexit_code mexit_inLoop moK_nil moK_k moK_panic moK_call moK_guard plK_done plK_k plK_call plK_guard plK_two shel_load protOf_nil protOf_cons putF_some putF_none lookup_if get_if set_eq Fr.get_cons keepK Opd.ev MK.ev MK.ob
attribute [local go_sem high] cdK_true cdK_false gdK_tt gdK_ff gdK_tf gdK_ft gdK_tup pgdK_tt pgdK_ff pgdK_tf pgdK_ft pgdK_tup dfK_fn evK_some pevK_some clK_fn pclK_fn pnK_ifc exK_some
attribute [local go_sem] InvS_refl InvS_nil InvS_cons QPin_endQ List.mem_cons List.not_mem_nil or_true true_or or_false false_or List.lookup_nil List.map_cons List.map_nil Option.map_some Option.map_none Option.bind_some Option.bind_none List.nil_append List.append_nil List.cons_append binEv binOb intOp strOp unEv eqvEv eqCells eqCell isBld_nil isBld_two isBld_bool isBld_int isBld_str isBld_nilp isBld_ptr isBld_gp isBld_eptr isBld_sl isBld_fn isBld_nilf isBld_ifc isBld_nili isBld_agg isBld_bld noBld tasEv AV.there AV.plus pickCells storeEv AV.solid AV.cells splice putParts rowOK fldEv iarrEv extEv minEv nonNil lenEv isStr appEv appOb appArg able_exact able_use slVecEv slVecOb slStrEv slStrOb bnd ne_1 ne_2 ne_3 ne_4 ne_1' ne_2' ne_3' ne_4' List.getElem?_map argF endQ rvsEv rvEv resOf St.none List.length_cons List.length_nil List.take_succ_cons List.take_zero List.drop_succ_cons List.drop_zero List.getElem?_cons_zero List.getElem?_cons_succ List.all_cons List.all_nil if_true if_false ite_self decide_true decide_false Bool.and_true Bool.true_and Bool.and_false Bool.false_and Bool.not_true Bool.not_false beq_self_eq_true bne_self_eq_false Nat.zero_add Nat.add_zero Bool.false_eq_true Bool.true_eq_false eq_self ne_eq not_true_eq_false not_false_eq_true true_and and_true and_self false_and and_false true_implies false_implies implies_true forall_const Nat.zero_le Nat.le_refl Option.isNone_none Option.isNone_some Option.isSome_some Option.isSome_none Nat.succ_ne_self Int.toNat_natCast Int.toNat_zero List.length_map List.take_length Out.ok.injEq AV.int.injEq AV.bool.injEq AV.str.injEq AV.tup.injEq Lab.av Val.av Exa.av Dset.av Req.av AV.agg.injEq List.cons.injEq ge_iff_le gt_iff_lt Int.natCast_nonneg Bool.not_eq_true Bool.not_eq_false cond_or cond_and cond_tl cond_fr cond_fl cond_tr merge_sameT merge_sameF mergeT0 mergeF0 mergeT1 mergeF1 mergeT2 mergeF2 mergeT3 mergeF3 mergeT4 mergeF4 mergeT5 mergeF5 mergeT6 mergeF6 mergeT7 mergeF7 mergeT8 mergeF8 mergeT9 mergeF9 cdK_bool gdK_bool pgdK_bool
section
open Go Go.V Go.Lib
set_option maxRecDepth 40000
variable {gl : List (Nat × List AV)}
def digS (n : Int) : Bytes := decDigits n.natAbs
theorem itoa_digS (n : Int) : itoa n = if n < 0 then 45 :: digS n else digS n := by
  unfold itoa digS
  split
  · rfl
  · congr 1; omega
def padZ (k u : Nat) : Bytes := List.replicate (k - (decDigits u).length) 48 ++ decDigits u
def dot (k : Nat) (p : Bytes) : Bytes := p.take (p.length - k) ++ 46 :: p.drop (p.length - k)
def decS (n : Int) : Bytes := dot 6 (padZ 7 n.natAbs)
def decF (n : Int) : Bytes := if n < 0 then 45 :: decS n else decS n
end
section
open Go Go.V Go.Lib
set_option maxRecDepth 40000
variable {gl : List (Nat × List AV)}
abbrev trueS : Bytes := [116, 114, 117, 101]
abbrev falseS : Bytes := [102, 97, 108, 115, 101]
abbrev nullS : Bytes := [110, 117, 108, 108]
def boolS (b : Bool) : Bytes := if b then trueS else falseS
theorem c203 (b : Bool) : Pure Tryz.prog gl 203 [.bool b] (.ok (.str (boolS b))) := by
  refine ⟨?_, by simp only [List.map_cons, List.map_nil, fg_int, fg_str, fg_bool, fg_nilp, fg_nili, fg_fn, fg_sl, fg_agg, fg_tup, fg_lab, fg_val, fg_exa, fg_dset, fg_req, fg_bytes, fg_ints, fg_strs, fg_vals, fg_labs, fg_exas, noRef_ok, noRef_pan, List.mem_cons, List.not_mem_nil, or_false, forall_eq_or_imp, forall_eq, and_self, and_true, true_and, implies_true, NoRef.bool_eq, NoRef.int_eq, NoRef.str_eq, NoRef.nilp_eq, NoRef.nili_eq, NoRef.nilf_eq, NoRef.agg_eq, NoRef.tup_eq, NoRef.ifc_eq, NoRef.fn_nil, NoRef.fn_eq, nr_lab, nr_val, nr_exa, nr_dset, nr_req, nr_byte, nr_bytes, nr_strs, nr_vals, nr_labs, nr_exas, nr_ints], by simp only [noRef_ok, noRef_pan, List.mem_cons, List.not_mem_nil, or_false, forall_eq_or_imp, forall_eq, and_self, and_true, true_and, implies_true, NoRef.bool_eq, NoRef.int_eq, NoRef.str_eq, NoRef.nilp_eq, NoRef.nili_eq, NoRef.nilf_eq, NoRef.agg_eq, NoRef.tup_eq, NoRef.ifc_eq, NoRef.fn_nil, NoRef.fn_eq, nr_lab, nr_val, nr_exa, nr_dset, nr_req, nr_byte, nr_bytes, nr_strs, nr_vals, nr_labs, nr_exas, nr_ints]⟩
  simp only [List.map_cons, List.map_nil, fg_int, fg_str, fg_bool, fg_nilp, fg_nili, fg_fn, fg_sl, fg_agg, fg_tup, fg_lab, fg_val, fg_exa, fg_dset, fg_req, fg_bytes, fg_ints, fg_strs, fg_vals, fg_labs, fg_exas]
  refine .of_run is203 (by simp) (mw_sound 200 ?_)
  cases b
  all_goals
    repeat' first
      | with_reducible first | refine mw_as m203.eq_1 ?_ | refine ⟨?_, ?_⟩ | intro _
      | simp only [go_sem, ↓reduceIte, Nat.reduceAdd, Nat.reduceLeDiff, Nat.reduceEqDiff, Nat.reduceBEq, Nat.reduceBNe, Nat.reduceMul, Nat.reduceLT, reduceCtorEq, Int.reduceLT, Int.reduceLE, Int.reduceToNat, Int.reduceNeg]
    rfl
theorem c170 (hg : GlNR gl) (b : Bool) : Pure Tryz.prog gl 170 [.bool b] (.ok (.str (boolS b))) := by
  refine ⟨?_, by simp only [List.map_cons, List.map_nil, fg_int, fg_str, fg_bool, fg_nilp, fg_nili, fg_fn, fg_sl, fg_agg, fg_tup, fg_lab, fg_val, fg_exa, fg_dset, fg_req, fg_bytes, fg_ints, fg_strs, fg_vals, fg_labs, fg_exas, noRef_ok, noRef_pan, List.mem_cons, List.not_mem_nil, or_false, forall_eq_or_imp, forall_eq, and_self, and_true, true_and, implies_true, NoRef.bool_eq, NoRef.int_eq, NoRef.str_eq, NoRef.nilp_eq, NoRef.nili_eq, NoRef.nilf_eq, NoRef.agg_eq, NoRef.tup_eq, NoRef.ifc_eq, NoRef.fn_nil, NoRef.fn_eq, nr_lab, nr_val, nr_exa, nr_dset, nr_req, nr_byte, nr_bytes, nr_strs, nr_vals, nr_labs, nr_exas, nr_ints], by simp only [noRef_ok, noRef_pan, List.mem_cons, List.not_mem_nil, or_false, forall_eq_or_imp, forall_eq, and_self, and_true, true_and, implies_true, NoRef.bool_eq, NoRef.int_eq, NoRef.str_eq, NoRef.nilp_eq, NoRef.nili_eq, NoRef.nilf_eq, NoRef.agg_eq, NoRef.tup_eq, NoRef.ifc_eq, NoRef.fn_nil, NoRef.fn_eq, nr_lab, nr_val, nr_exa, nr_dset, nr_req, nr_byte, nr_bytes, nr_strs, nr_vals, nr_labs, nr_exas, nr_ints]⟩
  simp only [List.map_cons, List.map_nil, fg_int, fg_str, fg_bool, fg_nilp, fg_nili, fg_fn, fg_sl, fg_agg, fg_tup, fg_lab, fg_val, fg_exa, fg_dset, fg_req, fg_bytes, fg_ints, fg_strs, fg_vals, fg_labs, fg_exas]
  refine .of_run is170 (by simp) (mw_sound 200 ?_)
  repeat' first
    | with_reducible first | refine mw_as m170.eq_1 ?_ | refine CallK.pure (c203 b) hg rfl ?_ | refine PCallK.pure (c203 b) hg rfl (fun _ => by first | exact of_eq_true InvS_refl | simp only [InvS_nil, InvS_cons, get_if, InvS_refl, and_self]) ?_ | refine ⟨?_, ?_⟩ | intro _
    | simp only [go_sem, ↓reduceIte, Nat.reduceAdd, Nat.reduceLeDiff, Nat.reduceEqDiff, Nat.reduceBEq, Nat.reduceBNe, Nat.reduceMul, Nat.reduceLT, reduceCtorEq, Int.reduceLT, Int.reduceLE, Int.reduceToNat, Int.reduceNeg]
abbrev shownAV (v : Val) : AV := .agg [.int .i64 v.kd, .int .i64 v.n, .str v.s]
theorem c109 (v : Val) : Pure Tryz.prog gl 109 [shownAV v] (.ok (.str nullS)) := by
  refine ⟨?_, by simp only [List.map_cons, List.map_nil, fg_int, fg_str, fg_bool, fg_nilp, fg_nili, fg_fn, fg_sl, fg_agg, fg_tup, fg_lab, fg_val, fg_exa, fg_dset, fg_req, fg_bytes, fg_ints, fg_strs, fg_vals, fg_labs, fg_exas, noRef_ok, noRef_pan, List.mem_cons, List.not_mem_nil, or_false, forall_eq_or_imp, forall_eq, and_self, and_true, true_and, implies_true, NoRef.bool_eq, NoRef.int_eq, NoRef.str_eq, NoRef.nilp_eq, NoRef.nili_eq, NoRef.nilf_eq, NoRef.agg_eq, NoRef.tup_eq, NoRef.ifc_eq, NoRef.fn_nil, NoRef.fn_eq, nr_lab, nr_val, nr_exa, nr_dset, nr_req, nr_byte, nr_bytes, nr_strs, nr_vals, nr_labs, nr_exas, nr_ints], by simp only [noRef_ok, noRef_pan, List.mem_cons, List.not_mem_nil, or_false, forall_eq_or_imp, forall_eq, and_self, and_true, true_and, implies_true, NoRef.bool_eq, NoRef.int_eq, NoRef.str_eq, NoRef.nilp_eq, NoRef.nili_eq, NoRef.nilf_eq, NoRef.agg_eq, NoRef.tup_eq, NoRef.ifc_eq, NoRef.fn_nil, NoRef.fn_eq, nr_lab, nr_val, nr_exa, nr_dset, nr_req, nr_byte, nr_bytes, nr_strs, nr_vals, nr_labs, nr_exas, nr_ints]⟩
  simp only [List.map_cons, List.map_nil, fg_int, fg_str, fg_bool, fg_nilp, fg_nili, fg_fn, fg_sl, fg_agg, fg_tup, fg_lab, fg_val, fg_exa, fg_dset, fg_req, fg_bytes, fg_ints, fg_strs, fg_vals, fg_labs, fg_exas]
  refine .of_run is109 (by simp) (mw_sound 200 ?_)
  repeat' first
    | with_reducible first | refine mw_as m109.eq_1 ?_ | refine ⟨?_, ?_⟩ | intro _
    | simp only [go_sem, ↓reduceIte, Nat.reduceAdd, Nat.reduceLeDiff, Nat.reduceEqDiff, Nat.reduceBEq, Nat.reduceBNe, Nat.reduceMul, Nat.reduceLT, reduceCtorEq, Int.reduceLT, Int.reduceLE, Int.reduceToNat, Int.reduceNeg]
theorem c110 (hg : GlNR gl) (v : Val) : Pure Tryz.prog gl 110 [shownAV v] (.ok (.str (boolS (v.n == 1)))) := by
  refine ⟨?_, by simp only [List.map_cons, List.map_nil, fg_int, fg_str, fg_bool, fg_nilp, fg_nili, fg_fn, fg_sl, fg_agg, fg_tup, fg_lab, fg_val, fg_exa, fg_dset, fg_req, fg_bytes, fg_ints, fg_strs, fg_vals, fg_labs, fg_exas, noRef_ok, noRef_pan, List.mem_cons, List.not_mem_nil, or_false, forall_eq_or_imp, forall_eq, and_self, and_true, true_and, implies_true, NoRef.bool_eq, NoRef.int_eq, NoRef.str_eq, NoRef.nilp_eq, NoRef.nili_eq, NoRef.nilf_eq, NoRef.agg_eq, NoRef.tup_eq, NoRef.ifc_eq, NoRef.fn_nil, NoRef.fn_eq, nr_lab, nr_val, nr_exa, nr_dset, nr_req, nr_byte, nr_bytes, nr_strs, nr_vals, nr_labs, nr_exas, nr_ints], by simp only [noRef_ok, noRef_pan, List.mem_cons, List.not_mem_nil, or_false, forall_eq_or_imp, forall_eq, and_self, and_true, true_and, implies_true, NoRef.bool_eq, NoRef.int_eq, NoRef.str_eq, NoRef.nilp_eq, NoRef.nili_eq, NoRef.nilf_eq, NoRef.agg_eq, NoRef.tup_eq, NoRef.ifc_eq, NoRef.fn_nil, NoRef.fn_eq, nr_lab, nr_val, nr_exa, nr_dset, nr_req, nr_byte, nr_bytes, nr_strs, nr_vals, nr_labs, nr_exas, nr_ints]⟩
  simp only [List.map_cons, List.map_nil, fg_int, fg_str, fg_bool, fg_nilp, fg_nili, fg_fn, fg_sl, fg_agg, fg_tup, fg_lab, fg_val, fg_exa, fg_dset, fg_req, fg_bytes, fg_ints, fg_strs, fg_vals, fg_labs, fg_exas]
  refine .of_run is110 (by simp) (mw_sound 200 ?_)
  repeat' first
    | with_reducible first | refine mw_as m110.eq_1 ?_ | refine CallK.pure (c170 hg (v.n == 1)) hg rfl ?_ | refine PCallK.pure (c170 hg (v.n == 1)) hg rfl (fun _ => by first | exact of_eq_true InvS_refl | simp only [InvS_nil, InvS_cons, get_if, InvS_refl, and_self]) ?_ | refine ⟨?_, ?_⟩ | intro _
    | simp only [go_sem, ↓reduceIte, Nat.reduceAdd, Nat.reduceLeDiff, Nat.reduceEqDiff, Nat.reduceBEq, Nat.reduceBNe, Nat.reduceMul, Nat.reduceLT, reduceCtorEq, Int.reduceLT, Int.reduceLE, Int.reduceToNat, Int.reduceNeg]
theorem c111 (hg : GlNR gl) (v : Val) (h0 : -9223372036854775808 ≤ v.n) (h1 : v.n ≤ 9223372036854775807) : Pure Tryz.prog gl 111 [shownAV v] (.ok (.str (itoa v.n))) := by
  refine ⟨?_, by simp only [List.map_cons, List.map_nil, fg_int, fg_str, fg_bool, fg_nilp, fg_nili, fg_fn, fg_sl, fg_agg, fg_tup, fg_lab, fg_val, fg_exa, fg_dset, fg_req, fg_bytes, fg_ints, fg_strs, fg_vals, fg_labs, fg_exas, noRef_ok, noRef_pan, List.mem_cons, List.not_mem_nil, or_false, forall_eq_or_imp, forall_eq, and_self, and_true, true_and, implies_true, NoRef.bool_eq, NoRef.int_eq, NoRef.str_eq, NoRef.nilp_eq, NoRef.nili_eq, NoRef.nilf_eq, NoRef.agg_eq, NoRef.tup_eq, NoRef.ifc_eq, NoRef.fn_nil, NoRef.fn_eq, nr_lab, nr_val, nr_exa, nr_dset, nr_req, nr_byte, nr_bytes, nr_strs, nr_vals, nr_labs, nr_exas, nr_ints], by simp only [noRef_ok, noRef_pan, List.mem_cons, List.not_mem_nil, or_false, forall_eq_or_imp, forall_eq, and_self, and_true, true_and, implies_true, NoRef.bool_eq, NoRef.int_eq, NoRef.str_eq, NoRef.nilp_eq, NoRef.nili_eq, NoRef.nilf_eq, NoRef.agg_eq, NoRef.tup_eq, NoRef.ifc_eq, NoRef.fn_nil, NoRef.fn_eq, nr_lab, nr_val, nr_exa, nr_dset, nr_req, nr_byte, nr_bytes, nr_strs, nr_vals, nr_labs, nr_exas, nr_ints]⟩
  simp only [List.map_cons, List.map_nil, fg_int, fg_str, fg_bool, fg_nilp, fg_nili, fg_fn, fg_sl, fg_agg, fg_tup, fg_lab, fg_val, fg_exa, fg_dset, fg_req, fg_bytes, fg_ints, fg_strs, fg_vals, fg_labs, fg_exas]
  refine .of_run is111 (by simp) (mw_sound 200 ?_)
  repeat' first
    | with_reducible first | refine mw_as m111.eq_1 ?_ | refine CallK.pure (c51 v.n h0 h1) hg rfl ?_ | refine PCallK.pure (c51 v.n h0 h1) hg rfl (fun _ => by first | exact of_eq_true InvS_refl | simp only [InvS_nil, InvS_cons, get_if, InvS_refl, and_self]) ?_ | refine ⟨?_, ?_⟩ | intro _
    | simp only [go_sem, ↓reduceIte, Nat.reduceAdd, Nat.reduceLeDiff, Nat.reduceEqDiff, Nat.reduceBEq, Nat.reduceBNe, Nat.reduceMul, Nat.reduceLT, reduceCtorEq, Int.reduceLT, Int.reduceLE, Int.reduceToNat, Int.reduceNeg]
theorem c113 (v : Val) (hs : v.s.length < 4294960000) : Pure Tryz.prog gl 113 [shownAV v] (.ok (.str (34 :: (v.s ++ [34])))) := by
  refine ⟨?_, by simp only [List.map_cons, List.map_nil, fg_int, fg_str, fg_bool, fg_nilp, fg_nili, fg_fn, fg_sl, fg_agg, fg_tup, fg_lab, fg_val, fg_exa, fg_dset, fg_req, fg_bytes, fg_ints, fg_strs, fg_vals, fg_labs, fg_exas, noRef_ok, noRef_pan, List.mem_cons, List.not_mem_nil, or_false, forall_eq_or_imp, forall_eq, and_self, and_true, true_and, implies_true, NoRef.bool_eq, NoRef.int_eq, NoRef.str_eq, NoRef.nilp_eq, NoRef.nili_eq, NoRef.nilf_eq, NoRef.agg_eq, NoRef.tup_eq, NoRef.ifc_eq, NoRef.fn_nil, NoRef.fn_eq, nr_lab, nr_val, nr_exa, nr_dset, nr_req, nr_byte, nr_bytes, nr_strs, nr_vals, nr_labs, nr_exas, nr_ints], by simp only [noRef_ok, noRef_pan, List.mem_cons, List.not_mem_nil, or_false, forall_eq_or_imp, forall_eq, and_self, and_true, true_and, implies_true, NoRef.bool_eq, NoRef.int_eq, NoRef.str_eq, NoRef.nilp_eq, NoRef.nili_eq, NoRef.nilf_eq, NoRef.agg_eq, NoRef.tup_eq, NoRef.ifc_eq, NoRef.fn_nil, NoRef.fn_eq, nr_lab, nr_val, nr_exa, nr_dset, nr_req, nr_byte, nr_bytes, nr_strs, nr_vals, nr_labs, nr_exas, nr_ints]⟩
  simp only [List.map_cons, List.map_nil, fg_int, fg_str, fg_bool, fg_nilp, fg_nili, fg_fn, fg_sl, fg_agg, fg_tup, fg_lab, fg_val, fg_exa, fg_dset, fg_req, fg_bytes, fg_ints, fg_strs, fg_vals, fg_labs, fg_exas]
  refine .of_run is113 (by simp) (mw_sound 200 ?_)
  repeat' first
    | with_reducible first | refine mw_as m113.eq_1 ?_ | refine ⟨?_, ?_⟩ | intro _
    | simp only [go_sem, ↓reduceIte, Nat.reduceAdd, Nat.reduceLeDiff, Nat.reduceEqDiff, Nat.reduceBEq, Nat.reduceBNe, Nat.reduceMul, Nat.reduceLT, reduceCtorEq, Int.reduceLT, Int.reduceLE, Int.reduceToNat, Int.reduceNeg]
  all_goals omega
theorem c114 (v : Val) (hs : v.s.length < 4294960000) : Pure Tryz.prog gl 114 [shownAV v] (.ok (.str (64 :: v.s))) := by
  refine ⟨?_, by simp only [List.map_cons, List.map_nil, fg_int, fg_str, fg_bool, fg_nilp, fg_nili, fg_fn, fg_sl, fg_agg, fg_tup, fg_lab, fg_val, fg_exa, fg_dset, fg_req, fg_bytes, fg_ints, fg_strs, fg_vals, fg_labs, fg_exas, noRef_ok, noRef_pan, List.mem_cons, List.not_mem_nil, or_false, forall_eq_or_imp, forall_eq, and_self, and_true, true_and, implies_true, NoRef.bool_eq, NoRef.int_eq, NoRef.str_eq, NoRef.nilp_eq, NoRef.nili_eq, NoRef.nilf_eq, NoRef.agg_eq, NoRef.tup_eq, NoRef.ifc_eq, NoRef.fn_nil, NoRef.fn_eq, nr_lab, nr_val, nr_exa, nr_dset, nr_req, nr_byte, nr_bytes, nr_strs, nr_vals, nr_labs, nr_exas, nr_ints], by simp only [noRef_ok, noRef_pan, List.mem_cons, List.not_mem_nil, or_false, forall_eq_or_imp, forall_eq, and_self, and_true, true_and, implies_true, NoRef.bool_eq, NoRef.int_eq, NoRef.str_eq, NoRef.nilp_eq, NoRef.nili_eq, NoRef.nilf_eq, NoRef.agg_eq, NoRef.tup_eq, NoRef.ifc_eq, NoRef.fn_nil, NoRef.fn_eq, nr_lab, nr_val, nr_exa, nr_dset, nr_req, nr_byte, nr_bytes, nr_strs, nr_vals, nr_labs, nr_exas, nr_ints]⟩
  simp only [List.map_cons, List.map_nil, fg_int, fg_str, fg_bool, fg_nilp, fg_nili, fg_fn, fg_sl, fg_agg, fg_tup, fg_lab, fg_val, fg_exa, fg_dset, fg_req, fg_bytes, fg_ints, fg_strs, fg_vals, fg_labs, fg_exas]
  refine .of_run is114 (by simp) (mw_sound 200 ?_)
  repeat' first
    | with_reducible first | refine mw_as m114.eq_1 ?_ | refine ⟨?_, ?_⟩ | intro _
    | simp only [go_sem, ↓reduceIte, Nat.reduceAdd, Nat.reduceLeDiff, Nat.reduceEqDiff, Nat.reduceBEq, Nat.reduceBNe, Nat.reduceMul, Nat.reduceLT, reduceCtorEq, Int.reduceLT, Int.reduceLE, Int.reduceToNat, Int.reduceNeg]
  all_goals omega
theorem padZ_cons {k u : Nat} : 48 :: (List.replicate k 48 ++ decDigits u) = List.replicate (k + 1) 48 ++ decDigits u := by rw [List.replicate_succ]; rfl
theorem c171 (hg : GlNR gl) (n : Int) (h0 : -9223372036854775808 ≤ n) (h1 : n ≤ 9223372036854775807) : Pure Tryz.prog gl 171 [.int .i64 n] (.ok (.str (decF n))) := by
  refine ⟨?_, by simp only [List.map_cons, List.map_nil, fg_int, fg_str, fg_bool, fg_nilp, fg_nili, fg_fn, fg_sl, fg_agg, fg_tup, fg_lab, fg_val, fg_exa, fg_dset, fg_req, fg_bytes, fg_ints, fg_strs, fg_vals, fg_labs, fg_exas, noRef_ok, noRef_pan, List.mem_cons, List.not_mem_nil, or_false, forall_eq_or_imp, forall_eq, and_self, and_true, true_and, implies_true, NoRef.bool_eq, NoRef.int_eq, NoRef.str_eq, NoRef.nilp_eq, NoRef.nili_eq, NoRef.nilf_eq, NoRef.agg_eq, NoRef.tup_eq, NoRef.ifc_eq, NoRef.fn_nil, NoRef.fn_eq, nr_lab, nr_val, nr_exa, nr_dset, nr_req, nr_byte, nr_bytes, nr_strs, nr_vals, nr_labs, nr_exas, nr_ints], by simp only [noRef_ok, noRef_pan, List.mem_cons, List.not_mem_nil, or_false, forall_eq_or_imp, forall_eq, and_self, and_true, true_and, implies_true, NoRef.bool_eq, NoRef.int_eq, NoRef.str_eq, NoRef.nilp_eq, NoRef.nili_eq, NoRef.nilf_eq, NoRef.agg_eq, NoRef.tup_eq, NoRef.ifc_eq, NoRef.fn_nil, NoRef.fn_eq, nr_lab, nr_val, nr_exa, nr_dset, nr_req, nr_byte, nr_bytes, nr_strs, nr_vals, nr_labs, nr_exas, nr_ints]⟩
  simp only [List.map_cons, List.map_nil, fg_int, fg_str, fg_bool, fg_nilp, fg_nili, fg_fn, fg_sl, fg_agg, fg_tup, fg_lab, fg_val, fg_exa, fg_dset, fg_req, fg_bytes, fg_ints, fg_strs, fg_vals, fg_labs, fg_exas]
  refine .of_run is171 (by simp) (mw_sound 200 ?_)
  have hit : itoa n = if n < 0 then 45 :: digS n else digS n := itoa_digS n
  have hlen : (decDigits n.natAbs).length ≤ 20 := by rw [decDigits_length]; exact nDigits_le20 _ (by omega)
  have key : ∀ sg : Bytes, sg.length ≤ 1 → decF n = sg ++ decS n → MRun Tryz.prog 30 [MI.code m171l0.loop, MI.inBlock 0, MI.code (MC.named [3, 4] m171k0)] [] [(3, AV.str (digS n)), (4, AV.str sg)] (.none gl) (endQ [RV.t 2] fun o' x => o' = Out.ok (AV.str (decF n))) := by
    intro sg hsl hsg
    refine .loopN (fun mm F S => ∃ k : Nat, mm = 7 - (k + (decDigits n.natAbs).length) ∧ (k = 0 ∨ k + (decDigits n.natAbs).length ≤ 7) ∧ F = [(3, AV.str (List.replicate k 48 ++ decDigits n.natAbs)), (4, AV.str sg)] ∧ S = .none gl) (7 - (decDigits n.natAbs).length) ⟨0, by simp, by simp, rfl, rfl⟩ ?_
    rintro mm F S ⟨k, rfl, hk, rfl, rfl⟩ ih
    by_cases h : k + (decDigits n.natAbs).length ≤ 6
    · have hle : decide (((k + (decDigits n.natAbs).length : Nat) : Int) ≤ 6) = true := decide_eq_true (by omega)
      refine opn m171l0.eq_1 ?_
      repeat' first
        | with_reducible first | refine mw_as m171.eq_1 ?_ | refine opn m171k0.eq_1 ?_ | refine opn m171k1.eq_1 ?_ | refine ⟨?_, ?_⟩ | intro _
        | simp only [go_sem, ↓reduceIte, Nat.reduceAdd, Nat.reduceLeDiff, Nat.reduceEqDiff, Nat.reduceBEq, Nat.reduceBNe, Nat.reduceMul, Nat.reduceLT, reduceCtorEq, Int.reduceLT, Int.reduceLE, Int.reduceToNat, Int.reduceNeg,  List.length_append, List.length_replicate, hle, padZ_cons]
      · omega
      · exact ih _ _ _ (by omega) ⟨k + 1, rfl, by omega, rfl, rfl⟩
    · have hle : decide (((k + (decDigits n.natAbs).length : Nat) : Int) ≤ 6) = false := decide_eq_false (by omega)
      refine opn m171l0.eq_1 ?_
      have hw : IntKind.i64.wrap (((k + (decDigits n.natAbs).length : Nat) : Int) - 6) = ((k + (decDigits n.natAbs).length - 6 : Nat) : Int) := by rw [wrap_i64_in (by omega) (by omega)]; omega
      have htk : List.take (k + (decDigits n.natAbs).length) (List.replicate k 48 ++ decDigits n.natAbs) = List.replicate k 48 ++ decDigits n.natAbs := List.take_of_length_le (by simp)
      have hp : List.replicate k 48 ++ decDigits n.natAbs = padZ 7 n.natAbs := by
        unfold padZ
        congr 2
        omega
      have hl1 : (List.take (k + (decDigits n.natAbs).length - 6) (List.replicate k 48 ++ decDigits n.natAbs)).length ≤ 40 := by simp; omega
      have hl2 : (List.drop (k + (decDigits n.natAbs).length - 6) (List.replicate k 48 ++ decDigits n.natAbs)).length ≤ 40 := by simp; omega
      repeat' first
        | with_reducible first | refine mw_as m171.eq_1 ?_ | refine opn m171k0.eq_1 ?_ | refine opn m171k1.eq_1 ?_ | refine ⟨?_, ?_⟩ | intro _
        | simp only [go_sem, ↓reduceIte, Nat.reduceAdd, Nat.reduceLeDiff, Nat.reduceEqDiff, Nat.reduceBEq, Nat.reduceBNe, Nat.reduceMul, Nat.reduceLT, reduceCtorEq, Int.reduceLT, Int.reduceLE, Int.reduceToNat, Int.reduceNeg,  List.length_append, List.length_replicate, hle, hw, htk]
      all_goals first
        | omega
        | (have hL : (padZ 7 n.natAbs).length = k + (decDigits n.natAbs).length := by rw [← hp]; simp
           rw [hsg, decS, dot, hL, ← hp]
           simp)
  by_cases hn : n < 0
  · have hd : decide (n < 0) = true := decide_eq_true hn
    rw [if_pos hn] at hit
    repeat' first
      | with_reducible first | refine mw_as m171.eq_1 ?_ | refine opn m171k0.eq_1 ?_ | refine opn m171k1.eq_1 ?_ | refine CallK.pure (c51 n h0 h1) hg rfl ?_ | refine PCallK.pure (c51 n h0 h1) hg rfl (fun _ => by first | exact of_eq_true InvS_refl | simp only [InvS_nil, InvS_cons, get_if, InvS_refl, and_self]) ?_ | refine ⟨?_, ?_⟩ | intro _
      | simp only [go_sem, ↓reduceIte, Nat.reduceAdd, Nat.reduceLeDiff, Nat.reduceEqDiff, Nat.reduceBEq, Nat.reduceBNe, Nat.reduceMul, Nat.reduceLT, reduceCtorEq, Int.reduceLT, Int.reduceLE, Int.reduceToNat, Int.reduceNeg,  hit, hd]
    · omega
    · omega
    · exact key [45] (by simp) (by rw [decF, if_pos hn]; rfl)
  · have hd : decide (n < 0) = false := decide_eq_false hn
    rw [if_neg hn] at hit
    repeat' first
      | with_reducible first | refine mw_as m171.eq_1 ?_ | refine opn m171k0.eq_1 ?_ | refine opn m171k1.eq_1 ?_ | refine CallK.pure (c51 n h0 h1) hg rfl ?_ | refine PCallK.pure (c51 n h0 h1) hg rfl (fun _ => by first | exact of_eq_true InvS_refl | simp only [InvS_nil, InvS_cons, get_if, InvS_refl, and_self]) ?_ | refine ⟨?_, ?_⟩ | intro _
      | simp only [go_sem, ↓reduceIte, Nat.reduceAdd, Nat.reduceLeDiff, Nat.reduceEqDiff, Nat.reduceBEq, Nat.reduceBNe, Nat.reduceMul, Nat.reduceLT, reduceCtorEq, Int.reduceLT, Int.reduceLE, Int.reduceToNat, Int.reduceNeg,  hit, hd]
    exact key [] (by simp) (by rw [decF, if_neg hn]; rfl)
theorem c112 (hg : GlNR gl) (v : Val) (h0 : -9223372036854775808 ≤ v.n) (h1 : v.n ≤ 9223372036854775807) : Pure Tryz.prog gl 112 [shownAV v] (.ok (.str (decF v.n))) := by
  refine ⟨?_, by simp only [List.map_cons, List.map_nil, fg_int, fg_str, fg_bool, fg_nilp, fg_nili, fg_fn, fg_sl, fg_agg, fg_tup, fg_lab, fg_val, fg_exa, fg_dset, fg_req, fg_bytes, fg_ints, fg_strs, fg_vals, fg_labs, fg_exas, noRef_ok, noRef_pan, List.mem_cons, List.not_mem_nil, or_false, forall_eq_or_imp, forall_eq, and_self, and_true, true_and, implies_true, NoRef.bool_eq, NoRef.int_eq, NoRef.str_eq, NoRef.nilp_eq, NoRef.nili_eq, NoRef.nilf_eq, NoRef.agg_eq, NoRef.tup_eq, NoRef.ifc_eq, NoRef.fn_nil, NoRef.fn_eq, nr_lab, nr_val, nr_exa, nr_dset, nr_req, nr_byte, nr_bytes, nr_strs, nr_vals, nr_labs, nr_exas, nr_ints], by simp only [noRef_ok, noRef_pan, List.mem_cons, List.not_mem_nil, or_false, forall_eq_or_imp, forall_eq, and_self, and_true, true_and, implies_true, NoRef.bool_eq, NoRef.int_eq, NoRef.str_eq, NoRef.nilp_eq, NoRef.nili_eq, NoRef.nilf_eq, NoRef.agg_eq, NoRef.tup_eq, NoRef.ifc_eq, NoRef.fn_nil, NoRef.fn_eq, nr_lab, nr_val, nr_exa, nr_dset, nr_req, nr_byte, nr_bytes, nr_strs, nr_vals, nr_labs, nr_exas, nr_ints]⟩
  simp only [List.map_cons, List.map_nil, fg_int, fg_str, fg_bool, fg_nilp, fg_nili, fg_fn, fg_sl, fg_agg, fg_tup, fg_lab, fg_val, fg_exa, fg_dset, fg_req, fg_bytes, fg_ints, fg_strs, fg_vals, fg_labs, fg_exas]
  refine .of_run is112 (by simp) (mw_sound 200 ?_)
  repeat' first
    | with_reducible first | refine mw_as m112.eq_1 ?_ | refine CallK.pure (c171 hg v.n h0 h1) hg rfl ?_ | refine PCallK.pure (c171 hg v.n h0 h1) hg rfl (fun _ => by first | exact of_eq_true InvS_refl | simp only [InvS_nil, InvS_cons, get_if, InvS_refl, and_self]) ?_ | refine ⟨?_, ?_⟩ | intro _
    | simp only [go_sem, ↓reduceIte, Nat.reduceAdd, Nat.reduceLeDiff, Nat.reduceEqDiff, Nat.reduceBEq, Nat.reduceBNe, Nat.reduceMul, Nat.reduceLT, reduceCtorEq, Int.reduceLT, Int.reduceLE, Int.reduceToNat, Int.reduceNeg]
def fmtV (v : Val) : Bytes :=
  if (chkR v == 0) = false then []
  else if v.kd = 1 then boolS (v.n == 1)
  else if v.kd = 2 then itoa v.n
  else if v.kd = 3 then decF v.n
  else if v.kd = 4 then 34 :: (v.s ++ [34])
  else if v.kd = 5 then 64 :: v.s
  else nullS
theorem chk_range {v : Val} (h : chkR v = 0) : -1152921504606846976 ≤ v.n ∧ v.n ≤ 1152921504606846976 := by
  unfold chkR rangeB at h
  split at h
  · cases h
  · split at h
    · cases h
    · rename_i h2
      simp at h2
      omega
theorem chk_kind {v : Val} (h : chkR v = 0) : v.kd = 0 ∨ v.kd = 1 ∨ v.kd = 2 ∨ v.kd = 3 ∨ v.kd = 4 ∨ v.kd = 5 := by
  unfold chkR fieldsB at h
  by_cases h0 : v.kd = 0
  · omega
  by_cases h1 : v.kd = 1
  · omega
  by_cases h2 : v.kd = 2 ∨ v.kd = 3
  · omega
  by_cases h4 : v.kd = 4 ∨ v.kd = 5
  · omega
  rw [if_neg h0, if_neg h1, if_neg h2, if_neg h4] at h
  cases h
end
end Go.Proofs.YtdjdhecanjmchaaGreatDoor
