/- Contracts: the reference's Print. -/
import Derived.Test.YtdjdhecanjmchaaGreatDoorP5B
set_option linter.unusedSimpArgs false
set_option linter.unusedVariables false
namespace Go.Proofs.YtdjdhecanjmchaaGreatDoor
open Go Go.V Go.Lib
set_option maxRecDepth 40000
attribute [local go_sem ↓] mw_nil mw_inBlock mw_inLoop mw_skip mw_seq mw_block mw_exit mw_ret mw_named mw_loop mw_cond mw_reg mw_any mw_dfr KW_none KW_some KD_none KD_some mexit_inBlock mexit_code mexit_inLoop moK_nil moK_k moK_panic moK_call moK_guard plK_done plK_k plK_call plK_guard plK_two shel_load protOf_nil protOf_cons putF_some putF_none lookup_if get_if set_eq Fr.get_cons keepK Opd.ev MK.ev MK.ob
attribute [local go_sem high] cdK_true cdK_false gdK_tt gdK_ff gdK_tf gdK_ft gdK_tup pgdK_tt pgdK_ff pgdK_tf pgdK_ft pgdK_tup dfK_fn evK_some pevK_some clK_fn pclK_fn pnK_ifc exK_some
attribute [local go_sem] InvS_refl InvS_nil InvS_cons QPin_endQ List.mem_cons List.not_mem_nil or_true true_or or_false false_or List.lookup_nil List.map_cons List.map_nil Option.map_some Option.map_none Option.bind_some Option.bind_none List.nil_append List.append_nil List.cons_append binEv binOb intOp strOp unEv eqvEv eqCells eqCell isBld_nil isBld_two isBld_bool isBld_int isBld_str isBld_nilp isBld_ptr isBld_gp isBld_eptr isBld_sl isBld_fn isBld_nilf isBld_ifc isBld_nili isBld_agg isBld_bld noBld tasEv AV.there AV.plus pickCells storeEv AV.solid AV.cells splice putParts rowOK fldEv iarrEv extEv minEv nonNil lenEv isStr appEv appOb appArg able_exact able_use slVecEv slVecOb slStrEv slStrOb bnd ne_1 ne_2 ne_3 ne_4 ne_1' ne_2' ne_3' ne_4' List.getElem?_map argF endQ rvsEv rvEv resOf St.none List.length_cons List.length_nil List.take_succ_cons List.take_zero List.drop_succ_cons List.drop_zero List.getElem?_cons_zero List.getElem?_cons_succ List.all_cons List.all_nil if_true if_false ite_self decide_true decide_false Bool.and_true Bool.true_and Bool.and_false Bool.false_and Bool.not_true Bool.not_false beq_self_eq_true bne_self_eq_false Nat.zero_add Nat.add_zero Bool.false_eq_true Bool.true_eq_false eq_self ne_eq not_true_eq_false not_false_eq_true true_and and_true and_self false_and and_false true_implies false_implies implies_true forall_const Nat.zero_le Nat.le_refl Option.isNone_none Option.isNone_some Option.isSome_some Option.isSome_none Nat.succ_ne_self Int.toNat_natCast Int.toNat_zero List.length_map List.take_length Out.ok.injEq AV.int.injEq AV.bool.injEq AV.str.injEq AV.tup.injEq Lab.av Val.av Exa.av Dset.av Req.av AV.agg.injEq List.cons.injEq ge_iff_le gt_iff_lt Int.natCast_nonneg Bool.not_eq_true Bool.not_eq_false cond_or cond_and cond_tl cond_fr cond_fl cond_tr merge_sameT merge_sameF mergeT0 mergeF0 mergeT1 mergeF1 mergeT2 mergeF2 mergeT3 mergeF3 mergeT4 mergeF4 mergeT5 mergeF5 mergeT6 mergeF6 mergeT7 mergeF7 mergeT8 mergeF8 mergeT9 mergeF9 cdK_bool gdK_bool pgdK_bool
variable {gl : List (Nat × List AV)}
structure FormF (d : Dset) : Prop where
  fs : d.fs.length ≤ 8
  xs : d.xs.length ≤ 256
  lab : ∀ x ∈ d.xs, tickB x.lab.e = true ∧ tickB x.lab.n = true
  vs : ∀ x ∈ d.xs, x.vs.length ≤ 8
theorem exsB_mem (n : Nat) : ∀ (xs : List Exa) (p : Option Lab), exsB n p xs = true → ∀ x ∈ xs, (tickB x.lab.e = true ∧ tickB x.lab.n = true) ∧ x.vs.length = n
  | [], _, _ => by simp
  | y :: ys, p, h => by
    simp only [exsB, Bool.and_eq_true, labB, decide_eq_true_eq] at h
    intro x hx
    rcases List.mem_cons.1 hx with rfl | hx
    · exact ⟨h.1.2, h.2.1⟩
    · exact exsB_mem n ys _ h.2.2.2.2 x hx
theorem formF {d : Dset} (h : formB d = true) : FormF d := by
  simp only [formB, Bool.and_eq_true, decide_eq_true_eq] at h
  have := exsB_mem _ _ _ h.2.2.2.2.2
  exact ⟨h.2.2.1, h.2.2.2.1, fun x hx => (this x hx).1, fun x hx => by have := (this x hx).2; omega⟩
end Go.Proofs.YtdjdhecanjmchaaGreatDoor
