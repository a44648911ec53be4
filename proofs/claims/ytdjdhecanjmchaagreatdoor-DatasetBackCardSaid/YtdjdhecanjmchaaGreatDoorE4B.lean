/- Contracts: what appends a frame; Encode. -/
import Derived.Test.YtdjdhecanjmchaaGreatDoorFaB
import Derived.Test.YtdjdhecanjmchaaGreatDoorFbB
import Derived.Test.YtdjdhecanjmchaaGreatDoorFcB
import Derived.Test.YtdjdhecanjmchaaGreatDoorHaB
import Derived.Test.YtdjdhecanjmchaaGreatDoorE3B
set_option linter.unusedSimpArgs false
set_option linter.unusedVariables false
namespace Go.Proofs.YtdjdhecanjmchaaGreatDoor
open Go Go.V Go.Lib
set_option maxRecDepth 40000
attribute [local go_sem ↓] mw_nil mw_inBlock mw_inLoop mw_skip mw_seq mw_block mw_exit mw_ret mw_named mw_loop mw_cond mw_reg mw_any mw_dfr KW_none KW_some KD_none KD_some mexit_inBlock mexit_code mexit_inLoop moK_nil moK_k moK_panic moK_call moK_guard plK_done plK_k plK_call plK_guard plK_two shel_load protOf_nil protOf_cons putF_some putF_none lookup_if get_if set_eq Fr.get_cons keepK Opd.ev MK.ev MK.ob
attribute [local go_sem high] cdK_true cdK_false gdK_tt gdK_ff gdK_tf gdK_ft gdK_tup pgdK_tt pgdK_ff pgdK_tf pgdK_ft pgdK_tup dfK_fn evK_some pevK_some clK_fn pclK_fn pnK_ifc exK_some
attribute [local go_sem] InvS_refl InvS_nil InvS_cons QPin_endQ List.mem_cons List.not_mem_nil or_true true_or or_false false_or List.lookup_nil List.map_cons List.map_nil Option.map_some Option.map_none Option.bind_some Option.bind_none List.nil_append List.append_nil List.cons_append binEv binOb intOp strOp unEv eqvEv eqCells eqCell isBld_nil isBld_two isBld_bool isBld_int isBld_str isBld_nilp isBld_ptr isBld_gp isBld_eptr isBld_sl isBld_fn isBld_nilf isBld_ifc isBld_nili isBld_agg isBld_bld noBld tasEv AV.there AV.plus pickCells storeEv AV.solid AV.cells splice putParts rowOK fldEv iarrEv extEv minEv nonNil lenEv isStr appEv appOb appArg able_exact able_use slVecEv slVecOb slStrEv slStrOb bnd ne_1 ne_2 ne_3 ne_4 ne_1' ne_2' ne_3' ne_4' List.getElem?_map argF endQ rvsEv rvEv resOf St.none List.length_cons List.length_nil List.take_succ_cons List.take_zero List.drop_succ_cons List.drop_zero List.getElem?_cons_zero List.getElem?_cons_succ List.all_cons List.all_nil if_true if_false ite_self decide_true decide_false Bool.and_true Bool.true_and Bool.and_false Bool.false_and Bool.not_true Bool.not_false beq_self_eq_true bne_self_eq_false Nat.zero_add Nat.add_zero Bool.false_eq_true Bool.true_eq_false eq_self ne_eq not_true_eq_false not_false_eq_true true_and and_true and_self false_and and_false true_implies false_implies implies_true forall_const Nat.zero_le Nat.le_refl Option.isNone_none Option.isNone_some Option.isSome_some Option.isSome_none Nat.succ_ne_self Int.toNat_natCast Int.toNat_zero List.length_map List.take_length Out.ok.injEq AV.int.injEq AV.bool.injEq AV.str.injEq AV.tup.injEq Lab.av Val.av Exa.av Dset.av Req.av AV.agg.injEq List.cons.injEq ge_iff_le gt_iff_lt Int.natCast_nonneg Bool.not_eq_true Bool.not_eq_false cond_or cond_and cond_tl cond_fr cond_fl cond_tr merge_sameT merge_sameF mergeT0 mergeF0 mergeT1 mergeF1 mergeT2 mergeF2 mergeT3 mergeF3 mergeT4 mergeF4 mergeT5 mergeF5 mergeT6 mergeF6 mergeT7 mergeF7 mergeT8 mergeF8 mergeT9 mergeF9 cdK_bool gdK_bool pgdK_bool
variable {gl : List (Nat × List AV)}
theorem c59 (hg : GlNR gl) (bs p : Bytes) (t u : STok) (hs : p.length < 4294960000) (hb : bs.length ≤ 1099511627776) : Toks Tryz.prog gl 59 [.sl 1 (bs.map byteAV) t, .sl 1 (p.map byteAV) u] 1 ((bs ++ frameE p).map byteAV) := by
  refine ⟨?_, by simp only [List.map_cons, List.map_nil, fg_int, fg_str, fg_bool, fg_nilp, fg_nili, fg_fn, fg_sl, fg_agg, fg_tup, fg_lab, fg_val, fg_exa, fg_dset, fg_req, fg_bytes, fg_ints, fg_strs, fg_vals, fg_labs, fg_exas, noRef_ok, noRef_pan, List.mem_cons, List.not_mem_nil, or_false, forall_eq_or_imp, forall_eq, and_self, and_true, true_and, implies_true, NoRef.bool_eq, NoRef.int_eq, NoRef.str_eq, NoRef.nilp_eq, NoRef.nili_eq, NoRef.nilf_eq, NoRef.agg_eq, NoRef.tup_eq, NoRef.ifc_eq, NoRef.fn_nil, NoRef.fn_eq, nr_lab, nr_val, nr_exa, nr_dset, nr_req, nr_byte, nr_bytes, nr_strs, nr_vals, nr_labs, nr_exas, nr_ints], nrcB _⟩
  simp only [List.map_cons, List.map_nil, fg_int, fg_str, fg_bool, fg_nilp, fg_nili, fg_fn, fg_sl, fg_agg, fg_tup, fg_lab, fg_val, fg_exa, fg_dset, fg_req, fg_bytes, fg_ints, fg_strs, fg_vals, fg_labs, fg_exas]
  refine .of_run is59 (by simp) (mw_sound 200 ?_)
  have h57 := c57 hg bs .unk p.length (by omega) hb
  have h73 := c73 hg p .unk hs
  have hw : IntKind.u64.wrap (p.length : Int) = p.length := by rw [wrap_u64]; omega
  have hul := uvar_le p.length
  repeat' first
    | with_reducible first | refine mw_as m59.eq_1 ?_ | refine CallK.toks (h57) hg rfl ?_ | refine PCallK.toks (h57) hg rfl (fun _ => by first | exact of_eq_true InvS_refl | simp only [InvS_nil, InvS_cons, get_if, InvS_refl, and_self]) ?_ | refine CallK.pure (Pure.conv (h73) (by simp only [List.map_cons, List.map_nil, fg_int, fg_str, fg_bool, fg_nilp, fg_nili, fg_fn, fg_sl, fg_agg, fg_tup, fg_lab, fg_val, fg_exa, fg_dset, fg_req, fg_bytes, fg_ints, fg_strs, fg_vals, fg_labs, fg_exas])) hg rfl ?_ | refine PCallK.pure (Pure.conv (h73) (by simp only [List.map_cons, List.map_nil, fg_int, fg_str, fg_bool, fg_nilp, fg_nili, fg_fn, fg_sl, fg_agg, fg_tup, fg_lab, fg_val, fg_exa, fg_dset, fg_req, fg_bytes, fg_ints, fg_strs, fg_vals, fg_labs, fg_exas])) hg rfl (fun _ => by first | exact of_eq_true InvS_refl | simp only [InvS_nil, InvS_cons, get_if, InvS_refl, and_self]) ?_ | refine ⟨?_, ?_⟩ | intro _
    | simp only [go_sem, ↓reduceIte, Nat.reduceAdd, Nat.reduceLeDiff, Nat.reduceEqDiff, Nat.reduceBEq, Nat.reduceBNe, Nat.reduceMul, Nat.reduceLT, reduceCtorEq, Int.reduceLT, Int.reduceLE, Int.reduceToNat, Int.reduceNeg,  hw, own_eq, use_eq, useL]
  · exact .inr ⟨_, rfl, by simp⟩
  · simp
    omega
  · simp
    omega
  · exact .inr ⟨_, rfl, by simp⟩
  · simp
    omega
  · simp
    omega
  rotate_left
  · refine congrArg (fun l => AV.sl 1 l (STok.tok _)) ?_
    simp only [frameE, sumB, List.map_append, List.map_cons, List.map_nil, byte_eq, List.append_assoc]
  · simp
def encE (d : Dset) : Int := if formB d then 0 else 1
def encL (d : Dset) : Bytes := if formB d then encB d else []
abbrev encAV (d : Dset) : AV := .tup [.sl 1 ((encL d).map byteAV) .unk, .int .i64 (encE d)]
theorem enc_bad {d : Dset} (h : formB d = false) {tk : STok} : FgOut (.ok (.tup [.sl 1 [] tk, .int .i64 1])) (encAV d) :=
  .mk' (by simp only [List.map_cons, List.map_nil, fg_int, fg_str, fg_bool, fg_nilp, fg_nili, fg_fn, fg_sl, fg_agg, fg_tup, fg_lab, fg_val, fg_exa, fg_dset, fg_req, fg_bytes, fg_ints, fg_strs, fg_vals, fg_labs, fg_exas, encAV, encL, encE, h, if_false, Bool.false_eq_true])
theorem enc_done {d : Dset} (h : formB d = true) {b : Bytes} {tk : STok} (hb : encB d = b) : FgOut (.ok (.tup [.sl 1 (b.map byteAV) tk, .int .i64 0])) (encAV d) :=
  .mk' (by simp only [List.map_cons, List.map_nil, fg_int, fg_str, fg_bool, fg_nilp, fg_nili, fg_fn, fg_sl, fg_agg, fg_tup, fg_lab, fg_val, fg_exa, fg_dset, fg_req, fg_bytes, fg_ints, fg_strs, fg_vals, fg_labs, fg_exas, encAV, encL, encE, h, if_true, hb])
set_option maxHeartbeats 4000000 in
theorem c23 (hg : GlNR gl) {m0 : Int} (hm0 : gl.lookup 1 = some [.int .i64 m0]) (d : Dset) (hs : SmallD d) : Pure Tryz.prog gl 23 [d.av] (.ok (encAV d)) := by
  refine Pure.ofFg ?_ (by simp only [List.map_cons, List.map_nil, fg_int, fg_str, fg_bool, fg_nilp, fg_nili, fg_fn, fg_sl, fg_agg, fg_tup, fg_lab, fg_val, fg_exa, fg_dset, fg_req, fg_bytes, fg_ints, fg_strs, fg_vals, fg_labs, fg_exas, noRef_ok, noRef_pan, List.mem_cons, List.not_mem_nil, or_false, forall_eq_or_imp, forall_eq, and_self, and_true, true_and, implies_true, NoRef.bool_eq, NoRef.int_eq, NoRef.str_eq, NoRef.nilp_eq, NoRef.nili_eq, NoRef.nilf_eq, NoRef.agg_eq, NoRef.tup_eq, NoRef.ifc_eq, NoRef.fn_nil, NoRef.fn_eq, nr_lab, nr_val, nr_exa, nr_dset, nr_req, nr_byte, nr_bytes, nr_strs, nr_vals, nr_labs, nr_exas, nr_ints]) (by simp only [encAV, noRef_ok, noRef_pan, List.mem_cons, List.not_mem_nil, or_false, forall_eq_or_imp, forall_eq, and_self, and_true, true_and, implies_true, NoRef.bool_eq, NoRef.int_eq, NoRef.str_eq, NoRef.nilp_eq, NoRef.nili_eq, NoRef.nilf_eq, NoRef.agg_eq, NoRef.tup_eq, NoRef.ifc_eq, NoRef.fn_nil, NoRef.fn_eq, nr_lab, nr_val, nr_exa, nr_dset, nr_req, nr_byte, nr_bytes, nr_strs, nr_vals, nr_labs, nr_exas, nr_ints])
  simp only [List.map_cons, List.map_nil, fg_int, fg_str, fg_bool, fg_nilp, fg_nili, fg_fn, fg_sl, fg_agg, fg_tup, fg_lab, fg_val, fg_exa, fg_dset, fg_req, fg_bytes, fg_ints, fg_strs, fg_vals, fg_labs, fg_exas]
  refine .of_run is23 (by simp) (mw_sound 200 ?_)
  rcases Bool.eq_false_or_eq_true (formB d) with hf | hf
  · obtain ⟨⟨⟨_, ⟨_, _⟩, ⟨_, hfl⟩, _⟩, hhl⟩, hll⟩ := formB_ok hf
    have hF := formF hf
    have hel := hs.ent
    have hxl := hs.xs
    have hf8 := hF.fs
    have hx8 := hF.xs
    have h58 := c58 hg [] d.ent .exact (by omega) (by simp)
    have hB : ∀ s r : Bytes, headE (hd d) = s ++ r → s.length ≤ 8192 := fun s r he => by have := congrArg List.length he; rw [List.length_append] at this; omega
    have h57 := c57 hg (textE d.ent) .unk d.fs.length (by omega) (by have := hB (textE d.ent) _ rfl; omega)
    have hw : IntKind.u64.wrap (d.fs.length : Int) = d.fs.length := wrap_u64_in (by omega) (by omega)
    have hw2 : IntKind.u64.wrap (d.xs.length : Int) = d.xs.length := wrap_u64_in (by omega) (by omega)
    repeat' first
      | with_reducible first | refine mw_as m23.eq_1 ?_ | refine opn m23k0.eq_1 ?_ | refine opn m23k1.eq_1 ?_ | refine opn m23k2.eq_1 ?_ | refine opn m23k3.eq_1 ?_ | refine CallK.pure (c37 hg hm0 d hs) hg rfl ?_ | refine PCallK.pure (c37 hg hm0 d hs) hg rfl (fun _ => by first | exact of_eq_true InvS_refl | simp only [InvS_nil, InvS_cons, get_if, InvS_refl, and_self]) ?_ | refine CallK.toks (Toks.conv (h58) (by simp only [List.map_cons, List.map_nil, fg_int, fg_str, fg_bool, fg_nilp, fg_nili, fg_fn, fg_sl, fg_agg, fg_tup, fg_lab, fg_val, fg_exa, fg_dset, fg_req, fg_bytes, fg_ints, fg_strs, fg_vals, fg_labs, fg_exas])) hg rfl ?_ | refine PCallK.toks (Toks.conv (h58) (by simp only [List.map_cons, List.map_nil, fg_int, fg_str, fg_bool, fg_nilp, fg_nili, fg_fn, fg_sl, fg_agg, fg_tup, fg_lab, fg_val, fg_exa, fg_dset, fg_req, fg_bytes, fg_ints, fg_strs, fg_vals, fg_labs, fg_exas])) hg rfl (fun _ => by first | exact of_eq_true InvS_refl | simp only [InvS_nil, InvS_cons, get_if, InvS_refl, and_self]) ?_ | refine CallK.toks (Toks.conv (h57) (by simp only [List.map_cons, List.map_nil, fg_int, fg_str, fg_bool, fg_nilp, fg_nili, fg_fn, fg_sl, fg_agg, fg_tup, fg_lab, fg_val, fg_exa, fg_dset, fg_req, fg_bytes, fg_ints, fg_strs, fg_vals, fg_labs, fg_exas])) hg rfl ?_ | refine PCallK.toks (Toks.conv (h57) (by simp only [List.map_cons, List.map_nil, fg_int, fg_str, fg_bool, fg_nilp, fg_nili, fg_fn, fg_sl, fg_agg, fg_tup, fg_lab, fg_val, fg_exa, fg_dset, fg_req, fg_bytes, fg_ints, fg_strs, fg_vals, fg_labs, fg_exas])) hg rfl (fun _ => by first | exact of_eq_true InvS_refl | simp only [InvS_nil, InvS_cons, get_if, InvS_refl, and_self]) ?_ | refine ⟨?_, ?_⟩ | intro _
      | simp only [go_sem, ↓reduceIte, Nat.reduceAdd, Nat.reduceLeDiff, Nat.reduceEqDiff, Nat.reduceBEq, Nat.reduceBNe, Nat.reduceMul, Nat.reduceLT, reduceCtorEq, Int.reduceLT, Int.reduceLE, Int.reduceToNat, Int.reduceNeg,  hf, hw, own_eq, use_eq, useL]
    refine MRun.keep (live' := []) ?_ (fun _ _ h => h) (fun _ h => by cases h)
    refine .forUp d.fs.length (fun i F S => ∃ (acc : Bytes) (tk : STok) (t : Nat), F = [(1, AV.ptr 0 0), (4, AV.sl 1 (acc.map byteAV) tk), (23, AV.sl 1 (List.map AV.str d.fs) STok.unk), (24, AV.int IntKind.i64 ↑d.fs.length), (25, AV.int IntKind.i64 i)] ∧
      S = ⟨1, [(0, [AV.str d.ent, AV.sl 1 (List.map AV.str d.fs) STok.unk, AV.sl 4 (List.map Exa.av d.xs) STok.unk])], t, [], gl⟩ ∧ headE (hd d) = acc ++ ((d.fs.drop i).flatMap textE ++ uvar d.xs.length)) ⟨_, _, _, rfl, rfl, by simp [headE, hd]⟩ ?_
    rintro i F S hi ⟨acc, tk, t, rfl, rfl, he⟩ ih
    have hal := hB _ _ he
    by_cases h : i < d.fs.length
    · obtain ⟨f, hff⟩ := some_of_lt h
      have hfle := hfl f (List.mem_of_getElem? hff)
      rw [drop_some hff, List.flatMap_cons, List.append_assoc, ← List.append_assoc] at he
      have h58f := c58 hg acc f .unk (by have := hB _ _ he; simp [textE] at this; omega) (by omega)
      refine opn m23l0.eq_1 ?_
      repeat' first
        | with_reducible first | refine mw_as m23.eq_1 ?_ | refine opn m23k0.eq_1 ?_ | refine opn m23k1.eq_1 ?_ | refine opn m23k2.eq_1 ?_ | refine opn m23k3.eq_1 ?_ | refine CallK.toks (Toks.conv (h58f) (by simp only [List.map_cons, List.map_nil, fg_int, fg_str, fg_bool, fg_nilp, fg_nili, fg_fn, fg_sl, fg_agg, fg_tup, fg_lab, fg_val, fg_exa, fg_dset, fg_req, fg_bytes, fg_ints, fg_strs, fg_vals, fg_labs, fg_exas])) hg rfl ?_ | refine PCallK.toks (Toks.conv (h58f) (by simp only [List.map_cons, List.map_nil, fg_int, fg_str, fg_bool, fg_nilp, fg_nili, fg_fn, fg_sl, fg_agg, fg_tup, fg_lab, fg_val, fg_exa, fg_dset, fg_req, fg_bytes, fg_ints, fg_strs, fg_vals, fg_labs, fg_exas])) hg rfl (fun _ => by first | exact of_eq_true InvS_refl | simp only [InvS_nil, InvS_cons, get_if, InvS_refl, and_self]) ?_ | refine ⟨?_, ?_⟩ | intro _
        | simp only [go_sem, ↓reduceIte, Nat.reduceAdd, Nat.reduceLeDiff, Nat.reduceEqDiff, Nat.reduceBEq, Nat.reduceBNe, Nat.reduceMul, Nat.reduceLT, reduceCtorEq, Int.reduceLT, Int.reduceLE, Int.reduceToNat, Int.reduceNeg,  hff, ltB h, ltP h, own_eq, use_eq, useL, wrap_succ (show i < 9223372036854775807 by omega)]
      exact MRun.keep (live' := []) (ih h _ _ ⟨_, _, _, rfl, rfl, he⟩) (fun _ _ h => h) (fun _ h => by cases h)
    · have h57e := c57 hg acc .unk d.xs.length (by omega) (by omega)
      rw [List.drop_eq_nil_of_le (Nat.le_of_not_lt h)] at he
      have h59 := c59 hg [] (headE (hd d)) .exact .unk (by omega) (by simp)
      have hE : acc ++ uvar d.xs.length = headE (hd d) := by rw [he]; rfl
      rw [List.nil_append] at h59
      refine opn m23l0.eq_1 ?_
      repeat' first
        | with_reducible first | refine mw_as m23.eq_1 ?_ | refine opn m23k0.eq_1 ?_ | refine opn m23k1.eq_1 ?_ | refine opn m23k2.eq_1 ?_ | refine opn m23k3.eq_1 ?_ | refine CallK.toks (Toks.conv (h57e) (by simp only [List.map_cons, List.map_nil, fg_int, fg_str, fg_bool, fg_nilp, fg_nili, fg_fn, fg_sl, fg_agg, fg_tup, fg_lab, fg_val, fg_exa, fg_dset, fg_req, fg_bytes, fg_ints, fg_strs, fg_vals, fg_labs, fg_exas])) hg rfl ?_ | refine PCallK.toks (Toks.conv (h57e) (by simp only [List.map_cons, List.map_nil, fg_int, fg_str, fg_bool, fg_nilp, fg_nili, fg_fn, fg_sl, fg_agg, fg_tup, fg_lab, fg_val, fg_exa, fg_dset, fg_req, fg_bytes, fg_ints, fg_strs, fg_vals, fg_labs, fg_exas])) hg rfl (fun _ => by first | exact of_eq_true InvS_refl | simp only [InvS_nil, InvS_cons, get_if, InvS_refl, and_self]) ?_ | refine CallK.toks (Toks.conv (h59) (by simp only [List.map_cons, List.map_nil, fg_int, fg_str, fg_bool, fg_nilp, fg_nili, fg_fn, fg_sl, fg_agg, fg_tup, fg_lab, fg_val, fg_exa, fg_dset, fg_req, fg_bytes, fg_ints, fg_strs, fg_vals, fg_labs, fg_exas])) hg rfl ?_ | refine PCallK.toks (Toks.conv (h59) (by simp only [List.map_cons, List.map_nil, fg_int, fg_str, fg_bool, fg_nilp, fg_nili, fg_fn, fg_sl, fg_agg, fg_tup, fg_lab, fg_val, fg_exa, fg_dset, fg_req, fg_bytes, fg_ints, fg_strs, fg_vals, fg_labs, fg_exas])) hg rfl (fun _ => by first | exact of_eq_true InvS_refl | simp only [InvS_nil, InvS_cons, get_if, InvS_refl, and_self]) ?_ | refine ⟨?_, ?_⟩ | intro _
        | simp only [go_sem, ↓reduceIte, Nat.reduceAdd, Nat.reduceLeDiff, Nat.reduceEqDiff, Nat.reduceBEq, Nat.reduceBNe, Nat.reduceMul, Nat.reduceLT, reduceCtorEq, Int.reduceLT, Int.reduceLE, Int.reduceToNat, Int.reduceNeg,  geB (Nat.le_of_not_lt h), hw2, own_eq, use_eq, useL, hE]
      refine MRun.keep (ob' := []) (live' := []) ?_ (fun _ _ h => by cases h) (fun _ h => by cases h)
      clear h57e h59 hE he hal ih h57 h58
      have hT : ∀ s r : Bytes, encB d = s ++ r → s.length ≤ 5000000 := by
        intro s r he
        have h1 := congrArg List.length he
        have h2 := flat_len (fun x => frameE (lineE x)) 8206 d.xs fun x hx => by
          have h3 := (hll x hx).2
          have h4 := uvar_le (lineE x).length
          simp only [frameE, List.length_append, sumB_len]
          omega
        have h5 : d.xs.length * 8206 ≤ 256 * 8206 := Nat.mul_le_mul_right _ hx8
        have h6 := uvar_le (headE (hd d)).length
        simp only [encB, frameE, List.length_append, sumB_len] at h1 h2
        omega
      refine .forUp d.xs.length (fun j F S => ∃ (B : Bytes) (tk : STok) (m t : Nat), F = [(2, AV.sl 1 (B.map byteAV) tk), (41, AV.sl 4 (List.map Exa.av d.xs) STok.unk), (42, AV.int IntKind.i64 ↑d.xs.length), (43, AV.int IntKind.i64 j)] ∧
        S = ⟨m, [], t, [], gl⟩ ∧ encB d = B ++ (d.xs.drop j).flatMap (fun x => frameE (lineE x))) ⟨_, _, _, _, rfl, rfl, rfl⟩ ?_
      rintro j F S hj ⟨B, tkB, m, t2, rfl, rfl, he⟩ ih
      by_cases h2 : j < d.xs.length
      · obtain ⟨x, hx⟩ := some_of_lt h2
        obtain ⟨⟨hkl, _, _, hvl, hvv⟩, hlx⟩ := hll x (List.mem_of_getElem? hx)
        have hkx := hs.k x (List.mem_of_getElem? hx)
        have htx := hF.lab x (List.mem_of_getElem? hx)
        have h58 := c58 hg [] x.lab.k .exact (by omega) (by simp)
        have hL : ∀ s r : Bytes, lineE x = s ++ r → s.length ≤ 8192 := fun s r he => by have := congrArg List.length he; rw [List.length_append] at this; omega
        simp only [tickB, Bool.and_eq_true, decide_eq_true_eq] at htx
        have h60 := c60 hg (textE x.lab.k) (.tok t2) x.lab.e (by omega) (by omega) (by have := hL (textE x.lab.k) _ rfl; omega)
        have h60b := c60 hg (textE x.lab.k ++ uvar (zig x.lab.e)) (.tok (t2 + 1)) x.lab.n (by omega) (by omega) (by have := hL (textE x.lab.k ++ uvar (zig x.lab.e)) (uvar (zig x.lab.n) ++ x.vs.flatMap valE) (by simp [lineE]); omega)
        refine opn m23l2.eq_1 ?_
        repeat' first
          | with_reducible first | refine mw_as m23.eq_1 ?_ | refine opn m23k0.eq_1 ?_ | refine opn m23k1.eq_1 ?_ | refine opn m23k2.eq_1 ?_ | refine opn m23k3.eq_1 ?_ | refine CallK.toks (h58) hg rfl ?_ | refine PCallK.toks (h58) hg rfl (fun _ => by first | exact of_eq_true InvS_refl | simp only [InvS_nil, InvS_cons, get_if, InvS_refl, and_self]) ?_ | refine CallK.toks (h60) hg rfl ?_ | refine PCallK.toks (h60) hg rfl (fun _ => by first | exact of_eq_true InvS_refl | simp only [InvS_nil, InvS_cons, get_if, InvS_refl, and_self]) ?_ | refine CallK.toks (h60b) hg rfl ?_ | refine PCallK.toks (h60b) hg rfl (fun _ => by first | exact of_eq_true InvS_refl | simp only [InvS_nil, InvS_cons, get_if, InvS_refl, and_self]) ?_ | refine ⟨?_, ?_⟩ | intro _
          | simp only [go_sem, ↓reduceIte, Nat.reduceAdd, Nat.reduceLeDiff, Nat.reduceEqDiff, Nat.reduceBEq, Nat.reduceBNe, Nat.reduceMul, Nat.reduceLT, reduceCtorEq, Int.reduceLT, Int.reduceLE, Int.reduceToNat, Int.reduceNeg,  hx, ltB h2, ltP h2, own_eq, use_eq, useL, List.nil_append]
        refine MRun.keep (ob' := []) (live' := []) ?_ (fun _ _ h => by cases h) (fun _ h => by cases h)
        have hxv := hs.vs x (List.mem_of_getElem? hx)
        refine .forUp x.vs.length (fun i F S => ∃ (acc : Bytes) (tk : STok) (m t : Nat), F = [(2, AV.sl 1 (B.map byteAV) tkB), (4, AV.sl 1 (acc.map byteAV) tk), (41, AV.sl 4 (List.map Exa.av d.xs) STok.unk), (42, AV.int IntKind.i64 ↑d.xs.length), (43, AV.int IntKind.i64 ↑j), (61, AV.sl 3 (List.map Val.av x.vs) STok.unk), (62, AV.int IntKind.i64 ↑x.vs.length), (63, AV.int IntKind.i64 i)] ∧
          S = ⟨m, [], t, [], gl⟩ ∧ lineE x = acc ++ (x.vs.drop i).flatMap valE) ⟨_, _, _, _, rfl, rfl, by simp [lineE]⟩ ?_
        rintro i F S hi ⟨acc, tk, m, t, rfl, rfl, hel2⟩ ihv
        have hal2 := hL _ _ hel2
        by_cases h3 : i < x.vs.length
        · obtain ⟨v, hv⟩ := some_of_lt h3
          have h61 := c61 hg acc tk v (hvv v (List.mem_of_getElem? hv)) (by omega)
          rw [drop_some hv, List.flatMap_cons, ← List.append_assoc] at hel2
          refine opn m23l1.eq_1 ?_
          repeat' first
            | with_reducible first | refine mw_as m23.eq_1 ?_ | refine opn m23k0.eq_1 ?_ | refine opn m23k1.eq_1 ?_ | refine opn m23k2.eq_1 ?_ | refine opn m23k3.eq_1 ?_ | refine CallK.toks (h61) hg rfl ?_ | refine PCallK.toks (h61) hg rfl (fun _ => by first | exact of_eq_true InvS_refl | simp only [InvS_nil, InvS_cons, get_if, InvS_refl, and_self]) ?_ | refine ⟨?_, ?_⟩ | intro _
            | simp only [go_sem, ↓reduceIte, Nat.reduceAdd, Nat.reduceLeDiff, Nat.reduceEqDiff, Nat.reduceBEq, Nat.reduceBNe, Nat.reduceMul, Nat.reduceLT, reduceCtorEq, Int.reduceLT, Int.reduceLE, Int.reduceToNat, Int.reduceNeg,  hv, ltB h3, ltP h3, own_eq, use_eq, useL, wrap_succ (show i < 9223372036854775807 by omega)]
          exact MRun.keep (ob' := []) (live' := []) (ihv h3 _ _ ⟨_, _, _, _, rfl, rfl, hel2⟩) (fun _ _ h => by cases h) (fun _ h => by cases h)
        · rw [List.drop_eq_nil_of_le (Nat.le_of_not_lt h3), List.flatMap_nil, List.append_nil] at hel2
          subst hel2
          have hBl := hT _ _ he
          have h59 := c59 hg B (lineE x) tkB tk (by omega) (by omega)
          rw [drop_some hx, List.flatMap_cons, ← List.append_assoc] at he
          refine opn m23l1.eq_1 ?_
          repeat' first
            | with_reducible first | refine mw_as m23.eq_1 ?_ | refine opn m23k0.eq_1 ?_ | refine opn m23k1.eq_1 ?_ | refine opn m23k2.eq_1 ?_ | refine opn m23k3.eq_1 ?_ | refine CallK.toks (h59) hg rfl ?_ | refine PCallK.toks (h59) hg rfl (fun _ => by first | exact of_eq_true InvS_refl | simp only [InvS_nil, InvS_cons, get_if, InvS_refl, and_self]) ?_ | refine ⟨?_, ?_⟩ | intro _
            | simp only [go_sem, ↓reduceIte, Nat.reduceAdd, Nat.reduceLeDiff, Nat.reduceEqDiff, Nat.reduceBEq, Nat.reduceBNe, Nat.reduceMul, Nat.reduceLT, reduceCtorEq, Int.reduceLT, Int.reduceLE, Int.reduceToNat, Int.reduceNeg,  geB (Nat.le_of_not_lt h3), own_eq, use_eq, useL, wrap_succ (show j < 9223372036854775807 by omega)]
          exact MRun.keep (ob' := []) (live' := []) (ih h2 _ _ ⟨_, _, _, _, rfl, rfl, he⟩) (fun _ _ h => by cases h) (fun _ h => by cases h)
      · refine opn m23l2.eq_1 ?_
        rw [List.drop_eq_nil_of_le (Nat.le_of_not_lt h2)] at he
        repeat' first
          | with_reducible first | refine mw_as m23.eq_1 ?_ | refine opn m23k0.eq_1 ?_ | refine opn m23k1.eq_1 ?_ | refine opn m23k2.eq_1 ?_ | refine opn m23k3.eq_1 ?_ | refine ⟨?_, ?_⟩ | intro _
          | simp only [go_sem, ↓reduceIte, Nat.reduceAdd, Nat.reduceLeDiff, Nat.reduceEqDiff, Nat.reduceBEq, Nat.reduceBNe, Nat.reduceMul, Nat.reduceLT, reduceCtorEq, Int.reduceLT, Int.reduceLE, Int.reduceToNat, Int.reduceNeg,  geB (Nat.le_of_not_lt h2)]
        exact enc_done hf (by simpa using he)
  · skip
    repeat' first
      | with_reducible first | refine mw_as m23.eq_1 ?_ | refine opn m23k0.eq_1 ?_ | refine opn m23k1.eq_1 ?_ | refine opn m23k2.eq_1 ?_ | refine opn m23k3.eq_1 ?_ | refine CallK.pure (c37 hg hm0 d hs) hg rfl ?_ | refine PCallK.pure (c37 hg hm0 d hs) hg rfl (fun _ => by first | exact of_eq_true InvS_refl | simp only [InvS_nil, InvS_cons, get_if, InvS_refl, and_self]) ?_ | refine ⟨?_, ?_⟩ | intro _
      | simp only [go_sem, ↓reduceIte, Nat.reduceAdd, Nat.reduceLeDiff, Nat.reduceEqDiff, Nat.reduceBEq, Nat.reduceBNe, Nat.reduceMul, Nat.reduceLT, reduceCtorEq, Int.reduceLT, Int.reduceLE, Int.reduceToNat, Int.reduceNeg,  hf]
    all_goals exact enc_bad hf
end Go.Proofs.YtdjdhecanjmchaaGreatDoor
