/- Contracts: what is read: numbers, texts, frames; errors are caught. -/
import Derived.Test.YtdjdhecanjmchaaGreatDoorFaB
import Derived.Test.YtdjdhecanjmchaaGreatDoorFbB
import Derived.Test.YtdjdhecanjmchaaGreatDoorFcB
import Derived.Test.YtdjdhecanjmchaaGreatDoorHaB
import Derived.Test.YtdjdhecanjmchaaGreatDoorE5B
import Derived.KernelRfl
set_option linter.unusedSimpArgs false
set_option linter.unusedVariables false
namespace Go.Proofs.YtdjdhecanjmchaaGreatDoor
open Go Go.V Go.Lib
set_option maxRecDepth 40000
attribute [local go_sem ↓] mw_nil mw_inBlock mw_inLoop mw_skip mw_seq mw_block mw_exit mw_ret mw_named mw_loop mw_cond mw_reg mw_any mw_dfr KW_none KW_some KD_none KD_some mexit_inBlock mexit_code mexit_inLoop moK_nil moK_k moK_panic moK_call moK_guard plK_done plK_k plK_call plK_guard plK_two shel_load protOf_nil protOf_cons putF_some putF_none lookup_if get_if set_eq Fr.get_cons keepK Opd.ev MK.ev MK.ob
attribute [local go_sem high] cdK_true cdK_false gdK_tt gdK_ff gdK_tf gdK_ft gdK_tup pgdK_tt pgdK_ff pgdK_tf pgdK_ft pgdK_tup dfK_fn evK_some pevK_some clK_fn pclK_fn pnK_ifc exK_some
attribute [local go_sem] InvS_refl InvS_nil InvS_cons QPin_endQ List.mem_cons List.not_mem_nil or_true true_or or_false false_or List.lookup_nil List.map_cons List.map_nil Option.map_some Option.map_none Option.bind_some Option.bind_none List.nil_append List.append_nil List.cons_append binEv binOb intOp strOp unEv eqvEv eqCells eqCell isBld_nil isBld_two isBld_bool isBld_int isBld_str isBld_nilp isBld_ptr isBld_gp isBld_eptr isBld_sl isBld_fn isBld_nilf isBld_ifc isBld_nili isBld_agg isBld_bld noBld tasEv AV.there AV.plus pickCells storeEv AV.solid AV.cells splice putParts rowOK fldEv iarrEv extEv minEv nonNil lenEv isStr appEv appOb appArg able_exact able_use slVecEv slVecOb slStrEv slStrOb bnd ne_1 ne_2 ne_3 ne_4 ne_1' ne_2' ne_3' ne_4' List.getElem?_map argF endQ rvsEv rvEv resOf St.none List.length_cons List.length_nil List.take_succ_cons List.take_zero List.drop_succ_cons List.drop_zero List.getElem?_cons_zero List.getElem?_cons_succ List.all_cons List.all_nil if_true if_false ite_self decide_true decide_false Bool.and_true Bool.true_and Bool.and_false Bool.false_and Bool.not_true Bool.not_false beq_self_eq_true bne_self_eq_false Nat.zero_add Nat.add_zero Bool.false_eq_true Bool.true_eq_false eq_self ne_eq not_true_eq_false not_false_eq_true true_and and_true and_self false_and and_false true_implies false_implies implies_true forall_const Nat.zero_le Nat.le_refl Option.isNone_none Option.isNone_some Option.isSome_some Option.isSome_none Nat.succ_ne_self Int.toNat_natCast Int.toNat_zero List.length_map List.take_length Out.ok.injEq AV.int.injEq AV.bool.injEq AV.str.injEq AV.tup.injEq Lab.av Val.av Exa.av Dset.av Req.av AV.agg.injEq List.cons.injEq ge_iff_le gt_iff_lt Int.natCast_nonneg Bool.not_eq_true Bool.not_eq_false cond_or cond_and cond_tl cond_fr cond_fl cond_tr merge_sameT merge_sameF mergeT0 mergeF0 mergeT1 mergeF1 mergeT2 mergeF2 mergeT3 mergeF3 mergeT4 mergeF4 mergeT5 mergeF5 mergeT6 mergeF6 mergeT7 mergeF7 mergeT8 mergeF8 mergeT9 mergeF9 cdK_bool gdK_bool pgdK_bool
variable {gl : List (Nat × List AV)}
theorem cmp_nn : cmpEv 1 .nili .nili = some true := rfl
theorem cmp_en (e : Int) : cmpEv 1 (.ifc 32 (.int .i64 e)) .nili = some false := rfl
theorem c69n {p q : Nat} {S : St} : MCallsD Tryz.prog 69 [.ptr p 0, .ptr q 0] S none fun o S' => o = .ok (.tup []) ∧ S' = S := by
  refine MCallsD.of_run is69 (by simp) ?_
  unfold m69
  refine .seq (.rcv ?_)
  simp only [go_sem, ↓reduceIte, Nat.reduceAdd, Nat.reduceLeDiff, Nat.reduceEqDiff, Nat.reduceBEq, Nat.reduceBNe, Nat.reduceMul, Nat.reduceLT, reduceCtorEq, Int.reduceLT, Int.reduceLE, Int.reduceToNat, Int.reduceNeg, Option.getD_none]
  refine mw_sound 200 ?_
  repeat' first
    | with_reducible first | refine mw_as m69.eq_1 ?_ | refine opn m69k0.eq_1 ?_ | refine ⟨?_, ?_⟩ | intro _
    | simp only [go_sem, ↓reduceIte, Nat.reduceAdd, Nat.reduceLeDiff, Nat.reduceEqDiff, Nat.reduceBEq, Nat.reduceBNe, Nat.reduceMul, Nat.reduceLT, reduceCtorEq, Int.reduceLT, Int.reduceLE, Int.reduceToNat, Int.reduceNeg,  cmp_nn]
  all_goals skip
  all_goals skip
theorem c69e {p q : Nat} {S : St} {x y e : Int} (hp : S.get p = some [.int .i64 x]) (hq : S.get q = some [.int .i64 y]) (hpq : p ≠ q) : MCallsD Tryz.prog 69 [.ptr p 0, .ptr q 0] S (some (errA e)) fun o S' => o = .ok (.tup []) ∧ S' = (S.set p [.int .i64 0]).set q [.int .i64 e] := by
  have hq2 : (S.set p [.int .i64 0]).get q = some [.int .i64 y] := by
    show List.lookup q ((p, _) :: S.obj) = _
    rw [lookG, if_neg (Ne.symm hpq)]
    exact hq
  refine MCallsD.of_run is69 (by simp) ?_
  unfold m69
  refine .seq (.rcv ?_)
  simp only [go_sem, ↓reduceIte, Nat.reduceAdd, Nat.reduceLeDiff, Nat.reduceEqDiff, Nat.reduceBEq, Nat.reduceBNe, Nat.reduceMul, Nat.reduceLT, reduceCtorEq, Int.reduceLT, Int.reduceLE, Int.reduceToNat, Int.reduceNeg, Option.getD_some]
  refine mw_sound 200 ?_
  repeat' first
    | with_reducible first | refine mw_as m69.eq_1 ?_ | refine opn m69k0.eq_1 ?_ | refine ⟨?_, ?_⟩ | intro _
    | simp only [go_sem, ↓reduceIte, Nat.reduceAdd, Nat.reduceLeDiff, Nat.reduceEqDiff, Nat.reduceBEq, Nat.reduceBNe, Nat.reduceMul, Nat.reduceLT, reduceCtorEq, Int.reduceLT, Int.reduceLE, Int.reduceToNat, Int.reduceNeg,  hp, hq, hq2, cmp_en, errA]
  all_goals (rename_i h; cases h)
theorem mw_tail {P : Program} {n : Nat} {pl : MPl} {pr kp : List Nat} {D : Dfs} {F : Fr} {S : St} {Q : EndQ} {m : MC} (hm : m = .seq (.any pl pr kp) .ret) (h : plK P (fun o F' S' => match o with | none => MRun P n [.code .ret] D (keepK kp F') S' Q | some _ => False) S (protOf F pr) pl F S) : MRun P n [.code m] D F S Q := by
  subst hm
  exact .seq (.anyQ (Q1 := fun _ _ _ _ => False) (fun _ _ _ _ _ _ h => h) (fun _ _ _ h => h.elim) h)
def rdAt {α : Type} (rd : Rd α) (b : Bytes) (a : Int) : Except Int (α × Bytes) := if a < 0 ∨ (b.length : Int) < a then .error 1 else rd (b.drop a.toNat)
def outR {α : Type} (f : α → AV) (z : AV) (b : Bytes) : Except Int (α × Bytes) → AV
  | .ok (x, r) => .tup [f x, .int .i64 ((b.length - r.length : Nat) : Int), .int .i64 0]
  | .error e => .tup [z, .int .i64 0, .int .i64 e]
def t119 : MC :=
  .seq (.any (.one ⟨0, some 14, none, .k (.mov (.t 8))⟩ false false <|
      .one ⟨1, some 15, none, .k (.mov (.t 7))⟩ false false <|
      .one ⟨2, some 16, none, .k (.nilChk (.t 15))⟩ false false <|
      .one ⟨3, some 17, none, .k (.fadr 1 (.t 16))⟩ false false <|
      .one ⟨4, some 18, none, .k (.load 1 false (.t 17))⟩ false false <|
      .one ⟨5, some 4, none, .k (.mov (.t 14))⟩ false false <|
      .one ⟨6, none, none, .k (.store 1 (.t 5) (.t 18))⟩ false false <|
      .one ⟨7, none, none, .k (.store 1 (.t 6) (.c (.int .i64 0)))⟩ false false <|
      .done) [] [4, 5, 6])
  (.ret)
def n119 : MC :=
  .seq (.reg [⟨0, some 4, none, .k (.mov (.c (.int .u64 0)))⟩,
      ⟨1, some 5, none, .k (.alloc [.int .i64 0])⟩,
      ⟨2, some 6, none, .k (.alloc [.int .i64 0])⟩] [0, 1, 4, 5, 6])
  (.seq (.dfr [] (.f 69) [.t 5, .t 6] [0, 1, 4, 5, 6])
  (.seq (.reg [⟨0, some 9, none, .k (.mov (.t 0))⟩,
      ⟨1, some 10, none, .k (.mov (.t 1))⟩,
      ⟨2, some 11, none, .call (.f 70) [.t 9, .t 10]⟩,
      ⟨3, some 7, none, .k (.mov (.t 11))⟩] [4, 5, 6, 7])
  (.seq (.reg [⟨0, some 12, none, .k (.mov (.t 7))⟩,
      ⟨1, some 13, none, .call (.f 71) [.t 12]⟩,
      ⟨2, some 8, none, .k (.mov (.t 13))⟩] [4, 5, 6, 7, 8])
  (.named [4, 5, 6, 7, 8] t119))))
theorem isn119 : FnIs Tryz.prog 119 19 n119 [.t 4, .c 5 1 false, .c 6 1 false] := .of Tryz.call119 Tryz.func119 (by kernel_rfl)
def t118 : MC :=
  .seq (.any (.one ⟨0, some 16, none, .k (.mov (.t 8))⟩ false false <|
      .one ⟨1, some 17, none, .k (.b2s (.t 16))⟩ false false <|
      .one ⟨2, some 18, none, .k (.mov (.t 7))⟩ false false <|
      .one ⟨3, some 19, none, .k (.nilChk (.t 18))⟩ false false <|
      .one ⟨4, some 20, none, .k (.fadr 1 (.t 19))⟩ false false <|
      .one ⟨5, some 21, none, .k (.load 1 false (.t 20))⟩ false false <|
      .one ⟨6, some 4, none, .k (.mov (.t 17))⟩ false false <|
      .one ⟨7, none, none, .k (.store 1 (.t 5) (.t 21))⟩ false false <|
      .one ⟨8, none, none, .k (.store 1 (.t 6) (.c (.int .i64 0)))⟩ false false <|
      .done) [] [4, 5, 6])
  (.ret)
def n118 : MC :=
  .seq (.reg [⟨0, some 4, none, .k (.mov (.c (.str [])))⟩,
      ⟨1, some 5, none, .k (.alloc [.int .i64 0])⟩,
      ⟨2, some 6, none, .k (.alloc [.int .i64 0])⟩] [0, 1, 4, 5, 6])
  (.seq (.dfr [] (.f 69) [.t 5, .t 6] [0, 1, 4, 5, 6])
  (.seq (.reg [⟨0, some 9, none, .k (.mov (.t 0))⟩,
      ⟨1, some 10, none, .k (.mov (.t 1))⟩,
      ⟨2, some 11, none, .call (.f 70) [.t 9, .t 10]⟩,
      ⟨3, some 7, none, .k (.mov (.t 11))⟩] [4, 5, 6, 7])
  (.seq (.reg [⟨0, some 12, none, .k (.mov (.t 7))⟩,
      ⟨1, some 13, none, .k (.mov (.t 7))⟩,
      ⟨2, some 14, none, .call (.f 71) [.t 13]⟩,
      ⟨3, some 15, none, .call (.f 72) [.t 12, .t 14]⟩,
      ⟨4, some 8, none, .k (.mov (.t 15))⟩] [4, 5, 6, 7, 8])
  (.named [4, 5, 6, 7, 8] t118))))
theorem isn118 : FnIs Tryz.prog 118 22 n118 [.t 4, .c 5 1 false, .c 6 1 false] := .of Tryz.call118 Tryz.func118 (by kernel_rfl)
theorem c119 (hg : GlNR gl) (b : Bytes) (t : STok) (a : Int) (hb : b.length < 4294967296) : Pure Tryz.prog gl 119 [.sl 1 (b.map byteAV) t, .int .i64 a] (.ok (outR (fun k : Nat => .int .u64 k) (.int .u64 0) b (rdAt rdU b a))) := by
  refine ⟨?_, by simp only [List.map_cons, List.map_nil, fg_int, fg_str, fg_bool, fg_nilp, fg_nili, fg_fn, fg_sl, fg_agg, fg_tup, fg_lab, fg_val, fg_exa, fg_dset, fg_req, fg_bytes, fg_ints, fg_strs, fg_vals, fg_labs, fg_exas, noRef_ok, noRef_pan, List.mem_cons, List.not_mem_nil, or_false, forall_eq_or_imp, forall_eq, and_self, and_true, true_and, implies_true, NoRef.bool_eq, NoRef.int_eq, NoRef.str_eq, NoRef.nilp_eq, NoRef.nili_eq, NoRef.nilf_eq, NoRef.agg_eq, NoRef.tup_eq, NoRef.ifc_eq, NoRef.fn_nil, NoRef.fn_eq, nr_lab, nr_val, nr_exa, nr_dset, nr_req, nr_byte, nr_bytes, nr_strs, nr_vals, nr_labs, nr_exas, nr_ints], by simp only [noRef_ok, noRef_pan, List.mem_cons, List.not_mem_nil, or_false, forall_eq_or_imp, forall_eq, and_self, and_true, true_and, implies_true, NoRef.bool_eq, NoRef.int_eq, NoRef.str_eq, NoRef.nilp_eq, NoRef.nili_eq, NoRef.nilf_eq, NoRef.agg_eq, NoRef.tup_eq, NoRef.ifc_eq, NoRef.fn_nil, NoRef.fn_eq, nr_lab, nr_val, nr_exa, nr_dset, nr_req, nr_byte, nr_bytes, nr_strs, nr_vals, nr_labs, nr_exas, nr_ints]; unfold outR; split <;> simp only [noRef_ok, noRef_pan, List.mem_cons, List.not_mem_nil, or_false, forall_eq_or_imp, forall_eq, and_self, and_true, true_and, implies_true, NoRef.bool_eq, NoRef.int_eq, NoRef.str_eq, NoRef.nilp_eq, NoRef.nili_eq, NoRef.nilf_eq, NoRef.agg_eq, NoRef.tup_eq, NoRef.ifc_eq, NoRef.fn_nil, NoRef.fn_eq, nr_lab, nr_val, nr_exa, nr_dset, nr_req, nr_byte, nr_bytes, nr_strs, nr_vals, nr_labs, nr_exas, nr_ints]⟩
  simp only [List.map_cons, List.map_nil, fg_int, fg_str, fg_bool, fg_nilp, fg_nili, fg_fn, fg_sl, fg_agg, fg_tup, fg_lab, fg_val, fg_exa, fg_dset, fg_req, fg_bytes, fg_ints, fg_strs, fg_vals, fg_labs, fg_exas]
  refine .of_runD isn119 (by simp) (mw_sound 200 ?_)
  by_cases ha : a < 0 ∨ (b.length : Int) < a
  · have hR : rdAt rdU b a = .error 1 := by unfold rdAt; rw [if_pos ha]
    rw [hR]
    have h70 := fun n nt live ob => c70p (gl := gl) (n := n) (nt := nt) (live := live) (ob := ob) b .unk a ha
    repeat' first
      | with_reducible first | refine mw_as n119.eq_1 ?_ | refine CallK.effPan (h70 _ _ _ _) ?_ | refine PCallK.effPan (h70 _ _ _ _) ?_ | refine ⟨?_, ?_⟩ | intro _
      | simp only [go_sem, ↓reduceIte, Nat.reduceAdd, Nat.reduceLeDiff, Nat.reduceEqDiff, Nat.reduceBEq, Nat.reduceBNe, Nat.reduceMul, Nat.reduceLT, reduceCtorEq, Int.reduceLT, Int.reduceLE, Int.reduceToNat, Int.reduceNeg]
    exact ⟨69, rfl, Tryz.call69, (c69e (x := 0) (y := 0) rfl rfl (by decide)).mono fun o S' h => by obtain ⟨rfl, rfl⟩ := h; rfl⟩
  · have hR : rdAt rdU b a = rdU (b.drop a.toNat) := by unfold rdAt; rw [if_neg ha]
    rw [hR]
    obtain ⟨m, rfl⟩ : ∃ m : Nat, a = m := ⟨a.toNat, by omega⟩
    have h70 := fun n nt live ob => c70 (gl := gl) (n := n) (nt := nt) (live := live) (ob := ob) b .unk m (by omega)
    have h71 := c71 (gl := gl) hg (n := 3) (nt := 0) (live := []) (l := 2) (ob := [(1, [.int .i64 0]), (0, [.int .i64 0])]) rfl b .unk m (by omega) hb
    rw [Int.toNat_natCast]
    generalize rdU (b.drop m) = R at h71 ⊢
    cases R with
    | error e =>
      repeat' first
        | with_reducible first | refine mw_as n119.eq_1 ?_ | refine CallK.eff (h70 _ _ _ _) ?_ | refine CallK.effPan (h71) ?_ | refine PCallK.effPan (h71) ?_ | refine ⟨?_, ?_⟩ | intro _
        | simp only [go_sem, ↓reduceIte, Nat.reduceAdd, Nat.reduceLeDiff, Nat.reduceEqDiff, Nat.reduceBEq, Nat.reduceBNe, Nat.reduceMul, Nat.reduceLT, reduceCtorEq, Int.reduceLT, Int.reduceLE, Int.reduceToNat, Int.reduceNeg]
      exact ⟨69, rfl, Tryz.call69, (c69e (x := 0) (y := 0) rfl rfl (by decide)).mono fun o S' h => by obtain ⟨rfl, rfl⟩ := h; rfl⟩
    | ok x =>
      repeat' first
        | with_reducible first | refine mw_as n119.eq_1 ?_ | refine CallK.eff (h70 _ _ _ _) ?_ | refine CallK.eff (h71) ?_ | refine ⟨?_, ?_⟩ | intro _
        | simp only [go_sem, ↓reduceIte, Nat.reduceAdd, Nat.reduceLeDiff, Nat.reduceEqDiff, Nat.reduceBEq, Nat.reduceBNe, Nat.reduceMul, Nat.reduceLT, reduceCtorEq, Int.reduceLT, Int.reduceLE, Int.reduceToNat, Int.reduceNeg]
      refine mw_tail t119.eq_1 ?_
      simp only [go_sem, ↓reduceIte, Nat.reduceAdd, Nat.reduceLeDiff, Nat.reduceEqDiff, Nat.reduceBEq, Nat.reduceBNe, Nat.reduceMul, Nat.reduceLT, reduceCtorEq, Int.reduceLT, Int.reduceLE, Int.reduceToNat, Int.reduceNeg]
      refine MRun.ret ?_
      exact ⟨69, rfl, Tryz.call69, c69n.mono fun o S' h => by obtain ⟨rfl, rfl⟩ := h; rfl⟩
theorem rdU_rest {b r : Bytes} {m k : Nat} (hm : m ≤ b.length) (h : rdU (b.drop m) = .ok (k, r)) : k < 18446744073709551616 ∧ r.length ≤ b.length - m ∧ b.drop (b.length - r.length) = r := by
  obtain ⟨h1, h2⟩ := codec_U.bwd _ _ _ h
  have h3 : r <:+ b := ⟨b.take m ++ uvar k, by rw [List.append_assoc, ← h2, List.take_append_drop]⟩
  have h4 := congrArg List.length h2
  rw [List.length_drop, List.length_append] at h4
  exact ⟨h1, by omega, (List.suffix_iff_eq_drop.1 h3).symm⟩
theorem c118 (hg : GlNR gl) (b : Bytes) (t : STok) (a : Int) (hb : b.length < 4294967296) : Pure Tryz.prog gl 118 [.sl 1 (b.map byteAV) t, .int .i64 a] (.ok (outR AV.str (.str []) b (rdAt rdT b a))) := by
  refine ⟨?_, by simp only [List.map_cons, List.map_nil, fg_int, fg_str, fg_bool, fg_nilp, fg_nili, fg_fn, fg_sl, fg_agg, fg_tup, fg_lab, fg_val, fg_exa, fg_dset, fg_req, fg_bytes, fg_ints, fg_strs, fg_vals, fg_labs, fg_exas, noRef_ok, noRef_pan, List.mem_cons, List.not_mem_nil, or_false, forall_eq_or_imp, forall_eq, and_self, and_true, true_and, implies_true, NoRef.bool_eq, NoRef.int_eq, NoRef.str_eq, NoRef.nilp_eq, NoRef.nili_eq, NoRef.nilf_eq, NoRef.agg_eq, NoRef.tup_eq, NoRef.ifc_eq, NoRef.fn_nil, NoRef.fn_eq, nr_lab, nr_val, nr_exa, nr_dset, nr_req, nr_byte, nr_bytes, nr_strs, nr_vals, nr_labs, nr_exas, nr_ints], by simp only [noRef_ok, noRef_pan, List.mem_cons, List.not_mem_nil, or_false, forall_eq_or_imp, forall_eq, and_self, and_true, true_and, implies_true, NoRef.bool_eq, NoRef.int_eq, NoRef.str_eq, NoRef.nilp_eq, NoRef.nili_eq, NoRef.nilf_eq, NoRef.agg_eq, NoRef.tup_eq, NoRef.ifc_eq, NoRef.fn_nil, NoRef.fn_eq, nr_lab, nr_val, nr_exa, nr_dset, nr_req, nr_byte, nr_bytes, nr_strs, nr_vals, nr_labs, nr_exas, nr_ints]; unfold outR; split <;> simp only [noRef_ok, noRef_pan, List.mem_cons, List.not_mem_nil, or_false, forall_eq_or_imp, forall_eq, and_self, and_true, true_and, implies_true, NoRef.bool_eq, NoRef.int_eq, NoRef.str_eq, NoRef.nilp_eq, NoRef.nili_eq, NoRef.nilf_eq, NoRef.agg_eq, NoRef.tup_eq, NoRef.ifc_eq, NoRef.fn_nil, NoRef.fn_eq, nr_lab, nr_val, nr_exa, nr_dset, nr_req, nr_byte, nr_bytes, nr_strs, nr_vals, nr_labs, nr_exas, nr_ints]⟩
  simp only [List.map_cons, List.map_nil, fg_int, fg_str, fg_bool, fg_nilp, fg_nili, fg_fn, fg_sl, fg_agg, fg_tup, fg_lab, fg_val, fg_exa, fg_dset, fg_req, fg_bytes, fg_ints, fg_strs, fg_vals, fg_labs, fg_exas]
  refine .of_runD isn118 (by simp) (mw_sound 200 ?_)
  by_cases ha : a < 0 ∨ (b.length : Int) < a
  · have hR : rdAt rdT b a = .error 1 := by unfold rdAt; rw [if_pos ha]
    rw [hR]
    have h70 := fun n nt live ob => c70p (gl := gl) (n := n) (nt := nt) (live := live) (ob := ob) b .unk a ha
    repeat' first
      | with_reducible first | refine mw_as n118.eq_1 ?_ | refine CallK.effPan (h70 _ _ _ _) ?_ | refine PCallK.effPan (h70 _ _ _ _) ?_ | refine ⟨?_, ?_⟩ | intro _
      | simp only [go_sem, ↓reduceIte, Nat.reduceAdd, Nat.reduceLeDiff, Nat.reduceEqDiff, Nat.reduceBEq, Nat.reduceBNe, Nat.reduceMul, Nat.reduceLT, reduceCtorEq, Int.reduceLT, Int.reduceLE, Int.reduceToNat, Int.reduceNeg]
    exact ⟨69, rfl, Tryz.call69, (c69e (x := 0) (y := 0) rfl rfl (by decide)).mono fun o S' h => by obtain ⟨rfl, rfl⟩ := h; rfl⟩
  · have hR : rdAt rdT b a = rdT (b.drop a.toNat) := by unfold rdAt; rw [if_neg ha]
    rw [hR]
    obtain ⟨m, rfl⟩ : ∃ m : Nat, a = m := ⟨a.toNat, by omega⟩
    have h70 := fun n nt live ob => c70 (gl := gl) (n := n) (nt := nt) (live := live) (ob := ob) b .unk m (by omega)
    have h71 := c71 (gl := gl) hg (n := 3) (nt := 0) (live := []) (l := 2) (ob := [(1, [.int .i64 0]), (0, [.int .i64 0])]) rfl b .unk m (by omega) hb
    rw [Int.toNat_natCast]
    unfold rdT Rd.bind
    cases hU : rdU (b.drop m) with
    | error e =>
      rw [hU] at h71
      repeat' first
        | with_reducible first | refine mw_as n118.eq_1 ?_ | refine CallK.eff (h70 _ _ _ _) ?_ | refine CallK.effPan (h71) ?_ | refine PCallK.effPan (h71) ?_ | refine ⟨?_, ?_⟩ | intro _
        | simp only [go_sem, ↓reduceIte, Nat.reduceAdd, Nat.reduceLeDiff, Nat.reduceEqDiff, Nat.reduceBEq, Nat.reduceBNe, Nat.reduceMul, Nat.reduceLT, reduceCtorEq, Int.reduceLT, Int.reduceLE, Int.reduceToNat, Int.reduceNeg]
      exact ⟨69, rfl, Tryz.call69, (c69e (x := 0) (y := 0) rfl rfl (by decide)).mono fun o S' h => by obtain ⟨rfl, rfl⟩ := h; rfl⟩
    | ok x =>
      obtain ⟨k, r⟩ := x
      obtain ⟨hk, hr, hd⟩ := rdU_rest (by omega) hU
      rw [hU] at h71
      simp only at h71 ⊢
      unfold rdTake
      by_cases hkr : r.length < k
      · rw [if_pos hkr]
        have h72 := c72p (gl := gl) (n := 3) (nt := 0) (live := []) (l := 2) (ob := [(1, [.int .i64 0]), (0, [.int .i64 0])]) b .unk (b.length - r.length) k (by omega) (by omega) hk hb
        repeat' first
          | with_reducible first | refine mw_as n118.eq_1 ?_ | refine CallK.eff (h70 _ _ _ _) ?_ | refine CallK.eff (h71) ?_ | refine CallK.effPan (h72) ?_ | refine PCallK.effPan (h72) ?_ | refine ⟨?_, ?_⟩ | intro _
          | simp only [go_sem, ↓reduceIte, Nat.reduceAdd, Nat.reduceLeDiff, Nat.reduceEqDiff, Nat.reduceBEq, Nat.reduceBNe, Nat.reduceMul, Nat.reduceLT, reduceCtorEq, Int.reduceLT, Int.reduceLE, Int.reduceToNat, Int.reduceNeg]
        exact ⟨69, rfl, Tryz.call69, (c69e (x := 0) (y := 0) rfl rfl (by decide)).mono fun o S' h => by obtain ⟨rfl, rfl⟩ := h; rfl⟩
      · rw [if_neg hkr]
        have h72 := c72 (gl := gl) (n := 3) (nt := 0) (live := []) (l := 2) (ob := [(1, [.int .i64 0]), (0, [.int .i64 0])]) b .unk (b.length - r.length) k (by omega) hb
        rw [hd] at h72
        repeat' first
          | with_reducible first | refine mw_as n118.eq_1 ?_ | refine CallK.eff (h70 _ _ _ _) ?_ | refine CallK.eff (h71) ?_ | refine CallK.eff (h72) ?_ | refine ⟨?_, ?_⟩ | intro _
          | simp only [go_sem, ↓reduceIte, Nat.reduceAdd, Nat.reduceLeDiff, Nat.reduceEqDiff, Nat.reduceBEq, Nat.reduceBNe, Nat.reduceMul, Nat.reduceLT, reduceCtorEq, Int.reduceLT, Int.reduceLE, Int.reduceToNat, Int.reduceNeg]
        refine mw_tail t118.eq_1 ?_
        simp only [go_sem, ↓reduceIte, Nat.reduceAdd, Nat.reduceLeDiff, Nat.reduceEqDiff, Nat.reduceBEq, Nat.reduceBNe, Nat.reduceMul, Nat.reduceLT, reduceCtorEq, Int.reduceLT, Int.reduceLE, Int.reduceToNat, Int.reduceNeg, strOf_bytes]
        refine MRun.ret ?_
        refine ⟨69, rfl, Tryz.call69, c69n.mono fun o S' h => ?_⟩
        obtain ⟨rfl, rfl⟩ := h
        have e : b.length - r.length + k = b.length - (r.drop k).length := by rw [List.length_drop]; omega
        rw [e]
        rfl
end Go.Proofs.YtdjdhecanjmchaaGreatDoor
