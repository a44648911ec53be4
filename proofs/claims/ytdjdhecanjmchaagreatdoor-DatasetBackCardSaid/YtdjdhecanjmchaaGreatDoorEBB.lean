/- Contract: the law that datasets are decoded from their encodings, and from nothing else. -/
import Derived.Test.YtdjdhecanjmchaaGreatDoorFaB
import Derived.Test.YtdjdhecanjmchaaGreatDoorFbB
import Derived.Test.YtdjdhecanjmchaaGreatDoorFcB
import Derived.Test.YtdjdhecanjmchaaGreatDoorHaB
import Derived.Test.YtdjdhecanjmchaaGreatDoorE4B
import Derived.Test.YtdjdhecanjmchaaGreatDoorEAB
set_option linter.unusedSimpArgs false
set_option linter.unusedVariables false
namespace Go.Proofs.YtdjdhecanjmchaaGreatDoor
open Go Go.V Go.Lib
set_option maxRecDepth 40000
attribute [local go_sem ↓] mw_nil mw_inBlock mw_inLoop mw_skip mw_seq mw_block mw_exit mw_ret mw_named mw_loop mw_cond mw_reg mw_any mw_dfr KW_none KW_some KD_none KD_some mexit_inBlock mexit_code mexit_inLoop moK_nil moK_k moK_panic moK_call moK_guard plK_done plK_k plK_call plK_guard plK_two shel_load protOf_nil protOf_cons putF_some putF_none lookup_if get_if set_eq Fr.get_cons keepK Opd.ev MK.ev MK.ob
attribute [local go_sem high] cdK_true cdK_false gdK_tt gdK_ff gdK_tf gdK_ft gdK_tup pgdK_tt pgdK_ff pgdK_tf pgdK_ft pgdK_tup dfK_fn evK_some pevK_some clK_fn pclK_fn pnK_ifc exK_some
attribute [local go_sem] InvS_refl InvS_nil InvS_cons QPin_endQ List.mem_cons List.not_mem_nil or_true true_or or_false false_or List.lookup_nil List.map_cons List.map_nil Option.map_some Option.map_none Option.bind_some Option.bind_none List.nil_append List.append_nil List.cons_append binEv binOb intOp strOp unEv eqvEv eqCells eqCell isBld_nil isBld_two isBld_bool isBld_int isBld_str isBld_nilp isBld_ptr isBld_gp isBld_eptr isBld_sl isBld_fn isBld_nilf isBld_ifc isBld_nili isBld_agg isBld_bld noBld tasEv AV.there AV.plus pickCells storeEv AV.solid AV.cells splice putParts rowOK fldEv iarrEv extEv minEv nonNil lenEv isStr appEv appOb appArg able_exact able_use slVecEv slVecOb slStrEv slStrOb bnd ne_1 ne_2 ne_3 ne_4 ne_1' ne_2' ne_3' ne_4' List.getElem?_map argF endQ rvsEv rvEv resOf St.none List.length_cons List.length_nil List.take_succ_cons List.take_zero List.drop_succ_cons List.drop_zero List.getElem?_cons_zero List.getElem?_cons_succ List.all_cons List.all_nil if_true if_false ite_self decide_true decide_false Bool.and_true Bool.true_and Bool.and_false Bool.false_and Bool.not_true Bool.not_false beq_self_eq_true bne_self_eq_false Nat.zero_add Nat.add_zero Bool.false_eq_true Bool.true_eq_false eq_self ne_eq not_true_eq_false not_false_eq_true true_and and_true and_self false_and and_false true_implies false_implies implies_true forall_const Nat.zero_le Nat.le_refl Option.isNone_none Option.isNone_some Option.isSome_some Option.isSome_none Nat.succ_ne_self Int.toNat_natCast Int.toNat_zero List.length_map List.take_length Out.ok.injEq AV.int.injEq AV.bool.injEq AV.str.injEq AV.tup.injEq Lab.av Val.av Exa.av Dset.av Req.av AV.agg.injEq List.cons.injEq ge_iff_le gt_iff_lt Int.natCast_nonneg Bool.not_eq_true Bool.not_eq_false cond_or cond_and cond_tl cond_fr cond_fl cond_tr merge_sameT merge_sameF mergeT0 mergeF0 mergeT1 mergeF1 mergeT2 mergeF2 mergeT3 mergeF3 mergeT4 mergeF4 mergeT5 mergeF5 mergeT6 mergeF6 mergeT7 mergeF7 mergeT8 mergeF8 mergeT9 mergeF9 cdK_bool gdK_bool pgdK_bool
variable {gl : List (Nat × List AV)}
def NoZ {α : Type} (rd : Rd α) : Prop := ∀ s e, rd s = .error e → e ≠ 0
theorem NoZ.map {α β : Type} {rd : Rd α} (h : NoZ rd) (f : α → β) : NoZ (rd.map f) := by
  intro s e he
  unfold Rd.map at he
  split at he
  · injection he with he; subst he; rename_i e h1; exact h _ _ h1
  · cases he
theorem NoZ.pair {α β : Type} {rd : Rd α} (h : NoZ rd) {f : α → Rd β} (h2 : ∀ a, NoZ (f a)) : NoZ (rd.pair f) := by
  intro s e he
  unfold Rd.pair Rd.bind at he
  split at he
  · injection he with he; subst he; rename_i e h1; exact h _ _ h1
  · exact (h2 _).map _ _ _ he
theorem NoZ.only {α : Type} {rd : Rd α} (h : NoZ rd) (p : α → Bool) {k : Int} (hk : k ≠ 0) : NoZ (rd.only p k) := by
  intro s e he
  unfold Rd.only at he
  split at he
  · injection he with he; subst he; rename_i e h1; exact h _ _ h1
  · split at he
    · cases he
    · injection he with he; subst he; exact hk
theorem NoZ.rep {α : Type} {rd : Rd α} (h : NoZ rd) : ∀ n, NoZ (rd.rep n)
  | 0 => fun s e he => by cases he
  | n + 1 => fun s e he => by
    rw [rep_succ] at he
    split at he
    · injection he with he; subst he; rename_i e h1; exact h _ _ h1
    · split at he
      · injection he with he; subst he; rename_i e h1; exact NoZ.rep h n _ _ h1
      · cases he
theorem NoZ.inF {α : Type} {rd : Rd α} (h : NoZ rd) : NoZ (rdIn rd) := by
  intro s e he
  unfold rdIn at he
  split at he
  · injection he with he; subst he; rename_i e h1; exact rdF_err h1
  · split at he
    · injection he with he; subst he; rename_i e h1; exact h _ _ h1
    · cases he
    · injection he with he; subst he; decide
theorem noz_T : NoZ rdT := fun s e h => by rcases rdT_err h with rfl | rfl <;> decide
theorem noz_I : NoZ rdI := fun s e h => by rcases rdI_err h with rfl | rfl <;> decide
theorem noz_U : NoZ rdU := fun s e h => by rcases rdN_err _ _ _ _ _ h with rfl | rfl <;> decide
theorem noz_V : NoZ rdV := fun s e h => rdV_err h
theorem dec_err {b : Bytes} {e : Int} (h : decB b = .error e) : e ≠ 0 := by
  have hd : NoZ rdDset := by
    refine NoZ.map (NoZ.pair (NoZ.inF ?_) fun _ => NoZ.rep (NoZ.inF ?_) _) _
    · exact noz_T.pair fun _ => (noz_U.only _ (by decide)).pair fun _ => (noz_T.rep _).pair fun _ => noz_U.only _ (by decide)
    · exact (noz_T.pair fun _ => noz_I.pair fun _ => noz_I.pair fun _ => noz_V.rep _).map _
  unfold decB at h
  split at h
  · injection h with h; subst h; rename_i e h1; exact hd _ _ h1
  · split at h
    · cases h
    · injection h with h; subst h; decide
  · injection h with h; subst h; decide
theorem form_small {d : Dset} (h : formB d = true) : SmallD d := by
  simp only [formB, Bool.and_eq_true, decide_eq_true_eq] at h
  obtain ⟨h1, h2, h3, h4, h5, h6⟩ := h
  have h7 := name_len h1
  have h8 := featsF_mem d.fs d.fs 0 h5
  have h9 := exsB_all _ _ _ h6
  refine ⟨by omega, by omega, fun f hf => by have := name_len (h8 f hf); omega, by omega, fun x hx => ?_, fun x hx => by have := (h9 x hx).2.1; omega, fun x hx v hv => ?_⟩
  · have h10 := (h9 x hx).1
    simp only [labB, keyR, Bool.and_eq_true, decide_eq_true_eq] at h10
    have := h10.1.2.2
    omega
  · rcases chk_kinds ((h9 x hx).2.2 v hv) with (h9 | h9) | h9 | h9
    · rw [h9.2.2]; simp
    · rw [h9.2.2]; simp
    · rw [h9.2.1]; simp
    · omega
theorem encB_len {d : Dset} (h : formB d = true) : (encB d).length ≤ 5000000 := by
  obtain ⟨⟨_, hhl⟩, hll⟩ := formB_ok h
  have hx8 := (formF h).xs
  have h2 := flat_len (fun x => frameE (lineE x)) 8206 d.xs fun x hx => by
    have h3 := (hll x hx).2
    have h4 := uvar_le (lineE x).length
    simp only [frameE, List.length_append, sumB_len]
    omega
  have h5 : d.xs.length * 8206 ≤ 256 * 8206 := Nat.mul_le_mul_right _ hx8
  have h6 := uvar_le (headE (hd d)).length
  simp only [encB, frameE, List.length_append, sumB_len] at h2 ⊢
  omega
abbrev zD : Dset := ⟨[], [], []⟩
set_option maxHeartbeats 4000000 in
theorem c5 (hg : GlNR gl) {m0 : Int} (hm0 : gl.lookup 1 = some [.int .i64 m0]) (h11 : Pure Tryz.prog gl 11 [] (.ok (.bool true))) (d : Dset) (b : Bytes) (n : Int) : Pure Tryz.prog gl 5 [d.av, .sl 1 (b.map byteAV) .unk, .int .i64 n] (.ok (.bool true)) := by
  refine ⟨?_, by simp only [List.map_cons, List.map_nil, fg_int, fg_str, fg_bool, fg_nilp, fg_nili, fg_fn, fg_sl, fg_agg, fg_tup, fg_lab, fg_val, fg_exa, fg_dset, fg_req, fg_bytes, fg_ints, fg_strs, fg_vals, fg_labs, fg_exas, noRef_ok, noRef_pan, List.mem_cons, List.not_mem_nil, or_false, forall_eq_or_imp, forall_eq, and_self, and_true, true_and, implies_true, NoRef.bool_eq, NoRef.int_eq, NoRef.str_eq, NoRef.nilp_eq, NoRef.nili_eq, NoRef.nilf_eq, NoRef.agg_eq, NoRef.tup_eq, NoRef.ifc_eq, NoRef.fn_nil, NoRef.fn_eq, nr_lab, nr_val, nr_exa, nr_dset, nr_req, nr_byte, nr_bytes, nr_strs, nr_vals, nr_labs, nr_exas, nr_ints], by simp only [noRef_ok, noRef_pan, List.mem_cons, List.not_mem_nil, or_false, forall_eq_or_imp, forall_eq, and_self, and_true, true_and, implies_true, NoRef.bool_eq, NoRef.int_eq, NoRef.str_eq, NoRef.nilp_eq, NoRef.nili_eq, NoRef.nilf_eq, NoRef.agg_eq, NoRef.tup_eq, NoRef.ifc_eq, NoRef.fn_nil, NoRef.fn_eq, nr_lab, nr_val, nr_exa, nr_dset, nr_req, nr_byte, nr_bytes, nr_strs, nr_vals, nr_labs, nr_exas, nr_ints]⟩
  simp only [List.map_cons, List.map_nil, fg_int, fg_str, fg_bool, fg_nilp, fg_nili, fg_fn, fg_sl, fg_agg, fg_tup, fg_lab, fg_val, fg_exa, fg_dset, fg_req, fg_bytes, fg_ints, fg_strs, fg_vals, fg_labs, fg_exas]
  refine .of_run is5 (by simp) (mw_sound 200 ?_)
  by_cases hd : fewD d = true
  rotate_left
  · rw [Bool.not_eq_true] at hd
    repeat' first
      | with_reducible first | refine mw_as m5.eq_1 ?_ | refine opn m5k0.eq_1 ?_ | refine opn m5k1.eq_1 ?_ | refine opn m5k2.eq_1 ?_ | refine opn m5k3.eq_1 ?_ | refine opn m5k5.eq_1 ?_ | refine CallK.pure (h11) hg rfl ?_ | refine PCallK.pure (h11) hg rfl (fun _ => by first | exact of_eq_true InvS_refl | simp only [InvS_nil, InvS_cons, get_if, InvS_refl, and_self]) ?_ | refine CallK.pure (c13 hg d) hg rfl ?_ | refine PCallK.pure (c13 hg d) hg rfl (fun _ => by first | exact of_eq_true InvS_refl | simp only [InvS_nil, InvS_cons, get_if, InvS_refl, and_self]) ?_ | refine ⟨?_, ?_⟩ | intro _
      | simp only [go_sem, ↓reduceIte, Nat.reduceAdd, Nat.reduceLeDiff, Nat.reduceEqDiff, Nat.reduceBEq, Nat.reduceBNe, Nat.reduceMul, Nat.reduceLT, reduceCtorEq, Int.reduceLT, Int.reduceLE, Int.reduceToNat, Int.reduceNeg,  hd]
  by_cases hb : b.length ≤ 20000
  rotate_left
  · have hl : decide ((20000 : Int) < b.length) = true := decide_eq_true (by omega)
    repeat' first
      | with_reducible first | refine mw_as m5.eq_1 ?_ | refine opn m5k0.eq_1 ?_ | refine opn m5k1.eq_1 ?_ | refine opn m5k2.eq_1 ?_ | refine opn m5k3.eq_1 ?_ | refine opn m5k5.eq_1 ?_ | refine CallK.pure (h11) hg rfl ?_ | refine PCallK.pure (h11) hg rfl (fun _ => by first | exact of_eq_true InvS_refl | simp only [InvS_nil, InvS_cons, get_if, InvS_refl, and_self]) ?_ | refine CallK.pure (c13 hg d) hg rfl ?_ | refine PCallK.pure (c13 hg d) hg rfl (fun _ => by first | exact of_eq_true InvS_refl | simp only [InvS_nil, InvS_cons, get_if, InvS_refl, and_self]) ?_ | refine ⟨?_, ?_⟩ | intro _
      | simp only [go_sem, ↓reduceIte, Nat.reduceAdd, Nat.reduceLeDiff, Nat.reduceEqDiff, Nat.reduceBEq, Nat.reduceBNe, Nat.reduceMul, Nat.reduceLT, reduceCtorEq, Int.reduceLT, Int.reduceLE, Int.reduceToNat, Int.reduceNeg,  hd, hl]
  have hl : decide ((20000 : Int) < b.length) = false := decide_eq_false (by omega)
  have hs := fewD_small hd
  have h22 := c22 hg d hs
  have key : ∀ (m t : Nat) (ob : List (Nat × List AV)) (live : List Nat), MRun Tryz.prog 92 [MI.code m5k4] [] [(1, AV.sl 1 (b.map byteAV) .unk)] ⟨m, ob, t, live, gl⟩ (endQ [RV.t 6] fun o' _ => o' = .ok (.bool true)) := by
    intro m t ob live
    refine MRun.forget ?_
    have h24 := c24 hg hm0 b .unk (by omega)
    cases hD : decB b with
    | error e =>
      rw [hD] at h24
      simp only [decAV] at h24
      have hne := neI (dec_err hD)
      have h16 := c16 hg zD zD (by simp) (by simp) (by simp)
      refine opn m5k4.eq_1 ?_
      repeat' first
        | with_reducible first | refine mw_as m5.eq_1 ?_ | refine opn m5k0.eq_1 ?_ | refine opn m5k1.eq_1 ?_ | refine opn m5k2.eq_1 ?_ | refine opn m5k3.eq_1 ?_ | refine opn m5k5.eq_1 ?_ | refine CallK.pure (h24) hg rfl ?_ | refine PCallK.pure (h24) hg rfl (fun _ => by first | exact of_eq_true InvS_refl | simp only [InvS_nil, InvS_cons, get_if, InvS_refl, and_self]) ?_ | refine CallK.pure (Pure.conv (h16) (by simp only [List.map_cons, List.map_nil, fg_int, fg_str, fg_bool, fg_nilp, fg_nili, fg_fn, fg_sl, fg_agg, fg_tup, fg_lab, fg_val, fg_exa, fg_dset, fg_req, fg_bytes, fg_ints, fg_strs, fg_vals, fg_labs, fg_exas])) hg rfl ?_ | refine PCallK.pure (Pure.conv (h16) (by simp only [List.map_cons, List.map_nil, fg_int, fg_str, fg_bool, fg_nilp, fg_nili, fg_fn, fg_sl, fg_agg, fg_tup, fg_lab, fg_val, fg_exa, fg_dset, fg_req, fg_bytes, fg_ints, fg_strs, fg_vals, fg_labs, fg_exas])) hg rfl (fun _ => by first | exact of_eq_true InvS_refl | simp only [InvS_nil, InvS_cons, get_if, InvS_refl, and_self]) ?_ | refine ⟨?_, ?_⟩ | intro _
        | simp only [go_sem, ↓reduceIte, Nat.reduceAdd, Nat.reduceLeDiff, Nat.reduceEqDiff, Nat.reduceBEq, Nat.reduceBNe, Nat.reduceMul, Nat.reduceLT, reduceCtorEq, Int.reduceLT, Int.reduceLE, Int.reduceToNat, Int.reduceNeg,  hne]
    | ok x =>
      obtain ⟨hf, he⟩ := enc_dec hD
      rw [hD] at h24
      simp only [decAV] at h24
      have h23 := c23 hg hm0 x (form_small hf)
      have hE : encAV x = .tup [.sl 1 (b.map byteAV) .unk, .int .i64 0] := by simp only [encAV, encL, encE, hf, if_true, he]
      rw [hE] at h23
      refine opn m5k4.eq_1 ?_
      have h0 : ((0 : Int) != 0) = false := rfl
      have h00 : ((0 : Int) == 0) = true := rfl
      repeat' first
        | with_reducible first | refine mw_as m5.eq_1 ?_ | refine opn m5k0.eq_1 ?_ | refine opn m5k1.eq_1 ?_ | refine opn m5k2.eq_1 ?_ | refine opn m5k3.eq_1 ?_ | refine opn m5k5.eq_1 ?_ | refine CallK.pure (h24) hg rfl ?_ | refine PCallK.pure (h24) hg rfl (fun _ => by first | exact of_eq_true InvS_refl | simp only [InvS_nil, InvS_cons, get_if, InvS_refl, and_self]) ?_ | refine CallK.pure (h23) hg rfl ?_ | refine PCallK.pure (h23) hg rfl (fun _ => by first | exact of_eq_true InvS_refl | simp only [InvS_nil, InvS_cons, get_if, InvS_refl, and_self]) ?_ | refine ⟨?_, ?_⟩ | intro _
        | simp only [go_sem, ↓reduceIte, Nat.reduceAdd, Nat.reduceLeDiff, Nat.reduceEqDiff, Nat.reduceBEq, Nat.reduceBNe, Nat.reduceMul, Nat.reduceLT, reduceCtorEq, Int.reduceLT, Int.reduceLE, Int.reduceToNat, Int.reduceNeg,  h0, h00, strOf_bytes]
  by_cases hf : formB d = true
  · rw [hf] at h22
    have h23 := c23 hg hm0 d hs
    have hE : encAV d = .tup [.sl 1 ((encB d).map byteAV) .unk, .int .i64 0] := by simp only [encAV, encL, encE, hf, if_true]
    rw [hE] at h23
    have hel := encB_len hf
    have h24 := c24 hg hm0 (encB d) .unk (by omega)
    rw [dec_enc hf] at h24
    simp only [decAV] at h24
    have hfs := hs.fs
    have hxs := hs.xs
    have h16 := c16 hg d d (by omega) (by omega) (fun x hx => by have := hs.vs x hx; omega)
    rw [beq_self_eq_true] at h16
    have h0 : ((0 : Int) != 0) = false := rfl
    by_cases hn : 0 ≤ n
    · have g1 : decide (0 ≤ n) = true := decide_eq_true hn
      obtain ⟨k, rfl⟩ : ∃ k : Nat, n = k := ⟨n.toNat, by omega⟩
      by_cases hk : k < (encB d).length
      · have g2 : decide ((k : Int) < ((encB d).length : Int)) = true := decide_eq_true (by omega)
        have h24n := c24 hg hm0 ((encB d).take k) .unk (by rw [List.length_take]; omega)
        rw [dec_cut hf hk] at h24n
        simp only [decAV] at h24n
        have h41 : ((41 : Int) != 41) = false := rfl
        repeat' first
          | with_reducible first | refine mw_as m5.eq_1 ?_ | refine opn m5k0.eq_1 ?_ | refine opn m5k1.eq_1 ?_ | refine opn m5k2.eq_1 ?_ | refine opn m5k3.eq_1 ?_ | refine opn m5k5.eq_1 ?_ | refine CallK.pure (h11) hg rfl ?_ | refine PCallK.pure (h11) hg rfl (fun _ => by first | exact of_eq_true InvS_refl | simp only [InvS_nil, InvS_cons, get_if, InvS_refl, and_self]) ?_ | refine CallK.pure (c13 hg d) hg rfl ?_ | refine PCallK.pure (c13 hg d) hg rfl (fun _ => by first | exact of_eq_true InvS_refl | simp only [InvS_nil, InvS_cons, get_if, InvS_refl, and_self]) ?_ | refine CallK.pure (h22) hg rfl ?_ | refine PCallK.pure (h22) hg rfl (fun _ => by first | exact of_eq_true InvS_refl | simp only [InvS_nil, InvS_cons, get_if, InvS_refl, and_self]) ?_ | refine CallK.pure (h23) hg rfl ?_ | refine PCallK.pure (h23) hg rfl (fun _ => by first | exact of_eq_true InvS_refl | simp only [InvS_nil, InvS_cons, get_if, InvS_refl, and_self]) ?_ | refine CallK.pure (h24) hg rfl ?_ | refine PCallK.pure (h24) hg rfl (fun _ => by first | exact of_eq_true InvS_refl | simp only [InvS_nil, InvS_cons, get_if, InvS_refl, and_self]) ?_ | refine CallK.pure (h16) hg rfl ?_ | refine PCallK.pure (h16) hg rfl (fun _ => by first | exact of_eq_true InvS_refl | simp only [InvS_nil, InvS_cons, get_if, InvS_refl, and_self]) ?_ | refine CallK.pure (h24n) hg rfl ?_ | refine PCallK.pure (h24n) hg rfl (fun _ => by first | exact of_eq_true InvS_refl | simp only [InvS_nil, InvS_cons, get_if, InvS_refl, and_self]) ?_ | refine ⟨?_, ?_⟩ | intro _
          | simp only [go_sem, ↓reduceIte, Nat.reduceAdd, Nat.reduceLeDiff, Nat.reduceEqDiff, Nat.reduceBEq, Nat.reduceBNe, Nat.reduceMul, Nat.reduceLT, reduceCtorEq, Int.reduceLT, Int.reduceLE, Int.reduceToNat, Int.reduceNeg,  hd, hl, g1, g2, h0, h41, ← List.map_take]
        · omega
        · exact key _ _ _ _
      · have g2 : decide ((k : Int) < ((encB d).length : Int)) = false := decide_eq_false (by omega)
        repeat' first
          | with_reducible first | refine mw_as m5.eq_1 ?_ | refine opn m5k0.eq_1 ?_ | refine opn m5k1.eq_1 ?_ | refine opn m5k2.eq_1 ?_ | refine opn m5k3.eq_1 ?_ | refine opn m5k5.eq_1 ?_ | refine CallK.pure (h11) hg rfl ?_ | refine PCallK.pure (h11) hg rfl (fun _ => by first | exact of_eq_true InvS_refl | simp only [InvS_nil, InvS_cons, get_if, InvS_refl, and_self]) ?_ | refine CallK.pure (c13 hg d) hg rfl ?_ | refine PCallK.pure (c13 hg d) hg rfl (fun _ => by first | exact of_eq_true InvS_refl | simp only [InvS_nil, InvS_cons, get_if, InvS_refl, and_self]) ?_ | refine CallK.pure (h22) hg rfl ?_ | refine PCallK.pure (h22) hg rfl (fun _ => by first | exact of_eq_true InvS_refl | simp only [InvS_nil, InvS_cons, get_if, InvS_refl, and_self]) ?_ | refine CallK.pure (h23) hg rfl ?_ | refine PCallK.pure (h23) hg rfl (fun _ => by first | exact of_eq_true InvS_refl | simp only [InvS_nil, InvS_cons, get_if, InvS_refl, and_self]) ?_ | refine CallK.pure (h24) hg rfl ?_ | refine PCallK.pure (h24) hg rfl (fun _ => by first | exact of_eq_true InvS_refl | simp only [InvS_nil, InvS_cons, get_if, InvS_refl, and_self]) ?_ | refine CallK.pure (h16) hg rfl ?_ | refine PCallK.pure (h16) hg rfl (fun _ => by first | exact of_eq_true InvS_refl | simp only [InvS_nil, InvS_cons, get_if, InvS_refl, and_self]) ?_ | refine ⟨?_, ?_⟩ | intro _
          | simp only [go_sem, ↓reduceIte, Nat.reduceAdd, Nat.reduceLeDiff, Nat.reduceEqDiff, Nat.reduceBEq, Nat.reduceBNe, Nat.reduceMul, Nat.reduceLT, reduceCtorEq, Int.reduceLT, Int.reduceLE, Int.reduceToNat, Int.reduceNeg,  hd, hl, g1, g2, h0]
        exact key _ _ _ _
    · have g1 : decide (0 ≤ n) = false := decide_eq_false hn
      repeat' first
        | with_reducible first | refine mw_as m5.eq_1 ?_ | refine opn m5k0.eq_1 ?_ | refine opn m5k1.eq_1 ?_ | refine opn m5k2.eq_1 ?_ | refine opn m5k3.eq_1 ?_ | refine opn m5k5.eq_1 ?_ | refine CallK.pure (h11) hg rfl ?_ | refine PCallK.pure (h11) hg rfl (fun _ => by first | exact of_eq_true InvS_refl | simp only [InvS_nil, InvS_cons, get_if, InvS_refl, and_self]) ?_ | refine CallK.pure (c13 hg d) hg rfl ?_ | refine PCallK.pure (c13 hg d) hg rfl (fun _ => by first | exact of_eq_true InvS_refl | simp only [InvS_nil, InvS_cons, get_if, InvS_refl, and_self]) ?_ | refine CallK.pure (h22) hg rfl ?_ | refine PCallK.pure (h22) hg rfl (fun _ => by first | exact of_eq_true InvS_refl | simp only [InvS_nil, InvS_cons, get_if, InvS_refl, and_self]) ?_ | refine CallK.pure (h23) hg rfl ?_ | refine PCallK.pure (h23) hg rfl (fun _ => by first | exact of_eq_true InvS_refl | simp only [InvS_nil, InvS_cons, get_if, InvS_refl, and_self]) ?_ | refine CallK.pure (h24) hg rfl ?_ | refine PCallK.pure (h24) hg rfl (fun _ => by first | exact of_eq_true InvS_refl | simp only [InvS_nil, InvS_cons, get_if, InvS_refl, and_self]) ?_ | refine CallK.pure (h16) hg rfl ?_ | refine PCallK.pure (h16) hg rfl (fun _ => by first | exact of_eq_true InvS_refl | simp only [InvS_nil, InvS_cons, get_if, InvS_refl, and_self]) ?_ | refine ⟨?_, ?_⟩ | intro _
        | simp only [go_sem, ↓reduceIte, Nat.reduceAdd, Nat.reduceLeDiff, Nat.reduceEqDiff, Nat.reduceBEq, Nat.reduceBNe, Nat.reduceMul, Nat.reduceLT, reduceCtorEq, Int.reduceLT, Int.reduceLE, Int.reduceToNat, Int.reduceNeg,  hd, hl, g1, h0]
      exact key _ _ _ _
  · rw [Bool.not_eq_true] at hf
    rw [hf] at h22
    repeat' first
      | with_reducible first | refine mw_as m5.eq_1 ?_ | refine opn m5k0.eq_1 ?_ | refine opn m5k1.eq_1 ?_ | refine opn m5k2.eq_1 ?_ | refine opn m5k3.eq_1 ?_ | refine opn m5k5.eq_1 ?_ | refine CallK.pure (h11) hg rfl ?_ | refine PCallK.pure (h11) hg rfl (fun _ => by first | exact of_eq_true InvS_refl | simp only [InvS_nil, InvS_cons, get_if, InvS_refl, and_self]) ?_ | refine CallK.pure (c13 hg d) hg rfl ?_ | refine PCallK.pure (c13 hg d) hg rfl (fun _ => by first | exact of_eq_true InvS_refl | simp only [InvS_nil, InvS_cons, get_if, InvS_refl, and_self]) ?_ | refine CallK.pure (h22) hg rfl ?_ | refine PCallK.pure (h22) hg rfl (fun _ => by first | exact of_eq_true InvS_refl | simp only [InvS_nil, InvS_cons, get_if, InvS_refl, and_self]) ?_ | refine ⟨?_, ?_⟩ | intro _
      | simp only [go_sem, ↓reduceIte, Nat.reduceAdd, Nat.reduceLeDiff, Nat.reduceEqDiff, Nat.reduceBEq, Nat.reduceBNe, Nat.reduceMul, Nat.reduceLT, reduceCtorEq, Int.reduceLT, Int.reduceLE, Int.reduceToNat, Int.reduceNeg,  hd, hl]
    exact key _ _ _ _
end Go.Proofs.YtdjdhecanjmchaaGreatDoor
