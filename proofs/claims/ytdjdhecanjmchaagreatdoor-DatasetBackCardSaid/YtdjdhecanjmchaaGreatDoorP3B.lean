/- Contracts: dataset's own test of a dataset's form. -/
import Derived.Test.YtdjdhecanjmchaaGreatDoorP2B
set_option linter.unusedSimpArgs false
set_option linter.unusedVariables false
namespace Go.Proofs.YtdjdhecanjmchaaGreatDoor
open Go Go.V
attribute [local go_sem ↓] mw_nil mw_inBlock mw_inLoop mw_skip mw_seq mw_block mw_exit mw_ret mw_named mw_loop mw_cond mw_reg mw_any mw_dfr KW_none KW_some KD_none KD_some mexit_inBlock mexit_code mexit_inLoop moK_nil moK_k moK_panic moK_call moK_guard plK_done plK_k plK_call plK_guard plK_two shel_load protOf_nil protOf_cons putF_some putF_none lookup_if get_if set_eq Fr.get_cons keepK Opd.ev MK.ev MK.ob
attribute [local go_sem high] cdK_true cdK_false gdK_tt gdK_ff gdK_tf gdK_ft gdK_tup pgdK_tt pgdK_ff pgdK_tf pgdK_ft pgdK_tup dfK_fn evK_some pevK_some clK_fn pclK_fn pnK_ifc exK_some
attribute [local go_sem] InvS_refl InvS_nil InvS_cons QPin_endQ List.mem_cons List.not_mem_nil or_true true_or or_false false_or List.lookup_nil List.map_cons List.map_nil Option.map_some Option.map_none Option.bind_some Option.bind_none List.nil_append List.append_nil List.cons_append binEv binOb intOp strOp unEv eqvEv eqCells eqCell isBld_nil isBld_two isBld_bool isBld_int isBld_str isBld_nilp isBld_ptr isBld_gp isBld_eptr isBld_sl isBld_fn isBld_nilf isBld_ifc isBld_nili isBld_agg isBld_bld noBld tasEv AV.there AV.plus pickCells storeEv AV.solid AV.cells splice putParts rowOK fldEv iarrEv extEv minEv nonNil lenEv isStr appEv appOb appArg able_exact able_use slVecEv slVecOb slStrEv slStrOb bnd ne_1 ne_2 ne_3 ne_4 ne_1' ne_2' ne_3' ne_4' List.getElem?_map argF endQ rvsEv rvEv resOf St.none List.length_cons List.length_nil List.take_succ_cons List.take_zero List.drop_succ_cons List.drop_zero List.getElem?_cons_zero List.getElem?_cons_succ List.all_cons List.all_nil if_true if_false ite_self decide_true decide_false Bool.and_true Bool.true_and Bool.and_false Bool.false_and Bool.not_true Bool.not_false beq_self_eq_true bne_self_eq_false Nat.zero_add Nat.add_zero Bool.false_eq_true Bool.true_eq_false eq_self ne_eq not_true_eq_false not_false_eq_true true_and and_true and_self false_and and_false true_implies false_implies implies_true forall_const Nat.zero_le Nat.le_refl Option.isNone_none Option.isNone_some Option.isSome_some Option.isSome_none Nat.succ_ne_self Int.toNat_natCast Int.toNat_zero List.length_map List.take_length Out.ok.injEq AV.int.injEq AV.bool.injEq AV.str.injEq AV.tup.injEq Lab.av Val.av Exa.av Dset.av Req.av AV.agg.injEq List.cons.injEq ge_iff_le gt_iff_lt Int.natCast_nonneg Bool.not_eq_true Bool.not_eq_false cond_or cond_and cond_tl cond_fr cond_fl cond_tr merge_sameT merge_sameF mergeT0 mergeF0 mergeT1 mergeF1 mergeT2 mergeF2 mergeT3 mergeF3 mergeT4 mergeF4 mergeT5 mergeF5 mergeT6 mergeF6 mergeT7 mergeF7 mergeT8 mergeF8 mergeT9 mergeF9 cdK_bool gdK_bool pgdK_bool
section
open Go Go.V
set_option maxRecDepth 40000
variable {gl : List (Nat × List AV)}
theorem chk_key (s : Bytes) : (chkR ⟨5, 0, s⟩ == 0) = keyR s := by
  have h1 : fieldsB ⟨5, 0, s⟩ = true := by simp [fieldsB]
  have h2 : rangeB 0 = true := by decide
  have h3 : (s == []) = !decide (1 ≤ s.length) := by cases s <;> simp
  simp only [chkR, h1, h2, keyR, keyB, h3]
  by_cases h4 : 1 ≤ s.length <;> by_cases h5 : s.length ≤ 32 <;> by_cases h6 : s.all (okB 33) = true <;> simp [h4, h5, h6] <;> omega
theorem bytesLess_irrefl : ∀ a : Bytes, Op.bytesLess a a = false
  | [] => rfl
  | c :: s => by
    have := bytesLess_irrefl s
    simp [Op.bytesLess, this]
theorem labCmp_lt (a b : Lab) : decide (0 ≤ labCmp a b) = !labLt a b := by
  unfold labCmp labLt cmpB cmpI
  by_cases hk : a.k = b.k
  · rw [hk, bytesLess_irrefl]
    simp only [Bool.false_eq_true, if_false, if_true, ne_eq, not_true_eq_false]
    by_cases he : a.e = b.e
    · rw [he]
      by_cases hn : a.n < b.n <;> by_cases hn2 : b.n < a.n <;> simp [hn, hn2]
    · rw [if_neg he]
      by_cases hn : a.e < b.e
      · simp [hn]
      · have : b.e < a.e := by omega
        simp [hn, this]
  · rw [if_neg hk]
    by_cases hl : Op.bytesLess a.k b.k = true
    · simp [hl, hk]
    · have hl : Op.bytesLess a.k b.k = false := by simpa using hl
      simp [hl, hk]
theorem any_valsB (l : List Val) : (l.any fun v => chkR v != 0) = !valsB l := by
  induction l with
  | nil => rfl
  | cons v l ih => rw [List.any_cons, ih, valsB, valsB, List.all_cons, Bool.not_and]; rfl
theorem exsB_prog (n : Nat) (p : Option Lab) (x : Exa) (xs : List Exa) : exsB n p (x :: xs) = (!(chkR ⟨5, 0, x.lab.k⟩ != 0) && (!(!tickB x.lab.e) && (!(!tickB x.lab.n || ((x.vs.length : Int) != (n : Int))) && (ltO p x.lab && (!(x.vs.any fun v => chkR v != 0) && exsB n (some x.lab) xs))))) := by
  rw [exsB, labB, ← chk_key, any_valsB, natNe]
  have : (chkR ⟨5, 0, x.lab.k⟩ != 0) = !(chkR ⟨5, 0, x.lab.k⟩ == 0) := rfl
  rw [this]
  cases (chkR ⟨5, 0, x.lab.k⟩ == 0) <;> cases tickB x.lab.e <;> cases tickB x.lab.n <;> cases decide (x.vs.length = n) <;> simp only [Bool.not_true, Bool.not_false, Bool.true_and, Bool.false_and, Bool.and_true, Bool.or_true, Bool.true_or, Bool.or_false, Bool.false_or, Bool.and_false, Bool.not_not]
theorem ltO_prog (y x : Lab) : ltO (some y) x = !decide (0 ≤ labCmp y x) := by rw [labCmp_lt]; simp [ltO]
theorem keep_g0 {m : Nat} (hm : 1 ≤ m) {a0 a b c d : List AV} : ∀ l cs, List.lookup l [(0, a0)] = some cs → List.lookup l [(m + 1, a), (m + 1, b), (m, c), (m, d), (0, a0)] = some cs := by
  intro l cs h
  simp only [lookG] at h ⊢
  grind
set_option maxHeartbeats 4000000 in
theorem c37 (hg : GlNR gl) {m0 : Int} (hm0 : gl.lookup 1 = some [.int .i64 m0]) (d : Dset) (hs : SmallD d) : Pure Tryz.prog gl 37 [d.av] (.ok (.bool (formB d))) := by
  refine ⟨?_, by simp only [List.map_cons, List.map_nil, fg_int, fg_str, fg_bool, fg_nilp, fg_nili, fg_fn, fg_sl, fg_agg, fg_tup, fg_lab, fg_val, fg_exa, fg_dset, fg_req, fg_bytes, fg_ints, fg_strs, fg_vals, fg_labs, fg_exas, noRef_ok, noRef_pan, List.mem_cons, List.not_mem_nil, or_false, forall_eq_or_imp, forall_eq, and_self, and_true, true_and, implies_true, NoRef.bool_eq, NoRef.int_eq, NoRef.str_eq, NoRef.nilp_eq, NoRef.nili_eq, NoRef.nilf_eq, NoRef.agg_eq, NoRef.tup_eq, NoRef.ifc_eq, NoRef.fn_nil, NoRef.fn_eq, nr_lab, nr_val, nr_exa, nr_dset, nr_req, nr_byte, nr_bytes, nr_strs, nr_vals, nr_labs, nr_exas, nr_ints], by simp only [noRef_ok, noRef_pan, List.mem_cons, List.not_mem_nil, or_false, forall_eq_or_imp, forall_eq, and_self, and_true, true_and, implies_true, NoRef.bool_eq, NoRef.int_eq, NoRef.str_eq, NoRef.nilp_eq, NoRef.nili_eq, NoRef.nilf_eq, NoRef.agg_eq, NoRef.tup_eq, NoRef.ifc_eq, NoRef.fn_nil, NoRef.fn_eq, nr_lab, nr_val, nr_exa, nr_dset, nr_req, nr_byte, nr_bytes, nr_strs, nr_vals, nr_labs, nr_exas, nr_ints]⟩
  simp only [List.map_cons, List.map_nil, fg_int, fg_str, fg_bool, fg_nilp, fg_nili, fg_fn, fg_sl, fg_agg, fg_tup, fg_lab, fg_val, fg_exa, fg_dset, fg_req, fg_bytes, fg_ints, fg_strs, fg_vals, fg_labs, fg_exas]
  refine .of_run is37 (by simp) (mw_sound 200 ?_)
  have hxl := hs.xs
  have hfl := hs.fs
  have key2 : formB d = exsB d.fs.length none d.xs → MRun Tryz.prog 107 [MI.code m37l1.loop, MI.inBlock 2, MI.code (MC.named [] m37k8)] [] [(1, AV.ptr 0 0), (51, AV.sl 4 (List.map Exa.av d.xs) STok.unk), (52, AV.int IntKind.i64 d.xs.length), (53, AV.int IntKind.i64 0)]
      ⟨1, [(0, [AV.str d.ent, AV.sl 1 (List.map AV.str d.fs) STok.unk, AV.sl 4 (List.map Exa.av d.xs) STok.unk])], 0, [], gl⟩ (endQ [RV.t 2] fun o' x => o' = Out.ok (AV.bool (formB d))) := by
    intro hf
    refine .forUp d.xs.length (fun i F S => F = [(1, AV.ptr 0 0), (51, AV.sl 4 (List.map Exa.av d.xs) STok.unk), (52, AV.int IntKind.i64 d.xs.length), (53, AV.int IntKind.i64 i)] ∧ (∃ m t, 1 ≤ m ∧ S = ⟨m, [(0, [AV.str d.ent, AV.sl 1 (List.map AV.str d.fs) STok.unk, AV.sl 4 (List.map Exa.av d.xs) STok.unk])], t, [], gl⟩) ∧ formB d = exsB d.fs.length (prevAt d.xs i) (d.xs.drop i)) ⟨rfl, ⟨1, 0, Nat.le_refl _, rfl⟩, hf⟩ ?_
    rintro i F S hi ⟨rfl, ⟨m, t, hm, rfl⟩, he⟩ ih
    by_cases h : i < d.xs.length
    · obtain ⟨x, hx⟩ := some_of_lt h
      have hd := drop_some hx
      rw [hd, exsB_prog] at he
      have hkl : x.lab.k.length < 4294967296 := by have := hs.k x (List.mem_of_getElem? hx); omega
      have hvs : x.vs.length < 4294967296 := by have := hs.vs x (List.mem_of_getElem? hx); omega
      have hxv : ∀ v ∈ x.vs, v.s.length < 4294967296 := fun v hv => by have := hs.v x (List.mem_of_getElem? hx) v hv; omega
      have hprev : prevAt d.xs (i + 1) = some x.lab := by simp [prevAt, hx]
      rcases Nat.eq_zero_or_pos i with h0 | h0
      · subst h0
        have hlt : decide ((0 : Int) < ((0 : Nat) : Int)) = false := by decide
        refine opn m37l1.eq_1 ?_
        repeat' first
          | with_reducible first | refine mw_as m37.eq_1 ?_ | refine opn m37k0.eq_1 ?_ | refine opn m37k1.eq_1 ?_ | refine opn m37k2.eq_1 ?_ | refine opn m37k3.eq_1 ?_ | refine opn m37k4.eq_1 ?_ | refine opn m37k5.eq_1 ?_ | refine opn m37k6.eq_1 ?_ | refine opn m37k7.eq_1 ?_ | refine opn m37k8.eq_1 ?_ | refine opn m37k9.eq_1 ?_ | refine opn m37k10.eq_1 ?_ | refine CallK.pure (c32 ⟨5, 0, x.lab.k⟩ hkl) hg rfl ?_ | refine PCallK.pure (c32 ⟨5, 0, x.lab.k⟩ hkl) hg rfl (fun _ => by first | exact of_eq_true InvS_refl | simp only [InvS_nil, InvS_cons, get_if, InvS_refl, and_self]) ?_ | refine CallK.pure (c94 x.lab.e) hg rfl ?_ | refine PCallK.pure (c94 x.lab.e) hg rfl (fun _ => by first | exact of_eq_true InvS_refl | simp only [InvS_nil, InvS_cons, get_if, InvS_refl, and_self]) ?_ | refine CallK.pure (c94 x.lab.n) hg rfl ?_ | refine PCallK.pure (c94 x.lab.n) hg rfl (fun _ => by first | exact of_eq_true InvS_refl | simp only [InvS_nil, InvS_cons, get_if, InvS_refl, and_self]) ?_ | refine CallK.pure (c96 hg x.vs .unk hvs hxv) hg rfl ?_ | refine PCallK.pure (c96 hg x.vs .unk hvs hxv) hg rfl (fun _ => by first | exact of_eq_true InvS_refl | simp only [InvS_nil, InvS_cons, get_if, InvS_refl, and_self]) ?_ | refine ⟨?_, ?_⟩ | intro _
          | simp only [go_sem, ↓reduceIte, Nat.reduceAdd, Nat.reduceLeDiff, Nat.reduceEqDiff, Nat.reduceBEq, Nat.reduceBNe, Nat.reduceMul, Nat.reduceLT, reduceCtorEq, Int.reduceLT, Int.reduceLE, Int.reduceToNat, Int.reduceNeg,  hx, ltB h, ltP h, hlt, (show (0 = m) = False from eq_false (by omega)), (show (m = 0) = False from eq_false (by omega)), (show (0 = m + 1) = False from eq_false (by omega)), (show (m + 1 = 0) = False from eq_false (by omega)), wrap_succ (show 0 < 9223372036854775807 by omega)]
        all_goals first
          | (refine MRun.keep (live' := []) (ih h _ _ ⟨rfl, ⟨m + 1 + 1, t, by omega, rfl⟩, ?_⟩) (keep_g0 hm) (fun _ h => h)
             rw [he, hprev]
             clear ih he hf
             simp only [*, prevAt, ltO, if_true, Bool.not_true, Bool.not_false, Bool.true_and, Bool.false_and, Bool.and_true, Bool.and_false])
          | (clear ih
             rw [he]
             clear he hf hprev
             simp only [*, Bool.not_true, Bool.not_false, Bool.true_and, Bool.false_and, Bool.and_true, Bool.and_false])
      · obtain ⟨j, rfl⟩ : ∃ j, i = j + 1 := ⟨i - 1, by omega⟩
        obtain ⟨y, hy⟩ := some_of_lt (show j < d.xs.length by omega)
        have hlt : decide ((0 : Int) < ((j + 1 : Nat) : Int)) = true := decide_eq_true (by omega)
        have hpy : prevAt d.xs (j + 1) = some y.lab := by simp [prevAt, hy]
        rw [hpy, ltO_prog] at he
        refine opn m37l1.eq_1 ?_
        repeat' first
          | with_reducible first | refine mw_as m37.eq_1 ?_ | refine opn m37k0.eq_1 ?_ | refine opn m37k1.eq_1 ?_ | refine opn m37k2.eq_1 ?_ | refine opn m37k3.eq_1 ?_ | refine opn m37k4.eq_1 ?_ | refine opn m37k5.eq_1 ?_ | refine opn m37k6.eq_1 ?_ | refine opn m37k7.eq_1 ?_ | refine opn m37k8.eq_1 ?_ | refine opn m37k9.eq_1 ?_ | refine opn m37k10.eq_1 ?_ | refine CallK.pure (c32 ⟨5, 0, x.lab.k⟩ hkl) hg rfl ?_ | refine PCallK.pure (c32 ⟨5, 0, x.lab.k⟩ hkl) hg rfl (fun _ => by first | exact of_eq_true InvS_refl | simp only [InvS_nil, InvS_cons, get_if, InvS_refl, and_self]) ?_ | refine CallK.pure (c94 x.lab.e) hg rfl ?_ | refine PCallK.pure (c94 x.lab.e) hg rfl (fun _ => by first | exact of_eq_true InvS_refl | simp only [InvS_nil, InvS_cons, get_if, InvS_refl, and_self]) ?_ | refine CallK.pure (c94 x.lab.n) hg rfl ?_ | refine PCallK.pure (c94 x.lab.n) hg rfl (fun _ => by first | exact of_eq_true InvS_refl | simp only [InvS_nil, InvS_cons, get_if, InvS_refl, and_self]) ?_ | refine CallK.pure (c95 hg y.lab x.lab) hg rfl ?_ | refine PCallK.pure (c95 hg y.lab x.lab) hg rfl (fun _ => by first | exact of_eq_true InvS_refl | simp only [InvS_nil, InvS_cons, get_if, InvS_refl, and_self]) ?_ | refine CallK.pure (c96 hg x.vs .unk hvs hxv) hg rfl ?_ | refine PCallK.pure (c96 hg x.vs .unk hvs hxv) hg rfl (fun _ => by first | exact of_eq_true InvS_refl | simp only [InvS_nil, InvS_cons, get_if, InvS_refl, and_self]) ?_ | refine ⟨?_, ?_⟩ | intro _
          | simp only [go_sem, ↓reduceIte, Nat.reduceAdd, Nat.reduceLeDiff, Nat.reduceEqDiff, Nat.reduceBEq, Nat.reduceBNe, Nat.reduceMul, Nat.reduceLT, reduceCtorEq, Int.reduceLT, Int.reduceLE, Int.reduceToNat, Int.reduceNeg,  hx, hy, ltB h, ltP h, hlt, sub_one j (by omega), ltP (show j < d.xs.length by omega), (show (0 = m) = False from eq_false (by omega)), (show (m = 0) = False from eq_false (by omega)), (show (0 = m + 1) = False from eq_false (by omega)), (show (m + 1 = 0) = False from eq_false (by omega)), wrap_succ (show j + 1 < 9223372036854775807 by omega)]
        all_goals first
          | (refine MRun.keep (live' := []) (ih h _ _ ⟨rfl, ⟨m + 1 + 1, t, by omega, rfl⟩, ?_⟩) (keep_g0 hm) (fun _ h => h)
             rw [he, hprev]
             clear ih he hf hpy hprev
             simp only [*, Bool.not_true, Bool.not_false, Bool.true_and, Bool.false_and, Bool.and_true, Bool.and_false])
          | (clear ih
             rw [he]
             clear he hf hprev
             simp only [*, Bool.not_true, Bool.not_false, Bool.true_and, Bool.false_and, Bool.and_true, Bool.and_false])
    · refine opn m37l1.eq_1 ?_
      rw [List.drop_eq_nil_of_le (Nat.le_of_not_lt h), exsB] at he
      repeat' first
        | with_reducible first | refine mw_as m37.eq_1 ?_ | refine opn m37k0.eq_1 ?_ | refine opn m37k1.eq_1 ?_ | refine opn m37k2.eq_1 ?_ | refine opn m37k3.eq_1 ?_ | refine opn m37k4.eq_1 ?_ | refine opn m37k5.eq_1 ?_ | refine opn m37k6.eq_1 ?_ | refine opn m37k7.eq_1 ?_ | refine opn m37k8.eq_1 ?_ | refine opn m37k9.eq_1 ?_ | refine opn m37k10.eq_1 ?_ | refine ⟨?_, ?_⟩ | intro _
        | simp only [go_sem, ↓reduceIte, Nat.reduceAdd, Nat.reduceLeDiff, Nat.reduceEqDiff, Nat.reduceBEq, Nat.reduceBNe, Nat.reduceMul, Nat.reduceLT, reduceCtorEq, Int.reduceLT, Int.reduceLE, Int.reduceToNat, Int.reduceNeg,  geB (Nat.le_of_not_lt h)]
      rw [he]
  have key1 : formB d = (featsB d.fs && exsB d.fs.length none d.xs) → MRun Tryz.prog 107 [MI.code m37l0.loop, MI.inBlock 0, MI.code (MC.named [1] m37k9)] [] [(1, AV.ptr 0 0), (31, AV.sl 1 (List.map AV.str d.fs) STok.unk), (32, AV.int IntKind.i64 d.fs.length), (33, AV.int IntKind.i64 0)]
      ⟨1, [(0, [AV.str d.ent, AV.sl 1 (List.map AV.str d.fs) STok.unk, AV.sl 4 (List.map Exa.av d.xs) STok.unk])], 0, [], gl⟩ (endQ [RV.t 2] fun o' x => o' = Out.ok (AV.bool (formB d))) := by
    intro hf
    refine .forUp d.fs.length (fun i F S => F = [(1, AV.ptr 0 0), (31, AV.sl 1 (List.map AV.str d.fs) STok.unk), (32, AV.int IntKind.i64 d.fs.length), (33, AV.int IntKind.i64 i)] ∧ S = ⟨1, [(0, [AV.str d.ent, AV.sl 1 (List.map AV.str d.fs) STok.unk, AV.sl 4 (List.map Exa.av d.xs) STok.unk])], 0, [], gl⟩ ∧ formB d = (featsFrom d.fs i (d.fs.drop i) && exsB d.fs.length none d.xs)) ⟨rfl, rfl, hf⟩ ?_
    rintro i F S hi ⟨rfl, rfl, he⟩ ih
    by_cases h : i < d.fs.length
    · obtain ⟨c, hc⟩ := some_of_lt h
      have hd := drop_some hc
      rw [hd, featsFrom] at he
      refine opn m37l0.eq_1 ?_
      have hcl : c.length < 4294960000 := hs.f c (List.mem_of_getElem? hc)
      have htl : (d.fs.take i).length < 4294967296 := by rw [List.length_take]; omega
      repeat' first
        | with_reducible first | refine mw_as m37.eq_1 ?_ | refine opn m37k0.eq_1 ?_ | refine opn m37k1.eq_1 ?_ | refine opn m37k2.eq_1 ?_ | refine opn m37k3.eq_1 ?_ | refine opn m37k4.eq_1 ?_ | refine opn m37k5.eq_1 ?_ | refine opn m37k6.eq_1 ?_ | refine opn m37k7.eq_1 ?_ | refine opn m37k8.eq_1 ?_ | refine opn m37k9.eq_1 ?_ | refine opn m37k10.eq_1 ?_ | refine CallK.pure (c92 hg hm0 c hcl) hg rfl ?_ | refine PCallK.pure (c92 hg hm0 c hcl) hg rfl (fun _ => by first | exact of_eq_true InvS_refl | simp only [InvS_nil, InvS_cons, get_if, InvS_refl, and_self]) ?_ | refine CallK.pure (c93 hg (d.fs.take i) c .unk htl) hg rfl ?_ | refine PCallK.pure (c93 hg (d.fs.take i) c .unk htl) hg rfl (fun _ => by first | exact of_eq_true InvS_refl | simp only [InvS_nil, InvS_cons, get_if, InvS_refl, and_self]) ?_ | refine ⟨?_, ?_⟩ | intro _
        | simp only [go_sem, ↓reduceIte, Nat.reduceAdd, Nat.reduceLeDiff, Nat.reduceEqDiff, Nat.reduceBEq, Nat.reduceBNe, Nat.reduceMul, Nat.reduceLT, reduceCtorEq, Int.reduceLT, Int.reduceLE, Int.reduceToNat, Int.reduceNeg,  hc, ltB h, ltP h, wrap_succ (show i < 9223372036854775807 by omega), ← List.map_take, Int.natCast_nonneg]
      · omega
      · rename_i h6 h7
        rw [he, h7]
        simp
      · rename_i h6 h7
        have h6 : nameB c = true := by simpa using h6
        rw [h6, h7, Bool.not_false, Bool.true_and, Bool.true_and] at he
        exact ih h _ _ ⟨rfl, rfl, he⟩
      · rename_i h6
        have h6 : nameB c = false := by simpa using h6
        rw [he, h6]
        rfl
    · refine opn m37l0.eq_1 ?_
      rw [List.drop_eq_nil_of_le (Nat.le_of_not_lt h), featsFrom, Bool.true_and] at he
      repeat' first
        | with_reducible first | refine mw_as m37.eq_1 ?_ | refine opn m37k0.eq_1 ?_ | refine opn m37k1.eq_1 ?_ | refine opn m37k2.eq_1 ?_ | refine opn m37k3.eq_1 ?_ | refine opn m37k4.eq_1 ?_ | refine opn m37k5.eq_1 ?_ | refine opn m37k6.eq_1 ?_ | refine opn m37k7.eq_1 ?_ | refine opn m37k8.eq_1 ?_ | refine opn m37k9.eq_1 ?_ | refine opn m37k10.eq_1 ?_ | refine ⟨?_, ?_⟩ | intro _
        | simp only [go_sem, ↓reduceIte, Nat.reduceAdd, Nat.reduceLeDiff, Nat.reduceEqDiff, Nat.reduceBEq, Nat.reduceBNe, Nat.reduceMul, Nat.reduceLT, reduceCtorEq, Int.reduceLT, Int.reduceLE, Int.reduceToNat, Int.reduceNeg,  geB (Nat.le_of_not_lt h)]
      exact key2 he
  repeat' first
    | with_reducible first | refine mw_as m37.eq_1 ?_ | refine opn m37k0.eq_1 ?_ | refine opn m37k1.eq_1 ?_ | refine opn m37k2.eq_1 ?_ | refine opn m37k3.eq_1 ?_ | refine opn m37k4.eq_1 ?_ | refine opn m37k5.eq_1 ?_ | refine opn m37k6.eq_1 ?_ | refine opn m37k7.eq_1 ?_ | refine opn m37k8.eq_1 ?_ | refine opn m37k9.eq_1 ?_ | refine opn m37k10.eq_1 ?_ | refine CallK.pure (c92 hg hm0 d.ent hs.ent) hg rfl ?_ | refine PCallK.pure (c92 hg hm0 d.ent hs.ent) hg rfl (fun _ => by first | exact of_eq_true InvS_refl | simp only [InvS_nil, InvS_cons, get_if, InvS_refl, and_self]) ?_ | refine ⟨?_, ?_⟩ | intro _
    | simp only [go_sem, ↓reduceIte, Nat.reduceAdd, Nat.reduceLeDiff, Nat.reduceEqDiff, Nat.reduceBEq, Nat.reduceBNe, Nat.reduceMul, Nat.reduceLT, reduceCtorEq, Int.reduceLT, Int.reduceLE, Int.reduceToNat, Int.reduceNeg]
  all_goals first
    | (refine key1 ?_
       simp only [formB]
       grind)
    | (simp only [formB]
       grind)
end
section
open Go Go.V
set_option maxRecDepth 40000
variable {gl : List (Nat × List AV)}
def FgOut (o : Out) (r : AV) : Prop := match o with
  | .ok r' => r'.fg = r
  | .pan _ => False
theorem FgOut.mk' {r' r : AV} (h : r'.fg = r) : FgOut (.ok r') r := h
theorem Pure.ofFg {P : Program} {f : FuncId} {xs : List AV} {r : AV} (h : MCalls P f (xs.map AV.fg) (.none gl) fun o' _ => FgOut o' r) (hn : ∀ a ∈ xs.map AV.fg, NoRef a) (hr : NoRef r) : Pure P gl f xs (.ok r) :=
  ⟨MCalls.fgRes h (fun r' S' h => by rw [show r'.fg = r from h]) (fun r' S' h => h.elim), hn, hr⟩
def AbT (live : List Nat) (tk : STok) : Prop := tk = .exact ∨ ∃ n, tk = .tok n ∧ n ∈ live
theorem AbT.able {live : List Nat} {tk : STok} (h : AbT live tk) (n : Nat) (ob : List (Nat × List AV)) (nt : Nat) : Able ⟨n, ob, nt, live, gl⟩ tk := by
  rcases h with rfl | ⟨a, rfl, ha⟩
  · exact .inl rfl
  · exact .inr ⟨a, rfl, ha⟩
end
end Go.Proofs.YtdjdhecanjmchaaGreatDoor
