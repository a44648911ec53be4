/- Contracts: ReadInt, ReadFrame and values.Read. -/
import Derived.Test.YtdjdhecanjmchaaGreatDoorFaB
import Derived.Test.YtdjdhecanjmchaaGreatDoorFbB
import Derived.Test.YtdjdhecanjmchaaGreatDoorFcB
import Derived.Test.YtdjdhecanjmchaaGreatDoorHaB
import Derived.Test.YtdjdhecanjmchaaGreatDoorE6B
set_option linter.unusedSimpArgs false
set_option linter.unusedVariables false
namespace Go.Proofs.YtdjdhecanjmchaaGreatDoor
open Go Go.V Go.Lib
set_option maxRecDepth 40000
attribute [local go_sem ↓] mw_nil mw_inBlock mw_inLoop mw_skip mw_seq mw_block mw_exit mw_ret mw_named mw_loop mw_cond mw_reg mw_any mw_dfr KW_none KW_some KD_none KD_some mexit_inBlock mexit_code mexit_inLoop moK_nil moK_k moK_panic moK_call moK_guard plK_done plK_k plK_call plK_guard plK_two shel_load protOf_nil protOf_cons putF_some putF_none lookup_if get_if set_eq Fr.get_cons keepK Opd.ev MK.ev MK.ob
attribute [local go_sem high] cdK_true cdK_false gdK_tt gdK_ff gdK_tf gdK_ft gdK_tup pgdK_tt pgdK_ff pgdK_tf pgdK_ft pgdK_tup dfK_fn evK_some pevK_some clK_fn pclK_fn pnK_ifc exK_some
attribute [local go_sem] InvS_refl InvS_nil InvS_cons QPin_endQ List.mem_cons List.not_mem_nil or_true true_or or_false false_or List.lookup_nil List.map_cons List.map_nil Option.map_some Option.map_none Option.bind_some Option.bind_none List.nil_append List.append_nil List.cons_append binEv binOb intOp strOp unEv eqvEv eqCells eqCell isBld_nil isBld_two isBld_bool isBld_int isBld_str isBld_nilp isBld_ptr isBld_gp isBld_eptr isBld_sl isBld_fn isBld_nilf isBld_ifc isBld_nili isBld_agg isBld_bld noBld tasEv AV.there AV.plus pickCells storeEv AV.solid AV.cells splice putParts rowOK fldEv iarrEv extEv minEv nonNil lenEv isStr appEv appOb appArg able_exact able_use slVecEv slVecOb slStrEv slStrOb bnd ne_1 ne_2 ne_3 ne_4 ne_1' ne_2' ne_3' ne_4' List.getElem?_map argF endQ rvsEv rvEv resOf St.none List.length_cons List.length_nil List.take_succ_cons List.take_zero List.drop_succ_cons List.drop_zero List.getElem?_cons_zero List.getElem?_cons_succ List.all_cons List.all_nil if_true if_false ite_self decide_true decide_false Bool.and_true Bool.true_and Bool.and_false Bool.false_and Bool.not_true Bool.not_false beq_self_eq_true bne_self_eq_false Nat.zero_add Nat.add_zero Bool.false_eq_true Bool.true_eq_false eq_self ne_eq not_true_eq_false not_false_eq_true true_and and_true and_self false_and and_false true_implies false_implies implies_true forall_const Nat.zero_le Nat.le_refl Option.isNone_none Option.isNone_some Option.isSome_some Option.isSome_none Nat.succ_ne_self Int.toNat_natCast Int.toNat_zero List.length_map List.take_length Out.ok.injEq AV.int.injEq AV.bool.injEq AV.str.injEq AV.tup.injEq Lab.av Val.av Exa.av Dset.av Req.av AV.agg.injEq List.cons.injEq ge_iff_le gt_iff_lt Int.natCast_nonneg Bool.not_eq_true Bool.not_eq_false cond_or cond_and cond_tl cond_fr cond_fl cond_tr merge_sameT merge_sameF mergeT0 mergeF0 mergeT1 mergeF1 mergeT2 mergeF2 mergeT3 mergeF3 mergeT4 mergeF4 mergeT5 mergeF5 mergeT6 mergeF6 mergeT7 mergeF7 mergeT8 mergeF8 mergeT9 mergeF9 cdK_bool gdK_bool pgdK_bool
variable {gl : List (Nat × List AV)}
theorem rdN_err : ∀ f i acc s e, rdN f i acc s = .error e → e = 3 ∨ e = 41
  | 0, _, _, _, e, h => by injection h with h; exact .inl h.symm
  | _ + 1, _, _, [], e, h => by injection h with h; exact .inr h.symm
  | f + 1, i, acc, c :: s, e, h => by
    rw [rdN] at h
    split at h
    · split at h
      · injection h with h; exact .inl h.symm
      · cases h
    · exact rdN_err f _ _ _ _ h
theorem rdAt_err {b : Bytes} {a e : Int} (h : rdAt rdU b a = .error e) : e = 1 ∨ e = 3 ∨ e = 41 := by
  unfold rdAt at h
  split at h
  · injection h with h; exact .inl h.symm
  · exact .inr (rdN_err _ _ _ _ _ h)
theorem xor_ones64 (x : Int) (h0 : 0 ≤ x) (h1 : x < 9223372036854775808) : ixor .i64 x (-1) = -x - 1 := by
  have h2 : (BitVec.ofInt 64 (-1) : BitVec 64) = BitVec.allOnes 64 := by decide
  have h3 : (BitVec.ofInt 64 x).toNat = x.toNat := by rw [BitVec.toNat_ofInt]; omega
  have h4 : (BitVec.ofInt 64 x ^^^ BitVec.allOnes 64).toNat = 18446744073709551615 - x.toNat := by
    rw [BitVec.xor_allOnes, BitVec.toNat_not, h3]
  show IntKind.i64.wrap (BitVec.ofInt 64 x ^^^ BitVec.ofInt 64 (-1)).toNat = _
  rw [h2, h4]
  have : ((18446744073709551615 - x.toNat : Nat) : Int) = 18446744073709551615 - x := by omega
  rw [this]
  simp [IntKind.wrap, IntKind.bits, IntKind.signed]
  omega
theorem iand1 (k : Nat) (h : k < 18446744073709551616) : iand .u64 (k : Int) 1 = ((k % 2 : Nat) : Int) := by
  show IntKind.u64.wrap (BitVec.ofInt 64 (k : Int) &&& BitVec.ofInt 64 1).toNat = _
  have h1 : (BitVec.ofInt 64 (k : Int)).toNat = k := by rw [BitVec.toNat_ofInt]; omega
  rw [BitVec.toNat_and, h1, show (BitVec.ofInt 64 1).toNat = 1 from rfl, Nat.and_one_is_mod, wrap_u64]
  omega
theorem zag_bits {k : Nat} (hk : k < 18446744073709551616) : ixor .i64 ((k / 2 : Nat) : Int) (IntKind.i64.wrap (0 - ((k % 2 : Nat) : Int))) = zag k := by
  rcases Nat.mod_two_eq_zero_or_one k with h | h
  · rw [h]
    show IntKind.i64.wrap (BitVec.ofInt 64 ((k / 2 : Nat) : Int) ^^^ BitVec.ofInt 64 0).toNat = _
    rw [show (BitVec.ofInt 64 0 : BitVec 64) = 0#64 from rfl, BitVec.xor_zero, BitVec.toNat_ofInt, zag, if_pos h]
    rw [wrap_i64_in (by omega) (by omega)]
    omega
  · rw [h, show IntKind.i64.wrap (0 - ((1 : Nat) : Int)) = -1 from rfl, xor_ones64 _ (by omega) (by omega), zag, if_neg (by omega)]
theorem nr_nil1 : NoRef (.sl 1 [] .unk) = True := NoRef.sl_unk (by simp)
theorem c120 (hg : GlNR gl) (b : Bytes) (t : STok) (a : Int) (hb : b.length < 4294967296) : Pure Tryz.prog gl 120 [.sl 1 (b.map byteAV) t, .int .i64 a] (.ok (outR (AV.int .i64) (.int .i64 0) b (rdAt rdI b a))) := by
  refine ⟨?_, by simp only [List.map_cons, List.map_nil, fg_int, fg_str, fg_bool, fg_nilp, fg_nili, fg_fn, fg_sl, fg_agg, fg_tup, fg_lab, fg_val, fg_exa, fg_dset, fg_req, fg_bytes, fg_ints, fg_strs, fg_vals, fg_labs, fg_exas, noRef_ok, noRef_pan, List.mem_cons, List.not_mem_nil, or_false, forall_eq_or_imp, forall_eq, and_self, and_true, true_and, implies_true, NoRef.bool_eq, NoRef.int_eq, NoRef.str_eq, NoRef.nilp_eq, NoRef.nili_eq, NoRef.nilf_eq, NoRef.agg_eq, NoRef.tup_eq, NoRef.ifc_eq, NoRef.fn_nil, NoRef.fn_eq, nr_lab, nr_val, nr_exa, nr_dset, nr_req, nr_byte, nr_bytes, nr_strs, nr_vals, nr_labs, nr_exas, nr_ints], by simp only [noRef_ok, noRef_pan, List.mem_cons, List.not_mem_nil, or_false, forall_eq_or_imp, forall_eq, and_self, and_true, true_and, implies_true, NoRef.bool_eq, NoRef.int_eq, NoRef.str_eq, NoRef.nilp_eq, NoRef.nili_eq, NoRef.nilf_eq, NoRef.agg_eq, NoRef.tup_eq, NoRef.ifc_eq, NoRef.fn_nil, NoRef.fn_eq, nr_lab, nr_val, nr_exa, nr_dset, nr_req, nr_byte, nr_bytes, nr_strs, nr_vals, nr_labs, nr_exas, nr_ints]; unfold outR; split <;> simp only [noRef_ok, noRef_pan, List.mem_cons, List.not_mem_nil, or_false, forall_eq_or_imp, forall_eq, and_self, and_true, true_and, implies_true, NoRef.bool_eq, NoRef.int_eq, NoRef.str_eq, NoRef.nilp_eq, NoRef.nili_eq, NoRef.nilf_eq, NoRef.agg_eq, NoRef.tup_eq, NoRef.ifc_eq, NoRef.fn_nil, NoRef.fn_eq, nr_lab, nr_val, nr_exa, nr_dset, nr_req, nr_byte, nr_bytes, nr_strs, nr_vals, nr_labs, nr_exas, nr_ints]⟩
  simp only [List.map_cons, List.map_nil, fg_int, fg_str, fg_bool, fg_nilp, fg_nili, fg_fn, fg_sl, fg_agg, fg_tup, fg_lab, fg_val, fg_exa, fg_dset, fg_req, fg_bytes, fg_ints, fg_strs, fg_vals, fg_labs, fg_exas]
  refine .of_run is120 (by simp) (mw_sound 200 ?_)
  have h119 := c119 hg b .unk a hb
  have hR : rdAt rdI b a = match rdAt rdU b a with
    | .error e => .error e
    | .ok (k, r) => .ok (zag k, r) := by
    unfold rdAt
    split
    · rfl
    · unfold rdI Rd.map
      cases rdU (b.drop a.toNat) <;> rfl
  rw [hR]
  have he := fun e => rdAt_err (b := b) (a := a) (e := e)
  have hk : ∀ k r, rdAt rdU b a = .ok (k, r) → k < 18446744073709551616 := by
    intro k r h
    unfold rdAt at h
    split at h
    · cases h
    · exact (codec_U.bwd _ _ _ h).1
  generalize rdAt rdU b a = R at h119 he hk ⊢
  cases R with
  | error e =>
    have he := he e rfl
    have hne : (e != 0) = true := by rcases he with rfl | rfl | rfl <;> rfl
    simp only [outR] at h119
    repeat' first
      | with_reducible first | refine mw_as m120.eq_1 ?_ | refine CallK.pure (h119) hg rfl ?_ | refine PCallK.pure (h119) hg rfl (fun _ => by first | exact of_eq_true InvS_refl | simp only [InvS_nil, InvS_cons, get_if, InvS_refl, and_self]) ?_ | refine ⟨?_, ?_⟩ | intro _
      | simp only [go_sem, ↓reduceIte, Nat.reduceAdd, Nat.reduceLeDiff, Nat.reduceEqDiff, Nat.reduceBEq, Nat.reduceBNe, Nat.reduceMul, Nat.reduceLT, reduceCtorEq, Int.reduceLT, Int.reduceLE, Int.reduceToNat, Int.reduceNeg,  hne]
    rfl
  | ok x =>
    obtain ⟨k, r⟩ := x
    have hk := hk k r rfl
    simp only [outR] at h119
    have h1 : IntKind.i64.wrap (ishr .u64 (k : Int) 1) = ((k / 2 : Nat) : Int) := by
      rw [ishr_nat _ _ _ (by decide)]
      exact wrap_i64_in (by simp; omega) (by simp; omega)
    have h2 : iand .u64 (k : Int) 1 = ((k % 2 : Nat) : Int) := iand1 k hk
    have h3 : IntKind.i64.wrap ((k % 2 : Nat) : Int) = ((k % 2 : Nat) : Int) := wrap_i64_in (by omega) (by omega)
    have h0 : ((0 : Int) != 0) = false := rfl
    repeat' first
      | with_reducible first | refine mw_as m120.eq_1 ?_ | refine CallK.pure (h119) hg rfl ?_ | refine PCallK.pure (h119) hg rfl (fun _ => by first | exact of_eq_true InvS_refl | simp only [InvS_nil, InvS_cons, get_if, InvS_refl, and_self]) ?_ | refine ⟨?_, ?_⟩ | intro _
      | simp only [go_sem, ↓reduceIte, Nat.reduceAdd, Nat.reduceLeDiff, Nat.reduceEqDiff, Nat.reduceBEq, Nat.reduceBNe, Nat.reduceMul, Nat.reduceLT, reduceCtorEq, Int.reduceLT, Int.reduceLE, Int.reduceToNat, Int.reduceNeg,  h1, h2, h3, h0]
    rw [zag_bits hk]
    rfl
theorem byte_neD (s : UInt8) (z : Int) : (((s.toNat : Int) != IntKind.u8.wrap z) : Bool) = !decide (s = byteOf z) := by
  have h : 0 ≤ IntKind.u8.wrap z ∧ IntKind.u8.wrap z < 256 := by rw [wrap_u8]; omega
  rw [Bool.eq_iff_iff]
  simp only [bne_iff_ne, ne_eq, Bool.not_eq_true', decide_eq_false_iff_not]
  refine not_congr ⟨fun e => ?_, fun e => ?_⟩
  · unfold byteOf
    rw [← e]
    simp
  · rw [e, byteOf]
    simp
    omega
theorem byte_neF {s : UInt8} {z : Int} (h : s = byteOf z) : (((s.toNat : Int) != IntKind.u8.wrap z) : Bool) = false := by
  rw [byte_neD, decide_eq_true h]
  rfl
theorem c25 (hg : GlNR gl) (b : Bytes) (t : STok) (a : Int) (hb : b.length < 4294960000) : Pure Tryz.prog gl 25 [.sl 1 (b.map byteAV) t, .int .i64 a] (.ok (outR (fun p : Bytes => .sl 1 (p.map byteAV) .unk) (.sl 1 [] .unk) b (rdAt rdF b a))) := by
  refine Pure.ofFg ?_ (by simp only [List.map_cons, List.map_nil, fg_int, fg_str, fg_bool, fg_nilp, fg_nili, fg_fn, fg_sl, fg_agg, fg_tup, fg_lab, fg_val, fg_exa, fg_dset, fg_req, fg_bytes, fg_ints, fg_strs, fg_vals, fg_labs, fg_exas, noRef_ok, noRef_pan, List.mem_cons, List.not_mem_nil, or_false, forall_eq_or_imp, forall_eq, and_self, and_true, true_and, implies_true, NoRef.bool_eq, NoRef.int_eq, NoRef.str_eq, NoRef.nilp_eq, NoRef.nili_eq, NoRef.nilf_eq, NoRef.agg_eq, NoRef.tup_eq, NoRef.ifc_eq, NoRef.fn_nil, NoRef.fn_eq, nr_lab, nr_val, nr_exa, nr_dset, nr_req, nr_byte, nr_bytes, nr_strs, nr_vals, nr_labs, nr_exas, nr_ints]) (by unfold outR; split <;> simp only [noRef_ok, noRef_pan, List.mem_cons, List.not_mem_nil, or_false, forall_eq_or_imp, forall_eq, and_self, and_true, true_and, implies_true, NoRef.bool_eq, NoRef.int_eq, NoRef.str_eq, NoRef.nilp_eq, NoRef.nili_eq, NoRef.nilf_eq, NoRef.agg_eq, NoRef.tup_eq, NoRef.ifc_eq, NoRef.fn_nil, NoRef.fn_eq, nr_lab, nr_val, nr_exa, nr_dset, nr_req, nr_byte, nr_bytes, nr_strs, nr_vals, nr_labs, nr_exas, nr_ints, nr_nil1])
  simp only [List.map_cons, List.map_nil, fg_int, fg_str, fg_bool, fg_nilp, fg_nili, fg_fn, fg_sl, fg_agg, fg_tup, fg_lab, fg_val, fg_exa, fg_dset, fg_req, fg_bytes, fg_ints, fg_strs, fg_vals, fg_labs, fg_exas]
  refine .of_runD is25 (by simp) (mw_sound 200 ?_)
  have fin : ∀ (ob : List (Nat × List AV)) (n nt : Nat) (live : List Nat) (F : Fr) (e : Int), List.lookup 4 F = some (.sl 1 [] .exact) → List.lookup 5 F = some (.ptr 0 0) → List.lookup 6 F = some (.ptr 1 0) → List.lookup 0 ob = some [.int .i64 0] → List.lookup 1 ob = some [.int .i64 0] →
      endQD Tryz.prog [RV.t 4, RV.c 5 1 false, RV.c 6 1 false] (fun o' x => FgOut o' (outR (fun p : Bytes => .sl 1 (p.map byteAV) .unk) (.sl 1 [] .unk) b (.error e))) (some (errA e)) [(Fn.func 69, [AV.ptr 0 0, AV.ptr 1 0], [])] F ⟨n, ob, nt, live, gl⟩ := by
    intro ob n nt live F e h4 h5 h6 h0 h1
    refine ⟨69, rfl, Tryz.call69, (c69e (S := ⟨n, ob, nt, live, gl⟩) (x := 0) (y := 0) h0 h1 (by decide)).mono fun o S' h => ?_⟩
    obtain ⟨rfl, rfl⟩ := h
    simp only [rvsEv, rvEv, Fr.get, h4, h5, h6]
    rfl
  by_cases ha : a < 0 ∨ (b.length : Int) < a
  · have hR : rdAt rdF b a = .error 1 := by unfold rdAt; rw [if_pos ha]
    rw [hR]
    have h70 := fun n nt live ob => c70p (gl := gl) (n := n) (nt := nt) (live := live) (ob := ob) b .unk a ha
    repeat' first
      | with_reducible first | refine mw_as m25.eq_1 ?_ | refine opn m25k0.eq_1 ?_ | refine opn m25k2.eq_1 ?_ | refine CallK.effPan (h70 _ _ _ _) ?_ | refine PCallK.effPan (h70 _ _ _ _) ?_ | refine ⟨?_, ?_⟩ | intro _
      | simp only [go_sem, ↓reduceIte, Nat.reduceAdd, Nat.reduceLeDiff, Nat.reduceEqDiff, Nat.reduceBEq, Nat.reduceBNe, Nat.reduceMul, Nat.reduceLT, reduceCtorEq, Int.reduceLT, Int.reduceLE, Int.reduceToNat, Int.reduceNeg]
    exact fin _ _ _ _ _ _ rfl rfl rfl rfl rfl
  · have hR : rdAt rdF b a = rdF (b.drop a.toNat) := by unfold rdAt; rw [if_neg ha]
    rw [hR]
    obtain ⟨m, rfl⟩ : ∃ m : Nat, a = m := ⟨a.toNat, by omega⟩
    have h70 := fun n nt live ob => c70 (gl := gl) (n := n) (nt := nt) (live := live) (ob := ob) b .unk m (by omega)
    have h71 := c71 (gl := gl) hg (n := 3) (nt := 0) (live := []) (l := 2) (ob := [(1, [.int .i64 0]), (0, [.int .i64 0])]) rfl b .unk m (by omega) (by omega)
    rw [Int.toNat_natCast]
    unfold rdF
    cases hU : rdU (b.drop m) with
    | error e =>
      rw [hU] at h71
      repeat' first
        | with_reducible first | refine mw_as m25.eq_1 ?_ | refine opn m25k0.eq_1 ?_ | refine opn m25k2.eq_1 ?_ | refine CallK.eff (h70 _ _ _ _) ?_ | refine CallK.effPan (h71) ?_ | refine PCallK.effPan (h71) ?_ | refine ⟨?_, ?_⟩ | intro _
        | simp only [go_sem, ↓reduceIte, Nat.reduceAdd, Nat.reduceLeDiff, Nat.reduceEqDiff, Nat.reduceBEq, Nat.reduceBNe, Nat.reduceMul, Nat.reduceLT, reduceCtorEq, Int.reduceLT, Int.reduceLE, Int.reduceToNat, Int.reduceNeg]
      exact fin _ _ _ _ _ _ rfl rfl rfl rfl rfl
    | ok x =>
      obtain ⟨k, r⟩ := x
      obtain ⟨hk, hr, hd⟩ := rdU_rest (by omega) hU
      rw [hU] at h71
      simp only at h71 ⊢
      by_cases hk2 : 8192 < k
      · rw [if_pos hk2]
        have hd2 : decide (8192 < (k : Int)) = true := decide_eq_true (by omega)
        repeat' first
          | with_reducible first | refine mw_as m25.eq_1 ?_ | refine opn m25k0.eq_1 ?_ | refine opn m25k2.eq_1 ?_ | refine CallK.eff (h70 _ _ _ _) ?_ | refine CallK.eff (h71) ?_ | refine ⟨?_, ?_⟩ | intro _
          | simp only [go_sem, ↓reduceIte, Nat.reduceAdd, Nat.reduceLeDiff, Nat.reduceEqDiff, Nat.reduceBEq, Nat.reduceBNe, Nat.reduceMul, Nat.reduceLT, reduceCtorEq, Int.reduceLT, Int.reduceLE, Int.reduceToNat, Int.reduceNeg,  hd2]
        exact fin _ _ _ _ _ _ rfl rfl rfl rfl rfl
      · rw [if_neg hk2]
        have hd2 : decide (8192 < (k : Int)) = false := decide_eq_false (by omega)
        have hw4 : IntKind.u64.wrap ((k : Int) + 4) = ((k + 4 : Nat) : Int) := by rw [wrap_u64_in (by omega) (by omega)]; omega
        by_cases hkr : r.length < k + 4
        · rw [if_pos hkr]
          have h72 := c72p (gl := gl) (n := 3) (nt := 0) (live := []) (l := 2) (ob := [(1, [.int .i64 0]), (0, [.int .i64 0])]) b .unk (b.length - r.length) (k + 4) (by omega) (by omega) (by omega) (by omega)
          repeat' first
            | with_reducible first | refine mw_as m25.eq_1 ?_ | refine opn m25k0.eq_1 ?_ | refine opn m25k2.eq_1 ?_ | refine CallK.eff (h70 _ _ _ _) ?_ | refine CallK.eff (h71) ?_ | refine CallK.effPan (h72) ?_ | refine PCallK.effPan (h72) ?_ | refine ⟨?_, ?_⟩ | intro _
            | simp only [go_sem, ↓reduceIte, Nat.reduceAdd, Nat.reduceLeDiff, Nat.reduceEqDiff, Nat.reduceBEq, Nat.reduceBNe, Nat.reduceMul, Nat.reduceLT, reduceCtorEq, Int.reduceLT, Int.reduceLE, Int.reduceToNat, Int.reduceNeg,  hd2, hw4]
          exact fin _ _ _ _ _ _ rfl rfl rfl rfl rfl
        · rw [if_neg hkr]
          have h72 := c72 (gl := gl) (n := 3) (nt := 0) (live := []) (l := 2) (ob := [(1, [.int .i64 0]), (0, [.int .i64 0])]) b .unk (b.length - r.length) (k + 4) (by omega) (by omega)
          rw [hd] at h72
          have hPl : (r.take k).length = k := by rw [List.length_take]; omega
          have h73 := c73 hg (r.take k) .unk (by omega)
          obtain ⟨s0, s1, s2, s3, h4s⟩ : ∃ s0 s1 s2 s3, (r.drop k).take 4 = [s0, s1, s2, s3] := by
            have h4l : ((r.drop k).take 4).length = 4 := by rw [List.length_take, List.length_drop]; omega
            match (r.drop k).take 4, h4l with
            | [x0, x1, x2, x3], _ => exact ⟨_, _, _, _, rfl⟩
          have hA : r.take (k + 4) = r.take k ++ [s0, s1, s2, s3] := by rw [List.take_add, h4s]
          rw [hA] at h72
          rw [h4s]
          have hnx : b.length - r.length + (k + 4) = b.length - (r.drop (k + 4)).length := by rw [List.length_drop]; omega
          generalize r.take k = P at *
          have hAl : (P ++ [s0, s1, s2, s3]).length = k + 4 := by simp; omega
          have htk : (P ++ [s0, s1, s2, s3]).take k = P := by rw [← hPl, List.take_left]
          have a0 : (P ++ [s0, s1, s2, s3])[k]? = some s0 := by rw [List.getElem?_append_right (by omega), hPl, Nat.sub_self]; rfl
          have a1 : (P ++ [s0, s1, s2, s3])[k + 1]? = some s1 := by rw [List.getElem?_append_right (by omega), hPl, show k + 1 - k = 1 by omega]; rfl
          have a2 : (P ++ [s0, s1, s2, s3])[k + 2]? = some s2 := by rw [List.getElem?_append_right (by omega), hPl, show k + 2 - k = 2 by omega]; rfl
          have a3 : (P ++ [s0, s1, s2, s3])[k + 3]? = some s3 := by rw [List.getElem?_append_right (by omega), hPl, show k + 3 - k = 3 by omega]; rfl
          generalize P ++ [s0, s1, s2, s3] = A at *
          have hw1 : IntKind.u64.wrap ((k : Int) + 1) = ((k + 1 : Nat) : Int) := by rw [wrap_u64_in (by omega) (by omega)]; omega
          have hw2 : IntKind.u64.wrap ((k : Int) + 2) = ((k + 2 : Nat) : Int) := by rw [wrap_u64_in (by omega) (by omega)]; omega
          have hw3 : IntKind.u64.wrap ((k : Int) + 3) = ((k + 3 : Nat) : Int) := by rw [wrap_u64_in (by omega) (by omega)]; omega
          by_cases hs : [s0, s1, s2, s3] = sumB P
          · rw [if_pos hs]
            simp only [sumB, List.cons.injEq, and_true] at hs
            obtain ⟨e0, e1, e2, e3⟩ := hs
            have q0 := byte_neF e0
            have q1 := byte_neF e1
            have q2 := byte_neF e2
            have q3 := byte_neF e3
            repeat' first
              | with_reducible first | refine mw_as m25.eq_1 ?_ | refine opn m25k0.eq_1 ?_ | refine opn m25k2.eq_1 ?_ | refine CallK.eff (h70 _ _ _ _) ?_ | refine CallK.eff (h71) ?_ | refine CallK.eff (h72) ?_ | refine CallK.pure (h73) hg rfl ?_ | refine PCallK.pure (h73) hg rfl (fun _ => by first | exact of_eq_true InvS_refl | simp only [InvS_nil, InvS_cons, get_if, InvS_refl, and_self]) ?_ | refine ⟨?_, ?_⟩ | intro _
              | simp only [go_sem, ↓reduceIte, Nat.reduceAdd, Nat.reduceLeDiff, Nat.reduceEqDiff, Nat.reduceBEq, Nat.reduceBNe, Nat.reduceMul, Nat.reduceLT, reduceCtorEq, Int.reduceLT, Int.reduceLE, Int.reduceToNat, Int.reduceNeg,  hd2, hw4, hw1, hw2, hw3, ← List.map_take, htk, a0, a1, a2, a3, q0, q1, q2, q3, byteAV, hAl]
            all_goals first
              | omega
              | skip
            refine mw_tail m25k1.eq_1 ?_
            simp only [go_sem, ↓reduceIte, Nat.reduceAdd, Nat.reduceLeDiff, Nat.reduceEqDiff, Nat.reduceBEq, Nat.reduceBNe, Nat.reduceMul, Nat.reduceLT, reduceCtorEq, Int.reduceLT, Int.reduceLE, Int.reduceToNat, Int.reduceNeg, hAl, htk, ← List.map_take]
            refine ⟨by omega, MRun.ret ?_⟩
            refine ⟨69, rfl, Tryz.call69, c69n.mono fun o S' h => ?_⟩
            obtain ⟨rfl, rfl⟩ := h
            rw [hnx]
            refine FgOut.mk' ?_
            show AV.fg (.tup [.sl 1 (P.map byteAV) .exact, .int .i64 _, .int .i64 0]) = _
            simp only [outR, List.map_cons, List.map_nil, fg_int, fg_str, fg_bool, fg_nilp, fg_nili, fg_fn, fg_sl, fg_agg, fg_tup, fg_lab, fg_val, fg_exa, fg_dset, fg_req, fg_bytes, fg_ints, fg_strs, fg_vals, fg_labs, fg_exas]
          · rw [if_neg hs]
            have q0 := byte_neD s0 (crcX 0 P)
            have q1 := byte_neD s1 (ishr .u32 (crcX 0 P) 8)
            have q2 := byte_neD s2 (ishr .u32 (crcX 0 P) 16)
            have q3 := byte_neD s3 (ishr .u32 (crcX 0 P) 24)
            simp only [sumB, List.cons.injEq, and_true] at hs
            repeat' first
              | with_reducible first | refine mw_as m25.eq_1 ?_ | refine opn m25k0.eq_1 ?_ | refine opn m25k2.eq_1 ?_ | refine CallK.eff (h70 _ _ _ _) ?_ | refine CallK.eff (h71) ?_ | refine CallK.eff (h72) ?_ | refine CallK.pure (h73) hg rfl ?_ | refine PCallK.pure (h73) hg rfl (fun _ => by first | exact of_eq_true InvS_refl | simp only [InvS_nil, InvS_cons, get_if, InvS_refl, and_self]) ?_ | refine ⟨?_, ?_⟩ | intro _
              | simp only [go_sem, ↓reduceIte, Nat.reduceAdd, Nat.reduceLeDiff, Nat.reduceEqDiff, Nat.reduceBEq, Nat.reduceBNe, Nat.reduceMul, Nat.reduceLT, reduceCtorEq, Int.reduceLT, Int.reduceLE, Int.reduceToNat, Int.reduceNeg,  hd2, hw4, hw1, hw2, hw3, ← List.map_take, htk, a0, a1, a2, a3, q0, q1, q2, q3, byteAV, hAl]
            all_goals first
              | omega
              | exact fin _ _ _ _ _ _ rfl rfl rfl rfl rfl
              | (exfalso; grind)
end Go.Proofs.YtdjdhecanjmchaaGreatDoor
