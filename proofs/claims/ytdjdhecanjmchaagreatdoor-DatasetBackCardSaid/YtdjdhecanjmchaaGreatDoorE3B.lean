/- Contracts: what appends numbers, texts, frames and values. -/
import Derived.Test.YtdjdhecanjmchaaGreatDoorFaB
import Derived.Test.YtdjdhecanjmchaaGreatDoorFbB
import Derived.Test.YtdjdhecanjmchaaGreatDoorFcB
import Derived.Test.YtdjdhecanjmchaaGreatDoorHaB
import Derived.Test.YtdjdhecanjmchaaGreatDoorP8B
import Derived.Test.YtdjdhecanjmchaaGreatDoorE2B
set_option linter.unusedSimpArgs false
set_option linter.unusedVariables false
namespace Go.Proofs.YtdjdhecanjmchaaGreatDoor
open Go Go.V Go.Lib
set_option maxRecDepth 40000
attribute [local go_sem ↓] mw_nil mw_inBlock mw_inLoop mw_skip mw_seq mw_block mw_exit mw_ret mw_named mw_loop mw_cond mw_reg mw_any mw_dfr KW_none KW_some KD_none KD_some mexit_inBlock mexit_code mexit_inLoop moK_nil moK_k moK_panic moK_call moK_guard plK_done plK_k plK_call plK_guard plK_two shel_load protOf_nil protOf_cons putF_some putF_none lookup_if get_if set_eq Fr.get_cons keepK Opd.ev MK.ev MK.ob
attribute [local go_sem high] cdK_true cdK_false gdK_tt gdK_ff gdK_tf gdK_ft gdK_tup pgdK_tt pgdK_ff pgdK_tf pgdK_ft pgdK_tup dfK_fn evK_some pevK_some clK_fn pclK_fn pnK_ifc exK_some
attribute [local go_sem] InvS_refl InvS_nil InvS_cons QPin_endQ List.mem_cons List.not_mem_nil or_true true_or or_false false_or List.lookup_nil List.map_cons List.map_nil Option.map_some Option.map_none Option.bind_some Option.bind_none List.nil_append List.append_nil List.cons_append binEv binOb intOp strOp unEv eqvEv eqCells eqCell isBld_nil isBld_two isBld_bool isBld_int isBld_str isBld_nilp isBld_ptr isBld_gp isBld_eptr isBld_sl isBld_fn isBld_nilf isBld_ifc isBld_nili isBld_agg isBld_bld noBld tasEv AV.there AV.plus pickCells storeEv AV.solid AV.cells splice putParts rowOK fldEv iarrEv extEv minEv nonNil lenEv isStr appEv appOb appArg able_exact able_use slVecEv slVecOb slStrEv slStrOb bnd ne_1 ne_2 ne_3 ne_4 ne_1' ne_2' ne_3' ne_4' List.getElem?_map argF endQ rvsEv rvEv resOf St.none List.length_cons List.length_nil List.take_succ_cons List.take_zero List.drop_succ_cons List.drop_zero List.getElem?_cons_zero List.getElem?_cons_succ List.all_cons List.all_nil if_true if_false ite_self decide_true decide_false Bool.and_true Bool.true_and Bool.and_false Bool.false_and Bool.not_true Bool.not_false beq_self_eq_true bne_self_eq_false Nat.zero_add Nat.add_zero Bool.false_eq_true Bool.true_eq_false eq_self ne_eq not_true_eq_false not_false_eq_true true_and and_true and_self false_and and_false true_implies false_implies implies_true forall_const Nat.zero_le Nat.le_refl Option.isNone_none Option.isNone_some Option.isSome_some Option.isSome_none Nat.succ_ne_self Int.toNat_natCast Int.toNat_zero List.length_map List.take_length Out.ok.injEq AV.int.injEq AV.bool.injEq AV.str.injEq AV.tup.injEq Lab.av Val.av Exa.av Dset.av Req.av AV.agg.injEq List.cons.injEq ge_iff_le gt_iff_lt Int.natCast_nonneg Bool.not_eq_true Bool.not_eq_false cond_or cond_and cond_tl cond_fr cond_fl cond_tr merge_sameT merge_sameF mergeT0 mergeF0 mergeT1 mergeF1 mergeT2 mergeF2 mergeT3 mergeF3 mergeT4 mergeF4 mergeT5 mergeF5 mergeT6 mergeF6 mergeT7 mergeF7 mergeT8 mergeF8 mergeT9 mergeF9 cdK_bool gdK_bool pgdK_bool
variable {gl : List (Nat × List AV)}
theorem nrcB (l : Bytes) : ∀ x ∈ l.map byteAV, ∀ c ∈ x.cells, NoRef c := by
  intro x hx
  obtain ⟨a, _, rfl⟩ := List.mem_map.1 hx
  exact of_eq_true (nrc_byte a)
theorem c57 (hg : GlNR gl) (bs : Bytes) (t : STok) (n : Nat) (hn : n < 18446744073709551616) (hb : bs.length ≤ 1099511627776) : Toks Tryz.prog gl 57 [.sl 1 (bs.map byteAV) t, .int .u64 n] 1 ((bs ++ uvar n).map byteAV) := by
  refine ⟨?_, by simp only [List.map_cons, List.map_nil, fg_int, fg_str, fg_bool, fg_nilp, fg_nili, fg_fn, fg_sl, fg_agg, fg_tup, fg_lab, fg_val, fg_exa, fg_dset, fg_req, fg_bytes, fg_ints, fg_strs, fg_vals, fg_labs, fg_exas, noRef_ok, noRef_pan, List.mem_cons, List.not_mem_nil, or_false, forall_eq_or_imp, forall_eq, and_self, and_true, true_and, implies_true, NoRef.bool_eq, NoRef.int_eq, NoRef.str_eq, NoRef.nilp_eq, NoRef.nili_eq, NoRef.nilf_eq, NoRef.agg_eq, NoRef.tup_eq, NoRef.ifc_eq, NoRef.fn_nil, NoRef.fn_eq, nr_lab, nr_val, nr_exa, nr_dset, nr_req, nr_byte, nr_bytes, nr_strs, nr_vals, nr_labs, nr_exas, nr_ints], nrcB _⟩
  simp only [List.map_cons, List.map_nil, fg_int, fg_str, fg_bool, fg_nilp, fg_nili, fg_fn, fg_sl, fg_agg, fg_tup, fg_lab, fg_val, fg_exa, fg_dset, fg_req, fg_bytes, fg_ints, fg_strs, fg_vals, fg_labs, fg_exas]
  refine .of_run is57 (by simp) (mw_sound 60 ?_)
  unfold m57
  simp only [go_sem, ↓reduceIte, Nat.reduceAdd, Nat.reduceLeDiff, Nat.reduceEqDiff, Nat.reduceBEq, Nat.reduceBNe, Nat.reduceMul, Nat.reduceLT, reduceCtorEq, Int.reduceLT, Int.reduceLE, Int.reduceToNat, Int.reduceNeg]
  refine ⟨by simp, ?_⟩
  refine .loop (fun F S => ∃ (cs : List UInt8) (m f : Nat) (tk : STok) (nt : Nat) (live : List Nat), F = [(1, .int .u64 m), (4, .sl 1 ((bs ++ cs).map byteAV) tk)] ∧ S = ⟨0, [], nt, live, gl⟩ ∧ Able S tk ∧ m < 128 ^ (f + 1) ∧ cs.length + f ≤ 9 ∧ cs ++ uvarF f m = uvarF 9 n)
    (fun F _ => match F with | (_, .int _ m) :: _ => m.toNat | _ => 0) ⟨[], n, 9, .exact, 0, [], by simp [List.take_of_length_le], rfl, .inl rfl, by omega, by simp, by simp⟩ ?_
  rintro F S ⟨cs, m, f, tk, nt, live, rfl, rfl, hab, hm, hl, hc⟩ ih
  refine opn m57l0.eq_1 ?_
  simp only [go_sem, ↓reduceIte, Nat.reduceAdd, Nat.reduceLeDiff, Nat.reduceEqDiff, Nat.reduceBEq, Nat.reduceBNe, Nat.reduceMul, Nat.reduceLT, reduceCtorEq, Int.reduceLT, Int.reduceLE, Int.reduceToNat, Int.reduceNeg, hab]
  refine ⟨fun h => ⟨by simp; omega, ?_⟩, fun h => ?_⟩
  · have hm1 : 128 ≤ m := by simp at h; omega
    obtain ⟨f, rfl⟩ : ∃ f', f = f' + 1 := ⟨f - 1, by cases f with | zero => simp at hm; omega | succ f => simp⟩
    refine ih _ _ ⟨cs ++ [UInt8.ofNat (m % 128 + 128)], m / 128, f, _, _, _, ?_, rfl, able_use _ _, by rw [Nat.pow_succ] at hm; omega, by simp; omega, ?_⟩ ?_
    · rw [byte_or128, ishr_nat _ _ _ (by decide)]
      simp
    · rw [← hc]
      conv => rhs; unfold uvarF
      rw [if_neg (by omega)]
      simp
    · simp only [ishr_nat .u64 m 7 (by decide)]
      simp
      omega
  · have hm1 : m < 128 := by simp at h; omega
    refine opn m57k0.eq_1 ?_
    simp only [go_sem, ↓reduceIte, Nat.reduceAdd, Nat.reduceLeDiff, Nat.reduceEqDiff, Nat.reduceBEq, Nat.reduceBNe, Nat.reduceMul, Nat.reduceLT, reduceCtorEq, Int.reduceLT, Int.reduceLE, Int.reduceToNat, Int.reduceNeg, hab]
    refine ⟨by simp; omega, nt, ?_, by simp [St.use]⟩
    have : uvarF f m = [UInt8.ofNat m] := by
      cases f with
      | zero => rfl
      | succ f => unfold uvarF; rw [if_pos hm1]
    rw [show uvar n = uvarF 9 n from rfl, ← hc, this, wrap_u8, byte_mod]
    simp
theorem xor_ones (x : Int) (h0 : 0 ≤ x) (h1 : x < 18446744073709551616) : ixor .u64 x 18446744073709551615 = 18446744073709551615 - x := by
  have h2 : (BitVec.ofInt 64 18446744073709551615 : BitVec 64) = BitVec.allOnes 64 := by decide
  have h3 : (BitVec.ofInt 64 x).toNat = x.toNat := by
    rw [BitVec.toNat_ofInt]; omega
  have h4 : (BitVec.ofInt 64 x ^^^ BitVec.allOnes 64).toNat = 18446744073709551615 - x.toNat := by
    rw [BitVec.xor_allOnes, BitVec.toNat_not, h3]
  show IntKind.u64.wrap (BitVec.ofInt 64 x ^^^ BitVec.ofInt 64 18446744073709551615).toNat = _
  rw [h2, h4, wrap_u64]
  omega
theorem zig_bits {n : Int} (h0 : -9223372036854775808 ≤ n) (h1 : n ≤ 9223372036854775807) : ixor .u64 (ishl .u64 (IntKind.u64.wrap n) 1) (IntKind.u64.wrap (ishr .i64 n 63)) = (zig n : Nat) := by
  have h2 : ishr .i64 n 63 = if 0 ≤ n then 0 else -1 := by
    show n.fdiv (2 ^ 63) = _
    rw [Int.fdiv_eq_ediv_of_nonneg _ (by decide)]
    split <;> omega
  have h3 : ishl .u64 (IntKind.u64.wrap n) 1 = if 0 ≤ n then 2 * n else 2 * n + 18446744073709551616 := by
    show IntKind.u64.wrap (IntKind.u64.wrap n * 2 ^ 1) = _
    rw [wrap_u64, wrap_u64]
    split <;> omega
  rw [h2, h3]
  unfold zig
  split
  · rw [wrap_u64, show (0 : Int) % 18446744073709551616 = 0 from rfl]
    show IntKind.u64.wrap (BitVec.ofInt 64 (2 * n) ^^^ BitVec.ofInt 64 0).toNat = _
    rw [show (BitVec.ofInt 64 0 : BitVec 64) = 0#64 from rfl, BitVec.xor_zero, BitVec.toNat_ofInt, wrap_u64]
    omega
  · rw [wrap_u64, show (-1 : Int) % 18446744073709551616 = 18446744073709551615 from rfl, xor_ones _ (by omega) (by omega)]
    omega
theorem c58 (hg : GlNR gl) (bs s : Bytes) (t : STok) (hs : s.length < 4294967296) (hb : bs.length ≤ 1099511627776) : Toks Tryz.prog gl 58 [.sl 1 (bs.map byteAV) t, .str s] 1 ((bs ++ textE s).map byteAV) := by
  refine ⟨?_, by simp only [List.map_cons, List.map_nil, fg_int, fg_str, fg_bool, fg_nilp, fg_nili, fg_fn, fg_sl, fg_agg, fg_tup, fg_lab, fg_val, fg_exa, fg_dset, fg_req, fg_bytes, fg_ints, fg_strs, fg_vals, fg_labs, fg_exas, noRef_ok, noRef_pan, List.mem_cons, List.not_mem_nil, or_false, forall_eq_or_imp, forall_eq, and_self, and_true, true_and, implies_true, NoRef.bool_eq, NoRef.int_eq, NoRef.str_eq, NoRef.nilp_eq, NoRef.nili_eq, NoRef.nilf_eq, NoRef.agg_eq, NoRef.tup_eq, NoRef.ifc_eq, NoRef.fn_nil, NoRef.fn_eq, nr_lab, nr_val, nr_exa, nr_dset, nr_req, nr_byte, nr_bytes, nr_strs, nr_vals, nr_labs, nr_exas, nr_ints], nrcB _⟩
  simp only [List.map_cons, List.map_nil, fg_int, fg_str, fg_bool, fg_nilp, fg_nili, fg_fn, fg_sl, fg_agg, fg_tup, fg_lab, fg_val, fg_exa, fg_dset, fg_req, fg_bytes, fg_ints, fg_strs, fg_vals, fg_labs, fg_exas]
  refine .of_run is58 (by simp) (mw_sound 200 ?_)
  have h57 := c57 hg bs .unk s.length (by omega) hb
  have hw : IntKind.u64.wrap (s.length : Int) = s.length := by rw [wrap_u64]; omega
  have hul := uvar_le s.length
  repeat' first
    | with_reducible first | refine mw_as m58.eq_1 ?_ | refine CallK.toks (h57) hg rfl ?_ | refine PCallK.toks (h57) hg rfl (fun _ => by first | exact of_eq_true InvS_refl | simp only [InvS_nil, InvS_cons, get_if, InvS_refl, and_self]) ?_ | refine ⟨?_, ?_⟩ | intro _
    | simp only [go_sem, ↓reduceIte, Nat.reduceAdd, Nat.reduceLeDiff, Nat.reduceEqDiff, Nat.reduceBEq, Nat.reduceBNe, Nat.reduceMul, Nat.reduceLT, reduceCtorEq, Int.reduceLT, Int.reduceLE, Int.reduceToNat, Int.reduceNeg,  hw]
  · exact .inr ⟨_, rfl, by simp [St.own]⟩
  · simp
    omega
  · simp
    omega
  rotate_left
  · simp only [textE, List.map_append, List.append_assoc]
    rfl
  · simp [St.own, St.use]
theorem c60 (hg : GlNR gl) (bs : Bytes) (t : STok) (n : Int) (hn : -9223372036854775808 ≤ n) (hn2 : n ≤ 9223372036854775807) (hb : bs.length ≤ 1099511627776) : Toks Tryz.prog gl 60 [.sl 1 (bs.map byteAV) t, .int .i64 n] 1 ((bs ++ uvar (zig n)).map byteAV) := by
  refine ⟨?_, by simp only [List.map_cons, List.map_nil, fg_int, fg_str, fg_bool, fg_nilp, fg_nili, fg_fn, fg_sl, fg_agg, fg_tup, fg_lab, fg_val, fg_exa, fg_dset, fg_req, fg_bytes, fg_ints, fg_strs, fg_vals, fg_labs, fg_exas, noRef_ok, noRef_pan, List.mem_cons, List.not_mem_nil, or_false, forall_eq_or_imp, forall_eq, and_self, and_true, true_and, implies_true, NoRef.bool_eq, NoRef.int_eq, NoRef.str_eq, NoRef.nilp_eq, NoRef.nili_eq, NoRef.nilf_eq, NoRef.agg_eq, NoRef.tup_eq, NoRef.ifc_eq, NoRef.fn_nil, NoRef.fn_eq, nr_lab, nr_val, nr_exa, nr_dset, nr_req, nr_byte, nr_bytes, nr_strs, nr_vals, nr_labs, nr_exas, nr_ints], nrcB _⟩
  simp only [List.map_cons, List.map_nil, fg_int, fg_str, fg_bool, fg_nilp, fg_nili, fg_fn, fg_sl, fg_agg, fg_tup, fg_lab, fg_val, fg_exa, fg_dset, fg_req, fg_bytes, fg_ints, fg_strs, fg_vals, fg_labs, fg_exas]
  refine .of_run is60 (by simp) (mw_sound 200 ?_)
  have h57 := c57 hg bs .unk (zig n) (by unfold zig; split <;> omega) hb
  have hz := zig_bits hn hn2
  repeat' first
    | with_reducible first | refine mw_as m60.eq_1 ?_ | refine CallK.toks (h57) hg rfl ?_ | refine PCallK.toks (h57) hg rfl (fun _ => by first | exact of_eq_true InvS_refl | simp only [InvS_nil, InvS_cons, get_if, InvS_refl, and_self]) ?_ | refine ⟨?_, ?_⟩ | intro _
    | simp only [go_sem, ↓reduceIte, Nat.reduceAdd, Nat.reduceLeDiff, Nat.reduceEqDiff, Nat.reduceBEq, Nat.reduceBNe, Nat.reduceMul, Nat.reduceLT, reduceCtorEq, Int.reduceLT, Int.reduceLE, Int.reduceToNat, Int.reduceNeg,  hz]
  rotate_left
  · rfl
  · simp [St.own]
theorem own_eq (n : Nat) (ob : List (Nat × List AV)) (nt : Nat) (live : List Nat) (gl : List (Nat × List AV)) : St.own ⟨n, ob, nt, live, gl⟩ = ⟨n, ob, nt + 1, nt :: live, gl⟩ := rfl
theorem chk_kinds {v : Val} (h : chkR v = 0) : ((v.kd = 0 ∧ v.n = 0 ∧ v.s = []) ∨ (v.kd = 1 ∧ (v.n = 0 ∨ v.n = 1) ∧ v.s = [])) ∨ ((v.kd = 2 ∨ v.kd = 3) ∧ v.s = [] ∧ -1152921504606846976 ≤ v.n ∧ v.n ≤ 1152921504606846976) ∨ ((v.kd = 4 ∨ v.kd = 5) ∧ v.n = 0 ∧ v.s.length ≤ 64) := by
  obtain ⟨h1, h2, h3, h4⟩ := chk_of h
  simp [rangeB] at h2
  unfold fieldsB at h1
  split at h1
  · rename_i hk
    simp at h1
    exact .inl (.inl ⟨hk, h1.1, h1.2⟩)
  · split at h1
    · rename_i hk
      simp at h1
      exact .inl (.inr ⟨hk, h1.1, h1.2⟩)
    · split at h1
      · rename_i hk
        simp at h1
        exact .inr (.inl ⟨hk, h1, h2⟩)
      · split at h1
        · rename_i hk
          simp at h1
          refine .inr (.inr ⟨hk, h1, ?_⟩)
          rcases hk with hk | hk
          · exact h3 hk
          · have := h4 hk; omega
        · cases h1
theorem byte_eq (k : Int) : (.int .u8 (IntKind.u8.wrap k) : AV) = byteAV (byteOf k) := by
  have h : 0 ≤ IntKind.u8.wrap k ∧ IntKind.u8.wrap k < 256 := by rw [wrap_u8]; omega
  simp only [byteOf]
  rw [byteAV_ofNat]
  congr 2
  omega
theorem byte_snoc (bs : Bytes) (k : Int) : bs.map byteAV ++ [.int .u8 (IntKind.u8.wrap k)] = (bs ++ [byteOf k]).map byteAV := by
  have h : 0 ≤ IntKind.u8.wrap k ∧ IntKind.u8.wrap k < 256 := by rw [wrap_u8]; omega
  rw [List.map_append]
  congr 1
  simp only [byteOf, List.map_cons, List.map_nil]
  rw [byteAV_ofNat]
  congr 3
  omega
set_option maxHeartbeats 4000000 in
theorem c61 (hg : GlNR gl) (bs : Bytes) (t : STok) (v : Val) (hv : chkR v = 0) (hb : bs.length ≤ 1000000000) : Toks Tryz.prog gl 61 [.sl 1 (bs.map byteAV) t, v.av] 1 ((bs ++ valE v).map byteAV) := by
  refine ⟨?_, by simp only [List.map_cons, List.map_nil, fg_int, fg_str, fg_bool, fg_nilp, fg_nili, fg_fn, fg_sl, fg_agg, fg_tup, fg_lab, fg_val, fg_exa, fg_dset, fg_req, fg_bytes, fg_ints, fg_strs, fg_vals, fg_labs, fg_exas, noRef_ok, noRef_pan, List.mem_cons, List.not_mem_nil, or_false, forall_eq_or_imp, forall_eq, and_self, and_true, true_and, implies_true, NoRef.bool_eq, NoRef.int_eq, NoRef.str_eq, NoRef.nilp_eq, NoRef.nili_eq, NoRef.nilf_eq, NoRef.agg_eq, NoRef.tup_eq, NoRef.ifc_eq, NoRef.fn_nil, NoRef.fn_eq, nr_lab, nr_val, nr_exa, nr_dset, nr_req, nr_byte, nr_bytes, nr_strs, nr_vals, nr_labs, nr_exas, nr_ints], nrcB _⟩
  simp only [List.map_cons, List.map_nil, fg_int, fg_str, fg_bool, fg_nilp, fg_nili, fg_fn, fg_sl, fg_agg, fg_tup, fg_lab, fg_val, fg_exa, fg_dset, fg_req, fg_bytes, fg_ints, fg_strs, fg_vals, fg_labs, fg_exas]
  refine .of_run is61 (by simp) (mw_sound 200 ?_)
  have h1 := chk_kinds hv
  obtain ⟨kd, n, s⟩ := v
  simp only at h1
  have hw : IntKind.i64.wrap ((bs.length : Int) + 16) = bs.length + 16 := wrap_i64_in (by omega) (by omega)
  have h32 := c32 (gl := gl) ⟨kd, n, s⟩ (by rcases h1 with (h1 | h1) | h1 | h1 <;> simp [h1] <;> omega)
  rw [hv] at h32
  have hx := byte_snoc bs kd
  have d01 : ((0 : Int) == 1) = false := rfl
  have d02 : ((0 : Int) == 2) = false := rfl
  have d03 : ((0 : Int) == 3) = false := rfl
  have d04 : ((0 : Int) == 4) = false := rfl
  have d05 : ((0 : Int) == 5) = false := rfl
  have d12 : ((1 : Int) == 2) = false := rfl
  have d13 : ((1 : Int) == 3) = false := rfl
  have d14 : ((1 : Int) == 4) = false := rfl
  have d15 : ((1 : Int) == 5) = false := rfl
  have d21 : ((2 : Int) == 1) = false := rfl
  have d23 : ((2 : Int) == 3) = false := rfl
  have d24 : ((2 : Int) == 4) = false := rfl
  have d25 : ((2 : Int) == 5) = false := rfl
  have d31 : ((3 : Int) == 1) = false := rfl
  have d32 : ((3 : Int) == 2) = false := rfl
  have d34 : ((3 : Int) == 4) = false := rfl
  have d35 : ((3 : Int) == 5) = false := rfl
  have d41 : ((4 : Int) == 1) = false := rfl
  have d42 : ((4 : Int) == 2) = false := rfl
  have d43 : ((4 : Int) == 3) = false := rfl
  have d45 : ((4 : Int) == 5) = false := rfl
  have d51 : ((5 : Int) == 1) = false := rfl
  have d52 : ((5 : Int) == 2) = false := rfl
  have d53 : ((5 : Int) == 3) = false := rfl
  have d54 : ((5 : Int) == 4) = false := rfl
  rcases h1 with (⟨rfl, rfl, rfl⟩ | ⟨rfl, rfl | rfl, rfl⟩) | ⟨rfl | rfl, rfl, hn, hn2⟩ | ⟨rfl | rfl, rfl, hs⟩
  · skip
    repeat' first
      | with_reducible first | refine mw_as m61.eq_1 ?_ | refine opn m61k0.eq_1 ?_ | refine opn m61k1.eq_1 ?_ | refine opn m61k2.eq_1 ?_ | refine CallK.pure (Pure.conv (h32) (by simp only [List.map_cons, List.map_nil, fg_int, fg_str, fg_bool, fg_nilp, fg_nili, fg_fn, fg_sl, fg_agg, fg_tup, fg_lab, fg_val, fg_exa, fg_dset, fg_req, fg_bytes, fg_ints, fg_strs, fg_vals, fg_labs, fg_exas])) hg rfl ?_ | refine PCallK.pure (Pure.conv (h32) (by simp only [List.map_cons, List.map_nil, fg_int, fg_str, fg_bool, fg_nilp, fg_nili, fg_fn, fg_sl, fg_agg, fg_tup, fg_lab, fg_val, fg_exa, fg_dset, fg_req, fg_bytes, fg_ints, fg_strs, fg_vals, fg_labs, fg_exas])) hg rfl (fun _ => by first | exact of_eq_true InvS_refl | simp only [InvS_nil, InvS_cons, get_if, InvS_refl, and_self]) ?_ | refine ⟨?_, ?_⟩ | intro _
      | simp only [go_sem, ↓reduceIte, Nat.reduceAdd, Nat.reduceLeDiff, Nat.reduceEqDiff, Nat.reduceBEq, Nat.reduceBNe, Nat.reduceMul, Nat.reduceLT, reduceCtorEq, Int.reduceLT, Int.reduceLE, Int.reduceToNat, Int.reduceNeg,  use_eq, own_eq, useL, hw, byte_snoc, d01, d02, d03, d04, d05]
    any_goals first
      | omega
      | exact .inr ⟨_, rfl, by simp⟩
      | (simp; done)
      | (simp; omega)
    rotate_left
    · refine congrArg (fun l => AV.sl 1 l (STok.tok _)) ?_
      simp [valE, byteOf, wrap_u8, textE]
    · simp
  · skip
    repeat' first
      | with_reducible first | refine mw_as m61.eq_1 ?_ | refine opn m61k0.eq_1 ?_ | refine opn m61k1.eq_1 ?_ | refine opn m61k2.eq_1 ?_ | refine CallK.pure (Pure.conv (h32) (by simp only [List.map_cons, List.map_nil, fg_int, fg_str, fg_bool, fg_nilp, fg_nili, fg_fn, fg_sl, fg_agg, fg_tup, fg_lab, fg_val, fg_exa, fg_dset, fg_req, fg_bytes, fg_ints, fg_strs, fg_vals, fg_labs, fg_exas])) hg rfl ?_ | refine PCallK.pure (Pure.conv (h32) (by simp only [List.map_cons, List.map_nil, fg_int, fg_str, fg_bool, fg_nilp, fg_nili, fg_fn, fg_sl, fg_agg, fg_tup, fg_lab, fg_val, fg_exa, fg_dset, fg_req, fg_bytes, fg_ints, fg_strs, fg_vals, fg_labs, fg_exas])) hg rfl (fun _ => by first | exact of_eq_true InvS_refl | simp only [InvS_nil, InvS_cons, get_if, InvS_refl, and_self]) ?_ | refine ⟨?_, ?_⟩ | intro _
      | simp only [go_sem, ↓reduceIte, Nat.reduceAdd, Nat.reduceLeDiff, Nat.reduceEqDiff, Nat.reduceBEq, Nat.reduceBNe, Nat.reduceMul, Nat.reduceLT, reduceCtorEq, Int.reduceLT, Int.reduceLE, Int.reduceToNat, Int.reduceNeg,  use_eq, own_eq, useL, hw, byte_snoc, d12, d13, d14, d15]
    any_goals first
      | omega
      | exact .inr ⟨_, rfl, by simp⟩
      | (simp; done)
      | (simp; omega)
    rotate_left
    · refine congrArg (fun l => AV.sl 1 l (STok.tok _)) ?_
      simp [valE, byteOf, wrap_u8, textE]
    · simp
  · skip
    repeat' first
      | with_reducible first | refine mw_as m61.eq_1 ?_ | refine opn m61k0.eq_1 ?_ | refine opn m61k1.eq_1 ?_ | refine opn m61k2.eq_1 ?_ | refine CallK.pure (Pure.conv (h32) (by simp only [List.map_cons, List.map_nil, fg_int, fg_str, fg_bool, fg_nilp, fg_nili, fg_fn, fg_sl, fg_agg, fg_tup, fg_lab, fg_val, fg_exa, fg_dset, fg_req, fg_bytes, fg_ints, fg_strs, fg_vals, fg_labs, fg_exas])) hg rfl ?_ | refine PCallK.pure (Pure.conv (h32) (by simp only [List.map_cons, List.map_nil, fg_int, fg_str, fg_bool, fg_nilp, fg_nili, fg_fn, fg_sl, fg_agg, fg_tup, fg_lab, fg_val, fg_exa, fg_dset, fg_req, fg_bytes, fg_ints, fg_strs, fg_vals, fg_labs, fg_exas])) hg rfl (fun _ => by first | exact of_eq_true InvS_refl | simp only [InvS_nil, InvS_cons, get_if, InvS_refl, and_self]) ?_ | refine ⟨?_, ?_⟩ | intro _
      | simp only [go_sem, ↓reduceIte, Nat.reduceAdd, Nat.reduceLeDiff, Nat.reduceEqDiff, Nat.reduceBEq, Nat.reduceBNe, Nat.reduceMul, Nat.reduceLT, reduceCtorEq, Int.reduceLT, Int.reduceLE, Int.reduceToNat, Int.reduceNeg,  use_eq, own_eq, useL, hw, byte_snoc, d12, d13, d14, d15]
    any_goals first
      | omega
      | exact .inr ⟨_, rfl, by simp⟩
      | (simp; done)
      | (simp; omega)
    rotate_left
    · refine congrArg (fun l => AV.sl 1 l (STok.tok _)) ?_
      simp [valE, byteOf, wrap_u8, textE]
    · simp
  · have h60 := c60 hg (bs ++ [byteOf 2]) .unk n (by omega) (by omega) (by simp; omega)
    repeat' first
      | with_reducible first | refine mw_as m61.eq_1 ?_ | refine opn m61k0.eq_1 ?_ | refine opn m61k1.eq_1 ?_ | refine opn m61k2.eq_1 ?_ | refine CallK.pure (Pure.conv (h32) (by simp only [List.map_cons, List.map_nil, fg_int, fg_str, fg_bool, fg_nilp, fg_nili, fg_fn, fg_sl, fg_agg, fg_tup, fg_lab, fg_val, fg_exa, fg_dset, fg_req, fg_bytes, fg_ints, fg_strs, fg_vals, fg_labs, fg_exas])) hg rfl ?_ | refine PCallK.pure (Pure.conv (h32) (by simp only [List.map_cons, List.map_nil, fg_int, fg_str, fg_bool, fg_nilp, fg_nili, fg_fn, fg_sl, fg_agg, fg_tup, fg_lab, fg_val, fg_exa, fg_dset, fg_req, fg_bytes, fg_ints, fg_strs, fg_vals, fg_labs, fg_exas])) hg rfl (fun _ => by first | exact of_eq_true InvS_refl | simp only [InvS_nil, InvS_cons, get_if, InvS_refl, and_self]) ?_ | refine CallK.toks (Toks.conv (h60) (by simp only [List.map_cons, List.map_nil, fg_int, fg_str, fg_bool, fg_nilp, fg_nili, fg_fn, fg_sl, fg_agg, fg_tup, fg_lab, fg_val, fg_exa, fg_dset, fg_req, fg_bytes, fg_ints, fg_strs, fg_vals, fg_labs, fg_exas])) hg rfl ?_ | refine PCallK.toks (Toks.conv (h60) (by simp only [List.map_cons, List.map_nil, fg_int, fg_str, fg_bool, fg_nilp, fg_nili, fg_fn, fg_sl, fg_agg, fg_tup, fg_lab, fg_val, fg_exa, fg_dset, fg_req, fg_bytes, fg_ints, fg_strs, fg_vals, fg_labs, fg_exas])) hg rfl (fun _ => by first | exact of_eq_true InvS_refl | simp only [InvS_nil, InvS_cons, get_if, InvS_refl, and_self]) ?_ | refine ⟨?_, ?_⟩ | intro _
      | simp only [go_sem, ↓reduceIte, Nat.reduceAdd, Nat.reduceLeDiff, Nat.reduceEqDiff, Nat.reduceBEq, Nat.reduceBNe, Nat.reduceMul, Nat.reduceLT, reduceCtorEq, Int.reduceLT, Int.reduceLE, Int.reduceToNat, Int.reduceNeg,  use_eq, own_eq, useL, hw, byte_snoc, d21, d23, d24, d25]
    any_goals first
      | omega
      | exact .inr ⟨_, rfl, by simp⟩
      | (simp; done)
      | (simp; omega)
    rotate_left
    · refine congrArg (fun l => AV.sl 1 l (STok.tok _)) ?_
      simp [valE, byteOf, wrap_u8, textE]
    · simp
  · have h60 := c60 hg (bs ++ [byteOf 3]) .unk n (by omega) (by omega) (by simp; omega)
    repeat' first
      | with_reducible first | refine mw_as m61.eq_1 ?_ | refine opn m61k0.eq_1 ?_ | refine opn m61k1.eq_1 ?_ | refine opn m61k2.eq_1 ?_ | refine CallK.pure (Pure.conv (h32) (by simp only [List.map_cons, List.map_nil, fg_int, fg_str, fg_bool, fg_nilp, fg_nili, fg_fn, fg_sl, fg_agg, fg_tup, fg_lab, fg_val, fg_exa, fg_dset, fg_req, fg_bytes, fg_ints, fg_strs, fg_vals, fg_labs, fg_exas])) hg rfl ?_ | refine PCallK.pure (Pure.conv (h32) (by simp only [List.map_cons, List.map_nil, fg_int, fg_str, fg_bool, fg_nilp, fg_nili, fg_fn, fg_sl, fg_agg, fg_tup, fg_lab, fg_val, fg_exa, fg_dset, fg_req, fg_bytes, fg_ints, fg_strs, fg_vals, fg_labs, fg_exas])) hg rfl (fun _ => by first | exact of_eq_true InvS_refl | simp only [InvS_nil, InvS_cons, get_if, InvS_refl, and_self]) ?_ | refine CallK.toks (Toks.conv (h60) (by simp only [List.map_cons, List.map_nil, fg_int, fg_str, fg_bool, fg_nilp, fg_nili, fg_fn, fg_sl, fg_agg, fg_tup, fg_lab, fg_val, fg_exa, fg_dset, fg_req, fg_bytes, fg_ints, fg_strs, fg_vals, fg_labs, fg_exas])) hg rfl ?_ | refine PCallK.toks (Toks.conv (h60) (by simp only [List.map_cons, List.map_nil, fg_int, fg_str, fg_bool, fg_nilp, fg_nili, fg_fn, fg_sl, fg_agg, fg_tup, fg_lab, fg_val, fg_exa, fg_dset, fg_req, fg_bytes, fg_ints, fg_strs, fg_vals, fg_labs, fg_exas])) hg rfl (fun _ => by first | exact of_eq_true InvS_refl | simp only [InvS_nil, InvS_cons, get_if, InvS_refl, and_self]) ?_ | refine ⟨?_, ?_⟩ | intro _
      | simp only [go_sem, ↓reduceIte, Nat.reduceAdd, Nat.reduceLeDiff, Nat.reduceEqDiff, Nat.reduceBEq, Nat.reduceBNe, Nat.reduceMul, Nat.reduceLT, reduceCtorEq, Int.reduceLT, Int.reduceLE, Int.reduceToNat, Int.reduceNeg,  use_eq, own_eq, useL, hw, byte_snoc, d31, d32, d34, d35]
    any_goals first
      | omega
      | exact .inr ⟨_, rfl, by simp⟩
      | (simp; done)
      | (simp; omega)
    rotate_left
    · refine congrArg (fun l => AV.sl 1 l (STok.tok _)) ?_
      simp [valE, byteOf, wrap_u8, textE]
    · simp
  · have h58 := c58 hg (bs ++ [byteOf 4]) s .unk (by omega) (by simp; omega)
    repeat' first
      | with_reducible first | refine mw_as m61.eq_1 ?_ | refine opn m61k0.eq_1 ?_ | refine opn m61k1.eq_1 ?_ | refine opn m61k2.eq_1 ?_ | refine CallK.pure (Pure.conv (h32) (by simp only [List.map_cons, List.map_nil, fg_int, fg_str, fg_bool, fg_nilp, fg_nili, fg_fn, fg_sl, fg_agg, fg_tup, fg_lab, fg_val, fg_exa, fg_dset, fg_req, fg_bytes, fg_ints, fg_strs, fg_vals, fg_labs, fg_exas])) hg rfl ?_ | refine PCallK.pure (Pure.conv (h32) (by simp only [List.map_cons, List.map_nil, fg_int, fg_str, fg_bool, fg_nilp, fg_nili, fg_fn, fg_sl, fg_agg, fg_tup, fg_lab, fg_val, fg_exa, fg_dset, fg_req, fg_bytes, fg_ints, fg_strs, fg_vals, fg_labs, fg_exas])) hg rfl (fun _ => by first | exact of_eq_true InvS_refl | simp only [InvS_nil, InvS_cons, get_if, InvS_refl, and_self]) ?_ | refine CallK.toks (Toks.conv (h58) (by simp only [List.map_cons, List.map_nil, fg_int, fg_str, fg_bool, fg_nilp, fg_nili, fg_fn, fg_sl, fg_agg, fg_tup, fg_lab, fg_val, fg_exa, fg_dset, fg_req, fg_bytes, fg_ints, fg_strs, fg_vals, fg_labs, fg_exas])) hg rfl ?_ | refine PCallK.toks (Toks.conv (h58) (by simp only [List.map_cons, List.map_nil, fg_int, fg_str, fg_bool, fg_nilp, fg_nili, fg_fn, fg_sl, fg_agg, fg_tup, fg_lab, fg_val, fg_exa, fg_dset, fg_req, fg_bytes, fg_ints, fg_strs, fg_vals, fg_labs, fg_exas])) hg rfl (fun _ => by first | exact of_eq_true InvS_refl | simp only [InvS_nil, InvS_cons, get_if, InvS_refl, and_self]) ?_ | refine ⟨?_, ?_⟩ | intro _
      | simp only [go_sem, ↓reduceIte, Nat.reduceAdd, Nat.reduceLeDiff, Nat.reduceEqDiff, Nat.reduceBEq, Nat.reduceBNe, Nat.reduceMul, Nat.reduceLT, reduceCtorEq, Int.reduceLT, Int.reduceLE, Int.reduceToNat, Int.reduceNeg,  use_eq, own_eq, useL, hw, byte_snoc, d41, d42, d43, d45]
    any_goals first
      | omega
      | exact .inr ⟨_, rfl, by simp⟩
      | (simp; done)
      | (simp; omega)
    rotate_left
    · refine congrArg (fun l => AV.sl 1 l (STok.tok _)) ?_
      simp [valE, byteOf, wrap_u8, textE]
    · simp
  · have h58 := c58 hg (bs ++ [byteOf 5]) s .unk (by omega) (by simp; omega)
    repeat' first
      | with_reducible first | refine mw_as m61.eq_1 ?_ | refine opn m61k0.eq_1 ?_ | refine opn m61k1.eq_1 ?_ | refine opn m61k2.eq_1 ?_ | refine CallK.pure (Pure.conv (h32) (by simp only [List.map_cons, List.map_nil, fg_int, fg_str, fg_bool, fg_nilp, fg_nili, fg_fn, fg_sl, fg_agg, fg_tup, fg_lab, fg_val, fg_exa, fg_dset, fg_req, fg_bytes, fg_ints, fg_strs, fg_vals, fg_labs, fg_exas])) hg rfl ?_ | refine PCallK.pure (Pure.conv (h32) (by simp only [List.map_cons, List.map_nil, fg_int, fg_str, fg_bool, fg_nilp, fg_nili, fg_fn, fg_sl, fg_agg, fg_tup, fg_lab, fg_val, fg_exa, fg_dset, fg_req, fg_bytes, fg_ints, fg_strs, fg_vals, fg_labs, fg_exas])) hg rfl (fun _ => by first | exact of_eq_true InvS_refl | simp only [InvS_nil, InvS_cons, get_if, InvS_refl, and_self]) ?_ | refine CallK.toks (Toks.conv (h58) (by simp only [List.map_cons, List.map_nil, fg_int, fg_str, fg_bool, fg_nilp, fg_nili, fg_fn, fg_sl, fg_agg, fg_tup, fg_lab, fg_val, fg_exa, fg_dset, fg_req, fg_bytes, fg_ints, fg_strs, fg_vals, fg_labs, fg_exas])) hg rfl ?_ | refine PCallK.toks (Toks.conv (h58) (by simp only [List.map_cons, List.map_nil, fg_int, fg_str, fg_bool, fg_nilp, fg_nili, fg_fn, fg_sl, fg_agg, fg_tup, fg_lab, fg_val, fg_exa, fg_dset, fg_req, fg_bytes, fg_ints, fg_strs, fg_vals, fg_labs, fg_exas])) hg rfl (fun _ => by first | exact of_eq_true InvS_refl | simp only [InvS_nil, InvS_cons, get_if, InvS_refl, and_self]) ?_ | refine ⟨?_, ?_⟩ | intro _
      | simp only [go_sem, ↓reduceIte, Nat.reduceAdd, Nat.reduceLeDiff, Nat.reduceEqDiff, Nat.reduceBEq, Nat.reduceBNe, Nat.reduceMul, Nat.reduceLT, reduceCtorEq, Int.reduceLT, Int.reduceLE, Int.reduceToNat, Int.reduceNeg,  use_eq, own_eq, useL, hw, byte_snoc, d51, d52, d53, d54]
    any_goals first
      | omega
      | exact .inr ⟨_, rfl, by simp⟩
      | (simp; done)
      | (simp; omega)
    rotate_left
    · refine congrArg (fun l => AV.sl 1 l (STok.tok _)) ?_
      simp [valE, byteOf, wrap_u8, textE]
    · simp
end Go.Proofs.YtdjdhecanjmchaaGreatDoor
