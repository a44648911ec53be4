/- Contracts: the program's Print. -/
import Derived.Test.YtdjdhecanjmchaaGreatDoorP7B
import Derived.Test.YtdjdhecanjmchaaGreatDoorP6B
import Derived.Test.YtdjdhecanjmchaaGreatDoorP4B
set_option linter.unusedSimpArgs false
set_option linter.unusedVariables false
namespace Go.Proofs.YtdjdhecanjmchaaGreatDoor
open Go Go.V
attribute [local go_sem ↓] mw_nil mw_inBlock mw_inLoop mw_skip mw_seq mw_block mw_exit mw_ret mw_named mw_loop mw_cond mw_reg mw_any mw_dfr KW_none KW_some KD_none KD_some mexit_inBlock mexit_code mexit_inLoop moK_nil moK_k moK_panic moK_call moK_guard plK_done plK_k plK_call plK_guard plK_two shel_load protOf_nil protOf_cons putF_some putF_none lookup_if get_if set_eq Fr.get_cons keepK Opd.ev MK.ev MK.ob
attribute [local go_sem high] cdK_true cdK_false gdK_tt gdK_ff gdK_tf gdK_ft gdK_tup pgdK_tt pgdK_ff pgdK_tf pgdK_ft pgdK_tup dfK_fn evK_some pevK_some clK_fn pclK_fn pnK_ifc exK_some
attribute [local go_sem] InvS_refl InvS_nil InvS_cons QPin_endQ List.mem_cons List.not_mem_nil or_true true_or or_false false_or List.lookup_nil List.map_cons List.map_nil Option.map_some Option.map_none Option.bind_some Option.bind_none List.nil_append List.append_nil List.cons_append binEv binOb intOp strOp unEv eqvEv eqCells eqCell isBld_nil isBld_two isBld_bool isBld_int isBld_str isBld_nilp isBld_ptr isBld_gp isBld_eptr isBld_sl isBld_fn isBld_nilf isBld_ifc isBld_nili isBld_agg isBld_bld noBld tasEv AV.there AV.plus pickCells storeEv AV.solid AV.cells splice putParts rowOK fldEv iarrEv extEv minEv nonNil lenEv isStr appEv appOb appArg able_exact able_use slVecEv slVecOb slStrEv slStrOb bnd ne_1 ne_2 ne_3 ne_4 ne_1' ne_2' ne_3' ne_4' List.getElem?_map argF endQ rvsEv rvEv resOf St.none List.length_cons List.length_nil List.take_succ_cons List.take_zero List.drop_succ_cons List.drop_zero List.getElem?_cons_zero List.getElem?_cons_succ List.all_cons List.all_nil if_true if_false ite_self decide_true decide_false Bool.and_true Bool.true_and Bool.and_false Bool.false_and Bool.not_true Bool.not_false beq_self_eq_true bne_self_eq_false Nat.zero_add Nat.add_zero Bool.false_eq_true Bool.true_eq_false eq_self ne_eq not_true_eq_false not_false_eq_true true_and and_true and_self false_and and_false true_implies false_implies implies_true forall_const Nat.zero_le Nat.le_refl Option.isNone_none Option.isNone_some Option.isSome_some Option.isSome_none Nat.succ_ne_self Int.toNat_natCast Int.toNat_zero List.length_map List.take_length Out.ok.injEq AV.int.injEq AV.bool.injEq AV.str.injEq AV.tup.injEq Lab.av Val.av Exa.av Dset.av Req.av AV.agg.injEq List.cons.injEq ge_iff_le gt_iff_lt Int.natCast_nonneg Bool.not_eq_true Bool.not_eq_false cond_or cond_and cond_tl cond_fr cond_fl cond_tr merge_sameT merge_sameF mergeT0 mergeF0 mergeT1 mergeF1 mergeT2 mergeF2 mergeT3 mergeF3 mergeT4 mergeF4 mergeT5 mergeF5 mergeT6 mergeF6 mergeT7 mergeF7 mergeT8 mergeF8 mergeT9 mergeF9 cdK_bool gdK_bool pgdK_bool
section
open Go Go.V Go.Lib
set_option maxRecDepth 40000
variable {gl : List (Nat × List AV)}
theorem CallK.eff {P : Program} {f : FuncId} {xs : List AV} {d : Option Nat} {l : List MOp} {K : Option AV → Fr → St → Prop} {F : Fr} {S S1 : St} {r : AV} (h : MCalls P f xs S fun o S' => o = .ok r ∧ S' = S1) (k : moK P l K (putF d r F) S1) : CallK P f xs d l K F S :=
  CallK.of h (fun r' S' ⟨e1, e2⟩ => by subst e2; injection e1 with e1; subst e1; exact k) (fun v S' ⟨e1, _⟩ => by cases e1)
end
section
open Go Go.V Go.Lib
set_option maxRecDepth 40000
variable {gl : List (Nat × List AV)}
theorem fewD_small {d : Dset} (h : fewD d = true) : SmallD d := by
  simp only [fewD, fewX, Bool.and_eq_true, decide_eq_true_eq, List.all_eq_true] at h
  obtain ⟨⟨⟨⟨h1, h2⟩, h3⟩, h4⟩, h5⟩ := h
  exact ⟨by omega, by omega, fun f hf => by have := h4 f hf; omega, by omega, fun x hx => by have := (h5 x hx).1.1; omega, fun x hx => by have := (h5 x hx).1.2; omega, fun x hx v hv => by have := (h5 x hx).2 v hv; omega⟩
end
section
open Go Go.V Go.Lib
set_option maxRecDepth 40000
variable {gl : List (Nat × List AV)}
def crcStep (r : Int) : Int := if iand .u32 r 1 == 1 then ixor .u32 (ishr .u32 r 1) 3988292384 else ishr .u32 r 1
def crcN : Nat → Int → Int
  | 0, r => r
  | n + 1, r => crcN n (crcStep r)
def crcT (i : Nat) : Int := crcN 8 (i : Int)
abbrev zeroT : List AV := List.replicate 256 (.int .u32 0)
def crcL (i : Nat) : List AV := (List.range i).map (fun j => AV.int .u32 (crcT j)) ++ List.replicate (256 - i) (.int .u32 0)
theorem crcL_len {i : Nat} (h : i ≤ 256) : (crcL i).length = 256 := by simp [crcL]; omega
theorem isBld_len {cs : List AV} (h : cs.length = 256) : isBld cs = false := by
  match cs, h with
  | [], h => cases h
  | [_], h => cases h
  | _ :: _ :: _, _ => simp [isBld]
theorem crcL_step {i : Nat} (h : i < 256) : splice (crcL i) i [.int .u32 (crcT i)] = crcL (i + 1) := by
  have h1 : ((List.range i).map (fun j => AV.int .u32 (crcT j))).length = i := by simp
  unfold splice crcL
  rw [List.take_append_of_le_length (by omega), List.take_of_length_le (by omega), List.drop_append, List.drop_eq_nil_of_le (by simp), List.range_succ, List.map_append]
  have h2 : 256 - i = (255 - i) + 1 := by omega
  have h3 : 256 - (i + 1) = 255 - i := by omega
  rw [h2, List.replicate_succ, h3]
  simp
theorem crcL_at {n : Nat} (h : n < 256) : (crcL 256)[n]? = some (.int .u32 (crcT n)) := by
  unfold crcL
  rw [List.getElem?_append_left (by simpa using h)]
  simp [h]
theorem c205 {m t : Nat} {live : List Nat} {ob : List (Nat × List AV)} {cs : List AV} (hcs : cs.length = 256) {i : Nat} (hi : i < 256) :
    MCalls Tryz.prog 205 [.int .i64 i, .ptr 1 0] ⟨m, (1, cs) :: ob, t, live, gl⟩ fun o S' => o = .ok (.tup []) ∧ S' = ⟨m, (1, splice cs i [.int .u32 (crcT i)]) :: (1, cs) :: ob, t, live, gl⟩ := by
  refine .of_run is205 (by simp) (mw_sound 200 ?_)
  have hb := isBld_len hcs
  have hw : IntKind.u32.wrap (i : Int) = (i : Int) := wrap_u32_in (by omega) (by omega)
  have hle : i + 1 ≤ cs.length := by omega
  repeat' first
    | with_reducible first | refine mw_as m205.eq_1 ?_ | refine opn m205k0.eq_1 ?_ | refine opn m205k1.eq_1 ?_ | refine ⟨?_, ?_⟩ | intro _
    | simp only [go_sem, ↓reduceIte, Nat.reduceAdd, Nat.reduceLeDiff, Nat.reduceEqDiff, Nat.reduceBEq, Nat.reduceBNe, Nat.reduceMul, Nat.reduceLT, reduceCtorEq, Int.reduceLT, Int.reduceLE, Int.reduceToNat, Int.reduceNeg,  hw]
  refine .forUp 8 (fun j F S => ∃ r : Int, F = [(0, AV.int .i64 i), (1, AV.ptr 1 0), (3, AV.int .u32 r), (6, AV.int .i64 j)] ∧ S = ⟨m, (1, cs) :: ob, t, live, gl⟩ ∧ crcT i = crcN (8 - j) r) ⟨_, rfl, rfl, rfl⟩ ?_
  rintro j F S hj ⟨r, rfl, rfl, he⟩ ih
  by_cases h : j < 8
  · have hd : decide ((j : Int) < 8) = true := decide_eq_true (by omega)
    rw [show 8 - j = (8 - (j + 1)) + 1 by omega, crcN, crcStep] at he
    refine opn m205l0.eq_1 ?_
    repeat' first
      | with_reducible first | refine mw_as m205.eq_1 ?_ | refine opn m205k0.eq_1 ?_ | refine opn m205k1.eq_1 ?_ | refine ⟨?_, ?_⟩ | intro _
      | simp only [go_sem, ↓reduceIte, Nat.reduceAdd, Nat.reduceLeDiff, Nat.reduceEqDiff, Nat.reduceBEq, Nat.reduceBNe, Nat.reduceMul, Nat.reduceLT, reduceCtorEq, Int.reduceLT, Int.reduceLE, Int.reduceToNat, Int.reduceNeg,  hd, wrap_succ (show j < 9223372036854775807 by omega)]
    all_goals
      rename_i h1
      rw [h1] at he
      exact ih h _ _ ⟨_, rfl, rfl, by simpa using he⟩
  · have hd : decide ((j : Int) < 8) = false := decide_eq_false (by omega)
    rw [show 8 - j = 0 by omega, crcN] at he
    have hle2 : decide (i + 1 ≤ cs.length) = true := decide_eq_true hle
    refine opn m205l0.eq_1 ?_
    repeat' first
      | with_reducible first | refine mw_as m205.eq_1 ?_ | refine opn m205k0.eq_1 ?_ | refine opn m205k1.eq_1 ?_ | refine ⟨?_, ?_⟩ | intro _
      | simp only [go_sem, ↓reduceIte, Nat.reduceAdd, Nat.reduceLeDiff, Nat.reduceEqDiff, Nat.reduceBEq, Nat.reduceBNe, Nat.reduceMul, Nat.reduceLT, reduceCtorEq, Int.reduceLT, Int.reduceLE, Int.reduceToNat, Int.reduceNeg,  hd, hb, hle2, Nat.mul_one]
    · omega
    · rw [he]
theorem m176_eq : m176 = .seq (.reg [⟨0, some 0, none, .k (.alloc zeroT)⟩] [0])
  (.seq (.reg [⟨0, some 1, none, .k (.alloc zeroT)⟩] [0, 1])
  (.seq (.reg [⟨0, some 4, none, .k (.func (.func 205) [] [.t 1])⟩,
      ⟨1, some 2, none, .k (.mov (.t 4))⟩] [0, 1, 2])
  (.seq (.seq (.reg [⟨0, some 5, none, .k (.mov (.c (.int .i64 0)))⟩] [0, 1, 2, 5])
  (.block 0
    (.loop m176l0)))
  (.named [0, 1] m176k0)))) := rfl
theorem c176 : Pure Tryz.prog gl 176 [] (.ok (.agg (crcL 256))) := by
  refine ⟨?_, by simp, ?_⟩
  · simp only [List.map_nil]
    refine .of_run is176 (by simp) (mw_sound 200 ?_)
    have hz : zeroT.length = 256 := by simp
    have hzb := isBld_len hz
    refine mw_as m176_eq ?_
    have h0 : crcL 0 = zeroT := by unfold crcL; rfl
    generalize hZ : zeroT = Z at *
    simp only [go_sem]
    refine .forUp 256 (fun i F S => F = [(0, AV.ptr 0 0), (1, AV.ptr 1 0), (2, AV.fn (.func 205) [] [.ptr 1 0]), (5, AV.int .i64 i)] ∧ S = ⟨2, [(1, crcL i), (0, Z)], 0, [], gl⟩) ⟨rfl, by rw [h0]⟩ ?_
    rintro i F S hi ⟨rfl, rfl⟩ ih
    by_cases h : i < 256
    · have hd : decide ((i : Int) < 256) = true := decide_eq_true (by omega)
      have hl := crcL_len hi
      have h205 := fun m t live ob => c205 (gl := gl) (m := m) (t := t) (live := live) (ob := ob) hl h
      rw [crcL_step h] at h205
      refine opn m176l0.eq_1 ?_
      repeat' first
        | with_reducible first | refine mw_as m176.eq_1 ?_ | refine opn m176k0.eq_1 ?_ | refine CallK.eff (h205 _ _ _ _) ?_ | refine ⟨?_, ?_⟩ | intro _
        | simp only [go_sem, ↓reduceIte, Nat.reduceAdd, Nat.reduceLeDiff, Nat.reduceEqDiff, Nat.reduceBEq, Nat.reduceBNe, Nat.reduceMul, Nat.reduceLT, reduceCtorEq, Int.reduceLT, Int.reduceLE, Int.reduceToNat, Int.reduceNeg,  hd, wrap_succ (show i < 9223372036854775807 by omega)]
      exact MRun.keep (live' := []) (ih h _ _ ⟨rfl, rfl⟩) (fun l cs e => by simp only [lookG] at e ⊢; grind) (fun _ h => h)
    · have hd : decide ((i : Int) < 256) = false := decide_eq_false (by omega)
      obtain rfl : i = 256 := by omega
      have hl := crcL_len hi
      have hlb := isBld_len hl
      refine opn m176l0.eq_1 ?_
      have htk : List.take 256 (crcL 256) = crcL 256 := List.take_of_length_le (by omega)
      have hdr : List.drop 256 Z = [] := List.drop_eq_nil_of_le (by omega)
      repeat' first
        | with_reducible first | refine mw_as m176.eq_1 ?_ | refine opn m176k0.eq_1 ?_ | refine ⟨?_, ?_⟩ | intro _
        | simp only [go_sem, ↓reduceIte, Nat.reduceAdd, Nat.reduceLeDiff, Nat.reduceEqDiff, Nat.reduceBEq, Nat.reduceBNe, Nat.reduceMul, Nat.reduceLT, reduceCtorEq, Int.reduceLT, Int.reduceLE, Int.reduceToNat, Int.reduceNeg,  hd, hzb, hlb, hl, hz, htk, hdr]
  · refine NoRef.agg fun c hc => ?_
    unfold crcL at hc
    simp at hc
    obtain ⟨a, _, rfl⟩ := hc
    exact .int _ _
def crcR : Int → Bytes → Int
  | r, [] => r
  | r, x :: b => crcR (ixor .u32 (ishr .u32 r 8) (crcT (ixor .u8 (IntKind.u8.wrap r) x.toNat).toNat)) b
def not32 (n : Int) : Int := IntKind.u32.wrap (BitVec.ofInt IntKind.u32.bits (if IntKind.u32.signed then -1 else IntKind.u32.max) ^^^ BitVec.ofInt IntKind.u32.bits n).toNat
def crcX (s : Int) (b : Bytes) : Int := not32 (crcR (not32 s) b)
theorem u8_range (x : Int) : 0 ≤ IntKind.u8.wrap x ∧ IntKind.u8.wrap x < 256 := by rw [wrap_u8]; omega
theorem c122 (hg : GlNR gl) (s : Int) (b : Bytes) (t : STok) (hb : b.length < 4294960000) : Pure Tryz.prog gl 122 [.int .u32 s, .sl 1 (b.map byteAV) t] (.ok (.int .u32 (crcX s b))) := by
  refine ⟨?_, by simp only [List.map_cons, List.map_nil, fg_int, fg_str, fg_bool, fg_nilp, fg_nili, fg_fn, fg_sl, fg_agg, fg_tup, fg_lab, fg_val, fg_exa, fg_dset, fg_req, fg_bytes, fg_ints, fg_strs, fg_vals, fg_labs, fg_exas, noRef_ok, noRef_pan, List.mem_cons, List.not_mem_nil, or_false, forall_eq_or_imp, forall_eq, and_self, and_true, true_and, implies_true, NoRef.bool_eq, NoRef.int_eq, NoRef.str_eq, NoRef.nilp_eq, NoRef.nili_eq, NoRef.nilf_eq, NoRef.agg_eq, NoRef.tup_eq, NoRef.ifc_eq, NoRef.fn_nil, NoRef.fn_eq, nr_lab, nr_val, nr_exa, nr_dset, nr_req, nr_byte, nr_bytes, nr_strs, nr_vals, nr_labs, nr_exas, nr_ints], by simp only [noRef_ok, noRef_pan, List.mem_cons, List.not_mem_nil, or_false, forall_eq_or_imp, forall_eq, and_self, and_true, true_and, implies_true, NoRef.bool_eq, NoRef.int_eq, NoRef.str_eq, NoRef.nilp_eq, NoRef.nili_eq, NoRef.nilf_eq, NoRef.agg_eq, NoRef.tup_eq, NoRef.ifc_eq, NoRef.fn_nil, NoRef.fn_eq, nr_lab, nr_val, nr_exa, nr_dset, nr_req, nr_byte, nr_bytes, nr_strs, nr_vals, nr_labs, nr_exas, nr_ints]⟩
  simp only [List.map_cons, List.map_nil, fg_int, fg_str, fg_bool, fg_nilp, fg_nili, fg_fn, fg_sl, fg_agg, fg_tup, fg_lab, fg_val, fg_exa, fg_dset, fg_req, fg_bytes, fg_ints, fg_strs, fg_vals, fg_labs, fg_exas]
  refine .of_run is122 (by simp) (mw_sound 200 ?_)
  have hz : zeroT.length = 256 := by simp
  have hzb := isBld_len hz
  have m122_eq : m122 = .seq (.reg [⟨0, some 4, none, .k (.mov (.c (.int .u32 0)))⟩] [0, 1])
    (.seq (.reg [⟨0, some 9, none, .call (.f 176) []⟩,
      ⟨1, some 5, none, .k (.alloc zeroT)⟩, ⟨2, none, none, .k (.store 256 (.t 5) (.t 9))⟩] [0, 1, 5])
    (.seq (.reg [⟨0, some 10, none, .k (.mov (.t 0))⟩,
      ⟨1, some 11, none, .k (.un .xor (.t 10))⟩,
      ⟨2, some 6, none, .k (.mov (.t 11))⟩] [1, 5, 6])
    (.seq (.seq (.reg [⟨0, some 12, none, .k (.mov (.t 1))⟩,
      ⟨1, some 13, none, .k (.len false (.t 12))⟩,
      ⟨2, some 14, none, .k (.mov (.c (.int .i64 0)))⟩] [5, 6, 12, 13, 14])
    (.block 0 (.loop m122l0)))
    (.named [6] m122k0)))) := rfl
  refine mw_as m122_eq ?_
  have hl := crcL_len (Nat.le_refl 256)
  have hlb := isBld_len hl
  have htk : List.take 256 (crcL 256) = crcL 256 := List.take_of_length_le (by omega)
  have hdr : List.drop 256 zeroT = [] := List.drop_eq_nil_of_le (by omega)
  generalize hZ : zeroT = Z at *
  repeat' first
    | with_reducible first | refine mw_as m122.eq_1 ?_ | refine opn m122k0.eq_1 ?_ | refine CallK.pure (c176) hg rfl ?_ | refine PCallK.pure (c176) hg rfl (fun _ => by first | exact of_eq_true InvS_refl | simp only [InvS_nil, InvS_cons, get_if, InvS_refl, and_self]) ?_ | refine ⟨?_, ?_⟩ | intro _
    | simp only [go_sem, ↓reduceIte, Nat.reduceAdd, Nat.reduceLeDiff, Nat.reduceEqDiff, Nat.reduceBEq, Nat.reduceBNe, Nat.reduceMul, Nat.reduceLT, reduceCtorEq, Int.reduceLT, Int.reduceLE, Int.reduceToNat, Int.reduceNeg,  hl, hlb, hz, hzb, htk, hdr]
  rw [show crcX s b = not32 (crcR (not32 s) b) from rfl]
  generalize hR : crcR (not32 s) b = R
  refine MRun.keep (ob' := [(0, crcL 256)]) (live' := []) ?_ (fun l cs e => by simp only [lookG] at e ⊢; grind) (fun _ h => h)
  refine .forUp b.length (fun i F S => ∃ r : Int, F = [(5, AV.ptr 0 0), (6, AV.int .u32 r), (12, AV.sl 1 (b.map byteAV) .unk), (13, AV.int .i64 b.length), (14, AV.int .i64 i)] ∧ S = ⟨1, [(0, crcL 256)], 0, [], gl⟩ ∧ crcR r (b.drop i) = R) ⟨not32 s, rfl, rfl, hR⟩ ?_
  rintro i F S hi ⟨r, rfl, rfl, he⟩ ih
  by_cases h : i < b.length
  · obtain ⟨c, hc⟩ := some_of_lt h
    rw [drop_some hc, crcR] at he
    have hx0 : 0 ≤ ixor .u8 (IntKind.u8.wrap r) c.toNat := (u8_range _).1
    have hx1 : ixor .u8 (IntKind.u8.wrap r) c.toNat < 256 := (u8_range _).2
    have hat := crcL_at (n := (ixor .u8 (IntKind.u8.wrap r) c.toNat).toNat) (by omega)
    refine opn m122l0.eq_1 ?_
    repeat' first
      | with_reducible first | refine mw_as m122.eq_1 ?_ | refine opn m122k0.eq_1 ?_ | refine ⟨?_, ?_⟩ | intro _
      | simp only [go_sem, ↓reduceIte, Nat.reduceAdd, Nat.reduceLeDiff, Nat.reduceEqDiff, Nat.reduceBEq, Nat.reduceBNe, Nat.reduceMul, Nat.reduceLT, reduceCtorEq, Int.reduceLT, Int.reduceLE, Int.reduceToNat, Int.reduceNeg,  hc, ltB h, ltP h, byteAV, hx0, hx1, hat, hlb, Nat.mul_one, List.getElem?_drop, wrap_succ (show i < 9223372036854775807 by omega)]
    all_goals first
      | exact hx0
      | exact hx1
      | exact ih h _ _ ⟨_, rfl, rfl, he⟩
  · refine opn m122l0.eq_1 ?_
    rw [List.drop_eq_nil_of_le (Nat.le_of_not_lt h), crcR] at he
    repeat' first
      | with_reducible first | refine mw_as m122.eq_1 ?_ | refine opn m122k0.eq_1 ?_ | refine ⟨?_, ?_⟩ | intro _
      | simp only [go_sem, ↓reduceIte, Nat.reduceAdd, Nat.reduceLeDiff, Nat.reduceEqDiff, Nat.reduceBEq, Nat.reduceBNe, Nat.reduceMul, Nat.reduceLT, reduceCtorEq, Int.reduceLT, Int.reduceLE, Int.reduceToNat, Int.reduceNeg,  geB (Nat.le_of_not_lt h)]
    rw [← he]
    rfl
theorem c73 (hg : GlNR gl) (b : Bytes) (t : STok) (hb : b.length < 4294960000) : Pure Tryz.prog gl 73 [.sl 1 (b.map byteAV) t] (.ok (.int .u32 (crcX 0 b))) := by
  refine ⟨?_, by simp only [List.map_cons, List.map_nil, fg_int, fg_str, fg_bool, fg_nilp, fg_nili, fg_fn, fg_sl, fg_agg, fg_tup, fg_lab, fg_val, fg_exa, fg_dset, fg_req, fg_bytes, fg_ints, fg_strs, fg_vals, fg_labs, fg_exas, noRef_ok, noRef_pan, List.mem_cons, List.not_mem_nil, or_false, forall_eq_or_imp, forall_eq, and_self, and_true, true_and, implies_true, NoRef.bool_eq, NoRef.int_eq, NoRef.str_eq, NoRef.nilp_eq, NoRef.nili_eq, NoRef.nilf_eq, NoRef.agg_eq, NoRef.tup_eq, NoRef.ifc_eq, NoRef.fn_nil, NoRef.fn_eq, nr_lab, nr_val, nr_exa, nr_dset, nr_req, nr_byte, nr_bytes, nr_strs, nr_vals, nr_labs, nr_exas, nr_ints], by simp only [noRef_ok, noRef_pan, List.mem_cons, List.not_mem_nil, or_false, forall_eq_or_imp, forall_eq, and_self, and_true, true_and, implies_true, NoRef.bool_eq, NoRef.int_eq, NoRef.str_eq, NoRef.nilp_eq, NoRef.nili_eq, NoRef.nilf_eq, NoRef.agg_eq, NoRef.tup_eq, NoRef.ifc_eq, NoRef.fn_nil, NoRef.fn_eq, nr_lab, nr_val, nr_exa, nr_dset, nr_req, nr_byte, nr_bytes, nr_strs, nr_vals, nr_labs, nr_exas, nr_ints]⟩
  simp only [List.map_cons, List.map_nil, fg_int, fg_str, fg_bool, fg_nilp, fg_nili, fg_fn, fg_sl, fg_agg, fg_tup, fg_lab, fg_val, fg_exa, fg_dset, fg_req, fg_bytes, fg_ints, fg_strs, fg_vals, fg_labs, fg_exas]
  refine .of_run is73 (by simp) (mw_sound 200 ?_)
  repeat' first
    | with_reducible first | refine mw_as m73.eq_1 ?_ | refine CallK.pure (c122 hg 0 b .unk hb) hg rfl ?_ | refine PCallK.pure (c122 hg 0 b .unk hb) hg rfl (fun _ => by first | exact of_eq_true InvS_refl | simp only [InvS_nil, InvS_cons, get_if, InvS_refl, and_self]) ?_ | refine ⟨?_, ?_⟩ | intro _
    | simp only [go_sem, ↓reduceIte, Nat.reduceAdd, Nat.reduceLeDiff, Nat.reduceEqDiff, Nat.reduceBEq, Nat.reduceBNe, Nat.reduceMul, Nat.reduceLT, reduceCtorEq, Int.reduceLT, Int.reduceLE, Int.reduceToNat, Int.reduceNeg]
end
section
open Go Go.V Go.Lib Go.RowKit
set_option maxRecDepth 40000
variable {gl : List (Nat × List AV)}
theorem nr_e3 : NoRef (.sl 3 [] .unk) = True := eq_true (NoRef.sl (by simp) (.inl rfl))
theorem nr_t0 : NoRef (.tup []) = True := eq_true (NoRef.tup (by simp))
theorem nr_f (f : Fn) : NoRef (.fn f [] []) = True := eq_true (NoRef.func (by simp) (by simp))
theorem c207_0 : Pure Tryz.prog gl 207 [.int .u64 0] (.ok (.int .i64 0)) := by
  refine ⟨?_, by simp only [List.map_cons, List.map_nil, fg_int, fg_str, fg_bool, fg_nilp, fg_nili, fg_fn, fg_sl, fg_agg, fg_tup, fg_lab, fg_val, fg_exa, fg_dset, fg_req, fg_bytes, fg_ints, fg_strs, fg_vals, fg_labs, fg_exas, noRef_ok, noRef_pan, List.mem_cons, List.not_mem_nil, or_false, forall_eq_or_imp, forall_eq, and_self, and_true, true_and, implies_true, NoRef.bool_eq, NoRef.int_eq, NoRef.str_eq, NoRef.nilp_eq, NoRef.nili_eq, NoRef.nilf_eq, NoRef.agg_eq, NoRef.tup_eq, NoRef.ifc_eq, NoRef.fn_nil, NoRef.fn_eq, nr_lab, nr_val, nr_exa, nr_dset, nr_req, nr_byte, nr_bytes, nr_strs, nr_vals, nr_labs, nr_exas, nr_ints], by simp only [noRef_ok, noRef_pan, List.mem_cons, List.not_mem_nil, or_false, forall_eq_or_imp, forall_eq, and_self, and_true, true_and, implies_true, NoRef.bool_eq, NoRef.int_eq, NoRef.str_eq, NoRef.nilp_eq, NoRef.nili_eq, NoRef.nilf_eq, NoRef.agg_eq, NoRef.tup_eq, NoRef.ifc_eq, NoRef.fn_nil, NoRef.fn_eq, nr_lab, nr_val, nr_exa, nr_dset, nr_req, nr_byte, nr_bytes, nr_strs, nr_vals, nr_labs, nr_exas, nr_ints]⟩
  simp only [List.map_cons, List.map_nil, fg_int, fg_str, fg_bool, fg_nilp, fg_nili, fg_fn, fg_sl, fg_agg, fg_tup, fg_lab, fg_val, fg_exa, fg_dset, fg_req, fg_bytes, fg_ints, fg_strs, fg_vals, fg_labs, fg_exas]
  refine (MCalls.ofSame Tryz.call207 fun wb G w vs hS hv => ?_).mono fun o S' h => h.2
  obtain ⟨v1, vs1, rfl, e1, hv⟩ := hv.cons_inv
  obtain rfl := hv.nil_inv
  obtain rfl := e1.int_inv
  exact ⟨_, .int _ _, Tryz.bits_Len 0 w (by omega) (by omega)⟩
theorem c226_0 : Pure Tryz.prog gl 226 [.sl 3 [] .unk, .int .i64 0, .int .i64 0, .fn (.func 179) [] []] (.ok (.tup [])) := by
  refine ⟨?_, by simp only [List.map_cons, List.map_nil, fg_int, fg_str, fg_bool, fg_nilp, fg_nili, fg_fn, fg_sl, fg_agg, fg_tup, fg_lab, fg_val, fg_exa, fg_dset, fg_req, fg_bytes, fg_ints, fg_strs, fg_vals, fg_labs, fg_exas, noRef_ok, noRef_pan, List.mem_cons, List.not_mem_nil, or_false, forall_eq_or_imp, forall_eq, and_self, and_true, true_and, implies_true, NoRef.bool_eq, NoRef.int_eq, NoRef.str_eq, NoRef.nilp_eq, NoRef.nili_eq, NoRef.nilf_eq, NoRef.agg_eq, NoRef.tup_eq, NoRef.ifc_eq, NoRef.fn_nil, NoRef.fn_eq, nr_lab, nr_val, nr_exa, nr_dset, nr_req, nr_byte, nr_bytes, nr_strs, nr_vals, nr_labs, nr_exas, nr_ints, nr_e3, nr_f], by simp only [noRef_ok, noRef_pan, List.mem_cons, List.not_mem_nil, or_false, forall_eq_or_imp, forall_eq, and_self, and_true, true_and, implies_true, NoRef.bool_eq, NoRef.int_eq, NoRef.str_eq, NoRef.nilp_eq, NoRef.nili_eq, NoRef.nilf_eq, NoRef.agg_eq, NoRef.tup_eq, NoRef.ifc_eq, NoRef.fn_nil, NoRef.fn_eq, nr_lab, nr_val, nr_exa, nr_dset, nr_req, nr_byte, nr_bytes, nr_strs, nr_vals, nr_labs, nr_exas, nr_ints, nr_t0]⟩
  simp only [List.map_cons, List.map_nil, fg_int, fg_str, fg_bool, fg_nilp, fg_nili, fg_fn, fg_sl, fg_agg, fg_tup, fg_lab, fg_val, fg_exa, fg_dset, fg_req, fg_bytes, fg_ints, fg_strs, fg_vals, fg_labs, fg_exas]
  refine .of_run is226 (by simp) (mw_sound 200 ?_)
  repeat' first
    | with_reducible first | refine mw_as m226.eq_1 ?_ | refine opn m226k0.eq_1 ?_ | refine opn m226k1.eq_1 ?_ | refine opn m226k2.eq_1 ?_ | refine ⟨?_, ?_⟩ | intro _
    | simp only [go_sem, ↓reduceIte, Nat.reduceAdd, Nat.reduceLeDiff, Nat.reduceEqDiff, Nat.reduceBEq, Nat.reduceBNe, Nat.reduceMul, Nat.reduceLT, reduceCtorEq, Int.reduceLT, Int.reduceLE, Int.reduceToNat, Int.reduceNeg]
  refine MRun.loop1 (mw_sound 60 (mw_as m226l1.eq_1 ?_))
  repeat' first
    | with_reducible first | refine mw_as m226.eq_1 ?_ | refine opn m226k0.eq_1 ?_ | refine opn m226k1.eq_1 ?_ | refine opn m226k2.eq_1 ?_ | refine ⟨?_, ?_⟩ | intro _
    | simp only [go_sem, ↓reduceIte, Nat.reduceAdd, Nat.reduceLeDiff, Nat.reduceEqDiff, Nat.reduceBEq, Nat.reduceBNe, Nat.reduceMul, Nat.reduceLT, reduceCtorEq, Int.reduceLT, Int.reduceLE, Int.reduceToNat, Int.reduceNeg,  (show decide (IntKind.i64.wrap (0 + 1) < 0) = false from rfl)]
theorem c206_0 (hg : GlNR gl) : Pure Tryz.prog gl 206 [.sl 3 [] .unk, .int .i64 0, .int .i64 0, .int .i64 0, .fn (.func 179) [] []] (.ok (.tup [])) := by
  refine ⟨?_, by simp only [List.map_cons, List.map_nil, fg_int, fg_str, fg_bool, fg_nilp, fg_nili, fg_fn, fg_sl, fg_agg, fg_tup, fg_lab, fg_val, fg_exa, fg_dset, fg_req, fg_bytes, fg_ints, fg_strs, fg_vals, fg_labs, fg_exas, noRef_ok, noRef_pan, List.mem_cons, List.not_mem_nil, or_false, forall_eq_or_imp, forall_eq, and_self, and_true, true_and, implies_true, NoRef.bool_eq, NoRef.int_eq, NoRef.str_eq, NoRef.nilp_eq, NoRef.nili_eq, NoRef.nilf_eq, NoRef.agg_eq, NoRef.tup_eq, NoRef.ifc_eq, NoRef.fn_nil, NoRef.fn_eq, nr_lab, nr_val, nr_exa, nr_dset, nr_req, nr_byte, nr_bytes, nr_strs, nr_vals, nr_labs, nr_exas, nr_ints, nr_e3, nr_f], by simp only [noRef_ok, noRef_pan, List.mem_cons, List.not_mem_nil, or_false, forall_eq_or_imp, forall_eq, and_self, and_true, true_and, implies_true, NoRef.bool_eq, NoRef.int_eq, NoRef.str_eq, NoRef.nilp_eq, NoRef.nili_eq, NoRef.nilf_eq, NoRef.agg_eq, NoRef.tup_eq, NoRef.ifc_eq, NoRef.fn_nil, NoRef.fn_eq, nr_lab, nr_val, nr_exa, nr_dset, nr_req, nr_byte, nr_bytes, nr_strs, nr_vals, nr_labs, nr_exas, nr_ints, nr_t0]⟩
  simp only [List.map_cons, List.map_nil, fg_int, fg_str, fg_bool, fg_nilp, fg_nili, fg_fn, fg_sl, fg_agg, fg_tup, fg_lab, fg_val, fg_exa, fg_dset, fg_req, fg_bytes, fg_ints, fg_strs, fg_vals, fg_labs, fg_exas]
  refine .of_run is206 (by simp) (mw_sound 200 ?_)
  repeat' first
    | with_reducible first | refine mw_as m206.eq_1 ?_ | refine opn m206k0.eq_1 ?_ | refine opn m206k1.eq_1 ?_ | refine opn m206k2.eq_1 ?_ | refine opn m206k3.eq_1 ?_ | refine opn m206k4.eq_1 ?_ | refine opn m206k5.eq_1 ?_ | refine CallK.pure (c226_0) hg rfl ?_ | refine PCallK.pure (c226_0) hg rfl (fun _ => by first | exact of_eq_true InvS_refl | simp only [InvS_nil, InvS_cons, get_if, InvS_refl, and_self]) ?_ | refine ⟨?_, ?_⟩ | intro _
    | simp only [go_sem, ↓reduceIte, Nat.reduceAdd, Nat.reduceLeDiff, Nat.reduceEqDiff, Nat.reduceBEq, Nat.reduceBNe, Nat.reduceMul, Nat.reduceLT, reduceCtorEq, Int.reduceLT, Int.reduceLE, Int.reduceToNat, Int.reduceNeg]
  refine MRun.loop1 (mw_sound 60 (mw_as m206l0.eq_1 ?_))
  repeat' first
    | with_reducible first | refine mw_as m206.eq_1 ?_ | refine opn m206k0.eq_1 ?_ | refine opn m206k1.eq_1 ?_ | refine opn m206k2.eq_1 ?_ | refine opn m206k3.eq_1 ?_ | refine opn m206k4.eq_1 ?_ | refine opn m206k5.eq_1 ?_ | refine CallK.pure (c226_0) hg rfl ?_ | refine PCallK.pure (c226_0) hg rfl (fun _ => by first | exact of_eq_true InvS_refl | simp only [InvS_nil, InvS_cons, get_if, InvS_refl, and_self]) ?_ | refine ⟨?_, ?_⟩ | intro _
    | simp only [go_sem, ↓reduceIte, Nat.reduceAdd, Nat.reduceLeDiff, Nat.reduceEqDiff, Nat.reduceBEq, Nat.reduceBNe, Nat.reduceMul, Nat.reduceLT, reduceCtorEq, Int.reduceLT, Int.reduceLE, Int.reduceToNat, Int.reduceNeg,  (show decide (IntKind.i64.wrap (0 - 0) ≤ 12) = true from rfl)]
theorem c178_0 (hg : GlNR gl) : Pure Tryz.prog gl 178 [.sl 3 [] .unk, .fn (.func 179) [] []] (.ok (.tup [])) := by
  refine ⟨?_, by simp only [List.map_cons, List.map_nil, fg_int, fg_str, fg_bool, fg_nilp, fg_nili, fg_fn, fg_sl, fg_agg, fg_tup, fg_lab, fg_val, fg_exa, fg_dset, fg_req, fg_bytes, fg_ints, fg_strs, fg_vals, fg_labs, fg_exas, noRef_ok, noRef_pan, List.mem_cons, List.not_mem_nil, or_false, forall_eq_or_imp, forall_eq, and_self, and_true, true_and, implies_true, NoRef.bool_eq, NoRef.int_eq, NoRef.str_eq, NoRef.nilp_eq, NoRef.nili_eq, NoRef.nilf_eq, NoRef.agg_eq, NoRef.tup_eq, NoRef.ifc_eq, NoRef.fn_nil, NoRef.fn_eq, nr_lab, nr_val, nr_exa, nr_dset, nr_req, nr_byte, nr_bytes, nr_strs, nr_vals, nr_labs, nr_exas, nr_ints, nr_e3, nr_f], by simp only [noRef_ok, noRef_pan, List.mem_cons, List.not_mem_nil, or_false, forall_eq_or_imp, forall_eq, and_self, and_true, true_and, implies_true, NoRef.bool_eq, NoRef.int_eq, NoRef.str_eq, NoRef.nilp_eq, NoRef.nili_eq, NoRef.nilf_eq, NoRef.agg_eq, NoRef.tup_eq, NoRef.ifc_eq, NoRef.fn_nil, NoRef.fn_eq, nr_lab, nr_val, nr_exa, nr_dset, nr_req, nr_byte, nr_bytes, nr_strs, nr_vals, nr_labs, nr_exas, nr_ints, nr_t0]⟩
  simp only [List.map_cons, List.map_nil, fg_int, fg_str, fg_bool, fg_nilp, fg_nili, fg_fn, fg_sl, fg_agg, fg_tup, fg_lab, fg_val, fg_exa, fg_dset, fg_req, fg_bytes, fg_ints, fg_strs, fg_vals, fg_labs, fg_exas]
  refine .of_run is178 (by simp) (mw_sound 200 ?_)
  repeat' first
    | with_reducible first | refine mw_as m178.eq_1 ?_ | refine CallK.pure (c207_0) hg rfl ?_ | refine PCallK.pure (c207_0) hg rfl (fun _ => by first | exact of_eq_true InvS_refl | simp only [InvS_nil, InvS_cons, get_if, InvS_refl, and_self]) ?_ | refine CallK.pure (c206_0 hg) hg rfl ?_ | refine PCallK.pure (c206_0 hg) hg rfl (fun _ => by first | exact of_eq_true InvS_refl | simp only [InvS_nil, InvS_cons, get_if, InvS_refl, and_self]) ?_ | refine ⟨?_, ?_⟩ | intro _
    | simp only [go_sem, ↓reduceIte, Nat.reduceAdd, Nat.reduceLeDiff, Nat.reduceEqDiff, Nat.reduceBEq, Nat.reduceBNe, Nat.reduceMul, Nat.reduceLT, reduceCtorEq, Int.reduceLT, Int.reduceLE, Int.reduceToNat, Int.reduceNeg,  (show IntKind.u64.wrap ((0 : Nat) : Int) = 0 from rfl), (show ((0 : Nat) : Int) = 0 from rfl)]
theorem c180_0 : Pure Tryz.prog gl 180 [.sl 3 [] .unk] (.ok (.sl 3 [] .unk)) := by
  refine ⟨?_, by simp only [List.map_cons, List.map_nil, fg_int, fg_str, fg_bool, fg_nilp, fg_nili, fg_fn, fg_sl, fg_agg, fg_tup, fg_lab, fg_val, fg_exa, fg_dset, fg_req, fg_bytes, fg_ints, fg_strs, fg_vals, fg_labs, fg_exas, noRef_ok, noRef_pan, List.mem_cons, List.not_mem_nil, or_false, forall_eq_or_imp, forall_eq, and_self, and_true, true_and, implies_true, NoRef.bool_eq, NoRef.int_eq, NoRef.str_eq, NoRef.nilp_eq, NoRef.nili_eq, NoRef.nilf_eq, NoRef.agg_eq, NoRef.tup_eq, NoRef.ifc_eq, NoRef.fn_nil, NoRef.fn_eq, nr_lab, nr_val, nr_exa, nr_dset, nr_req, nr_byte, nr_bytes, nr_strs, nr_vals, nr_labs, nr_exas, nr_ints, nr_e3, nr_f], by simp only [noRef_ok, noRef_pan, List.mem_cons, List.not_mem_nil, or_false, forall_eq_or_imp, forall_eq, and_self, and_true, true_and, implies_true, NoRef.bool_eq, NoRef.int_eq, NoRef.str_eq, NoRef.nilp_eq, NoRef.nili_eq, NoRef.nilf_eq, NoRef.agg_eq, NoRef.tup_eq, NoRef.ifc_eq, NoRef.fn_nil, NoRef.fn_eq, nr_lab, nr_val, nr_exa, nr_dset, nr_req, nr_byte, nr_bytes, nr_strs, nr_vals, nr_labs, nr_exas, nr_ints, nr_e3]⟩
  simp only [List.map_cons, List.map_nil, fg_int, fg_str, fg_bool, fg_nilp, fg_nili, fg_fn, fg_sl, fg_agg, fg_tup, fg_lab, fg_val, fg_exa, fg_dset, fg_req, fg_bytes, fg_ints, fg_strs, fg_vals, fg_labs, fg_exas]
  refine .of_run is180 (by simp) (mw_sound 200 ?_)
  repeat' first
    | with_reducible first | refine mw_as m180.eq_1 ?_ | refine opn m180k0.eq_1 ?_ | refine opn m180k1.eq_1 ?_ | refine opn m180k2.eq_1 ?_ | refine opn m180k3.eq_1 ?_ | refine ⟨?_, ?_⟩ | intro _
    | simp only [go_sem, ↓reduceIte, Nat.reduceAdd, Nat.reduceLeDiff, Nat.reduceEqDiff, Nat.reduceBEq, Nat.reduceBNe, Nat.reduceMul, Nat.reduceLT, reduceCtorEq, Int.reduceLT, Int.reduceLE, Int.reduceToNat, Int.reduceNeg,  (show decide (((0 : Nat) : Int) < 2) = true from rfl)]
end
end Go.Proofs.YtdjdhecanjmchaaGreatDoor
