/- Contracts: the reference's Differ. -/
import Derived.Test.YtdjdhecanjmchaaGreatDoorP3
set_option linter.unusedSimpArgs false
set_option linter.unusedVariables false
namespace Go.Proofs.YtdjdhecanjmchaaGreatDoor
open Go Go.V
set_option maxRecDepth 40000
attribute [local go_sem ↓] mw_nil mw_inBlock mw_inLoop mw_skip mw_seq mw_block mw_exit mw_ret mw_named mw_loop mw_cond mw_reg mw_any mw_dfr KW_none KW_some KD_none KD_some mexit_inBlock mexit_code mexit_inLoop moK_nil moK_k moK_panic moK_call moK_guard plK_done plK_k plK_call plK_guard plK_two shel_load protOf_nil protOf_cons putF_some putF_none lookup_if get_if set_eq Fr.get_cons keepK Opd.ev MK.ev MK.ob
attribute [local go_sem high] cdK_true cdK_false gdK_tt gdK_ff gdK_tf gdK_ft gdK_tup pgdK_tt pgdK_ff pgdK_tf pgdK_ft pgdK_tup dfK_fn evK_some pevK_some clK_fn pclK_fn pnK_ifc exK_some
attribute [local go_sem] InvS_refl InvS_nil InvS_cons QPin_endQ List.mem_cons List.not_mem_nil or_true true_or or_false false_or List.lookup_nil List.map_cons List.map_nil Option.map_some Option.map_none Option.bind_some Option.bind_none List.nil_append List.append_nil List.cons_append binEv binOb intOp strOp unEv eqvEv eqCells eqCell isBld_nil isBld_two isBld_bool isBld_int isBld_str isBld_nilp isBld_ptr isBld_gp isBld_eptr isBld_sl isBld_fn isBld_nilf isBld_ifc isBld_nili isBld_agg isBld_bld noBld tasEv AV.there AV.plus pickCells storeEv AV.solid AV.cells splice putParts rowOK fldEv iarrEv extEv minEv nonNil lenEv isStr appEv appOb appArg able_exact able_use slVecEv slVecOb slStrEv slStrOb bnd ne_1 ne_2 ne_3 ne_4 ne_1' ne_2' ne_3' ne_4' List.getElem?_map argF endQ rvsEv rvEv resOf St.none List.length_cons List.length_nil List.take_succ_cons List.take_zero List.drop_succ_cons List.drop_zero List.getElem?_cons_zero List.getElem?_cons_succ List.all_cons List.all_nil if_true if_false ite_self decide_true decide_false Bool.and_true Bool.true_and Bool.and_false Bool.false_and Bool.not_true Bool.not_false beq_self_eq_true bne_self_eq_false Nat.zero_add Nat.add_zero Bool.false_eq_true Bool.true_eq_false eq_self ne_eq not_true_eq_false not_false_eq_true true_and and_true and_self false_and and_false true_implies false_implies implies_true forall_const Nat.zero_le Nat.le_refl Option.isNone_none Option.isNone_some Option.isSome_some Option.isSome_none Nat.succ_ne_self Int.toNat_natCast Int.toNat_zero List.length_map List.take_length Out.ok.injEq AV.int.injEq AV.bool.injEq AV.str.injEq AV.tup.injEq Lab.av Val.av Exa.av Dset.av Req.av AV.agg.injEq List.cons.injEq ge_iff_le gt_iff_lt Int.natCast_nonneg Bool.not_eq_true Bool.not_eq_false cond_or cond_and cond_tl cond_fr cond_fl cond_tr merge_sameT merge_sameF mergeT0 mergeF0 mergeT1 mergeF1 mergeT2 mergeF2 mergeT3 mergeF3 mergeT4 mergeF4 mergeT5 mergeF5 mergeT6 mergeF6 mergeT7 mergeF7 mergeT8 mergeF8 mergeT9 mergeF9 cdK_bool gdK_bool pgdK_bool
variable {gl : List (Nat × List AV)}

theorem sl_one {α : Type} {l : List α} {i : Nat} {x : α} (h : l[i]? = some x) : (l.take (i + 1)).drop i = [x] := by
  rw [take_some h, List.drop_append, List.drop_eq_nil_of_le (by rw [List.length_take]; omega)]
  have : i < l.length := (List.getElem?_eq_some_iff.1 h).1
  rw [List.length_take, Nat.min_eq_left (by omega), Nat.sub_self]
  rfl

theorem keep_four {a0 a1 x1 x2 x3 x4 x5 x6 : List AV} {i1 i2 i3 i4 i5 i6 : Nat} (h1 : 2 ≤ i1 := by decide) (h2 : 2 ≤ i2 := by decide) (h3 : 2 ≤ i3 := by decide) (h4 : 2 ≤ i4 := by decide) (h5 : 2 ≤ i5 := by decide) (h6 : 2 ≤ i6 := by decide) : ∀ l cs, List.lookup l [(1, a1), (0, a0)] = some cs → List.lookup l [(i1, x1), (i2, x2), (i3, x3), (i4, x4), (i5, x5), (i6, x6), (1, a1), (0, a0)] = some cs := by
  intro l cs h
  simp only [lookG] at h ⊢
  grind

theorem labEq (x y : Lab) : (x.k == y.k && (x.e == y.e && x.n == y.n)) = (x == y) := by
  rw [Bool.eq_iff_iff]
  cases x; cases y; simp
theorem oneEq {x y : Exa} (e : x.lab = y.lab) : ([x] == [y]) = (x.vs == y.vs) := by
  rw [Bool.eq_iff_iff]
  cases x; cases y; simp at e; simp [e]

set_option maxHeartbeats 4000000 in
theorem c18 (hg : GlNR gl) (a b : Dset) (ha : SmallD a) (hb : SmallD b) : Pure Tryz.prog gl 18 [a.av, b.av] (.ok (difAV a b)) := by
  refine Pure.ofFg ?_ (by simp only [List.map_cons, List.map_nil, fg_int, fg_str, fg_bool, fg_nilp, fg_nili, fg_fn, fg_sl, fg_agg, fg_tup, fg_lab, fg_val, fg_exa, fg_dset, fg_req, fg_bytes, fg_ints, fg_strs, fg_vals, fg_labs, fg_exas, noRef_ok, noRef_pan, List.mem_cons, List.not_mem_nil, or_false, forall_eq_or_imp, forall_eq, and_self, and_true, true_and, implies_true, NoRef.bool_eq, NoRef.int_eq, NoRef.str_eq, NoRef.nilp_eq, NoRef.nili_eq, NoRef.nilf_eq, NoRef.agg_eq, NoRef.tup_eq, NoRef.ifc_eq, NoRef.fn_nil, NoRef.fn_eq, nr_lab, nr_val, nr_exa, nr_dset, nr_req, nr_byte, nr_bytes, nr_strs, nr_vals, nr_labs, nr_exas, nr_ints]) (by simp only [difAV, noRef_ok, noRef_pan, List.mem_cons, List.not_mem_nil, or_false, forall_eq_or_imp, forall_eq, and_self, and_true, true_and, implies_true, NoRef.bool_eq, NoRef.int_eq, NoRef.str_eq, NoRef.nilp_eq, NoRef.nili_eq, NoRef.nilf_eq, NoRef.agg_eq, NoRef.tup_eq, NoRef.ifc_eq, NoRef.fn_nil, NoRef.fn_eq, nr_lab, nr_val, nr_exa, nr_dset, nr_req, nr_byte, nr_bytes, nr_strs, nr_vals, nr_labs, nr_exas, nr_ints])
  simp only [List.map_cons, List.map_nil, fg_int, fg_str, fg_bool, fg_nilp, fg_nili, fg_fn, fg_sl, fg_agg, fg_tup, fg_lab, fg_val, fg_exa, fg_dset, fg_req, fg_bytes, fg_ints, fg_strs, fg_vals, fg_labs, fg_exas]
  refine .of_run is18 (by simp) (mw_sound 200 ?_)
  have hxl := ha.xs
  have hfl := ha.fs
  have key : difB a b = (a.xs.map Exa.lab == b.xs.map Exa.lab) → a.xs.length = b.xs.length → MRun Tryz.prog 76 [MI.code m18l0.loop, MI.inBlock 0, MI.code (MC.named [8] m18k2)] []
    [(2, AV.ptr 0 0), (3, AV.ptr 1 0), (8, AV.sl 1 [] STok.exact), (9, AV.int IntKind.i64 0)]
    ⟨4, [(1, [AV.str b.ent, AV.sl 1 (List.map AV.str b.fs) STok.unk, AV.sl 4 (List.map Exa.av b.xs) STok.unk]), (0, [AV.str a.ent, AV.sl 1 (List.map AV.str a.fs) STok.unk, AV.sl 4 (List.map Exa.av a.xs) STok.unk])], 0, [], gl⟩
    (endQ [RV.t 4, RV.t 5] fun o' x => FgOut o' (difAV a b)) := by
    intro hd hle
    refine .forUp a.xs.length (fun i F S => ∃ (acc : List Int) (tk : STok) (t : Nat) (live : List Nat), AbT live tk ∧ acc.length ≤ i ∧ F = [(2, AV.ptr 0 0), (3, AV.ptr 1 0), (8, AV.sl 1 (acc.map (AV.int .i64)) tk), (9, AV.int IntKind.i64 i)] ∧
      S = ⟨4, [(1, [AV.str b.ent, AV.sl 1 (List.map AV.str b.fs) STok.unk, AV.sl 4 (List.map Exa.av b.xs) STok.unk]), (0, [AV.str a.ent, AV.sl 1 (List.map AV.str a.fs) STok.unk, AV.sl 4 (List.map Exa.av a.xs) STok.unk])], t, live, gl⟩ ∧ difI 0 a.xs b.xs = acc ++ difI i (a.xs.drop i) (b.xs.drop i) ∧ difB a b = ((a.xs.drop i).map Exa.lab == (b.xs.drop i).map Exa.lab)) ⟨[], .exact, 0, [], .inl rfl, Nat.le_refl _, rfl, rfl, rfl, hd⟩ ?_
    rintro i F S hi ⟨acc, tk, t, live, hab, hal, rfl, rfl, he, hf⟩ ih
    by_cases h : i < a.xs.length
    · obtain ⟨x, hx⟩ := some_of_lt h
      obtain ⟨y, hy⟩ := some_of_lt (show i < b.xs.length by omega)
      rw [drop_some hx, drop_some hy, difI] at he
      rw [drop_some hx, drop_some hy] at hf
      have hvl := ha.vs x (List.mem_of_getElem? hx)
      have hab2 := fun n ob nt => hab.able (gl := gl) n ob nt
      have hap : acc.map (AV.int .i64) ++ [AV.int .i64 (i : Int)] = (acc ++ [(i : Int)]).map (AV.int .i64) := by simp
      have hle2 : acc.length ≤ 4294960000 := by omega
      refine mw_sound 60 (mw_as m18l0.eq_1 ?_)
      have hf2 : difB a b = ((x.lab == y.lab) && (List.map Exa.lab (List.drop (i + 1) a.xs) == List.map Exa.lab (List.drop (i + 1) b.xs))) := hf
      clear hf
      have h1 : ((i : Int) ≤ ((i + 1 : Nat) : Int)) = True := eq_true (by omega)
      have h2 : (((i + 1 : Nat) : Int) ≤ (a.xs.length : Int)) = True := eq_true (by omega)
      have h3 : (((i + 1 : Nat) : Int) ≤ (b.xs.length : Int)) = True := eq_true (by omega)
      have h4 : List.drop i (List.take (i + 1) (List.map Exa.av a.xs)) = [x].map Exa.av := by rw [← List.map_take, ← List.map_drop, sl_one hx]
      have h5 : List.drop i (List.take (i + 1) (List.map Exa.av b.xs)) = [y].map Exa.av := by rw [← List.map_take, ← List.map_drop, sl_one hy]
      have h6 : ∀ z ∈ [x], z.vs.length < 4294967296 := by simp; omega
      repeat' first
        | with_reducible refine mw_as m18.eq_1 ?_
        | with_reducible refine mw_sound 60 (mw_as m18k0.eq_1 ?_)
        | with_reducible refine mw_sound 60 (mw_as m18k1.eq_1 ?_)
        | with_reducible refine mw_sound 60 (mw_as m18k2.eq_1 ?_)
        | with_reducible refine mw_sound 60 (mw_as m18k3.eq_1 ?_)
        | with_reducible refine CallK.pure (c43 hg [x] [y] .unk .unk (by simp) h6) hg rfl ?_
        | with_reducible refine PCallK.pure (c43 hg [x] [y] .unk .unk (by simp) h6) hg rfl (fun _ => by first | exact of_eq_true InvS_refl | simp only [InvS_nil, InvS_cons, get_if, InvS_refl, and_self]) ?_
        | with_reducible refine ⟨?_, ?_⟩
        | with_reducible intro _
        | simp only [go_sem, ↓reduceIte, Nat.reduceAdd, Nat.reduceLeDiff, Nat.reduceEqDiff, Nat.reduceBEq, Nat.reduceBNe, Nat.reduceMul, Nat.reduceLT, reduceCtorEq, Int.reduceLT, Int.reduceLE, Int.reduceToNat, Int.reduceNeg,  hx, hy, ltB h, ltP h, ltP (show i < b.xs.length by omega), use_eq, hap, h1, h2, h3, h4, h5, wrap_succ (show i < 9223372036854775807 by omega)]
      all_goals first
        | exact hab2 _ _ _
        | omega
        | (refine dif_bad ?_
           rename_i h7
           rw [Bool.not_eq_true', labEq] at h7
           rw [hf2, h7, Bool.false_and])
        | (rename_i h8 h7
           have h8 : (x.lab == y.lab) = true := by simpa only [Bool.not_eq_false', labEq] using h8
           rw [oneEq (eq_of_beq h8)] at h7
           have h7 : (x.vs == y.vs) = false := by simpa using h7
           rw [h7, if_neg (by simp)] at he
           rw [h8, Bool.true_and] at hf2
           refine ih h _ _ ⟨acc ++ [(i : Int)], .tok t, t + 1, t :: useL live tk, .inr ⟨t, rfl, List.mem_cons_self⟩, by simp; omega, rfl, rfl, ?_, hf2⟩
           rw [he, List.append_assoc]
           rfl)
        | (rename_i h8 h7
           have h8 : (x.lab == y.lab) = true := by simpa only [Bool.not_eq_false', labEq] using h8
           rw [oneEq (eq_of_beq h8)] at h7
           have h7 : (x.vs == y.vs) = true := by simpa using h7
           rw [h7, if_pos rfl] at he
           rw [h8, Bool.true_and] at hf2
           exact ih h _ _ ⟨acc, tk, t, live, hab, by omega, rfl, rfl, he, hf2⟩)
    · refine mw_sound 60 (mw_as m18l0.eq_1 ?_)
      repeat' first
        | with_reducible refine mw_as m18.eq_1 ?_
        | with_reducible refine mw_sound 60 (mw_as m18k0.eq_1 ?_)
        | with_reducible refine mw_sound 60 (mw_as m18k1.eq_1 ?_)
        | with_reducible refine mw_sound 60 (mw_as m18k2.eq_1 ?_)
        | with_reducible refine mw_sound 60 (mw_as m18k3.eq_1 ?_)
        | with_reducible refine ⟨?_, ?_⟩
        | with_reducible intro _
        | simp only [go_sem, ↓reduceIte, Nat.reduceAdd, Nat.reduceLeDiff, Nat.reduceEqDiff, Nat.reduceBEq, Nat.reduceBNe, Nat.reduceMul, Nat.reduceLT, reduceCtorEq, Int.reduceLT, Int.reduceLE, Int.reduceToNat, Int.reduceNeg,  geB (Nat.le_of_not_lt h)]
      rw [List.drop_eq_nil_of_le (Nat.le_of_not_lt h)] at he hf
      rw [List.drop_eq_nil_of_le (show b.xs.length ≤ i by omega)] at hf
      have he : difI 0 a.xs b.xs = acc := by rw [he]; simp [difI]
      exact dif_done (by simpa using hf) he
  have h16 : Pure Tryz.prog gl 16 [AV.agg [AV.str a.ent, AV.sl 1 (List.map AV.str a.fs) STok.unk, AV.sl 4 [] STok.exact], AV.agg [AV.str b.ent, AV.sl 1 (List.map AV.str b.fs) STok.unk, AV.sl 4 [] STok.exact]] (.ok (.bool ((⟨a.ent, a.fs, []⟩ : Dset) == ⟨b.ent, b.fs, []⟩))) :=
    (c16 hg ⟨a.ent, a.fs, []⟩ ⟨b.ent, b.fs, []⟩ (show a.fs.length < 4294967296 by omega) (by simp) (by simp)).conv (by simp only [List.map_cons, List.map_nil, fg_int, fg_str, fg_bool, fg_nilp, fg_nili, fg_fn, fg_sl, fg_agg, fg_tup, fg_lab, fg_val, fg_exa, fg_dset, fg_req, fg_bytes, fg_ints, fg_strs, fg_vals, fg_labs, fg_exas, Dset.av])
  have h17 : ((⟨a.ent, a.fs, []⟩ : Dset) == ⟨b.ent, b.fs, []⟩) = (a.ent == b.ent && a.fs == b.fs) := by
    rw [Bool.eq_iff_iff]
    simp
  have h18 : (a.xs.map Exa.lab == b.xs.map Exa.lab) = true → a.xs.length = b.xs.length := fun h => by
    have h := congrArg List.length (eq_of_beq h)
    simpa using h
  repeat' first
    | with_reducible refine mw_as m18.eq_1 ?_
    | with_reducible refine mw_sound 60 (mw_as m18k0.eq_1 ?_)
    | with_reducible refine mw_sound 60 (mw_as m18k1.eq_1 ?_)
    | with_reducible refine mw_sound 60 (mw_as m18k2.eq_1 ?_)
    | with_reducible refine mw_sound 60 (mw_as m18k3.eq_1 ?_)
    | with_reducible refine CallK.pure (c22 hg a ha) hg rfl ?_
    | with_reducible refine PCallK.pure (c22 hg a ha) hg rfl (fun _ => by first | exact of_eq_true InvS_refl | simp only [InvS_nil, InvS_cons, get_if, InvS_refl, and_self]) ?_
    | with_reducible refine CallK.pure (c22 hg b hb) hg rfl ?_
    | with_reducible refine PCallK.pure (c22 hg b hb) hg rfl (fun _ => by first | exact of_eq_true InvS_refl | simp only [InvS_nil, InvS_cons, get_if, InvS_refl, and_self]) ?_
    | with_reducible refine CallK.pure (h16) hg rfl ?_
    | with_reducible refine PCallK.pure (h16) hg rfl (fun _ => by first | exact of_eq_true InvS_refl | simp only [InvS_nil, InvS_cons, get_if, InvS_refl, and_self]) ?_
    | with_reducible refine ⟨?_, ?_⟩
    | with_reducible intro _
    | simp only [go_sem, ↓reduceIte, Nat.reduceAdd, Nat.reduceLeDiff, Nat.reduceEqDiff, Nat.reduceBEq, Nat.reduceBNe, Nat.reduceMul, Nat.reduceLT, reduceCtorEq, Int.reduceLT, Int.reduceLE, Int.reduceToNat, Int.reduceNeg,  h17]
  all_goals first
    | (refine dif_bad ?_
       simp only [difB]
       grind)
    | (refine MRun.keep (live' := []) (key ?_ ?_) keep_four (fun _ h => h)
       · simp only [difB]
         grind
       · rename_i h6
         have h6 : ((a.xs.length : Int) != (b.xs.length : Int)) = false := (Bool.or_eq_false_iff.1 h6).2
         have h6 : (a.xs.length : Int) = b.xs.length := by simpa using h6
         omega)
end Go.Proofs.YtdjdhecanjmchaaGreatDoor
