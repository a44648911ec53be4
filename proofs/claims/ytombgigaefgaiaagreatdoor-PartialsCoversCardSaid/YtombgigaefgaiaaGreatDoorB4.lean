/- Contracts: the program's Cover and the reference's; both come to the same. -/
import Derived.Test.YtombgigaefgaiaaGreatDoorB3
set_option linter.unusedSimpArgs false
set_option linter.unusedVariables false
namespace Go.Proofs.YtombgigaefgaiaaGreatDoor
open Go Go.V
set_option maxRecDepth 40000
attribute [local go_sem ↓] keepK Opd.ev MK.ev MK.ob gsA
attribute [local go_sem high] gsB
attribute [local go_sem] binEv binOb intOp strOp unEv eqvEv eqCells eqCell noBld tasEv AV.there AV.plus pickCells storeEv AV.solid AV.cells splice putParts rowOK fldEv iarrEv extEv minEv nonNil lenEv isStr appEv appOb appArg slVecEv slVecOb slStrEv slStrOb bnd argF endQ rvsEv rvEv resOf St.none if_true if_false ite_self eq_self ne_eq implies_true forall_const Lab.av Val.av Exa.av Dset.av Req.av gsC
variable {gl : List (Nat × List AV)}
def covF (i : Ivl) (s : Int) : Int := i.a + (if 0 < i.a % s then s - i.a % s else 0)
def covL (i : Ivl) (s : Int) : Int := i.b - (i.b + 1) % s
def covE (i : Ivl) (s : Int) : List Ivl := (if i.a < covF i s then [⟨i.a,covF i s - 1⟩] else []) ++ (if covL i s < i.b then [⟨covL i s + 1,i.b⟩] else [])
def covA (i : Ivl) (s : Int) : Ivl × Bool × List Ivl :=
  if validB i && sizeB s then
    if covL i s < covF i s then (⟨0,0⟩,false,[i]) else (⟨covF i s,covL i s⟩,true,covE i s)
  else (⟨0,0⟩,false,[])
def covV (r : Ivl × Bool × List Ivl) : AV := .tup [r.1.av,.bool r.2.1,.sl 2 (r.2.2.map Ivl.av) .unk]
theorem valid_facts {i : Ivl} (h : validB i = true) : 0 ≤ i.a ∧ i.a ≤ i.b ∧ i.b ≤ 1099511627776 := by
  simp only [validB,Bool.and_eq_true,decide_eq_true_eq] at h
  exact h
theorem size_facts {s : Int} (h : sizeB s = true) : 1 ≤ s ∧ s ≤ 1099511627776 := by
  simp only [sizeB,Bool.and_eq_true,decide_eq_true_eq] at h
  exact h
theorem tmod_in {a s : Int} (h : 0 ≤ a) : a.tmod s = a % s := Int.tmod_eq_emod_of_nonneg h
theorem tdiv_in {a s : Int} (h : 0 ≤ a) : a.tdiv s = a / s := Int.tdiv_eq_ediv_of_nonneg h
theorem ne10 : ((1 : Int) != 0) = true := rfl
theorem nrc_ivl (x : Ivl) : (∀ c ∈ x.av.cells,NoRef c) = True := by simp [Ivl.av,AV.cells,NoRef.int_eq]
theorem nr_ivl (x : Ivl) : NoRef x.av = True := by simp [Ivl.av,NoRef.agg_eq,NoRef.int_eq]
theorem nr_ivls (k : Nat) (l : List Ivl) : NoRef (.sl k (l.map Ivl.av) .unk) = True := nr_sl (fun a => of_eq_true (nrc_ivl a)) k l
theorem nr_cov (r : Ivl × Bool × List Ivl) : NoRef (covV r) = True := by simp only [covV,nrs,forall_eq_or_imp,forall_eq,implies_true,nr_ivl,nr_ivls]
theorem fg_ivl (x : Ivl) : AV.fg x.av = x.av := by simp [Ivl.av,fg_agg,fg_int]
theorem fg_ivls (l : List Ivl) : (l.map Ivl.av).map AV.fg = l.map Ivl.av := fg_map _ fg_ivl l
def FgQ (r : AV) (o : Out) (_ : St) : Prop := ∃ r0,o = .ok r0 ∧ r0.fg = r
theorem fgQ_ok {r r0 : AV} {S : St} : FgQ r (.ok r0) S = (r0.fg = r) := by
  apply propext
  constructor
  · rintro ⟨_,h,h2⟩
    injection h with h
    subst h
    exact h2
  · exact fun h => ⟨_,rfl,h⟩
theorem MCalls.fgQ {P : Program} {f : FuncId} {ys : List AV} {S : St} {r : AV} (h : MCalls P f ys S (FgQ r)) : MCalls P f ys S fun o _ => o = .ok r :=
  MCalls.fgRes h (fun r0 _ ⟨_,h1,h2⟩ => by injection h1 with h1; subst h1; rw [h2]) (fun _ _ ⟨_,h1,_⟩ => by cases h1)
theorem able_top {n nt t : Nat} {ob : List (Nat × List AV)} {lv : List Nat} {gl : List (Nat × List AV)} : Able ⟨n,ob,nt,t :: lv,gl⟩ (.tok t) = True := eq_true (.inr ⟨t,rfl,by simp⟩)
theorem c5 (hg : GlNR gl) (i : Ivl) (s : Int) : Pure Tryz.prog gl 5 [i.av,.int .i64 s] (.ok (covV (covA i s))) := by
  refine ⟨?_,by simp only [List.map_cons,List.map_nil,fg_int,fg_ivl,nrs,forall_eq_or_imp,forall_eq,implies_true,nr_ivl],by simp only [nrs,forall_eq_or_imp,forall_eq,implies_true,nr_cov]⟩
  simp only [List.map_cons,List.map_nil,fg_ivl,fg_int]
  refine MCalls.fgQ ?_
  rw [show i.av = .agg [.int .i64 i.a,.int .i64 i.b] from rfl]
  refine .of_run is5 (by simp) (mw_sound 200 ?_)
  cases hv : validB i with
  | false =>
    simp only [covA,hv,Bool.false_and,Bool.false_eq_true,if_false,covV,Ivl.av,List.map_nil]
    repeat' first
      | with_reducible first | refine mw_as m5.eq_1 ?_ | refine opn m5k0.eq_1 ?_ | refine opn m5k1.eq_1 ?_ | refine opn m5k2.eq_1 ?_ | refine opn m5k3.eq_1 ?_ | refine opn m5k4.eq_1 ?_ | refine .pu (c18 i) hg rfl ?_ | refine ⟨?_,?_⟩ | intro _
      | simp only [go_sem,↓reduceIte,Nat.reduceAdd,Nat.reduceLeDiff,Nat.reduceEqDiff,Nat.reduceBEq,Nat.reduceBNe,Nat.reduceMul,Nat.reduceLT,reduceCtorEq,Int.reduceLT,Int.reduceLE,Int.reduceToNat,Int.reduceNeg,  hv,ne10,fgQ_ok,fg_tup,fg_agg,fg_int,fg_bool,fg_sl]
  | true =>
    cases hs : sizeB s with
    | false =>
      simp only [covA,hv,hs,Bool.and_false,Bool.false_eq_true,if_false,covV,Ivl.av,List.map_nil]
      repeat' first
        | with_reducible first | refine mw_as m5.eq_1 ?_ | refine opn m5k0.eq_1 ?_ | refine opn m5k1.eq_1 ?_ | refine opn m5k2.eq_1 ?_ | refine opn m5k3.eq_1 ?_ | refine opn m5k4.eq_1 ?_ | refine .pu (c18 i) hg rfl ?_ | refine .pu (c19 s) hg rfl ?_ | refine ⟨?_,?_⟩ | intro _
        | simp only [go_sem,↓reduceIte,Nat.reduceAdd,Nat.reduceLeDiff,Nat.reduceEqDiff,Nat.reduceBEq,Nat.reduceBNe,Nat.reduceMul,Nat.reduceLT,reduceCtorEq,Int.reduceLT,Int.reduceLE,Int.reduceToNat,Int.reduceNeg,  hv,hs,ne10,fgQ_ok,fg_tup,fg_agg,fg_int,fg_bool,fg_sl]
    | true =>
      obtain ⟨v1,v2,v3⟩ := valid_facts hv
      obtain ⟨s1,s2⟩ := size_facts hs
      have s0 : (s = 0) = False := eq_false (by omega)
      have r1 := Int.emod_nonneg i.a (show s ≠ 0 by omega)
      have r2 := Int.emod_lt_of_pos i.a (show 0 < s by omega)
      have r3 := Int.emod_nonneg (i.b + 1) (show s ≠ 0 by omega)
      have r4 := Int.emod_lt_of_pos (i.b + 1) (show 0 < s by omega)
      have w1 : IntKind.i64.wrap (s - i.a % s) = s - i.a % s := wrap_i64_in (by omega) (by omega)
      have w2 : IntKind.i64.wrap (i.a + (s - i.a % s)) = i.a + (s - i.a % s) := wrap_i64_in (by omega) (by omega)
      have w3 : IntKind.i64.wrap (i.b + 1) = i.b + 1 := wrap_i64_in (by omega) (by omega)
      have w4 : IntKind.i64.wrap (i.b - (i.b + 1) % s) = i.b - (i.b + 1) % s := wrap_i64_in (by omega) (by omega)
      have w5 : IntKind.i64.wrap (i.b - (i.b + 1) % s + 1) = i.b - (i.b + 1) % s + 1 := wrap_i64_in (by omega) (by omega)
      have w6 : IntKind.i64.wrap (i.a + (s - i.a % s) - 1) = i.a + (s - i.a % s) - 1 := wrap_i64_in (by omega) (by omega)
      have m1 := tmod_in (s := s) v1
      have m2 := tmod_in (s := s) (show 0 ≤ i.b + 1 by omega)
      have hcov : covA i s = if covL i s < covF i s then (⟨0,0⟩,false,[i]) else (⟨covF i s,covL i s⟩,true,covE i s) := by simp only [covA,hv,hs,Bool.and_self,if_true]
      rw [hcov]
      repeat' first
        | with_reducible first | refine mw_as m5.eq_1 ?_ | refine opn m5k0.eq_1 ?_ | refine opn m5k1.eq_1 ?_ | refine opn m5k2.eq_1 ?_ | refine opn m5k3.eq_1 ?_ | refine opn m5k4.eq_1 ?_ | refine .pu (c18 i) hg rfl ?_ | refine .pu (c19 s) hg rfl ?_ | refine ⟨?_,?_⟩ | intro _
        | simp only [go_sem,↓reduceIte,Nat.reduceAdd,Nat.reduceLeDiff,Nat.reduceEqDiff,Nat.reduceBEq,Nat.reduceBNe,Nat.reduceMul,Nat.reduceLT,reduceCtorEq,Int.reduceLT,Int.reduceLE,Int.reduceToNat,Int.reduceNeg,  hv,hs,ne10,s0,m1,m2,w1,w2,w3,w4,w5,w6,fgQ_ok,fg_tup,fg_agg,fg_int,fg_bool,fg_sl,St.use,List.filter_cons,List.filter_nil,able_top]
      all_goals (simp only [decide_eq_true_eq,decide_eq_false_iff_not] at *)
      all_goals try (exfalso; omega)
      all_goals (
        first
          | (have hF : covF i s = i.a + (s - i.a % s) := by simp only [covF]; rw [if_pos (by omega)])
          | (have hF : covF i s = i.a := by simp only [covF]; rw [if_neg (by omega)]; omega)
        first
          | rw [if_pos (by rw [hF]; simp only [covL]; omega)]
          | rw [if_neg (by rw [hF]; simp only [covL]; omega)]
        by_cases q : i.b - (i.b + 1) % s < i.b <;> by_cases q2 : i.a < covF i s <;> rw [hF] at q2 <;> first
          | (exfalso; omega)
          | (simp only [covV,covE,hF,covL,q,q2,if_true,if_false,Ivl.av,List.append_nil,List.nil_append,List.cons_append,List.map_cons,List.map_nil]; done))
theorem ref_from {a s : Int} (h0 : 0 ≤ a) (h1 : 1 ≤ s) : (a + s - 1) / s * s = a + (if 0 < a % s then s - a % s else 0) := by
  have hs : s ≠ 0 := by omega
  have e := Int.mul_ediv_add_emod a s
  have r1 := Int.emod_nonneg a hs
  have r2 := Int.emod_lt_of_pos a (show 0 < s by omega)
  by_cases hr : 0 < a % s
  · rw [if_pos hr]
    have : (a + s - 1) / s = a / s + 1 := by
      rw [show a + s - 1 = (a % s - 1) + s * (a / s + 1) by rw [Int.mul_add]; omega,Int.add_mul_ediv_left _ _ hs,Int.ediv_eq_zero_of_lt (by omega) (by omega)]
      omega
    rw [this,Int.add_mul,Int.mul_comm (a / s) s]
    omega
  · rw [if_neg hr]
    have : (a + s - 1) / s = a / s := by
      rw [show a + s - 1 = (s - 1) + s * (a / s) by omega,Int.add_mul_ediv_left _ _ hs,Int.ediv_eq_zero_of_lt (by omega) (by omega)]
      omega
    rw [this,Int.mul_comm (a / s) s]
    omega
theorem ref_to {b s : Int} : (b + 1) / s * s = b - (b + 1) % s + 1 := by
  have e := Int.mul_ediv_add_emod (b + 1) s
  rw [Int.mul_comm] at e
  omega
theorem cov_bounds {i : Ivl} {s : Int} (hv : validB i = true) (hs : sizeB s = true) : 0 ≤ covF i s ∧ i.a ≤ covF i s ∧ covF i s < i.a + s ∧ covL i s ≤ i.b ∧ i.b - s < covL i s := by
  obtain ⟨v1,v2,v3⟩ := valid_facts hv
  obtain ⟨s1,s2⟩ := size_facts hs
  have r1 := Int.emod_nonneg i.a (show s ≠ 0 by omega)
  have r2 := Int.emod_lt_of_pos i.a (show 0 < s by omega)
  have r3 := Int.emod_nonneg (i.b + 1) (show s ≠ 0 by omega)
  have r4 := Int.emod_lt_of_pos (i.b + 1) (show 0 < s by omega)
  simp only [covF,covL]
  split <;> omega
theorem c6 (hg : GlNR gl) (i : Ivl) (s : Int) : Pure Tryz.prog gl 6 [i.av,.int .i64 s] (.ok (covV (covA i s))) := by
  refine ⟨?_,by simp only [List.map_cons,List.map_nil,fg_int,fg_ivl,nrs,forall_eq_or_imp,forall_eq,implies_true,nr_ivl],by simp only [nrs,forall_eq_or_imp,forall_eq,implies_true,nr_cov]⟩
  simp only [List.map_cons,List.map_nil,fg_ivl,fg_int]
  refine MCalls.fgQ ?_
  rw [show i.av = .agg [.int .i64 i.a,.int .i64 i.b] from rfl]
  refine .of_run is6 (by simp) (mw_sound 200 ?_)
  cases hv : validB i with
  | false =>
    simp only [covA,hv,Bool.false_and,Bool.false_eq_true,if_false,covV,Ivl.av,List.map_nil]
    repeat' first
      | with_reducible first | refine mw_as m6.eq_1 ?_ | refine opn m6k0.eq_1 ?_ | refine opn m6k1.eq_1 ?_ | refine opn m6k2.eq_1 ?_ | refine opn m6k3.eq_1 ?_ | refine .pu (c8 i) hg rfl ?_ | refine ⟨?_,?_⟩ | intro _
      | simp only [go_sem,↓reduceIte,Nat.reduceAdd,Nat.reduceLeDiff,Nat.reduceEqDiff,Nat.reduceBEq,Nat.reduceBNe,Nat.reduceMul,Nat.reduceLT,reduceCtorEq,Int.reduceLT,Int.reduceLE,Int.reduceToNat,Int.reduceNeg,  hv,ne10,fgQ_ok,fg_tup,fg_agg,fg_int,fg_bool,fg_sl]
  | true =>
    cases hs : sizeB s with
    | false =>
      simp only [covA,hv,hs,Bool.and_false,Bool.false_eq_true,if_false,covV,Ivl.av,List.map_nil]
      repeat' first
        | with_reducible first | refine mw_as m6.eq_1 ?_ | refine opn m6k0.eq_1 ?_ | refine opn m6k1.eq_1 ?_ | refine opn m6k2.eq_1 ?_ | refine opn m6k3.eq_1 ?_ | refine .pu (c8 i) hg rfl ?_ | refine .pu (c9 s) hg rfl ?_ | refine ⟨?_,?_⟩ | intro _
        | simp only [go_sem,↓reduceIte,Nat.reduceAdd,Nat.reduceLeDiff,Nat.reduceEqDiff,Nat.reduceBEq,Nat.reduceBNe,Nat.reduceMul,Nat.reduceLT,reduceCtorEq,Int.reduceLT,Int.reduceLE,Int.reduceToNat,Int.reduceNeg,  hv,hs,ne10,fgQ_ok,fg_tup,fg_agg,fg_int,fg_bool,fg_sl]
    | true =>
      obtain ⟨v1,v2,v3⟩ := valid_facts hv
      obtain ⟨s1,s2⟩ := size_facts hs
      obtain ⟨b1,b2,b3,b4,b5⟩ := cov_bounds hv hs
      have s0 : (s = 0) = False := eq_false (by omega)
      have d1 := Int.ediv_nonneg (show 0 ≤ i.a + s - 1 by omega) (show 0 ≤ s by omega)
      have d2 := Int.ediv_le_self s (show 0 ≤ i.a + s - 1 by omega)
      have d3 := Int.ediv_nonneg (show 0 ≤ i.b + 1 by omega) (show 0 ≤ s by omega)
      have d4 := Int.ediv_le_self s (show 0 ≤ i.b + 1 by omega)
      have w1 : IntKind.i64.wrap (i.a + s) = i.a + s := wrap_i64_in (by omega) (by omega)
      have w2 : IntKind.i64.wrap (i.a + s - 1) = i.a + s - 1 := wrap_i64_in (by omega) (by omega)
      have q1 := tdiv_in (s := s) (show 0 ≤ i.a + s - 1 by omega)
      have w3 : IntKind.i64.wrap ((i.a + s - 1) / s) = (i.a + s - 1) / s := wrap_i64_in (by omega) (by omega)
      have e1 : IntKind.i64.wrap ((i.a + s - 1) / s * s) = covF i s := by rw [ref_from v1 s1]; exact wrap_i64_in (by show _ ≤ covF i s; omega) (by show covF i s < _; omega)
      have w4 : IntKind.i64.wrap (i.b + 1) = i.b + 1 := wrap_i64_in (by omega) (by omega)
      have q2 := tdiv_in (s := s) (show 0 ≤ i.b + 1 by omega)
      have w5 : IntKind.i64.wrap ((i.b + 1) / s) = (i.b + 1) / s := wrap_i64_in (by omega) (by omega)
      have e2 : IntKind.i64.wrap ((i.b + 1) / s * s) = covL i s + 1 := by rw [ref_to]; exact wrap_i64_in (by show _ ≤ covL i s + 1; omega) (by show covL i s + 1 < _; omega)
      have w6 : IntKind.i64.wrap (covL i s + 1 - 1) = covL i s := by rw [show covL i s + 1 - 1 = covL i s by omega]; exact wrap_i64_in (by omega) (by omega)
      have w7 : IntKind.i64.wrap (covL i s + 1) = covL i s + 1 := wrap_i64_in (by omega) (by omega)
      have w8 : IntKind.i64.wrap (covF i s - 1) = covF i s - 1 := wrap_i64_in (by omega) (by omega)
      have hcov : covA i s = if covL i s < covF i s then (⟨0,0⟩,false,[i]) else (⟨covF i s,covL i s⟩,true,covE i s) := by simp only [covA,hv,hs,Bool.and_self,if_true]
      rw [hcov]
      repeat' first
        | with_reducible first | refine mw_as m6.eq_1 ?_ | refine opn m6k0.eq_1 ?_ | refine opn m6k1.eq_1 ?_ | refine opn m6k2.eq_1 ?_ | refine opn m6k3.eq_1 ?_ | refine .pu (c8 i) hg rfl ?_ | refine .pu (c9 s) hg rfl ?_ | refine ⟨?_,?_⟩ | intro _
        | simp only [go_sem,↓reduceIte,Nat.reduceAdd,Nat.reduceLeDiff,Nat.reduceEqDiff,Nat.reduceBEq,Nat.reduceBNe,Nat.reduceMul,Nat.reduceLT,reduceCtorEq,Int.reduceLT,Int.reduceLE,Int.reduceToNat,Int.reduceNeg,  hv,hs,ne10,s0,q1,q2,w1,w2,w3,w4,w5,w6,w7,w8,e1,e2,fgQ_ok,fg_tup,fg_agg,fg_int,fg_bool,fg_sl,St.use,List.filter_cons,List.filter_nil,able_top]
      all_goals (simp only [decide_eq_true_eq,decide_eq_false_iff_not] at *)
      all_goals try (exfalso; omega)
      all_goals (
        by_cases q : covL i s < i.b <;> by_cases q2 : i.a < covF i s <;> by_cases q3 : covL i s < covF i s <;> first
          | (exfalso; omega)
          | (simp only [covV,covE,q,q2,q3,if_true,if_false,Ivl.av,List.append_nil,List.nil_append,List.cons_append,List.map_cons,List.map_nil]; done))
end Go.Proofs.YtombgigaefgaiaaGreatDoor
