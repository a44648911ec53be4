/- Contracts: requests that are well-formed, and whether their text is empty. -/
import Derived.Test.YtdjdhecanjmchaaGreatDoorFa
import Derived.Test.YtdjdhecanjmchaaGreatDoorFb
import Derived.Test.YtdjdhecanjmchaaGreatDoorFc
import Derived.Test.YtdjdhecanjmchaaGreatDoorUa
import Derived.Test.YtdjdhecanjmchaaGreatDoorX1
import Derived.Test.YtdjdhecanjmchaaGreatDoorC0
set_option linter.unusedSimpArgs false
set_option linter.unusedVariables false
namespace Go.Proofs.YtdjdhecanjmchaaGreatDoor
open Go Go.V Go.Lib
set_option maxRecDepth 40000
attribute [local go_sem ↓] keepK Opd.ev MK.ev MK.ob gsA
attribute [local go_sem high] gsB
attribute [local go_sem] binEv binOb intOp strOp unEv eqvEv eqCells eqCell noBld tasEv AV.there AV.plus pickCells storeEv AV.solid AV.cells splice putParts rowOK fldEv iarrEv extEv minEv nonNil lenEv isStr appEv appOb appArg slVecEv slVecOb slStrEv slStrOb bnd argF endQ rvsEv rvEv resOf St.none if_true if_false ite_self eq_self ne_eq implies_true forall_const Lab.av Val.av Exa.av Dset.av Req.av gsC
variable {gl : List (Nat × List AV)}
theorem c155 (s : Bytes) (hs : s.length ≤ 9223372036854775807) (hg : GlNR gl) : Pure Tryz.prog gl 155 [.str s] (.ok (.bool (keyR s))) := by
  have hk : keyR s = (!(s == []) && (chkR ⟨5,0,s⟩ == 0)) := by
    rw [chk_key s]
    cases s with
    | nil => rfl
    | cons c t => rfl
  refine ⟨?_,by simp only [fgs,nrs,forall_eq_or_imp,forall_eq,implies_true],by simp only [nrs,forall_eq_or_imp,forall_eq,implies_true]⟩
  simp only [fgs]
  refine .of_run is155 (by simp) (mw_sound 200 ?_)
  repeat' first
    | with_reducible first | refine mw_as m155.eq_1 ?_ | refine .pu (c32 ⟨5,0,s⟩ hs) hg rfl ?_ | refine ⟨?_,?_⟩ | intro _
    | simp only [go_sem,↓reduceIte,Nat.reduceAdd,Nat.reduceLeDiff,Nat.reduceEqDiff,Nat.reduceBEq,Nat.reduceBNe,Nat.reduceMul,Nat.reduceLT,reduceCtorEq,Int.reduceLT,Int.reduceLE,Int.reduceToNat,Int.reduceNeg]
  all_goals (rw [hk]; simp_all)
theorem c154 (hg : GlNR gl) (x : Lab) (hs : x.k.length ≤ 9223372036854775807) : Pure Tryz.prog gl 154 [x.av] (.ok (.bool (!labB x))) := by
  refine ⟨?_,by simp only [fgs,nrs,forall_eq_or_imp,forall_eq,implies_true],by simp only [nrs,forall_eq_or_imp,forall_eq,implies_true]⟩
  simp only [fgs]
  refine .of_run is154 (by simp) (mw_sound 200 ?_)
  repeat' first
    | with_reducible first | refine mw_as m154.eq_1 ?_ | refine .pu (c155 x.k hs hg) hg rfl ?_ | refine .pu (c152 x.e) hg rfl ?_ | refine .pu (c152 x.n) hg rfl ?_ | refine ⟨?_,?_⟩ | intro _
    | simp only [go_sem,↓reduceIte,Nat.reduceAdd,Nat.reduceLeDiff,Nat.reduceEqDiff,Nat.reduceBEq,Nat.reduceBNe,Nat.reduceMul,Nat.reduceLT,reduceCtorEq,Int.reduceLT,Int.reduceLE,Int.reduceToNat,Int.reduceNeg]
  all_goals (simp only [labB]; grind)
def badL : List Lab → Int → Int
  | [],_ => -1
  | x :: l,i => if labB x then badL l (i + 1) else i
theorem badL_ge : ∀ (l : List Lab) (i : Int),0 ≤ i → decide (0 ≤ badL l i) = !l.all labB
  | [],i,_ => by simp [badL]
  | x :: l,i,hi => by
    have ih := badL_ge l (i + 1) (by omega)
    by_cases h : labB x = true
    · have e : badL (x :: l) i = badL l (i + 1) := by simp [badL,h]
      simp only [e,ih]
      simp [h]
    · have e : badL (x :: l) i = i := by simp [badL,h]
      simp only [e]
      simp [h,hi]
theorem c193 (hg : GlNR gl) (l : List Lab) (t : STok) (hl : l.length < 4294967296) (hv : ∀ v ∈ l,v.k.length ≤ 9223372036854775807) : Pure Tryz.prog gl 193 [.sl 3 (l.map Lab.av) t,.fn (.func 154) [] []] (.ok (.int .i64 (badL l 0))) := by
  refine ⟨?_,by simp only [fgs,nrs,forall_eq_or_imp,forall_eq,implies_true],by simp only [nrs,forall_eq_or_imp,forall_eq,implies_true]⟩
  simp only [fgs]
  refine .of_run is193 (by simp) (mw_sound 200 ?_)
  repeat' first
    | with_reducible first | refine mw_as m193.eq_1 ?_ | refine opn m193k0.eq_1 ?_ | refine ⟨?_,?_⟩ | intro _
    | simp only [go_sem,↓reduceIte,Nat.reduceAdd,Nat.reduceLeDiff,Nat.reduceEqDiff,Nat.reduceBEq,Nat.reduceBNe,Nat.reduceMul,Nat.reduceLT,reduceCtorEq,Int.reduceLT,Int.reduceLE,Int.reduceToNat,Int.reduceNeg]
  refine .forUp l.length (fun i F S => F = [(0,AV.sl 3 (List.map Lab.av l) STok.unk),(1,AV.fn (Fn.func 154) [] []),(7,AV.int IntKind.i64 ↑l.length),(8,AV.int IntKind.i64 i)] ∧ (∃ m t,S = ⟨m,[],t,[],gl⟩) ∧ badL l 0 = badL (l.drop i) i) ⟨rfl,⟨_,_,rfl⟩,rfl⟩ ?_
  rintro i F S hi ⟨rfl,⟨m,nt,rfl⟩,he⟩ ih
  by_cases h : i < l.length
  · obtain ⟨c,hc⟩ := some_of_lt h
    have hd := drop_some hc
    have hcv := hv c (List.mem_of_getElem? hc)
    refine opn m193l0.eq_1 ?_
    repeat' first
      | with_reducible first | refine mw_as m193.eq_1 ?_ | refine opn m193k0.eq_1 ?_ | refine .pu (c154 hg c hcv) hg rfl ?_ | refine ⟨?_,?_⟩ | intro _
      | simp only [go_sem,↓reduceIte,Nat.reduceAdd,Nat.reduceLeDiff,Nat.reduceEqDiff,Nat.reduceBEq,Nat.reduceBNe,Nat.reduceMul,Nat.reduceLT,reduceCtorEq,Int.reduceLT,Int.reduceLE,Int.reduceToNat,Int.reduceNeg,  hc,ltB h,ltP h,wrap_succ (show i < 9223372036854775807 by omega)]
    all_goals first
      | (refine .forget (ih h _ _ ⟨rfl,⟨_,_,rfl⟩,?_⟩)
         clear ih
         rw [he,hd]
         clear he hc hd
         simp_all [badL])
      | (clear ih
         rw [he,hd]
         clear he hc hd
         simp only [badL]
         grind)
  · refine opn m193l0.eq_1 ?_
    repeat' first
      | with_reducible first | refine mw_as m193.eq_1 ?_ | refine opn m193k0.eq_1 ?_ | refine ⟨?_,?_⟩ | intro _
      | simp only [go_sem,↓reduceIte,Nat.reduceAdd,Nat.reduceLeDiff,Nat.reduceEqDiff,Nat.reduceBEq,Nat.reduceBNe,Nat.reduceMul,Nat.reduceLT,reduceCtorEq,Int.reduceLT,Int.reduceLE,Int.reduceToNat,Int.reduceNeg,  geB (Nat.le_of_not_lt h)]
    rw [he,List.drop_eq_nil_of_le (Nat.le_of_not_lt h)]
    rfl
theorem c153 (hg : GlNR gl) (l : List Lab) (t : STok) (hl : l.length < 4294967296) (hv : ∀ v ∈ l,v.k.length ≤ 9223372036854775807) : Pure Tryz.prog gl 153 [.sl 3 (l.map Lab.av) t,.fn (.func 154) [] []] (.ok (.bool (!l.all labB))) := by
  refine ⟨?_,by simp only [fgs,nrs,forall_eq_or_imp,forall_eq,implies_true],by simp only [nrs,forall_eq_or_imp,forall_eq,implies_true]⟩
  simp only [fgs]
  refine .of_run is153 (by simp) (mw_sound 200 ?_)
  repeat' first
    | with_reducible first | refine mw_as m153.eq_1 ?_ | refine .pu (c193 hg l .unk hl hv) hg rfl ?_ | refine ⟨?_,?_⟩ | intro _
    | simp only [go_sem,↓reduceIte,Nat.reduceAdd,Nat.reduceLeDiff,Nat.reduceEqDiff,Nat.reduceBEq,Nat.reduceBNe,Nat.reduceMul,Nat.reduceLT,reduceCtorEq,Int.reduceLT,Int.reduceLE,Int.reduceToNat,Int.reduceNeg]
  all_goals exact badL_ge l 0 (by omega)
structure SmallR (r : Req) : Prop where
  ent : r.ent.length < 4294960000
  f : ∀ f ∈ r.fs,f.length < 4294960000
  k : ∀ x ∈ r.labs,x.k.length ≤ 9223372036854775807
  fs : r.fs.length < 4294960000
  labs : r.labs.length < 4294960000
set_option maxHeartbeats 4000000 in
theorem c91 (hg : GlNR gl) {m0 : Int} (hm0 : gl.lookup 1 = some [.int .i64 m0]) (r : Req) (hs : SmallR r) : Pure Tryz.prog gl 91 [r.av] (.ok (.bool (form24 r))) := by
  refine ⟨?_,by simp only [fgs,nrs,forall_eq_or_imp,forall_eq,implies_true],by simp only [nrs,forall_eq_or_imp,forall_eq,implies_true]⟩
  simp only [fgs]
  refine .of_run is91 (by simp) (mw_sound 200 ?_)
  have hfl := hs.fs
  have hll := hs.labs
  have key1 : form24 r = (featsB r.fs && r.labs.all labB) → MRun Tryz.prog 67 [MI.code m91l0.loop,MI.inBlock 0,MI.code (MC.named [1] m91k3)] [] [(1,AV.ptr 0 0),(44,AV.sl 1 (List.map AV.str r.fs) STok.unk),(45,AV.int IntKind.i64 r.fs.length),(46,AV.int IntKind.i64 0)]
      ⟨1,[(0,[AV.str r.ent,AV.sl 1 (List.map AV.str r.fs) STok.unk,AV.sl 3 (List.map Lab.av r.labs) STok.unk,.int .i64 r.seed,.int .i64 r.pm])],0,[],gl⟩ (endQ [RV.t 2] fun o' x => o' = Out.ok (AV.bool (form24 r))) := by
    intro hf
    refine .forUp r.fs.length (fun i F S => F = [(1,AV.ptr 0 0),(44,AV.sl 1 (List.map AV.str r.fs) STok.unk),(45,AV.int IntKind.i64 r.fs.length),(46,AV.int IntKind.i64 i)] ∧ S = ⟨1,[(0,[AV.str r.ent,AV.sl 1 (List.map AV.str r.fs) STok.unk,AV.sl 3 (List.map Lab.av r.labs) STok.unk,.int .i64 r.seed,.int .i64 r.pm])],0,[],gl⟩ ∧ form24 r = (featsFrom r.fs i (r.fs.drop i) && r.labs.all labB)) ⟨rfl,rfl,hf⟩ ?_
    rintro i F S hi ⟨rfl,rfl,he⟩ ih
    by_cases h : i < r.fs.length
    · obtain ⟨c,hc⟩ := some_of_lt h
      have hd := drop_some hc
      rw [hd,featsFrom] at he
      refine opn m91l0.eq_1 ?_
      have hcl : c.length < 4294960000 := hs.f c (List.mem_of_getElem? hc)
      have htl : (r.fs.take i).length < 4294967296 := by rw [List.length_take]; omega
      repeat' first
        | with_reducible first | refine mw_as m91.eq_1 ?_ | refine opn m91k0.eq_1 ?_ | refine opn m91k1.eq_1 ?_ | refine opn m91k2.eq_1 ?_ | refine opn m91k3.eq_1 ?_ | refine opn m91k4.eq_1 ?_ | refine .pu (c92 hg hm0 c hcl) hg rfl ?_ | refine .pu (c93 hg (r.fs.take i) c .unk htl) hg rfl ?_ | refine ⟨?_,?_⟩ | intro _
        | simp only [go_sem,↓reduceIte,Nat.reduceAdd,Nat.reduceLeDiff,Nat.reduceEqDiff,Nat.reduceBEq,Nat.reduceBNe,Nat.reduceMul,Nat.reduceLT,reduceCtorEq,Int.reduceLT,Int.reduceLE,Int.reduceToNat,Int.reduceNeg,  hc,ltB h,ltP h,wrap_succ (show i < 9223372036854775807 by omega),← List.map_take,Int.natCast_nonneg]
      · omega
      · rename_i h6 h7
        rw [he,h7]
        simp
      · rename_i h6 h7
        have h6 : nameB c = true := by simpa using h6
        rw [h6,h7,Bool.not_false,Bool.true_and,Bool.true_and] at he
        exact ih h _ _ ⟨rfl,rfl,he⟩
      · rename_i h6
        have h6 : nameB c = false := by simpa using h6
        rw [he,h6]
        rfl
    · refine opn m91l0.eq_1 ?_
      rw [List.drop_eq_nil_of_le (Nat.le_of_not_lt h),featsFrom,Bool.true_and] at he
      repeat' first
        | with_reducible first | refine mw_as m91.eq_1 ?_ | refine opn m91k0.eq_1 ?_ | refine opn m91k1.eq_1 ?_ | refine opn m91k2.eq_1 ?_ | refine opn m91k3.eq_1 ?_ | refine opn m91k4.eq_1 ?_ | refine .pu (c153 hg r.labs .unk (by omega) hs.k) hg rfl ?_ | refine ⟨?_,?_⟩ | intro _
        | simp only [go_sem,↓reduceIte,Nat.reduceAdd,Nat.reduceLeDiff,Nat.reduceEqDiff,Nat.reduceBEq,Nat.reduceBNe,Nat.reduceMul,Nat.reduceLT,reduceCtorEq,Int.reduceLT,Int.reduceLE,Int.reduceToNat,Int.reduceNeg,  geB (Nat.le_of_not_lt h)]
      all_goals (rw [he]; simp)
  repeat' first
    | with_reducible first | refine mw_as m91.eq_1 ?_ | refine opn m91k0.eq_1 ?_ | refine opn m91k1.eq_1 ?_ | refine opn m91k2.eq_1 ?_ | refine opn m91k3.eq_1 ?_ | refine opn m91k4.eq_1 ?_ | refine .pu (c92 hg hm0 r.ent hs.ent) hg rfl ?_ | refine .pu (c152 r.seed) hg rfl ?_ | refine ⟨?_,?_⟩ | intro _
    | simp only [go_sem,↓reduceIte,Nat.reduceAdd,Nat.reduceLeDiff,Nat.reduceEqDiff,Nat.reduceBEq,Nat.reduceBNe,Nat.reduceMul,Nat.reduceLT,reduceCtorEq,Int.reduceLT,Int.reduceLE,Int.reduceToNat,Int.reduceNeg]
  all_goals first
    | (refine key1 ?_
       simp only [form24]
       grind)
    | (simp only [form24]
       grind)
end Go.Proofs.YtdjdhecanjmchaaGreatDoor
