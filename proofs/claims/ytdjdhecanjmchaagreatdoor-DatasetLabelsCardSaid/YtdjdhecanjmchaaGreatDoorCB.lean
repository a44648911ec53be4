/- Contract: the law that a dataset's labels are the request's sample, in order, and that it cannot be made with one example less or more. -/
import Derived.Test.YtdjdhecanjmchaaGreatDoorCA
set_option linter.unusedSimpArgs false
set_option linter.unusedVariables false
namespace Go.Proofs.YtdjdhecanjmchaaGreatDoor
open Go Go.V Go.Lib
set_option maxRecDepth 40000
attribute [local go_sem ↓] keepK Opd.ev MK.ev MK.ob gsA
attribute [local go_sem high] gsB
attribute [local go_sem] binEv binOb intOp strOp unEv eqvEv eqCells eqCell noBld tasEv AV.there AV.plus pickCells storeEv AV.solid AV.cells splice putParts rowOK fldEv iarrEv extEv minEv nonNil lenEv isStr appEv appOb appArg slVecEv slVecOb slStrEv slStrOb bnd argF endQ rvsEv rvEv resOf St.none if_true if_false ite_self eq_self ne_eq implies_true forall_const Lab.av Val.av Exa.av Dset.av Req.av gsC
variable {gl : List (Nat × List AV)}
theorem sampleR_sorted (r : Req) : SortL (sampleR r) := (sortR_sorted r.labs).filter _
theorem makeR_cases (r : Req) (l : List Exa) : (makeR r l = (⟨r.ent,r.fs,l⟩,0) ∧ form24 r = true ∧ l.map Exa.lab = sampleR r) ∨ makeR r l = (⟨[],[],[]⟩,1) ∨ makeR r l = (⟨[],[],[]⟩,240) := by
  rw [makeR]
  split
  · rename_i hf
    split
    · rename_i h
      rw [Bool.and_eq_true,beq_iff_eq] at h
      exact .inl ⟨rfl,hf,h.2⟩
    · exact .inr (.inl rfl)
  · exact .inr (.inr rfl)
theorem makeR_arg {r : Req} {l : List Exa} (hf : form24 r = true) (h : l.length ≠ (sampleR r).length) : makeR r l = (⟨[],[],[]⟩,1) := by
  have : (l.map Exa.lab == sampleR r) = false := by
    rw [beq_eq_false_iff_ne]
    intro e
    exact h (by rw [← e,List.length_map])
  rw [makeR,hf,this,Bool.and_false]; rfl
set_option maxHeartbeats 1000000 in
theorem c7 (hg : GlNR gl) {m0 : Int} (hm0 : gl.lookup 1 = some [.int .i64 m0]) (h11 : Pure Tryz.prog gl 11 [] (.ok (.bool true))) (r : Req) (l : List Exa) (hk : ∀ x ∈ r.labs,x.k.length ≤ 9223372036854775807) : Pure Tryz.prog gl 7 [r.av,.sl 4 (l.map Exa.av) .unk] (.ok (.bool true)) := by
  refine ⟨?_,by simp only [fgs,nrs,forall_eq_or_imp,forall_eq,implies_true],by simp only [nrs,forall_eq_or_imp,forall_eq,implies_true]⟩
  simp only [fgs]
  refine .of_run is7 (by simp) (mw_sound 200 ?_)
  have n1 : ((1 : Int) != 0) = true := rfl
  have n2 : ((240 : Int) != 0) = true := rfl
  have h12 := c12 (gl := gl) hg r
  have h13 := c13 (gl := gl) hg ⟨[],[],l⟩
  rcases Bool.eq_false_or_eq_true (fewR r) with hr | hr
  · rcases Bool.eq_false_or_eq_true (fewD ⟨[],[],l⟩) with hl | hl
    · obtain ⟨s1,s2⟩ := few_small hr hl hk
      have h14 := c14 hg hm0 r l .unk s1 s2
      rw [hr] at h12
      rw [hl] at h13
      have h16 := c16 (gl := gl) hg ⟨[],[],[]⟩ ⟨[],[],[]⟩ (by simp) (by simp) (by simp)
      rw [show ((⟨[],[],[]⟩ : Dset) == ⟨[],[],[]⟩) = true by simp] at h16
      rcases makeR_cases r l with ⟨he,hf,hs⟩ | he | he
      · rw [makeAV,he] at h14
        obtain ⟨f1,f2⟩ := form24_in hf
        have h26 := c26 hg r (by omega) f2
        have hlen : (sampleR r).length = l.length := by rw [← hs,List.length_map]
        have hll : l.length < 4294950000 := by
          simp only [fewD,Bool.and_eq_true,decide_eq_true_eq] at hl
          obtain ⟨⟨⟨⟨_,_⟩,h5⟩,_⟩,h6⟩ := hl
          omega
        repeat' first
          | with_reducible first | refine mw_as m7.eq_1 ?_ | refine opn m7k0.eq_1 ?_ | refine opn m7k1.eq_1 ?_ | refine opn m7k2.eq_1 ?_ | refine opn m7k3.eq_1 ?_ | refine opn m7k4.eq_1 ?_ | refine opn m7k5.eq_1 ?_ | refine opn m7k6.eq_1 ?_ | refine .pu (h11) hg rfl ?_ | refine .pu (h12) hg rfl ?_ | refine .pu (Pure.conv (h13) (by simp only [fgs])) hg rfl ?_ | refine .pu (h14) hg rfl ?_ | refine .pu (h26) hg rfl ?_ | refine ⟨?_,?_⟩ | intro _
          | simp only [go_sem,↓reduceIte,Nat.reduceAdd,Nat.reduceLeDiff,Nat.reduceEqDiff,Nat.reduceBEq,Nat.reduceBNe,Nat.reduceMul,Nat.reduceLT,reduceCtorEq,Int.reduceLT,Int.reduceLE,Int.reduceToNat,Int.reduceNeg,  hlen]
        refine .forUp l.length (fun i F S => F = [(1,AV.sl 4 (List.map Exa.av l) STok.unk),(2,AV.ptr 0 0),(5,AV.ptr 1 0),(7,AV.sl 3 (List.map Lab.av (sampleR r)) STok.unk),(8,AV.int IntKind.i64 i)] ∧
          S = ⟨2,[(1,[AV.str r.ent,AV.sl 1 (List.map AV.str r.fs) STok.unk,AV.sl 4 (List.map Exa.av l) STok.unk]),(1,[AV.str [],AV.sl 1 [] STok.exact,AV.sl 4 [] STok.exact]),(0,[AV.str r.ent,AV.sl 1 (List.map AV.str r.fs) STok.unk,AV.sl 3 (List.map Lab.av r.labs) STok.unk,AV.int IntKind.i64 r.seed,AV.int IntKind.i64 r.pm])],0,[],gl⟩) ⟨rfl,rfl⟩ ?_
        rintro i F S hi ⟨rfl,rfl⟩ ih
        by_cases h : i < l.length
        · obtain ⟨x,hx⟩ := some_of_lt h
          have hxl : (sampleR r)[i]? = some x.lab := by rw [← hs,List.getElem?_map,hx]; rfl
          refine opn m7l0.eq_1 ?_
          by_cases h0 : 0 < i
          · obtain ⟨y,hy⟩ := some_of_lt (s := sampleR r) (i := i - 1) (by omega)
            have h27 := c27 (gl := gl) hg y x.lab
            have hlt : labLt y x.lab = true := by
              obtain ⟨a1,a2⟩ := List.getElem?_eq_some_iff.1 hy
              obtain ⟨b1,b2⟩ := List.getElem?_eq_some_iff.1 hxl
              have := List.pairwise_iff_getElem.1 (sampleR_sorted r) (i - 1) i a1 b1 (by omega)
              rwa [a2,b2] at this
            rw [hlt] at h27
            have g0 : ((0 : Int) < (i : Int)) = True := by simp; omega
            have g1 : IntKind.i64.wrap ((i : Int) - 1) = ((i - 1 : Nat) : Int) := by rw [wrap_i64_in (by omega) (by omega)]; omega
            repeat' first
              | with_reducible first | refine mw_as m7.eq_1 ?_ | refine opn m7k0.eq_1 ?_ | refine opn m7k1.eq_1 ?_ | refine opn m7k2.eq_1 ?_ | refine opn m7k3.eq_1 ?_ | refine opn m7k4.eq_1 ?_ | refine opn m7k5.eq_1 ?_ | refine opn m7k6.eq_1 ?_ | refine .pu (h27) hg rfl ?_ | refine ⟨?_,?_⟩ | intro _
              | simp only [go_sem,↓reduceIte,Nat.reduceAdd,Nat.reduceLeDiff,Nat.reduceEqDiff,Nat.reduceBEq,Nat.reduceBNe,Nat.reduceMul,Nat.reduceLT,reduceCtorEq,Int.reduceLT,Int.reduceLE,Int.reduceToNat,Int.reduceNeg,  hx,hxl,hy,g0,g1,hlen,ltB h,ltP h,wrap_succ (show i < 9223372036854775807 by omega)]
            · omega
            exact ih h _ _ ⟨rfl,rfl⟩
          · have g0 : ((0 : Int) < (i : Int)) = False := by simp; omega
            repeat' first
              | with_reducible first | refine mw_as m7.eq_1 ?_ | refine opn m7k0.eq_1 ?_ | refine opn m7k1.eq_1 ?_ | refine opn m7k2.eq_1 ?_ | refine opn m7k3.eq_1 ?_ | refine opn m7k4.eq_1 ?_ | refine opn m7k5.eq_1 ?_ | refine opn m7k6.eq_1 ?_ | refine ⟨?_,?_⟩ | intro _
              | simp only [go_sem,↓reduceIte,Nat.reduceAdd,Nat.reduceLeDiff,Nat.reduceEqDiff,Nat.reduceBEq,Nat.reduceBNe,Nat.reduceMul,Nat.reduceLT,reduceCtorEq,Int.reduceLT,Int.reduceLE,Int.reduceToNat,Int.reduceNeg,  hx,hxl,g0,hlen,ltB h,ltP h,wrap_succ (show i < 9223372036854775807 by omega)]
            exact ih h _ _ ⟨rfl,rfl⟩
        · refine opn m7l0.eq_1 ?_
          by_cases hz : l.length = 0
          · have g0 : ((l.length : Int) == 0) = true := by simp; exact List.eq_nil_of_length_eq_zero hz
            repeat' first
              | with_reducible first | refine mw_as m7.eq_1 ?_ | refine opn m7k0.eq_1 ?_ | refine opn m7k1.eq_1 ?_ | refine opn m7k2.eq_1 ?_ | refine opn m7k3.eq_1 ?_ | refine opn m7k4.eq_1 ?_ | refine opn m7k5.eq_1 ?_ | refine opn m7k6.eq_1 ?_ | refine ⟨?_,?_⟩ | intro _
              | simp only [go_sem,↓reduceIte,Nat.reduceAdd,Nat.reduceLeDiff,Nat.reduceEqDiff,Nat.reduceBEq,Nat.reduceBNe,Nat.reduceMul,Nat.reduceLT,reduceCtorEq,Int.reduceLT,Int.reduceLE,Int.reduceToNat,Int.reduceNeg,  hlen,geB (Nat.le_of_not_lt h),g0]
          · have g0 : ((l.length : Int) == 0) = false := by rw [beq_eq_false_iff_ne]; omega
            have g1 : IntKind.i64.wrap ((l.length : Int) - 1) = ((l.length - 1 : Nat) : Int) := by rw [wrap_i64_in (by omega) (by omega)]; omega
            obtain ⟨x,hx⟩ := some_of_lt (s := l) (i := l.length - 1) (by omega)
            have hxm := List.mem_of_getElem? hx
            have sl : SmallD ⟨r.ent,r.fs,l.dropLast⟩ := ⟨s2.ent,s2.fs,s2.f,by have := s2.xs; simp at this ⊢; omega,fun y hy => s2.k y (List.dropLast_subset _ hy),fun y hy => s2.vs y (List.dropLast_subset _ hy),fun y hy => s2.v y (List.dropLast_subset _ hy)⟩
            have sm : SmallD ⟨r.ent,r.fs,l ++ [x]⟩ := by
              have hm : ∀ y,y ∈ l ++ [x] → y ∈ l := fun y hy => by
                rcases List.mem_append.1 hy with hy | hy
                · exact hy
                · rw [List.mem_singleton.1 hy]; exact hxm
              exact ⟨s2.ent,s2.fs,s2.f,by simp only [List.length_append,List.length_singleton]; omega,fun y hy => s2.k y (hm y hy),fun y hy => s2.vs y (hm y hy),fun y hy => s2.v y (hm y hy)⟩
            have ha := c14 hg hm0 r l.dropLast .unk s1 sl
            have hb := c14 hg hm0 r (l ++ [x]) .unk s1 sm
            rw [makeAV,makeR_arg (r := r) (l := l.dropLast) hf (by rw [List.length_dropLast,hlen]; omega)] at ha
            rw [makeAV,makeR_arg (r := r) (l := l ++ [x]) hf (by rw [List.length_append,List.length_singleton,hlen]; omega)] at hb
            have e1 : List.take (l.length - 1) (List.map Exa.av l) = List.map Exa.av l.dropLast := by rw [List.dropLast_eq_take,List.map_take]
            rw [← e1] at ha
            simp only [List.map_append,List.map_cons,List.map_nil,Exa.av,Lab.av] at hb
            repeat' first
              | with_reducible first | refine mw_as m7.eq_1 ?_ | refine opn m7k0.eq_1 ?_ | refine opn m7k1.eq_1 ?_ | refine opn m7k2.eq_1 ?_ | refine opn m7k3.eq_1 ?_ | refine opn m7k4.eq_1 ?_ | refine opn m7k5.eq_1 ?_ | refine opn m7k6.eq_1 ?_ | refine .pu (ha) hg rfl ?_ | refine .pu (Pure.conv (hb) (by simp only [fgs])) hg rfl ?_ | refine ⟨?_,?_⟩ | intro _
              | simp only [go_sem,↓reduceIte,Nat.reduceAdd,Nat.reduceLeDiff,Nat.reduceEqDiff,Nat.reduceBEq,Nat.reduceBNe,Nat.reduceMul,Nat.reduceLT,reduceCtorEq,Int.reduceLT,Int.reduceLE,Int.reduceToNat,Int.reduceNeg,  hlen,geB (Nat.le_of_not_lt h),g0,g1,hx,use_eq]
            all_goals first | omega | exact .inl rfl | exact .inr ⟨_,rfl,List.mem_cons_self⟩
      · rw [makeAV,he] at h14
        repeat' first
          | with_reducible first | refine mw_as m7.eq_1 ?_ | refine opn m7k0.eq_1 ?_ | refine opn m7k1.eq_1 ?_ | refine opn m7k2.eq_1 ?_ | refine opn m7k3.eq_1 ?_ | refine opn m7k4.eq_1 ?_ | refine opn m7k5.eq_1 ?_ | refine opn m7k6.eq_1 ?_ | refine .pu (h11) hg rfl ?_ | refine .pu (h12) hg rfl ?_ | refine .pu (Pure.conv (h13) (by simp only [fgs])) hg rfl ?_ | refine .pu (h14) hg rfl ?_ | refine .pu (Pure.conv (h16) (by simp only [fgs])) hg rfl ?_ | refine ⟨?_,?_⟩ | intro _
          | simp only [go_sem,↓reduceIte,Nat.reduceAdd,Nat.reduceLeDiff,Nat.reduceEqDiff,Nat.reduceBEq,Nat.reduceBNe,Nat.reduceMul,Nat.reduceLT,reduceCtorEq,Int.reduceLT,Int.reduceLE,Int.reduceToNat,Int.reduceNeg,  n1,n2]
      · rw [makeAV,he] at h14
        repeat' first
          | with_reducible first | refine mw_as m7.eq_1 ?_ | refine opn m7k0.eq_1 ?_ | refine opn m7k1.eq_1 ?_ | refine opn m7k2.eq_1 ?_ | refine opn m7k3.eq_1 ?_ | refine opn m7k4.eq_1 ?_ | refine opn m7k5.eq_1 ?_ | refine opn m7k6.eq_1 ?_ | refine .pu (h11) hg rfl ?_ | refine .pu (h12) hg rfl ?_ | refine .pu (Pure.conv (h13) (by simp only [fgs])) hg rfl ?_ | refine .pu (h14) hg rfl ?_ | refine .pu (Pure.conv (h16) (by simp only [fgs])) hg rfl ?_ | refine ⟨?_,?_⟩ | intro _
          | simp only [go_sem,↓reduceIte,Nat.reduceAdd,Nat.reduceLeDiff,Nat.reduceEqDiff,Nat.reduceBEq,Nat.reduceBNe,Nat.reduceMul,Nat.reduceLT,reduceCtorEq,Int.reduceLT,Int.reduceLE,Int.reduceToNat,Int.reduceNeg,  n1,n2]
    · rw [hr] at h12
      rw [hl] at h13
      repeat' first
        | with_reducible first | refine mw_as m7.eq_1 ?_ | refine opn m7k0.eq_1 ?_ | refine opn m7k1.eq_1 ?_ | refine opn m7k2.eq_1 ?_ | refine opn m7k3.eq_1 ?_ | refine opn m7k4.eq_1 ?_ | refine opn m7k5.eq_1 ?_ | refine opn m7k6.eq_1 ?_ | refine .pu (h11) hg rfl ?_ | refine .pu (h12) hg rfl ?_ | refine .pu (Pure.conv (h13) (by simp only [fgs])) hg rfl ?_ | refine ⟨?_,?_⟩ | intro _
        | simp only [go_sem,↓reduceIte,Nat.reduceAdd,Nat.reduceLeDiff,Nat.reduceEqDiff,Nat.reduceBEq,Nat.reduceBNe,Nat.reduceMul,Nat.reduceLT,reduceCtorEq,Int.reduceLT,Int.reduceLE,Int.reduceToNat,Int.reduceNeg]
  · rw [hr] at h12
    repeat' first
      | with_reducible first | refine mw_as m7.eq_1 ?_ | refine opn m7k0.eq_1 ?_ | refine opn m7k1.eq_1 ?_ | refine opn m7k2.eq_1 ?_ | refine opn m7k3.eq_1 ?_ | refine opn m7k4.eq_1 ?_ | refine opn m7k5.eq_1 ?_ | refine opn m7k6.eq_1 ?_ | refine .pu (h11) hg rfl ?_ | refine .pu (h12) hg rfl ?_ | refine ⟨?_,?_⟩ | intro _
      | simp only [go_sem,↓reduceIte,Nat.reduceAdd,Nat.reduceLeDiff,Nat.reduceEqDiff,Nat.reduceBEq,Nat.reduceBNe,Nat.reduceMul,Nat.reduceLT,reduceCtorEq,Int.reduceLT,Int.reduceLE,Int.reduceToNat,Int.reduceNeg]
end Go.Proofs.YtdjdhecanjmchaaGreatDoor
