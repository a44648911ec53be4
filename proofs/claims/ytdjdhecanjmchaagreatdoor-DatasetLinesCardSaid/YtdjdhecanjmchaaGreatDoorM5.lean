/- Contract: a line of a text, and its parts. -/
import Derived.Test.YtdjdhecanjmchaaGreatDoorFa
import Derived.Test.YtdjdhecanjmchaaGreatDoorFb
import Derived.Test.YtdjdhecanjmchaaGreatDoorFc
import Derived.Test.YtdjdhecanjmchaaGreatDoorTa
import Derived.Test.YtdjdhecanjmchaaGreatDoorM4
set_option linter.unusedSimpArgs false
set_option linter.unusedVariables false
namespace Go.Proofs.YtdjdhecanjmchaaGreatDoor
open Go Go.V Go.Lib
set_option maxRecDepth 40000
attribute [local go_sem ↓] keepK Opd.ev MK.ev MK.ob gsA
attribute [local go_sem high] gsB
attribute [local go_sem] binEv binOb intOp strOp unEv eqvEv eqCells eqCell noBld tasEv AV.there AV.plus pickCells storeEv AV.solid AV.cells splice putParts rowOK fldEv iarrEv extEv minEv nonNil lenEv isStr appEv appOb appArg slVecEv slVecOb slStrEv slStrOb bnd argF endQ rvsEv rvEv resOf St.none if_true if_false ite_self eq_self ne_eq implies_true forall_const Lab.av Val.av Exa.av Dset.av Req.av gsC
variable {gl : List (Nat × List AV)}
set_option maxHeartbeats 4000000 in
theorem c33 (s : Bytes) (at' : Nat) (f : Bytes) (fs : List Bytes) (rest : Bytes) (hs : s.length ≤ 100000000000000) (hn : fs.length ≤ 1000) (hd : s.drop at' = f ++ (joinTail [9] fs ++ 10 :: rest)) (hat : at' ≤ s.length)
    (hf : ∀ g ∈ f :: fs,∀ c ∈ g,c ≠ 9 ∧ c ≠ 10) : Pure Tryz.prog gl 33 [.str s,.int .i64 at'] (.ok (.tup [.sl 1 ((f :: fs).map AV.str) .unk,.int .i64 ((s.length - rest.length : Nat) : Int)])) := by
  refine Pure.ofFg ?_ (by simp only [fgs,nrs,forall_eq_or_imp,forall_eq,implies_true]) (by simp only [nrs,forall_eq_or_imp,forall_eq,implies_true])
  simp only [fgs]
  refine .of_run is33 (by simp) (mw_sound 200 ?_)
  repeat' first
    | with_reducible first | refine mw_as m33.eq_1 ?_ | refine opn m33k0.eq_1 ?_ | refine opn m33k1.eq_1 ?_ | refine opn m33k2.eq_1 ?_ | refine opn m33k3.eq_1 ?_ | refine ⟨?_,?_⟩ | intro _
    | simp only [go_sem,↓reduceIte,Nat.reduceAdd,Nat.reduceLeDiff,Nat.reduceEqDiff,Nat.reduceBEq,Nat.reduceBNe,Nat.reduceMul,Nat.reduceLT,reduceCtorEq,Int.reduceLT,Int.reduceLE,Int.reduceToNat,Int.reduceNeg]
  refine .loopN (fun mm F S => ∃ (acc : List Bytes) (g : Bytes) (gs : List Bytes) (fr i : Nat) (tk : STok) (n nt : Nat) (live : List Nat),mm = s.length - i ∧ AbT live tk ∧ f :: fs = acc ++ g :: gs ∧ fr ≤ s.length ∧ s.drop fr = g ++ (joinTail [9] gs ++ 10 :: rest) ∧ fr ≤ i ∧ i ≤ fr + g.length ∧
    F = [(0,.str s),(6,.sl 1 (acc.map AV.str) tk),(7,.int .i64 fr),(8,.int .i64 i)] ∧ S = ⟨n,[],nt,live,gl⟩) (s.length - at') ⟨[],f,fs,at',at',.exact,0,0,[],rfl,.inl rfl,rfl,hat,hd,Nat.le_refl _,by omega,rfl,rfl⟩ ?_
  rintro mm F S ⟨acc,g,gs,fr,i,tk,n,nt,live,rfl,hab,he,hfr,hdr,h1,h2,rfl,rfl⟩ ih
  have hlen : s.length = fr + (g.length + ((joinTail [9] gs).length + (1 + rest.length))) := by
    have := congrArg List.length hdr
    simp at this
    omega
  have hal : acc.length ≤ 1000 := by
    have := congrArg List.length he
    simp at this
    omega
  have hge : ∀ c ∈ g,c ≠ 9 ∧ c ≠ 10 := hf g (by rw [he]; simp)
  have hlt := ltB (show i < s.length by omega)
  have hab2 := fun n ob nt => hab.able (gl := gl) n ob nt
  have hget : s[i]? = (g ++ (joinTail [9] gs ++ 10 :: rest))[i - fr]? := by rw [← hdr,List.getElem?_drop,show fr + (i - fr) = i by omega]
  by_cases h : i < fr + g.length
  · obtain ⟨c,hc⟩ := some_of_lt (show i - fr < g.length by omega)
    rw [List.getElem?_append_left (by omega),hc] at hget
    obtain ⟨hc9,hc10⟩ := hge c (List.mem_of_getElem? hc)
    have e9 : ((c.toNat : Int) == 9) = false := by
      rw [beq_eq_false_iff_ne]
      intro e
      exact hc9 (UInt8.toNat_inj.1 (by have : (9 : UInt8).toNat = 9 := rfl; omega))
    have e10 : ((c.toNat : Int) == 10) = false := by
      rw [beq_eq_false_iff_ne]
      intro e
      exact hc10 (UInt8.toNat_inj.1 (by have : (10 : UInt8).toNat = 10 := rfl; omega))
    refine opn m33l0.eq_1 ?_
    repeat' first
      | with_reducible first | refine mw_as m33.eq_1 ?_ | refine opn m33k0.eq_1 ?_ | refine opn m33k1.eq_1 ?_ | refine opn m33k2.eq_1 ?_ | refine opn m33k3.eq_1 ?_ | refine ⟨?_,?_⟩ | intro _
      | simp only [go_sem,↓reduceIte,Nat.reduceAdd,Nat.reduceLeDiff,Nat.reduceEqDiff,Nat.reduceBEq,Nat.reduceBNe,Nat.reduceMul,Nat.reduceLT,reduceCtorEq,Int.reduceLT,Int.reduceLE,Int.reduceToNat,Int.reduceNeg,  hlt,hget,e9,e10,wrap_succ (show i < 9223372036854775807 by omega)]
    all_goals first
      | omega
      | exact ih _ _ _ (by omega) ⟨acc,g,gs,fr,i + 1,tk,n,nt,live,rfl,hab,he,hfr,hdr,by omega,by omega,rfl,rfl⟩
      | skip
  · obtain rfl : i = fr + g.length := by omega
    have hsl : List.drop fr (List.take (fr + g.length) s) = g := by
      rw [List.drop_take,hdr,Nat.add_sub_cancel_left,List.take_left]
    have hap : acc.map AV.str ++ [AV.str g] = (acc ++ [g]).map AV.str := by simp
    rw [List.getElem?_append_right (by omega),show fr + g.length - fr - g.length = 0 by omega] at hget
    cases gs with
    | nil =>
      have hget : s[fr + g.length]? = some 10 := hget
      have hr : s.length - rest.length = fr + g.length + 1 := by simp [joinTail] at hlen; omega
      refine opn m33l0.eq_1 ?_
      repeat' first
        | with_reducible first | refine mw_as m33.eq_1 ?_ | refine opn m33k0.eq_1 ?_ | refine opn m33k1.eq_1 ?_ | refine opn m33k2.eq_1 ?_ | refine opn m33k3.eq_1 ?_ | refine ⟨?_,?_⟩ | intro _
        | simp only [go_sem,↓reduceIte,Nat.reduceAdd,Nat.reduceLeDiff,Nat.reduceEqDiff,Nat.reduceBEq,Nat.reduceBNe,Nat.reduceMul,Nat.reduceLT,reduceCtorEq,Int.reduceLT,Int.reduceLE,Int.reduceToNat,Int.reduceNeg,  hlt,hget,(show (((10 : UInt8).toNat : Int) == 9) = false from rfl),(show (((10 : UInt8).toNat : Int) == 10) = true from rfl),hsl,use_eq,hap,wrap_succ (show fr + g.length < 9223372036854775807 by omega)]
      all_goals first
        | omega
        | exact hab2 _ _ _
        | (rw [List.length_map]; omega)
        | (rw [hr]
           refine FgOut.mk' ?_
           rw [show AV.str f :: fs.map AV.str = (f :: fs).map AV.str from rfl,he]
           simp only [fgs])
        | skip
    | cons g2 gs =>
      have hget : s[fr + g.length]? = some 9 := hget
      refine opn m33l0.eq_1 ?_
      repeat' first
        | with_reducible first | refine mw_as m33.eq_1 ?_ | refine opn m33k0.eq_1 ?_ | refine opn m33k1.eq_1 ?_ | refine opn m33k2.eq_1 ?_ | refine opn m33k3.eq_1 ?_ | refine ⟨?_,?_⟩ | intro _
        | simp only [go_sem,↓reduceIte,Nat.reduceAdd,Nat.reduceLeDiff,Nat.reduceEqDiff,Nat.reduceBEq,Nat.reduceBNe,Nat.reduceMul,Nat.reduceLT,reduceCtorEq,Int.reduceLT,Int.reduceLE,Int.reduceToNat,Int.reduceNeg,  hlt,hget,(show (((9 : UInt8).toNat : Int) == 9) = true from rfl),(show (((9 : UInt8).toNat : Int) == 10) = false from rfl),hsl,use_eq,hap,wrap_succ (show fr + g.length < 9223372036854775807 by omega)]
      all_goals first
        | omega
        | exact hab2 _ _ _
        | (rw [List.length_map]; omega)
        | (refine ih _ _ _ (by omega) ⟨acc ++ [g],g2,gs,fr + g.length + 1,fr + g.length + 1,.tok nt,n,nt + 1,nt :: useL live tk,rfl,.inr ⟨nt,rfl,List.mem_cons_self⟩,by rw [he]; simp,by omega,?_,Nat.le_refl _,by omega,rfl,rfl⟩
           rw [show fr + g.length + 1 = fr + (g.length + 1) by omega,← List.drop_drop,hdr,← List.drop_drop,List.drop_left]
           simp [joinTail])
        | skip
end Go.Proofs.YtdjdhecanjmchaaGreatDoor
