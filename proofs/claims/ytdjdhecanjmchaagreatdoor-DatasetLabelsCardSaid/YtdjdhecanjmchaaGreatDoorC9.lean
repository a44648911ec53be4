/- Contracts: dataset.Make, the program's and the reference's. -/
import Derived.Test.YtdjdhecanjmchaaGreatDoorC8
import Derived.Test.YtdjdhecanjmchaaGreatDoorC3
import Derived.Test.YtdjdhecanjmchaaGreatDoorP3
import Derived.Test.YtdjdhecanjmchaaGreatDoorP1
set_option linter.unusedSimpArgs false
set_option linter.unusedVariables false
namespace Go.Proofs.YtdjdhecanjmchaaGreatDoor
open Go Go.V Go.Lib
set_option maxRecDepth 40000
attribute [local go_sem ↓] keepK Opd.ev MK.ev MK.ob gsA
attribute [local go_sem high] gsB
attribute [local go_sem] binEv binOb intOp strOp unEv eqvEv eqCells eqCell noBld tasEv AV.there AV.plus pickCells storeEv AV.solid AV.cells splice putParts rowOK fldEv iarrEv extEv minEv nonNil lenEv isStr appEv appOb appArg slVecEv slVecOb slStrEv slStrOb bnd argF endQ rvsEv rvEv resOf St.none if_true if_false ite_self eq_self ne_eq implies_true forall_const Lab.av Val.av Exa.av Dset.av Req.av gsC
variable {gl : List (Nat × List AV)}
def makeR (r : Req) (l : List Exa) : Dset × Int :=
  if form24 r then (if formB ⟨r.ent,r.fs,l⟩ && (l.map Exa.lab == sampleR r) then (⟨r.ent,r.fs,l⟩,0) else (⟨[],[],[]⟩,1)) else (⟨[],[],[]⟩,240)
def makeAV (r : Req) (l : List Exa) : AV := .tup [(makeR r l).1.av,.int .i64 (makeR r l).2]
theorem form24_in {r : Req} (h : form24 r = true) : r.labs.length ≤ 256 ∧ r.labs.all labB = true := by
  simp only [form24,Bool.and_eq_true,decide_eq_true_eq] at h
  obtain ⟨_,_,_,h1,_,_,_,_,h2⟩ := h
  exact ⟨h1,h2⟩
set_option maxHeartbeats 1000000 in
theorem c14 (hg : GlNR gl) {m0 : Int} (hm0 : gl.lookup 1 = some [.int .i64 m0]) (r : Req) (l : List Exa) (t : STok) (hs : SmallR r) (hd : SmallD ⟨r.ent,r.fs,l⟩) : Pure Tryz.prog gl 14 [r.av,.sl 4 (l.map Exa.av) t] (.ok (makeAV r l)) := by
  refine Pure.ofFg ?_ (by simp only [fgs,nrs,forall_eq_or_imp,forall_eq,implies_true]) (by simp only [makeAV,nrs,forall_eq_or_imp,forall_eq,implies_true])
  simp only [fgs]
  refine .of_run is14 (by simp) (mw_sound 200 ?_)
  have h36 := c36 hg hm0 r hs
  have hn := fmtR_nil r
  rcases Bool.eq_false_or_eq_true (form24 r) with hf | hf
  · obtain ⟨f1,f2⟩ := form24_in hf
    have h26 := c26 hg r (by omega) f2
    have h37 := c37 hg hm0 ⟨r.ent,r.fs,l⟩ hd
    have h38 := c38 hg l (sampleR r) .unk .unk (by have := hd.xs; simp at this; omega)
    have fin : ∀ (D : Dset) (c : Int) (A B : Bool),formB ⟨r.ent,r.fs,l⟩ = A → (l.map Exa.lab == sampleR r) = B → (if A && B then ((⟨r.ent,r.fs,l⟩ : Dset),(0 : Int)) else (⟨[],[],[]⟩,1)) = (D,c) → makeAV r l = .tup [D.av,.int .i64 c] := fun D c A B hA hB h => by
      rw [makeAV,makeR,hf,hA,hB,if_pos rfl,h]
    rcases Bool.eq_false_or_eq_true (formB ⟨r.ent,r.fs,l⟩) with hA | hA
    · rw [hA] at h37
      rcases Bool.eq_false_or_eq_true (l.map Exa.lab == sampleR r) with hB | hB
      · rw [hB] at h38
        rw [fin _ _ _ _ hA hB rfl]
        repeat' first
          | with_reducible first | refine mw_as m14.eq_1 ?_ | refine opn m14k0.eq_1 ?_ | refine opn m14k1.eq_1 ?_ | refine .pu (h36) hg rfl ?_ | refine .pu (h26) hg rfl ?_ | refine .pu (Pure.conv (h37) (by simp only [fgs])) hg rfl ?_ | refine .pu (Pure.conv (h38) (by simp only [fgs])) hg rfl ?_ | refine ⟨?_,?_⟩ | intro _
          | simp only [go_sem,↓reduceIte,Nat.reduceAdd,Nat.reduceLeDiff,Nat.reduceEqDiff,Nat.reduceBEq,Nat.reduceBNe,Nat.reduceMul,Nat.reduceLT,reduceCtorEq,Int.reduceLT,Int.reduceLE,Int.reduceToNat,Int.reduceNeg,  hn,hf]
        exact .mk' (by simp only [fgs])
      · rw [hB] at h38
        rw [fin _ _ _ _ hA hB rfl]
        repeat' first
          | with_reducible first | refine mw_as m14.eq_1 ?_ | refine opn m14k0.eq_1 ?_ | refine opn m14k1.eq_1 ?_ | refine .pu (h36) hg rfl ?_ | refine .pu (h26) hg rfl ?_ | refine .pu (Pure.conv (h37) (by simp only [fgs])) hg rfl ?_ | refine .pu (Pure.conv (h38) (by simp only [fgs])) hg rfl ?_ | refine ⟨?_,?_⟩ | intro _
          | simp only [go_sem,↓reduceIte,Nat.reduceAdd,Nat.reduceLeDiff,Nat.reduceEqDiff,Nat.reduceBEq,Nat.reduceBNe,Nat.reduceMul,Nat.reduceLT,reduceCtorEq,Int.reduceLT,Int.reduceLE,Int.reduceToNat,Int.reduceNeg,  hn,hf]
        exact .mk' (by simp only [fgs,AV.fg,AV.fgs,Dset.av,List.map_nil])
    · rw [hA] at h37
      rw [fin _ _ _ _ hA rfl rfl]
      repeat' first
        | with_reducible first | refine mw_as m14.eq_1 ?_ | refine opn m14k0.eq_1 ?_ | refine opn m14k1.eq_1 ?_ | refine .pu (h36) hg rfl ?_ | refine .pu (h26) hg rfl ?_ | refine .pu (Pure.conv (h37) (by simp only [fgs])) hg rfl ?_ | refine .pu (Pure.conv (h38) (by simp only [fgs])) hg rfl ?_ | refine ⟨?_,?_⟩ | intro _
        | simp only [go_sem,↓reduceIte,Nat.reduceAdd,Nat.reduceLeDiff,Nat.reduceEqDiff,Nat.reduceBEq,Nat.reduceBNe,Nat.reduceMul,Nat.reduceLT,reduceCtorEq,Int.reduceLT,Int.reduceLE,Int.reduceToNat,Int.reduceNeg,  hn,hf]
      exact .mk' (by simp only [fgs,AV.fg,AV.fgs,Dset.av,List.map_nil])
  · have e : makeR r l = (⟨[],[],[]⟩,240) := by simp only [makeR,hf]; rfl
    rw [makeAV,e]
    repeat' first
      | with_reducible first | refine mw_as m14.eq_1 ?_ | refine opn m14k0.eq_1 ?_ | refine opn m14k1.eq_1 ?_ | refine .pu (h36) hg rfl ?_ | refine ⟨?_,?_⟩ | intro _
      | simp only [go_sem,↓reduceIte,Nat.reduceAdd,Nat.reduceLeDiff,Nat.reduceEqDiff,Nat.reduceBEq,Nat.reduceBNe,Nat.reduceMul,Nat.reduceLT,reduceCtorEq,Int.reduceLT,Int.reduceLE,Int.reduceToNat,Int.reduceNeg,  hn,hf]
    all_goals exact .mk' (by simp only [fgs,AV.fg,AV.fgs,Dset.av,List.map_nil])
set_option maxHeartbeats 1000000 in
theorem c15 (hg : GlNR gl) (r : Req) (l : List Exa) (t : STok) (hs : SmallR r) (hd : SmallD ⟨r.ent,r.fs,l⟩) : Pure Tryz.prog gl 15 [r.av,.sl 4 (l.map Exa.av) t] (.ok (makeAV r l)) := by
  refine Pure.ofFg ?_ (by simp only [fgs,nrs,forall_eq_or_imp,forall_eq,implies_true]) (by simp only [makeAV,nrs,forall_eq_or_imp,forall_eq,implies_true])
  simp only [fgs]
  refine .of_run is15 (by simp) (mw_sound 200 ?_)
  have h40 := c40 hg r hs.ent hs.f hs.k hs.fs hs.labs
  have hll : l.length < 4294960000 := by have := hd.xs; simpa using this
  rcases Bool.eq_false_or_eq_true (form24 r) with hf | hf
  · obtain ⟨f1,f2⟩ := form24_in hf
    have fin : ∀ (D : Dset) (c : Int) (A B : Bool),formB ⟨r.ent,r.fs,l⟩ = A → (l.map Exa.lab == sampleR r) = B → (if A && B then ((⟨r.ent,r.fs,l⟩ : Dset),(0 : Int)) else (⟨[],[],[]⟩,1)) = (D,c) → makeAV r l = .tup [D.av,.int .i64 c] := fun D c A B hA hB h => by
      rw [makeAV,makeR,hf,hA,hB,if_pos rfl,h]
    have h41 := c41 hg r (by omega) f2
    repeat' first
      | with_reducible first | refine mw_as m15.eq_1 ?_ | refine opn m15k0.eq_1 ?_ | refine opn m15k1.eq_1 ?_ | refine opn m15k2.eq_1 ?_ | refine .pu (h40) hg rfl ?_ | refine .pu (h41) hg rfl ?_ | refine ⟨?_,?_⟩ | intro _
      | simp only [go_sem,↓reduceIte,Nat.reduceAdd,Nat.reduceLeDiff,Nat.reduceEqDiff,Nat.reduceBEq,Nat.reduceBNe,Nat.reduceMul,Nat.reduceLT,reduceCtorEq,Int.reduceLT,Int.reduceLE,Int.reduceToNat,Int.reduceNeg,  hf]
    refine .forUp l.length (fun i F S => ∃ tk,F = [(1,AV.sl 4 (List.map Exa.av l) STok.unk),(2,AV.ptr 0 0),(4,AV.ptr 1 0),(6,AV.sl 3 (List.map Lab.av (sampleR r)) STok.unk),(7,AV.sl 3 (((l.map Exa.lab).take i).map Lab.av) tk),(8,AV.int IntKind.i64 i)] ∧
      ∃ t live,(tk = .exact ∨ ∃ n,tk = .tok n ∧ n ∈ live) ∧ S = ⟨2,[(1,[AV.str [],AV.sl 1 [] STok.exact,AV.sl 4 [] STok.exact]),(0,[AV.str r.ent,AV.sl 1 (List.map AV.str r.fs) STok.unk,AV.sl 3 (List.map Lab.av r.labs) STok.unk,AV.int IntKind.i64 r.seed,AV.int IntKind.i64 r.pm])],t,live,gl⟩) ⟨_,rfl,_,[],.inl rfl,rfl⟩ ?_
    rintro i F S hi ⟨tk,rfl,nt,live,hab,rfl⟩ ih
    by_cases h : i < l.length
    · obtain ⟨x,hx⟩ := some_of_lt h
      have hxl : (l.map Exa.lab)[i]? = some x.lab := by rw [List.getElem?_map,hx]; rfl
      have hab2 : ∀ n ob nt,Able ⟨n,ob,nt,live,gl⟩ tk := fun n ob nt => by
        rcases hab with rfl | ⟨a,rfl,ha⟩
        · exact .inl rfl
        · exact .inr ⟨a,rfl,ha⟩
      refine opn m15l0.eq_1 ?_
      repeat' first
        | with_reducible first | refine mw_as m15.eq_1 ?_ | refine opn m15k0.eq_1 ?_ | refine opn m15k1.eq_1 ?_ | refine opn m15k2.eq_1 ?_ | refine ⟨?_,?_⟩ | intro _
        | simp only [go_sem,↓reduceIte,Nat.reduceAdd,Nat.reduceLeDiff,Nat.reduceEqDiff,Nat.reduceBEq,Nat.reduceBNe,Nat.reduceMul,Nat.reduceLT,reduceCtorEq,Int.reduceLT,Int.reduceLE,Int.reduceToNat,Int.reduceNeg,  hx,ltB h,ltP h,use_eq,wrap_succ (show i < 9223372036854775807 by omega)]
      · exact hab2 _ _ _
      · simp only [List.length_take,List.length_map]; omega
      · simp only [List.length_take,List.length_map]; omega
      have e1 : List.map Lab.av ((l.map Exa.lab).take i) ++ [AV.agg [AV.str x.lab.k,AV.int IntKind.i64 x.lab.e,AV.int IntKind.i64 x.lab.n]] = List.map Lab.av ((l.map Exa.lab).take (i + 1)) := by rw [take_some hxl]; simp
      rw [e1]
      exact ih h _ _ ⟨_,rfl,_,_,.inr ⟨_,rfl,List.mem_cons_self⟩,rfl⟩
    · refine opn m15l0.eq_1 ?_
      rw [List.take_of_length_le (by simp; omega)]
      have h42 := c42 hg (sampleR r) (l.map Exa.lab) .unk .unk (by have := List.length_filter_le (keptR r.seed r.pm) (sortR r.labs); have := sortR_len r.labs; rw [sampleR]; omega)
      have h22 := c22 hg ⟨r.ent,r.fs,l⟩ hd
      have hsw : (sampleR r == l.map Exa.lab) = (l.map Exa.lab == sampleR r) := by rw [Bool.eq_iff_iff,beq_iff_eq,beq_iff_eq]; exact eq_comm
      rw [hsw] at h42
      rcases Bool.eq_false_or_eq_true (l.map Exa.lab == sampleR r) with hB | hB
      · rw [hB] at h42
        rcases Bool.eq_false_or_eq_true (formB ⟨r.ent,r.fs,l⟩) with hA | hA
        · rw [hA] at h22
          rw [fin _ _ _ _ hA hB rfl]
          repeat' first
            | with_reducible first | refine mw_as m15.eq_1 ?_ | refine opn m15k0.eq_1 ?_ | refine opn m15k1.eq_1 ?_ | refine opn m15k2.eq_1 ?_ | refine .pu (Pure.conv (h42) (by simp only [fgs])) hg rfl ?_ | refine .pu (Pure.conv (h22) (by simp only [fgs])) hg rfl ?_ | refine ⟨?_,?_⟩ | intro _
            | simp only [go_sem,↓reduceIte,Nat.reduceAdd,Nat.reduceLeDiff,Nat.reduceEqDiff,Nat.reduceBEq,Nat.reduceBNe,Nat.reduceMul,Nat.reduceLT,reduceCtorEq,Int.reduceLT,Int.reduceLE,Int.reduceToNat,Int.reduceNeg,  geB (Nat.le_of_not_lt h)]
          exact .mk' (by simp only [fgs])
        · rw [hA] at h22
          rw [fin _ _ _ _ hA hB rfl]
          repeat' first
            | with_reducible first | refine mw_as m15.eq_1 ?_ | refine opn m15k0.eq_1 ?_ | refine opn m15k1.eq_1 ?_ | refine opn m15k2.eq_1 ?_ | refine .pu (Pure.conv (h42) (by simp only [fgs])) hg rfl ?_ | refine .pu (Pure.conv (h22) (by simp only [fgs])) hg rfl ?_ | refine ⟨?_,?_⟩ | intro _
            | simp only [go_sem,↓reduceIte,Nat.reduceAdd,Nat.reduceLeDiff,Nat.reduceEqDiff,Nat.reduceBEq,Nat.reduceBNe,Nat.reduceMul,Nat.reduceLT,reduceCtorEq,Int.reduceLT,Int.reduceLE,Int.reduceToNat,Int.reduceNeg,  geB (Nat.le_of_not_lt h)]
          exact .mk' (by simp only [fgs,AV.fg,AV.fgs,Dset.av,List.map_nil])
      · rw [hB] at h42
        rw [fin _ _ _ _ rfl hB (by rw [Bool.and_false])]
        repeat' first
          | with_reducible first | refine mw_as m15.eq_1 ?_ | refine opn m15k0.eq_1 ?_ | refine opn m15k1.eq_1 ?_ | refine opn m15k2.eq_1 ?_ | refine .pu (Pure.conv (h42) (by simp only [fgs])) hg rfl ?_ | refine .pu (Pure.conv (h22) (by simp only [fgs])) hg rfl ?_ | refine ⟨?_,?_⟩ | intro _
          | simp only [go_sem,↓reduceIte,Nat.reduceAdd,Nat.reduceLeDiff,Nat.reduceEqDiff,Nat.reduceBEq,Nat.reduceBNe,Nat.reduceMul,Nat.reduceLT,reduceCtorEq,Int.reduceLT,Int.reduceLE,Int.reduceToNat,Int.reduceNeg,  geB (Nat.le_of_not_lt h)]
        exact .mk' (by simp only [fgs,AV.fg,AV.fgs,Dset.av,List.map_nil])
  · have e : makeR r l = (⟨[],[],[]⟩,240) := by simp only [makeR,hf]; rfl
    rw [makeAV,e]
    repeat' first
      | with_reducible first | refine mw_as m15.eq_1 ?_ | refine opn m15k0.eq_1 ?_ | refine opn m15k1.eq_1 ?_ | refine opn m15k2.eq_1 ?_ | refine .pu (h40) hg rfl ?_ | refine ⟨?_,?_⟩ | intro _
      | simp only [go_sem,↓reduceIte,Nat.reduceAdd,Nat.reduceLeDiff,Nat.reduceEqDiff,Nat.reduceBEq,Nat.reduceBNe,Nat.reduceMul,Nat.reduceLT,reduceCtorEq,Int.reduceLT,Int.reduceLE,Int.reduceToNat,Int.reduceNeg,  hf]
    all_goals exact .mk' (by simp only [fgs,AV.fg,AV.fgs,Dset.av,List.map_nil])
end Go.Proofs.YtdjdhecanjmchaaGreatDoor
