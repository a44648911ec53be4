/- Contracts: the program's Print. -/
import Derived.Test.YtdjdhecanjmchaaGreatDoorP7
import Derived.Test.YtdjdhecanjmchaaGreatDoorP6
import Derived.Test.YtdjdhecanjmchaaGreatDoorP4
set_option linter.unusedSimpArgs false
set_option linter.unusedVariables false
namespace Go.Proofs.YtdjdhecanjmchaaGreatDoor
open Go Go.V
attribute [local go_sem ↓] keepK Opd.ev MK.ev MK.ob gsA
attribute [local go_sem high] gsB
attribute [local go_sem] binEv binOb intOp strOp unEv eqvEv eqCells eqCell noBld tasEv AV.there AV.plus pickCells storeEv AV.solid AV.cells splice putParts rowOK fldEv iarrEv extEv minEv nonNil lenEv isStr appEv appOb appArg slVecEv slVecOb slStrEv slStrOb bnd argF endQ rvsEv rvEv resOf St.none if_true if_false ite_self eq_self ne_eq implies_true forall_const Lab.av Val.av Exa.av Dset.av Req.av gsC
section
open Go Go.V Go.Lib
set_option maxRecDepth 40000
variable {gl : List (Nat × List AV)}
theorem CallK.eff {P : Program} {f : FuncId} {xs : List AV} {d : Option Nat} {l : List MOp} {K : Option AV → Fr → St → Prop} {F : Fr} {S S1 : St} {r : AV} (h : MCalls P f xs S fun o S' => o = .ok r ∧ S' = S1) (k : moK P l K (putF d r F) S1) : CallK P f xs d l K F S :=
  CallK.of h (fun r' S' ⟨e1,e2⟩ => by subst e2; injection e1 with e1; subst e1; exact k) (fun v S' ⟨e1,_⟩ => by cases e1)
theorem c48 {S : St} (hg : GlNR S.gl) {l : Nat} {b0 : Bytes} (hl : S.get l = some [.bld b0]) (xs : List Bytes) (t : STok) (hN : xs.length ≤ 140737488355328) (hlen : b0.length + (Lib.join xs [9]).length + 1 ≤ 140737488355328) :
    MCalls Tryz.prog 48 [.sl 1 (xs.map .str) t,.ptr l 0] S fun o S' => o = .ok (.tup []) ∧ S' = S.set l [.bld (b0 ++ (Lib.join xs [9] ++ [10]))] := by
  refine .of_run is48 (by simp) (mw_sound 200 ?_)
  have h50 := c50 (gl := S.gl) xs [9] hN (by omega)
  have h49 : MCalls Tryz.prog 49 [.ptr l 0,.str (Lib.join xs [9] ++ [10])] S fun o S' => o = .ok (.tup [.int .i64 ((Lib.join xs [9] ++ [10]).length : Nat),.nili]) ∧ S' = S.set l [.bld (b0 ++ (Lib.join xs [9] ++ [10]))] := c49 hl (by simp; omega)
  repeat' first
    | with_reducible first | refine mw_as m48.eq_1 ?_ | refine .pu (Pure.conv (h50) (by simp only [fgs])) hg rfl ?_ | refine CallK.eff (h49) ?_ | refine ⟨?_,?_⟩ | intro _
    | simp only [go_sem,↓reduceIte,Nat.reduceAdd,Nat.reduceLeDiff,Nat.reduceEqDiff,Nat.reduceBEq,Nat.reduceBNe,Nat.reduceMul,Nat.reduceLT,reduceCtorEq,Int.reduceLT,Int.reduceLE,Int.reduceToNat,Int.reduceNeg]
  all_goals omega
theorem c48k (hg : GlNR gl) {m t : Nat} {live : List Nat} {ob : List (Nat × List AV)} {b0 : Bytes} {xs : List Bytes} {ys : List AV} {tk : STok} (hy : ys = xs.map AV.str) (hN : xs.length ≤ 140737488355328) (hlen : b0.length + (Lib.join xs [9]).length + 1 ≤ 140737488355328) :
    MCalls Tryz.prog 48 [.sl 1 ys tk,.ptr 1 0] ⟨m,(1,[.bld b0]) :: ob,t,live,gl⟩ fun o S' => o = .ok (.tup []) ∧ S' = ⟨m,(1,[.bld (b0 ++ (Lib.join xs [9] ++ [10]))]) :: (1,[.bld b0]) :: ob,t,live,gl⟩ := by
  subst hy
  exact c48 (S := ⟨m,(1,[.bld b0]) :: ob,t,live,gl⟩) hg (by simp [St.get]) xs tk hN hlen
theorem c53k {m t : Nat} {live : List Nat} {ob : List (Nat × List AV)} {b0 : Bytes} : MCalls Tryz.prog 53 [.ptr 1 0] ⟨m,(1,[.bld b0]) :: ob,t,live,gl⟩ fun o S' => o = .ok (.str b0) ∧ S' = ⟨m,(1,[.bld b0]) :: ob,t,live,gl⟩ :=
  c53 (by simp [St.get])
theorem featsT_join (fs : List Bytes) : featsT fs = joinTail [9] fs := by
  induction fs with
  | nil => rfl
  | cons f fs ih => simp [featsT,joinTail,ih]
theorem valsT_join (vs : List Val) : valsT vs = joinTail [9] (vs.map fmtV) := by
  induction vs with
  | nil => rfl
  | cons f fs ih => simp [valsT,joinTail,ih]
theorem head_join (d : Dset) : Lib.join (d.ent :: [101,118,101,110,116] :: [107,110,111,119] :: d.fs) [9] ++ [10] = d.ent ++ (evT ++ (featsT d.fs ++ [10])) := by
  rw [join_cons,featsT_join]
  simp [joinTail]
theorem line_join (x : Exa) : Lib.join (x.lab.k :: itoa x.lab.e :: itoa x.lab.n :: x.vs.map fmtV) [9] ++ [10] = lineT x := by
  rw [join_cons,lineT,valsT_join]
  simp [joinTail]
theorem keep_e {m : Nat} (hm : 2 ≤ m) {a am bm : List AV} : ∀ l cs,List.lookup l [(1,a)] = some cs → List.lookup l [(m,am),(m,bm),(1,a)] = some cs := by
  intro l cs h
  simp only [lookG] at h ⊢
  grind
theorem keep_f {a b : List AV} : ∀ l cs,List.lookup l [(1,a)] = some cs → List.lookup l [(1,a),(1,b)] = some cs := by
  intro l cs h
  simp only [lookG] at h ⊢
  grind
theorem keep_g {a b c : List AV} : ∀ l cs,List.lookup l [(1,a)] = some cs → List.lookup l [(1,a),(1,b),(0,c)] = some cs := by
  intro l cs h
  simp only [lookG] at h ⊢
  grind
set_option maxHeartbeats 4000000 in
theorem c19 (hg : GlNR gl) {m0 : Int} (hm0 : gl.lookup 1 = some [.int .i64 m0]) (d : Dset) (hs : SmallD d) : Pure Tryz.prog gl 19 [d.av] (.ok (printAV d)) := by
  refine ⟨?_,by simp only [fgs,nrs,forall_eq_or_imp,forall_eq,implies_true],by simp only [printAV]; split <;> simp only [nrs,forall_eq_or_imp,forall_eq,implies_true]⟩
  simp only [fgs]
  refine .of_run is19 (by simp) (mw_sound 200 ?_)
  rcases Bool.eq_false_or_eq_true (formB d) with hf | hf
  · have hF := formF hf
    have hL := printT_len hs hF
    have hpr : printAV d = .tup [.str (printT d),.int .i64 0] := by simp only [printAV,hf,if_true]
    rw [hpr]
    generalize hO : (AV.tup [.str (printT d),.int .i64 0]) = OUT
    have hel := hs.ent
    have hfl := hs.fs
    have hxl := hs.xs
    have hB : ∀ s r,printT d = s ++ r → s.length ≤ 20000000000000 := fun s r he => by have := congrArg List.length he; rw [List.length_append] at this; omega
    have key2 : ∀ (s : Bytes) (ob : List (Nat × List AV)) (t : Nat) (live : List Nat),printT d = s ++ linesT d.xs → (∀ l cs,List.lookup l [(1,[AV.bld s])] = some cs → List.lookup l ob = some cs) →
        MRun Tryz.prog 60 [MI.code m19l1.loop,MI.inBlock 0,MI.code (MC.named [4] m19k2)] [] [(4,AV.ptr 1 0),(5,AV.fn (Fn.func 48) [] [AV.ptr 1 0]),(24,AV.sl 4 (List.map Exa.av d.xs) STok.unk),(25,AV.int .i64 d.xs.length),(26,AV.int .i64 0)] ⟨2,ob,t,live,gl⟩ (endQ [RV.t 2,RV.t 3] fun o' x => o' = Out.ok OUT) := by
      intro s ob t live hs0 hob
      refine MRun.keep (live' := []) ?_ hob (by simp)
      refine .forUp d.xs.length (fun i F S => ∃ (s : Bytes) (m t : Nat),2 ≤ m ∧ F = [(4,AV.ptr 1 0),(5,AV.fn (Fn.func 48) [] [AV.ptr 1 0]),(24,AV.sl 4 (List.map Exa.av d.xs) STok.unk),(25,AV.int .i64 d.xs.length),(26,AV.int .i64 i)] ∧ S = ⟨m,[(1,[AV.bld s])],t,[],gl⟩ ∧ printT d = s ++ linesT (d.xs.drop i)) ⟨s,2,t,Nat.le_refl _,rfl,rfl,hs0⟩ ?_
      rintro i F S hi ⟨s,m,t,hm,rfl,rfl,he⟩ ih
      by_cases h : i < d.xs.length
      · obtain ⟨x,hx⟩ := some_of_lt h
        have hmem := List.mem_of_getElem? hx
        have htk := hF.lab x hmem
        have hv8 := hF.vs x hmem
        have hvl := hs.v x hmem
        have hkl := hs.k x hmem
        have hte : 0 ≤ x.lab.e ∧ x.lab.e ≤ 1099511627776 := by have := htk.1; simpa [tickB] using this
        have htn : 0 ≤ x.lab.n ∧ x.lab.n ≤ 1099511627776 := by have := htk.2; simpa [tickB] using this
        rw [drop_some hx,linesT] at he
        have hsl := hB _ _ he
        have hll : (Lib.join (x.lab.k :: itoa x.lab.e :: itoa x.lab.n :: x.vs.map fmtV) [9]).length + 1 = (lineT x).length := by rw [← line_join]; simp
        have hlt := lineT_len hkl htk hv8 hvl
        have key3 : ∀ (tk : STok) (t : Nat) (live : List Nat) (m : Nat),2 ≤ m → AbT live tk → MRun Tryz.prog 60 [MI.code m19l0.loop,MI.inBlock 2,MI.code (MC.named [4,5,8,24,25,26] m19k0),MI.inBlock 1,MI.code (MC.named [4,5,24,25,26] m19k1),MI.inLoop m19l1,MI.inBlock 0,MI.code (MC.named [4] m19k2)] []
            [(4,AV.ptr 1 0),(5,AV.fn (Fn.func 48) [] [AV.ptr 1 0]),(8,AV.sl 1 [AV.str x.lab.k,AV.str (itoa x.lab.e),AV.str (itoa x.lab.n)] tk),(24,AV.sl 4 (List.map Exa.av d.xs) STok.unk),(25,AV.int .i64 d.xs.length),(26,AV.int .i64 i),(43,AV.sl 3 (List.map Val.av x.vs) STok.unk),(44,AV.int .i64 x.vs.length),(45,AV.int .i64 0)] ⟨m,[(1,[AV.bld s])],t,live,gl⟩ (endQ [RV.t 2,RV.t 3] fun o' x => o' = Out.ok OUT) := by
          intro tk t live m hm hab
          refine .forUp x.vs.length (fun k F S => ∃ (tk : STok) (t : Nat) (live : List Nat) (m : Nat),2 ≤ m ∧ AbT live tk ∧ F = [(4,AV.ptr 1 0),(5,AV.fn (Fn.func 48) [] [AV.ptr 1 0]),(8,AV.sl 1 (List.map AV.str (x.lab.k :: itoa x.lab.e :: itoa x.lab.n :: (x.vs.take k).map fmtV)) tk),(24,AV.sl 4 (List.map Exa.av d.xs) STok.unk),(25,AV.int .i64 d.xs.length),(26,AV.int .i64 i),(43,AV.sl 3 (List.map Val.av x.vs) STok.unk),(44,AV.int .i64 x.vs.length),(45,AV.int .i64 k)] ∧ S = ⟨m,[(1,[AV.bld s])],t,live,gl⟩) ⟨tk,t,live,m,hm,hab,rfl,rfl⟩ ?_
          rintro k F S hk ⟨tk,t,live,m,hm,hab,rfl,rfl⟩ ihk
          have hab2 := fun n ob nt => hab.able (gl := gl) n ob nt
          by_cases h2 : k < x.vs.length
          · obtain ⟨v,hv⟩ := some_of_lt h2
            have hvs := hvl v (List.mem_of_getElem? hv)
            have hap : List.map AV.str (x.lab.k :: itoa x.lab.e :: itoa x.lab.n :: (x.vs.take k).map fmtV) ++ [AV.str (fmtV v)] = List.map AV.str (x.lab.k :: itoa x.lab.e :: itoa x.lab.n :: (x.vs.take (k + 1)).map fmtV) := by rw [take_some hv]; simp
            have hpl : (List.map AV.str (x.lab.k :: itoa x.lab.e :: itoa x.lab.n :: (x.vs.take k).map fmtV)).length ≤ 20 := by simp; omega
            generalize hP : List.map AV.str (x.lab.k :: itoa x.lab.e :: itoa x.lab.n :: (x.vs.take k).map fmtV) = PP at hap hpl
            generalize hP2 : List.map AV.str (x.lab.k :: itoa x.lab.e :: itoa x.lab.n :: (x.vs.take (k + 1)).map fmtV) = PP2 at hap
            refine opn m19l0.eq_1 ?_
            repeat' first
              | with_reducible first | refine mw_as m19.eq_1 ?_ | refine opn m19k0.eq_1 ?_ | refine opn m19k1.eq_1 ?_ | refine opn m19k2.eq_1 ?_ | refine .pu (c52 hg v hvs) hg rfl ?_ | refine ⟨?_,?_⟩ | intro _
              | simp only [go_sem,↓reduceIte,Nat.reduceAdd,Nat.reduceLeDiff,Nat.reduceEqDiff,Nat.reduceBEq,Nat.reduceBNe,Nat.reduceMul,Nat.reduceLT,reduceCtorEq,Int.reduceLT,Int.reduceLE,Int.reduceToNat,Int.reduceNeg,  hv,ltB h2,ltP h2,hap,use_eq,(show (0 = m) = False from eq_false (by omega)),(show (m = 0) = False from eq_false (by omega)),(show (1 = m) = False from eq_false (by omega)),(show (m = 1) = False from eq_false (by omega)),wrap_succ (show k < 9223372036854775807 by omega)]
            all_goals first
              | exact hab2 _ _ _
              | omega
              | exact MRun.keep (live' := t :: useL live tk) (ihk h2 _ _ ⟨.tok t,t + 1,t :: useL live tk,m + 1,by omega,.inr ⟨t,rfl,List.mem_cons_self⟩,by rw [← hP2],rfl⟩) (keep_e hm) (fun _ h => h)
          · refine opn m19l0.eq_1 ?_
            have hkt : x.vs.take k = x.vs := List.take_of_length_le (by omega)
            rw [hkt]
            generalize hP : List.map AV.str (x.lab.k :: itoa x.lab.e :: itoa x.lab.n :: x.vs.map fmtV) = PP
            have h48 := fun m t live ob => c48k (m := m) (t := t) (live := live) (ob := ob) (b0 := s) (xs := x.lab.k :: itoa x.lab.e :: itoa x.lab.n :: x.vs.map fmtV) (ys := PP) (tk := tk) hg hP.symm (by simp; omega) (by omega)
            repeat' first
              | with_reducible first | refine mw_as m19.eq_1 ?_ | refine opn m19k0.eq_1 ?_ | refine opn m19k1.eq_1 ?_ | refine opn m19k2.eq_1 ?_ | refine CallK.eff (h48 _ _ _ _) ?_ | refine ⟨?_,?_⟩ | intro _
              | simp only [go_sem,↓reduceIte,Nat.reduceAdd,Nat.reduceLeDiff,Nat.reduceEqDiff,Nat.reduceBEq,Nat.reduceBNe,Nat.reduceMul,Nat.reduceLT,reduceCtorEq,Int.reduceLT,Int.reduceLE,Int.reduceToNat,Int.reduceNeg,  geB (Nat.le_of_not_lt h2),wrap_succ (show i < 9223372036854775807 by omega)]
            rw [line_join]
            exact MRun.keep (live' := []) (ih h _ _ ⟨s ++ lineT x,m,t,by omega,rfl,rfl,by rw [he,List.append_assoc]⟩) keep_f (by simp)
        refine opn m19l1.eq_1 ?_
        repeat' first
          | with_reducible first | refine mw_as m19.eq_1 ?_ | refine opn m19k0.eq_1 ?_ | refine opn m19k1.eq_1 ?_ | refine opn m19k2.eq_1 ?_ | refine .pu (c51 x.lab.e (by omega) (by omega)) hg rfl ?_ | refine .pu (c51 x.lab.n (by omega) (by omega)) hg rfl ?_ | refine ⟨?_,?_⟩ | intro _
          | simp only [go_sem,↓reduceIte,Nat.reduceAdd,Nat.reduceLeDiff,Nat.reduceEqDiff,Nat.reduceBEq,Nat.reduceBNe,Nat.reduceMul,Nat.reduceLT,reduceCtorEq,Int.reduceLT,Int.reduceLE,Int.reduceToNat,Int.reduceNeg,  hx,ltB h,ltP h,use_eq,(show (0 = m) = False from eq_false (by omega)),(show (m = 0) = False from eq_false (by omega)),(show (1 = m) = False from eq_false (by omega)),(show (m = 1) = False from eq_false (by omega))]
        exact MRun.keep (live' := []) (key3 .exact t [] (m + 1) (by omega) (.inl rfl)) (keep_e hm) (fun _ h => h)
      · refine opn m19l1.eq_1 ?_
        rw [List.drop_eq_nil_of_le (Nat.le_of_not_lt h),linesT,List.append_nil] at he
        repeat' first
          | with_reducible first | refine mw_as m19.eq_1 ?_ | refine opn m19k0.eq_1 ?_ | refine opn m19k1.eq_1 ?_ | refine opn m19k2.eq_1 ?_ | refine CallK.eff (c53k) ?_ | refine ⟨?_,?_⟩ | intro _
          | simp only [go_sem,↓reduceIte,Nat.reduceAdd,Nat.reduceLeDiff,Nat.reduceEqDiff,Nat.reduceBEq,Nat.reduceBNe,Nat.reduceMul,Nat.reduceLT,reduceCtorEq,Int.reduceLT,Int.reduceLE,Int.reduceToNat,Int.reduceNeg,  geB (Nat.le_of_not_lt h)]
        rw [← hO,he]
    have hhd : printT d = (Lib.join (d.ent :: [101,118,101,110,116] :: [107,110,111,119] :: d.fs) [9] ++ [10]) ++ linesT d.xs := by rw [head_join]; simp [printT]
    have hhl := hB _ _ hhd
    rw [List.length_append,List.length_singleton] at hhl
    have h48 := fun m t live ob => c48k (m := m) (t := t) (live := live) (ob := ob) (b0 := []) (xs := d.ent :: [101,118,101,110,116] :: [107,110,111,119] :: d.fs) (ys := AV.str d.ent :: AV.str [101,118,101,110,116] :: AV.str [107,110,111,119] :: d.fs.map AV.str) (tk := .tok 0) hg rfl (by simp; omega) (by simp only [List.length_nil]; omega)
    repeat' first
      | with_reducible first | refine mw_as m19.eq_1 ?_ | refine opn m19k0.eq_1 ?_ | refine opn m19k1.eq_1 ?_ | refine opn m19k2.eq_1 ?_ | refine .pu (c37 hg hm0 d hs) hg rfl ?_ | refine CallK.eff (h48 _ _ _ _) ?_ | refine ⟨?_,?_⟩ | intro _
      | simp only [go_sem,↓reduceIte,Nat.reduceAdd,Nat.reduceLeDiff,Nat.reduceEqDiff,Nat.reduceBEq,Nat.reduceBNe,Nat.reduceMul,Nat.reduceLT,reduceCtorEq,Int.reduceLT,Int.reduceLE,Int.reduceToNat,Int.reduceNeg,  hf,use_eq]
    · omega
    · omega
    · exact key2 _ _ _ _ hhd keep_g
  · have hpr : printAV d = .tup [.str [],.int .i64 1] := by simp only [printAV,hf,Bool.false_eq_true,if_false]
    rw [hpr]
    repeat' first
      | with_reducible first | refine mw_as m19.eq_1 ?_ | refine opn m19k0.eq_1 ?_ | refine opn m19k1.eq_1 ?_ | refine opn m19k2.eq_1 ?_ | refine .pu (c37 hg hm0 d hs) hg rfl ?_ | refine ⟨?_,?_⟩ | intro _
      | simp only [go_sem,↓reduceIte,Nat.reduceAdd,Nat.reduceLeDiff,Nat.reduceEqDiff,Nat.reduceBEq,Nat.reduceBNe,Nat.reduceMul,Nat.reduceLT,reduceCtorEq,Int.reduceLT,Int.reduceLE,Int.reduceToNat,Int.reduceNeg,  hf]
end
section
open Go Go.V Go.Lib
set_option maxRecDepth 40000
variable {gl : List (Nat × List AV)}
theorem fewD_small {d : Dset} (h : fewD d = true) : SmallD d := by
  simp only [fewD,fewX,Bool.and_eq_true,decide_eq_true_eq,List.all_eq_true] at h
  obtain ⟨⟨⟨⟨h1,h2⟩,h3⟩,h4⟩,h5⟩ := h
  exact ⟨by omega,by omega,fun f hf => by have := h4 f hf; omega,by omega,fun x hx => by have := (h5 x hx).1.1; omega,fun x hx => by have := (h5 x hx).1.2; omega,fun x hx v hv => by have := (h5 x hx).2 v hv; omega⟩
theorem difI_len : ∀ (i : Nat) (a b : List Exa),(difI i a b).length ≤ a.length
  | _,[],_ => by simp [difI]
  | _,_ :: _,[] => by simp [difI]
  | i,x :: xs,y :: ys => by
    have := difI_len (i + 1) xs ys
    simp only [difI]
    split <;> simp <;> omega
theorem c4 (hg : GlNR gl) {m0 : Int} (hm0 : gl.lookup 1 = some [.int .i64 m0]) (h11 : Pure Tryz.prog gl 11 [] (.ok (.bool true))) (a b : Dset) : Pure Tryz.prog gl 4 [a.av,b.av] (.ok (.bool true)) := by
  refine ⟨?_,by simp only [fgs,nrs,forall_eq_or_imp,forall_eq,implies_true],by simp only [nrs,forall_eq_or_imp,forall_eq,implies_true]⟩
  simp only [fgs]
  refine .of_run is4 (by simp) (mw_sound 200 ?_)
  rcases Bool.eq_false_or_eq_true (fewD a) with ha | ha
  · rcases Bool.eq_false_or_eq_true (fewD b) with hb | hb
    · have hsa := fewD_small ha
      have hsb := fewD_small hb
      have hxl := hsa.xs
      have hdl : (difL a b).length < 4294967296 := by
        unfold difL
        split
        · have := difI_len 0 a.xs b.xs; omega
        · simp
      have hpr : printAV a = .tup [.str (if formB a then printT a else []),.int .i64 (if formB a then 0 else 1)] := by unfold printAV; split <;> rfl
      have h19 := c19 hg hm0 a hsa
      have h20 := c20 hg a hsa
      rw [hpr] at h19 h20
      generalize (if formB a then printT a else []) = pt at h19 h20
      generalize (if formB a then (0 : Int) else 1) = pe at h19 h20
      have h17 := c17 hg hm0 a b hsa hsb
      have h18 := c18 hg a b hsa hsb
      unfold difAV at h17 h18
      generalize difL a b = dl at *
      generalize difE a b = de at *
      repeat' first
        | with_reducible first | refine mw_as m4.eq_1 ?_ | refine opn m4k0.eq_1 ?_ | refine opn m4k1.eq_1 ?_ | refine .pu (h11) hg rfl ?_ | refine .pu (c13 hg a) hg rfl ?_ | refine .pu (c13 hg b) hg rfl ?_ | refine .pu (h17) hg rfl ?_ | refine .pu (h18) hg rfl ?_ | refine .pu (h19) hg rfl ?_ | refine .pu (h20) hg rfl ?_ | refine .pu (c21 hg dl dl .unk .unk hdl) hg rfl ?_ | refine ⟨?_,?_⟩ | intro _
        | simp only [go_sem,↓reduceIte,Nat.reduceAdd,Nat.reduceLeDiff,Nat.reduceEqDiff,Nat.reduceBEq,Nat.reduceBNe,Nat.reduceMul,Nat.reduceLT,reduceCtorEq,Int.reduceLT,Int.reduceLE,Int.reduceToNat,Int.reduceNeg,  ha,hb]
    · skip
      repeat' first
        | with_reducible first | refine mw_as m4.eq_1 ?_ | refine opn m4k0.eq_1 ?_ | refine opn m4k1.eq_1 ?_ | refine .pu (h11) hg rfl ?_ | refine .pu (c13 hg a) hg rfl ?_ | refine .pu (c13 hg b) hg rfl ?_ | refine ⟨?_,?_⟩ | intro _
        | simp only [go_sem,↓reduceIte,Nat.reduceAdd,Nat.reduceLeDiff,Nat.reduceEqDiff,Nat.reduceBEq,Nat.reduceBNe,Nat.reduceMul,Nat.reduceLT,reduceCtorEq,Int.reduceLT,Int.reduceLE,Int.reduceToNat,Int.reduceNeg,  ha,hb]
  · skip
    repeat' first
      | with_reducible first | refine mw_as m4.eq_1 ?_ | refine opn m4k0.eq_1 ?_ | refine opn m4k1.eq_1 ?_ | refine .pu (h11) hg rfl ?_ | refine .pu (c13 hg a) hg rfl ?_ | refine .pu (c13 hg b) hg rfl ?_ | refine ⟨?_,?_⟩ | intro _
      | simp only [go_sem,↓reduceIte,Nat.reduceAdd,Nat.reduceLeDiff,Nat.reduceEqDiff,Nat.reduceBEq,Nat.reduceBNe,Nat.reduceMul,Nat.reduceLT,reduceCtorEq,Int.reduceLT,Int.reduceLE,Int.reduceToNat,Int.reduceNeg,  ha]
end
section
open Go Go.V Go.Lib
set_option maxRecDepth 40000
variable {gl : List (Nat × List AV)}
def crcStep (r : Int) : Int := if iand .u32 r 1 == 1 then ixor .u32 (ishr .u32 r 1) 3988292384 else ishr .u32 r 1
def crcN : Nat → Int → Int
  | 0,r => r
  | n + 1,r => crcN n (crcStep r)
def crcT (i : Nat) : Int := crcN 8 (i : Int)
abbrev zeroT : List AV := List.replicate 256 (.int .u32 0)
def crcL (i : Nat) : List AV := (List.range i).map (fun j => AV.int .u32 (crcT j)) ++ List.replicate (256 - i) (.int .u32 0)
theorem crcL_len {i : Nat} (h : i ≤ 256) : (crcL i).length = 256 := by simp [crcL]; omega
theorem isBld_len {cs : List AV} (h : cs.length = 256) : isBld cs = false := by
  match cs,h with
  | [],h => cases h
  | [_],h => cases h
  | _ :: _ :: _,_ => simp [isBld]
theorem crcL_step {i : Nat} (h : i < 256) : splice (crcL i) i [.int .u32 (crcT i)] = crcL (i + 1) := by
  have h1 : ((List.range i).map (fun j => AV.int .u32 (crcT j))).length = i := by simp
  unfold splice crcL
  rw [List.take_append_of_le_length (by omega),List.take_of_length_le (by omega),List.drop_append,List.drop_eq_nil_of_le (by simp),List.range_succ,List.map_append]
  have h2 : 256 - i = (255 - i) + 1 := by omega
  have h3 : 256 - (i + 1) = 255 - i := by omega
  rw [h2,List.replicate_succ,h3]
  simp
theorem crcL_at {n : Nat} (h : n < 256) : (crcL 256)[n]? = some (.int .u32 (crcT n)) := by
  unfold crcL
  rw [List.getElem?_append_left (by simpa using h)]
  simp [h]
theorem c205 {m t : Nat} {live : List Nat} {ob : List (Nat × List AV)} {cs : List AV} (hcs : cs.length = 256) {i : Nat} (hi : i < 256) :
    MCalls Tryz.prog 205 [.int .i64 i,.ptr 1 0] ⟨m,(1,cs) :: ob,t,live,gl⟩ fun o S' => o = .ok (.tup []) ∧ S' = ⟨m,(1,splice cs i [.int .u32 (crcT i)]) :: (1,cs) :: ob,t,live,gl⟩ := by
  refine .of_run is205 (by simp) (mw_sound 200 ?_)
  have hb := isBld_len hcs
  have hw : IntKind.u32.wrap (i : Int) = (i : Int) := wrap_u32_in (by omega) (by omega)
  have hle : i + 1 ≤ cs.length := by omega
  repeat' first
    | with_reducible first | refine mw_as m205.eq_1 ?_ | refine opn m205k0.eq_1 ?_ | refine opn m205k1.eq_1 ?_ | refine ⟨?_,?_⟩ | intro _
    | simp only [go_sem,↓reduceIte,Nat.reduceAdd,Nat.reduceLeDiff,Nat.reduceEqDiff,Nat.reduceBEq,Nat.reduceBNe,Nat.reduceMul,Nat.reduceLT,reduceCtorEq,Int.reduceLT,Int.reduceLE,Int.reduceToNat,Int.reduceNeg,  hw]
  refine .forUp 8 (fun j F S => ∃ r : Int,F = [(0,AV.int .i64 i),(1,AV.ptr 1 0),(3,AV.int .u32 r),(6,AV.int .i64 j)] ∧ S = ⟨m,(1,cs) :: ob,t,live,gl⟩ ∧ crcT i = crcN (8 - j) r) ⟨_,rfl,rfl,rfl⟩ ?_
  rintro j F S hj ⟨r,rfl,rfl,he⟩ ih
  by_cases h : j < 8
  · have hd : decide ((j : Int) < 8) = true := decide_eq_true (by omega)
    rw [show 8 - j = (8 - (j + 1)) + 1 by omega,crcN,crcStep] at he
    refine opn m205l0.eq_1 ?_
    repeat' first
      | with_reducible first | refine mw_as m205.eq_1 ?_ | refine opn m205k0.eq_1 ?_ | refine opn m205k1.eq_1 ?_ | refine ⟨?_,?_⟩ | intro _
      | simp only [go_sem,↓reduceIte,Nat.reduceAdd,Nat.reduceLeDiff,Nat.reduceEqDiff,Nat.reduceBEq,Nat.reduceBNe,Nat.reduceMul,Nat.reduceLT,reduceCtorEq,Int.reduceLT,Int.reduceLE,Int.reduceToNat,Int.reduceNeg,  hd,wrap_succ (show j < 9223372036854775807 by omega)]
    all_goals
      rename_i h1
      rw [h1] at he
      exact ih h _ _ ⟨_,rfl,rfl,by simpa using he⟩
  · have hd : decide ((j : Int) < 8) = false := decide_eq_false (by omega)
    rw [show 8 - j = 0 by omega,crcN] at he
    have hle2 : decide (i + 1 ≤ cs.length) = true := decide_eq_true hle
    refine opn m205l0.eq_1 ?_
    repeat' first
      | with_reducible first | refine mw_as m205.eq_1 ?_ | refine opn m205k0.eq_1 ?_ | refine opn m205k1.eq_1 ?_ | refine ⟨?_,?_⟩ | intro _
      | simp only [go_sem,↓reduceIte,Nat.reduceAdd,Nat.reduceLeDiff,Nat.reduceEqDiff,Nat.reduceBEq,Nat.reduceBNe,Nat.reduceMul,Nat.reduceLT,reduceCtorEq,Int.reduceLT,Int.reduceLE,Int.reduceToNat,Int.reduceNeg,  hd,hb,hle2,Nat.mul_one]
    · omega
    · rw [he]
theorem m176_eq : m176 = .seq (.reg [oo 0 0 (.alloc zeroT)] [0])
  (.seq (.reg [oo 0 1 (.alloc zeroT)] [0,1])
  (.seq (.reg [oo 0 4 (.func (.func 205) [] [.t 1]),
      mv 1 2 4] [0,1,2])
  (.seq (.seq (.reg [mc 0 5 (.int .i64 0)] [0,1,2,5])
  (.block 0
    (.loop m176l0)))
  (.named [0,1] m176k0)))) := rfl
theorem c176 : Pure Tryz.prog gl 176 [] (.ok (.agg (crcL 256))) := by
  refine ⟨?_,by simp,?_⟩
  · simp only [List.map_nil]
    refine .of_run is176 (by simp) (mw_sound 200 ?_)
    have hz : zeroT.length = 256 := by simp
    have hzb := isBld_len hz
    refine mw_as m176_eq ?_
    have h0 : crcL 0 = zeroT := by unfold crcL; rfl
    generalize hZ : zeroT = Z at *
    simp only [go_sem]
    refine .forUp 256 (fun i F S => F = [(0,AV.ptr 0 0),(1,AV.ptr 1 0),(2,AV.fn (.func 205) [] [.ptr 1 0]),(5,AV.int .i64 i)] ∧ S = ⟨2,[(1,crcL i),(0,Z)],0,[],gl⟩) ⟨rfl,by rw [h0]⟩ ?_
    rintro i F S hi ⟨rfl,rfl⟩ ih
    by_cases h : i < 256
    · have hd : decide ((i : Int) < 256) = true := decide_eq_true (by omega)
      have hl := crcL_len hi
      have h205 := fun m t live ob => c205 (gl := gl) (m := m) (t := t) (live := live) (ob := ob) hl h
      rw [crcL_step h] at h205
      refine opn m176l0.eq_1 ?_
      repeat' first
        | with_reducible first | refine mw_as m176.eq_1 ?_ | refine opn m176k0.eq_1 ?_ | refine CallK.eff (h205 _ _ _ _) ?_ | refine ⟨?_,?_⟩ | intro _
        | simp only [go_sem,↓reduceIte,Nat.reduceAdd,Nat.reduceLeDiff,Nat.reduceEqDiff,Nat.reduceBEq,Nat.reduceBNe,Nat.reduceMul,Nat.reduceLT,reduceCtorEq,Int.reduceLT,Int.reduceLE,Int.reduceToNat,Int.reduceNeg,  hd,wrap_succ (show i < 9223372036854775807 by omega)]
      exact MRun.keep (live' := []) (ih h _ _ ⟨rfl,rfl⟩) (fun l cs e => by simp only [lookG] at e ⊢; grind) (fun _ h => h)
    · have hd : decide ((i : Int) < 256) = false := decide_eq_false (by omega)
      obtain rfl : i = 256 := by omega
      have hl := crcL_len hi
      have hlb := isBld_len hl
      refine opn m176l0.eq_1 ?_
      have htk : List.take 256 (crcL 256) = crcL 256 := List.take_of_length_le (by omega)
      have hdr : List.drop 256 Z = [] := List.drop_eq_nil_of_le (by omega)
      repeat' first
        | with_reducible first | refine mw_as m176.eq_1 ?_ | refine opn m176k0.eq_1 ?_ | refine ⟨?_,?_⟩ | intro _
        | simp only [go_sem,↓reduceIte,Nat.reduceAdd,Nat.reduceLeDiff,Nat.reduceEqDiff,Nat.reduceBEq,Nat.reduceBNe,Nat.reduceMul,Nat.reduceLT,reduceCtorEq,Int.reduceLT,Int.reduceLE,Int.reduceToNat,Int.reduceNeg,  hd,hzb,hlb,hl,hz,htk,hdr]
  · refine NoRef.agg fun c hc => ?_
    unfold crcL at hc
    simp at hc
    obtain ⟨a,_,rfl⟩ := hc
    exact .int _ _
def crcR : Int → Bytes → Int
  | r,[] => r
  | r,x :: b => crcR (ixor .u32 (ishr .u32 r 8) (crcT (ixor .u8 (IntKind.u8.wrap r) x.toNat).toNat)) b
def not32 (n : Int) : Int := IntKind.u32.wrap (BitVec.ofInt IntKind.u32.bits (if IntKind.u32.signed then -1 else IntKind.u32.max) ^^^ BitVec.ofInt IntKind.u32.bits n).toNat
def crcX (s : Int) (b : Bytes) : Int := not32 (crcR (not32 s) b)
theorem u8_range (x : Int) : 0 ≤ IntKind.u8.wrap x ∧ IntKind.u8.wrap x < 256 := by rw [wrap_u8]; omega
theorem c122 (hg : GlNR gl) (s : Int) (b : Bytes) (t : STok) (hb : b.length < 4294960000) : Pure Tryz.prog gl 122 [.int .u32 s,.sl 1 (b.map byteAV) t] (.ok (.int .u32 (crcX s b))) := by
  refine ⟨?_,by simp only [fgs,nrs,forall_eq_or_imp,forall_eq,implies_true],by simp only [nrs,forall_eq_or_imp,forall_eq,implies_true]⟩
  simp only [fgs]
  refine .of_run is122 (by simp) (mw_sound 200 ?_)
  have hz : zeroT.length = 256 := by simp
  have hzb := isBld_len hz
  have m122_eq : m122 = .seq (.reg [mc 0 4 (.int .u32 0)] [0,1])
    (.seq (.reg [oc 0 9 176 [],
      oo 1 5 (.alloc zeroT),⟨2,none,none,.k (.store 256 (.t 5) (.t 9))⟩] [0,1,5])
    (.seq (.reg [mv 0 10 0,
      oo 1 11 (.un .xor (.t 10)),
      mv 2 6 11] [1,5,6])
    (.seq (.seq (.reg [mv 0 12 1,
      oo 1 13 (.len false (.t 12)),
      mc 2 14 (.int .i64 0)] [5,6,12,13,14])
    (.block 0 (.loop m122l0)))
    (.named [6] m122k0)))) := rfl
  refine mw_as m122_eq ?_
  have hl := crcL_len (Nat.le_refl 256)
  have hlb := isBld_len hl
  have htk : List.take 256 (crcL 256) = crcL 256 := List.take_of_length_le (by omega)
  have hdr : List.drop 256 zeroT = [] := List.drop_eq_nil_of_le (by omega)
  generalize hZ : zeroT = Z at *
  repeat' first
    | with_reducible first | refine mw_as m122.eq_1 ?_ | refine opn m122k0.eq_1 ?_ | refine .pu (c176) hg rfl ?_ | refine ⟨?_,?_⟩ | intro _
    | simp only [go_sem,↓reduceIte,Nat.reduceAdd,Nat.reduceLeDiff,Nat.reduceEqDiff,Nat.reduceBEq,Nat.reduceBNe,Nat.reduceMul,Nat.reduceLT,reduceCtorEq,Int.reduceLT,Int.reduceLE,Int.reduceToNat,Int.reduceNeg,  hl,hlb,hz,hzb,htk,hdr]
  rw [show crcX s b = not32 (crcR (not32 s) b) from rfl]
  generalize hR : crcR (not32 s) b = R
  refine MRun.keep (ob' := [(0,crcL 256)]) (live' := []) ?_ (fun l cs e => by simp only [lookG] at e ⊢; grind) (fun _ h => h)
  refine .forUp b.length (fun i F S => ∃ r : Int,F = [(5,AV.ptr 0 0),(6,AV.int .u32 r),(12,AV.sl 1 (b.map byteAV) .unk),(13,AV.int .i64 b.length),(14,AV.int .i64 i)] ∧ S = ⟨1,[(0,crcL 256)],0,[],gl⟩ ∧ crcR r (b.drop i) = R) ⟨not32 s,rfl,rfl,hR⟩ ?_
  rintro i F S hi ⟨r,rfl,rfl,he⟩ ih
  by_cases h : i < b.length
  · obtain ⟨c,hc⟩ := some_of_lt h
    rw [drop_some hc,crcR] at he
    have hx0 : 0 ≤ ixor .u8 (IntKind.u8.wrap r) c.toNat := (u8_range _).1
    have hx1 : ixor .u8 (IntKind.u8.wrap r) c.toNat < 256 := (u8_range _).2
    have hat := crcL_at (n := (ixor .u8 (IntKind.u8.wrap r) c.toNat).toNat) (by omega)
    refine opn m122l0.eq_1 ?_
    repeat' first
      | with_reducible first | refine mw_as m122.eq_1 ?_ | refine opn m122k0.eq_1 ?_ | refine ⟨?_,?_⟩ | intro _
      | simp only [go_sem,↓reduceIte,Nat.reduceAdd,Nat.reduceLeDiff,Nat.reduceEqDiff,Nat.reduceBEq,Nat.reduceBNe,Nat.reduceMul,Nat.reduceLT,reduceCtorEq,Int.reduceLT,Int.reduceLE,Int.reduceToNat,Int.reduceNeg,  hc,ltB h,ltP h,byteAV,hx0,hx1,hat,hlb,Nat.mul_one,List.getElem?_drop,wrap_succ (show i < 9223372036854775807 by omega)]
    all_goals first
      | exact hx0
      | exact hx1
      | exact ih h _ _ ⟨_,rfl,rfl,he⟩
  · refine opn m122l0.eq_1 ?_
    rw [List.drop_eq_nil_of_le (Nat.le_of_not_lt h),crcR] at he
    repeat' first
      | with_reducible first | refine mw_as m122.eq_1 ?_ | refine opn m122k0.eq_1 ?_ | refine ⟨?_,?_⟩ | intro _
      | simp only [go_sem,↓reduceIte,Nat.reduceAdd,Nat.reduceLeDiff,Nat.reduceEqDiff,Nat.reduceBEq,Nat.reduceBNe,Nat.reduceMul,Nat.reduceLT,reduceCtorEq,Int.reduceLT,Int.reduceLE,Int.reduceToNat,Int.reduceNeg,  geB (Nat.le_of_not_lt h)]
    rw [← he]
    rfl
theorem c73 (hg : GlNR gl) (b : Bytes) (t : STok) (hb : b.length < 4294960000) : Pure Tryz.prog gl 73 [.sl 1 (b.map byteAV) t] (.ok (.int .u32 (crcX 0 b))) := by
  refine ⟨?_,by simp only [fgs,nrs,forall_eq_or_imp,forall_eq,implies_true],by simp only [nrs,forall_eq_or_imp,forall_eq,implies_true]⟩
  simp only [fgs]
  refine .of_run is73 (by simp) (mw_sound 200 ?_)
  repeat' first
    | with_reducible first | refine mw_as m73.eq_1 ?_ | refine .pu (c122 hg 0 b .unk hb) hg rfl ?_ | refine ⟨?_,?_⟩ | intro _
    | simp only [go_sem,↓reduceIte,Nat.reduceAdd,Nat.reduceLeDiff,Nat.reduceEqDiff,Nat.reduceBEq,Nat.reduceBNe,Nat.reduceMul,Nat.reduceLT,reduceCtorEq,Int.reduceLT,Int.reduceLE,Int.reduceToNat,Int.reduceNeg]
end
section
open Go Go.V Go.Lib Go.RowKit
set_option maxRecDepth 40000
variable {gl : List (Nat × List AV)}
theorem nr_e3 : NoRef (.sl 3 [] .unk) = True := eq_true (NoRef.sl (by simp) (.inl rfl))
theorem nr_t0 : NoRef (.tup []) = True := eq_true (NoRef.tup (by simp))
theorem nr_f (f : Fn) : NoRef (.fn f [] []) = True := eq_true (NoRef.func (by simp) (by simp))
theorem c207_0 : Pure Tryz.prog gl 207 [.int .u64 0] (.ok (.int .i64 0)) := by
  refine ⟨?_,by simp only [fgs,nrs,forall_eq_or_imp,forall_eq,implies_true],by simp only [nrs,forall_eq_or_imp,forall_eq,implies_true]⟩
  simp only [fgs]
  refine (MCalls.ofSame Tryz.call207 fun wb G w vs hS hv => ?_).mono fun o S' h => h.2
  obtain ⟨v1,vs1,rfl,e1,hv⟩ := hv.cons_inv
  obtain rfl := hv.nil_inv
  obtain rfl := e1.int_inv
  exact ⟨_,.int _ _,Tryz.bits_Len 0 w (by omega) (by omega)⟩
theorem c226_0 : Pure Tryz.prog gl 226 [.sl 3 [] .unk,.int .i64 0,.int .i64 0,.fn (.func 179) [] []] (.ok (.tup [])) := by
  refine ⟨?_,by simp only [fgs,nrs,forall_eq_or_imp,forall_eq,implies_true,nr_e3,nr_f],by simp only [nrs,forall_eq_or_imp,forall_eq,implies_true,nr_t0]⟩
  simp only [fgs]
  refine .of_run is226 (by simp) (mw_sound 200 ?_)
  repeat' first
    | with_reducible first | refine mw_as m226.eq_1 ?_ | refine opn m226k0.eq_1 ?_ | refine opn m226k1.eq_1 ?_ | refine opn m226k2.eq_1 ?_ | refine ⟨?_,?_⟩ | intro _
    | simp only [go_sem,↓reduceIte,Nat.reduceAdd,Nat.reduceLeDiff,Nat.reduceEqDiff,Nat.reduceBEq,Nat.reduceBNe,Nat.reduceMul,Nat.reduceLT,reduceCtorEq,Int.reduceLT,Int.reduceLE,Int.reduceToNat,Int.reduceNeg]
  refine MRun.loop1 (mw_sound 60 (mw_as m226l1.eq_1 ?_))
  repeat' first
    | with_reducible first | refine mw_as m226.eq_1 ?_ | refine opn m226k0.eq_1 ?_ | refine opn m226k1.eq_1 ?_ | refine opn m226k2.eq_1 ?_ | refine ⟨?_,?_⟩ | intro _
    | simp only [go_sem,↓reduceIte,Nat.reduceAdd,Nat.reduceLeDiff,Nat.reduceEqDiff,Nat.reduceBEq,Nat.reduceBNe,Nat.reduceMul,Nat.reduceLT,reduceCtorEq,Int.reduceLT,Int.reduceLE,Int.reduceToNat,Int.reduceNeg,  (show decide (IntKind.i64.wrap (0 + 1) < 0) = false from rfl)]
theorem c206_0 (hg : GlNR gl) : Pure Tryz.prog gl 206 [.sl 3 [] .unk,.int .i64 0,.int .i64 0,.int .i64 0,.fn (.func 179) [] []] (.ok (.tup [])) := by
  refine ⟨?_,by simp only [fgs,nrs,forall_eq_or_imp,forall_eq,implies_true,nr_e3,nr_f],by simp only [nrs,forall_eq_or_imp,forall_eq,implies_true,nr_t0]⟩
  simp only [fgs]
  refine .of_run is206 (by simp) (mw_sound 200 ?_)
  repeat' first
    | with_reducible first | refine mw_as m206.eq_1 ?_ | refine opn m206k0.eq_1 ?_ | refine opn m206k1.eq_1 ?_ | refine opn m206k2.eq_1 ?_ | refine opn m206k3.eq_1 ?_ | refine opn m206k4.eq_1 ?_ | refine opn m206k5.eq_1 ?_ | refine .pu (c226_0) hg rfl ?_ | refine ⟨?_,?_⟩ | intro _
    | simp only [go_sem,↓reduceIte,Nat.reduceAdd,Nat.reduceLeDiff,Nat.reduceEqDiff,Nat.reduceBEq,Nat.reduceBNe,Nat.reduceMul,Nat.reduceLT,reduceCtorEq,Int.reduceLT,Int.reduceLE,Int.reduceToNat,Int.reduceNeg]
  refine MRun.loop1 (mw_sound 60 (mw_as m206l0.eq_1 ?_))
  repeat' first
    | with_reducible first | refine mw_as m206.eq_1 ?_ | refine opn m206k0.eq_1 ?_ | refine opn m206k1.eq_1 ?_ | refine opn m206k2.eq_1 ?_ | refine opn m206k3.eq_1 ?_ | refine opn m206k4.eq_1 ?_ | refine opn m206k5.eq_1 ?_ | refine .pu (c226_0) hg rfl ?_ | refine ⟨?_,?_⟩ | intro _
    | simp only [go_sem,↓reduceIte,Nat.reduceAdd,Nat.reduceLeDiff,Nat.reduceEqDiff,Nat.reduceBEq,Nat.reduceBNe,Nat.reduceMul,Nat.reduceLT,reduceCtorEq,Int.reduceLT,Int.reduceLE,Int.reduceToNat,Int.reduceNeg,  (show decide (IntKind.i64.wrap (0 - 0) ≤ 12) = true from rfl)]
theorem c178_0 (hg : GlNR gl) : Pure Tryz.prog gl 178 [.sl 3 [] .unk,.fn (.func 179) [] []] (.ok (.tup [])) := by
  refine ⟨?_,by simp only [fgs,nrs,forall_eq_or_imp,forall_eq,implies_true,nr_e3,nr_f],by simp only [nrs,forall_eq_or_imp,forall_eq,implies_true,nr_t0]⟩
  simp only [fgs]
  refine .of_run is178 (by simp) (mw_sound 200 ?_)
  repeat' first
    | with_reducible first | refine mw_as m178.eq_1 ?_ | refine .pu (c207_0) hg rfl ?_ | refine .pu (c206_0 hg) hg rfl ?_ | refine ⟨?_,?_⟩ | intro _
    | simp only [go_sem,↓reduceIte,Nat.reduceAdd,Nat.reduceLeDiff,Nat.reduceEqDiff,Nat.reduceBEq,Nat.reduceBNe,Nat.reduceMul,Nat.reduceLT,reduceCtorEq,Int.reduceLT,Int.reduceLE,Int.reduceToNat,Int.reduceNeg,  (show IntKind.u64.wrap ((0 : Nat) : Int) = 0 from rfl),(show ((0 : Nat) : Int) = 0 from rfl)]
theorem c180_0 : Pure Tryz.prog gl 180 [.sl 3 [] .unk] (.ok (.sl 3 [] .unk)) := by
  refine ⟨?_,by simp only [fgs,nrs,forall_eq_or_imp,forall_eq,implies_true,nr_e3,nr_f],by simp only [nrs,forall_eq_or_imp,forall_eq,implies_true,nr_e3]⟩
  simp only [fgs]
  refine .of_run is180 (by simp) (mw_sound 200 ?_)
  repeat' first
    | with_reducible first | refine mw_as m180.eq_1 ?_ | refine opn m180k0.eq_1 ?_ | refine opn m180k1.eq_1 ?_ | refine opn m180k2.eq_1 ?_ | refine opn m180k3.eq_1 ?_ | refine ⟨?_,?_⟩ | intro _
    | simp only [go_sem,↓reduceIte,Nat.reduceAdd,Nat.reduceLeDiff,Nat.reduceEqDiff,Nat.reduceBEq,Nat.reduceBNe,Nat.reduceMul,Nat.reduceLT,reduceCtorEq,Int.reduceLT,Int.reduceLE,Int.reduceToNat,Int.reduceNeg,  (show decide (((0 : Nat) : Int) < 2) = true from rfl)]
end
end Go.Proofs.YtdjdhecanjmchaaGreatDoor
