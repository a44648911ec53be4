/- Contracts: request's iterator over the labels that are kept, and request.Sample. -/
import Derived.Test.YtdjdhecanjmchaaGreatDoorC7
import Derived.Test.YtdjdhecanjmchaaGreatDoorVw
set_option linter.unusedSimpArgs false
set_option linter.unusedVariables false
namespace Go.Proofs.YtdjdhecanjmchaaGreatDoor
open Go Go.V Go.Lib
set_option maxRecDepth 40000
attribute [local go_sem ↓] keepK Opd.ev MK.ev MK.ob gsA
attribute [local go_sem high] gsB
attribute [local go_sem] binEv binOb intOp strOp unEv eqvEv eqCells eqCell noBld tasEv AV.there AV.plus pickCells storeEv AV.solid AV.cells splice putParts rowOK fldEv iarrEv extEv minEv nonNil lenEv isStr appEv appOb appArg slVecEv slVecOb slStrEv slStrOb bnd argF endQ rvsEv rvEv resOf St.none if_true if_false ite_self eq_self ne_eq implies_true forall_const Lab.av Val.av Exa.av Dset.av Req.av gsC
variable {gl : List (Nat × List AV)}
abbrev reqC (r : Req) : List AV := [.str r.ent,.sl 1 (r.fs.map AV.str) .unk,.sl 3 (r.labs.map Lab.av) .unk,.int .i64 r.seed,.int .i64 r.pm]
theorem c74 (hg : GlNR gl) (r : Req) : MCalls Tryz.prog 74 [r.av] ⟨2,[(1,[.sl 3 [] .exact]),(0,reqC r)],0,[],gl⟩ fun o S' => o = .ok (.fn (.func 123) [] [.ptr 2 0]) ∧ S' = ⟨3,[(2,reqC r),(1,[.sl 3 [] .exact]),(0,reqC r)],0,[],gl⟩ := by
  refine .of_run is74 (by simp) (mw_sound 200 ?_)
  repeat' first
    | with_reducible first | refine mw_as m74.eq_1 ?_ | refine ⟨?_,?_⟩ | intro _
    | simp only [go_sem,↓reduceIte,Nat.reduceAdd,Nat.reduceLeDiff,Nat.reduceEqDiff,Nat.reduceBEq,Nat.reduceBNe,Nat.reduceMul,Nat.reduceLT,reduceCtorEq,Int.reduceLT,Int.reduceLE,Int.reduceToNat,Int.reduceNeg]
structure Smp (gl : List (Nat × List AV)) (r : Req) (d l : Nat) (L : Loop) (ts : List Nat) (vs : List AV) (p : List Lab) (S : St) : Prop where
  gl : S.gl = gl
  n : 5 ≤ S.n
  box : S.get 2 = some (reqC r)
  dfr : S.get 3 = some [.hob d (.deferred (some [])) [] []]
  lp : S.get 4 = some [.hob l (.loop L) ts vs]
  out : ∃ tk,S.get 1 = some [.sl 3 (p.map Lab.av) tk] ∧ (tk = .exact ∨ ∃ t,tk = .tok t ∧ t ∈ S.live)
theorem Smp.ext {r : Req} {d l : Nat} {L : Loop} {ts : List Nat} {vs : List AV} {p : List Lab} {n nt n' nt' : Nat} {ob ob' : List (Nat × List AV)} {live live' : List Nat} (h : Smp gl r d l L ts vs p ⟨n,ob,nt,live,gl⟩) (hn : 5 ≤ n') (hk : ∀ k,k < 5 → List.lookup k ob' = List.lookup k ob) (hl : ∀ t ∈ live,t ∈ live') : Smp gl r d l L ts vs p ⟨n',ob',nt',live',gl⟩ :=
  ⟨rfl,hn,(hk 2 (by omega)).trans h.box,(hk 3 (by omega)).trans h.dfr,(hk 4 (by omega)).trans h.lp,by
    obtain ⟨tk,h1,h2⟩ := h.out
    refine ⟨tk,(hk 1 (by omega)).trans h1,?_⟩
    rcases h2 with h2 | ⟨t,h2,h3⟩
    · exact .inl h2
    · exact .inr ⟨t,h2,hl t h3⟩⟩
theorem look_ne {k n : Nat} {c : List AV} {ob : List (Nat × List AV)} (h : k ≠ n) : List.lookup k ((n,c) :: ob) = List.lookup k ob := by rw [lookG,if_neg h]
theorem c123 (hg : GlNR gl) (r : Req) (hl : r.labs.length < 4294950000) (hv : r.labs.all labB = true) {d l : Nat} {L : Loop} {ts : List Nat} {vs : List AV}
    (hy : ∀ (p : List Lab) (x : Lab) (S : St),Smp gl r d l L ts vs p S → p.length < 4294950000 → MYield Tryz.prog l [x.av] S fun o S' => o = .ok (.bool true) ∧ Smp gl r d l L ts vs (p ++ [x]) S' ∧ ∀ k cs,5 ≤ k → k < S.n → S.get k = some cs → S'.get k = some cs)
    {S : St} (hS : Smp gl r d l L ts vs [] S) : MCalls Tryz.prog 123 [.fn (.yield l) [] [],.ptr 2 0] S fun o S' => o = .ok (.tup []) ∧ Smp gl r d l L ts vs (sampleR r) S' := by
  obtain ⟨n,ob,nt,live,gl'⟩ := S
  obtain rfl : gl' = gl := hS.gl
  have hsl := sortR_len r.labs
  have hsv : ∀ x ∈ sortR r.labs,labB x = true := fun x hx => List.all_eq_true.1 hv x ((sortR_mem _ _).1 hx)
  have hbx := hS.box
  refine .of_run is123 (by simp) (mw_sound 200 ?_)
  repeat' first
    | with_reducible first | refine mw_as m123.eq_1 ?_ | refine opn m123k0.eq_1 ?_ | refine opn m123k1.eq_1 ?_ | refine .pu (c124 hg r.labs hl) hg rfl ?_ | refine ⟨?_,?_⟩ | intro _
    | simp only [go_sem,↓reduceIte,Nat.reduceAdd,Nat.reduceLeDiff,Nat.reduceEqDiff,Nat.reduceBEq,Nat.reduceBNe,Nat.reduceMul,Nat.reduceLT,reduceCtorEq,Int.reduceLT,Int.reduceLE,Int.reduceToNat,Int.reduceNeg,  hbx]
  generalize hA : sortR r.labs = A at hsl hsv
  refine .forUp A.length (fun i F S => ∃ p,F = [(0,AV.fn (Fn.yield l) [] []),(1,AV.ptr 2 0),(7,AV.sl 3 (List.map Lab.av A) STok.unk),(8,AV.int IntKind.i64 ↑A.length),(9,AV.int IntKind.i64 i)] ∧
    Smp gl' r d l L ts vs p S ∧ p.length ≤ i ∧ sampleR r = p ++ (A.drop i).filter (keptR r.seed r.pm)) ⟨[],rfl,hS,Nat.le_refl _,by rw [sampleR,hA]; rfl⟩ ?_
  clear hbx hS
  rintro i F S hi ⟨p,rfl,hS,hpl,he⟩ ih
  obtain ⟨n,ob,nt,live,gl1⟩ := S
  obtain rfl : gl1 = gl' := hS.gl
  by_cases h : i < A.length
  · obtain ⟨x,hx⟩ := some_of_lt h
    have hd := drop_some hx
    rw [hd,List.filter_cons] at he
    have hxb := hsv x (List.mem_of_getElem? hx)
    have hn5 : 5 ≤ n := hS.n
    have hbx : ∀ m t lv,St.get ⟨m,ob,t,lv,gl1⟩ 2 = some (reqC r) := fun _ _ _ => hS.box
    refine opn m123l0.eq_1 ?_
    repeat' first
      | with_reducible first | refine mw_as m123.eq_1 ?_ | refine opn m123k0.eq_1 ?_ | refine opn m123k1.eq_1 ?_ | refine .pu (c126 hg x hxb) hg rfl ?_ | refine .pu (c125 hg r.seed r.pm x .unk hxb) hg rfl ?_ | refine ⟨?_,?_⟩ | intro _
      | simp only [go_sem,↓reduceIte,Nat.reduceAdd,Nat.reduceLeDiff,Nat.reduceEqDiff,Nat.reduceBEq,Nat.reduceBNe,Nat.reduceMul,Nat.reduceLT,reduceCtorEq,Int.reduceLT,Int.reduceLE,Int.reduceToNat,Int.reduceNeg,  hx,ltB h,ltP h,hbx,(show (2 = n) = False from eq_false (by omega)),(show (n = 2) = False from eq_false (by omega)),wrap_succ (show i < 9223372036854775807 by omega)]
    · rename_i h4
      have h4 : keptR r.seed r.pm x = true := h4
      rw [if_pos h4] at he
      refine PYCallK.of (hy p x _ (hS.ext (by omega) (fun k hk => by rw [look_ne (by omega),look_ne (by omega)]) fun t ht => ht) (by omega)) ?_
      rintro o S' ⟨rfl,hS',hk⟩
      refine ⟨_,rfl,fun _ => ⟨hS'.gl,fun k hk2 => ?_⟩,?_⟩
      · simp only [List.mem_cons,List.not_mem_nil,or_false] at hk2
        rcases hk2 with e | e
        · rw [e,hS'.box]
          exact (((hS.ext (n' := n + 1) (nt' := nt) (live' := live) (by omega) (fun k hk => by rw [look_ne (by omega),look_ne (by omega)]) fun t ht => ht)).box).symm
        · rw [e]
          have e2 : St.get ⟨n + 1,(n,[AV.str x.k,AV.int IntKind.i64 x.e,AV.int IntKind.i64 x.n]) :: (n,[AV.str [],AV.int IntKind.i64 0,AV.int IntKind.i64 0]) :: ob,nt,live,gl1⟩ n = some [AV.str x.k,AV.int IntKind.i64 x.e,AV.int IntKind.i64 x.n] := by simp [St.get]
          exact (hk n _ hn5 (Nat.lt_succ_self n) e2).trans e2.symm
      · obtain ⟨n2,ob2,nt2,live2,gl2⟩ := S'
        obtain rfl : gl2 = gl1 := hS'.gl
        repeat' first
          | with_reducible first | refine mw_as m123.eq_1 ?_ | refine opn m123k0.eq_1 ?_ | refine opn m123k1.eq_1 ?_ | refine ⟨?_,?_⟩ | intro _
          | simp only [go_sem,↓reduceIte,Nat.reduceAdd,Nat.reduceLeDiff,Nat.reduceEqDiff,Nat.reduceBEq,Nat.reduceBNe,Nat.reduceMul,Nat.reduceLT,reduceCtorEq,Int.reduceLT,Int.reduceLE,Int.reduceToNat,Int.reduceNeg,  wrap_succ (show i < 9223372036854775807 by omega)]
        exact ih h _ _ ⟨p ++ [x],rfl,hS',by simp; omega,by rw [he]; simp⟩
    · rename_i h4
      have h4 : keptR r.seed r.pm x = false := by simpa using h4
      rw [if_neg (by simp [h4])] at he
      exact ih h _ _ ⟨p,rfl,hS.ext (by omega) (fun k hk => by rw [look_ne (by omega),look_ne (by omega)]) fun t ht => ht,by omega,he⟩
  · refine opn m123l0.eq_1 ?_
    rw [List.drop_eq_nil_of_le (Nat.le_of_not_lt h),List.filter_nil,List.append_nil] at he
    repeat' first
      | with_reducible first | refine mw_as m123.eq_1 ?_ | refine opn m123k0.eq_1 ?_ | refine opn m123k1.eq_1 ?_ | refine ⟨?_,?_⟩ | intro _
      | simp only [go_sem,↓reduceIte,Nat.reduceAdd,Nat.reduceLeDiff,Nat.reduceEqDiff,Nat.reduceBEq,Nat.reduceBNe,Nat.reduceMul,Nat.reduceLT,reduceCtorEq,Int.reduceLT,Int.reduceLE,Int.reduceToNat,Int.reduceNeg,  geB (Nat.le_of_not_lt h)]
    rw [he]
    exact hS
theorem smp_round (hg : GlNR gl) (r : Req) {d l : Nat} {L : Loop} {ts : List Nat} {vs : List AV} (hr : L.state = .ready) {p : List Lab} {x : Lab} {S : St} (hS : Smp gl r d l L ts vs p S) (hp : p.length < 4294950000) (f : AV) :
    MRun Tryz.prog 12 [.code m26r0,.begin l,.code m26r1] [] (putPs [6] [x.av] [(2,.ptr 1 0),(5,f)]) S
      (rndQ 4 l L ts vs fun o S' => o = .ok (.bool true) ∧ Smp gl r d l L ts vs (p ++ [x]) S' ∧ ∀ k cs,5 ≤ k → k < S.n → S.get k = some cs → S'.get k = some cs) := by
  obtain ⟨n,ob,nt,live,gl1⟩ := S
  obtain rfl : gl1 = gl := hS.gl
  have hn5 : 5 ≤ n := hS.n
  obtain ⟨tk,ho,hab⟩ := hS.out
  have hab2 : ∀ n ob nt,Able ⟨n,ob,nt,live,gl1⟩ tk := fun n ob nt => by
    rcases hab with rfl | ⟨a,rfl,ha⟩
    · exact .inl rfl
    · exact .inr ⟨a,rfl,ha⟩
  have e1 : ∀ m t lv,St.get ⟨m,ob,t,lv,gl1⟩ 1 = some [.sl 3 (p.map Lab.av) tk] := fun _ _ _ => ho
  simp only [putPs]
  refine mw_sound 200 (mw_as m26r0.eq_1 ?_)
  repeat' first
    | with_reducible first | refine mw_as m26.eq_1 ?_ | refine opn m26r0.eq_1 ?_ | refine opn m26r1.eq_1 ?_ | refine ⟨?_,?_⟩ | intro _
    | simp only [go_sem,↓reduceIte,Nat.reduceAdd,Nat.reduceLeDiff,Nat.reduceEqDiff,Nat.reduceBEq,Nat.reduceBNe,Nat.reduceMul,Nat.reduceLT,reduceCtorEq,Int.reduceLT,Int.reduceLE,Int.reduceToNat,Int.reduceNeg]
  refine MRun.begin (kk := 4) (L := L) (ts := ts) (vs := vs) ((hS.ext (n' := n + 1) (nt' := nt) (live' := live) (by omega) (fun k hk => by rw [look_ne (by omega),look_ne (by omega)]) fun t ht => ht).lp) hr ?_
  refine mw_sound 200 (mw_as m26r1.eq_1 ?_)
  repeat' first
    | with_reducible first | refine mw_as m26.eq_1 ?_ | refine opn m26r0.eq_1 ?_ | refine opn m26r1.eq_1 ?_ | refine ⟨?_,?_⟩ | intro _
    | simp only [go_sem,↓reduceIte,Nat.reduceAdd,Nat.reduceLeDiff,Nat.reduceEqDiff,Nat.reduceBEq,Nat.reduceBNe,Nat.reduceMul,Nat.reduceLT,reduceCtorEq,Int.reduceLT,Int.reduceLE,Int.reduceToNat,Int.reduceNeg,  e1,use_eq,(show (n = 4) = False from eq_false (by omega)),(show (4 = n) = False from eq_false (by omega)),(show (n = 1) = False from eq_false (by omega)),(show (1 = n) = False from eq_false (by omega))]
  · exact hab2 _ _ _
  · omega
  · omega
  have key : ∀ (a b c d e : List AV) k,k ≠ 4 → k ≠ 1 → k ≠ n → List.lookup k ((4,a) :: (1,b) :: (4,c) :: (n,d) :: (n,e) :: ob) = List.lookup k ob := fun a b c d e k h4 h1 hn => by rw [look_ne h4,look_ne h1,look_ne h4,look_ne hn,look_ne hn]
  refine ⟨rfl,by simp [St.get,lookG],rfl,⟨rfl,by show 5 ≤ n + 1; omega,(key _ _ _ _ _ 2 (by decide) (by decide) (by omega)).trans hS.box,(key _ _ _ _ _ 3 (by decide) (by decide) (by omega)).trans hS.dfr,by simp [St.get,St.set,lookG],_,by simp [St.get,St.set,lookG],.inr ⟨_,rfl,List.mem_cons_self⟩⟩,fun k cs h5 hkn hc => ?_⟩
  exact (key _ _ _ _ _ k (by omega) (by omega) (by have : k < n := hkn; omega)).trans hc
theorem c26 (hg : GlNR gl) (r : Req) (hl : r.labs.length < 4294950000) (hv : r.labs.all labB = true) : Pure Tryz.prog gl 26 [r.av] (.ok (.sl 3 ((sampleR r).map Lab.av) .unk)) := by
  refine Pure.ofFg ?_ (by simp only [fgs,nrs,forall_eq_or_imp,forall_eq,implies_true]) (by simp only [nrs,forall_eq_or_imp,forall_eq,implies_true])
  simp only [fgs]
  refine .of_runM is26 (by simp) (mw_sound 200 ?_)
  repeat' first
    | with_reducible first | refine mw_as m26.eq_1 ?_ | refine opn m26r0.eq_1 ?_ | refine opn m26r1.eq_1 ?_ | refine CallK.eff (c74 hg r) ?_ | refine ⟨?_,?_⟩ | intro _
    | simp only [go_sem,↓reduceIte,Nat.reduceAdd,Nat.reduceLeDiff,Nat.reduceEqDiff,Nat.reduceBEq,Nat.reduceBNe,Nat.reduceMul,Nat.reduceLT,reduceCtorEq,Int.reduceLT,Int.reduceLE,Int.reduceToNat,Int.reduceNeg]
  refine MRun.rfn (gf := 123) (caps := [.ptr 2 0]) rfl Tryz.call123 (fun _ => rfl) (fun _ => rfl) ?_
  intro d l L hy hrd
  refine (c123 hg r hl hv (d := d) (l := l) (L := L) (ts := [2,5]) (vs := [.ptr 1 0,.fn (.func 123) [] [.ptr 2 0]]) ?_ ?_).mono ?_
  · intro p x S' hS hp
    exact hy [x.av] S' _ rfl hS.lp (smp_round hg r hrd hS hp _)
  · exact ⟨rfl,Nat.le_refl 5,rfl,rfl,rfl,_,rfl,.inl rfl⟩
  rintro o S2 ⟨rfl,hS⟩
  refine ⟨⟨_,rfl⟩,hS.lp,?_⟩
  obtain ⟨n,ob,nt,live,gl1⟩ := S2
  obtain rfl : gl1 = gl := hS.gl
  obtain ⟨tk,ho,hab⟩ := hS.out
  have e1 : ∀ m t lv,St.get ⟨m,ob,t,lv,gl1⟩ 1 = some [.sl 3 ((sampleR r).map Lab.av) tk] := fun _ _ _ => ho
  refine mw_sound 200 ?_
  repeat' first
    | with_reducible first | refine mw_as m26.eq_1 ?_ | refine opn m26r0.eq_1 ?_ | refine opn m26r1.eq_1 ?_ | refine ⟨?_,?_⟩ | intro _
    | simp only [go_sem,↓reduceIte,Nat.reduceAdd,Nat.reduceLeDiff,Nat.reduceEqDiff,Nat.reduceBEq,Nat.reduceBNe,Nat.reduceMul,Nat.reduceLT,reduceCtorEq,Int.reduceLT,Int.reduceLE,Int.reduceToNat,Int.reduceNeg,  e1,endQM]
  refine ⟨3,[],[],by simp [St.get,lookG,hS.dfr.symm],?_⟩
  simp only [marks]
  repeat' first
    | with_reducible first | refine mw_as m26.eq_1 ?_ | refine opn m26r0.eq_1 ?_ | refine opn m26r1.eq_1 ?_ | refine ⟨?_,?_⟩ | intro _
    | simp only [go_sem,↓reduceIte,Nat.reduceAdd,Nat.reduceLeDiff,Nat.reduceEqDiff,Nat.reduceBEq,Nat.reduceBNe,Nat.reduceMul,Nat.reduceLT,reduceCtorEq,Int.reduceLT,Int.reduceLE,Int.reduceToNat,Int.reduceNeg,  e1,St.get,lookG]
  exact slL_fg tk rfl
end Go.Proofs.YtdjdhecanjmchaaGreatDoor
