/- Contracts: the reference's cursor. -/
import Derived.Test.YtdjdhecanjmchaaGreatDoorFa
import Derived.Test.YtdjdhecanjmchaaGreatDoorFb
import Derived.Test.YtdjdhecanjmchaaGreatDoorFc
import Derived.Test.YtdjdhecanjmchaaGreatDoorHa
import Derived.Test.YtdjdhecanjmchaaGreatDoorQa
import Derived.Test.YtdjdhecanjmchaaGreatDoorD5
import Derived.Test.YtdjdhecanjmchaaGreatDoorE9
import Derived.Test.YtdjdhecanjmchaaGreatDoorEA
set_option linter.unusedSimpArgs false
set_option linter.unusedVariables false
namespace Go.Proofs.YtdjdhecanjmchaaGreatDoor
open Go Go.V Go.Lib
set_option maxRecDepth 40000
attribute [local go_sem ↓] keepK Opd.ev MK.ev MK.ob gsA
attribute [local go_sem high] gsB
attribute [local go_sem] binEv binOb intOp strOp unEv eqvEv eqCells eqCell noBld tasEv AV.there AV.plus pickCells storeEv AV.solid AV.cells splice putParts rowOK fldEv iarrEv extEv minEv nonNil lenEv isStr appEv appOb appArg slVecEv slVecOb slStrEv slStrOb bnd argF endQ rvsEv rvEv resOf St.none if_true if_false ite_self eq_self ne_eq implies_true forall_const Lab.av Val.av Exa.av Dset.av Req.av gsC
variable {gl : List (Nat × List AV)}
theorem keep_two {l : Nat} {a b : List AV} {ob : List (Nat × List AV)} : ∀ l' cs,List.lookup l' ((l,a) :: ob) = some cs → List.lookup l' ((l,a) :: (l,b) :: ob) = some cs := by
  intro l' cs h
  simp only [lookG] at h ⊢
  split
  · rename_i e; rw [if_pos e] at h; exact h
  · rename_i e; rw [if_neg e] at h; exact h
theorem keep_three {l : Nat} {a b c : List AV} {ob : List (Nat × List AV)} : ∀ l' cs,List.lookup l' ((l,a) :: ob) = some cs → List.lookup l' ((l,a) :: (l,b) :: (l,c) :: ob) = some cs := by
  intro l' cs h
  simp only [lookG] at h ⊢
  grind
theorem c79s (hg : GlNR gl) {n nt l : Nat} {live : List Nat} {ob : List (Nat × List AV)} (p : Bytes) (tk : STok) (at_ e : Int) (he : e ≠ 0) (hl : List.lookup l ob = some [.sl 1 (p.map byteAV) tk,.int .i64 at_,.int .i64 e]) :
    MCalls Tryz.prog 79 [.ptr l 0] ⟨n,ob,nt,live,gl⟩ fun o S' => o = .ok (.str []) ∧ S' = ⟨n,ob,nt,live,gl⟩ := by
  have hl' : St.get ⟨n,ob,nt,live,gl⟩ l = some [.sl 1 (p.map byteAV) tk,.int .i64 at_,.int .i64 e] := hl
  refine .of_run is79 (by simp) (mw_sound 200 ?_)
  have hne := neI he
  repeat' first
    | with_reducible first | refine mw_as m79.eq_1 ?_ | refine ⟨?_,?_⟩ | intro _
    | simp only [go_sem,↓reduceIte,Nat.reduceAdd,Nat.reduceLeDiff,Nat.reduceEqDiff,Nat.reduceBEq,Nat.reduceBNe,Nat.reduceMul,Nat.reduceLT,reduceCtorEq,Int.reduceLT,Int.reduceLE,Int.reduceToNat,Int.reduceNeg,  hl',hne]
theorem c79 (hg : GlNR gl) {n nt l : Nat} {live : List Nat} {ob : List (Nat × List AV)} (p : Bytes) (tk : STok) (m : Nat) (hm : m ≤ p.length) (hb : p.length < 4294960000) (hl : List.lookup l ob = some [.sl 1 (p.map byteAV) tk,.int .i64 m,.int .i64 0]) {x : Bytes} {r : Bytes} (hx : rdT (p.drop m) = .ok (x,r)) :
    MCalls Tryz.prog 79 [.ptr l 0] ⟨n,ob,nt,live,gl⟩ fun o S' => o = .ok (.str x) ∧ S' = ⟨n,(l,[.sl 1 (p.map byteAV) tk,.int .i64 ((p.length - r.length : Nat) : Int),.int .i64 0]) :: ob,nt,live,gl⟩ := by
  refine MCalls.forget (K' := fun o S' => o = .ok (.str x) ∧ At2 n nt live gl ((l,[.sl 1 (p.map byteAV) tk,.int .i64 ((p.length - r.length : Nat) : Int),.int .i64 0]) :: ob) S') ?_ (fun o S' ⟨h1,ob',h3,h2⟩ => ⟨_,by subst h2; exact ⟨rfl,rfl,rfl,fun l' cs e => h3 l' cs e,fun _ h => h⟩,h1,rfl⟩)
  have hl' : St.get ⟨n,ob,nt,live,gl⟩ l = some [.sl 1 (p.map byteAV) tk,.int .i64 m,.int .i64 0] := hl
  refine .of_run is79 (by simp) (mw_sound 200 ?_)
  have hh := c135 hg p tk m (by omega)
  rw [rdAt_in _ hm,hx] at hh
  simp only [outR] at hh
  have h0 : ((0 : Int) != 0) = false := rfl
  repeat' first
    | with_reducible first | refine mw_as m79.eq_1 ?_ | refine .pu (hh) hg rfl ?_ | refine ⟨?_,?_⟩ | intro _
    | simp only [go_sem,↓reduceIte,Nat.reduceAdd,Nat.reduceLeDiff,Nat.reduceEqDiff,Nat.reduceBEq,Nat.reduceBNe,Nat.reduceMul,Nat.reduceLT,reduceCtorEq,Int.reduceLT,Int.reduceLE,Int.reduceToNat,Int.reduceNeg,  hl',hl,h0]
  exact ⟨_,keep_two,rfl⟩
theorem c79e (hg : GlNR gl) {n nt l : Nat} {live : List Nat} {ob : List (Nat × List AV)} (p : Bytes) (tk : STok) (m : Nat) (hm : m ≤ p.length) (hb : p.length < 4294960000) (hl : List.lookup l ob = some [.sl 1 (p.map byteAV) tk,.int .i64 m,.int .i64 0]) {e : Int} (hx : rdT (p.drop m) = .error e) :
    MCalls Tryz.prog 79 [.ptr l 0] ⟨n,ob,nt,live,gl⟩ fun o S' => o = .ok (.str []) ∧ S' = ⟨n,(l,[.sl 1 (p.map byteAV) tk,.int .i64 0,.int .i64 e]) :: ob,nt,live,gl⟩ := by
  refine MCalls.forget (K' := fun o S' => o = .ok (.str []) ∧ At2 n nt live gl ((l,[.sl 1 (p.map byteAV) tk,.int .i64 0,.int .i64 e]) :: ob) S') ?_ (fun o S' ⟨h1,ob',h3,h2⟩ => ⟨_,by subst h2; exact ⟨rfl,rfl,rfl,fun l' cs e => h3 l' cs e,fun _ h => h⟩,h1,rfl⟩)
  have hl' : St.get ⟨n,ob,nt,live,gl⟩ l = some [.sl 1 (p.map byteAV) tk,.int .i64 m,.int .i64 0] := hl
  refine .of_run is79 (by simp) (mw_sound 200 ?_)
  have hh := c135 hg p tk m (by omega)
  rw [rdAt_in _ hm,hx] at hh
  simp only [outR] at hh
  have h0 : ((0 : Int) != 0) = false := rfl
  repeat' first
    | with_reducible first | refine mw_as m79.eq_1 ?_ | refine .pu (hh) hg rfl ?_ | refine ⟨?_,?_⟩ | intro _
    | simp only [go_sem,↓reduceIte,Nat.reduceAdd,Nat.reduceLeDiff,Nat.reduceEqDiff,Nat.reduceBEq,Nat.reduceBNe,Nat.reduceMul,Nat.reduceLT,reduceCtorEq,Int.reduceLT,Int.reduceLE,Int.reduceToNat,Int.reduceNeg,  hl',hl,h0]
  exact ⟨_,keep_two,rfl⟩
theorem c82s (hg : GlNR gl) {n nt l : Nat} {live : List Nat} {ob : List (Nat × List AV)} (p : Bytes) (tk : STok) (at_ e : Int) (he : e ≠ 0) (hl : List.lookup l ob = some [.sl 1 (p.map byteAV) tk,.int .i64 at_,.int .i64 e]) :
    MCalls Tryz.prog 82 [.ptr l 0] ⟨n,ob,nt,live,gl⟩ fun o S' => o = .ok (.int .i64 0) ∧ S' = ⟨n,ob,nt,live,gl⟩ := by
  have hl' : St.get ⟨n,ob,nt,live,gl⟩ l = some [.sl 1 (p.map byteAV) tk,.int .i64 at_,.int .i64 e] := hl
  refine .of_run is82 (by simp) (mw_sound 200 ?_)
  have hne := neI he
  repeat' first
    | with_reducible first | refine mw_as m82.eq_1 ?_ | refine ⟨?_,?_⟩ | intro _
    | simp only [go_sem,↓reduceIte,Nat.reduceAdd,Nat.reduceLeDiff,Nat.reduceEqDiff,Nat.reduceBEq,Nat.reduceBNe,Nat.reduceMul,Nat.reduceLT,reduceCtorEq,Int.reduceLT,Int.reduceLE,Int.reduceToNat,Int.reduceNeg,  hl',hne]
theorem c82 (hg : GlNR gl) {n nt l : Nat} {live : List Nat} {ob : List (Nat × List AV)} (p : Bytes) (tk : STok) (m : Nat) (hm : m ≤ p.length) (hb : p.length < 4294960000) (hl : List.lookup l ob = some [.sl 1 (p.map byteAV) tk,.int .i64 m,.int .i64 0]) {x : Int} {r : Bytes} (hx : rdI (p.drop m) = .ok (x,r)) :
    MCalls Tryz.prog 82 [.ptr l 0] ⟨n,ob,nt,live,gl⟩ fun o S' => o = .ok (.int .i64 x) ∧ S' = ⟨n,(l,[.sl 1 (p.map byteAV) tk,.int .i64 ((p.length - r.length : Nat) : Int),.int .i64 0]) :: ob,nt,live,gl⟩ := by
  refine MCalls.forget (K' := fun o S' => o = .ok (.int .i64 x) ∧ At2 n nt live gl ((l,[.sl 1 (p.map byteAV) tk,.int .i64 ((p.length - r.length : Nat) : Int),.int .i64 0]) :: ob) S') ?_ (fun o S' ⟨h1,ob',h3,h2⟩ => ⟨_,by subst h2; exact ⟨rfl,rfl,rfl,fun l' cs e => h3 l' cs e,fun _ h => h⟩,h1,rfl⟩)
  have hl' : St.get ⟨n,ob,nt,live,gl⟩ l = some [.sl 1 (p.map byteAV) tk,.int .i64 m,.int .i64 0] := hl
  refine .of_run is82 (by simp) (mw_sound 200 ?_)
  have hh := c136 hg p tk m (by omega)
  rw [rdAt_in _ hm,hx] at hh
  simp only [outR] at hh
  have h0 : ((0 : Int) != 0) = false := rfl
  repeat' first
    | with_reducible first | refine mw_as m82.eq_1 ?_ | refine .pu (hh) hg rfl ?_ | refine ⟨?_,?_⟩ | intro _
    | simp only [go_sem,↓reduceIte,Nat.reduceAdd,Nat.reduceLeDiff,Nat.reduceEqDiff,Nat.reduceBEq,Nat.reduceBNe,Nat.reduceMul,Nat.reduceLT,reduceCtorEq,Int.reduceLT,Int.reduceLE,Int.reduceToNat,Int.reduceNeg,  hl',hl,h0]
  exact ⟨_,keep_two,rfl⟩
theorem c82e (hg : GlNR gl) {n nt l : Nat} {live : List Nat} {ob : List (Nat × List AV)} (p : Bytes) (tk : STok) (m : Nat) (hm : m ≤ p.length) (hb : p.length < 4294960000) (hl : List.lookup l ob = some [.sl 1 (p.map byteAV) tk,.int .i64 m,.int .i64 0]) {e : Int} (hx : rdI (p.drop m) = .error e) :
    MCalls Tryz.prog 82 [.ptr l 0] ⟨n,ob,nt,live,gl⟩ fun o S' => o = .ok (.int .i64 0) ∧ S' = ⟨n,(l,[.sl 1 (p.map byteAV) tk,.int .i64 0,.int .i64 e]) :: ob,nt,live,gl⟩ := by
  refine MCalls.forget (K' := fun o S' => o = .ok (.int .i64 0) ∧ At2 n nt live gl ((l,[.sl 1 (p.map byteAV) tk,.int .i64 0,.int .i64 e]) :: ob) S') ?_ (fun o S' ⟨h1,ob',h3,h2⟩ => ⟨_,by subst h2; exact ⟨rfl,rfl,rfl,fun l' cs e => h3 l' cs e,fun _ h => h⟩,h1,rfl⟩)
  have hl' : St.get ⟨n,ob,nt,live,gl⟩ l = some [.sl 1 (p.map byteAV) tk,.int .i64 m,.int .i64 0] := hl
  refine .of_run is82 (by simp) (mw_sound 200 ?_)
  have hh := c136 hg p tk m (by omega)
  rw [rdAt_in _ hm,hx] at hh
  simp only [outR] at hh
  have h0 : ((0 : Int) != 0) = false := rfl
  repeat' first
    | with_reducible first | refine mw_as m82.eq_1 ?_ | refine .pu (hh) hg rfl ?_ | refine ⟨?_,?_⟩ | intro _
    | simp only [go_sem,↓reduceIte,Nat.reduceAdd,Nat.reduceLeDiff,Nat.reduceEqDiff,Nat.reduceBEq,Nat.reduceBNe,Nat.reduceMul,Nat.reduceLT,reduceCtorEq,Int.reduceLT,Int.reduceLE,Int.reduceToNat,Int.reduceNeg,  hl',hl,h0]
  exact ⟨_,keep_two,rfl⟩
theorem c81 {n nt l : Nat} {live : List Nat} {ob : List (Nat × List AV)} (p : Bytes) (tk : STok) (m e : Int) (hl : List.lookup l ob = some [.sl 1 (p.map byteAV) tk,.int .i64 m,.int .i64 e]) :
    MCalls Tryz.prog 81 [.ptr l 0] ⟨n,ob,nt,live,gl⟩ fun o S' => o = .ok (.int .i64 (if e = 0 ∧ m ≠ p.length then 3 else e)) ∧ S' = ⟨n,ob,nt,live,gl⟩ := by
  have hl' : St.get ⟨n,ob,nt,live,gl⟩ l = some [.sl 1 (p.map byteAV) tk,.int .i64 m,.int .i64 e] := hl
  refine .of_run is81 (by simp) (mw_sound 200 ?_)
  by_cases he : e = 0
  · subst he
    have h0 : ((0 : Int) == 0) = true := rfl
    by_cases hm : m = p.length
    · have h1 : (m != (p.length : Int)) = false := by simpa using hm
      rw [if_neg (by simp [hm])]
      repeat' first
        | with_reducible first | refine mw_as m81.eq_1 ?_ | refine opn m81k0.eq_1 ?_ | refine opn m81k1.eq_1 ?_ | refine ⟨?_,?_⟩ | intro _
        | simp only [go_sem,↓reduceIte,Nat.reduceAdd,Nat.reduceLeDiff,Nat.reduceEqDiff,Nat.reduceBEq,Nat.reduceBNe,Nat.reduceMul,Nat.reduceLT,reduceCtorEq,Int.reduceLT,Int.reduceLE,Int.reduceToNat,Int.reduceNeg,  hl',h0,h1]
    · have h1 : (m != (p.length : Int)) = true := by simpa using hm
      rw [if_pos ⟨rfl,hm⟩]
      repeat' first
        | with_reducible first | refine mw_as m81.eq_1 ?_ | refine opn m81k0.eq_1 ?_ | refine opn m81k1.eq_1 ?_ | refine ⟨?_,?_⟩ | intro _
        | simp only [go_sem,↓reduceIte,Nat.reduceAdd,Nat.reduceLeDiff,Nat.reduceEqDiff,Nat.reduceBEq,Nat.reduceBNe,Nat.reduceMul,Nat.reduceLT,reduceCtorEq,Int.reduceLT,Int.reduceLE,Int.reduceToNat,Int.reduceNeg,  hl',h0,h1]
  · have h0 := eqI he
    rw [if_neg (by simp [he])]
    repeat' first
      | with_reducible first | refine mw_as m81.eq_1 ?_ | refine opn m81k0.eq_1 ?_ | refine opn m81k1.eq_1 ?_ | refine ⟨?_,?_⟩ | intro _
      | simp only [go_sem,↓reduceIte,Nat.reduceAdd,Nat.reduceLeDiff,Nat.reduceEqDiff,Nat.reduceBEq,Nat.reduceBNe,Nat.reduceMul,Nat.reduceLT,reduceCtorEq,Int.reduceLT,Int.reduceLE,Int.reduceToNat,Int.reduceNeg,  hl',h0]
def atM (p q : Bytes) : Int := match rdU q with
  | .error _ => 0
  | .ok (_,r) => ((p.length - r.length : Nat) : Int)
theorem c80s (hg : GlNR gl) {n nt l : Nat} {live : List Nat} {ob : List (Nat × List AV)} (most : Int) (p : Bytes) (tk : STok) (at_ e : Int) (he : e ≠ 0) (hl : List.lookup l ob = some [.sl 1 (p.map byteAV) tk,.int .i64 at_,.int .i64 e]) :
    MCalls Tryz.prog 80 [.ptr l 0,.int .u64 most] ⟨n,ob,nt,live,gl⟩ fun o S' => o = .ok (.int .i64 0) ∧ S' = ⟨n,ob,nt,live,gl⟩ := by
  have hl' : St.get ⟨n,ob,nt,live,gl⟩ l = some [.sl 1 (p.map byteAV) tk,.int .i64 at_,.int .i64 e] := hl
  refine .of_run is80 (by simp) (mw_sound 200 ?_)
  have hne := neI he
  repeat' first
    | with_reducible first | refine mw_as m80.eq_1 ?_ | refine opn m80k0.eq_1 ?_ | refine opn m80k1.eq_1 ?_ | refine ⟨?_,?_⟩ | intro _
    | simp only [go_sem,↓reduceIte,Nat.reduceAdd,Nat.reduceLeDiff,Nat.reduceEqDiff,Nat.reduceBEq,Nat.reduceBNe,Nat.reduceMul,Nat.reduceLT,reduceCtorEq,Int.reduceLT,Int.reduceLE,Int.reduceToNat,Int.reduceNeg,  hl',hne]
theorem c80 (hg : GlNR gl) {n nt l : Nat} {live : List Nat} {ob : List (Nat × List AV)} (most : Nat) (hmo : most ≤ 256) (p : Bytes) (tk : STok) (m : Nat) (hm : m ≤ p.length) (hb : p.length < 4294960000) (hl : List.lookup l ob = some [.sl 1 (p.map byteAV) tk,.int .i64 m,.int .i64 0]) {x : Nat} {r : Bytes} (hx : rdMany most (p.drop m) = .ok (x,r)) :
    MCalls Tryz.prog 80 [.ptr l 0,.int .u64 most] ⟨n,ob,nt,live,gl⟩ fun o S' => o = .ok (.int .i64 x) ∧ S' = ⟨n,(l,[.sl 1 (p.map byteAV) tk,.int .i64 ((p.length - r.length : Nat) : Int),.int .i64 0]) :: ob,nt,live,gl⟩ := by
  refine MCalls.forget (K' := fun o S' => o = .ok (.int .i64 x) ∧ At2 n nt live gl ((l,[.sl 1 (p.map byteAV) tk,.int .i64 ((p.length - r.length : Nat) : Int),.int .i64 0]) :: ob) S') ?_ (fun o S' ⟨h1,ob',h3,h2⟩ => ⟨_,by subst h2; exact ⟨rfl,rfl,rfl,fun l' cs e => h3 l' cs e,fun _ h => h⟩,h1,rfl⟩)
  have hl' : St.get ⟨n,ob,nt,live,gl⟩ l = some [.sl 1 (p.map byteAV) tk,.int .i64 m,.int .i64 0] := hl
  refine .of_run is80 (by simp) (mw_sound 200 ?_)
  have hh := c132 hg p tk m (by omega)
  rw [rdAt_in _ hm] at hh
  obtain ⟨⟨_,hxm⟩,_⟩ := (codec_many most).bwd _ _ _ hx
  have hxm : x ≤ most := by simpa using hxm
  have hU : rdU (p.drop m) = .ok (x,r) := by
    unfold rdMany Rd.only at hx
    split at hx
    · cases hx
    · rename_i h
      split at hx
      · injection hx with hx
        injection hx with h3 h4
        subst h3 h4
        exact h
      · cases hx
  rw [hU] at hh
  simp only [outR] at hh
  have h0 : ((0 : Int) != 0) = false := rfl
  have h00 : ((0 : Int) == 0) = true := rfl
  have hd : decide ((most : Int) < x) = false := decide_eq_false (by omega)
  have hw : IntKind.i64.wrap (x : Int) = x := wrap_i64_in (by omega) (by omega)
  repeat' first
    | with_reducible first | refine mw_as m80.eq_1 ?_ | refine opn m80k0.eq_1 ?_ | refine opn m80k1.eq_1 ?_ | refine .pu (hh) hg rfl ?_ | refine ⟨?_,?_⟩ | intro _
    | simp only [go_sem,↓reduceIte,Nat.reduceAdd,Nat.reduceLeDiff,Nat.reduceEqDiff,Nat.reduceBEq,Nat.reduceBNe,Nat.reduceMul,Nat.reduceLT,reduceCtorEq,Int.reduceLT,Int.reduceLE,Int.reduceToNat,Int.reduceNeg,  hl',hl,h0,h00,hd,hw]
  all_goals exact ⟨_,keep_two,rfl⟩
theorem c80e (hg : GlNR gl) {n nt l : Nat} {live : List Nat} {ob : List (Nat × List AV)} (most : Nat) (hmo : most ≤ 256) (p : Bytes) (tk : STok) (m : Nat) (hm : m ≤ p.length) (hb : p.length < 4294960000) (hl : List.lookup l ob = some [.sl 1 (p.map byteAV) tk,.int .i64 m,.int .i64 0]) {e : Int} (hx : rdMany most (p.drop m) = .error e) :
    MCalls Tryz.prog 80 [.ptr l 0,.int .u64 most] ⟨n,ob,nt,live,gl⟩ fun o S' => o = .ok (.int .i64 0) ∧ S' = ⟨n,(l,[.sl 1 (p.map byteAV) tk,.int .i64 (atM p (p.drop m)),.int .i64 e]) :: ob,nt,live,gl⟩ := by
  have hl' : St.get ⟨n,ob,nt,live,gl⟩ l = some [.sl 1 (p.map byteAV) tk,.int .i64 m,.int .i64 0] := hl
  have hh := c132 hg p tk m (by omega)
  rw [rdAt_in _ hm] at hh
  have h0 : ((0 : Int) != 0) = false := rfl
  have h00 : ((0 : Int) == 0) = true := rfl
  have key : ∀ at_ : Int,(MCalls Tryz.prog 80 [.ptr l 0,.int .u64 most] ⟨n,ob,nt,live,gl⟩ fun o S' => o = .ok (.int .i64 0) ∧ At2 n nt live gl ((l,[.sl 1 (p.map byteAV) tk,.int .i64 at_,.int .i64 e]) :: ob) S') →
      MCalls Tryz.prog 80 [.ptr l 0,.int .u64 most] ⟨n,ob,nt,live,gl⟩ fun o S' => o = .ok (.int .i64 0) ∧ S' = ⟨n,(l,[.sl 1 (p.map byteAV) tk,.int .i64 at_,.int .i64 e]) :: ob,nt,live,gl⟩ := fun at_ h =>
    MCalls.forget h (fun o S' ⟨h1,ob',h3,h2⟩ => ⟨_,by subst h2; exact ⟨rfl,rfl,rfl,fun l' cs e => h3 l' cs e,fun _ h => h⟩,h1,rfl⟩)
  unfold rdMany Rd.only at hx
  unfold atM
  cases hU : rdU (p.drop m) with
  | error e' =>
    rw [hU] at hx hh
    injection hx with hx
    subst hx
    simp only [outR] at hh
    have he := eqI (show e' ≠ 0 by rcases rdN_err _ _ _ _ _ hU with rfl | rfl <;> decide)
    have hw : IntKind.i64.wrap 0 = 0 := rfl
    refine key _ (.of_run is80 (by simp) (mw_sound 200 ?_))
    repeat' first
      | with_reducible first | refine mw_as m80.eq_1 ?_ | refine opn m80k0.eq_1 ?_ | refine opn m80k1.eq_1 ?_ | refine .pu (hh) hg rfl ?_ | refine ⟨?_,?_⟩ | intro _
      | simp only [go_sem,↓reduceIte,Nat.reduceAdd,Nat.reduceLeDiff,Nat.reduceEqDiff,Nat.reduceBEq,Nat.reduceBNe,Nat.reduceMul,Nat.reduceLT,reduceCtorEq,Int.reduceLT,Int.reduceLE,Int.reduceToNat,Int.reduceNeg,  hl',hl,h0,he,hw]
    all_goals exact ⟨_,keep_two,rfl⟩
  | ok x =>
    obtain ⟨x,r⟩ := x
    rw [hU] at hx hh
    simp only [outR] at hh
    simp only at hx
    split at hx
    · cases hx
    · rename_i hxm
      injection hx with hx
      subst hx
      have hxm : most < x := by simpa using hxm
      have hd : decide ((most : Int) < x) = true := decide_eq_true (by omega)
      refine key _ (.of_run is80 (by simp) (mw_sound 200 ?_))
      repeat' first
        | with_reducible first | refine mw_as m80.eq_1 ?_ | refine opn m80k0.eq_1 ?_ | refine opn m80k1.eq_1 ?_ | refine .pu (hh) hg rfl ?_ | refine ⟨?_,?_⟩ | intro _
        | simp only [go_sem,↓reduceIte,Nat.reduceAdd,Nat.reduceLeDiff,Nat.reduceEqDiff,Nat.reduceBEq,Nat.reduceBNe,Nat.reduceMul,Nat.reduceLT,reduceCtorEq,Int.reduceLT,Int.reduceLE,Int.reduceToNat,Int.reduceNeg,  hl',hl,h0,h00,hd]
      all_goals exact ⟨_,keep_three,rfl⟩
abbrev Cur := Except (Int × Int) Bytes
def curO (p : Bytes) (tk : STok) : Cur → List AV
  | .ok q => [.sl 1 (p.map byteAV) tk,.int .i64 ((p.length - q.length : Nat) : Int),.int .i64 0]
  | .error (a,e) => [.sl 1 (p.map byteAV) tk,.int .i64 a,.int .i64 e]
def CurOK (p : Bytes) : Cur → Prop
  | .ok q => ∃ m,m ≤ p.length ∧ q = p.drop m
  | .error (_,e) => e ≠ 0
def stk {α : Type} (rd : Rd α) (z : α) : Cur → α × Cur
  | .ok q => match rd q with
    | .ok (x,r) => (x,.ok r)
    | .error e => (z,.error (0,e))
  | .error x => (z,.error x)
def stkM (most : Nat) (p : Bytes) : Cur → Nat × Cur
  | .ok q => match rdMany most q with
    | .ok (x,r) => (x,.ok r)
    | .error e => (0,.error (atM p q,e))
  | .error x => (0,.error x)
def endE : Cur → Int
  | .ok [] => 0
  | .ok (_ :: _) => 3
  | .error (_,e) => e
theorem suff_drop {p x r : Bytes} {m : Nat} (hm : m ≤ p.length) (h : p.drop m = x ++ r) : ∃ m,m ≤ p.length ∧ r = p.drop m := by
  have h2 := congrArg List.length h
  simp at h2
  refine ⟨m + x.length,by omega,?_⟩
  rw [← List.drop_drop,h,List.drop_left]
theorem CurOK.next {α : Type} {rd : Rd α} {en : α → Bytes} {ok : α → Prop} (hc : Codec rd en ok) (hn : ∀ s e,rd s = .error e → e ≠ 0) (z : α) {p : Bytes} {R : Cur} (h : CurOK p R) : CurOK p (stk rd z R).2 := by
  cases R with
  | error x => exact h
  | ok q =>
    obtain ⟨m,hm,rfl⟩ := h
    unfold stk
    simp only
    cases hx : rd (p.drop m) with
    | error e => exact hn _ _ hx
    | ok x => exact suff_drop hm (hc.bwd _ _ _ hx).2
theorem rdMany_ne {most : Nat} {s : Bytes} {e : Int} (h : rdMany most s = .error e) : e ≠ 0 := by
  unfold rdMany Rd.only at h
  cases hU : rdU s with
  | error e' =>
    rw [hU] at h
    injection h with h
    subst h
    rcases rdN_err _ _ _ _ _ hU with rfl | rfl <;> decide
  | ok x =>
    rw [hU] at h
    simp only at h
    split at h
    · cases h
    · injection h with h; subst h; decide
theorem CurOK.nextM (most : Nat) {p : Bytes} {R : Cur} (h : CurOK p R) : CurOK p (stkM most p R).2 := by
  cases R with
  | error x => exact h
  | ok q =>
    obtain ⟨m,hm,rfl⟩ := h
    unfold stkM
    simp only
    cases hx : rdMany most (p.drop m) with
    | error e => exact rdMany_ne hx
    | ok x => exact suff_drop hm ((codec_many most).bwd _ _ _ hx).2
theorem nz_T : ∀ s e,rdT s = .error e → e ≠ 0 := fun s e h => by rcases rdT_err h with rfl | rfl <;> decide
theorem nz_I : ∀ s e,rdI s = .error e → e ≠ 0 := fun s e h => by rcases rdI_err h with rfl | rfl <;> decide
theorem keep_cur {l : Nat} {a : List AV} {ob : List (Nat × List AV)} (hl : List.lookup l ob = some a) : ∀ l' cs,List.lookup l' ((l,a) :: ob) = some cs → List.lookup l' ob = some cs := by
  intro l' cs h
  rw [lookG] at h
  split at h
  · rename_i e; subst e; rw [hl]; exact h
  · exact h
theorem same_cur {r : AV} {n nt l : Nat} {live : List Nat} {ob : List (Nat × List AV)} {a : List AV} {f : Nat} {xs : List AV} (hl : List.lookup l ob = some a) (h : MCalls Tryz.prog f xs ⟨n,ob,nt,live,gl⟩ fun o S' => o = .ok r ∧ S' = ⟨n,ob,nt,live,gl⟩) :
    MCalls Tryz.prog f xs ⟨n,ob,nt,live,gl⟩ fun o S' => o = .ok r ∧ S' = ⟨n,(l,a) :: ob,nt,live,gl⟩ :=
  MCalls.forget h fun o S' ⟨h1,h2⟩ => ⟨_,by subst h2; exact ⟨rfl,rfl,rfl,fun l' cs e => keep_cur hl l' cs e,fun _ h => h⟩,h1,rfl⟩
theorem drop_len {p : Bytes} {m : Nat} (hm : m ≤ p.length) : ((p.length - (p.drop m).length : Nat) : Int) = m := by
  rw [List.length_drop]
  omega
theorem c79u (hg : GlNR gl) {n nt l : Nat} {live : List Nat} {ob : List (Nat × List AV)} (p : Bytes) (tk : STok) (hb : p.length < 4294960000) {R : Cur} (hR : CurOK p R) (hl : List.lookup l ob = some (curO p tk R)) :
    MCalls Tryz.prog 79 [.ptr l 0] ⟨n,ob,nt,live,gl⟩ fun o S' => o = .ok (.str (stk rdT [] R).1) ∧ S' = ⟨n,(l,curO p tk (stk rdT [] R).2) :: ob,nt,live,gl⟩ := by
  cases R with
  | error x => exact same_cur hl (c79s hg p tk _ _ hR hl)
  | ok q =>
    obtain ⟨m,hm,rfl⟩ := hR
    simp only [curO,drop_len hm] at hl
    unfold stk
    simp only
    cases hx : rdT (p.drop m) with
    | error e => exact c79e hg p tk m hm hb hl hx
    | ok x => exact c79 hg p tk m hm hb hl hx
theorem c82u (hg : GlNR gl) {n nt l : Nat} {live : List Nat} {ob : List (Nat × List AV)} (p : Bytes) (tk : STok) (hb : p.length < 4294960000) {R : Cur} (hR : CurOK p R) (hl : List.lookup l ob = some (curO p tk R)) :
    MCalls Tryz.prog 82 [.ptr l 0] ⟨n,ob,nt,live,gl⟩ fun o S' => o = .ok (.int .i64 (stk rdI 0 R).1) ∧ S' = ⟨n,(l,curO p tk (stk rdI 0 R).2) :: ob,nt,live,gl⟩ := by
  cases R with
  | error x => exact same_cur hl (c82s hg p tk _ _ hR hl)
  | ok q =>
    obtain ⟨m,hm,rfl⟩ := hR
    simp only [curO,drop_len hm] at hl
    unfold stk
    simp only
    cases hx : rdI (p.drop m) with
    | error e => exact c82e hg p tk m hm hb hl hx
    | ok x => exact c82 hg p tk m hm hb hl hx
theorem c80u (hg : GlNR gl) {n nt l : Nat} {live : List Nat} {ob : List (Nat × List AV)} (most : Nat) (hmo : most ≤ 256) (p : Bytes) (tk : STok) (hb : p.length < 4294960000) {R : Cur} (hR : CurOK p R) (hl : List.lookup l ob = some (curO p tk R)) :
    MCalls Tryz.prog 80 [.ptr l 0,.int .u64 most] ⟨n,ob,nt,live,gl⟩ fun o S' => o = .ok (.int .i64 (stkM most p R).1) ∧ S' = ⟨n,(l,curO p tk (stkM most p R).2) :: ob,nt,live,gl⟩ := by
  cases R with
  | error x => exact same_cur hl (c80s hg most p tk _ _ hR hl)
  | ok q =>
    obtain ⟨m,hm,rfl⟩ := hR
    simp only [curO,drop_len hm] at hl
    unfold stkM
    simp only
    cases hx : rdMany most (p.drop m) with
    | error e => exact c80e hg most hmo p tk m hm hb hl hx
    | ok x => exact c80 hg most hmo p tk m hm hb hl hx
theorem c81u {n nt l : Nat} {live : List Nat} {ob : List (Nat × List AV)} (p : Bytes) (tk : STok) {R : Cur} (hR : CurOK p R) (hl : List.lookup l ob = some (curO p tk R)) :
    MCalls Tryz.prog 81 [.ptr l 0] ⟨n,ob,nt,live,gl⟩ fun o S' => o = .ok (.int .i64 (endE R)) ∧ S' = ⟨n,ob,nt,live,gl⟩ := by
  cases R with
  | error x =>
    have h := c81 (gl := gl) (n := n) (nt := nt) (live := live) p tk _ _ hl
    rw [if_neg (fun h => hR h.1)] at h
    exact h
  | ok q =>
    obtain ⟨m,hm,rfl⟩ := hR
    simp only [curO,drop_len hm] at hl
    have h := c81 (gl := gl) (n := n) (nt := nt) (live := live) p tk _ _ hl
    cases hd : p.drop m with
    | nil =>
      have := congrArg List.length hd
      simp at this
      rw [if_neg (fun h => h.2 (by omega))] at h
      exact h
    | cons y ys =>
      have := congrArg List.length hd
      simp at this
      rw [if_pos ⟨rfl,by omega⟩] at h
      exact h
end Go.Proofs.YtdjdhecanjmchaaGreatDoor
namespace Go.Proofs.YtdjdhecanjmchaaGreatDoor
open Go Go.V Go.Lib
set_option maxRecDepth 40000
attribute [local go_sem ↓] keepK Opd.ev MK.ev MK.ob gsA
attribute [local go_sem high] gsB
attribute [local go_sem] binEv binOb intOp strOp unEv eqvEv eqCells eqCell noBld tasEv AV.there AV.plus pickCells storeEv AV.solid AV.cells splice putParts rowOK fldEv iarrEv extEv minEv nonNil lenEv isStr appEv appOb appArg slVecEv slVecOb slStrEv slStrOb bnd argF endQ rvsEv rvEv resOf St.none if_true if_false ite_self eq_self ne_eq implies_true forall_const Lab.av Val.av Exa.av Dset.av Req.av gsC
variable {gl : List (Nat × List AV)}
abbrev zv : Val := ⟨0,0,[]⟩
theorem c83s (hg : GlNR gl) {n nt l : Nat} {live : List Nat} {ob : List (Nat × List AV)} (hk : ∀ l' cs,List.lookup l' ob = some cs → l' < n) (p : Bytes) (tk : STok) (at_ e : Int) (he : e ≠ 0) (hl : List.lookup l ob = some [.sl 1 (p.map byteAV) tk,.int .i64 at_,.int .i64 e]) :
    MCalls Tryz.prog 83 [.ptr l 0] ⟨n,ob,nt,live,gl⟩ fun o S' => o = .ok zv.av ∧ S' = ⟨n + 1,(l,[.sl 1 (p.map byteAV) tk,.int .i64 at_,.int .i64 e]) :: ob,nt,live,gl⟩ := by
  have hln := hk _ _ hl
  refine MCalls.forget (K' := fun o S' => o = .ok zv.av ∧ At2 (n + 1) nt live gl ((l,[.sl 1 (p.map byteAV) tk,.int .i64 at_,.int .i64 e]) :: ob) S') ?_ (fun o S' ⟨h1,ob',h3,h2⟩ => ⟨_,by subst h2; exact ⟨rfl,rfl,rfl,fun l' cs e => h3 l' cs e,fun _ h => h⟩,h1,rfl⟩)
  have g1 : (l = n) = False := eq_false (by omega)
  have g3 : (n = l) = False := eq_false (by omega)
  have hl' : ∀ m,St.get ⟨m,ob,nt,live,gl⟩ l = some [.sl 1 (p.map byteAV) tk,.int .i64 at_,.int .i64 e] := fun _ => hl
  refine .of_run is83 (by simp) (mw_sound 200 ?_)
  have hne := neI he
  repeat' first
    | with_reducible first | refine mw_as m83.eq_1 ?_ | refine ⟨?_,?_⟩ | intro _
    | simp only [go_sem,↓reduceIte,Nat.reduceAdd,Nat.reduceLeDiff,Nat.reduceEqDiff,Nat.reduceBEq,Nat.reduceBNe,Nat.reduceMul,Nat.reduceLT,reduceCtorEq,Int.reduceLT,Int.reduceLE,Int.reduceToNat,Int.reduceNeg,  hl',hl,hne,g1,g3]
  refine ⟨_,fun l' cs e => ?_,rfl⟩
  have e := keep_cur hl _ _ e
  have := hk _ _ e
  simp only [lookG]
  rw [if_neg (by omega),if_neg (by omega)]
  exact e
set_option maxHeartbeats 4000000 in
theorem c83 (hg : GlNR gl) {n nt l : Nat} {live : List Nat} {ob : List (Nat × List AV)} (hk : ∀ l' cs,List.lookup l' ob = some cs → l' < n) (p : Bytes) (tk : STok) (m : Nat) (hm : m ≤ p.length) (hb : p.length < 4294960000) (hl : List.lookup l ob = some [.sl 1 (p.map byteAV) tk,.int .i64 m,.int .i64 0]) {v : Val} {at_ e : Int}
    (hx : outR Val.av zv.av p (rdAt rdV p m) = .tup [v.av,.int .i64 at_,.int .i64 e]) :
    MCalls Tryz.prog 83 [.ptr l 0] ⟨n,ob,nt,live,gl⟩ fun o S' => o = .ok v.av ∧ S' = ⟨n + 1 + 1,(l,[.sl 1 (p.map byteAV) tk,.int .i64 at_,.int .i64 e]) :: ob,nt,live,gl⟩ := by
  have hln := hk _ _ hl
  refine MCalls.forget (K' := fun o S' => o = .ok v.av ∧ At2 (n + 1 + 1) nt live gl ((l,[.sl 1 (p.map byteAV) tk,.int .i64 at_,.int .i64 e]) :: ob) S') ?_ (fun o S' ⟨h1,ob',h3,h2⟩ => ⟨_,by subst h2; exact ⟨rfl,rfl,rfl,fun l' cs e => h3 l' cs e,fun _ h => h⟩,h1,rfl⟩)
  have g1 : (l = n) = False := eq_false (by omega)
  have g2 : (l = n + 1) = False := eq_false (by omega)
  have g3 : (n = l) = False := eq_false (by omega)
  have g4 : (n + 1 = l) = False := eq_false (by omega)
  have hl' : ∀ m',St.get ⟨m',ob,nt,live,gl⟩ l = some [.sl 1 (p.map byteAV) tk,.int .i64 m,.int .i64 0] := fun _ => hl
  refine .of_run is83 (by simp) (mw_sound 200 ?_)
  have hh := c137 hg p tk m (by omega)
  rw [hx] at hh
  have h0 : ((0 : Int) != 0) = false := rfl
  repeat' first
    | with_reducible first | refine mw_as m83.eq_1 ?_ | refine CallK.pure (hh) hg rfl ?_ | refine PCallK.pure (hh) hg rfl (fun _ => by simp only [InvS_nil,InvS_cons,get_if,InvS_refl,and_self,ite_true,ite_false,if_true,if_false,  hl',hl,h0,g1,g2,g3,g4]) ?_ | refine ⟨?_,?_⟩ | intro _
    | simp only [go_sem,↓reduceIte,Nat.reduceAdd,Nat.reduceLeDiff,Nat.reduceEqDiff,Nat.reduceBEq,Nat.reduceBNe,Nat.reduceMul,Nat.reduceLT,reduceCtorEq,Int.reduceLT,Int.reduceLE,Int.reduceToNat,Int.reduceNeg,  hl',hl,h0,g1,g2,g3,g4]
  all_goals refine ⟨_,fun l' cs e => ?_,rfl⟩
  all_goals simp only [lookG] at e ⊢
  all_goals
    by_cases e1 : l' = l
    · rw [if_pos e1] at e
      subst e1
      simp only [g1,g2,if_false,if_true]
      exact e
    · rw [if_neg e1] at e
      have := hk _ _ e
      simp only [e1,if_false,show (l' = n) = False from eq_false (by omega),show (l' = n + 1) = False from eq_false (by omega)]
      exact e
def bumpV (R : Cur) (n : Nat) : Nat := match R with
  | .ok _ => n + 1 + 1
  | .error _ => n + 1
theorem c83u (hg : GlNR gl) {n nt l : Nat} {live : List Nat} {ob : List (Nat × List AV)} (hk : ∀ l' cs,List.lookup l' ob = some cs → l' < n) (p : Bytes) (tk : STok) (hb : p.length < 4294960000) {R : Cur} (hR : CurOK p R) (hl : List.lookup l ob = some (curO p tk R)) :
    MCalls Tryz.prog 83 [.ptr l 0] ⟨n,ob,nt,live,gl⟩ fun o S' => o = .ok (stk rdV zv R).1.av ∧ S' = ⟨bumpV R n,(l,curO p tk (stk rdV zv R).2) :: ob,nt,live,gl⟩ := by
  cases R with
  | error x => exact c83s hg hk p tk _ _ hR hl
  | ok q =>
    obtain ⟨m,hm,rfl⟩ := hR
    simp only [curO,drop_len hm] at hl
    have h := fun v a e => c83 (gl := gl) hg (nt := nt) (live := live) hk p tk m hm hb hl (v := v) (at_ := a) (e := e)
    rw [rdAt_in _ hm] at h
    unfold stk
    simp only
    cases hx : rdV (p.drop m) with
    | error e => rw [hx] at h; exact h zv _ _ rfl
    | ok x => rw [hx] at h; exact h _ _ _ rfl
end Go.Proofs.YtdjdhecanjmchaaGreatDoor
namespace Go.Proofs.YtdjdhecanjmchaaGreatDoor
open Go Go.V Go.Lib
set_option maxRecDepth 40000
attribute [local go_sem ↓] keepK Opd.ev MK.ev MK.ob gsA
attribute [local go_sem high] gsB
attribute [local go_sem] binEv binOb intOp strOp unEv eqvEv eqCells eqCell noBld tasEv AV.there AV.plus pickCells storeEv AV.solid AV.cells splice putParts rowOK fldEv iarrEv extEv minEv nonNil lenEv isStr appEv appOb appArg slVecEv slVecOb slStrEv slStrOb bnd argF endQ rvsEv rvEv resOf St.none if_true if_false ite_self eq_self ne_eq implies_true forall_const Lab.av Val.av Exa.av Dset.av Req.av gsC
variable {gl : List (Nat × List AV)}
def stkFin {α : Type} (rd : Rd α) (z : α) : Nat → List α → Cur → List α × Cur
  | 0,acc,R => (acc,R)
  | n + 1,acc,R => stkFin rd z n (acc ++ [(stk rd z R).1]) (stk rd z R).2
theorem stkFin_bad {α : Type} (rd : Rd α) (z : α) (x : Int × Int) : ∀ n acc,(stkFin rd z n acc (.error x)).2 = .error x
  | 0,_ => rfl
  | n + 1,acc => stkFin_bad rd z x n _
theorem stkFin_rep {α : Type} (rd : Rd α) (z : α) : ∀ n acc q,(∀ e,rd.rep n q = .error e → (stkFin rd z n acc (.ok q)).2 = .error (0,e)) ∧ ∀ l r,rd.rep n q = .ok (l,r) → stkFin rd z n acc (.ok q) = (acc ++ l,.ok r)
  | 0,acc,q => ⟨fun e h => (by cases h),fun l r h => (by injection h with h; injection h with h1 h2; subst h1 h2; simp [stkFin])⟩
  | n + 1,acc,q => by
    rw [rep_succ,stkFin,stk]
    cases hx : rd q with
    | error e0 =>
      refine ⟨fun e h => ?_,fun l r h => by cases h⟩
      injection h with h
      subst h
      exact stkFin_bad _ _ _ _ _
    | ok x =>
      obtain ⟨a,r⟩ := x
      simp only
      obtain ⟨h1,h2⟩ := stkFin_rep rd z n (acc ++ [a]) r
      cases hr : rd.rep n r with
      | error e0 =>
        refine ⟨fun e h => ?_,fun l r h => by cases h⟩
        injection h with h
        subst h
        exact h1 _ hr
      | ok y =>
        obtain ⟨l0,r0⟩ := y
        refine ⟨fun e h => (by cases h),fun l r h => ?_⟩
        injection h with h
        injection h with h3 h4
        subst h3 h4
        rw [h2 _ _ hr,List.append_assoc]
        rfl
theorem stk_err {α : Type} {rd : Rd α} {z : α} {q : Bytes} {e : Int} (h : rd q = .error e) : stk rd z (.ok q) = (z,.error (0,e)) := by unfold stk; simp only [h]
theorem stk_ok {α : Type} {rd : Rd α} {z x : α} {q r : Bytes} (h : rd q = .ok (x,r)) : stk rd z (.ok q) = (x,.ok r) := by unfold stk; simp only [h]
theorem stk_bad {α : Type} {rd : Rd α} {z : α} {x : Int × Int} : stk rd z (.error x) = (z,.error x) := rfl
theorem stkM_le (most : Nat) (p : Bytes) (R : Cur) : (stkM most p R).1 ≤ most := by
  cases R with
  | error x => exact Nat.zero_le _
  | ok q =>
    unfold stkM
    simp only
    cases hx : rdMany most q with
    | error e => exact Nat.zero_le _
    | ok x =>
      have := ((codec_many most).bwd _ _ _ hx).1.2
      simpa using this
def curLen : Cur → Nat
  | .ok q => q.length
  | .error _ => 0
theorem stkT_len (R : Cur) : (stk rdT [] R).1.length ≤ curLen R := by
  cases R with
  | error x => exact Nat.zero_le _
  | ok q =>
    cases hx : rdT q with
    | error e => rw [stk_err hx]; exact Nat.zero_le _
    | ok x => obtain ⟨x,r⟩ := x; rw [stk_ok hx]; exact rdT_len hx
theorem CurOK.len {p : Bytes} {R : Cur} (h : CurOK p R) : curLen R ≤ p.length := by
  cases R with
  | error x => exact Nat.zero_le _
  | ok q => obtain ⟨m,_,rfl⟩ := h; simp [curLen]
def decH (p r0 : Bytes) : Except Int Dset := match rdT p with
  | .error e => .error e
  | .ok (ent,p1) => match rdMany 8 p1 with
    | .error e => .error e
    | .ok (c,p2) => match rdT.rep c p2 with
      | .error e => .error e
      | .ok (fs,p3) => match rdMany 256 p3 with
        | .error e => .error e
        | .ok (m,p4) => match p4 with
          | [] => decL ent fs [] c m r0
          | _ :: _ => .error 3
theorem rep_ne {α : Type} {rd : Rd α} (hn : ∀ s e,rd s = .error e → e ≠ 0) : ∀ n s e,rd.rep n s = .error e → e ≠ 0
  | 0,s,e,h => by cases h
  | n + 1,s,e,h => by
    rw [rep_succ] at h
    cases hx : rd s with
    | error e0 => rw [hx] at h; injection h with h; subst h; exact hn _ _ hx
    | ok x =>
      obtain ⟨a,r⟩ := x
      rw [hx] at h
      simp only at h
      cases hr : rd.rep n r with
      | error e0 => rw [hr] at h; injection h with h; subst h; exact rep_ne hn _ _ _ hr
      | ok y => rw [hr] at h; cases h
theorem headS {p r0 ent : Bytes} {R1 R2 R3 R4 : Cur} {c m : Nat} {fs : List Bytes} (h1 : stk rdT [] (.ok p) = (ent,R1)) (h2 : stkM 8 p R1 = (c,R2)) (h3 : stkFin rdT [] c [] R2 = (fs,R3)) (h4 : stkM 256 p R3 = (m,R4)) :
    (endE R4 ≠ 0 → decH p r0 = .error (endE R4)) ∧ (endE R4 = 0 → decH p r0 = decL ent fs [] c m r0) := by
  have bad : ∀ {a e : Int},e ≠ 0 → R4 = .error (a,e) → decH p r0 = .error e → (endE R4 ≠ 0 → decH p r0 = .error (endE R4)) ∧ (endE R4 = 0 → decH p r0 = decL ent fs [] c m r0) := fun {a e} h h5 h6 => by
    subst h5
    exact ⟨fun _ => h6,fun h7 => absurd h7 h⟩
  have b2 : ∀ {x},R2 = .error x → R4 = .error x := fun {x} h => by
    subst h
    have := stkFin_bad rdT [] x c []
    rw [h3] at this
    simp only at this
    subst this
    injection h4 with _ h4
    exact h4.symm
  have b1 : ∀ {x},R1 = .error x → R4 = .error x := fun {x} h => by
    subst h
    injection h2 with _ h2
    exact b2 h2.symm
  cases hT : rdT p with
  | error e =>
    rw [stk_err hT] at h1
    injection h1 with _ h1
    exact bad (nz_T _ _ hT) (b1 h1.symm) (by unfold decH; rw [hT])
  | ok x =>
  obtain ⟨x,p1⟩ := x
  rw [stk_ok hT] at h1
  injection h1 with h1 h1'
  subst h1 h1'
  unfold stkM at h2
  simp only at h2
  cases hM : rdMany 8 p1 with
  | error e =>
    rw [hM] at h2
    injection h2 with _ h2
    exact bad (rdMany_ne hM) (b2 h2.symm) (by unfold decH; simp only [hT,hM])
  | ok y =>
  obtain ⟨y,p2⟩ := y
  rw [hM] at h2
  injection h2 with h2 h2'
  subst h2 h2'
  obtain ⟨f1,f2⟩ := stkFin_rep rdT [] y [] p2
  cases hR : rdT.rep y p2 with
  | error e =>
    have := f1 _ hR
    rw [h3] at this
    simp only at this
    subst this
    injection h4 with _ h4
    exact bad (rep_ne nz_T _ _ _ hR) h4.symm (by unfold decH; simp only [hT,hM,hR])
  | ok z =>
  obtain ⟨l,p3⟩ := z
  rw [f2 _ _ hR] at h3
  injection h3 with h3 h3'
  subst h3 h3'
  unfold stkM at h4
  simp only at h4
  cases hM2 : rdMany 256 p3 with
  | error e =>
    rw [hM2] at h4
    injection h4 with _ h4
    exact bad (rdMany_ne hM2) h4.symm (by unfold decH; simp only [hT,hM,hR,hM2])
  | ok w =>
  obtain ⟨w,p4⟩ := w
  rw [hM2] at h4
  injection h4 with h4 h4'
  subst h4 h4'
  unfold decH
  simp only [hT,hM,hR,hM2]
  cases p4 with
  | nil => exact ⟨fun h => absurd rfl h,fun _ => rfl⟩
  | cons => exact ⟨fun _ => rfl,fun h => by cases h⟩
theorem lineS {q p r k : Bytes} {R1 R2 R3 R4 : Cur} {c : Nat} {e n : Int} {vs : List Val} (hF : rdF q = .ok (p,r)) (h1 : stk rdT [] (.ok p) = (k,R1)) (h2 : stk rdI 0 R1 = (e,R2)) (h3 : stk rdI 0 R2 = (n,R3)) (h4 : stkFin rdV zv c [] R3 = (vs,R4)) :
    (endE R4 ≠ 0 → rdIn (rdLine c) q = .error (endE R4)) ∧ (endE R4 = 0 → rdIn (rdLine c) q = .ok (⟨⟨k,e,n⟩,vs⟩,r)) := by
  rw [rdLine_eq,hF]
  simp only
  have b3 : ∀ {x},R3 = .error x → R4 = .error x := fun {x} h => by
    subst h
    have := stkFin_bad rdV zv x c []
    rw [h4] at this
    exact this
  have b2 : ∀ {x},R2 = .error x → R4 = .error x := fun {x} h => by
    subst h
    injection h3 with _ h3
    exact b3 h3.symm
  have b1 : ∀ {x},R1 = .error x → R4 = .error x := fun {x} h => by
    subst h
    injection h2 with _ h2
    exact b2 h2.symm
  cases hT : rdT p with
  | error e' =>
    rw [stk_err hT] at h1
    injection h1 with _ h1
    obtain rfl := b1 h1.symm
    exact ⟨fun _ => rfl,fun h => absurd h (nz_T _ _ hT)⟩
  | ok x =>
  obtain ⟨x,p1⟩ := x
  rw [stk_ok hT] at h1
  injection h1 with h1 h1'
  subst h1 h1'
  simp only
  cases hI : rdI p1 with
  | error e' =>
    rw [stk_err hI] at h2
    injection h2 with _ h2
    obtain rfl := b2 h2.symm
    exact ⟨fun _ => rfl,fun h => absurd h (nz_I _ _ hI)⟩
  | ok x =>
  obtain ⟨y,p2⟩ := x
  rw [stk_ok hI] at h2
  injection h2 with h2 h2'
  subst h2 h2'
  simp only
  cases hJ : rdI p2 with
  | error e' =>
    rw [stk_err hJ] at h3
    injection h3 with _ h3
    obtain rfl := b3 h3.symm
    exact ⟨fun _ => rfl,fun h => absurd h (nz_I _ _ hJ)⟩
  | ok x =>
  obtain ⟨z,p3⟩ := x
  rw [stk_ok hJ] at h3
  injection h3 with h3 h3'
  subst h3 h3'
  simp only
  obtain ⟨f1,f2⟩ := stkFin_rep rdV zv c [] p3
  cases hR : rdV.rep c p3 with
  | error e' =>
    have := f1 _ hR
    rw [h4] at this
    simp only at this
    subst this
    exact ⟨fun _ => rfl,fun h => absurd h (rep_ne (fun _ _ h => rdV_err h) _ _ _ hR)⟩
  | ok w =>
  obtain ⟨l,p4⟩ := w
  rw [f2 _ _ hR] at h4
  injection h4 with h4 h4'
  subst h4 h4'
  simp only
  cases p4 with
  | nil => exact ⟨fun h => absurd rfl h,fun _ => rfl⟩
  | cons => exact ⟨fun _ => rfl,fun h => by cases h⟩
theorem keep_li {nn : Nat} (hn : 3 ≤ nn) {y0 y1 y2 y3 x x0 d o : List AV} : ∀ l cs,List.lookup l [(nn + 1,x),(nn,y0),(2,d),(0,o)] = some cs →
    List.lookup l [(nn + 1,x),(nn + 1,x0),(nn,y0),(nn,y1),(nn,y2),(nn,y3),(2,d),(0,o)] = some cs := by
  intro l cs h
  simp only [lookG] at h ⊢
  grind
theorem keys_li {nn mm : Nat} (hm : nn + 1 + 1 ≤ mm) (hn : 3 ≤ nn) {x y d o : List AV} : ∀ l cs,List.lookup l [(nn + 1,x),(nn,y),(2,d),(0,o)] = some cs → l < mm := by
  intro l cs h
  simp only [lookG] at h
  grind
theorem keep_lv {nn : Nat} {x x' y y' d o : List AV} : ∀ l cs,List.lookup l [(nn + 1,x'),(nn,y'),(2,d),(0,o)] = some cs → List.lookup l [(nn + 1,x'),(nn,y'),(nn + 1,x),(nn,y),(2,d),(0,o)] = some cs := by
  intro l cs h
  simp only [lookG] at h ⊢
  grind
theorem keep_ld {nn : Nat} (hn : 3 ≤ nn) {x y d d' o : List AV} : ∀ l cs,List.lookup l [(2,d'),(0,o)] = some cs → List.lookup l [(2,d'),(nn + 1,x),(nn,y),(2,d),(0,o)] = some cs := by
  intro l cs h
  simp only [lookG] at h ⊢
  grind
theorem keep_col {x y z x' y' : List AV} : ∀ l cs,List.lookup l [(2,x),(1,y),(0,z)] = some cs → List.lookup l [(2,x),(1,y),(2,x'),(1,y'),(0,z)] = some cs := by
  intro l cs h
  simp only [lookG] at h ⊢
  grind
theorem imp_li {nn : Nat} {x x' y d o : List AV} (hx' : isBld x' = false) (hx : isBld x = false) (hy : isBld y = false) (hd : isBld d = false) (ho : isBld o = false)
    (hle : ∀ (m : Nat) (c : AV),x'[m]? = some c → ∃ c0,x[m]? = some c0 ∧ c0.Le c) : ∀ l cs',List.lookup l [(nn + 1,x'),(nn,y),(2,d),(0,o)] = some cs' →
    isBld cs' = false ∧ ∃ cs,List.lookup l [(nn + 1,x),(nn,y),(2,d),(0,o)] = some cs ∧ isBld cs = false ∧ ∀ (m : Nat) (c : AV),cs'[m]? = some c → ∃ c0,cs[m]? = some c0 ∧ c0.Le c := by
  intro l cs' h
  simp only [lookG,List.lookup_nil] at h ⊢
  split at h
  · rename_i e
    injection h with h
    subst h
    exact ⟨hx',x,by rw [if_pos e],hx,hle⟩
  · rename_i e1
    rw [if_neg e1]
    have : isBld cs' = false := by
      split at h
      · injection h with h; subst h; exact hy
      · split at h
        · injection h with h; subst h; exact hd
        · split at h
          · injection h with h; subst h; exact ho
          · cases h
    exact ⟨this,cs',h,this,fun m c h => ⟨c,h,AV.Le.refl c⟩⟩
theorem bumpV_le (R : Cur) (n : Nat) : n ≤ bumpV R n := by cases R <;> simp only [bumpV] <;> omega
theorem curO_nb (p : Bytes) (tk : STok) (R : Cur) : isBld (curO p tk R) = false := by cases R <;> rfl
section lines
set_option maxHeartbeats 4000000
variable (hg : GlNR gl) {W : Except Int Dset} {ent b : Bytes} {fs : List Bytes} {c m : Nat}
include hg
theorem lineR (hb : b.length ≤ 100000000) (hc8 : c ≤ 8) (hm : m ≤ 256) {j : Nat} (hj : j < m) {acc : List Exa} {a : Nat} (ha : a ≤ b.length) {tf tk : STok} {nn nt : Nat} {live : List Nat} (hn : 3 ≤ nn) (hal : acc.length ≤ j)
    (htk : AbT live tk) (htn : ∀ a,tk = .tok a → a < nt)
    (hE : ∀ e,rdIn (rdLine c) (b.drop a) = .error e → W = .error e)
    (hO : ∀ x a' mm nt live,rdIn (rdLine c) (b.drop a) = .ok (x,b.drop a') → a' ≤ b.length → 3 ≤ mm →
      MRun Tryz.prog 115 [MI.inLoop m29l2,MI.inBlock 2,MI.code (MC.named [0,2,5,8] m29k4)] []
        [(0,AV.sl 1 (b.map byteAV) .unk),(2,AV.ptr 0 0),(5,AV.int IntKind.i64 ↑a'),(8,AV.ptr 2 0),(9,AV.int IntKind.i64 ↑c),(11,AV.int IntKind.i64 ↑m),(12,AV.int IntKind.i64 ↑(j + 1))]
        ⟨mm,[(2,dObj ent fs tf (acc ++ [x]) (.tok nt)),(0,zeroD)],nt + 1,nt :: live,gl⟩
        (endQ [RV.c 2 3 true,RV.t 3] fun o' _ => FgOut o' (decAV W))) :
    MRun Tryz.prog 115 [MI.code m29l2,MI.inLoop m29l2,MI.inBlock 2,MI.code (MC.named [0,2,5,8] m29k4)] []
      [(0,AV.sl 1 (b.map byteAV) .unk),(2,AV.ptr 0 0),(5,AV.int IntKind.i64 ↑a),(8,AV.ptr 2 0),(9,AV.int IntKind.i64 ↑c),(11,AV.int IntKind.i64 ↑m),(12,AV.int IntKind.i64 ↑j)]
      ⟨nn,[(2,dObj ent fs tf acc tk),(0,zeroD)],nt,live,gl⟩
      (endQ [RV.c 2 3 true,RV.t 3] fun o' _ => FgOut o' (decAV W)) := by
  have a1 : (nn = 0) = False := eq_false (by omega)
  have a2 : (nn = 2) = False := eq_false (by omega)
  have a3 : (0 = nn) = False := eq_false (by omega)
  have a4 : (2 = nn) = False := eq_false (by omega)
  have a5 : (nn + 1 = 0) = False := eq_false (by omega)
  have a6 : (nn + 1 = 2) = False := eq_false (by omega)
  have a7 : (0 = nn + 1) = False := eq_false (by omega)
  have a8 : (2 = nn + 1) = False := eq_false (by omega)
  refine opn m29l2.eq_1 ?_
  have h78 := c78 hg b .unk (a : Int) (by omega)
  rw [rdAt_in rdF ha] at h78
  cases hF : rdF (b.drop a) with
  | error e =>
    rw [hF] at h78
    simp only [outR] at h78
    obtain rfl := hE e (by rw [rdLine_eq,hF])
    have he := neI (rdF_err hF)
    repeat' first
      | with_reducible first | refine mw_as m29.eq_1 ?_ | refine opn m29k0.eq_1 ?_ | refine opn m29k1.eq_1 ?_ | refine opn m29k2.eq_1 ?_ | refine opn m29k3.eq_1 ?_ | refine opn m29k4.eq_1 ?_ | refine opn m29k5.eq_1 ?_ | refine .pu (Pure.conv (h78) (by simp only [fgs])) hg rfl ?_ | refine ⟨?_,?_⟩ | intro _
      | simp only [go_sem,↓reduceIte,Nat.reduceAdd,Nat.reduceLeDiff,Nat.reduceEqDiff,Nat.reduceBEq,Nat.reduceBNe,Nat.reduceMul,Nat.reduceLT,reduceCtorEq,Int.reduceLT,Int.reduceLE,Int.reduceToNat,Int.reduceNeg,  ltB hj,he,a1,a2,a3,a4,a5,a6,a7,a8]
    exact FgOut.mk' (by simp only [decAV,fgs])
  | ok x =>
  obtain ⟨p,r⟩ := x
  rw [hF] at h78
  simp only [outR] at h78
  obtain ⟨hpl,hbl⟩ := codec_F.bwd _ _ _ hF
  obtain ⟨a',ha',rfl⟩ := suff_drop ha hbl
  rw [drop_len ha'] at h78
  have z0 : ((0 : Int) != 0) = false := rfl
  have hcur : curO p .unk (.ok p) = [.sl 1 (p.map byteAV) .unk,.int .i64 0,.int .i64 0] := by simp only [curO,Nat.sub_self]; rfl
  have hR0 : CurOK p (.ok p) := ⟨0,Nat.zero_le _,rfl⟩
  have h79 := c79u (gl := gl) hg (n := nn + 1) (nt := nt) (live := live) (l := nn) (ob := [(nn,curO p .unk (.ok p)),(2,dObj ent fs tf acc tk),(0,zeroD)]) p .unk (by omega) hR0 (by simp [lookG])
  have hR1 := hR0.next codec_T nz_T []
  obtain ⟨k,R1,h1⟩ : ∃ a R,stk rdT [] (.ok p) = (a,R) := ⟨_,_,rfl⟩
  rw [h1] at h79 hR1
  have h82 := c82u (gl := gl) hg (n := nn + 1) (nt := nt) (live := live) (l := nn) (ob := [(nn,curO p .unk R1),(nn,curO p .unk (.ok p)),(2,dObj ent fs tf acc tk),(0,zeroD)]) p .unk (by omega) hR1 (by simp [lookG])
  have hR2 := hR1.next codec_I nz_I 0
  obtain ⟨e,R2,h2⟩ : ∃ a R,stk rdI 0 R1 = (a,R) := ⟨_,_,rfl⟩
  rw [h2] at h82 hR2
  have h82b := c82u (gl := gl) hg (n := nn + 1) (nt := nt) (live := live) (l := nn) (ob := [(nn,curO p .unk R2),(nn,curO p .unk R1),(nn,curO p .unk (.ok p)),(2,dObj ent fs tf acc tk),(0,zeroD)]) p .unk (by omega) hR2 (by simp [lookG])
  have hR3 := hR2.next codec_I nz_I 0
  obtain ⟨n,R3,h3⟩ : ∃ a R,stk rdI 0 R2 = (a,R) := ⟨_,_,rfl⟩
  rw [h3] at h82b hR3
  rw [hcur] at h79 h82 h82b
  repeat' first
    | with_reducible first | refine mw_as m29.eq_1 ?_ | refine opn m29k0.eq_1 ?_ | refine opn m29k1.eq_1 ?_ | refine opn m29k2.eq_1 ?_ | refine opn m29k3.eq_1 ?_ | refine opn m29k4.eq_1 ?_ | refine opn m29k5.eq_1 ?_ | refine .pu (Pure.conv (h78) (by simp only [fgs])) hg rfl ?_ | refine CallK.eff (h79) ?_ | refine CallK.eff (h82) ?_ | refine CallK.eff (h82b) ?_ | refine ⟨?_,?_⟩ | intro _
    | simp only [go_sem,↓reduceIte,Nat.reduceAdd,Nat.reduceLeDiff,Nat.reduceEqDiff,Nat.reduceBEq,Nat.reduceBNe,Nat.reduceMul,Nat.reduceLT,reduceCtorEq,Int.reduceLT,Int.reduceLE,Int.reduceToNat,Int.reduceNeg,  ltB hj,z0,a1,a2,a3,a4,a5,a6,a7,a8]
  clear h78 h79 h82 h82b
  obtain ⟨vs,R4,h4⟩ : ∃ a R,stkFin rdV zv c [] R3 = (a,R) := ⟨_,_,rfl⟩
  obtain ⟨lE,lO⟩ := lineS hF h1 h2 h3 h4
  refine MRun.keep (ob' := [(nn + 1,[.str k,.int .i64 e,.int .i64 n,.sl 3 [] .exact]),(nn,curO p .unk R3),(2,dObj ent fs tf acc tk),(0,zeroD)]) (live' := live) ?_ (keep_li hn) (fun _ h => h)
  refine .forUp c (fun i F S => ∃ (vacc : List Val) (R : Cur) (tv : STok) (mm nt : Nat) (live : List Nat),Sep live nt tk tv ∧ vacc.length ≤ i ∧ CurOK p R ∧ nn + 1 + 1 ≤ mm ∧
    F = [(0,AV.sl 1 (b.map byteAV) .unk),(2,AV.ptr 0 0),(5,AV.int IntKind.i64 ↑a'),(7,AV.ptr nn 0),(8,AV.ptr 2 0),(9,AV.int IntKind.i64 ↑c),(11,AV.int IntKind.i64 ↑m),(12,AV.int IntKind.i64 ↑j),(13,AV.ptr (nn + 1) 0),(14,AV.int IntKind.i64 i)] ∧
    S = ⟨mm,[(nn + 1,[.str k,.int .i64 e,.int .i64 n,.sl 3 (vacc.map Val.av) tv]),(nn,curO p .unk R),(2,dObj ent fs tf acc tk),(0,zeroD)],nt,live,gl⟩ ∧
    stkFin rdV zv (c - i) vacc R = (vs,R4)) ⟨[],R3,.exact,nn + 1 + 1,nt,live,⟨htk,.inl rfl,fun a ha => ⟨htn a ha,by simp⟩⟩,by simp,hR3,Nat.le_refl _,rfl,rfl,h4⟩ ?_
  rintro i F S hi ⟨vacc,R,tv,mm,nt,live,hsep,hvl,hR,hmm,rfl,rfl,h4⟩ ih
  by_cases h : i < c
  · rw [show c - i = (c - (i + 1)) + 1 by omega,stkFin] at h4
    refine opn m29l1.eq_1 ?_
    have h83 := c83u (gl := gl) hg (n := mm) (nt := nt) (live := live) (l := nn) (keys_li (x := [.str k,.int .i64 e,.int .i64 n,.sl 3 (vacc.map Val.av) tv]) (y := curO p .unk R) (d := dObj ent fs tf acc tk) (o := zeroD) hmm hn) p .unk (by omega) hR (by simp [lookG])
    have hR' := hR.next codec_V (fun _ _ h => rdV_err h) zv
    revert h4 h83 hR'
    generalize stk rdV zv R = xr
    obtain ⟨v,R'⟩ := xr
    intro h4 h83 hR'
    have hab2 := fun n ob nt => hsep.2.1.able (gl := gl) n ob nt
    have hap : vacc.map Val.av ++ [AV.agg [.int .i64 v.kd,.int .i64 v.n,.str v.s]] = (vacc ++ [v]).map Val.av := by simp
    repeat' first
      | with_reducible first | refine mw_as m29.eq_1 ?_ | refine opn m29k0.eq_1 ?_ | refine opn m29k1.eq_1 ?_ | refine opn m29k2.eq_1 ?_ | refine opn m29k3.eq_1 ?_ | refine opn m29k4.eq_1 ?_ | refine opn m29k5.eq_1 ?_ | refine CallK.eff (h83) ?_ | refine PCallK.eff (h83) (fun _ => by first | exact of_eq_true InvS_refl | (simp [InvS_nil,InvS_cons,get_if,InvS_refl]; done)) ?_ | refine ⟨?_,?_⟩ | intro _
      | simp only [go_sem,↓reduceIte,Nat.reduceAdd,Nat.reduceLeDiff,Nat.reduceEqDiff,Nat.reduceBEq,Nat.reduceBNe,Nat.reduceMul,Nat.reduceLT,reduceCtorEq,Int.reduceLT,Int.reduceLE,Int.reduceToNat,Int.reduceNeg,  ltB h,a1,a2,a3,a4,a5,a6,a7,a8,use_eq,hap,wrap_succ (show i < 9223372036854775807 by omega)]
    · exact hab2 _ _ _
    · omega
    · omega
    have := bumpV_le R mm
    exact MRun.keep (live' := nt :: useL live tv) (ih h _ _ ⟨vacc ++ [v],R',.tok nt,bumpV R mm,nt + 1,nt :: useL live tv,hsep.next,by simp; omega,hR',by omega,rfl,rfl,h4⟩) keep_lv (fun _ h => h)
  · have hic : i = c := by omega
    subst hic
    rw [Nat.sub_self] at h4
    injection h4 with h4 h4'
    subst h4 h4'
    refine MRun.impS (live' := live) ?_ (imp_li (x' := [.str k,.int .i64 e,.int .i64 n,.sl 3 (vacc.map Val.av) .unk]) rfl rfl (curO_nb _ _ _) rfl rfl (tok_le _ _ _ _ _)) (fun _ h => h)
    refine opn m29l1.eq_1 ?_
    have h81 := c81u (gl := gl) (n := mm) (nt := nt) (live := live) (l := nn) (ob := [(nn + 1,[.str k,.int .i64 e,.int .i64 n,.sl 3 (vacc.map Val.av) .unk]),(nn,curO p .unk R),(2,dObj ent fs tf acc tk),(0,zeroD)]) p .unk hR (by simp [lookG])
    by_cases he : endE R = 0
    · have hX := lO he
      have hn0 : (endE R != 0) = false := by rw [he]; rfl
      have hab2 := fun n ob nt => hsep.1.able (gl := gl) n ob nt
      have hap : acc.map Exa.av ++ [AV.agg [.str k,.int .i64 e,.int .i64 n,.sl 3 (vacc.map Val.av) .unk]] = (acc ++ [(⟨⟨k,e,n⟩,vacc⟩ : Exa)]).map Exa.av := by simp
      repeat' first
        | with_reducible first | refine mw_as m29.eq_1 ?_ | refine opn m29k0.eq_1 ?_ | refine opn m29k1.eq_1 ?_ | refine opn m29k2.eq_1 ?_ | refine opn m29k3.eq_1 ?_ | refine opn m29k4.eq_1 ?_ | refine opn m29k5.eq_1 ?_ | refine CallK.eff (h81) ?_ | refine ⟨?_,?_⟩ | intro _
        | simp only [go_sem,↓reduceIte,Nat.reduceAdd,Nat.reduceLeDiff,Nat.reduceEqDiff,Nat.reduceBEq,Nat.reduceBNe,Nat.reduceMul,Nat.reduceLT,reduceCtorEq,Int.reduceLT,Int.reduceLE,Int.reduceToNat,Int.reduceNeg,  geB (Nat.le_of_not_lt h),hn0,a1,a2,a3,a4,a5,a6,a7,a8,use_eq,hap,wrap_succ (show j < 9223372036854775807 by omega)]
      · exact hab2 _ _ _
      · omega
      · omega
      exact MRun.keep (live' := nt :: useL live tk) (hO ⟨⟨k,e,n⟩,vacc⟩ a' mm nt (useL live tk) hX ha' (by omega)) (keep_ld hn) (fun _ h => h)
    · obtain rfl := hE _ (lE he)
      have hn0 := neI he
      repeat' first
        | with_reducible first | refine mw_as m29.eq_1 ?_ | refine opn m29k0.eq_1 ?_ | refine opn m29k1.eq_1 ?_ | refine opn m29k2.eq_1 ?_ | refine opn m29k3.eq_1 ?_ | refine opn m29k4.eq_1 ?_ | refine opn m29k5.eq_1 ?_ | refine CallK.eff (h81) ?_ | refine ⟨?_,?_⟩ | intro _
        | simp only [go_sem,↓reduceIte,Nat.reduceAdd,Nat.reduceLeDiff,Nat.reduceEqDiff,Nat.reduceBEq,Nat.reduceBNe,Nat.reduceMul,Nat.reduceLT,reduceCtorEq,Int.reduceLT,Int.reduceLE,Int.reduceToNat,Int.reduceNeg,  geB (Nat.le_of_not_lt h),hn0,a1,a2,a3,a4,a5,a6,a7,a8]
      exact FgOut.mk' (by simp only [decAV,fgs])
end lines
set_option maxHeartbeats 4000000 in
theorem c29 (hg : GlNR gl) {m0 : Int} (hm0 : gl.lookup 1 = some [.int .i64 m0]) (b : Bytes) (t : STok) (hb : b.length ≤ 100000000) : Pure Tryz.prog gl 29 [.sl 1 (b.map byteAV) t] (.ok (decAV (decB b))) := by
  refine Pure.ofFg ?_ (by simp only [fgs,nrs,forall_eq_or_imp,forall_eq,implies_true]) (of_eq_true (nr_decAV _))
  simp only [fgs]
  refine .of_run is29 (by simp) (mw_sound 200 ?_)
  generalize hW : decB b = W
  rw [decB_eq] at hW
  have h78 := c78 hg b .unk 0 (by omega)
  rw [show rdAt rdF b 0 = rdF b from rdAt_in (a := 0) rdF (Nat.zero_le _)] at h78
  cases hF : rdF b with
  | error e =>
    rw [hF] at hW h78
    simp only [outR] at hW h78
    subst hW
    have he := neI (rdF_err hF)
    repeat' first
      | with_reducible first | refine mw_as m29.eq_1 ?_ | refine opn m29k0.eq_1 ?_ | refine opn m29k1.eq_1 ?_ | refine opn m29k2.eq_1 ?_ | refine opn m29k3.eq_1 ?_ | refine opn m29k4.eq_1 ?_ | refine opn m29k5.eq_1 ?_ | refine .pu (Pure.conv (h78) (by simp only [fgs])) hg rfl ?_ | refine ⟨?_,?_⟩ | intro _
      | simp only [go_sem,↓reduceIte,Nat.reduceAdd,Nat.reduceLeDiff,Nat.reduceEqDiff,Nat.reduceBEq,Nat.reduceBNe,Nat.reduceMul,Nat.reduceLT,reduceCtorEq,Int.reduceLT,Int.reduceLE,Int.reduceToNat,Int.reduceNeg,  he]
    exact FgOut.mk' (by simp only [decAV,fgs])
  | ok x =>
  obtain ⟨p,r0⟩ := x
  rw [hF] at hW h78
  simp only [outR] at hW h78
  have hW : decH p r0 = W := hW
  obtain ⟨hpl,hbl⟩ := codec_F.bwd _ _ _ hF
  have hr0 : r0.length ≤ b.length := by rw [hbl]; simp
  have z0 : ((0 : Int) != 0) = false := rfl
  have hR0 : CurOK p (.ok p) := ⟨0,Nat.zero_le _,rfl⟩
  have h79 := c79u (gl := gl) hg (n := 2) (nt := 0) (live := []) (l := 1) (ob := [(1,curO p .unk (.ok p)),(0,zeroD)]) p .unk (by omega) hR0 rfl
  have hR1 := hR0.next codec_T nz_T []
  obtain ⟨ent,R1,h1⟩ : ∃ a R,stk rdT [] (.ok p) = (a,R) := ⟨_,_,rfl⟩
  have hent : ent.length ≤ 8192 := by have := stkT_len (.ok p); rw [h1] at this; exact Nat.le_trans this hpl
  rw [h1] at h79 hR1
  have h80 := c80u (gl := gl) hg (n := 3) (nt := 0) (live := []) (l := 1) (ob := [(2,[.str ent,.sl 1 [] .exact,.sl 4 [] .exact]),(2,zeroD),(1,curO p .unk R1),(1,curO p .unk (.ok p)),(0,zeroD)]) 8 (by omega) p .unk (by omega) hR1 rfl
  have hR2 := hR1.nextM 8
  obtain ⟨c,R2,h2⟩ : ∃ a R,stkM 8 p R1 = (a,R) := ⟨_,_,rfl⟩
  have hc8 : c ≤ 8 := by have := stkM_le 8 p R1; rw [h2] at this; exact this
  rw [h2] at h80 hR2
  have hcur : curO p .unk (.ok p) = [.sl 1 (p.map byteAV) .unk,.int .i64 0,.int .i64 0] := by simp only [curO,Nat.sub_self]; rfl
  rw [hcur] at h79 h80
  have h80 : MCalls Tryz.prog 80 [.ptr 1 0,.int .u64 8] _ _ := h80
  repeat' first
    | with_reducible first | refine mw_as m29.eq_1 ?_ | refine opn m29k0.eq_1 ?_ | refine opn m29k1.eq_1 ?_ | refine opn m29k2.eq_1 ?_ | refine opn m29k3.eq_1 ?_ | refine opn m29k4.eq_1 ?_ | refine opn m29k5.eq_1 ?_ | refine .pu (Pure.conv (h78) (by simp only [fgs])) hg rfl ?_ | refine CallK.eff (h79) ?_ | refine CallK.eff (h80) ?_ | refine ⟨?_,?_⟩ | intro _
    | simp only [go_sem,↓reduceIte,Nat.reduceAdd,Nat.reduceLeDiff,Nat.reduceEqDiff,Nat.reduceBEq,Nat.reduceBNe,Nat.reduceMul,Nat.reduceLT,reduceCtorEq,Int.reduceLT,Int.reduceLE,Int.reduceToNat,Int.reduceNeg,  z0]
  clear h78 h79 h80
  obtain ⟨fs,R3,h3⟩ : ∃ a R,stkFin rdT [] c [] R2 = (a,R) := ⟨_,_,rfl⟩
  refine MRun.keep (ob' := [(2,[.str ent,.sl 1 [] .exact,.sl 4 [] .exact]),(1,curO p .unk R2),(0,zeroD)]) (live' := []) ?_ (by clear hW hbl; intro l' cs e; simp only [lookG] at e ⊢; grind) (fun _ h => h)
  refine .forUp c (fun i F S => ∃ (acc : List Bytes) (R : Cur) (tk : STok) (nt : Nat) (live : List Nat),AbT live tk ∧ acc.length ≤ i ∧ (∀ f ∈ acc,f.length ≤ 8192) ∧ CurOK p R ∧
    F = [(0,AV.sl 1 (b.map byteAV) .unk),(2,AV.ptr 0 0),(5,AV.int IntKind.i64 ↑(b.length - r0.length)),(7,AV.ptr 1 0),(8,AV.ptr 2 0),(9,AV.int IntKind.i64 ↑c),(10,AV.int IntKind.i64 i)] ∧
    S = ⟨3,[(2,dObj ent acc tk [] .exact),(1,curO p .unk R),(0,zeroD)],nt,live,gl⟩ ∧ stkFin rdT [] (c - i) acc R = (fs,R3)) ⟨[],R2,.exact,0,[],.inl rfl,by simp,by simp,hR2,rfl,rfl,h3⟩ ?_
  have h3s := h3
  clear h3
  rintro i F S hi ⟨acc,R,tk,nt,live,hab,hal,hfl,hR,rfl,rfl,h3⟩ ih
  by_cases h : i < c
  · rw [show c - i = (c - (i + 1)) + 1 by omega,stkFin] at h3
    refine opn m29l0.eq_1 ?_
    have h79 := c79u (gl := gl) hg (n := 3) (nt := nt) (live := live) (l := 1) (ob := [(2,dObj ent acc tk [] .exact),(1,curO p .unk R),(0,zeroD)]) p .unk (by omega) hR rfl
    have hR' := hR.next codec_T nz_T []
    have hx := stkT_len R
    have hRl := hR.len
    revert h3 h79 hR' hx
    generalize stk rdT [] R = xr
    obtain ⟨x,R'⟩ := xr
    intro h3 h79 hR' hx
    have hab2 := fun n ob nt => hab.able (gl := gl) n ob nt
    have hap : acc.map AV.str ++ [AV.str x] = (acc ++ [x]).map AV.str := by simp
    repeat' first
      | with_reducible first | refine mw_as m29.eq_1 ?_ | refine opn m29k0.eq_1 ?_ | refine opn m29k1.eq_1 ?_ | refine opn m29k2.eq_1 ?_ | refine opn m29k3.eq_1 ?_ | refine opn m29k4.eq_1 ?_ | refine opn m29k5.eq_1 ?_ | refine CallK.eff (h79) ?_ | refine PCallK.eff (h79) (fun _ => by first | exact of_eq_true InvS_refl | (simp [InvS_nil,InvS_cons,get_if,InvS_refl]; done)) ?_ | refine ⟨?_,?_⟩ | intro _
      | simp only [go_sem,↓reduceIte,Nat.reduceAdd,Nat.reduceLeDiff,Nat.reduceEqDiff,Nat.reduceBEq,Nat.reduceBNe,Nat.reduceMul,Nat.reduceLT,reduceCtorEq,Int.reduceLT,Int.reduceLE,Int.reduceToNat,Int.reduceNeg,  ltB h,use_eq,hap,wrap_succ (show i < 9223372036854775807 by omega)]
    · exact hab2 _ _ _
    · omega
    · omega
    exact MRun.keep (live' := nt :: useL live tk) (ih h _ _ ⟨acc ++ [x],R',.tok nt,nt + 1,nt :: useL live tk,.inr ⟨nt,rfl,List.mem_cons_self⟩,by simp; omega,fun f hf => by rcases List.mem_append.1 hf with hf | hf; exact hfl f hf; simp at hf; subst hf; simp only at hx; omega,hR',rfl,rfl,h3⟩) keep_col (fun _ h => h)
  · have hic : i = c := by omega
    subst hic
    rw [Nat.sub_self] at h3
    injection h3 with h3 h3'
    subst h3 h3'
    refine MRun.keep (live' := []) ?_ (fun _ _ h => h) (fun _ h => by cases h)
    refine opn m29l0.eq_1 ?_
    have h80 := c80u (gl := gl) hg (n := 3) (nt := nt) (live := []) (l := 1) (ob := [(2,dObj ent acc tk [] .exact),(1,curO p .unk R),(0,zeroD)]) 256 (by omega) p .unk (by omega) hR rfl
    have hR4 := hR.nextM 256
    obtain ⟨m,R4,h4⟩ : ∃ a R',stkM 256 p R = (a,R') := ⟨_,_,rfl⟩
    have hm : m ≤ 256 := by have := stkM_le 256 p R; rw [h4] at this; exact this
    rw [h4] at h80 hR4
    obtain ⟨hE,hO⟩ := headS (r0 := r0) h1 h2 h3s h4
    rw [hW] at hE hO
    have h81 := c81u (gl := gl) (n := 3) (nt := nt) (live := []) (l := 1) (ob := [(1,curO p .unk R4),(2,dObj ent acc tk [] .exact),(1,curO p .unk R),(0,zeroD)]) p .unk hR4 rfl
    by_cases he : endE R4 = 0
    · have hW := hO he
      have hn : (endE R4 != 0) = false := by rw [he]; rfl
      repeat' first
        | with_reducible first | refine mw_as m29.eq_1 ?_ | refine opn m29k0.eq_1 ?_ | refine opn m29k1.eq_1 ?_ | refine opn m29k2.eq_1 ?_ | refine opn m29k3.eq_1 ?_ | refine opn m29k4.eq_1 ?_ | refine opn m29k5.eq_1 ?_ | refine CallK.eff (h80) ?_ | refine CallK.eff (h81) ?_ | refine ⟨?_,?_⟩ | intro _
        | simp only [go_sem,↓reduceIte,Nat.reduceAdd,Nat.reduceLeDiff,Nat.reduceEqDiff,Nat.reduceBEq,Nat.reduceBNe,Nat.reduceMul,Nat.reduceLT,reduceCtorEq,Int.reduceLT,Int.reduceLE,Int.reduceToNat,Int.reduceNeg,  geB (Nat.le_of_not_lt h),hn]
      rw [decL_eq] at hW
      clear h80 h81
      obtain ⟨a0,ha0,hr0'⟩ : ∃ a,a ≤ b.length ∧ r0 = b.drop a := suff_drop (m := 0) (Nat.zero_le _) hbl
      subst hr0'
      rw [drop_len ha0]
      refine MRun.keep (ob' := [(2,dObj ent acc tk [] .exact),(0,zeroD)]) (live' := []) ?_ (by intro l' cs e; simp only [lookG] at e ⊢; grind) (fun _ h => h)
      refine .forUp m (fun j F S => ∃ (xs : List Exa) (a : Nat) (tx : STok) (nn nt : Nat) (live : List Nat),AbT live tx ∧ (∀ a,tx = .tok a → a < nt) ∧ xs.length ≤ j ∧ (∀ x ∈ xs,SmX x) ∧ a ≤ b.length ∧ 3 ≤ nn ∧
        F = [(0,AV.sl 1 (b.map byteAV) .unk),(2,AV.ptr 0 0),(5,AV.int IntKind.i64 ↑a),(8,AV.ptr 2 0),(9,AV.int IntKind.i64 ↑i),(11,AV.int IntKind.i64 ↑m),(12,AV.int IntKind.i64 j)] ∧
        S = ⟨nn,[(2,dObj ent acc tk xs tx),(0,zeroD)],nt,live,gl⟩ ∧ k2 ent acc (pre xs ((rdIn (rdLine i)).rep (m - j) (b.drop a))) = W) ⟨[],a0,.exact,3,nt,[],.inl rfl,(fun a h => by cases h),by simp,by simp,ha0,by omega,rfl,rfl,hW.symm⟩ ?_
      rintro j F S hj ⟨xs,a,tx,nn,nt,live,hab,htn,hxl,hxs,ha,hnn,rfl,rfl,hW⟩ ih2
      by_cases h2 : j < m
      · rw [show m - j = (m - (j + 1)) + 1 by omega] at hW
        have hE : ∀ e,rdIn (rdLine i) (b.drop a) = .error e → W = .error e := fun e h => by rw [pre_err h] at hW; exact hW.symm
        refine lineR hg hb hc8 hm h2 ha hnn hxl hab htn hE fun x a' mm nt' live' hx ha' hmm => ?_
        obtain ⟨h3,h4⟩ := line_small hc8 hx
        rw [pre_ok hx] at hW
        exact ih2 h2 _ _ ⟨xs ++ [x],a',.tok nt',mm,nt' + 1,nt' :: live',.inr ⟨nt',rfl,List.mem_cons_self⟩,fun a h => by injection h with h; omega,by simp; omega,fun y hy => by rcases List.mem_append.1 hy with hy | hy; exact hxs y hy; simp at hy; subst hy; exact h3,ha',hmm,rfl,rfl,hW⟩
      · have hjm : j = m := by omega
        subst hjm
        rw [Nat.sub_self,pre_zero] at hW
        have hW : finL ent acc xs (b.drop a) = W := hW
        have hsm : SmallD ⟨ent,acc,xs⟩ := ⟨by show ent.length < _; omega,by show acc.length < _; omega,fun f hf => by have := hfl f hf; omega,by show xs.length < _; omega,fun x hx => by have := (hxs x hx).1; omega,fun x hx => by have := (hxs x hx).2.1; omega,fun x hx v hv => by have := (hxs x hx).2.2 v hv; omega⟩
        have h22 := c22 hg ⟨ent,acc,xs⟩ hsm
        refine opn m29l2.eq_1 ?_
        by_cases hab : a = b.length
        · rw [hab,List.drop_length] at hW
          have hW : (if formB ⟨ent,acc,xs⟩ then Except.ok ⟨ent,acc,xs⟩ else Except.error 3) = W := hW
          have hn : ((a : Int) != (b.length : Int)) = false := by rw [hab]; simp
          by_cases hf : formB ⟨ent,acc,xs⟩ = true
          · rw [if_pos hf] at hW
            subst hW
            rw [hf] at h22
            repeat' first
              | with_reducible first | refine mw_as m29.eq_1 ?_ | refine opn m29k0.eq_1 ?_ | refine opn m29k1.eq_1 ?_ | refine opn m29k2.eq_1 ?_ | refine opn m29k3.eq_1 ?_ | refine opn m29k4.eq_1 ?_ | refine opn m29k5.eq_1 ?_ | refine .pu (Pure.conv (h22) (by simp only [fgs])) hg rfl ?_ | refine ⟨?_,?_⟩ | intro _
              | simp only [go_sem,↓reduceIte,Nat.reduceAdd,Nat.reduceLeDiff,Nat.reduceEqDiff,Nat.reduceBEq,Nat.reduceBNe,Nat.reduceMul,Nat.reduceLT,reduceCtorEq,Int.reduceLT,Int.reduceLE,Int.reduceToNat,Int.reduceNeg,  geB (Nat.le_of_not_lt h2),hn]
            exact FgOut.mk' (by simp only [decAV,fgs])
          · rw [if_neg hf] at hW
            subst hW
            rw [Bool.not_eq_true] at hf
            rw [hf] at h22
            repeat' first
              | with_reducible first | refine mw_as m29.eq_1 ?_ | refine opn m29k0.eq_1 ?_ | refine opn m29k1.eq_1 ?_ | refine opn m29k2.eq_1 ?_ | refine opn m29k3.eq_1 ?_ | refine opn m29k4.eq_1 ?_ | refine opn m29k5.eq_1 ?_ | refine .pu (Pure.conv (h22) (by simp only [fgs])) hg rfl ?_ | refine ⟨?_,?_⟩ | intro _
              | simp only [go_sem,↓reduceIte,Nat.reduceAdd,Nat.reduceLeDiff,Nat.reduceEqDiff,Nat.reduceBEq,Nat.reduceBNe,Nat.reduceMul,Nat.reduceLT,reduceCtorEq,Int.reduceLT,Int.reduceLE,Int.reduceToNat,Int.reduceNeg,  geB (Nat.le_of_not_lt h2),hn]
            exact FgOut.mk' (by simp only [decAV,fgs])
        · have hn : ((a : Int) != (b.length : Int)) = true := by simp; omega
          have hW : Except.error 3 = W := by
            rw [← hW]
            cases hd : b.drop a with
            | nil => have := congrArg List.length hd; simp at this; omega
            | cons y ys => rfl
          subst hW
          repeat' first
            | with_reducible first | refine mw_as m29.eq_1 ?_ | refine opn m29k0.eq_1 ?_ | refine opn m29k1.eq_1 ?_ | refine opn m29k2.eq_1 ?_ | refine opn m29k3.eq_1 ?_ | refine opn m29k4.eq_1 ?_ | refine opn m29k5.eq_1 ?_ | refine .pu (Pure.conv (h22) (by simp only [fgs])) hg rfl ?_ | refine ⟨?_,?_⟩ | intro _
            | simp only [go_sem,↓reduceIte,Nat.reduceAdd,Nat.reduceLeDiff,Nat.reduceEqDiff,Nat.reduceBEq,Nat.reduceBNe,Nat.reduceMul,Nat.reduceLT,reduceCtorEq,Int.reduceLT,Int.reduceLE,Int.reduceToNat,Int.reduceNeg,  geB (Nat.le_of_not_lt h2),hn]
          exact FgOut.mk' (by simp only [decAV,fgs])
    · have hW := hE he
      have hn := neI he
      subst hW
      repeat' first
        | with_reducible first | refine mw_as m29.eq_1 ?_ | refine opn m29k0.eq_1 ?_ | refine opn m29k1.eq_1 ?_ | refine opn m29k2.eq_1 ?_ | refine opn m29k3.eq_1 ?_ | refine opn m29k4.eq_1 ?_ | refine opn m29k5.eq_1 ?_ | refine CallK.eff (h80) ?_ | refine CallK.eff (h81) ?_ | refine ⟨?_,?_⟩ | intro _
        | simp only [go_sem,↓reduceIte,Nat.reduceAdd,Nat.reduceLeDiff,Nat.reduceEqDiff,Nat.reduceBEq,Nat.reduceBNe,Nat.reduceMul,Nat.reduceLT,reduceCtorEq,Int.reduceLT,Int.reduceLE,Int.reduceToNat,Int.reduceNeg,  geB (Nat.le_of_not_lt h),hn]
      exact FgOut.mk' (by simp only [decAV,fgs])
end Go.Proofs.YtdjdhecanjmchaaGreatDoor
