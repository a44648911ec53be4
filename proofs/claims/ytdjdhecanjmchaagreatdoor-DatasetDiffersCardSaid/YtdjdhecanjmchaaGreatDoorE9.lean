/- Contracts: dataset's reader of payloads: what it reads, and how it panics. -/
import Derived.Test.YtdjdhecanjmchaaGreatDoorFa
import Derived.Test.YtdjdhecanjmchaaGreatDoorFb
import Derived.Test.YtdjdhecanjmchaaGreatDoorFc
import Derived.Test.YtdjdhecanjmchaaGreatDoorHa
import Derived.Test.YtdjdhecanjmchaaGreatDoorE8
set_option linter.unusedSimpArgs false
set_option linter.unusedVariables false
namespace Go.Proofs.YtdjdhecanjmchaaGreatDoor
open Go Go.V Go.Lib
set_option maxRecDepth 40000
attribute [local go_sem ↓] keepK Opd.ev MK.ev MK.ob gsA
attribute [local go_sem high] gsB
attribute [local go_sem] binEv binOb intOp strOp unEv eqvEv eqCells eqCell noBld tasEv AV.there AV.plus pickCells storeEv AV.solid AV.cells splice putParts rowOK fldEv iarrEv extEv minEv nonNil lenEv isStr appEv appOb appArg slVecEv slVecOb slStrEv slStrOb bnd argF endQ rvsEv rvEv resOf St.none if_true if_false ite_self eq_self ne_eq implies_true forall_const Lab.av Val.av Exa.av Dset.av Req.av gsC
variable {gl : List (Nat × List AV)}
theorem StRel.imp {wb : Base} {G : Gh} {n nt : Nat} {ob ob' : List (Nat × List AV)} {live live' : List Nat} {w : World} (h : StRel wb G ⟨n,ob,nt,live,gl⟩ w)
    (ho : ∀ l cs',List.lookup l ob' = some cs' → isBld cs' = false ∧ ∃ cs,List.lookup l ob = some cs ∧ isBld cs = false ∧ ∀ (m : Nat) (c : AV),cs'[m]? = some c → ∃ c0,cs[m]? = some c0 ∧ c0.Le c) (hl : ∀ x ∈ live',x ∈ live) : StRel wb G ⟨n,ob',nt,live',gl⟩ w where
  prom := h.prom
  apart := fun l cs r o e1 e2 => by
    obtain ⟨_,cs0,h1,_⟩ := ho l cs e1
    exact h.apart l cs0 r o h1 e2
  obj := fun l cs e1 _ => by
    obtain ⟨_,cs0,h1,h2,h3⟩ := ho l cs e1
    obtain ⟨r,hr,h4⟩ := h.obj l cs0 h1 h2
    refine ⟨r,hr,fun m c hm => ?_⟩
    obtain ⟨c0,h5,h6⟩ := h3 m c hm
    obtain ⟨v,h7,h8,h9⟩ := h4 m c0 h5
    exact ⟨v,h7,h6 G v h8,h9⟩
  inj := h.inj
  dom := h.dom
  tok := fun t ht => h.tok t (hl t ht)
  tdom := h.tdom
  tdis := fun t ht t' ht' => h.tdis t (hl t ht) t' (hl t' ht')
  base := h.base
  pold := h.pold
  still := h.still
  beta := h.beta
  glob := h.glob
  bld := fun l s e => by have := (ho l _ e).1; simp [isBld] at this
  bldu := fun l l' s s' e => by have := (ho l _ e).1; simp [isBld] at this
theorem MRun.impS {P : Program} {k : List MI} {D : Dfs} {F : Fr} {Q : EndQ} {nn n nt : Nat} {ob ob' : List (Nat × List AV)} {live live' : List Nat} (h : MRun P nn k D F ⟨n,ob',nt,live',gl⟩ Q)
    (ho : ∀ l cs',List.lookup l ob' = some cs' → isBld cs' = false ∧ ∃ cs,List.lookup l ob = some cs ∧ isBld cs = false ∧ ∀ (m : Nat) (c : AV),cs'[m]? = some c → ∃ c0,cs[m]? = some c0 ∧ c0.Le c) (hl : ∀ x ∈ live',x ∈ live) : MRun P nn k D F ⟨n,ob,nt,live,gl⟩ Q := by
  intro wb G w a b cs todo hf hR
  exact h wb G w a b cs todo hf ⟨StRel.imp hR.st ho hl,⟨hR.fr.rel⟩,hR.sz,hR.df⟩
theorem CallK.thrown {P : Program} {f : FuncId} {xs : List AV} {d : Option Nat} {l : List MOp} {K : Option AV → Fr → St → Prop} {F : Fr} {S S1 : St} {r : AV} (h : MCalls P f xs S fun o S' => o = .pan r ∧ S' = S1) (k : K (some r) F S1) : CallK P f xs d l K F S := CallK.effPan h k
def Rest (l : Nat) (ob ob0 : List (Nat × List AV)) : Prop := ∀ l' cs,List.lookup l' ob0 = some cs → l' ≠ l ∧ List.lookup l' ob = some cs
theorem Rest.cons {l : Nat} {ob ob0 : List (Nat × List AV)} (h : Rest l ob ob0) (c : List AV) : Rest l ((l,c) :: ob) ob0 := fun l' cs e => by
  obtain ⟨h1,h2⟩ := h l' cs e
  refine ⟨h1,?_⟩
  rw [lookG,if_neg h1]
  exact h2
theorem Rest.le {l n nt : Nat} {ob ob0 : List (Nat × List AV)} {live : List Nat} (h : Rest l ob ob0) : St.le ⟨n,ob,nt,live,gl⟩ ⟨n,ob0,nt,live,gl⟩ := ⟨rfl,rfl,rfl,fun l' cs e => (h l' cs e).2,fun _ h => h⟩
theorem c117 {n nt l : Nat} {live : List Nat} {ob : List (Nat × List AV)} (s : Bytes) (t : STok) (hl : List.lookup l ob = some [.sl 1 (s.map byteAV) t]) (x : Nat) (hx : x ≤ s.length) :
    MCalls Tryz.prog 117 [.ptr l 0,.int .i64 x,.int .i64 0] ⟨n,ob,nt,live,gl⟩ fun o S' => o = .ok (.tup []) ∧ S' = ⟨n,(l,[.sl 1 ((s.drop x).map byteAV) .exact]) :: ob,nt,live,gl⟩ := by
  have hl' : St.get ⟨n,ob,nt,live,gl⟩ l = some [.sl 1 (s.map byteAV) t] := hl
  refine .of_run is117 (by simp) (mw_sound 200 ?_)
  have h0 : ((0 : Int) != 0) = false := rfl
  have htk : List.take s.length (s.map byteAV) = s.map byteAV := List.take_of_length_le (by simp)
  repeat' first
    | with_reducible first | refine mw_as m117.eq_1 ?_ | refine opn m117k0.eq_1 ?_ | refine ⟨?_,?_⟩ | intro _
    | simp only [go_sem,↓reduceIte,Nat.reduceAdd,Nat.reduceLeDiff,Nat.reduceEqDiff,Nat.reduceBEq,Nat.reduceBNe,Nat.reduceMul,Nat.reduceLT,reduceCtorEq,Int.reduceLT,Int.reduceLE,Int.reduceToNat,Int.reduceNeg,  hl',h0,htk,← List.map_drop]
  all_goals omega
theorem c117p {n nt l : Nat} {live : List Nat} {ob : List (Nat × List AV)} (x e : Int) (he : e ≠ 0) :
    MCalls Tryz.prog 117 [.ptr l 0,.int .i64 x,.int .i64 e] ⟨n,ob,nt,live,gl⟩ fun o S' => o = .pan (errA e) ∧ S' = ⟨n,ob,nt,live,gl⟩ := by
  refine .of_run is117 (by simp) (mw_sound 200 ?_)
  have h0 := neI he
  repeat' first
    | with_reducible first | refine mw_as m117.eq_1 ?_ | refine opn m117k0.eq_1 ?_ | refine ⟨?_,?_⟩ | intro _
    | simp only [go_sem,↓reduceIte,Nat.reduceAdd,Nat.reduceLeDiff,Nat.reduceEqDiff,Nat.reduceBEq,Nat.reduceBNe,Nat.reduceMul,Nat.reduceLT,reduceCtorEq,Int.reduceLT,Int.reduceLE,Int.reduceToNat,Int.reduceNeg,  h0]
theorem c66 {n nt l : Nat} {live : List Nat} {ob : List (Nat × List AV)} (t : STok) (hl : List.lookup l ob = some [.sl 1 [] t]) :
    MCalls Tryz.prog 66 [.ptr l 0] ⟨n,ob,nt,live,gl⟩ fun o S' => o = .ok (.tup []) ∧ S' = ⟨n,ob,nt,live,gl⟩ := by
  have hl' : St.get ⟨n,ob,nt,live,gl⟩ l = some [.sl 1 [] t] := hl
  refine .of_run is66 (by simp) (mw_sound 200 ?_)
  repeat' first
    | with_reducible first | refine mw_as m66.eq_1 ?_ | refine ⟨?_,?_⟩ | intro _
    | simp only [go_sem,↓reduceIte,Nat.reduceAdd,Nat.reduceLeDiff,Nat.reduceEqDiff,Nat.reduceBEq,Nat.reduceBNe,Nat.reduceMul,Nat.reduceLT,reduceCtorEq,Int.reduceLT,Int.reduceLE,Int.reduceToNat,Int.reduceNeg,  hl']
  all_goals (rename_i h; simp at h)
theorem c66p {n nt l : Nat} {live : List Nat} {ob ob0 : List (Nat × List AV)} (hr : Rest l ob ob0) (c : UInt8) (s : Bytes) (t : STok) (hl : List.lookup l ob = some [.sl 1 ((c :: s).map byteAV) t]) :
    MCalls Tryz.prog 66 [.ptr l 0] ⟨n,ob,nt,live,gl⟩ fun o S' => o = .pan (errA 3) ∧ S' = ⟨n,ob0,nt,live,gl⟩ := by
  refine MCalls.forget (K' := fun o S' => o = .pan (errA 3) ∧ S' = ⟨n,ob,nt,live,gl⟩) ?_ (fun o S' ⟨h1,h2⟩ => ⟨_,by subst h2; exact hr.le,h1,rfl⟩)
  have hl' : St.get ⟨n,ob,nt,live,gl⟩ l = some [.sl 1 ((c :: s).map byteAV) t] := hl
  refine .of_run is66 (by simp) (mw_sound 200 ?_)
  repeat' first
    | with_reducible first | refine mw_as m66.eq_1 ?_ | refine ⟨?_,?_⟩ | intro _
    | simp only [go_sem,↓reduceIte,Nat.reduceAdd,Nat.reduceLeDiff,Nat.reduceEqDiff,Nat.reduceBEq,Nat.reduceBNe,Nat.reduceMul,Nat.reduceLT,reduceCtorEq,Int.reduceLT,Int.reduceLE,Int.reduceToNat,Int.reduceNeg,  hl']
  all_goals (rename_i h; simp at h)
theorem suffix_drop {s r : Bytes} (h : ∃ p,s = p ++ r) : s.length - r.length ≤ s.length ∧ s.drop (s.length - r.length) = r := by
  obtain ⟨p,rfl⟩ := h
  refine ⟨by omega,?_⟩
  simp
theorem c64 (hg : GlNR gl) {n nt l : Nat} {live : List Nat} {ob : List (Nat × List AV)} (s : Bytes) (t : STok) (hl : List.lookup l ob = some [.sl 1 (s.map byteAV) t]) (hb : s.length < 4294960000) {x r : Bytes} (hx : rdT s = .ok (x,r)) :
    MCalls Tryz.prog 64 [.ptr l 0] ⟨n,ob,nt,live,gl⟩ fun o S' => o = .ok (.str x) ∧ S' = ⟨n,(l,[.sl 1 (r.map byteAV) .exact]) :: ob,nt,live,gl⟩ := by
  have hl' : St.get ⟨n,ob,nt,live,gl⟩ l = some [.sl 1 (s.map byteAV) t] := hl
  refine .of_run is64 (by simp) (mw_sound 200 ?_)
  have h118 := c118 hg s t 0 (by omega)
  have hR : rdAt rdT s 0 = .ok (x,r) := by rw [← hx]; exact rdAt_in (a := 0) rdT (Nat.zero_le _)
  obtain ⟨h1,h2⟩ := suffix_drop (s := s) (r := r) ⟨_,(codec_T.bwd _ _ _ hx).2⟩
  rw [hR] at h118
  simp only [outR] at h118
  have h117 := c117 (gl := gl) (n := n) (nt := nt) (live := live) (l := l) (ob := ob) s t hl _ h1
  rw [h2] at h117
  repeat' first
    | with_reducible first | refine mw_as m64.eq_1 ?_ | refine .pu (h118) hg rfl ?_ | refine CallK.eff (h117) ?_ | refine ⟨?_,?_⟩ | intro _
    | simp only [go_sem,↓reduceIte,Nat.reduceAdd,Nat.reduceLeDiff,Nat.reduceEqDiff,Nat.reduceBEq,Nat.reduceBNe,Nat.reduceMul,Nat.reduceLT,reduceCtorEq,Int.reduceLT,Int.reduceLE,Int.reduceToNat,Int.reduceNeg,  hl']
theorem c64p (hg : GlNR gl) {n nt l : Nat} {live : List Nat} {ob ob0 : List (Nat × List AV)} (hr : Rest l ob ob0) (s : Bytes) (t : STok) (hl : List.lookup l ob = some [.sl 1 (s.map byteAV) t]) (hb : s.length < 4294960000) {e : Int} (hx : rdT s = .error e) :
    MCalls Tryz.prog 64 [.ptr l 0] ⟨n,ob,nt,live,gl⟩ fun o S' => o = .pan (errA e) ∧ S' = ⟨n,ob0,nt,live,gl⟩ := by
  refine MCalls.forget (K' := fun o S' => o = .pan (errA e) ∧ S' = ⟨n,ob,nt,live,gl⟩) ?_ (fun o S' ⟨h1,h2⟩ => ⟨_,by subst h2; exact hr.le,h1,rfl⟩)
  have hl' : St.get ⟨n,ob,nt,live,gl⟩ l = some [.sl 1 (s.map byteAV) t] := hl
  refine .of_run is64 (by simp) (mw_sound 200 ?_)
  have h118 := c118 hg s t 0 (by omega)
  have hR : rdAt rdT s 0 = .error e := by rw [← hx]; exact rdAt_in (a := 0) rdT (Nat.zero_le _)
  rw [hR] at h118
  simp only [outR] at h118
  have he : e ≠ 0 := by rcases rdT_err hx with rfl | rfl <;> decide
  have h117 := c117p (gl := gl) (n := n) (nt := nt) (live := live) (l := l) (ob := ob) 0 e he
  repeat' first
    | with_reducible first | refine mw_as m64.eq_1 ?_ | refine .pu (h118) hg rfl ?_ | refine CallK.effPan (h117) ?_ | refine PCallK.effPan (h117) ?_ | refine ⟨?_,?_⟩ | intro _
    | simp only [go_sem,↓reduceIte,Nat.reduceAdd,Nat.reduceLeDiff,Nat.reduceEqDiff,Nat.reduceBEq,Nat.reduceBNe,Nat.reduceMul,Nat.reduceLT,reduceCtorEq,Int.reduceLT,Int.reduceLE,Int.reduceToNat,Int.reduceNeg,  hl']
theorem c67 (hg : GlNR gl) {n nt l : Nat} {live : List Nat} {ob : List (Nat × List AV)} (s : Bytes) (t : STok) (hl : List.lookup l ob = some [.sl 1 (s.map byteAV) t]) (hb : s.length < 4294960000) {x : Int} {r : Bytes} (hx : rdI s = .ok (x,r)) :
    MCalls Tryz.prog 67 [.ptr l 0] ⟨n,ob,nt,live,gl⟩ fun o S' => o = .ok (.int .i64 x) ∧ S' = ⟨n,(l,[.sl 1 (r.map byteAV) .exact]) :: ob,nt,live,gl⟩ := by
  have hl' : St.get ⟨n,ob,nt,live,gl⟩ l = some [.sl 1 (s.map byteAV) t] := hl
  refine .of_run is67 (by simp) (mw_sound 200 ?_)
  have hh := c120 hg s t 0 (by omega)
  have hR : rdAt rdI s 0 = .ok (x,r) := by rw [← hx]; exact rdAt_in (a := 0) rdI (Nat.zero_le _)
  obtain ⟨h1,h2⟩ := suffix_drop (s := s) (r := r) ⟨_,(codec_I.bwd _ _ _ hx).2⟩
  rw [hR] at hh
  simp only [outR] at hh
  have h117 := c117 (gl := gl) (n := n) (nt := nt) (live := live) (l := l) (ob := ob) s t hl _ h1
  rw [h2] at h117
  repeat' first
    | with_reducible first | refine mw_as m67.eq_1 ?_ | refine .pu (hh) hg rfl ?_ | refine CallK.eff (h117) ?_ | refine ⟨?_,?_⟩ | intro _
    | simp only [go_sem,↓reduceIte,Nat.reduceAdd,Nat.reduceLeDiff,Nat.reduceEqDiff,Nat.reduceBEq,Nat.reduceBNe,Nat.reduceMul,Nat.reduceLT,reduceCtorEq,Int.reduceLT,Int.reduceLE,Int.reduceToNat,Int.reduceNeg,  hl']
theorem c67p (hg : GlNR gl) {n nt l : Nat} {live : List Nat} {ob ob0 : List (Nat × List AV)} (hr : Rest l ob ob0) (s : Bytes) (t : STok) (hl : List.lookup l ob = some [.sl 1 (s.map byteAV) t]) (hb : s.length < 4294960000) {e : Int} (hx : rdI s = .error e) :
    MCalls Tryz.prog 67 [.ptr l 0] ⟨n,ob,nt,live,gl⟩ fun o S' => o = .pan (errA e) ∧ S' = ⟨n,ob0,nt,live,gl⟩ := by
  have hl' : St.get ⟨n,ob,nt,live,gl⟩ l = some [.sl 1 (s.map byteAV) t] := hl
  refine MCalls.forget (K' := fun o S' => o = .pan (errA e) ∧ S' = ⟨n,ob,nt,live,gl⟩) ?_ (fun o S' ⟨h1,h2⟩ => ⟨_,by subst h2; exact hr.le,h1,rfl⟩)
  refine .of_run is67 (by simp) (mw_sound 200 ?_)
  have hh := c120 hg s t 0 (by omega)
  have hR : rdAt rdI s 0 = .error e := by rw [← hx]; exact rdAt_in (a := 0) rdI (Nat.zero_le _)
  rw [hR] at hh
  simp only [outR] at hh
  have he : e ≠ 0 := by rcases rdI_err hx with rfl | rfl <;> decide
  have h117 := c117p (gl := gl) (n := n) (nt := nt) (live := live) (l := l) (ob := ob) 0 e he
  repeat' first
    | with_reducible first | refine mw_as m67.eq_1 ?_ | refine .pu (hh) hg rfl ?_ | refine CallK.effPan (h117) ?_ | refine PCallK.effPan (h117) ?_ | refine ⟨?_,?_⟩ | intro _
    | simp only [go_sem,↓reduceIte,Nat.reduceAdd,Nat.reduceLeDiff,Nat.reduceEqDiff,Nat.reduceBEq,Nat.reduceBNe,Nat.reduceMul,Nat.reduceLT,reduceCtorEq,Int.reduceLT,Int.reduceLE,Int.reduceToNat,Int.reduceNeg,  hl']
theorem c65 (hg : GlNR gl) {n nt l : Nat} {live : List Nat} {ob : List (Nat × List AV)} (most : Nat) (hm : most ≤ 256) (s : Bytes) (t : STok) (hl : List.lookup l ob = some [.sl 1 (s.map byteAV) t]) (hb : s.length < 4294960000) {x : Nat} {r : Bytes} (hx : rdMany most s = .ok (x,r)) :
    MCalls Tryz.prog 65 [.ptr l 0,.int .u64 most] ⟨n,ob,nt,live,gl⟩ fun o S' => o = .ok (.int .i64 x) ∧ S' = ⟨n,(l,[.sl 1 (r.map byteAV) .exact]) :: ob,nt,live,gl⟩ := by
  have hl' : St.get ⟨n,ob,nt,live,gl⟩ l = some [.sl 1 (s.map byteAV) t] := hl
  refine .of_run is65 (by simp) (mw_sound 200 ?_)
  have hh := c119 hg s t 0 (by omega)
  obtain ⟨⟨_,hxm⟩,hsr⟩ := (codec_many most).bwd _ _ _ hx
  have hxm : x ≤ most := by simpa using hxm
  have hR : rdAt rdU s 0 = .ok (x,r) := by
    rw [show rdAt rdU s 0 = rdU s from rdAt_in (a := 0) rdU (Nat.zero_le _)]
    unfold rdMany Rd.only at hx
    split at hx
    · cases hx
    · rename_i h
      split at hx
      · injection hx with hx
        injection hx with h3 h4
        subst h3 h4
        exact h
      · cases hx
  obtain ⟨h1,h2⟩ := suffix_drop (s := s) (r := r) ⟨_,hsr⟩
  rw [hR] at hh
  simp only [outR] at hh
  have h117 := c117 (gl := gl) (n := n) (nt := nt) (live := live) (l := l) (ob := ob) s t hl _ h1
  rw [h2] at h117
  have hd : decide ((most : Int) < x) = false := decide_eq_false (by omega)
  have hw : IntKind.i64.wrap (x : Int) = x := wrap_i64_in (by omega) (by omega)
  repeat' first
    | with_reducible first | refine mw_as m65.eq_1 ?_ | refine opn m65k0.eq_1 ?_ | refine .pu (hh) hg rfl ?_ | refine CallK.eff (h117) ?_ | refine ⟨?_,?_⟩ | intro _
    | simp only [go_sem,↓reduceIte,Nat.reduceAdd,Nat.reduceLeDiff,Nat.reduceEqDiff,Nat.reduceBEq,Nat.reduceBNe,Nat.reduceMul,Nat.reduceLT,reduceCtorEq,Int.reduceLT,Int.reduceLE,Int.reduceToNat,Int.reduceNeg,  hl',hd,hw]
theorem c65p (hg : GlNR gl) {n nt l : Nat} {live : List Nat} {ob ob0 : List (Nat × List AV)} (hr : Rest l ob ob0) (most : Nat) (hm : most ≤ 256) (s : Bytes) (t : STok) (hl : List.lookup l ob = some [.sl 1 (s.map byteAV) t]) (hb : s.length < 4294960000) {e : Int} (hx : rdMany most s = .error e) :
    MCalls Tryz.prog 65 [.ptr l 0,.int .u64 most] ⟨n,ob,nt,live,gl⟩ fun o S' => o = .pan (errA e) ∧ S' = ⟨n,ob0,nt,live,gl⟩ := by
  have hl' : St.get ⟨n,ob,nt,live,gl⟩ l = some [.sl 1 (s.map byteAV) t] := hl
  refine MCalls.forget (K' := fun o S' => o = .pan (errA e) ∧ ∃ ob1,Rest l ob1 ob0 ∧ S' = ⟨n,ob1,nt,live,gl⟩) ?_ (fun o S' ⟨h1,ob1,h3,h2⟩ => ⟨_,by subst h2; exact h3.le,h1,rfl⟩)
  refine .of_run is65 (by simp) (mw_sound 200 ?_)
  have hh := c119 hg s t 0 (by omega)
  rw [show rdAt rdU s 0 = rdU s from rdAt_in (a := 0) rdU (Nat.zero_le _)] at hh
  unfold rdMany Rd.only at hx
  cases hU : rdU s with
  | error e' =>
    rw [hU] at hx hh
    injection hx with hx
    subst hx
    simp only [outR] at hh
    have he : e' ≠ 0 := by rcases rdN_err _ _ _ _ _ hU with rfl | rfl <;> decide
    have h117 := c117p (gl := gl) (n := n) (nt := nt) (live := live) (l := l) (ob := ob) 0 e' he
    repeat' first
      | with_reducible first | refine mw_as m65.eq_1 ?_ | refine opn m65k0.eq_1 ?_ | refine .pu (hh) hg rfl ?_ | refine CallK.effPan (h117) ?_ | refine PCallK.effPan (h117) ?_ | refine ⟨?_,?_⟩ | intro _
      | simp only [go_sem,↓reduceIte,Nat.reduceAdd,Nat.reduceLeDiff,Nat.reduceEqDiff,Nat.reduceBEq,Nat.reduceBNe,Nat.reduceMul,Nat.reduceLT,reduceCtorEq,Int.reduceLT,Int.reduceLE,Int.reduceToNat,Int.reduceNeg,  hl']
    rotate_left 2
    · rfl
    · exact hr
  | ok x =>
    obtain ⟨x,r⟩ := x
    rw [hU] at hx hh
    simp only [outR] at hh
    simp only at hx
    split at hx
    · cases hx
    · rename_i hxm
      injection hx with hx
      subst hx
      have hxm : most < x := by simpa using hxm
      obtain ⟨h1,h2⟩ := suffix_drop (s := s) (r := r) ⟨_,(codec_U.bwd _ _ _ hU).2⟩
      have h117 := c117 (gl := gl) (n := n) (nt := nt) (live := live) (l := l) (ob := ob) s t hl _ h1
      rw [h2] at h117
      have hd : decide ((most : Int) < x) = true := decide_eq_true (by omega)
      repeat' first
        | with_reducible first | refine mw_as m65.eq_1 ?_ | refine opn m65k0.eq_1 ?_ | refine .pu (hh) hg rfl ?_ | refine CallK.eff (h117) ?_ | refine ⟨?_,?_⟩ | intro _
        | simp only [go_sem,↓reduceIte,Nat.reduceAdd,Nat.reduceLeDiff,Nat.reduceEqDiff,Nat.reduceBEq,Nat.reduceBNe,Nat.reduceMul,Nat.reduceLT,reduceCtorEq,Int.reduceLT,Int.reduceLE,Int.reduceToNat,Int.reduceNeg,  hl',hd]
      rotate_left 2
      · rfl
      · exact hr.cons _
theorem rdF_err {s : Bytes} {e : Int} (h : rdF s = .error e) : e ≠ 0 := by
  unfold rdF at h
  split at h
  · injection h with h
    subst h
    rename_i e h
    rcases rdN_err _ _ _ _ _ h with rfl | rfl <;> decide
  · split at h
    · injection h with h; subst h; decide
    · split at h
      · injection h with h; subst h; decide
      · split at h
        · cases h
        · injection h with h; subst h; decide
theorem c63 (hg : GlNR gl) {n nt l : Nat} {live : List Nat} {ob : List (Nat × List AV)} (s : Bytes) (t : STok) (hl : List.lookup l ob = some [.sl 1 (s.map byteAV) t]) (hb : s.length < 4294960000) {x r : Bytes} (hx : rdF s = .ok (x,r)) :
    MCalls Tryz.prog 63 [.ptr l 0] ⟨n,ob,nt,live,gl⟩ fun o S' => o = .ok (.ptr n 0) ∧ S' = ⟨n + 1,(n,[.sl 1 (x.map byteAV) .unk]) :: (l,[.sl 1 (r.map byteAV) .exact]) :: ob,nt,live,gl⟩ := by
  have hl' : St.get ⟨n,ob,nt,live,gl⟩ l = some [.sl 1 (s.map byteAV) t] := hl
  refine .of_run is63 (by simp) (mw_sound 200 ?_)
  have hh := c25 hg s t 0 hb
  have hR : rdAt rdF s 0 = .ok (x,r) := by rw [← hx]; exact rdAt_in (a := 0) rdF (Nat.zero_le _)
  obtain ⟨h1,h2⟩ := suffix_drop (s := s) (r := r) ⟨_,(codec_F.bwd _ _ _ hx).2⟩
  rw [hR] at hh
  simp only [outR] at hh
  have h117 := c117 (gl := gl) (n := n) (nt := nt) (live := live) (l := l) (ob := ob) s t hl _ h1
  rw [h2] at h117
  repeat' first
    | with_reducible first | refine mw_as m63.eq_1 ?_ | refine .pu (hh) hg rfl ?_ | refine CallK.eff (h117) ?_ | refine ⟨?_,?_⟩ | intro _
    | simp only [go_sem,↓reduceIte,Nat.reduceAdd,Nat.reduceLeDiff,Nat.reduceEqDiff,Nat.reduceBEq,Nat.reduceBNe,Nat.reduceMul,Nat.reduceLT,reduceCtorEq,Int.reduceLT,Int.reduceLE,Int.reduceToNat,Int.reduceNeg,  hl']
theorem c63p (hg : GlNR gl) {n nt l : Nat} {live : List Nat} {ob ob0 : List (Nat × List AV)} (hr : Rest l ob ob0) (s : Bytes) (t : STok) (hl : List.lookup l ob = some [.sl 1 (s.map byteAV) t]) (hb : s.length < 4294960000) {e : Int} (hx : rdF s = .error e) :
    MCalls Tryz.prog 63 [.ptr l 0] ⟨n,ob,nt,live,gl⟩ fun o S' => o = .pan (errA e) ∧ S' = ⟨n,ob0,nt,live,gl⟩ := by
  have hl' : St.get ⟨n,ob,nt,live,gl⟩ l = some [.sl 1 (s.map byteAV) t] := hl
  refine MCalls.forget (K' := fun o S' => o = .pan (errA e) ∧ S' = ⟨n,ob,nt,live,gl⟩) ?_ (fun o S' ⟨h1,h2⟩ => ⟨_,by subst h2; exact hr.le,h1,rfl⟩)
  refine .of_run is63 (by simp) (mw_sound 200 ?_)
  have hh := c25 hg s t 0 hb
  have hR : rdAt rdF s 0 = .error e := by rw [← hx]; exact rdAt_in (a := 0) rdF (Nat.zero_le _)
  rw [hR] at hh
  simp only [outR] at hh
  have he : e ≠ 0 := rdF_err hx
  have h117 := c117p (gl := gl) (n := n) (nt := nt) (live := live) (l := l) (ob := ob) 0 e he
  repeat' first
    | with_reducible first | refine mw_as m63.eq_1 ?_ | refine .pu (hh) hg rfl ?_ | refine CallK.effPan (h117) ?_ | refine PCallK.effPan (h117) ?_ | refine ⟨?_,?_⟩ | intro _
    | simp only [go_sem,↓reduceIte,Nat.reduceAdd,Nat.reduceLeDiff,Nat.reduceEqDiff,Nat.reduceBEq,Nat.reduceBNe,Nat.reduceMul,Nat.reduceLT,reduceCtorEq,Int.reduceLT,Int.reduceLE,Int.reduceToNat,Int.reduceNeg,  hl']
theorem chk_err (v : Val) {r r' : Bytes} {w : Val} {e : Int} (h : chk0 v r = .error e) : e ≠ 0 := by
  unfold chk0 at h
  split at h
  · cases h
  · injection h with h; subst h; assumption
theorem rdV_err {s : Bytes} {e : Int} (h : rdV s = .error e) : e ≠ 0 := by
  unfold rdV at h
  split at h
  · injection h with h; subst h; decide
  · split at h
    · exact chk_err _ (r' := []) (w := ⟨0,0,[]⟩) h
    · split at h
      · split at h
        · injection h with h; subst h; decide
        · split at h
          · injection h with h; subst h; decide
          · exact chk_err _ (r' := []) (w := ⟨0,0,[]⟩) h
      · split at h
        · split at h
          · injection h with h
            subst h
            rename_i e h
            rcases rdI_err h with rfl | rfl <;> decide
          · exact chk_err _ (r' := []) (w := ⟨0,0,[]⟩) h
        · split at h
          · split at h
            · injection h with h
              subst h
              rename_i e h
              rcases rdT_err h with rfl | rfl <;> decide
            · exact chk_err _ (r' := []) (w := ⟨0,0,[]⟩) h
          · injection h with h; subst h; decide
def At2 (n nt : Nat) (live : List Nat) (gl ob : List (Nat × List AV)) (S' : St) : Prop := ∃ ob',(∀ l' cs,List.lookup l' ob = some cs → List.lookup l' ob' = some cs) ∧ S' = ⟨n,ob',nt,live,gl⟩
theorem c68 (hg : GlNR gl) {n nt l : Nat} {live : List Nat} {ob : List (Nat × List AV)} (hk : ∀ l' cs,List.lookup l' ob = some cs → l' < n) (s : Bytes) (t : STok) (hl : List.lookup l ob = some [.sl 1 (s.map byteAV) t]) (hb : s.length < 4294960000) {x : Val} {r : Bytes} (hx : rdV s = .ok (x,r)) :
    MCalls Tryz.prog 68 [.ptr l 0] ⟨n,ob,nt,live,gl⟩ fun o S' => o = .ok x.av ∧ S' = ⟨n + 1 + 1,(l,[.sl 1 (r.map byteAV) .exact]) :: ob,nt,live,gl⟩ := by
  have hln := hk _ _ hl
  refine MCalls.forget (K' := fun o S' => o = .ok x.av ∧ At2 (n + 1 + 1) nt live gl ((l,[.sl 1 (r.map byteAV) .exact]) :: ob) S') ?_ (fun o S' ⟨h1,ob',h3,h2⟩ => ⟨_,by subst h2; exact ⟨rfl,rfl,rfl,fun l' cs e => h3 l' cs e,fun _ h => h⟩,h1,rfl⟩)
  have g1 : (l = n) = False := eq_false (by omega)
  have g2 : (l = n + 1) = False := eq_false (by omega)
  have g3 : (n = l) = False := eq_false (by omega)
  have g4 : (n + 1 = l) = False := eq_false (by omega)
  have hl' : ∀ m,St.get ⟨m,ob,nt,live,gl⟩ l = some [.sl 1 (s.map byteAV) t] := fun _ => hl
  refine .of_run is68 (by simp) (mw_sound 200 ?_)
  have hh := c121 hg s t 0 hb
  have hR : rdAt rdV s 0 = .ok (x,r) := by rw [← hx]; exact rdAt_in (a := 0) rdV (Nat.zero_le _)
  obtain ⟨h1,h2⟩ := suffix_drop (s := s) (r := r) ⟨_,(codec_V.bwd _ _ _ hx).2⟩
  rw [hR] at hh
  simp only [outR] at hh
  have hl2 : ∀ c1 c2 c3 : List AV,List.lookup l ((n + 1,c1) :: (n + 1,c2) :: (n,c3) :: ob) = some [.sl 1 (s.map byteAV) t] := fun c1 c2 c3 => by
    simp only [lookG]
    rw [if_neg (by omega),if_neg (by omega),if_neg (by omega)]
    exact hl
  have h117 := fun c1 c2 c3 => c117 (gl := gl) (n := n + 1 + 1) (nt := nt) (live := live) (l := l) (ob := (n + 1,c1) :: (n + 1,c2) :: (n,c3) :: ob) s t (hl2 c1 c2 c3) _ h1
  rw [h2] at h117
  repeat' first
    | with_reducible first | refine mw_as m68.eq_1 ?_ | refine .pu (hh) hg rfl ?_ | refine CallK.eff (h117 _ _ _) ?_ | refine ⟨?_,?_⟩ | intro _
    | simp only [go_sem,↓reduceIte,Nat.reduceAdd,Nat.reduceLeDiff,Nat.reduceEqDiff,Nat.reduceBEq,Nat.reduceBNe,Nat.reduceMul,Nat.reduceLT,reduceCtorEq,Int.reduceLT,Int.reduceLE,Int.reduceToNat,Int.reduceNeg,  hl',hl,g1,g2,g3,g4]
  refine ⟨_,fun l' cs e => ?_,rfl⟩
  simp only [lookG] at e ⊢
  split at e
  · rename_i e1
    subst e1
    rw [if_neg (by omega),if_pos rfl]
    exact e
  · rename_i e1
    have := hk _ _ e
    rw [if_neg (by omega),if_neg e1,if_neg (by omega),if_neg (by omega),if_neg (by omega)]
    exact e
theorem c68p (hg : GlNR gl) {n nt l : Nat} {live : List Nat} {ob ob0 : List (Nat × List AV)} (hk : ∀ l' cs,List.lookup l' ob = some cs → l' < n) (hr : Rest l ob ob0) (s : Bytes) (t : STok) (hl : List.lookup l ob = some [.sl 1 (s.map byteAV) t]) (hb : s.length < 4294960000) {e : Int} (hx : rdV s = .error e) :
    MCalls Tryz.prog 68 [.ptr l 0] ⟨n,ob,nt,live,gl⟩ fun o S' => o = .pan (errA e) ∧ S' = ⟨n + 1 + 1,ob0,nt,live,gl⟩ := by
  have hln := hk _ _ hl
  refine MCalls.forget (K' := fun o S' => o = .pan (errA e) ∧ At2 (n + 1 + 1) nt live gl ob0 S') ?_ (fun o S' ⟨h1,ob',h3,h2⟩ => ⟨_,by subst h2; exact ⟨rfl,rfl,rfl,fun l' cs e => h3 l' cs e,fun _ h => h⟩,h1,rfl⟩)
  have g1 : (l = n) = False := eq_false (by omega)
  have g2 : (l = n + 1) = False := eq_false (by omega)
  have g3 : (n = l) = False := eq_false (by omega)
  have g4 : (n + 1 = l) = False := eq_false (by omega)
  have hl' : ∀ m,St.get ⟨m,ob,nt,live,gl⟩ l = some [.sl 1 (s.map byteAV) t] := fun _ => hl
  refine .of_run is68 (by simp) (mw_sound 200 ?_)
  have hh := c121 hg s t 0 hb
  have hR : rdAt rdV s 0 = .error e := by rw [← hx]; exact rdAt_in (a := 0) rdV (Nat.zero_le _)
  rw [hR] at hh
  simp only [outR] at hh
  have he : e ≠ 0 := rdV_err hx
  have h117 := fun c1 c2 c3 => c117p (gl := gl) (n := n + 1 + 1) (nt := nt) (live := live) (l := l) (ob := (n + 1,c1) :: (n + 1,c2) :: (n,c3) :: ob) 0 e he
  repeat' first
    | with_reducible first | refine mw_as m68.eq_1 ?_ | refine .pu (hh) hg rfl ?_ | refine CallK.effPan (h117 _ _ _) ?_ | refine PCallK.effPan (h117 _ _ _) ?_ | refine ⟨?_,?_⟩ | intro _
    | simp only [go_sem,↓reduceIte,Nat.reduceAdd,Nat.reduceLeDiff,Nat.reduceEqDiff,Nat.reduceBEq,Nat.reduceBNe,Nat.reduceMul,Nat.reduceLT,reduceCtorEq,Int.reduceLT,Int.reduceLE,Int.reduceToNat,Int.reduceNeg,  hl',hl,g1,g2,g3,g4]
  refine ⟨_,fun l' cs e => ?_,rfl⟩
  obtain ⟨_,h5⟩ := hr _ _ e
  have := hk _ _ h5
  simp only [lookG]
  rw [if_neg (by omega),if_neg (by omega),if_neg (by omega)]
  exact h5
end Go.Proofs.YtdjdhecanjmchaaGreatDoor
