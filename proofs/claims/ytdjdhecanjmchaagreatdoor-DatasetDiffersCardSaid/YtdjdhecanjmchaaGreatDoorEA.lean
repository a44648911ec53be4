/- Contract: Decode. -/
import Derived.Test.YtdjdhecanjmchaaGreatDoorFa
import Derived.Test.YtdjdhecanjmchaaGreatDoorFb
import Derived.Test.YtdjdhecanjmchaaGreatDoorFc
import Derived.Test.YtdjdhecanjmchaaGreatDoorHa
import Derived.Test.YtdjdhecanjmchaaGreatDoorE9
set_option linter.unusedSimpArgs false
set_option linter.unusedVariables false
namespace Go.Proofs.YtdjdhecanjmchaaGreatDoor
open Go Go.V Go.Lib
set_option maxRecDepth 40000
attribute [local go_sem ↓] keepK Opd.ev MK.ev MK.ob gsA
attribute [local go_sem high] gsB
attribute [local go_sem] binEv binOb intOp strOp unEv eqvEv eqCells eqCell noBld tasEv AV.there AV.plus pickCells storeEv AV.solid AV.cells splice putParts rowOK fldEv iarrEv extEv minEv nonNil lenEv isStr appEv appOb appArg slVecEv slVecOb slStrEv slStrOb bnd argF endQ rvsEv rvEv resOf St.none if_true if_false ite_self eq_self ne_eq implies_true forall_const Lab.av Val.av Exa.av Dset.av Req.av gsC
variable {gl : List (Nat × List AV)}
abbrev zeroD : List AV := [.str [],.sl 1 [] .exact,.sl 4 [] .exact]
theorem c62e {S : St} {x y z : AV} {w e : Int} (hp : S.get 0 = some [x,y,z]) (hq : S.get 1 = some [.int .i64 w]) : MCallsD Tryz.prog 62 [.ptr 0 0,.ptr 1 0] S (some (errA e)) fun o S' => o = .ok (.tup []) ∧ S' = (S.set 0 zeroD).set 1 [.int .i64 e] := by
  have hq2 : (S.set 0 zeroD).get 1 = some [.int .i64 w] := by
    show List.lookup 1 ((0,_) :: S.obj) = _
    rw [lookG,if_neg (by decide)]
    exact hq
  refine MCallsD.of_run is62 (by simp) ?_
  unfold m62
  refine .seq (.rcv ?_)
  simp only [go_sem,↓reduceIte,Nat.reduceAdd,Nat.reduceLeDiff,Nat.reduceEqDiff,Nat.reduceBEq,Nat.reduceBNe,Nat.reduceMul,Nat.reduceLT,reduceCtorEq,Int.reduceLT,Int.reduceLE,Int.reduceToNat,Int.reduceNeg,Option.getD_some]
  refine mw_sound 200 ?_
  repeat' first
    | with_reducible first | refine mw_as m62.eq_1 ?_ | refine opn m62k0.eq_1 ?_ | refine ⟨?_,?_⟩ | intro _
    | simp only [go_sem,↓reduceIte,Nat.reduceAdd,Nat.reduceLeDiff,Nat.reduceEqDiff,Nat.reduceBEq,Nat.reduceBNe,Nat.reduceMul,Nat.reduceLT,reduceCtorEq,Int.reduceLT,Int.reduceLE,Int.reduceToNat,Int.reduceNeg,  hp,hq,hq2,cmp_en,errA]
  all_goals (rename_i h; cases h)
theorem c62n {S : St} : MCallsD Tryz.prog 62 [.ptr 0 0,.ptr 1 0] S none fun o S' => o = .ok (.tup []) ∧ S' = S := by
  refine MCallsD.of_run is62 (by simp) ?_
  unfold m62
  refine .seq (.rcv ?_)
  simp only [go_sem,↓reduceIte,Nat.reduceAdd,Nat.reduceLeDiff,Nat.reduceEqDiff,Nat.reduceBEq,Nat.reduceBNe,Nat.reduceMul,Nat.reduceLT,reduceCtorEq,Int.reduceLT,Int.reduceLE,Int.reduceToNat,Int.reduceNeg,Option.getD_none]
  refine mw_sound 200 ?_
  repeat' first
    | with_reducible first | refine mw_as m62.eq_1 ?_ | refine opn m62k0.eq_1 ?_ | refine ⟨?_,?_⟩ | intro _
    | simp only [go_sem,↓reduceIte,Nat.reduceAdd,Nat.reduceLeDiff,Nat.reduceEqDiff,Nat.reduceBEq,Nat.reduceBNe,Nat.reduceMul,Nat.reduceLT,reduceCtorEq,Int.reduceLT,Int.reduceLE,Int.reduceToNat,Int.reduceNeg,  cmp_nn]
  all_goals (rename_i h; cases h)
def finL (ent : Bytes) (fs : List Bytes) (xs : List Exa) (r : Bytes) : Except Int Dset := match r with
  | [] => if formB ⟨ent,fs,xs⟩ then .ok ⟨ent,fs,xs⟩ else .error 3
  | _ :: _ => .error 3
def decL (ent : Bytes) (fs : List Bytes) (xs : List Exa) (c m : Nat) (r0 : Bytes) : Except Int Dset := match (rdIn (rdLine c)).rep m r0 with
  | .error e => .error e
  | .ok (l,r) => finL ent fs (xs ++ l) r
theorem decB_eq (b : Bytes) : decB b = match rdF b with
    | .error e => .error e
    | .ok (p,r0) => match rdT p with
      | .error e => .error e
      | .ok (ent,p1) => match rdMany 8 p1 with
        | .error e => .error e
        | .ok (c,p2) => match rdT.rep c p2 with
          | .error e => .error e
          | .ok (fs,p3) => match rdMany 256 p3 with
            | .error e => .error e
            | .ok (m,p4) => match p4 with
              | [] => decL ent fs [] c m r0
              | _ :: _ => .error 3 := by
  unfold decB rdDset Rd.map Rd.pair Rd.bind rdIn rdHead decL finL
  simp only [Rd.map,Rd.pair,Rd.bind]
  cases rdF b with
  | error e => rfl
  | ok x =>
    obtain ⟨p,r0⟩ := x
    simp only
    cases rdT p with
    | error e => rfl
    | ok x =>
      obtain ⟨ent,p1⟩ := x
      simp only
      cases rdMany 8 p1 with
      | error e => rfl
      | ok x =>
        obtain ⟨c,p2⟩ := x
        simp only
        cases rdT.rep c p2 with
        | error e => rfl
        | ok x =>
          obtain ⟨fs,p3⟩ := x
          simp only
          cases rdMany 256 p3 with
          | error e => rfl
          | ok x =>
            obtain ⟨m,p4⟩ := x
            simp only
            cases p4 with
            | cons => rfl
            | nil =>
              simp only [List.nil_append]
              cases hL : (rdIn (rdLine c)).rep m r0 with
              | error e =>
                unfold rdIn at hL
                simp only [hL]
              | ok x =>
                obtain ⟨l,r⟩ := x
                unfold rdIn at hL
                simp only [hL]
                cases r <;> rfl
theorem rdLine_eq (c : Nat) (s : Bytes) : rdIn (rdLine c) s = match rdF s with
    | .error e => .error e
    | .ok (p,r) => match rdT p with
      | .error e => .error e
      | .ok (k,p1) => match rdI p1 with
        | .error e => .error e
        | .ok (e,p2) => match rdI p2 with
          | .error e => .error e
          | .ok (n,p3) => match rdV.rep c p3 with
            | .error e => .error e
            | .ok (vs,p4) => match p4 with
              | [] => .ok (⟨⟨k,e,n⟩,vs⟩,r)
              | _ :: _ => .error 3 := by
  unfold rdIn rdLine Rd.map Rd.pair Rd.bind
  simp only [Rd.map,Rd.pair,Rd.bind]
  cases rdF s with
  | error e => rfl
  | ok x =>
    obtain ⟨p,r⟩ := x
    simp only
    cases rdT p with
    | error e => rfl
    | ok x =>
      obtain ⟨k,p1⟩ := x
      simp only
      cases rdI p1 with
      | error e => rfl
      | ok x =>
        obtain ⟨e,p2⟩ := x
        simp only
        cases rdI p2 with
        | error e => rfl
        | ok x =>
          obtain ⟨n,p3⟩ := x
          simp only
          cases rdV.rep c p3 with
          | error e => rfl
          | ok x =>
            obtain ⟨vs,p4⟩ := x
            simp only
            cases p4 <;> rfl
abbrev zeroA : AV := .agg [.str [],.sl 1 [] .unk,.sl 4 [] .unk]
def decAV : Except Int Dset → AV
  | .ok d => .tup [d.av,.int .i64 0]
  | .error e => .tup [zeroA,.int .i64 e]
theorem nr_zeroA : NoRef zeroA = True := by simp only [nrs,forall_eq_or_imp,forall_eq,implies_true,NoRef.sl_unk,List.not_mem_nil,false_implies,implies_true]
theorem nr_decAV (R : Except Int Dset) : NoRef (decAV R) = True := by
  cases R with
  | error e => simp only [decAV,nrs,forall_eq_or_imp,forall_eq,implies_true,nr_zeroA]
  | ok d => simp only [decAV,nrs,forall_eq_or_imp,forall_eq,implies_true]
abbrev dfD : Dfs := [(Fn.func 62,[],[AV.ptr 0 0,AV.ptr 1 0])]
theorem panD {e : Int} {n nt : Nat} {ob : List (Nat × List AV)} {live : List Nat} {F : Fr} {x y z : AV} {w : Int} (h2 : F.lookup 2 = some (.ptr 0 0)) (h3 : F.lookup 3 = some (.ptr 1 0)) (h0 : ob.lookup 0 = some [x,y,z]) (h1 : ob.lookup 1 = some [.int .i64 w]) :
    endQD Tryz.prog [RV.c 2 3 true,RV.c 3 1 false] (fun o' _ => FgOut o' (decAV (.error e))) (some (errA e)) [(Fn.func 62,[],[AV.ptr 0 0,AV.ptr 1 0])] F ⟨n,ob,nt,live,gl⟩ := by
  refine ⟨62,rfl,Tryz.call62,(c62e (S := ⟨n,ob,nt,live,gl⟩) h0 h1).mono fun o S' h => ?_⟩
  obtain ⟨rfl,rfl⟩ := h
  simp only [rvsEv,rvEv,Fr.get,h2,h3]
  refine FgOut.mk' ?_
  show AV.fg (.tup [.agg zeroD,.int .i64 e]) = _
  simp only [decAV,fgs]
theorem ckQ (K : Out → St → Prop) (ds : List Nat) (h : (ds.contains 2 || ds.contains 3) = false) : QPin (endQD Tryz.prog [RV.c 2 3 true,RV.c 3 1 false] K) ds := by
  refine QPin_endQD ?_
  simp only [Bool.or_eq_false_iff] at h
  simp only [List.all_cons,List.all_nil,RV.slot,h.1,h.2,Bool.not_false,Bool.and_self]
def pre {α : Type} (acc : List α) (R : Except Int (List α × Bytes)) : Except Int (List α × Bytes) := match R with
  | .error e => .error e
  | .ok (l,r) => .ok (acc ++ l,r)
theorem rep_succ {α : Type} {rd : Rd α} {n : Nat} {s : Bytes} : rd.rep (n + 1) s = match rd s with
    | .error e => .error e
    | .ok (a,r) => match rd.rep n r with
      | .error e => .error e
      | .ok (l,r') => .ok (a :: l,r') := by
  show (rd.bind fun a => (rd.rep n).map fun l => a :: l) s = _
  unfold Rd.bind Rd.map
  cases rd s with
  | error e => rfl
  | ok x =>
    obtain ⟨a,r⟩ := x
    simp only
    cases rd.rep n r <;> rfl
theorem pre_err {α : Type} {rd : Rd α} {acc : List α} {n : Nat} {s : Bytes} {e : Int} (h : rd s = .error e) : pre acc (rd.rep (n + 1) s) = .error e := by
  rw [rep_succ,h]
  rfl
theorem pre_ok {α : Type} {rd : Rd α} {acc : List α} {n : Nat} {s r : Bytes} {x : α} (h : rd s = .ok (x,r)) : pre acc (rd.rep (n + 1) s) = pre (acc ++ [x]) (rd.rep n r) := by
  rw [rep_succ,h]
  simp only
  cases rd.rep n r with
  | error e => rfl
  | ok y => simp [pre]
theorem pre_zero {α : Type} {rd : Rd α} {acc : List α} {s : Bytes} : pre acc (rd.rep 0 s) = .ok (acc,s) := by simp [pre,Rd.rep]
def k1 (ent : Bytes) (c : Nat) (r0 : Bytes) (R : Except Int (List Bytes × Bytes)) : Except Int Dset := match R with
  | .error e => .error e
  | .ok (fs,p3) => match rdMany 256 p3 with
    | .error e => .error e
    | .ok (m,p4) => match p4 with
      | [] => decL ent fs [] c m r0
      | _ :: _ => .error 3
def k2 (ent : Bytes) (fs : List Bytes) (R : Except Int (List Exa × Bytes)) : Except Int Dset := match R with
  | .error e => .error e
  | .ok (l,r) => finL ent fs l r
theorem decL_eq (ent : Bytes) (fs : List Bytes) (c m : Nat) (r0 : Bytes) : decL ent fs [] c m r0 = k2 ent fs (pre [] ((rdIn (rdLine c)).rep m r0)) := by
  unfold decL k2 pre
  cases (rdIn (rdLine c)).rep m r0 <;> rfl
def k3 (lab : Lab) (r : Bytes) (R : Except Int (List Val × Bytes)) : Except Int (Exa × Bytes) := match R with
  | .error e => .error e
  | .ok (vs,p4) => match p4 with
    | [] => .ok (⟨lab,vs⟩,r)
    | _ :: _ => .error 3
theorem k3_nil (lab : Lab) (r : Bytes) (vs : List Val) : k3 lab r (.ok (vs,[])) = .ok (⟨lab,vs⟩,r) := rfl
theorem k3_cons (lab : Lab) (r : Bytes) (vs : List Val) (y : UInt8) (ys : Bytes) : k3 lab r (.ok (vs,y :: ys)) = .error 3 := rfl
def Sep (live : List Nat) (nt : Nat) (tk tv : STok) : Prop := AbT live tk ∧ AbT live tv ∧ ∀ a,tk = .tok a → a < nt ∧ tv ≠ .tok a
theorem Sep.next {live : List Nat} {nt : Nat} {tk tv : STok} (h : Sep live nt tk tv) : Sep (nt :: useL live tv) (nt + 1) tk (.tok nt) := by
  obtain ⟨h1,h2,h3⟩ := h
  refine ⟨?_,.inr ⟨nt,rfl,List.mem_cons_self⟩,fun a ha => ?_⟩
  · rcases h1 with rfl | ⟨a,rfl,ha⟩
    · exact .inl rfl
    · obtain ⟨h4,h5⟩ := h3 a rfl
      refine .inr ⟨a,rfl,List.mem_cons_of_mem _ ?_⟩
      rcases h2 with rfl | ⟨v,rfl,hv⟩
      · exact ha
      · refine List.mem_filter.2 ⟨ha,?_⟩
        simp only [bne_iff_ne,ne_eq]
        intro e
        subst e
        exact h5 rfl
  · have := (h3 a ha).1
    refine ⟨by omega,fun e => ?_⟩
    injection e with e
    omega
abbrev dObj (ent : Bytes) (fs : List Bytes) (tf : STok) (xs : List Exa) (tk : STok) : List AV := [.str ent,.sl 1 (fs.map AV.str) tf,.sl 4 (xs.map Exa.av) tk]
theorem keep_line {nn : Nat} (hn : 3 ≤ nn) {x8 y3 x6 y2 x4 y1 x2 y0 r2 q2 z1 d0 : List AV} : ∀ l cs,List.lookup l [(nn + 1,x8),(nn,y3),(2,r2),(1,z1),(0,d0)] = some cs →
    List.lookup l [(nn + 1,x8),(nn,y3),(nn + 1,x6),(nn,y2),(nn + 1,x4),(nn,y1),(nn + 1,x2),(nn,y0),(2,r2),(2,q2),(1,z1),(0,d0)] = some cs := by
  intro l cs h
  simp only [lookG] at h ⊢
  grind
theorem keys_line {nn mm : Nat} (hm : nn + 1 + 1 ≤ mm) (hn : 3 ≤ nn) {x y r z d : List AV} : ∀ l cs,List.lookup l [(nn + 1,x),(nn,y),(2,r),(1,z),(0,d)] = some cs → l < mm := by
  intro l cs h
  simp only [lookG] at h
  grind
theorem rest_line {nn : Nat} (hn : 3 ≤ nn) {x y r z d : List AV} : Rest nn [(nn + 1,x),(nn,y),(2,r),(1,z),(0,d)] [(1,z),(0,d)] := by
  intro l cs h
  simp only [lookG] at h ⊢
  grind
theorem imp_line {nn : Nat} {x x' y r z d : List AV} (hx' : isBld x' = false) (hx : isBld x = false) (hy : isBld y = false) (hr : isBld r = false) (hz : isBld z = false) (hd : isBld d = false)
    (hle : ∀ (m : Nat) (c : AV),x'[m]? = some c → ∃ c0,x[m]? = some c0 ∧ c0.Le c) : ∀ l cs',List.lookup l [(nn + 1,x'),(nn,y),(2,r),(1,z),(0,d)] = some cs' →
    isBld cs' = false ∧ ∃ cs,List.lookup l [(nn + 1,x),(nn,y),(2,r),(1,z),(0,d)] = some cs ∧ isBld cs = false ∧ ∀ (m : Nat) (c : AV),cs'[m]? = some c → ∃ c0,cs[m]? = some c0 ∧ c0.Le c := by
  intro l cs' h
  simp only [lookG,List.lookup_nil] at h ⊢
  split at h
  · rename_i e
    injection h with h
    subst h
    exact ⟨hx',x,by rw [if_pos e],hx,hle⟩
  · rename_i e1
    have key : ∀ c0 : List AV,isBld c0 = false → cs' = c0 → isBld cs' = false ∧ ∀ (m : Nat) (c : AV),cs'[m]? = some c → ∃ c1,c0[m]? = some c1 ∧ c1.Le c := fun c0 h1 h2 => by subst h2; exact ⟨h1,fun m c h => ⟨c,h,AV.Le.refl c⟩⟩
    rw [if_neg e1]
    refine ⟨?_,cs',h,?_,fun m c h => ⟨c,h,AV.Le.refl c⟩⟩
    all_goals
      split at h
      · injection h with h; subst h; exact hy
      · split at h
        · injection h with h; subst h; exact hr
        · split at h
          · injection h with h; subst h; exact hz
          · split at h
            · injection h with h; subst h; exact hd
            · cases h
theorem tok_le (a b c : AV) (xs : List Val) (tv : STok) : ∀ (m : Nat) (x : AV),[a,b,c,.sl 3 (xs.map Val.av) .unk][m]? = some x → ∃ c0,[a,b,c,.sl 3 (xs.map Val.av) tv][m]? = some c0 ∧ c0.Le x := by
  intro m x h
  match m with
  | 0 => exact ⟨_,h,AV.Le.refl _⟩
  | 1 => exact ⟨_,h,AV.Le.refl _⟩
  | 2 => exact ⟨_,h,AV.Le.refl _⟩
  | 3 =>
    injection h with h
    subst h
    have := AV.Le.fg (.sl 3 (xs.map Val.av) tv)
    simp only [fgs] at this
    exact ⟨_,rfl,this⟩
  | m + 4 => simp at h
theorem keep_val {nn : Nat} {x x' y y' r z d : List AV} : ∀ l cs,List.lookup l [(nn + 1,x'),(nn,y'),(2,r),(1,z),(0,d)] = some cs → List.lookup l [(nn + 1,x'),(nn,y'),(nn + 1,x),(nn,y),(2,r),(1,z),(0,d)] = some cs := by
  intro l cs h
  simp only [lookG] at h ⊢
  grind
theorem keep_dset {nn : Nat} (hn : 3 ≤ nn) {x y r z d d' : List AV} : ∀ l cs,List.lookup l [(2,r),(1,z),(0,d')] = some cs → List.lookup l [(0,d'),(nn + 1,x),(nn,y),(2,r),(1,z),(0,d)] = some cs := by
  intro l cs h
  simp only [lookG] at h ⊢
  grind
def SmX (x : Exa) : Prop := x.lab.k.length ≤ 8192 ∧ x.vs.length ≤ 8 ∧ ∀ v ∈ x.vs,v.s.length ≤ 64
theorem line_small {c : Nat} (hc : c ≤ 8) {q r : Bytes} {x : Exa} (h : rdIn (rdLine c) q = .ok (x,r)) : SmX x ∧ r.length ≤ q.length := by
  obtain ⟨⟨⟨_,_,_,h4,h5⟩,h6⟩,h7⟩ := (codec_in (codec_line c)).bwd _ _ _ h
  refine ⟨⟨?_,by omega,fun v hv => ?_⟩,by rw [h7]; simp⟩
  · simp only [lineE,textE,List.length_append] at h6
    omega
  · have h8 := h5 v hv
    rcases chk_kinds h8 with (h9 | h9) | h9 | h9
    · rw [h9.2.2]; simp
    · rw [h9.2.2]; simp
    · rw [h9.2.1]; simp
    · exact h9.2.2
section lines
set_option maxHeartbeats 4000000
variable (hg : GlNR gl) {W : Except Int Dset} {ent : Bytes} {fs : List Bytes} {c m : Nat}
include hg
theorem lineA {j : Nat} (hj : j < m) {acc : List Exa} {q : Bytes} {tf tk tq : STok} {nn nt : Nat} {live : List Nat} (hn : 3 ≤ nn) (hq : q.length ≤ 100000000) (hal : acc.length ≤ j)
    (hE : ∀ e,rdIn (rdLine c) q = .error e → W = .error e)
    (hO : ∀ p r k e n p3,rdF q = .ok (p,r) → r.length ≤ q.length → p3.length ≤ 8192 → rdIn (rdLine c) q = k3 ⟨k,e,n⟩ r (pre [] (rdV.rep c p3)) →
      MRun Tryz.prog 80 [MI.code m24l1.loop,MI.inBlock 4,MI.code (MC.named [2,3,4,6,8,9,36,37] m24k0),MI.inBlock 3,MI.code (MC.named [2,3,4,6,36,37] m24k1),MI.inLoop m24l2,MI.inBlock 2,MI.code (MC.named [2,3,4] m24k3)] dfD
        [(2,AV.ptr 0 0),(3,AV.ptr 1 0),(4,AV.ptr 2 0),(6,AV.int IntKind.i64 ↑c),(8,AV.ptr nn 0),(9,AV.ptr (nn + 1) 0),(36,AV.int IntKind.i64 ↑m),(37,AV.int IntKind.i64 ↑j),(53,AV.int IntKind.i64 ↑c),(54,AV.int IntKind.i64 0)]
        ⟨nn + 1 + 1,[(nn + 1,[.str k,.int .i64 e,.int .i64 n,.sl 3 [] .exact]),(nn,[.sl 1 (p3.map byteAV) .exact]),(2,[.sl 1 (r.map byteAV) .exact]),(1,[.int .i64 0]),(0,dObj ent fs tf acc tk)],nt,live,gl⟩
        (endQD Tryz.prog [RV.c 2 3 true,RV.c 3 1 false] fun o' _ => FgOut o' (decAV W))) :
    MRun Tryz.prog 80 [MI.code m24l2,MI.inLoop m24l2,MI.inBlock 2,MI.code (MC.named [2,3,4] m24k3)] dfD
      [(2,AV.ptr 0 0),(3,AV.ptr 1 0),(4,AV.ptr 2 0),(6,AV.int IntKind.i64 ↑c),(36,AV.int IntKind.i64 ↑m),(37,AV.int IntKind.i64 ↑j)]
      ⟨nn,[(2,[.sl 1 (q.map byteAV) tq]),(1,[.int .i64 0]),(0,dObj ent fs tf acc tk)],nt,live,gl⟩
      (endQD Tryz.prog [RV.c 2 3 true,RV.c 3 1 false] fun o' _ => FgOut o' (decAV W)) := by
  have a1 : (nn = 0) = False := eq_false (by omega)
  have a2 : (nn = 1) = False := eq_false (by omega)
  have a3 : (nn = 2) = False := eq_false (by omega)
  have a4 : (0 = nn) = False := eq_false (by omega)
  have a5 : (1 = nn) = False := eq_false (by omega)
  have a6 : (2 = nn) = False := eq_false (by omega)
  have b1 : (nn + 1 = 0) = False := eq_false (by omega)
  have b2 : (nn + 1 = 1) = False := eq_false (by omega)
  have b3 : (nn + 1 = 2) = False := eq_false (by omega)
  have b4 : (0 = nn + 1) = False := eq_false (by omega)
  have b5 : (1 = nn + 1) = False := eq_false (by omega)
  have b6 : (2 = nn + 1) = False := eq_false (by omega)
  have hL := rdLine_eq c q
  refine opn m24l2.eq_1 ?_
  cases hF : rdF q with
  | error e =>
    rw [hF] at hL
    obtain rfl := hE e hL
    have h63 := c63p (gl := gl) hg (n := nn) (nt := nt) (live := live) (l := 2) (ob := [(2,[.sl 1 (q.map byteAV) tq]),(1,[.int .i64 0]),(0,dObj ent fs tf acc tk)]) (ob0 := [(1,[.int .i64 0]),(0,dObj ent fs tf acc tk)]) (by intro l' cs e; simp only [lookG] at e ⊢; grind) q tq rfl (by omega) hF
    repeat' first
      | with_reducible first | refine mw_as m24.eq_1 ?_ | refine opn m24k0.eq_1 ?_ | refine opn m24k1.eq_1 ?_ | refine opn m24k2.eq_1 ?_ | refine opn m24k3.eq_1 ?_ | refine opn m24k4.eq_1 ?_ | refine CallK.effPan (h63) ?_ | refine PCallK.effPan (h63) ?_ | refine ⟨?_,?_⟩ | intro _
      | simp only [go_sem,↓reduceIte,Nat.reduceAdd,Nat.reduceLeDiff,Nat.reduceEqDiff,Nat.reduceBEq,Nat.reduceBNe,Nat.reduceMul,Nat.reduceLT,reduceCtorEq,Int.reduceLT,Int.reduceLE,Int.reduceToNat,Int.reduceNeg,  ltB hj]
    exact panD rfl rfl rfl rfl
  | ok x =>
  obtain ⟨p,r⟩ := x
  rw [hF] at hL
  simp only at hL
  obtain ⟨hpl,hbl⟩ := codec_F.bwd _ _ _ hF
  have hr0 : r.length ≤ q.length := by rw [hbl]; simp
  have h63 := c63 (gl := gl) hg (n := nn) (nt := nt) (live := live) (l := 2) (ob := [(2,[.sl 1 (q.map byteAV) tq]),(1,[.int .i64 0]),(0,dObj ent fs tf acc tk)]) q tq rfl (by omega) hF
  cases hT : rdT p with
  | error e =>
    rw [hT] at hL
    obtain rfl := hE e hL
    have hh := c64p (gl := gl) hg (n := nn + 1 + 1) (nt := nt) (live := live) (l := nn) (ob := [(nn + 1,[.str [],.int .i64 0,.int .i64 0,.sl 3 [] .exact]),(nn,[.sl 1 (p.map byteAV) .unk]),(2,[.sl 1 (r.map byteAV) .exact]),(2,[.sl 1 (q.map byteAV) tq]),(1,[.int .i64 0]),(0,dObj ent fs tf acc tk)]) (ob0 := [(1,[.int .i64 0]),(0,dObj ent fs tf acc tk)]) (by intro l' cs e; simp only [lookG] at e ⊢; grind) p .unk (by simp [lookG]) (by omega) hT
    repeat' first
      | with_reducible first | refine mw_as m24.eq_1 ?_ | refine opn m24k0.eq_1 ?_ | refine opn m24k1.eq_1 ?_ | refine opn m24k2.eq_1 ?_ | refine opn m24k3.eq_1 ?_ | refine opn m24k4.eq_1 ?_ | refine CallK.eff (h63) ?_ | refine CallK.effPan (hh) ?_ | refine PCallK.effPan (hh) ?_ | refine ⟨?_,?_⟩ | intro _
      | simp only [go_sem,↓reduceIte,Nat.reduceAdd,Nat.reduceLeDiff,Nat.reduceEqDiff,Nat.reduceBEq,Nat.reduceBNe,Nat.reduceMul,Nat.reduceLT,reduceCtorEq,Int.reduceLT,Int.reduceLE,Int.reduceToNat,Int.reduceNeg,  ltB hj,a1,a2,a3,a4,a5,a6,b1,b2,b3,b4,b5,b6]
    exact panD rfl rfl rfl rfl
  | ok x =>
  obtain ⟨k,p1⟩ := x
  rw [hT] at hL
  simp only at hL
  have hp1 : p1.length ≤ p.length := by rw [(codec_T.bwd _ _ _ hT).2]; simp
  have h64 := c64 (gl := gl) hg (n := nn + 1 + 1) (nt := nt) (live := live) (l := nn) (ob := [(nn + 1,[.str [],.int .i64 0,.int .i64 0,.sl 3 [] .exact]),(nn,[.sl 1 (p.map byteAV) .unk]),(2,[.sl 1 (r.map byteAV) .exact]),(2,[.sl 1 (q.map byteAV) tq]),(1,[.int .i64 0]),(0,dObj ent fs tf acc tk)]) p .unk (by simp [lookG]) (by omega) hT
  cases hI : rdI p1 with
  | error e =>
    rw [hI] at hL
    obtain rfl := hE e hL
    have hh := c67p (gl := gl) hg (n := nn + 1 + 1) (nt := nt) (live := live) (l := nn) (ob := [(nn + 1,[.str k,.int .i64 0,.int .i64 0,.sl 3 [] .exact]),(nn,[.sl 1 (p1.map byteAV) .exact]),(nn + 1,[.str [],.int .i64 0,.int .i64 0,.sl 3 [] .exact]),(nn,[.sl 1 (p.map byteAV) .unk]),(2,[.sl 1 (r.map byteAV) .exact]),(2,[.sl 1 (q.map byteAV) tq]),(1,[.int .i64 0]),(0,dObj ent fs tf acc tk)]) (ob0 := [(1,[.int .i64 0]),(0,dObj ent fs tf acc tk)]) (by intro l' cs e; simp only [lookG] at e ⊢; grind) p1 .exact (by simp [lookG]) (by omega) hI
    repeat' first
      | with_reducible first | refine mw_as m24.eq_1 ?_ | refine opn m24k0.eq_1 ?_ | refine opn m24k1.eq_1 ?_ | refine opn m24k2.eq_1 ?_ | refine opn m24k3.eq_1 ?_ | refine opn m24k4.eq_1 ?_ | refine CallK.eff (h63) ?_ | refine CallK.eff (h64) ?_ | refine CallK.effPan (hh) ?_ | refine PCallK.effPan (hh) ?_ | refine ⟨?_,?_⟩ | intro _
      | simp only [go_sem,↓reduceIte,Nat.reduceAdd,Nat.reduceLeDiff,Nat.reduceEqDiff,Nat.reduceBEq,Nat.reduceBNe,Nat.reduceMul,Nat.reduceLT,reduceCtorEq,Int.reduceLT,Int.reduceLE,Int.reduceToNat,Int.reduceNeg,  ltB hj,a1,a2,a3,a4,a5,a6,b1,b2,b3,b4,b5,b6]
    exact panD rfl rfl rfl rfl
  | ok x =>
  obtain ⟨e,p2⟩ := x
  rw [hI] at hL
  simp only at hL
  have hp2 : p2.length ≤ p1.length := by rw [(codec_I.bwd _ _ _ hI).2]; simp
  have h67 := c67 (gl := gl) hg (n := nn + 1 + 1) (nt := nt) (live := live) (l := nn) (ob := [(nn + 1,[.str k,.int .i64 0,.int .i64 0,.sl 3 [] .exact]),(nn,[.sl 1 (p1.map byteAV) .exact]),(nn + 1,[.str [],.int .i64 0,.int .i64 0,.sl 3 [] .exact]),(nn,[.sl 1 (p.map byteAV) .unk]),(2,[.sl 1 (r.map byteAV) .exact]),(2,[.sl 1 (q.map byteAV) tq]),(1,[.int .i64 0]),(0,dObj ent fs tf acc tk)]) p1 .exact (by simp [lookG]) (by omega) hI
  cases hJ : rdI p2 with
  | error e' =>
    rw [hJ] at hL
    obtain rfl := hE _ hL
    have hh := c67p (gl := gl) hg (n := nn + 1 + 1) (nt := nt) (live := live) (l := nn) (ob := [(nn + 1,[.str k,.int .i64 e,.int .i64 0,.sl 3 [] .exact]),(nn,[.sl 1 (p2.map byteAV) .exact]),(nn + 1,[.str k,.int .i64 0,.int .i64 0,.sl 3 [] .exact]),(nn,[.sl 1 (p1.map byteAV) .exact]),(nn + 1,[.str [],.int .i64 0,.int .i64 0,.sl 3 [] .exact]),(nn,[.sl 1 (p.map byteAV) .unk]),(2,[.sl 1 (r.map byteAV) .exact]),(2,[.sl 1 (q.map byteAV) tq]),(1,[.int .i64 0]),(0,dObj ent fs tf acc tk)]) (ob0 := [(1,[.int .i64 0]),(0,dObj ent fs tf acc tk)]) (by intro l' cs e; simp only [lookG] at e ⊢; grind) p2 .exact (by simp [lookG]) (by omega) hJ
    repeat' first
      | with_reducible first | refine mw_as m24.eq_1 ?_ | refine opn m24k0.eq_1 ?_ | refine opn m24k1.eq_1 ?_ | refine opn m24k2.eq_1 ?_ | refine opn m24k3.eq_1 ?_ | refine opn m24k4.eq_1 ?_ | refine CallK.eff (h63) ?_ | refine CallK.eff (h64) ?_ | refine CallK.eff (h67) ?_ | refine CallK.effPan (hh) ?_ | refine PCallK.effPan (hh) ?_ | refine ⟨?_,?_⟩ | intro _
      | simp only [go_sem,↓reduceIte,Nat.reduceAdd,Nat.reduceLeDiff,Nat.reduceEqDiff,Nat.reduceBEq,Nat.reduceBNe,Nat.reduceMul,Nat.reduceLT,reduceCtorEq,Int.reduceLT,Int.reduceLE,Int.reduceToNat,Int.reduceNeg,  ltB hj,a1,a2,a3,a4,a5,a6,b1,b2,b3,b4,b5,b6]
    exact panD rfl rfl rfl rfl
  | ok x =>
  obtain ⟨n,p3⟩ := x
  rw [hJ] at hL
  simp only at hL
  have hp3 : p3.length ≤ p2.length := by rw [(codec_I.bwd _ _ _ hJ).2]; simp
  have h67b := c67 (gl := gl) hg (n := nn + 1 + 1) (nt := nt) (live := live) (l := nn) (ob := [(nn + 1,[.str k,.int .i64 e,.int .i64 0,.sl 3 [] .exact]),(nn,[.sl 1 (p2.map byteAV) .exact]),(nn + 1,[.str k,.int .i64 0,.int .i64 0,.sl 3 [] .exact]),(nn,[.sl 1 (p1.map byteAV) .exact]),(nn + 1,[.str [],.int .i64 0,.int .i64 0,.sl 3 [] .exact]),(nn,[.sl 1 (p.map byteAV) .unk]),(2,[.sl 1 (r.map byteAV) .exact]),(2,[.sl 1 (q.map byteAV) tq]),(1,[.int .i64 0]),(0,dObj ent fs tf acc tk)]) p2 .exact (by simp [lookG]) (by omega) hJ
  have hX : rdIn (rdLine c) q = k3 ⟨k,e,n⟩ r (pre [] (rdV.rep c p3)) := by
    rw [hL]
    cases rdV.rep c p3 with
    | error e => rfl
    | ok x => rfl
  repeat' first
    | with_reducible first | refine mw_as m24.eq_1 ?_ | refine opn m24k0.eq_1 ?_ | refine opn m24k1.eq_1 ?_ | refine opn m24k2.eq_1 ?_ | refine opn m24k3.eq_1 ?_ | refine opn m24k4.eq_1 ?_ | refine CallK.eff (h63) ?_ | refine CallK.eff (h64) ?_ | refine CallK.eff (h67) ?_ | refine CallK.eff (h67b) ?_ | refine ⟨?_,?_⟩ | intro _
    | simp only [go_sem,↓reduceIte,Nat.reduceAdd,Nat.reduceLeDiff,Nat.reduceEqDiff,Nat.reduceBEq,Nat.reduceBNe,Nat.reduceMul,Nat.reduceLT,reduceCtorEq,Int.reduceLT,Int.reduceLE,Int.reduceToNat,Int.reduceNeg,  ltB hj,a1,a2,a3,a4,a5,a6,b1,b2,b3,b4,b5,b6]
  exact MRun.keep (hO p r k e n p3 hF hr0 (by omega) hX) (keep_line hn) (fun _ h => h)
theorem lineB (hc8 : c ≤ 8) (hm : m ≤ 256) {j : Nat} (hj : j < m) {acc : List Exa} {q r k p3 : Bytes} {e n : Int} {tf tk : STok} {nn nt : Nat} {live : List Nat} (hn : 3 ≤ nn) (hp3 : p3.length ≤ 8192) (hal : acc.length ≤ j)
    (htk : AbT live tk) (htn : ∀ a,tk = .tok a → a < nt)
    (hE : ∀ e,rdIn (rdLine c) q = .error e → W = .error e)
    (hX : rdIn (rdLine c) q = k3 ⟨k,e,n⟩ r (pre [] (rdV.rep c p3)))
    (hO : ∀ x mm nt live,rdIn (rdLine c) q = .ok (x,r) → 3 ≤ mm →
      MRun Tryz.prog 80 [MI.inLoop m24l2,MI.inBlock 2,MI.code (MC.named [2,3,4] m24k3)] dfD
        [(2,AV.ptr 0 0),(3,AV.ptr 1 0),(4,AV.ptr 2 0),(6,AV.int IntKind.i64 ↑c),(36,AV.int IntKind.i64 ↑m),(37,AV.int IntKind.i64 ↑(j + 1))]
        ⟨mm,[(2,[.sl 1 (r.map byteAV) .exact]),(1,[.int .i64 0]),(0,dObj ent fs tf (acc ++ [x]) (.tok nt))],nt + 1,nt :: live,gl⟩
        (endQD Tryz.prog [RV.c 2 3 true,RV.c 3 1 false] fun o' _ => FgOut o' (decAV W))) :
    MRun Tryz.prog 80 [MI.code m24l1.loop,MI.inBlock 4,MI.code (MC.named [2,3,4,6,8,9,36,37] m24k0),MI.inBlock 3,MI.code (MC.named [2,3,4,6,36,37] m24k1),MI.inLoop m24l2,MI.inBlock 2,MI.code (MC.named [2,3,4] m24k3)] dfD
      [(2,AV.ptr 0 0),(3,AV.ptr 1 0),(4,AV.ptr 2 0),(6,AV.int IntKind.i64 ↑c),(8,AV.ptr nn 0),(9,AV.ptr (nn + 1) 0),(36,AV.int IntKind.i64 ↑m),(37,AV.int IntKind.i64 ↑j),(53,AV.int IntKind.i64 ↑c),(54,AV.int IntKind.i64 0)]
      ⟨nn + 1 + 1,[(nn + 1,[.str k,.int .i64 e,.int .i64 n,.sl 3 [] .exact]),(nn,[.sl 1 (p3.map byteAV) .exact]),(2,[.sl 1 (r.map byteAV) .exact]),(1,[.int .i64 0]),(0,dObj ent fs tf acc tk)],nt,live,gl⟩
      (endQD Tryz.prog [RV.c 2 3 true,RV.c 3 1 false] fun o' _ => FgOut o' (decAV W)) := by
  have a1 : (nn = 0) = False := eq_false (by omega)
  have a2 : (nn = 1) = False := eq_false (by omega)
  have a3 : (nn = 2) = False := eq_false (by omega)
  have a4 : (0 = nn) = False := eq_false (by omega)
  have a5 : (1 = nn) = False := eq_false (by omega)
  have a6 : (2 = nn) = False := eq_false (by omega)
  have b1 : (nn + 1 = 0) = False := eq_false (by omega)
  have b2 : (nn + 1 = 1) = False := eq_false (by omega)
  have b3 : (nn + 1 = 2) = False := eq_false (by omega)
  have b4 : (0 = nn + 1) = False := eq_false (by omega)
  have b5 : (1 = nn + 1) = False := eq_false (by omega)
  have b6 : (2 = nn + 1) = False := eq_false (by omega)
  refine .forUp c (fun i F S => ∃ (vacc : List Val) (w : Bytes) (tv : STok) (mm nt : Nat) (live : List Nat),Sep live nt tk tv ∧ vacc.length ≤ i ∧ w.length ≤ 8192 ∧ nn + 1 + 1 ≤ mm ∧
    F = [(2,AV.ptr 0 0),(3,AV.ptr 1 0),(4,AV.ptr 2 0),(6,AV.int IntKind.i64 ↑c),(8,AV.ptr nn 0),(9,AV.ptr (nn + 1) 0),(36,AV.int IntKind.i64 ↑m),(37,AV.int IntKind.i64 ↑j),(53,AV.int IntKind.i64 ↑c),(54,AV.int IntKind.i64 i)] ∧
    S = ⟨mm,[(nn + 1,[.str k,.int .i64 e,.int .i64 n,.sl 3 (vacc.map Val.av) tv]),(nn,[.sl 1 (w.map byteAV) .exact]),(2,[.sl 1 (r.map byteAV) .exact]),(1,[.int .i64 0]),(0,dObj ent fs tf acc tk)],nt,live,gl⟩ ∧
    rdIn (rdLine c) q = k3 ⟨k,e,n⟩ r (pre vacc (rdV.rep (c - i) w))) ⟨[],p3,.exact,nn + 1 + 1,nt,live,⟨htk,.inl rfl,fun a ha => ⟨htn a ha,by simp⟩⟩,by simp,hp3,Nat.le_refl _,rfl,rfl,hX⟩ ?_
  rintro i F S hi ⟨vacc,w,tv,mm,nt,live,hsep,hvl,hwl,hmm,rfl,rfl,hX⟩ ih
  by_cases h : i < c
  · rw [show c - i = (c - (i + 1)) + 1 by omega] at hX
    refine opn m24l1.eq_1 ?_
    cases hx : rdV w with
    | error e' =>
      rw [pre_err hx] at hX
      obtain rfl := hE e' hX
      have h68 := c68p (gl := gl) hg (n := mm) (nt := nt) (live := live) (l := nn) (keys_line (x := [.str k,.int .i64 e,.int .i64 n,.sl 3 (vacc.map Val.av) tv]) (y := [.sl 1 (w.map byteAV) .exact]) (r := [.sl 1 (r.map byteAV) .exact]) (z := [.int .i64 0]) (d := dObj ent fs tf acc tk) hmm hn) (rest_line hn) w .exact (by simp [lookG]) (by omega) hx
      repeat' first
        | with_reducible first | refine mw_as m24.eq_1 ?_ | refine opn m24k0.eq_1 ?_ | refine opn m24k1.eq_1 ?_ | refine opn m24k2.eq_1 ?_ | refine opn m24k3.eq_1 ?_ | refine opn m24k4.eq_1 ?_ | refine CallK.effPan (h68) ?_ | refine PCallK.effPan (h68) ?_ | refine ⟨?_,?_⟩ | intro _
        | simp only [go_sem,↓reduceIte,Nat.reduceAdd,Nat.reduceLeDiff,Nat.reduceEqDiff,Nat.reduceBEq,Nat.reduceBNe,Nat.reduceMul,Nat.reduceLT,reduceCtorEq,Int.reduceLT,Int.reduceLE,Int.reduceToNat,Int.reduceNeg,  ltB h,a1,a2,a3,a4,a5,a6,b1,b2,b3,b4,b5,b6]
      · exact ckQ _ _ rfl
      · exact panD rfl rfl rfl rfl
    | ok x =>
      obtain ⟨v,w'⟩ := x
      rw [pre_ok hx] at hX
      have h68 := c68 (gl := gl) hg (n := mm) (nt := nt) (live := live) (l := nn) (keys_line (x := [.str k,.int .i64 e,.int .i64 n,.sl 3 (vacc.map Val.av) tv]) (y := [.sl 1 (w.map byteAV) .exact]) (r := [.sl 1 (r.map byteAV) .exact]) (z := [.int .i64 0]) (d := dObj ent fs tf acc tk) hmm hn) w .exact (by simp [lookG]) (by omega) hx
      have hab2 := fun n ob nt => hsep.2.1.able (gl := gl) n ob nt
      have hwl2 : w'.length ≤ w.length := by rw [(codec_V.bwd _ _ _ hx).2]; simp
      have hap : vacc.map Val.av ++ [AV.agg [.int .i64 v.kd,.int .i64 v.n,.str v.s]] = (vacc ++ [v]).map Val.av := by simp
      repeat' first
        | with_reducible first | refine mw_as m24.eq_1 ?_ | refine opn m24k0.eq_1 ?_ | refine opn m24k1.eq_1 ?_ | refine opn m24k2.eq_1 ?_ | refine opn m24k3.eq_1 ?_ | refine opn m24k4.eq_1 ?_ | refine CallK.eff (h68) ?_ | refine PCallK.eff (h68) (fun _ => by first | exact of_eq_true InvS_refl | (simp [InvS_nil,InvS_cons,get_if,InvS_refl]; done)) ?_ | refine ⟨?_,?_⟩ | intro _
        | simp only [go_sem,↓reduceIte,Nat.reduceAdd,Nat.reduceLeDiff,Nat.reduceEqDiff,Nat.reduceBEq,Nat.reduceBNe,Nat.reduceMul,Nat.reduceLT,reduceCtorEq,Int.reduceLT,Int.reduceLE,Int.reduceToNat,Int.reduceNeg,  ltB h,a1,a2,a3,a4,a5,a6,b1,b2,b3,b4,b5,b6,use_eq,hap,wrap_succ (show i < 9223372036854775807 by omega)]
      · exact ckQ _ _ rfl
      · exact hab2 _ _ _
      · omega
      · omega
      exact MRun.keep (live' := nt :: useL live tv) (ih h _ _ ⟨vacc ++ [v],w',.tok nt,mm + 1 + 1,nt + 1,nt :: useL live tv,hsep.next,by simp; omega,by omega,by omega,rfl,rfl,hX⟩) keep_val (fun _ h => h)
  · have hic : i = c := by omega
    subst hic
    rw [Nat.sub_self,pre_zero] at hX
    refine MRun.impS (live' := live) ?_ (imp_line (x' := [.str k,.int .i64 e,.int .i64 n,.sl 3 (vacc.map Val.av) .unk]) rfl rfl rfl rfl rfl rfl (tok_le _ _ _ _ _)) (fun _ h => h)
    refine opn m24l1.eq_1 ?_
    cases w with
    | cons y ys =>
      rw [k3_cons] at hX
      obtain rfl := hE 3 hX
      have h66 := c66p (gl := gl) (n := mm) (nt := nt) (live := live) (l := nn) (rest_line hn (x := [.str k,.int .i64 e,.int .i64 n,.sl 3 (vacc.map Val.av) .unk]) (y := [.sl 1 ((y :: ys).map byteAV) .exact]) (r := [.sl 1 (r.map byteAV) .exact]) (z := [.int .i64 0]) (d := dObj ent fs tf acc tk)) y ys .exact (by simp [lookG])
      simp only [List.map_cons] at h66
      repeat' first
        | with_reducible first | refine mw_as m24.eq_1 ?_ | refine opn m24k0.eq_1 ?_ | refine opn m24k1.eq_1 ?_ | refine opn m24k2.eq_1 ?_ | refine opn m24k3.eq_1 ?_ | refine opn m24k4.eq_1 ?_ | refine CallK.effPan (h66) ?_ | refine PCallK.effPan (h66) ?_ | refine ⟨?_,?_⟩ | intro _
        | simp only [go_sem,↓reduceIte,Nat.reduceAdd,Nat.reduceLeDiff,Nat.reduceEqDiff,Nat.reduceBEq,Nat.reduceBNe,Nat.reduceMul,Nat.reduceLT,reduceCtorEq,Int.reduceLT,Int.reduceLE,Int.reduceToNat,Int.reduceNeg,  geB (Nat.le_of_not_lt h),a1,a2,a3,a4,a5,a6,b1,b2,b3,b4,b5,b6]
      exact panD rfl rfl rfl rfl
    | nil =>
      rw [k3_nil] at hX
      have h66 := c66 (gl := gl) (n := mm) (nt := nt) (live := live) (l := nn) (ob := [(nn + 1,[.str k,.int .i64 e,.int .i64 n,.sl 3 (vacc.map Val.av) .unk]),(nn,[.sl 1 [] .exact]),(2,[.sl 1 (r.map byteAV) .exact]),(1,[.int .i64 0]),(0,dObj ent fs tf acc tk)]) .exact (by simp [lookG])
      have hab2 := fun n ob nt => hsep.1.able (gl := gl) n ob nt
      have hap : acc.map Exa.av ++ [AV.agg [.str k,.int .i64 e,.int .i64 n,.sl 3 (vacc.map Val.av) .unk]] = (acc ++ [(⟨⟨k,e,n⟩,vacc⟩ : Exa)]).map Exa.av := by simp
      repeat' first
        | with_reducible first | refine mw_as m24.eq_1 ?_ | refine opn m24k0.eq_1 ?_ | refine opn m24k1.eq_1 ?_ | refine opn m24k2.eq_1 ?_ | refine opn m24k3.eq_1 ?_ | refine opn m24k4.eq_1 ?_ | refine CallK.eff (h66) ?_ | refine ⟨?_,?_⟩ | intro _
        | simp only [go_sem,↓reduceIte,Nat.reduceAdd,Nat.reduceLeDiff,Nat.reduceEqDiff,Nat.reduceBEq,Nat.reduceBNe,Nat.reduceMul,Nat.reduceLT,reduceCtorEq,Int.reduceLT,Int.reduceLE,Int.reduceToNat,Int.reduceNeg,  geB (Nat.le_of_not_lt h),a1,a2,a3,a4,a5,a6,b1,b2,b3,b4,b5,b6,use_eq,hap,wrap_succ (show j < 9223372036854775807 by omega)]
      · exact hab2 _ _ _
      · omega
      · omega
      exact MRun.keep (live' := nt :: useL live tk) (hO ⟨⟨k,e,n⟩,vacc⟩ mm nt (useL live tk) hX (by omega)) (keep_dset hn) (fun _ h => h)
end lines
set_option maxHeartbeats 4000000 in
theorem c24 (hg : GlNR gl) {m0 : Int} (hm0 : gl.lookup 1 = some [.int .i64 m0]) (b : Bytes) (t : STok) (hb : b.length ≤ 100000000) : Pure Tryz.prog gl 24 [.sl 1 (b.map byteAV) t] (.ok (decAV (decB b))) := by
  refine Pure.ofFg ?_ (by simp only [fgs,nrs,forall_eq_or_imp,forall_eq,implies_true]) (of_eq_true (nr_decAV _))
  simp only [fgs]
  refine .of_runD is24 (by simp) (mw_sound 200 ?_)
  generalize hW : decB b = W
  rw [decB_eq] at hW
  cases hF : rdF b with
  | error e =>
    rw [hF] at hW
    simp only at hW
    subst hW
    have h63 := c63p (gl := gl) hg (n := 3) (nt := 0) (live := []) (l := 2) (ob := [(2,[.sl 1 (b.map byteAV) .unk]),(1,[.int .i64 0]),(0,zeroD)]) (ob0 := [(1,[.int .i64 0]),(0,zeroD)]) (by intro l' cs e; simp only [lookG] at e ⊢; grind) b .unk rfl (by omega) hF
    repeat' first
      | with_reducible first | refine mw_as m24.eq_1 ?_ | refine opn m24k0.eq_1 ?_ | refine opn m24k1.eq_1 ?_ | refine opn m24k2.eq_1 ?_ | refine opn m24k3.eq_1 ?_ | refine opn m24k4.eq_1 ?_ | refine CallK.effPan (h63) ?_ | refine PCallK.effPan (h63) ?_ | refine ⟨?_,?_⟩ | intro _
      | simp only [go_sem,↓reduceIte,Nat.reduceAdd,Nat.reduceLeDiff,Nat.reduceEqDiff,Nat.reduceBEq,Nat.reduceBNe,Nat.reduceMul,Nat.reduceLT,reduceCtorEq,Int.reduceLT,Int.reduceLE,Int.reduceToNat,Int.reduceNeg]
    exact panD rfl rfl rfl rfl
  | ok x =>
  obtain ⟨p,r0⟩ := x
  rw [hF] at hW
  simp only at hW
  obtain ⟨hpl,hbl⟩ := codec_F.bwd _ _ _ hF
  have hr0 : r0.length ≤ b.length := by rw [hbl]; simp
  have h63 := c63 (gl := gl) hg (n := 3) (nt := 0) (live := []) (l := 2) (ob := [(2,[.sl 1 (b.map byteAV) .unk]),(1,[.int .i64 0]),(0,zeroD)]) b .unk rfl (by omega) hF
  cases hT : rdT p with
  | error e =>
    rw [hT] at hW
    simp only at hW
    subst hW
    have h64 := c64p (gl := gl) hg (n := 4) (nt := 0) (live := []) (l := 3) (ob := [(3,[.sl 1 (p.map byteAV) .unk]),(2,[.sl 1 (r0.map byteAV) .exact]),(2,[.sl 1 (b.map byteAV) .unk]),(1,[.int .i64 0]),(0,zeroD)]) (ob0 := [(1,[.int .i64 0]),(0,zeroD)]) (by intro l' cs e; simp only [lookG] at e ⊢; grind) p .unk rfl (by omega) hT
    repeat' first
      | with_reducible first | refine mw_as m24.eq_1 ?_ | refine opn m24k0.eq_1 ?_ | refine opn m24k1.eq_1 ?_ | refine opn m24k2.eq_1 ?_ | refine opn m24k3.eq_1 ?_ | refine opn m24k4.eq_1 ?_ | refine CallK.eff (h63) ?_ | refine CallK.effPan (h64) ?_ | refine PCallK.effPan (h64) ?_ | refine ⟨?_,?_⟩ | intro _
      | simp only [go_sem,↓reduceIte,Nat.reduceAdd,Nat.reduceLeDiff,Nat.reduceEqDiff,Nat.reduceBEq,Nat.reduceBNe,Nat.reduceMul,Nat.reduceLT,reduceCtorEq,Int.reduceLT,Int.reduceLE,Int.reduceToNat,Int.reduceNeg]
    exact panD rfl rfl rfl rfl
  | ok x =>
  obtain ⟨ent,p1⟩ := x
  rw [hT] at hW
  simp only at hW
  have hp1 : p1.length ≤ p.length := by rw [(codec_T.bwd _ _ _ hT).2]; simp
  have hentl := rdT_len hT
  have h64 := c64 (gl := gl) hg (n := 4) (nt := 0) (live := []) (l := 3) (ob := [(3,[.sl 1 (p.map byteAV) .unk]),(2,[.sl 1 (r0.map byteAV) .exact]),(2,[.sl 1 (b.map byteAV) .unk]),(1,[.int .i64 0]),(0,zeroD)]) p .unk rfl (by omega) hT
  cases hM : rdMany 8 p1 with
  | error e =>
    rw [hM] at hW
    simp only at hW
    subst hW
    have h65 := c65p (gl := gl) hg (n := 4) (nt := 0) (live := []) (l := 3) (ob := [(0,[.str ent,.sl 1 [] .exact,.sl 4 [] .exact]),(3,[.sl 1 (p1.map byteAV) .exact]),(3,[.sl 1 (p.map byteAV) .unk]),(2,[.sl 1 (r0.map byteAV) .exact]),(2,[.sl 1 (b.map byteAV) .unk]),(1,[.int .i64 0]),(0,zeroD)]) (ob0 := [(1,[.int .i64 0]),(0,[.str ent,.sl 1 [] .exact,.sl 4 [] .exact])]) (by intro l' cs e; simp only [lookG] at e ⊢; grind) 8 (by omega) p1 .exact rfl (by omega) hM
    repeat' first
      | with_reducible first | refine mw_as m24.eq_1 ?_ | refine opn m24k0.eq_1 ?_ | refine opn m24k1.eq_1 ?_ | refine opn m24k2.eq_1 ?_ | refine opn m24k3.eq_1 ?_ | refine opn m24k4.eq_1 ?_ | refine CallK.eff (h63) ?_ | refine CallK.eff (h64) ?_ | refine CallK.effPan (h65) ?_ | refine PCallK.effPan (h65) ?_ | refine ⟨?_,?_⟩ | intro _
      | simp only [go_sem,↓reduceIte,Nat.reduceAdd,Nat.reduceLeDiff,Nat.reduceEqDiff,Nat.reduceBEq,Nat.reduceBNe,Nat.reduceMul,Nat.reduceLT,reduceCtorEq,Int.reduceLT,Int.reduceLE,Int.reduceToNat,Int.reduceNeg]
    exact panD rfl rfl rfl rfl
  | ok x =>
  obtain ⟨c,p2⟩ := x
  rw [hM] at hW
  simp only at hW
  obtain ⟨⟨_,hc8⟩,hp2⟩ := (codec_many 8).bwd _ _ _ hM
  have hc8 : c ≤ 8 := by simpa using hc8
  have hp2 : p2.length ≤ p1.length := by rw [hp2]; simp
  have h65 := c65 (gl := gl) hg (n := 4) (nt := 0) (live := []) (l := 3) (ob := [(0,[.str ent,.sl 1 [] .exact,.sl 4 [] .exact]),(3,[.sl 1 (p1.map byteAV) .exact]),(3,[.sl 1 (p.map byteAV) .unk]),(2,[.sl 1 (r0.map byteAV) .exact]),(2,[.sl 1 (b.map byteAV) .unk]),(1,[.int .i64 0]),(0,zeroD)]) 8 (by omega) p1 .exact rfl (by omega) hM
  have hW : k1 ent c r0 (pre [] (rdT.rep c p2)) = W := by
    rw [← hW]
    cases rdT.rep c p2 with
    | error e => rfl
    | ok x => rfl
  repeat' first
    | with_reducible first | refine mw_as m24.eq_1 ?_ | refine opn m24k0.eq_1 ?_ | refine opn m24k1.eq_1 ?_ | refine opn m24k2.eq_1 ?_ | refine opn m24k3.eq_1 ?_ | refine opn m24k4.eq_1 ?_ | refine CallK.eff (h63) ?_ | refine CallK.eff (h64) ?_ | refine CallK.eff (h65) ?_ | refine ⟨?_,?_⟩ | intro _
    | simp only [go_sem,↓reduceIte,Nat.reduceAdd,Nat.reduceLeDiff,Nat.reduceEqDiff,Nat.reduceBEq,Nat.reduceBNe,Nat.reduceMul,Nat.reduceLT,reduceCtorEq,Int.reduceLT,Int.reduceLE,Int.reduceToNat,Int.reduceNeg]
  have hp2l : p2.length ≤ 100000000 := by omega
  clear h63 h64 h65 hM hT hp2 hp1
  refine MRun.keep (ob' := [(3,[.sl 1 (p2.map byteAV) .exact]),(2,[.sl 1 (r0.map byteAV) .exact]),(1,[.int .i64 0]),(0,[.str ent,.sl 1 [] .exact,.sl 4 [] .exact])]) (live' := []) ?_ (by intro l' cs e; simp only [lookG] at e ⊢; grind) (fun _ h => h)
  refine .forUp c (fun i F S => ∃ (acc : List Bytes) (q : Bytes) (tk : STok) (nt : Nat) (live : List Nat),AbT live tk ∧ acc.length ≤ i ∧ (∀ f ∈ acc,f.length ≤ 100000000) ∧ q.length ≤ 100000000 ∧ F = [(2,AV.ptr 0 0),(3,AV.ptr 1 0),(4,AV.ptr 2 0),(5,AV.ptr 3 0),(6,AV.int IntKind.i64 ↑c),(21,AV.int IntKind.i64 ↑c),(22,AV.int IntKind.i64 i)] ∧
    S = ⟨4,[(3,[.sl 1 (q.map byteAV) .exact]),(2,[.sl 1 (r0.map byteAV) .exact]),(1,[.int .i64 0]),(0,[.str ent,.sl 1 (acc.map AV.str) tk,.sl 4 [] .exact])],nt,live,gl⟩ ∧ k1 ent c r0 (pre acc (rdT.rep (c - i) q)) = W) ⟨[],p2,.exact,0,[],.inl rfl,by simp,by simp,hp2l,rfl,rfl,hW⟩ ?_
  rintro i F S hi ⟨acc,q,tk,nt,live,hab,hal,hfl,hql,rfl,rfl,hW⟩ ih
  by_cases h : i < c
  · rw [show c - i = (c - (i + 1)) + 1 by omega] at hW
    refine opn m24l0.eq_1 ?_
    cases hx : rdT q with
    | error e =>
      rw [pre_err hx] at hW
      have hW : Except.error e = W := hW
      subst hW
      have h64 := c64p (gl := gl) hg (n := 4) (nt := nt) (live := live) (l := 3) (ob := [(3,[.sl 1 (q.map byteAV) .exact]),(2,[.sl 1 (r0.map byteAV) .exact]),(1,[.int .i64 0]),(0,[.str ent,.sl 1 (acc.map AV.str) tk,.sl 4 [] .exact])]) (ob0 := [(1,[.int .i64 0]),(0,[.str ent,.sl 1 (acc.map AV.str) tk,.sl 4 [] .exact])]) (by intro l' cs e; simp only [lookG] at e ⊢; grind) q .exact rfl (by omega) hx
      repeat' first
        | with_reducible first | refine mw_as m24.eq_1 ?_ | refine opn m24k0.eq_1 ?_ | refine opn m24k1.eq_1 ?_ | refine opn m24k2.eq_1 ?_ | refine opn m24k3.eq_1 ?_ | refine opn m24k4.eq_1 ?_ | refine CallK.effPan (h64) ?_ | refine PCallK.effPan (h64) ?_ | refine ⟨?_,?_⟩ | intro _
        | simp only [go_sem,↓reduceIte,Nat.reduceAdd,Nat.reduceLeDiff,Nat.reduceEqDiff,Nat.reduceBEq,Nat.reduceBNe,Nat.reduceMul,Nat.reduceLT,reduceCtorEq,Int.reduceLT,Int.reduceLE,Int.reduceToNat,Int.reduceNeg,  ltB h]
      · exact ckQ _ _ rfl
      · exact panD rfl rfl rfl rfl
    | ok x =>
      obtain ⟨x,r⟩ := x
      rw [pre_ok hx] at hW
      have h64 := c64 (gl := gl) hg (n := 4) (nt := nt) (live := live) (l := 3) (ob := [(3,[.sl 1 (q.map byteAV) .exact]),(2,[.sl 1 (r0.map byteAV) .exact]),(1,[.int .i64 0]),(0,[.str ent,.sl 1 (acc.map AV.str) tk,.sl 4 [] .exact])]) q .exact rfl (by omega) hx
      have hab2 := fun n ob nt => hab.able (gl := gl) n ob nt
      have hap : acc.map AV.str ++ [AV.str x] = (acc ++ [x]).map AV.str := by simp
      have hrl : r.length ≤ q.length := by rw [(codec_T.bwd _ _ _ hx).2]; simp
      repeat' first
        | with_reducible first | refine mw_as m24.eq_1 ?_ | refine opn m24k0.eq_1 ?_ | refine opn m24k1.eq_1 ?_ | refine opn m24k2.eq_1 ?_ | refine opn m24k3.eq_1 ?_ | refine opn m24k4.eq_1 ?_ | refine CallK.eff (h64) ?_ | refine PCallK.eff (h64) (fun _ => by first | exact of_eq_true InvS_refl | (simp [InvS_nil,InvS_cons,get_if,InvS_refl]; done)) ?_ | refine ⟨?_,?_⟩ | intro _
        | simp only [go_sem,↓reduceIte,Nat.reduceAdd,Nat.reduceLeDiff,Nat.reduceEqDiff,Nat.reduceBEq,Nat.reduceBNe,Nat.reduceMul,Nat.reduceLT,reduceCtorEq,Int.reduceLT,Int.reduceLE,Int.reduceToNat,Int.reduceNeg,  ltB h,use_eq,hap,wrap_succ (show i < 9223372036854775807 by omega)]
      all_goals first
        | exact ckQ _ _ rfl
        | exact hab2 _ _ _
        | omega
        | (rw [List.length_map]; omega)
        | skip
      refine MRun.keep (live' := nt :: useL live tk) (ih h _ _ ⟨acc ++ [x],r,.tok nt,nt + 1,nt :: useL live tk,.inr ⟨nt,rfl,List.mem_cons_self⟩,by simp; omega,fun f hf => by rcases List.mem_append.1 hf with hf | hf; exact hfl f hf; have := rdT_len hx; simp at hf; subst hf; omega,by omega,rfl,rfl,hW⟩) (by intro l' cs e; simp only [lookG] at e ⊢; grind) (fun _ h => h)
  · have hic : i = c := by omega
    subst hic
    rw [Nat.sub_self,pre_zero] at hW
    refine MRun.keep (live' := []) ?_ (fun _ _ h => h) (fun _ h => by cases h)
    have hW : (match rdMany 256 q with
      | .error e => .error e
      | .ok (m,p4) => match p4 with
        | [] => decL ent acc [] i m r0
        | _ :: _ => .error 3) = W := hW
    refine opn m24l0.eq_1 ?_
    cases hM : rdMany 256 q with
    | error e =>
      rw [hM] at hW
      simp only at hW
      subst hW
      have h65 := c65p (gl := gl) hg (n := 4) (nt := nt) (live := []) (l := 3) (ob := [(3,[.sl 1 (q.map byteAV) .exact]),(2,[.sl 1 (r0.map byteAV) .exact]),(1,[.int .i64 0]),(0,[.str ent,.sl 1 (acc.map AV.str) tk,.sl 4 [] .exact])]) (ob0 := [(1,[.int .i64 0]),(0,[.str ent,.sl 1 (acc.map AV.str) tk,.sl 4 [] .exact])]) (by intro l' cs e; simp only [lookG] at e ⊢; grind) 256 (by omega) q .exact rfl (by omega) hM
      repeat' first
        | with_reducible first | refine mw_as m24.eq_1 ?_ | refine opn m24k0.eq_1 ?_ | refine opn m24k1.eq_1 ?_ | refine opn m24k2.eq_1 ?_ | refine opn m24k3.eq_1 ?_ | refine opn m24k4.eq_1 ?_ | refine CallK.effPan (h65) ?_ | refine PCallK.effPan (h65) ?_ | refine ⟨?_,?_⟩ | intro _
        | simp only [go_sem,↓reduceIte,Nat.reduceAdd,Nat.reduceLeDiff,Nat.reduceEqDiff,Nat.reduceBEq,Nat.reduceBNe,Nat.reduceMul,Nat.reduceLT,reduceCtorEq,Int.reduceLT,Int.reduceLE,Int.reduceToNat,Int.reduceNeg,  geB (Nat.le_of_not_lt h)]
      exact panD rfl rfl rfl rfl
    | ok x =>
    obtain ⟨m,q2⟩ := x
    rw [hM] at hW
    simp only at hW
    obtain ⟨⟨_,hm⟩,hq2⟩ := (codec_many 256).bwd _ _ _ hM
    have hm : m ≤ 256 := by simpa using hm
    have h65 := c65 (gl := gl) hg (n := 4) (nt := nt) (live := []) (l := 3) (ob := [(3,[.sl 1 (q.map byteAV) .exact]),(2,[.sl 1 (r0.map byteAV) .exact]),(1,[.int .i64 0]),(0,[.str ent,.sl 1 (acc.map AV.str) tk,.sl 4 [] .exact])]) 256 (by omega) q .exact rfl (by omega) hM
    cases q2 with
    | cons y ys =>
      simp only at hW
      subst hW
      have h66 := c66p (gl := gl) (n := 4) (nt := nt) (live := []) (l := 3) (ob := [(3,[.sl 1 ((y :: ys).map byteAV) .exact]),(3,[.sl 1 (q.map byteAV) .exact]),(2,[.sl 1 (r0.map byteAV) .exact]),(1,[.int .i64 0]),(0,[.str ent,.sl 1 (acc.map AV.str) tk,.sl 4 [] .exact])]) (ob0 := [(1,[.int .i64 0]),(0,[.str ent,.sl 1 (acc.map AV.str) tk,.sl 4 [] .exact])]) (by intro l' cs e; simp only [lookG] at e ⊢; grind) y ys .exact rfl
      simp only [List.map_cons] at h65 h66
      repeat' first
        | with_reducible first | refine mw_as m24.eq_1 ?_ | refine opn m24k0.eq_1 ?_ | refine opn m24k1.eq_1 ?_ | refine opn m24k2.eq_1 ?_ | refine opn m24k3.eq_1 ?_ | refine opn m24k4.eq_1 ?_ | refine CallK.eff (h65) ?_ | refine CallK.effPan (h66) ?_ | refine PCallK.effPan (h66) ?_ | refine ⟨?_,?_⟩ | intro _
        | simp only [go_sem,↓reduceIte,Nat.reduceAdd,Nat.reduceLeDiff,Nat.reduceEqDiff,Nat.reduceBEq,Nat.reduceBNe,Nat.reduceMul,Nat.reduceLT,reduceCtorEq,Int.reduceLT,Int.reduceLE,Int.reduceToNat,Int.reduceNeg,  geB (Nat.le_of_not_lt h)]
      exact panD rfl rfl rfl rfl
    | nil =>
      simp only at hW
      have h66 := c66 (gl := gl) (n := 4) (nt := nt) (live := []) (l := 3) (ob := [(3,[.sl 1 [] .exact]),(3,[.sl 1 (q.map byteAV) .exact]),(2,[.sl 1 (r0.map byteAV) .exact]),(1,[.int .i64 0]),(0,[.str ent,.sl 1 (acc.map AV.str) tk,.sl 4 [] .exact])]) .exact rfl
      repeat' first
        | with_reducible first | refine mw_as m24.eq_1 ?_ | refine opn m24k0.eq_1 ?_ | refine opn m24k1.eq_1 ?_ | refine opn m24k2.eq_1 ?_ | refine opn m24k3.eq_1 ?_ | refine opn m24k4.eq_1 ?_ | refine CallK.eff (h65) ?_ | refine CallK.eff (h66) ?_ | refine ⟨?_,?_⟩ | intro _
        | simp only [go_sem,↓reduceIte,Nat.reduceAdd,Nat.reduceLeDiff,Nat.reduceEqDiff,Nat.reduceBEq,Nat.reduceBNe,Nat.reduceMul,Nat.reduceLT,reduceCtorEq,Int.reduceLT,Int.reduceLE,Int.reduceToNat,Int.reduceNeg,  geB (Nat.le_of_not_lt h)]
      rw [decL_eq] at hW
      have hr0l : r0.length ≤ 100000000 := by omega
      clear h65 h66 hM
      refine MRun.keep (ob' := [(2,[.sl 1 (r0.map byteAV) .exact]),(1,[.int .i64 0]),(0,dObj ent acc tk [] .exact)]) (live' := []) ?_ (by intro l' cs e; simp only [lookG] at e ⊢; grind) (fun _ h => h)
      refine .forUp m (fun j F S => ∃ (xs : List Exa) (q : Bytes) (tx : STok) (nn nt : Nat) (live : List Nat),AbT live tx ∧ (∀ a,tx = .tok a → a < nt) ∧ xs.length ≤ j ∧ (∀ x ∈ xs,SmX x) ∧ q.length ≤ 100000000 ∧ 3 ≤ nn ∧
        F = [(2,AV.ptr 0 0),(3,AV.ptr 1 0),(4,AV.ptr 2 0),(6,AV.int IntKind.i64 ↑i),(36,AV.int IntKind.i64 ↑m),(37,AV.int IntKind.i64 j)] ∧
        S = ⟨nn,[(2,[.sl 1 (q.map byteAV) .exact]),(1,[.int .i64 0]),(0,dObj ent acc tk xs tx)],nt,live,gl⟩ ∧ k2 ent acc (pre xs ((rdIn (rdLine i)).rep (m - j) q)) = W) ⟨[],r0,.exact,4,nt,[],.inl rfl,(fun a h => by cases h),by simp,by simp,hr0l,by omega,rfl,rfl,hW⟩ ?_
      rintro j F S hj ⟨xs,q,tx,nn,nt,live,hab,htn,hxl,hxs,hql,hnn,rfl,rfl,hW⟩ ih2
      by_cases h2 : j < m
      · rw [show m - j = (m - (j + 1)) + 1 by omega] at hW
        have hE : ∀ e,rdIn (rdLine i) q = .error e → W = .error e := fun e h => by rw [pre_err h] at hW; exact hW.symm
        refine lineA hg h2 hnn hql hxl hE fun p r k e n p3 hF hr hp3 hX => ?_
        refine lineB hg (by omega) hm h2 hnn hp3 hxl hab htn hE hX fun x mm nt' live' hx hmm => ?_
        obtain ⟨h3,h4⟩ := line_small (by omega) hx
        rw [pre_ok hx] at hW
        exact ih2 h2 _ _ ⟨xs ++ [x],r,.tok nt',mm,nt' + 1,nt' :: live',.inr ⟨nt',rfl,List.mem_cons_self⟩,fun a h => by injection h with h; omega,by simp; omega,fun y hy => by rcases List.mem_append.1 hy with hy | hy; exact hxs y hy; simp at hy; subst hy; exact h3,by omega,hmm,rfl,rfl,hW⟩
      · have hjm : j = m := by omega
        subst hjm
        rw [Nat.sub_self,pre_zero] at hW
        have hW : finL ent acc xs q = W := hW
        refine opn m24l2.eq_1 ?_
        cases q with
        | cons y ys =>
          have hW : Except.error 3 = W := hW
          subst hW
          have h66 := c66p (gl := gl) (n := nn) (nt := nt) (live := live) (l := 2) (ob := [(2,[.sl 1 ((y :: ys).map byteAV) .exact]),(1,[.int .i64 0]),(0,dObj ent acc tk xs tx)]) (ob0 := [(1,[.int .i64 0]),(0,dObj ent acc tk xs tx)]) (by intro l' cs e; simp only [lookG] at e ⊢; grind) y ys .exact rfl
          simp only [List.map_cons] at h66
          repeat' first
            | with_reducible first | refine mw_as m24.eq_1 ?_ | refine opn m24k0.eq_1 ?_ | refine opn m24k1.eq_1 ?_ | refine opn m24k2.eq_1 ?_ | refine opn m24k3.eq_1 ?_ | refine opn m24k4.eq_1 ?_ | refine CallK.effPan (h66) ?_ | refine PCallK.effPan (h66) ?_ | refine ⟨?_,?_⟩ | intro _
            | simp only [go_sem,↓reduceIte,Nat.reduceAdd,Nat.reduceLeDiff,Nat.reduceEqDiff,Nat.reduceBEq,Nat.reduceBNe,Nat.reduceMul,Nat.reduceLT,reduceCtorEq,Int.reduceLT,Int.reduceLE,Int.reduceToNat,Int.reduceNeg,  geB (Nat.le_of_not_lt h2)]
          exact panD rfl rfl rfl rfl
        | nil =>
          have hW : (if formB ⟨ent,acc,xs⟩ then Except.ok ⟨ent,acc,xs⟩ else Except.error 3) = W := hW
          have hsm : SmallD ⟨ent,acc,xs⟩ := ⟨by show ent.length < _; omega,by show acc.length < _; omega,fun f hf => by have := hfl f hf; omega,by show xs.length < _; omega,fun x hx => by have := (hxs x hx).1; omega,fun x hx => by have := (hxs x hx).2.1; omega,fun x hx v hv => by have := (hxs x hx).2.2 v hv; omega⟩
          have h37 := c37 hg hm0 ⟨ent,acc,xs⟩ hsm
          have h66 := c66 (gl := gl) (n := nn) (nt := nt) (live := live) (l := 2) (ob := [(2,[.sl 1 [] .exact]),(1,[.int .i64 0]),(0,dObj ent acc tk xs tx)]) .exact rfl
          by_cases hf : formB ⟨ent,acc,xs⟩ = true
          · rw [if_pos hf] at hW
            subst hW
            rw [hf] at h37
            repeat' first
              | with_reducible first | refine mw_as m24.eq_1 ?_ | refine opn m24k0.eq_1 ?_ | refine opn m24k1.eq_1 ?_ | refine opn m24k2.eq_1 ?_ | refine opn m24k3.eq_1 ?_ | refine opn m24k4.eq_1 ?_ | refine CallK.eff (h66) ?_ | refine .pu (Pure.conv (h37) (by simp only [fgs])) hg rfl ?_ | refine ⟨?_,?_⟩ | intro _
              | simp only [go_sem,↓reduceIte,Nat.reduceAdd,Nat.reduceLeDiff,Nat.reduceEqDiff,Nat.reduceBEq,Nat.reduceBNe,Nat.reduceMul,Nat.reduceLT,reduceCtorEq,Int.reduceLT,Int.reduceLE,Int.reduceToNat,Int.reduceNeg,  geB (Nat.le_of_not_lt h2)]
            refine ⟨62,rfl,Tryz.call62,c62n.mono fun o S' h => ?_⟩
            obtain ⟨rfl,rfl⟩ := h
            refine FgOut.mk' ?_
            show AV.fg (.tup [.agg (dObj ent acc tk xs tx),.int .i64 0]) = _
            simp only [decAV,fgs]
          · rw [if_neg hf] at hW
            subst hW
            rw [Bool.not_eq_true] at hf
            rw [hf] at h37
            repeat' first
              | with_reducible first | refine mw_as m24.eq_1 ?_ | refine opn m24k0.eq_1 ?_ | refine opn m24k1.eq_1 ?_ | refine opn m24k2.eq_1 ?_ | refine opn m24k3.eq_1 ?_ | refine opn m24k4.eq_1 ?_ | refine CallK.eff (h66) ?_ | refine .pu (Pure.conv (h37) (by simp only [fgs])) hg rfl ?_ | refine ⟨?_,?_⟩ | intro _
              | simp only [go_sem,↓reduceIte,Nat.reduceAdd,Nat.reduceLeDiff,Nat.reduceEqDiff,Nat.reduceBEq,Nat.reduceBNe,Nat.reduceMul,Nat.reduceLT,reduceCtorEq,Int.reduceLT,Int.reduceLE,Int.reduceToNat,Int.reduceNeg,  geB (Nat.le_of_not_lt h2)]
            exact panD rfl rfl rfl rfl
end Go.Proofs.YtdjdhecanjmchaaGreatDoor
