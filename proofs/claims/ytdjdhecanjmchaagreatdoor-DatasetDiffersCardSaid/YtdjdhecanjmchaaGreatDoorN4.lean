/- Contract: the law that exactly the examples that differ are named. -/
import Derived.Test.YtdjdhecanjmchaaGreatDoorFa
import Derived.Test.YtdjdhecanjmchaaGreatDoorFb
import Derived.Test.YtdjdhecanjmchaaGreatDoorFc
import Derived.Test.YtdjdhecanjmchaaGreatDoorHa
import Derived.Test.YtdjdhecanjmchaaGreatDoorSa
import Derived.Test.YtdjdhecanjmchaaGreatDoorEB
import Derived.Test.YtdjdhecanjmchaaGreatDoorN2
import Derived.Test.YtdjdhecanjmchaaGreatDoorD3
import Derived.Test.YtdjdhecanjmchaaGreatDoorN3
set_option linter.unusedSimpArgs false
set_option linter.unusedVariables false
namespace Go.Proofs.YtdjdhecanjmchaaGreatDoor
open Go Go.V Go.Lib
set_option maxRecDepth 40000
attribute [local go_sem ↓] keepK Opd.ev MK.ev MK.ob gsA
attribute [local go_sem high] gsB
attribute [local go_sem] binEv binOb intOp strOp unEv eqvEv eqCells eqCell noBld tasEv AV.there AV.plus pickCells storeEv AV.solid AV.cells splice putParts rowOK fldEv iarrEv extEv minEv nonNil lenEv isStr appEv appOb appArg slVecEv slVecOb slStrEv slStrOb bnd argF endQ rvsEv rvEv resOf St.none if_true if_false ite_self eq_self ne_eq implies_true forall_const Lab.av Val.av Exa.av Dset.av Req.av gsC
variable {gl : List (Nat × List AV)}
theorem cmp_bb (a b : Bool) : cmpEv 0 (.bool a) (.bool b) = some (a == b) := rfl
theorem isBld_long {l : List AV} (h : 2 ≤ l.length) : isBld l = false := by
  match l with
  | [] => rfl
  | [_] => simp at h
  | a :: b :: l => exact isBld_two a b l
theorem drop_mid {α : Type} {P M Q : List α} {n j : Nat} (h : P.length = n) : List.drop (n + j) (P ++ (M ++ Q)) = List.drop j (M ++ Q) := by
  subst h
  rw [List.drop_append]
  simp
theorem take_mid {α : Type} {P M Q : List α} {n j : Nat} (h : P.length = n) : List.take (n + j) (P ++ (M ++ Q)) = P ++ List.take j (M ++ Q) := by
  subst h
  rw [List.take_append,List.take_of_length_le (by omega)]
  simp
theorem fz_mid {l k : Nat} {xs P Q : List AV} {a b c y z : AV} (h : Fz l k xs y z) : ∀ (m : Nat) (c' : AV),(P ++ ([a,b,c,z] ++ Q))[m]? = some c' → ∃ c0,(P ++ ([a,b,c,y] ++ Q))[m]? = some c0 ∧ Fz l k xs c0 c' := by
  intro m c' e
  by_cases hm : m < P.length
  · rw [List.getElem?_append_left hm] at e ⊢
    exact ⟨c',e,.refl _⟩
  · rw [List.getElem?_append_right (by omega)] at e ⊢
    match m - P.length,e with
    | 0,e => exact ⟨c',e,.refl _⟩
    | 1,e => exact ⟨c',e,.refl _⟩
    | 2,e => exact ⟨c',e,.refl _⟩
    | 3,e =>
      simp only [List.cons_append,List.nil_append,List.getElem?_cons_succ,List.getElem?_cons_zero,Option.some.injEq] at e ⊢
      subst e
      exact ⟨y,rfl,h⟩
    | j + 4,e => exact ⟨c',e,.refl _⟩
set_option maxHeartbeats 4000000 in
theorem c9 (hg : GlNR gl) {m0 : Int} (hm0 : gl.lookup 1 = some [.int .i64 m0]) (h11 : Pure Tryz.prog gl 11 [] (.ok (.bool true))) (d : Dset) (n col : Int) (v : Val) : Pure Tryz.prog gl 9 [d.av,.int .i64 n,.int .i64 col,v.av] (.ok (.bool true)) := by
  refine ⟨?_,by simp only [fgs,nrs,forall_eq_or_imp,forall_eq,implies_true],by simp only [nrs,forall_eq_or_imp,forall_eq,implies_true]⟩
  simp only [fgs]
  refine .of_run is9 (by simp) (mw_sound 200 ?_)
  by_cases hd : fewD d = true
  rotate_left
  · rw [Bool.not_eq_true] at hd
    repeat' first
      | with_reducible first | refine mw_as m9.eq_1 ?_ | refine opn m9k0.eq_1 ?_ | refine opn m9k1.eq_1 ?_ | refine opn m9k2.eq_1 ?_ | refine opn m9k3.eq_1 ?_ | refine opn m9k4.eq_1 ?_ | refine opn m9k5.eq_1 ?_ | refine opn m9k6.eq_1 ?_ | refine opn m9k7.eq_1 ?_ | refine .pu (h11) hg rfl ?_ | refine .pu (c13 hg d) hg rfl ?_ | refine ⟨?_,?_⟩ | intro _
      | simp only [go_sem,↓reduceIte,Nat.reduceAdd,Nat.reduceLeDiff,Nat.reduceEqDiff,Nat.reduceBEq,Nat.reduceBNe,Nat.reduceMul,Nat.reduceLT,reduceCtorEq,Int.reduceLT,Int.reduceLE,Int.reduceToNat,Int.reduceNeg,  hd]
  have hs := fewD_small hd
  have h22 := c22 hg d hs
  by_cases hf : formB d = true
  rotate_left
  · rw [Bool.not_eq_true] at hf
    rw [hf] at h22
    repeat' first
      | with_reducible first | refine mw_as m9.eq_1 ?_ | refine opn m9k0.eq_1 ?_ | refine opn m9k1.eq_1 ?_ | refine opn m9k2.eq_1 ?_ | refine opn m9k3.eq_1 ?_ | refine opn m9k4.eq_1 ?_ | refine opn m9k5.eq_1 ?_ | refine opn m9k6.eq_1 ?_ | refine opn m9k7.eq_1 ?_ | refine .pu (h11) hg rfl ?_ | refine .pu (c13 hg d) hg rfl ?_ | refine .pu (h22) hg rfl ?_ | refine ⟨?_,?_⟩ | intro _
      | simp only [go_sem,↓reduceIte,Nat.reduceAdd,Nat.reduceLeDiff,Nat.reduceEqDiff,Nat.reduceBEq,Nat.reduceBNe,Nat.reduceMul,Nat.reduceLT,reduceCtorEq,Int.reduceLT,Int.reduceLE,Int.reduceToNat,Int.reduceNeg,  hd]
  rw [hf] at h22
  by_cases g0 : v.s.length ≤ 200
  rotate_left
  · have g0 : decide ((200 : Int) < v.s.length) = true := decide_eq_true (by omega)
    repeat' first
      | with_reducible first | refine mw_as m9.eq_1 ?_ | refine opn m9k0.eq_1 ?_ | refine opn m9k1.eq_1 ?_ | refine opn m9k2.eq_1 ?_ | refine opn m9k3.eq_1 ?_ | refine opn m9k4.eq_1 ?_ | refine opn m9k5.eq_1 ?_ | refine opn m9k6.eq_1 ?_ | refine opn m9k7.eq_1 ?_ | refine .pu (h11) hg rfl ?_ | refine .pu (c13 hg d) hg rfl ?_ | refine .pu (h22) hg rfl ?_ | refine ⟨?_,?_⟩ | intro _
      | simp only [go_sem,↓reduceIte,Nat.reduceAdd,Nat.reduceLeDiff,Nat.reduceEqDiff,Nat.reduceBEq,Nat.reduceBNe,Nat.reduceMul,Nat.reduceLT,reduceCtorEq,Int.reduceLT,Int.reduceLE,Int.reduceToNat,Int.reduceNeg,  hd,g0]
  have g0b : decide ((200 : Int) < v.s.length) = false := decide_eq_false (by omega)
  have h17 := c17 hg hm0 d d hs hs
  rw [difL_self hf] at h17
  have e0 : ((0 : Int) != 0) = false := rfl
  have e1 : (((0 : Nat) : Int) != 0) = false := rfl
  by_cases g1 : 0 ≤ n
  rotate_left
  · have g1 : decide (n < 0) = true := decide_eq_true (by omega)
    repeat' first
      | with_reducible first | refine mw_as m9.eq_1 ?_ | refine opn m9k0.eq_1 ?_ | refine opn m9k1.eq_1 ?_ | refine opn m9k2.eq_1 ?_ | refine opn m9k3.eq_1 ?_ | refine opn m9k4.eq_1 ?_ | refine opn m9k5.eq_1 ?_ | refine opn m9k6.eq_1 ?_ | refine opn m9k7.eq_1 ?_ | refine .pu (h11) hg rfl ?_ | refine .pu (c13 hg d) hg rfl ?_ | refine .pu (h22) hg rfl ?_ | refine .pu (h17) hg rfl ?_ | refine ⟨?_,?_⟩ | intro _
      | simp only [go_sem,↓reduceIte,Nat.reduceAdd,Nat.reduceLeDiff,Nat.reduceEqDiff,Nat.reduceBEq,Nat.reduceBNe,Nat.reduceMul,Nat.reduceLT,reduceCtorEq,Int.reduceLT,Int.reduceLE,Int.reduceToNat,Int.reduceNeg,  hd,g0b,g1,e0,e1]
  have g1b : decide (n < 0) = false := decide_eq_false (by omega)
  by_cases g2 : n < d.xs.length
  rotate_left
  · have g2 : decide ((d.xs.length : Int) ≤ n) = true := decide_eq_true (by omega)
    repeat' first
      | with_reducible first | refine mw_as m9.eq_1 ?_ | refine opn m9k0.eq_1 ?_ | refine opn m9k1.eq_1 ?_ | refine opn m9k2.eq_1 ?_ | refine opn m9k3.eq_1 ?_ | refine opn m9k4.eq_1 ?_ | refine opn m9k5.eq_1 ?_ | refine opn m9k6.eq_1 ?_ | refine opn m9k7.eq_1 ?_ | refine .pu (h11) hg rfl ?_ | refine .pu (c13 hg d) hg rfl ?_ | refine .pu (h22) hg rfl ?_ | refine .pu (h17) hg rfl ?_ | refine ⟨?_,?_⟩ | intro _
      | simp only [go_sem,↓reduceIte,Nat.reduceAdd,Nat.reduceLeDiff,Nat.reduceEqDiff,Nat.reduceBEq,Nat.reduceBNe,Nat.reduceMul,Nat.reduceLT,reduceCtorEq,Int.reduceLT,Int.reduceLE,Int.reduceToNat,Int.reduceNeg,  hd,g0b,g1b,g2,e0,e1]
  have g2b : decide ((d.xs.length : Int) ≤ n) = false := decide_eq_false (by omega)
  by_cases g3 : 0 ≤ col
  rotate_left
  · have g3 : decide (col < 0) = true := decide_eq_true (by omega)
    repeat' first
      | with_reducible first | refine mw_as m9.eq_1 ?_ | refine opn m9k0.eq_1 ?_ | refine opn m9k1.eq_1 ?_ | refine opn m9k2.eq_1 ?_ | refine opn m9k3.eq_1 ?_ | refine opn m9k4.eq_1 ?_ | refine opn m9k5.eq_1 ?_ | refine opn m9k6.eq_1 ?_ | refine opn m9k7.eq_1 ?_ | refine .pu (h11) hg rfl ?_ | refine .pu (c13 hg d) hg rfl ?_ | refine .pu (h22) hg rfl ?_ | refine .pu (h17) hg rfl ?_ | refine ⟨?_,?_⟩ | intro _
      | simp only [go_sem,↓reduceIte,Nat.reduceAdd,Nat.reduceLeDiff,Nat.reduceEqDiff,Nat.reduceBEq,Nat.reduceBNe,Nat.reduceMul,Nat.reduceLT,reduceCtorEq,Int.reduceLT,Int.reduceLE,Int.reduceToNat,Int.reduceNeg,  hd,g0b,g1b,g2b,g3,e0,e1]
  have g3b : decide (col < 0) = false := decide_eq_false (by omega)
  by_cases g4 : col < d.fs.length
  rotate_left
  · have g4 : decide ((d.fs.length : Int) ≤ col) = true := decide_eq_true (by omega)
    repeat' first
      | with_reducible first | refine mw_as m9.eq_1 ?_ | refine opn m9k0.eq_1 ?_ | refine opn m9k1.eq_1 ?_ | refine opn m9k2.eq_1 ?_ | refine opn m9k3.eq_1 ?_ | refine opn m9k4.eq_1 ?_ | refine opn m9k5.eq_1 ?_ | refine opn m9k6.eq_1 ?_ | refine opn m9k7.eq_1 ?_ | refine .pu (h11) hg rfl ?_ | refine .pu (c13 hg d) hg rfl ?_ | refine .pu (h22) hg rfl ?_ | refine .pu (h17) hg rfl ?_ | refine ⟨?_,?_⟩ | intro _
      | simp only [go_sem,↓reduceIte,Nat.reduceAdd,Nat.reduceLeDiff,Nat.reduceEqDiff,Nat.reduceBEq,Nat.reduceBNe,Nat.reduceMul,Nat.reduceLT,reduceCtorEq,Int.reduceLT,Int.reduceLE,Int.reduceToNat,Int.reduceNeg,  hd,g0b,g1b,g2b,g3b,g4,e0,e1]
  have g4b : decide ((d.fs.length : Int) ≤ col) = false := decide_eq_false (by omega)
  obtain ⟨i,rfl⟩ : ∃ i : Nat,n = i := ⟨n.toNat,by omega⟩
  obtain ⟨c,rfl⟩ : ∃ c : Nat,col = c := ⟨col.toNat,by omega⟩
  have hxl := hs.xs
  obtain ⟨x0,hx0⟩ := some_of_lt (show i < d.xs.length by omega)
  have hx9 : labB x0.lab = true ∧ x0.vs.length = d.fs.length ∧ ∀ v ∈ x0.vs,chkR v = 0 := by
    have hf2 := hf
    simp only [formB,Bool.and_eq_true] at hf2
    exact exsB_all _ _ _ hf2.2.2.2.2.2 x0 (List.mem_of_getElem? hx0)
  obtain ⟨u,hu⟩ := some_of_lt (show c < x0.vs.length by omega)
  have hfsl := hs.fs
  repeat' first
    | with_reducible first | refine mw_as m9.eq_1 ?_ | refine opn m9k0.eq_1 ?_ | refine opn m9k1.eq_1 ?_ | refine opn m9k2.eq_1 ?_ | refine opn m9k3.eq_1 ?_ | refine opn m9k4.eq_1 ?_ | refine opn m9k5.eq_1 ?_ | refine opn m9k6.eq_1 ?_ | refine opn m9k7.eq_1 ?_ | refine .pu (h11) hg rfl ?_ | refine .pu (c13 hg d) hg rfl ?_ | refine .pu (h22) hg rfl ?_ | refine .pu (h17) hg rfl ?_ | refine ⟨?_,?_⟩ | intro _
    | simp only [go_sem,↓reduceIte,Nat.reduceAdd,Nat.reduceLeDiff,Nat.reduceEqDiff,Nat.reduceBEq,Nat.reduceBNe,Nat.reduceMul,Nat.reduceLT,reduceCtorEq,Int.reduceLT,Int.reduceLE,Int.reduceToNat,Int.reduceNeg,  hd,g0b,g1b,g2b,g3b,g4b,e0,e1]
  · show (d.xs.map Exa.av).length * 56 ≤ _ ∧ _
    rw [List.length_map]
    omega
  clear h11 h17 h22 e1 g0b g1b g2b g3b g4b
  obtain ⟨ent,fs,xs⟩ := d
  simp only at hx0 hxl hx9 hfsl g2 g4
  obtain ⟨p,q,rfl,rfl⟩ := list_at hx0
  obtain ⟨lab,vs⟩ := x0
  simp only at hu hx9
  obtain ⟨vp,vq,rfl,rfl⟩ := list_at hu
  have hA : (p ++ (⟨lab,vp ++ u :: vq⟩ : Exa) :: q).map Exa.av ≠ [] := by simp
  have hV : (vp ++ u :: vq).map Val.av ≠ [] := by simp
  have hao := fun S tk => appO_eq (k := 4) (S := S) (t := tk) hA
  have hvo := fun S tk => appO_eq (k := 3) (S := S) (t := tk) hV
  obtain ⟨PA,hPA⟩ : ∃ PA,PA = flat (p.map Exa.av) := ⟨_,rfl⟩
  obtain ⟨QA,hQA⟩ : ∃ QA,QA = flat (q.map Exa.av) := ⟨_,rfl⟩
  obtain ⟨PV,hPV⟩ : ∃ PV,PV = flat (vp.map Val.av) := ⟨_,rfl⟩
  obtain ⟨QV,hQV⟩ : ∃ QV,QV = flat (vq.map Val.av) := ⟨_,rfl⟩
  have hPAl : PA.length = p.length * 4 := by rw [hPA,flat_length (k := 4) (by intro x hx; obtain ⟨y,_,rfl⟩ := List.mem_map.1 hx; rfl),List.length_map]
  have hPVl : PV.length = vp.length * 3 := by rw [hPV,flat_length (k := 3) (by intro x hx; obtain ⟨y,_,rfl⟩ := List.mem_map.1 hx; rfl),List.length_map]
  obtain ⟨RA,hRA⟩ : ∃ RA : AV → List AV,∀ y,RA y = PA ++ ([.str lab.k,.int .i64 lab.e,.int .i64 lab.n,y] ++ QA) := ⟨_,fun _ => rfl⟩
  obtain ⟨RV,hRV⟩ : ∃ RV : Val → List AV,∀ w,RV w = PV ++ ([.int .i64 w.kd,.int .i64 w.n,.str w.s] ++ QV) := ⟨_,fun _ => rfl⟩
  have hfA : ∀ ws : List Val,flat ((p ++ (⟨lab,ws⟩ : Exa) :: q).map Exa.av) = RA (.sl 3 (ws.map Val.av) .unk) := fun ws => by rw [hRA]; simp [hPA,hQA,AV.cells]
  have hfV : ∀ w : Val,flat ((vp ++ w :: vq).map Val.av) = RV w := fun w => by rw [hRV]; simp [hPV,hQV,AV.cells]
  have hAl : ∀ y,(RA y).length = p.length * 4 + (4 + QA.length) := fun y => by rw [hRA]; simp [hPAl]; omega
  have hVl : ∀ w,(RV w).length = vp.length * 3 + (3 + QV.length) := fun w => by rw [hRV]; simp [hPVl]; omega
  have hAb : ∀ y,isBld (RA y) = false := fun y => isBld_long (by rw [hAl]; omega)
  have hVb : ∀ w,isBld (RV w) = false := fun w => isBld_long (by rw [hVl]; omega)
  have hAd : ∀ y,List.drop (p.length * 4 + 3) (RA y) = y :: QA := fun y => by rw [hRA,drop_mid hPAl]; rfl
  have hAs : ∀ y z,List.take (p.length * 4 + 3) (RA y) ++ [z] ++ List.drop (p.length * 4 + 3 + 1) (RA y) = RA z := fun y z => by
    rw [hRA,hRA,Nat.add_assoc,drop_mid hPAl,take_mid hPAl]
    simp
  have hVs : ∀ w v : Val,List.take (vp.length * 3) (RV w) ++ [.int .i64 v.kd,.int .i64 v.n,.str v.s] ++ List.drop (vp.length * 3 + 3) (RV w) = RV v := fun w v => by
    have := take_mid (P := PV) (M := [.int .i64 w.kd,.int .i64 w.n,.str w.s]) (Q := QV) (j := 0) hPVl
    rw [Nat.add_zero] at this
    rw [hRV,hRV,drop_mid hPVl,this]
    simp
  have hA1 : ∀ y,decide (p.length * 4 + 3 + 1 ≤ (RA y).length) = true := fun y => decide_eq_true (by rw [hAl]; omega)
  have hV1 : ∀ w,decide (vp.length * 3 + 3 ≤ (RV w).length) = true := fun w => decide_eq_true (by rw [hVl]; omega)
  have hfA0 := hfA (vp ++ u :: vq)
  have hfV0 := hfV u
  have hlA : (List.map Exa.av (p ++ (⟨lab,vp ++ u :: vq⟩ : Exa) :: q)).length = p.length + (q.length + 1) := by simp
  have hlV : (List.map Val.av (vp ++ u :: vq)).length = vp.length + (vq.length + 1) := by simp
  have hget : (List.map Exa.av (p ++ (⟨lab,vp ++ u :: vq⟩ : Exa) :: q))[p.length]? = some (.agg [.str lab.k,.int .i64 lab.e,.int .i64 lab.n,.sl 3 (List.map Val.av (vp ++ u :: vq)) .unk]) := by simp
  have hgetV : (List.map Val.av (vp ++ u :: vq))[vp.length]? = some u.av := by simp
  have hll : (p ++ (⟨lab,vp ++ u :: vq⟩ : Exa) :: q).length = p.length + (q.length + 1) := by simp
  have hp1 : ((p.length : Nat) : Int) < ((p.length + (q.length + 1) : Nat) : Int) := by omega
  have hp2 : ((vp.length : Nat) : Int) < ((vp.length + (vq.length + 1) : Nat) : Int) := by omega
  generalize hXA : List.map Exa.av (p ++ (⟨lab,vp ++ u :: vq⟩ : Exa) :: q) = XA at *
  generalize hXV : List.map Val.av (vp ++ u :: vq) = XV at *
  repeat' first
    | with_reducible first | refine mw_as m9.eq_1 ?_ | refine opn m9k0.eq_1 ?_ | refine opn m9k1.eq_1 ?_ | refine opn m9k2.eq_1 ?_ | refine opn m9k3.eq_1 ?_ | refine opn m9k4.eq_1 ?_ | refine opn m9k5.eq_1 ?_ | refine opn m9k6.eq_1 ?_ | refine opn m9k7.eq_1 ?_ | refine ⟨?_,?_⟩ | intro _
    | simp only [go_sem,↓reduceIte,Nat.reduceAdd,Nat.reduceLeDiff,Nat.reduceEqDiff,Nat.reduceBEq,Nat.reduceBNe,Nat.reduceMul,Nat.reduceLT,reduceCtorEq,Int.reduceLT,Int.reduceLE,Int.reduceToNat,Int.reduceNeg,  hao,hvo,hfA0,hfV0,hAb,hVb,hAd,hAs,hVs,hget,hgetV,hlA,hlV,hp1,hp2,hA1,hV1]
  · show XV.length * 32 ≤ _ ∧ _
    rw [hlV]
    have := hx9.2.1
    simp at this
    omega
  have hkV : ∀ w : Val,∀ x ∈ (vp ++ w :: vq).map Val.av,x.cells.length = 3 := fun w x hx => by obtain ⟨y,_,rfl⟩ := List.mem_map.1 hx; rfl
  have hkA : ∀ ws : List Val,∀ x ∈ (p ++ (⟨lab,ws⟩ : Exa) :: q).map Exa.av,x.cells.length = 4 := fun ws x hx => by obtain ⟨y,_,rfl⟩ := List.mem_map.1 hx; rfl
  refine MRun.freeze (l := 5) (k := 3) (xs := (vp ++ v :: vq).map Val.av) (ob' := [(3,RA (.sl 3 ((vp ++ v :: vq).map Val.av) .unk)),(4,[.int .i64 u.kd,.int .i64 u.n,.str u.s]),(2,[.str ent,.sl 1 (fs.map AV.str) .unk,.osl 4 (p.length + (q.length + 1)) 3]),
    (1,[.int .i64 v.kd,.int .i64 v.n,.str v.s]),(0,[.str ent,.sl 1 (fs.map AV.str) .unk,.sl 4 XA .unk])]) (F' := [(1,.int .i64 p.length),(4,.ptr 0 0),(7,.ptr 1 0),(11,.ptr 2 0),(12,.ptr 4 0)]) ?_ (by rw [hfV]; rfl) (by rw [hfV]; exact hVb _) (hkV v) ?_
    (fz_cons (.refl _) (fz_cons (.refl _) (fz_cons (.refl _) (fz_cons (.refl _) (fz_cons (.refl _) fz_nil)))))
  rotate_left
  · intro l' cs' e
    simp only [lookG,List.lookup_nil] at e
    split at e
    · rename_i h1; subst h1; injection e with e; subst e
      refine ⟨by decide,hAb _,_,rfl,hAb _,?_⟩
      rw [hRA,hRA]
      exact fz_mid (.inr ⟨by simp,rfl⟩)
    split at e
    · rename_i h1; subst h1; injection e with e; subst e
      exact ⟨by decide,rfl,_,rfl,rfl,fun m c h => ⟨c,h,.refl _⟩⟩
    split at e
    · rename_i h1; subst h1; injection e with e; subst e
      exact ⟨by decide,rfl,_,rfl,rfl,fun m c h => ⟨c,h,.refl _⟩⟩
    split at e
    · rename_i h1; subst h1; injection e with e; subst e
      exact ⟨by decide,rfl,_,rfl,rfl,fun m c h => ⟨c,h,.refl _⟩⟩
    split at e
    · rename_i h1; subst h1; injection e with e; subst e
      exact ⟨by decide,rfl,_,rfl,rfl,fun m c h => ⟨c,h,.refl _⟩⟩
    · cases e
  refine MRun.freeze (l := 3) (k := 4) (xs := (p ++ (⟨lab,vp ++ v :: vq⟩ : Exa) :: q).map Exa.av) (ob' := [(4,[.int .i64 u.kd,.int .i64 u.n,.str u.s]),(2,[.str ent,.sl 1 (fs.map AV.str) .unk,.sl 4 ((p ++ (⟨lab,vp ++ v :: vq⟩ : Exa) :: q).map Exa.av) .unk]),
    (1,[.int .i64 v.kd,.int .i64 v.n,.str v.s]),(0,[.str ent,.sl 1 (fs.map AV.str) .unk,.sl 4 XA .unk])]) (F' := [(1,.int .i64 p.length),(4,.ptr 0 0),(7,.ptr 1 0),(11,.ptr 2 0),(12,.ptr 4 0)]) ?_ (by rw [hfA]; rfl) (by rw [hfA]; exact hAb _) (hkA _) ?_
    (fz_cons (.refl _) (fz_cons (.refl _) (fz_cons (.refl _) (fz_cons (.refl _) (fz_cons (.refl _) fz_nil)))))
  rotate_left
  · intro l' cs' e
    simp only [lookG,List.lookup_nil] at e
    split at e
    · rename_i h1; subst h1; injection e with e; subst e
      exact ⟨by decide,rfl,_,rfl,rfl,fun m c h => ⟨c,h,.refl _⟩⟩
    split at e
    · rename_i h1; subst h1; injection e with e; subst e
      refine ⟨by decide,rfl,_,rfl,rfl,fun m c h => ?_⟩
      match m,h with
      | 0,h => exact ⟨_,h,.refl _⟩
      | 1,h => exact ⟨_,h,.refl _⟩
      | 2,h => injection h with h; subst h; exact ⟨_,rfl,.inr ⟨by simp,rfl⟩⟩
      | m + 3,h => simp at h
    split at e
    · rename_i h1; subst h1; injection e with e; subst e
      exact ⟨by decide,rfl,_,rfl,rfl,fun m c h => ⟨c,h,.refl _⟩⟩
    split at e
    · rename_i h1; subst h1; injection e with e; subst e
      exact ⟨by decide,rfl,_,rfl,rfl,fun m c h => ⟨c,h,.refl _⟩⟩
    · cases e
  subst hXA
  have hsv : SmallD (dat ent fs lab p q vp vq v) := by
    refine ⟨hs.ent,hs.fs,hs.f,by have := hs.xs; simpa using this,fun x hx => ?_,fun x hx => ?_,fun x hx w hw => ?_⟩
    · rcases List.mem_append.1 hx with hx | hx
      · exact hs.k x (List.mem_append_left _ hx)
      · rcases List.mem_cons.1 hx with rfl | hx
        · exact hs.k ⟨lab,vp ++ u :: vq⟩ (by simp)
        · exact hs.k x (by simp [hx])
    · rcases List.mem_append.1 hx with hx | hx
      · exact hs.vs x (List.mem_append_left _ hx)
      · rcases List.mem_cons.1 hx with rfl | hx
        · have := hs.vs ⟨lab,vp ++ u :: vq⟩ (by simp)
          simpa using this
        · exact hs.vs x (by simp [hx])
    · rcases List.mem_append.1 hx with hx | hx
      · exact hs.v x (List.mem_append_left _ hx) w hw
      · rcases List.mem_cons.1 hx with rfl | hx
        · rcases List.mem_append.1 hw with hw | hw
          · exact hs.v ⟨lab,vp ++ u :: vq⟩ (by simp) w (by simp [hw])
          · rcases List.mem_cons.1 hw with rfl | hw
            · omega
            · exact hs.v ⟨lab,vp ++ u :: vq⟩ (by simp) w (by simp [hw])
        · exact hs.v x (by simp [hx]) w hw
  clear hao hvo hfA hfV hAl hVl hAb hVb hAd hAs hVs hA1 hV1 hfA0 hfV0 hlA hlV hget hgetV hkV hkA hRA hRV
  have h17a := c17 hg hm0 (dat ent fs lab p q vp vq u) (dat ent fs lab p q vp vq v) hs hsv
  have h17b := c17 hg hm0 (dat ent fs lab p q vp vq v) (dat ent fs lab p q vp vq u) hsv hs
  have h23a := c23 hg hm0 (dat ent fs lab p q vp vq u) hs
  have h23b := c23 hg hm0 (dat ent fs lab p q vp vq v) hsv
  have h32 := c32 (gl := gl) v (by omega)
  have hfo := form_one (v := v) hf
  have hEu : encAV (dat ent fs lab p q vp vq u) = .tup [.sl 1 ((encB (dat ent fs lab p q vp vq u)).map byteAV) .unk,.int .i64 0] := by simp only [encAV,encL,encE,hf,if_true]
  rw [hEu] at h23a
  refine opn m9c0.eq_1 ?_
  have e01 : ((0 : Int) == 1) = false := rfl
  have e00 : ((0 : Int) == 0) = true := rfl
  have e11 : ((1 : Int) == 1) = true := rfl
  by_cases hv : chkR v = 0
  rotate_left
  · have hfv : formB (dat ent fs lab p q vp vq v) = false := by rw [hfo]; simpa using hv
    obtain ⟨d1,d2⟩ := dif_none (u := u) hfv
    rw [d1] at h17a
    rw [d2] at h17b
    have hEv : encAV (dat ent fs lab p q vp vq v) = .tup [.sl 1 [] .unk,.int .i64 1] := by simp only [encAV,encL,encE,hfv,if_false,Bool.false_eq_true,List.map_nil]
    rw [hEv] at h23b
    have hne := neI hv
    repeat' first
      | with_reducible first | refine mw_as m9.eq_1 ?_ | refine opn m9k0.eq_1 ?_ | refine opn m9k1.eq_1 ?_ | refine opn m9k2.eq_1 ?_ | refine opn m9k3.eq_1 ?_ | refine opn m9k4.eq_1 ?_ | refine opn m9k5.eq_1 ?_ | refine opn m9k6.eq_1 ?_ | refine opn m9k7.eq_1 ?_ | refine .pu (h17a) hg rfl ?_ | refine .pu (h17b) hg rfl ?_ | refine .pu (h23a) hg rfl ?_ | refine .pu (h23b) hg rfl ?_ | refine .pu (h32) hg rfl ?_ | refine ⟨?_,?_⟩ | intro _
      | simp only [go_sem,↓reduceIte,Nat.reduceAdd,Nat.reduceLeDiff,Nat.reduceEqDiff,Nat.reduceBEq,Nat.reduceBNe,Nat.reduceMul,Nat.reduceLT,reduceCtorEq,Int.reduceLT,Int.reduceLE,Int.reduceToNat,Int.reduceNeg,  hne,e00,e01,e11]
  have hfv : formB (dat ent fs lab p q vp vq v) = true := by rw [hfo,hv]; rfl
  have hEv : encAV (dat ent fs lab p q vp vq v) = .tup [.sl 1 ((encB (dat ent fs lab p q vp vq v)).map byteAV) .unk,.int .i64 0] := by simp only [encAV,encL,encE,hfv,if_true]
  rw [hEv] at h23b
  rw [dif_one hf hfv] at h17a
  rw [dif_one hfv hf] at h17b
  rw [hv] at h32
  have heq := enc_one hf hfv
  by_cases huv : u = v
  · subst huv
    simp only [beq_self_eq_true,if_true] at h17a h17b
    have h21 := c21 hg [] [] .unk .unk (by decide) (gl := gl)
    have hel := encB_len hf
    have h30 := c30 hg (encB (dat ent fs lab p q vp vq u)) .unk (Nat.lt_of_le_of_lt hel (by decide))
    have e0n : (((0 : Nat) : Int) == 0) = true := rfl
    have bb : ∀ b : Bool,(b == b) = true := fun b => beq_self_eq_true b
    rw [show (([] : List Int) == []) = true from rfl] at h21
    repeat' first
      | with_reducible first | refine mw_as m9.eq_1 ?_ | refine opn m9k0.eq_1 ?_ | refine opn m9k1.eq_1 ?_ | refine opn m9k2.eq_1 ?_ | refine opn m9k3.eq_1 ?_ | refine opn m9k4.eq_1 ?_ | refine opn m9k5.eq_1 ?_ | refine opn m9k6.eq_1 ?_ | refine opn m9k7.eq_1 ?_ | refine .pu (h17a) hg rfl ?_ | refine .pu (h17b) hg rfl ?_ | refine .pu (h23a) hg rfl ?_ | refine .pu (h23b) hg rfl ?_ | refine .pu (h32) hg rfl ?_ | refine .pu (Pure.conv (h21) (by simp only [fgs])) hg rfl ?_ | refine .pu (h30) hg rfl ?_ | refine ⟨?_,?_⟩ | intro _
      | simp only [go_sem,↓reduceIte,Nat.reduceAdd,Nat.reduceLeDiff,Nat.reduceEqDiff,Nat.reduceBEq,Nat.reduceBNe,Nat.reduceMul,Nat.reduceLT,reduceCtorEq,Int.reduceLT,Int.reduceLE,Int.reduceToNat,Int.reduceNeg,  e0,e00,e0n,strOf_bytes,cmp_bb,bb]
  · have hb1 : (u == v) = false := by simpa using huv
    have hb2 : (v == u) = false := by simp; exact fun e => huv e.symm
    rw [hb1] at h17a heq
    rw [hb2] at h17b
    simp only [Bool.false_eq_true,if_false] at h17a h17b
    have h21 := c21 hg [(p.length : Int)] [(p.length : Int)] .unk .unk (by simp) (gl := gl)
    rw [beq_self_eq_true] at h21
    rw [val_beq] at hb2
    repeat' first
      | with_reducible first | refine mw_as m9.eq_1 ?_ | refine opn m9k0.eq_1 ?_ | refine opn m9k1.eq_1 ?_ | refine opn m9k2.eq_1 ?_ | refine opn m9k3.eq_1 ?_ | refine opn m9k4.eq_1 ?_ | refine opn m9k5.eq_1 ?_ | refine opn m9k6.eq_1 ?_ | refine opn m9k7.eq_1 ?_ | refine .pu (h17a) hg rfl ?_ | refine .pu (h17b) hg rfl ?_ | refine .pu (h23a) hg rfl ?_ | refine .pu (h23b) hg rfl ?_ | refine .pu (h32) hg rfl ?_ | refine .pu (Pure.conv (h21) (by simp only [fgs])) hg rfl ?_ | refine ⟨?_,?_⟩ | intro _
      | simp only [go_sem,↓reduceIte,Nat.reduceAdd,Nat.reduceLeDiff,Nat.reduceEqDiff,Nat.reduceBEq,Nat.reduceBNe,Nat.reduceMul,Nat.reduceLT,reduceCtorEq,Int.reduceLT,Int.reduceLE,Int.reduceToNat,Int.reduceNeg,  e0,e00,strOf_bytes,heq,hb2,cmp_bb]
end Go.Proofs.YtdjdhecanjmchaaGreatDoor
