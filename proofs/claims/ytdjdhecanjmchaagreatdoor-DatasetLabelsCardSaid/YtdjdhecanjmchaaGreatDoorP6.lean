/- Contracts: the reference's Print. -/
import Derived.Test.YtdjdhecanjmchaaGreatDoorP5
import Derived.Test.YtdjdhecanjmchaaGreatDoorP7
set_option linter.unusedSimpArgs false
set_option linter.unusedVariables false
namespace Go.Proofs.YtdjdhecanjmchaaGreatDoor
open Go Go.V Go.Lib
set_option maxRecDepth 40000
attribute [local go_sem ↓] keepK Opd.ev MK.ev MK.ob gsA
attribute [local go_sem high] gsB
attribute [local go_sem] binEv binOb intOp strOp unEv eqvEv eqCells eqCell noBld tasEv AV.there AV.plus pickCells storeEv AV.solid AV.cells splice putParts rowOK fldEv iarrEv extEv minEv nonNil lenEv isStr appEv appOb appArg slVecEv slVecOb slStrEv slStrOb bnd argF endQ rvsEv rvEv resOf St.none if_true if_false ite_self eq_self ne_eq implies_true forall_const Lab.av Val.av Exa.av Dset.av Req.av gsC
variable {gl : List (Nat × List AV)}
def featsT : List Bytes → Bytes
  | [] => []
  | f :: fs => 9 :: (f ++ featsT fs)
def valsT : List Val → Bytes
  | [] => []
  | v :: vs => 9 :: (fmtV v ++ valsT vs)
def lineT (x : Exa) : Bytes := x.lab.k ++ (9 :: (itoa x.lab.e ++ (9 :: (itoa x.lab.n ++ (valsT x.vs ++ [10])))))
def linesT : List Exa → Bytes
  | [] => []
  | x :: xs => lineT x ++ linesT xs
abbrev evT : Bytes := [9,101,118,101,110,116,9,107,110,111,119]
def printT (d : Dset) : Bytes := d.ent ++ (evT ++ (featsT d.fs ++ (10 :: linesT d.xs)))
abbrev printAV (d : Dset) : AV := if formB d then .tup [.str (printT d),.int .i64 0] else .tup [.str [],.int .i64 1]
theorem itoa_len {n : Int} (h : tickB n = true) : (itoa n).length ≤ 21 := by
  unfold tickB at h
  simp at h
  exact itoa_length_le n (by omega) (by omega)
theorem fmtV_len (v : Val) : (fmtV v).length ≤ v.s.length + 40 := by
  unfold fmtV
  split
  · simp
  · rename_i h
    have h : chkR v = 0 := by simpa using h
    have hr := chk_range h
    split
    · unfold boolS; split <;> simp
    · split
      · have := itoa_length_le v.n (by omega) (by omega); omega
      · split
        · have := decS_len v.n (by omega) (by omega)
          unfold decF; split <;> simp <;> omega
        · split
          · simp
          · split <;> simp
theorem featsT_len (B : Nat) : ∀ fs : List Bytes,(∀ f ∈ fs,f.length ≤ B) → (featsT fs).length ≤ fs.length * (B + 1)
  | [],_ => by simp [featsT]
  | f :: fs,h => by
    have h1 := featsT_len B fs fun x hx => h x (List.mem_cons_of_mem _ hx)
    have h2 := h f List.mem_cons_self
    simp only [featsT,List.length_cons,List.length_append,Nat.succ_mul]
    omega
theorem valsT_len (B : Nat) : ∀ vs : List Val,(∀ v ∈ vs,v.s.length ≤ B) → (valsT vs).length ≤ vs.length * (B + 41)
  | [],_ => by simp [valsT]
  | v :: vs,h => by
    have h1 := valsT_len B vs fun x hx => h x (List.mem_cons_of_mem _ hx)
    have h2 := h v List.mem_cons_self
    have h3 := fmtV_len v
    simp only [valsT,List.length_cons,List.length_append,Nat.succ_mul]
    omega
structure FormF (d : Dset) : Prop where
  fs : d.fs.length ≤ 8
  xs : d.xs.length ≤ 256
  lab : ∀ x ∈ d.xs,tickB x.lab.e = true ∧ tickB x.lab.n = true
  vs : ∀ x ∈ d.xs,x.vs.length ≤ 8
theorem exsB_mem (n : Nat) : ∀ (xs : List Exa) (p : Option Lab),exsB n p xs = true → ∀ x ∈ xs,(tickB x.lab.e = true ∧ tickB x.lab.n = true) ∧ x.vs.length = n
  | [],_,_ => by simp
  | y :: ys,p,h => by
    simp only [exsB,Bool.and_eq_true,labB,decide_eq_true_eq] at h
    intro x hx
    rcases List.mem_cons.1 hx with rfl | hx
    · exact ⟨h.1.2,h.2.1⟩
    · exact exsB_mem n ys _ h.2.2.2.2 x hx
theorem formF {d : Dset} (h : formB d = true) : FormF d := by
  simp only [formB,Bool.and_eq_true,decide_eq_true_eq] at h
  have := exsB_mem _ _ _ h.2.2.2.2.2
  exact ⟨h.2.2.1,h.2.2.2.1,fun x hx => (this x hx).1,fun x hx => by have := (this x hx).2; omega⟩
theorem lineT_len {x : Exa} (hk : x.lab.k.length < 4294960000) (ht : tickB x.lab.e = true ∧ tickB x.lab.n = true) (hv : x.vs.length ≤ 8) (hs : ∀ v ∈ x.vs,v.s.length < 4294960000) : (lineT x).length ≤ 40000000000 := by
  have h1 := itoa_len ht.1
  have h2 := itoa_len ht.2
  have h3 := valsT_len 4294960000 x.vs fun v hv => by have := hs v hv; omega
  have h4 : x.vs.length * (4294960000 + 41) ≤ 8 * (4294960000 + 41) := Nat.mul_le_mul_right _ hv
  simp only [lineT,List.length_append,List.length_cons,List.length_nil]
  omega
theorem linesT_len : ∀ xs : List Exa,(∀ x ∈ xs,(lineT x).length ≤ 40000000000) → (linesT xs).length ≤ xs.length * 40000000000
  | [],_ => by simp [linesT]
  | x :: xs,h => by
    have h1 := linesT_len xs fun y hy => h y (List.mem_cons_of_mem _ hy)
    have h2 := h x List.mem_cons_self
    simp only [linesT,List.length_cons,List.length_append,Nat.succ_mul]
    omega
theorem printT_len {d : Dset} (hs : SmallD d) (hf : FormF d) : (printT d).length ≤ 20000000000000 := by
  have h1 := featsT_len 4294960000 d.fs fun f hf => by have := hs.f f hf; omega
  have h2 : d.fs.length * (4294960000 + 1) ≤ 8 * (4294960000 + 1) := Nat.mul_le_mul_right _ hf.fs
  have h3 := linesT_len d.xs fun x hx => lineT_len (hs.k x hx) (hf.lab x hx) (hf.vs x hx) (hs.v x hx)
  have h4 : d.xs.length * 40000000000 ≤ 256 * 40000000000 := Nat.mul_le_mul_right _ hf.xs
  have h5 := hs.ent
  simp only [printT,List.length_append,List.length_cons,List.length_nil]
  omega
theorem keep_a {m : Nat} (hm : 1 ≤ m) {a0 am : List AV} : ∀ l cs,List.lookup l [(0,a0)] = some cs → List.lookup l [(m,am),(0,a0)] = some cs := by
  intro l cs h
  simp only [lookG] at h ⊢
  grind
theorem keep_b {m : Nat} (hm : 1 ≤ m) {a0 am bm : List AV} : ∀ l cs,List.lookup l [(m,am),(0,a0)] = some cs → List.lookup l [(m,am),(m,bm),(0,a0)] = some cs := by
  intro l cs h
  simp only [lookG] at h ⊢
  grind
set_option maxHeartbeats 4000000 in
theorem c20 (hg : GlNR gl) (d : Dset) (hs : SmallD d) : Pure Tryz.prog gl 20 [d.av] (.ok (printAV d)) := by
  refine ⟨?_,by simp only [fgs,nrs,forall_eq_or_imp,forall_eq,implies_true],by simp only [printAV]; split <;> simp only [nrs,forall_eq_or_imp,forall_eq,implies_true]⟩
  simp only [fgs]
  refine .of_run is20 (by simp) (mw_sound 200 ?_)
  rcases Bool.eq_false_or_eq_true (formB d) with hf | hf
  · have hF := formF hf
    have hL := printT_len hs hF
    have hpr : printAV d = .tup [.str (printT d),.int .i64 0] := by simp only [printAV,hf,if_true]
    rw [hpr]
    generalize hO : (AV.tup [.str (printT d),.int .i64 0]) = OUT
    have key2 : ∀ s,printT d = s ++ linesT d.xs → MRun Tryz.prog 80 [MI.code m20l2.loop,MI.inBlock 2,MI.code (MC.named [4] m20k2)] [] [(1,AV.ptr 0 0),(4,AV.str s),(6,AV.int .i64 0)] ⟨1,[(0,[AV.str d.ent,AV.sl 1 (List.map AV.str d.fs) STok.unk,AV.sl 4 (List.map Exa.av d.xs) STok.unk])],0,[],gl⟩ (endQ [RV.t 2,RV.t 3] fun o' x => o' = Out.ok OUT) := by
      intro s hs0
      refine .forUp d.xs.length (fun i F S => ∃ (s : Bytes) (m : Nat),1 ≤ m ∧ F = [(1,AV.ptr 0 0),(4,AV.str s),(6,AV.int .i64 i)] ∧ S = ⟨m,[(0,[AV.str d.ent,AV.sl 1 (List.map AV.str d.fs) STok.unk,AV.sl 4 (List.map Exa.av d.xs) STok.unk])],0,[],gl⟩ ∧ printT d = s ++ linesT (d.xs.drop i)) ⟨s,1,Nat.le_refl _,rfl,rfl,hs0⟩ ?_
      rintro i F S hi ⟨s,m,hm,rfl,rfl,he⟩ ih
      have hxl := hs.xs
      by_cases h : i < d.xs.length
      · obtain ⟨x,hx⟩ := some_of_lt h
        have hmem := List.mem_of_getElem? hx
        have htk := hF.lab x hmem
        have hv8 := hF.vs x hmem
        have hvl := hs.v x hmem
        have hkl := hs.k x hmem
        have hte : 0 ≤ x.lab.e ∧ x.lab.e ≤ 1099511627776 := by have := htk.1; simpa [tickB] using this
        have htn : 0 ≤ x.lab.n ∧ x.lab.n ≤ 1099511627776 := by have := htk.2; simpa [tickB] using this
        have hil1 := itoa_len htk.1
        have hil2 := itoa_len htk.2
        rw [drop_some hx,linesT] at he
        have hsl : s.length ≤ 20000000000000 := by have := congrArg List.length he; rw [List.length_append] at this; omega
        have key3 : ∀ s,printT d = s ++ (valsT x.vs ++ (10 :: linesT (d.xs.drop (i + 1)))) → MRun Tryz.prog 80 [MI.code m20l1.loop,MI.inBlock 4,MI.code (MC.named [1,4,6] m20k0),MI.inBlock 3,MI.code (MC.named [1,4,6] m20k1),MI.inLoop m20l2,MI.inBlock 2,MI.code (MC.named [4] m20k2)] [] [(1,AV.ptr 0 0),(4,AV.str s),(6,AV.int .i64 i),(7,AV.ptr m 0),(8,AV.int .i64 0)] ⟨m + 1,[(m,[AV.str x.lab.k,AV.int IntKind.i64 x.lab.e,AV.int IntKind.i64 x.lab.n,AV.sl 3 (List.map Val.av x.vs) STok.unk]),(0,[AV.str d.ent,AV.sl 1 (List.map AV.str d.fs) STok.unk,AV.sl 4 (List.map Exa.av d.xs) STok.unk])],0,[],gl⟩ (endQ [RV.t 2,RV.t 3] fun o' x => o' = Out.ok OUT) := by
          intro s hs1
          refine .forUp x.vs.length (fun k F S => ∃ s : Bytes,F = [(1,AV.ptr 0 0),(4,AV.str s),(6,AV.int .i64 i),(7,AV.ptr m 0),(8,AV.int .i64 k)] ∧ S = ⟨m + 1,[(m,[AV.str x.lab.k,AV.int IntKind.i64 x.lab.e,AV.int IntKind.i64 x.lab.n,AV.sl 3 (List.map Val.av x.vs) STok.unk]),(0,[AV.str d.ent,AV.sl 1 (List.map AV.str d.fs) STok.unk,AV.sl 4 (List.map Exa.av d.xs) STok.unk])],0,[],gl⟩ ∧ printT d = s ++ (valsT (x.vs.drop k) ++ (10 :: linesT (d.xs.drop (i + 1))))) ⟨s,rfl,rfl,hs1⟩ ?_
          rintro k F S hk ⟨s,rfl,rfl,hq⟩ ihk
          have hsl : s.length ≤ 20000000000000 := by have := congrArg List.length hq; rw [List.length_append] at this; omega
          by_cases h2 : k < x.vs.length
          · obtain ⟨v,hv⟩ := some_of_lt h2
            have hvs := hvl v (List.mem_of_getElem? hv)
            have hfl := fmtV_len v
            rw [drop_some hv,valsT] at hq
            refine opn m20l1.eq_1 ?_
            repeat' first
              | with_reducible first | refine mw_as m20.eq_1 ?_ | refine opn m20k0.eq_1 ?_ | refine opn m20k1.eq_1 ?_ | refine opn m20k2.eq_1 ?_ | refine opn m20k3.eq_1 ?_ | refine .pu (c55 hg v hvs) hg rfl ?_ | refine ⟨?_,?_⟩ | intro _
              | simp only [go_sem,↓reduceIte,Nat.reduceAdd,Nat.reduceLeDiff,Nat.reduceEqDiff,Nat.reduceBEq,Nat.reduceBNe,Nat.reduceMul,Nat.reduceLT,reduceCtorEq,Int.reduceLT,Int.reduceLE,Int.reduceToNat,Int.reduceNeg,  hv,ltB h2,ltP h2,(show (0 = m) = False from eq_false (by omega)),(show (m = 0) = False from eq_false (by omega)),wrap_succ (show k < 9223372036854775807 by omega)]
            all_goals first
              | omega
              | (simp only [List.length_append,List.length_cons,List.length_nil]; omega)
              | exact ihk h2 _ _ ⟨s ++ [9] ++ fmtV v,rfl,rfl,by rw [hq]; simp⟩
          · refine opn m20l1.eq_1 ?_
            rw [List.drop_eq_nil_of_le (Nat.le_of_not_lt h2),valsT] at hq
            repeat' first
              | with_reducible first | refine mw_as m20.eq_1 ?_ | refine opn m20k0.eq_1 ?_ | refine opn m20k1.eq_1 ?_ | refine opn m20k2.eq_1 ?_ | refine opn m20k3.eq_1 ?_ | refine ⟨?_,?_⟩ | intro _
              | simp only [go_sem,↓reduceIte,Nat.reduceAdd,Nat.reduceLeDiff,Nat.reduceEqDiff,Nat.reduceBEq,Nat.reduceBNe,Nat.reduceMul,Nat.reduceLT,reduceCtorEq,Int.reduceLT,Int.reduceLE,Int.reduceToNat,Int.reduceNeg,  geB (Nat.le_of_not_lt h2),(show (0 = m) = False from eq_false (by omega)),(show (m = 0) = False from eq_false (by omega)),wrap_succ (show i < 9223372036854775807 by omega)]
            all_goals first
              | omega
              | exact MRun.keep (live' := []) (ih h _ _ ⟨s ++ [10],m + 1,by omega,rfl,rfl,by rw [hq]; simp⟩) (keep_a hm) (fun _ h => h)
        refine opn m20l2.eq_1 ?_
        repeat' first
          | with_reducible first | refine mw_as m20.eq_1 ?_ | refine opn m20k0.eq_1 ?_ | refine opn m20k1.eq_1 ?_ | refine opn m20k2.eq_1 ?_ | refine opn m20k3.eq_1 ?_ | refine .pu (c54 x.lab.e (by omega) (by omega)) hg rfl ?_ | refine .pu (c54 x.lab.n (by omega) (by omega)) hg rfl ?_ | refine ⟨?_,?_⟩ | intro _
          | simp only [go_sem,↓reduceIte,Nat.reduceAdd,Nat.reduceLeDiff,Nat.reduceEqDiff,Nat.reduceBEq,Nat.reduceBNe,Nat.reduceMul,Nat.reduceLT,reduceCtorEq,Int.reduceLT,Int.reduceLE,Int.reduceToNat,Int.reduceNeg,  hx,ltB h,ltP h,(show (0 = m) = False from eq_false (by omega)),(show (m = 0) = False from eq_false (by omega))]
        all_goals first
          | omega
          | (simp only [List.length_append,List.length_cons,List.length_nil]; omega)
          | exact MRun.keep (live' := []) (key3 _ (by rw [he]; simp [lineT])) (keep_b hm) (fun _ h => h)
      · refine opn m20l2.eq_1 ?_
        rw [List.drop_eq_nil_of_le (Nat.le_of_not_lt h),linesT,List.append_nil] at he
        repeat' first
          | with_reducible first | refine mw_as m20.eq_1 ?_ | refine opn m20k0.eq_1 ?_ | refine opn m20k1.eq_1 ?_ | refine opn m20k2.eq_1 ?_ | refine opn m20k3.eq_1 ?_ | refine ⟨?_,?_⟩ | intro _
          | simp only [go_sem,↓reduceIte,Nat.reduceAdd,Nat.reduceLeDiff,Nat.reduceEqDiff,Nat.reduceBEq,Nat.reduceBNe,Nat.reduceMul,Nat.reduceLT,reduceCtorEq,Int.reduceLT,Int.reduceLE,Int.reduceToNat,Int.reduceNeg,  geB (Nat.le_of_not_lt h)]
        rw [← hO,he]
    have key1 : ∀ s,printT d = s ++ (featsT d.fs ++ (10 :: linesT d.xs)) → MRun Tryz.prog 80 [MI.code m20l0.loop,MI.inBlock 0,MI.code (MC.named [1,4] m20k3)] [] [(1,AV.ptr 0 0),(4,AV.str s),(5,AV.int .i64 0)] ⟨1,[(0,[AV.str d.ent,AV.sl 1 (List.map AV.str d.fs) STok.unk,AV.sl 4 (List.map Exa.av d.xs) STok.unk])],0,[],gl⟩ (endQ [RV.t 2,RV.t 3] fun o' x => o' = Out.ok OUT) := by
      intro s hs0
      refine .forUp d.fs.length (fun i F S => ∃ s : Bytes,F = [(1,AV.ptr 0 0),(4,AV.str s),(5,AV.int .i64 i)] ∧ S = ⟨1,[(0,[AV.str d.ent,AV.sl 1 (List.map AV.str d.fs) STok.unk,AV.sl 4 (List.map Exa.av d.xs) STok.unk])],0,[],gl⟩ ∧ printT d = s ++ (featsT (d.fs.drop i) ++ (10 :: linesT d.xs))) ⟨s,rfl,rfl,hs0⟩ ?_
      rintro i F S hi ⟨s,rfl,rfl,he⟩ ih
      have hxl := hs.fs
      have hsl : s.length ≤ 20000000000000 := by have := congrArg List.length he; rw [List.length_append] at this; omega
      by_cases h : i < d.fs.length
      · obtain ⟨f,hx⟩ := some_of_lt h
        have hfl := hs.f f (List.mem_of_getElem? hx)
        rw [drop_some hx,featsT] at he
        refine opn m20l0.eq_1 ?_
        repeat' first
          | with_reducible first | refine mw_as m20.eq_1 ?_ | refine opn m20k0.eq_1 ?_ | refine opn m20k1.eq_1 ?_ | refine opn m20k2.eq_1 ?_ | refine opn m20k3.eq_1 ?_ | refine ⟨?_,?_⟩ | intro _
          | simp only [go_sem,↓reduceIte,Nat.reduceAdd,Nat.reduceLeDiff,Nat.reduceEqDiff,Nat.reduceBEq,Nat.reduceBNe,Nat.reduceMul,Nat.reduceLT,reduceCtorEq,Int.reduceLT,Int.reduceLE,Int.reduceToNat,Int.reduceNeg,  hx,ltB h,ltP h,wrap_succ (show i < 9223372036854775807 by omega)]
        all_goals first
          | omega
          | (simp only [List.length_append,List.length_cons,List.length_nil]; omega)
          | exact ih h _ _ ⟨s ++ [9] ++ f,rfl,rfl,by rw [he]; simp⟩
      · refine opn m20l0.eq_1 ?_
        rw [List.drop_eq_nil_of_le (Nat.le_of_not_lt h),featsT] at he
        repeat' first
          | with_reducible first | refine mw_as m20.eq_1 ?_ | refine opn m20k0.eq_1 ?_ | refine opn m20k1.eq_1 ?_ | refine opn m20k2.eq_1 ?_ | refine opn m20k3.eq_1 ?_ | refine ⟨?_,?_⟩ | intro _
          | simp only [go_sem,↓reduceIte,Nat.reduceAdd,Nat.reduceLeDiff,Nat.reduceEqDiff,Nat.reduceBEq,Nat.reduceBNe,Nat.reduceMul,Nat.reduceLT,reduceCtorEq,Int.reduceLT,Int.reduceLE,Int.reduceToNat,Int.reduceNeg,  geB (Nat.le_of_not_lt h)]
        all_goals first
          | omega
          | exact key2 _ (by rw [he]; simp)
    have hel := hs.ent
    repeat' first
      | with_reducible first | refine mw_as m20.eq_1 ?_ | refine opn m20k0.eq_1 ?_ | refine opn m20k1.eq_1 ?_ | refine opn m20k2.eq_1 ?_ | refine opn m20k3.eq_1 ?_ | refine .pu (c22 hg d hs) hg rfl ?_ | refine ⟨?_,?_⟩ | intro _
      | simp only [go_sem,↓reduceIte,Nat.reduceAdd,Nat.reduceLeDiff,Nat.reduceEqDiff,Nat.reduceBEq,Nat.reduceBNe,Nat.reduceMul,Nat.reduceLT,reduceCtorEq,Int.reduceLT,Int.reduceLE,Int.reduceToNat,Int.reduceNeg,  hf]
    · omega
    · exact key1 _ (by simp [printT])
  · have hpr : printAV d = .tup [.str [],.int .i64 1] := by simp only [printAV,hf,Bool.false_eq_true,if_false]
    rw [hpr]
    repeat' first
      | with_reducible first | refine mw_as m20.eq_1 ?_ | refine opn m20k0.eq_1 ?_ | refine opn m20k1.eq_1 ?_ | refine opn m20k2.eq_1 ?_ | refine opn m20k3.eq_1 ?_ | refine .pu (c22 hg d hs) hg rfl ?_ | refine ⟨?_,?_⟩ | intro _
      | simp only [go_sem,↓reduceIte,Nat.reduceAdd,Nat.reduceLeDiff,Nat.reduceEqDiff,Nat.reduceBEq,Nat.reduceBNe,Nat.reduceMul,Nat.reduceLT,reduceCtorEq,Int.reduceLT,Int.reduceLE,Int.reduceToNat,Int.reduceNeg,  hf]
end Go.Proofs.YtdjdhecanjmchaaGreatDoor
