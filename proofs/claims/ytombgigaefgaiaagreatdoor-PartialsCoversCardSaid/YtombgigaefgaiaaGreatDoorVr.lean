/- The by-value layer, part fifteen: from a body's run to a call; a call that needs nothing of the store may be made over any store. Over any program. -/
import Derived.Test.YtombgigaefgaiaaGreatDoorVn
import Derived.Sort.Grow
import Derived.Deep.Draws
set_option linter.unusedSimpArgs false
set_option linter.unusedVariables false
namespace Go.V
open Go
def argF : Nat → List AV → Fr
  | _,[] => []
  | i,a :: as => (i,a) :: argF (i + 1) as
inductive RV where
  | t (n : Nat)
  | c (a n : Nat) (ag : Bool)
def rvEv (F : Fr) (S : St) : RV → Option AV
  | .t n => some (F.get n)
  | .c a n ag => ((F.get a).there S).bind (pickCells n ag)
def rvsEv (F : Fr) (S : St) : List RV → Option (List AV)
  | [] => some []
  | r :: rs => (rvEv F S r).bind fun v => (rvsEv F S rs).map fun vs => v :: vs
def resOf : List AV → AV
  | [v] => v
  | vs => .tup vs
def RV.fits (P : Program) : RV → ResultVar → Bool
  | .t n,.tmp m => n == m
  | .c a n ag,.cell a' ty => a == a' && known P ty && (isAggB P ty == ag) && sizeIs P ty n
  | _,_ => false
def rvsFit (P : Program) : List RV → List ResultVar → Bool
  | [],[] => true
  | r :: rs,x :: xs => r.fits P x && rvsFit P rs xs
  | _,_ => false
def rvSem (a : Act) : ResultVar → Sem Value
  | .tmp t => pure (a.tmps.getD t undef)
  | .cell b ty => do loadVar ty (← asAddr (a.tmps.getD b undef))
theorem run_rvs {P : Program} {wb : Base} {n : Nat} {G : Gh} {S : St} {F : Fr} {D : Dfs} {w : World} {a : Act} (hR : Rel wb n G S F D w a) : ∀ {rs : List RV} {xs : List ResultVar} {vs : List AV},rvsFit P rs xs = true → rvsEv F S rs = some vs →
    ∃ us : List Value,(xs.mapM (rvSem a)).run P w = .ok us w ∧ VRels G vs us
  | [],[],vs,_,h => by
    simp [rvsEv] at h
    subst h
    exact ⟨[],by simp,rfl,by simp⟩
  | [],_ :: _,_,h,_ => by cases h
  | _ :: _,[],_,h,_ => by cases h
  | r :: rs,x :: xs,vs,h,he => by
    simp only [rvsFit,Bool.and_eq_true] at h
    simp only [rvsEv,Option.bind_eq_some_iff,Option.map_eq_some_iff] at he
    obtain ⟨v,h1,vs',h2,rfl⟩ := he
    obtain ⟨us,h3,h4,h5⟩ := run_rvs hR h.2 h2
    have hx : ∃ u,(rvSem a x).run P w = .ok u w ∧ VRel G v u := by
      cases r <;> cases x <;> simp only [RV.fits] at h <;> first
        | (cases h.1; done)
        | skip
      · simp only [beq_iff_eq] at h
        obtain ⟨rfl,_⟩ := h
        simp only [rvEv,Option.some.injEq] at h1
        subst h1
        exact ⟨_,rfl,hR.fr.get _⟩
      · simp only [Bool.and_eq_true,beq_iff_eq] at h
        obtain ⟨⟨⟨⟨rfl,q1⟩,q2⟩,q3⟩,_⟩ := h
        simp only [rvEv,Option.bind_eq_some_iff] at h1
        obtain ⟨cs,q4,q5⟩ := h1
        obtain ⟨rr,oo,q6,q7⟩ := there_at hR.st q4 (hR.fr.get _)
        obtain ⟨u,q8,q9⟩ := run_load_at (P := P) q7 q1 q2 q3 q5
        refine ⟨u,?_,q9⟩
        simp only [rvSem,q6,asAddr,Sem.run_bind,Sem.run_pure,Result.andThen_ok]
        simpa [Instr.loadAt,Instr.sureAddr] using q8
    obtain ⟨u,h6,h7⟩ := hx
    refine ⟨u :: us,?_,by simp [h4],?_⟩
    · rw [List.mapM_cons]
      simp only [Sem.run_bind]
      rw [h6]
      simp only [Result.andThen_ok]
      rw [h3]
      simp
    · intro m c z hc hz
      cases m with
      | zero => simp at hc hz; subst hc hz; exact h7
      | succ m => exact h5 m c z (by simpa using hc) (by simpa using hz)
theorem run_results {P : Program} {wb : Base} {n : Nat} {G : Gh} {S : St} {F : Fr} {D : Dfs} {w : World} {a : Act} (hR : Rel wb n G S F D w a) {fn : Func} {rs : List RV} {vs : List AV} (hf : rvsFit P rs fn.results.toList = true) (he : rvsEv F S rs = some vs) :
    ∃ u,(results fn a.tmps).run P w = .ok u w ∧ VRel G (resOf vs) u := by
  obtain ⟨us,h1,h2,h3⟩ := run_rvs (P := P) hR hf he
  have hm : (fn.results.mapM (rvSem a)).run P w = .ok us.toArray w := by
    rw [← Array.toArray_toList (xs := fn.results),List.mapM_toArray]
    simp only [Sem.run_map]
    rw [h1]
    rfl
  refine ⟨if h : us.toArray.size = 1 then us.toArray[0] else .tuple us.toArray,?_,?_⟩
  · unfold results
    change ((fn.results.mapM (rvSem a)) >>= fun vs => pure (if h : vs.size = 1 then vs[0] else .tuple vs) : Sem Value).run P w = _
    simp only [Sem.run_bind,hm]
    rfl
  · cases us with
    | nil =>
      have : vs = [] := List.eq_nil_of_length_eq_zero h2
      subst this
      simpa [resOf] using VRel.tup (G := G) (cs := []) (vs := []) rfl (by simp)
    | cons u us =>
      cases us with
      | nil =>
        obtain ⟨v,rfl⟩ : ∃ v,vs = [v] := by
          cases vs with
          | nil => simp at h2
          | cons v vs => cases vs with
            | nil => exact ⟨v,rfl⟩
            | cons _ _ => simp at h2
        simpa [resOf] using h3 0 v u rfl rfl
      | cons u' us =>
        have hr : resOf vs = .tup vs := by
          cases vs with
          | nil => rfl
          | cons v vs => cases vs with
            | nil => simp at h2
            | cons _ _ => rfl
        rw [hr]
        simpa using VRel.tup (G := G) h2 h3
def endQ (rs : List RV) (K : Out → St → Prop) : EndQ := fun e D F S =>
  match e with
  | none => D = [] ∧ (match rvsEv F S rs with
    | some vs => K (.ok (resOf vs)) S
    | none => False)
  | some v => D = [] ∧ K (.pan v) S
theorem argF_lookup {t : Nat} {v : AV} : ∀ {as : List AV} {i : Nat},(argF i as).lookup t = some v → i ≤ t ∧ as[t - i]? = some v
  | [],_,h => by cases h
  | a :: as,i,h => by
    simp only [argF,List.lookup_cons] at h
    by_cases ht : t = i
    · subst ht
      simp at h
      exact ⟨Nat.le_refl _,by simp [h]⟩
    · have hb : (t == i) = false := by simpa using ht
      rw [hb] at h
      obtain ⟨h1,h2⟩ := argF_lookup h
      refine ⟨by omega,?_⟩
      rw [show t - i = (t - (i + 1)) + 1 from by omega,List.getElem?_cons_succ]
      exact h2
def fnChk (P : Program) (n : Nat) (m : MC) (rs : List RV) (fn : Func) : Bool :=
  (match fn.body with
   | some c => m.fits P n c
   | none => false) && fn.ntmps == n && rvsFit P rs fn.results.toList
structure FnIs (P : Program) (f : FuncId) (n : Nat) (m : MC) (rs : List RV) : Prop where
  call : ∀ (args : Array Value) (w : World),(callFunc f args).run P w = .ok (.enter f args) w
  is : ∃ fn c,P.funcs[f]? = some fn ∧ fn.body = some c ∧ fn.ntmps = n ∧ m.fits P n c = true ∧ rvsFit P rs fn.results.toList = true
theorem FnIs.of {P : Program} {f : FuncId} {n : Nat} {m : MC} {rs : List RV} {fn : Func} (hc : ∀ (args : Array Value) (w : World),(callFunc f args).run P w = .ok (.enter f args) w) (hf : P.funcs[f]? = some fn) (h : fnChk P n m rs fn = true) : FnIs P f n m rs := by
  unfold fnChk at h
  simp only [Bool.and_eq_true,beq_iff_eq] at h
  obtain ⟨⟨h1,h2⟩,h3⟩ := h
  split at h1
  · rename_i c hb
    exact ⟨hc,fn,c,hf,hb,h2,h1,h3⟩
  · cases h1
theorem MCalls.of_run {P : Program} {f : FuncId} {n : Nat} {m : MC} {rs : List RV} (hf : FnIs P f n m rs) {as : List AV} (hlen : as.length ≤ n) {S : St} {K : Out → St → Prop} (h : MRun P n [.code m] [] (argF 0 as) S (endQ rs K)) : MCalls P f as S K := by
  intro wb G w vs hS hv
  obtain ⟨fn,c,h1,h3,h4,h5,h6⟩ := hf.is
  unfold Invk
  rw [hf.call]
  intro cs
  let b : Frame := { (default : Frame) with fn := f,kind := .normal,roundOf := none }
  let a : Act := { tmps := vs.toArray ++ Array.replicate (n - vs.toArray.size) undef,defers := [] }
  have henter : Frame.enter P f vs.toArray .normal = b.atR a [.code c] := by
    simp [Frame.enter,Frame.atR,h1,h3,h4,b,a]
  have hvl := hv.len
  have hR : Rel wb n G S (argF 0 as) [] w a := by
    refine ⟨hS,⟨fun t v e => ?_⟩,by simp [a]; omega,trivial⟩
    obtain ⟨_,h7⟩ := argF_lookup e
    rw [Nat.sub_zero] at h7
    have ht : t < as.length := by
      rcases Nat.lt_or_ge t as.length with h' | h'
      · exact h'
      · rw [List.getElem?_eq_none h'] at h7; cases h7
    have htv : t < vs.length := by omega
    refine ⟨by simp [a]; omega,?_⟩
    have : a.tmps.getD t undef = vs[t] := by
      simp only [a,Array.getD]
      have hsz : t < (vs.toArray ++ Array.replicate (n - vs.toArray.size) undef).size := by simp; omega
      rw [dif_pos hsz]
      simp [htv]
    rw [this]
    exact hv.rel t v _ h7 (by simp [htv])
  obtain ⟨e,a',w',G',F',S',D',av,g1,g2,g3,g4,g5⟩ := h wb G w a b cs [.code c] (by rw [okRs_cons]; simp only [MI.okR,b,MC.okR_none]; rfl) ⟨h5,trivial⟩ hR
  rw [← henter] at g3
  cases e with
  | none =>
    cases av with
    | some _ => exact g4.elim
    | none =>
      simp only [endQ] at g5
      obtain ⟨rfl,g5⟩ := g5
      split at g5
      · rename_i us hus
        obtain ⟨u,g6,g7⟩ := run_results (P := P) g2 h6 hus
        obtain ⟨todo,g8⟩ := g3.1 rfl
        have hdf : a'.defers = [] := by
          have := g2.df
          cases e2 : a'.defers with
          | nil => rfl
          | cons d ds => rw [e2] at this; exact this.elim
        exact ⟨.returned u,w',_,⟨G',S',g1,g2.st,_,g7,g5⟩,g8,rfl,rfl,hdf,rfl,fn,h1,g6⟩
      · exact g5.elim
  | some v =>
    cases av with
    | none => exact g4.elim
    | some x =>
      simp only [endQ] at g5
      obtain ⟨rfl,g5⟩ := g5
      obtain ⟨todo,g8⟩ := g3
      have hdf : a'.defers = [] := by
        have := g2.df
        cases e2 : a'.defers with
        | nil => rfl
        | cons d ds => rw [e2] at this; exact this.elim
      exact ⟨.panicked [{ v,recovered := false }],w',_,⟨G',S',g1,g2.st,v,x,rfl,g4,g5⟩,g8,rfl,rfl,hdf,fn,h1⟩
def MCallsD (P : Program) (g : FuncId) (as : List AV) (S : St) (pv : Option AV) (K : Out → St → Prop) : Prop :=
  ∀ (wb : Base) G w vs u,StRel wb G S w → VRels G as vs → PRel G pv u → CallsD P g vs.toArray u w fun e u' w' => u' = recd u ∧ EndK wb G K e w'
theorem MCallsD.mono {P : Program} {g : FuncId} {as : List AV} {S : St} {pv : Option AV} {K K' : Out → St → Prop} (h : MCallsD P g as S pv K) (hk : ∀ o S',K o S' → K' o S') : MCallsD P g as S pv K' := by
  intro wb G w vs u hS hv hp
  refine CallsD.mono (h wb G w vs u hS hv hp) fun e u' w' ⟨h0,G',S',h1,h2,h3⟩ => ⟨h0,G',S',h1,h2,?_⟩
  cases e with
  | returned v => obtain ⟨r,h4,h5⟩ := h3; exact ⟨r,h4,hk _ _ h5⟩
  | panicked ch => obtain ⟨v,av,h4,h5,h6⟩ := h3; exact ⟨v,av,h4,h5,hk _ _ h6⟩
  | outgrown => exact h3
theorem MRun.post {P : Program} {n : Nat} {k : List MI} {D : Dfs} {F : Fr} {S : St} {Q Q' : EndQ} (h : MRun P n k D F S Q) (hq : ∀ e D F S,Q e D F S → Q' e D F S) : MRun P n k D F S Q' := by
  intro wb G w a b cs todo hb hf hR
  obtain ⟨e,a',w',G',F',S',D',av,h1,h2,h3,h4,h5⟩ := h wb G w a b cs todo hb hf hR
  exact ⟨e,a',w',G',F',S',D',av,h1,h2,h3,h4,hq _ _ _ _ h5⟩
theorem rel_start {wb : Base} {n : Nat} {G : Gh} {S : St} {w : World} {as : List AV} {vs : List Value} (hS : StRel wb G S w) (hv : VRels G as vs) (hlen : as.length ≤ n) :
    Rel wb n G S (argF 0 as) [] w { tmps := vs.toArray ++ Array.replicate (n - vs.toArray.size) undef,defers := [] } := by
  have hvl := hv.len
  refine ⟨hS,⟨fun t v e => ?_⟩,by simp; omega,trivial⟩
  obtain ⟨_,h7⟩ := argF_lookup e
  rw [Nat.sub_zero] at h7
  have ht : t < as.length := by
    rcases Nat.lt_or_ge t as.length with h' | h'
    · exact h'
    · rw [List.getElem?_eq_none h'] at h7; cases h7
  have htv : t < vs.length := by omega
  refine ⟨by simp; omega,?_⟩
  have : (vs.toArray ++ Array.replicate (n - vs.toArray.size) undef).getD t undef = vs[t] := by
    simp only [Array.getD]
    have hsz : t < (vs.toArray ++ Array.replicate (n - vs.toArray.size) undef).size := by simp; omega
    rw [dif_pos hsz]
    simp [htv]
  rw [this]
  exact hv.rel t v _ h7 (by simp [htv])
theorem MCallsD.of_run {P : Program} {f : FuncId} {n : Nat} {m : MC} {rs : List RV} (hf : FnIs P f n m rs) {as : List AV} (hlen : as.length ≤ n) {S : St} {pv : Option AV} {K : Out → St → Prop} (h : MRunR P n [.code m] pv (argF 0 as) S (endQ rs K)) : MCallsD P f as S pv K := by
  intro wb G w vs u hS hv hp c₀ cs hu
  obtain ⟨fn,c,h1,h3,h4,h5,h6⟩ := hf.is
  let b : Frame := { (default : Frame) with fn := f,kind := .deferred,roundOf := none }
  let a : Act := { tmps := vs.toArray ++ Array.replicate (n - vs.toArray.size) undef,defers := [] }
  have henter : Frame.enter P f vs.toArray .deferred = b.atR a [.code c] := by
    simp [Frame.enter,Frame.atR,h1,h3,h4,b,a]
  obtain ⟨e,a',w',G',F',S',D',av,g1,g2,g3,g4,g5⟩ := h wb G w a b c₀ cs [.code c] rfl (by rw [okRs_cons]; simp only [MI.okR,MC.okR_none]; rfl) rfl ⟨h5,trivial⟩ (rel_start hS hv hlen) (hu ▸ hp)
  rw [← henter] at g3
  have hdf : D' = [] → a'.defers = [] := fun hD => by
    subst hD
    have := g2.df
    cases e2 : a'.defers with
    | nil => rfl
    | cons d ds => rw [e2] at this; exact this.elim
  cases e with
  | none =>
    cases av with
    | some _ => exact g4.elim
    | none =>
      simp only [endQ] at g5
      obtain ⟨hD,g5⟩ := g5
      split at g5
      · rename_i us hus
        obtain ⟨r,g6,g7⟩ := run_results (P := P) g2 h6 hus
        obtain ⟨todo,g8⟩ := g3.1 rfl
        exact ⟨.returned r,recd c₀.mode,w',_,⟨by rw [hu],G',S',g1,g2.st,_,g7,g5⟩,g8,rfl,rfl,hdf hD,fn,h1,g6⟩
      · exact g5.elim
  | some v =>
    cases av with
    | none => exact g4.elim
    | some x =>
      simp only [endQ] at g5
      obtain ⟨hD,g5⟩ := g5
      obtain ⟨todo,g8⟩ := g3
      exact ⟨.panicked [{ v,recovered := false }],recd c₀.mode,w',_,⟨by rw [hu],G',S',g1,g2.st,v,x,rfl,g4,g5⟩,g8,rfl,rfl,hdf hD,fn,h1⟩
def endQD (P : Program) (rs : List RV) (K : Out → St → Prop) : EndQ := fun e D F S =>
  match D with
  | [] => endQ rs K e [] F S
  | [(f,as,caps)] => ∃ g,f = .func g ∧ (∀ (args : Array Value) (w : World),(callFunc g args).run P w = .ok (.enter g args) w) ∧ MCallsD P g (as ++ caps) S e fun o S' => match o with
    | .ok _ => (match rvsEv F S' rs with
      | some vs => K (.ok (resOf vs)) S'
      | none => False)
    | .pan v => e = none ∧ K (.pan v) S'
  | _ => False
theorem settle_recd {G : Gh} {pv : Option AV} {u : FrameMode} (h : PRel G pv u) : settle (recd u) = .returning := by
  cases pv with
  | none => have : u = .returning := h; subst this; rfl
  | some p => obtain ⟨v,rfl,_⟩ := h; rfl
theorem MCalls.of_runD {P : Program} {f : FuncId} {n : Nat} {m : MC} {rs : List RV} (hf : FnIs P f n m rs) {as : List AV} (hlen : as.length ≤ n) {S : St} {K : Out → St → Prop} (h : MRun P n [.code m] [] (argF 0 as) S (endQD P rs K)) : MCalls P f as S K := by
  intro wb G w vs hS hv
  obtain ⟨fn,c,h1,h3,h4,h5,h6⟩ := hf.is
  unfold Invk
  rw [hf.call]
  intro cs
  let b : Frame := { (default : Frame) with fn := f,kind := .normal,roundOf := none }
  let a : Act := { tmps := vs.toArray ++ Array.replicate (n - vs.toArray.size) undef,defers := [] }
  have henter : Frame.enter P f vs.toArray .normal = b.atR a [.code c] := by
    simp [Frame.enter,Frame.atR,h1,h3,h4,b,a]
  obtain ⟨e,a',w',G',F',S',D',av,g1,g2,g3,g4,g5⟩ := h wb G w a b cs [.code c] (by rw [okRs_cons]; simp only [MI.okR,b,MC.okR_none]; rfl) ⟨h5,trivial⟩ (rel_start hS hv hlen)
  rw [← henter] at g3
  simp only [endQD] at g5
  split at g5
  ·
    have hdf : a'.defers = [] := by
      have := g2.df
      cases e2 : a'.defers with
      | nil => rfl
      | cons d ds => rw [e2] at this; exact this.elim
    cases e with
    | none =>
      cases av with
      | some _ => exact g4.elim
      | none =>
        simp only [endQ] at g5
        obtain ⟨_,g5⟩ := g5
        split at g5
        · rename_i us hus
          obtain ⟨u,g6,g7⟩ := run_results (P := P) g2 h6 hus
          obtain ⟨todo,g8⟩ := g3.1 rfl
          exact ⟨.returned u,w',_,⟨G',S',g1,g2.st,_,g7,g5⟩,g8,rfl,rfl,hdf,rfl,fn,h1,g6⟩
        · exact g5.elim
    | some v =>
      cases av with
      | none => exact g4.elim
      | some x =>
        simp only [endQ] at g5
        obtain ⟨_,g5⟩ := g5
        obtain ⟨todo,g8⟩ := g3
        exact ⟨.panicked [{ v,recovered := false }],w',_,⟨G',S',g1,g2.st,v,x,rfl,g4,g5⟩,g8,rfl,rfl,hdf,fn,h1⟩
  · rename_i f0 as0 caps0
    obtain ⟨g,rfl,hcall,hD⟩ := g5
    have hdf := g2.df
    cases e2 : a'.defers with
    | nil => rw [e2] at hdf; exact hdf.elim
    | cons d ds =>
      rw [e2] at hdf
      obtain ⟨hd0,hds⟩ := hdf
      obtain ⟨vs1,ws1,hd,hv1,hw1⟩ : ∃ vs ws : List Value,d = { target := .fn (.func g) ws.toArray,args := vs.toArray } ∧ VRels G' as0 vs ∧ VRels G' caps0 ws := by
        rcases hd0 with h | ⟨_,h,_⟩
        · exact h
        · cases h
      have hds' : ds = [] := by
        cases ds with
        | nil => rfl
        | cons _ _ => exact hds.elim
      subst hds'
      obtain ⟨u,todo,hu,hrun,hp⟩ : ∃ (u : FrameMode) (todo : List Item),u ≠ .run ∧ Steps P (lone (Frame.enter P f vs.toArray .normal) cs w) (lone { b.atR a' todo with mode := u } cs w') ∧ PRel G' av u := by
        cases e with
        | none =>
          cases av with
          | some _ => exact g4.elim
          | none => obtain ⟨todo,g8⟩ := g3.1 rfl; exact ⟨.returning,todo,by simp,g8,rfl⟩
        | some v =>
          cases av with
          | none => exact g4.elim
          | some x => obtain ⟨todo,g8⟩ := g3; exact ⟨_,todo,by simp,g8,v,rfl,g4⟩
      have hL : Leaves P fn a'.tmps (EndK wb G K) [d] u w' := by
        refine ⟨hu,.func g,ws1.toArray,g,(vs1 ++ ws1).toArray,by rw [hd],?_,?_⟩
        · rw [hd]
          simp only [invoke]
          rw [show vs1.toArray ++ ws1.toArray = (vs1 ++ ws1).toArray from by simp]
          exact hcall _ _
        · refine CallsD.mono (hD wb G' w' (vs1 ++ ws1) u g2.st (hv1.append hw1) hp) fun e' u' w'' ⟨hu',G2,S2,q1,q2,q3⟩ => ?_
          subst hu'
          cases e' with
          | returned r =>
            obtain ⟨r',q4,q5⟩ := q3
            simp only at q5
            split at q5
            · rename_i us hus
              show Leaves P fn a'.tmps _ [] (settle (recd u)) w''
              rw [settle_recd hp]
              have hR2 : Rel wb n G2 S2 F' [] w'' { a' with defers := [] } := ⟨q2,⟨(g2.fr.mono q1).rel⟩,g2.sz,trivial⟩
              obtain ⟨x,q6,q7⟩ := run_results (P := P) hR2 h6 hus
              exact ⟨x,q6,G2,S2,Gh.le_trans g1 q1,q2,_,q7,q5⟩
            · exact q5.elim
          | panicked ch =>
            obtain ⟨v,x,rfl,q5,q6,q7⟩ := q3
            subst q6
            have hu2 : u = .returning := hp
            subst hu2
            exact ⟨G2,S2,Gh.le_trans g1 q1,q2,v,x,rfl,q5,q7⟩
          | outgrown => exact q3.elim
      obtain ⟨e',w'',fr',r1,r2,r3,r4⟩ := leaves_steps [d] u w' { b.atR a' todo with mode := u } cs rfl e2 rfl h1 rfl hL
      exact ⟨e',w'',fr',r1,Comes.of_steps hrun r2,r3,r4⟩
  · exact g5.elim
def RV.slot : RV → Nat
  | .t n => n
  | .c a _ _ => a
theorem rvsEv_congr {F F' : Fr} {S : St} : ∀ {rs : List RV},(∀ r ∈ rs,F.get r.slot = F'.get r.slot) → rvsEv F S rs = rvsEv F' S rs
  | [],_ => rfl
  | r :: rs,h => by
    have h1 : rvEv F S r = rvEv F' S r := by
      have := h r (by simp)
      cases r <;> simp only [rvEv,RV.slot] at this ⊢ <;> rw [this]
    simp only [rvsEv,h1,rvsEv_congr (rs := rs) fun r hr => h r (by simp [hr])]
theorem QPin_endQD {P : Program} {rs : List RV} {K : Out → St → Prop} {ds : List Nat} (h : (rs.all fun r => !ds.contains r.slot) = true) : QPin (endQD P rs K) ds := by
  intro v D F F' S hF hq
  have hr : ∀ S,rvsEv F S rs = rvsEv F' S rs := fun S => rvsEv_congr fun r hr => by
    have h1 := List.all_eq_true.1 h r hr
    unfold Fr.get
    rw [hF _ (by simpa using h1)]
  simp only [endQD] at hq ⊢
  split at hq
  · exact hq
  · obtain ⟨g,h1,h2,h3⟩ := hq
    refine ⟨g,h1,h2,fun wb G w vs u a1 a2 a3 => CallsD.mono (h3 wb G w vs u a1 a2 a3) fun e u' w' ⟨b1,G',S',b2,b3,b4⟩ => ⟨b1,G',S',b2,b3,?_⟩⟩
    cases e with
    | returned x => obtain ⟨r,b5,b6⟩ := b4; refine ⟨r,b5,?_⟩; simp only [← hr]; exact b6
    | panicked ch => exact b4
    | outgrown => exact b4
  · exact hq
def NoRef (r : AV) : Prop := ∀ (G G' : Gh) (v : Value),(∀ a o x,G.φ a o = some x → G'.φ a o = some x) → VRel G r v → VRel G' r v
theorem NoRef.bool (b : Bool) : NoRef (.bool b) := fun G G' v _ h => by cases h; exact .bool _
theorem NoRef.int (k : IntKind) (n : Int) : NoRef (.int k n) := fun G G' v _ h => by cases h; exact .int _ _
theorem NoRef.str (s : List UInt8) : NoRef (.str s) := fun G G' v _ h => by cases h; exact .str _
theorem NoRef.nilp : NoRef .nilp := fun G G' v _ h => by cases h; exact .nilp
theorem NoRef.nili : NoRef .nili := fun G G' v _ h => by cases h; exact .nili
theorem NoRef.nilf : NoRef .nilf := fun G G' v _ h => by cases h; exact .nilf
theorem NoRef.junk : NoRef .junk := fun _ _ _ _ _ => .junk _
theorem NoRef.gp (g o : Nat) : NoRef (.gp g o) := fun G G' v _ h => by cases h; exact .gp _ _
theorem NoRef.ifc {t : TypeId} {c : AV} (hc : NoRef c) : NoRef (.ifc t c) := fun G G' v hp h => by cases h; exact .ifc t (hc G G' _ hp ‹_›)
theorem NoRef.agg {cs : List AV} (hc : ∀ c ∈ cs,NoRef c) : NoRef (.agg cs) := fun G G' v hp h => by
  cases h
  rename_i vs ho hl hv
  exact .agg hl ho fun m c v h1 h2 => hc c (List.mem_of_getElem? h1) G G' v hp (hv m c v h1 h2)
theorem NoRef.tup {cs : List AV} (hc : ∀ c ∈ cs,NoRef c) : NoRef (.tup cs) := fun G G' v hp h => by
  cases h
  rename_i vs hl hv
  exact .tup hl fun m c v h1 h2 => hc c (List.mem_of_getElem? h1) G G' v hp (hv m c v h1 h2)
theorem mem_flat {xs : List AV} {c : AV} (h : c ∈ flat xs) : ∃ x ∈ xs,c ∈ x.cells := by
  simpa [flat,List.mem_flatMap] using h
theorem NoRef.sl {k : Nat} {xs : List AV} {t : STok} (hx : ∀ x ∈ xs,∀ c ∈ x.cells,NoRef c) (ht : t = .unk ∨ t = .exact) : NoRef (.sl k xs t) := fun G G' v hp h => by
  cases h with
  | slnil => exact .slnil _ _ _
  | sl f hk hf ho hv hc htk =>
    refine .sl f hk (fun m c e => hp _ _ _ (hf m c e)) ho (fun m c e => ?_) hc ?_
    · obtain ⟨x,h1,h2⟩ := mem_flat (List.mem_of_getElem? e)
      exact hx x h1 c h2 G G' _ hp (hv m c e)
    · cases t with
      | unk => trivial
      | exact => exact htk
      | tok n => simp at ht
      | new n => simp at ht
theorem NoRef.func {f : Fn} {as cs : List AV} (ha : ∀ c ∈ as,NoRef c) (hc : ∀ c ∈ cs,NoRef c) : NoRef (.fn f as cs) := fun G G' v hp h => by
  cases h
  rename_i vs ws h1 hv h2 hw
  exact .fn f h1 h2 (fun m c v e1 e2 => ha c (List.mem_of_getElem? e1) G G' v hp (hv m c v e1 e2)) (fun m c v e1 e2 => hc c (List.mem_of_getElem? e1) G G' v hp (hw m c v e1 e2))
def St.none (gl : List (Nat × List AV)) : St := ⟨0,[],0,[],gl⟩
theorem StRel.start {wb : Base} {G : Gh} {S : St} {w : World} (h : StRel wb G S w) (hg : ∀ g cs,S.gl.lookup g = some cs → ∀ c ∈ cs,NoRef c) :
    StRel { toWorld := w,φ := G.φ,good := h.good } ⟨G.φ,fun _ => Option.none,fun _ => Option.none,w.heap.size,G.κ⟩ (.none S.gl) w where
  prom := h.prom
  apart := fun l cs r o e => by cases e
  room := fun l cs r e => by cases e
  obj := fun l cs e => by cases e
  beta := rfl
  bld := fun l s e => by cases e
  bldu := fun l l' s s' e => by cases e
  inj := fun l l' r cs cs' e => by cases e
  dom := fun l r e => by cases e
  tok := fun t ht => by cases ht
  tdom := fun t x e => by cases e
  tdis := fun t ht => by cases ht
  base := ⟨Nat.le_refl _,fun _ _ => rfl⟩
  pold := fun r o v _ e => e
  still := ⟨rfl,rfl,rfl⟩
  glob := fun g cs e m c hm => by
    obtain ⟨v,h1,h2,h3⟩ := h.glob g cs e m c hm
    exact ⟨v,h1,hg g cs e c (List.mem_of_getElem? hm) G _ _ (fun _ _ _ e => e) h2,h3⟩
theorem StRel.frame {wb : Base} {G G' : Gh} {S S' : St} {w w' : World} (h : StRel wb G S w) (h' : StRel { toWorld := w,φ := G.φ,good := h.good } G' S' w') (hφ : ∀ r o v,G.φ r o = some v → G'.φ r o = some v) :
    StRel wb ⟨G'.φ,G.σ,G.τ,G.β,G.κ⟩ S w' := by
  have hle : G.le ⟨G'.φ,G.σ,G.τ,G.β,G.κ⟩ := ⟨hφ,fun _ _ e => e,fun _ _ e => e,rfl,fun _ _ _ => rfl⟩
  have hcell : ∀ r o,r < w.heap.size → w'.cell? ⟨r,o,Option.none⟩ = w.cell? ⟨r,o,Option.none⟩ := fun r o hr => by
    have : w'.heap[r]? = w.heap[r]? := h'.base.2 r hr
    simp only [World.cell?,this]
  have hfroz : ∀ r o,r < w.heap.size → w'.frozen? ⟨r,o,Option.none⟩ = w.frozen? ⟨r,o,Option.none⟩ := fun r o hr => by
    have : w'.heap[r]? = w.heap[r]? := h'.base.2 r hr
    simp only [World.frozen?,this]
  have hsz : w.heap.size ≤ w'.heap.size := h'.base.1
  have hold : ∀ r o v,r < w.heap.size → G'.φ r o = some v → G.φ r o = some v := fun r o v hr e => h'.pold r o v hr e
  refine { prom := h'.prom,room := fun l cs r hl hnb e => by
             obtain ⟨q1,q2⟩ := h.room l cs r hl hnb e
             have hlt := (h.dom l r e).2.2
             exact ⟨q1,fun m hm => by rw [hcell _ _ hlt,hfroz _ _ hlt]; exact q2 m hm⟩,apart := ?_,obj := ?_,inj := h.inj,dom := ?_,tok := ?_,tdom := ?_,tdis := h.tdis,base := ?_,pold := ?_,still := ?_,beta := h.beta,glob := ?_,bld := ?_,bldu := h.bldu }
  rotate_right
  · intro l s hl hsp0
    obtain ⟨r,hr,hb⟩ := h.bld l s hl hsp0
    refine ⟨r,hr,hb.to hle (fun hlt => h'.base.2 r hlt) fun g hg _ _ hal => ⟨h'.base.2 g hg,fun o => ?_,hal.2.1,hal.2.2⟩⟩
    cases e2 : G'.φ g o with
    | none => rfl
    | some v => have := hold g o v hg e2; rw [hal.1 o] at this; cases this
  · intro l cs r o hl hd e
    have hr := (h.dom l r e).2.2
    cases e2 : G'.φ r o with
    | none => rfl
    | some v => have := hold r o v hr e2; rw [h.apart l cs r o hl hd e] at this; cases this
  · intro l cs hl hnb
    obtain ⟨r,hr,hm⟩ := h.obj l cs hl hnb
    have hlt := (h.dom l r hr).2.2
    refine ⟨r,hr,fun m c hmc => ?_⟩
    obtain ⟨v,h1,h2,h3,h4⟩ := hm m c hmc
    exact ⟨v,by rw [hcell _ _ hlt]; exact h1,h2.mono hle,h3,by rw [hfroz _ _ hlt]; exact h4⟩
  · intro l r e
    have := h.dom l r e
    omega
  · intro t ht
    obtain ⟨r,e,z,h1,h2⟩ := h.tok t ht
    refine ⟨r,e,z,h1,fun o h3 h4 => ?_⟩
    have hlt := (h.tdom t _ h1).2 (by show e < z; omega)
    obtain ⟨h5,h6,h7,h8,h9⟩ := h2 o h3 h4
    refine ⟨h5,h6,by rw [hcell _ _ hlt]; exact h7,by rw [hfroz _ _ hlt]; exact h8,?_⟩
    cases e2 : G'.φ r o with
    | none => rfl
    | some v => have := hold r o v hlt e2; rw [h9] at this; cases this
  · intro t x e
    have := h.tdom t x e
    exact ⟨this.1,fun h' => by have := this.2 h'; omega⟩
  · refine ⟨by have := h.base.1; omega,fun r hr => ?_⟩
    rw [show w'.heap[r]? = w.heap[r]? from h'.base.2 r (by have := h.base.1; show r < w.heap.size; omega)]
    exact h.base.2 r hr
  · intro r o v hr e
    exact h.pold r o v hr (hold r o v (by have := h.base.1; omega) e)
  · obtain ⟨h1,h2,h3⟩ := h'.still
    obtain ⟨h4,h5,h6⟩ := h.still
    exact ⟨h1.trans h4,h2.trans h5,h3.trans h6⟩
  · intro g cs hg m c hmc
    obtain ⟨v,h1,h2,h3⟩ := h.glob g cs hg m c hmc
    exact ⟨v,hφ _ _ _ h1,h2.mono hle,h3⟩
theorem MCalls.lift {P : Program} {f : FuncId} {as : List AV} {S : St} {K : Out → Prop} (h : MCalls P f as (.none S.gl) fun o _ => K o) (ha : ∀ a ∈ as,NoRef a) (hg : ∀ g cs,S.gl.lookup g = some cs → ∀ c ∈ cs,NoRef c)
    (hK : ∀ r,K (.ok r) → NoRef r) (hK' : ∀ r,K (.pan r) → NoRef r) : MCalls P f as S fun o S' => S' = S ∧ K o := by
  intro wb G w vs hS hv
  have hst := hS.start hg
  have hv0 : VRels ⟨G.φ,fun _ => Option.none,fun _ => Option.none,w.heap.size,G.κ⟩ as vs := ⟨hv.len,fun m c v e1 e2 => ha c (List.mem_of_getElem? e1) G _ v (fun _ _ _ e => e) (hv.rel m c v e1 e2)⟩
  refine (h _ _ w vs hst hv0).mono fun e w' ⟨G',S',h1,h2,h3⟩ => ?_
  have hφ : ∀ r o v,G.φ r o = some v → G'.φ r o = some v := fun r o v e => h1.φ r o v e
  refine ⟨⟨G'.φ,G.σ,G.τ,G.β,G.κ⟩,S,⟨hφ,fun _ _ e => e,fun _ _ e => e,rfl,fun _ _ _ => rfl⟩,hS.frame h2 hφ,?_⟩
  cases e with
  | returned v => obtain ⟨r,h4,h5⟩ := h3; exact ⟨r,hK r h5 G' _ v (fun _ _ _ e => e) h4,rfl,h5⟩
  | panicked ch => obtain ⟨v,av,h4,h5,h6⟩ := h3; exact ⟨v,av,h4,hK' av h6 G' _ v (fun _ _ _ e => e) h5,rfl,h6⟩
  | outgrown => exact h3
end Go.V
namespace Go.V
open Go
def mw (P : Program) (n : Nat) (Q : EndQ) : Nat → List MI → Dfs → Fr → St → Prop
  | 0,k,D,F,S => MRun P n k D F S Q
  | fu + 1,k,D,F,S => match k with
    | [] => Q none D F S
    | .inBlock _ :: k => mw P n Q fu k D F S
    | .inLoop x :: k => MRun P n (.inLoop x :: k) D F S Q
    | .begin l :: k => MRun P n (.begin l :: k) D F S Q
    | .code c :: k => match c with
      | .skip => mw P n Q fu k D F S
      | .seq a b => mw P n Q fu (.code a :: .code b :: k) D F S
      | .block i a => mw P n Q fu (.code a :: .inBlock i :: k) D F S
      | .exit i => match mexit i k with
        | some k' => mw P n Q fu k' D F S
        | none => False
      | .ret => Q none D F S
      | .loop x => MRun P n (.code (.loop x) :: k) D F S Q
      | .named kp x => MRun P n (.code x :: k) D (keepK kp F) S Q
      | .cond c a b => match c.ev F with
        | .bool t => (t = true → mw P n Q fu (.code a :: k) D F S) ∧ (t = false → mw P n Q fu (.code b :: k) D F S)
        | _ => False
      | .reg l kp => moK P l (fun o F' S' => match o with
        | none => mw P n Q fu k D (keepK kp F') S'
        | some v => Q (some v) D F' S') F S
      | .any pl pr kp => QPin Q pl.dsts ∧ plK P (fun o F' S' => match o with
        | none => mw P n Q fu k D (keepK kp F') S'
        | some v => Q (some v) D F' S') S (protOf F pr) pl F S
      | .bad => False
      | .rcv _ _ _ => False
      | .rfn g ps a b => MRun P n (.code (.rfn g ps a b) :: k) D F S Q
      | .dfr l c as kp => moK P l (fun o F' S' => match o with
        | none => ∃ f first caps,c.ev F' = .fn f first caps ∧ mw P n Q fu k ((f,first ++ as.map (Opd.ev F'),caps) :: D) (keepK kp F') S'
        | some v => Q (some v) D F' S') F S
def KW (P : Program) (n : Nat) (Q : EndQ) (fu : Nat) (k : List MI) (kp : List Nat) (D : Dfs) : Option AV → Fr → St → Prop := fun o F' S' => match o with
  | none => mw P n Q fu k D (keepK kp F') S'
  | some v => Q (some v) D F' S'
theorem stepK_mono {P : Program} {o : MOp} {K K' : Option AV → Fr → St → Prop} {nx nx' : Fr → St → Prop} (hK : ∀ v F S,K (some v) F S → K' (some v) F S) (hn : ∀ F S,nx F S → nx' F S) {F : Fr} {S : St} (h : stepK P o K nx F S) : stepK P o K' nx' F S := by
  obtain ⟨ix,dst,gd,op⟩ := o
  cases op with
  | k m =>
    simp only [stepK] at h ⊢
    refine ⟨h.1,?_⟩
    have := h.2
    split at this
    · exact hn _ _ this
    · exact this.elim
  | panic x =>
    simp only [stepK] at h ⊢
    split at h
    · exact hK _ _ _ h
    · exact h.elim
  | call c as =>
    simp only [stepK] at h ⊢
    split at h
    · refine h.mono fun out S' ho => ?_
      cases out with
      | ok r => exact hn _ _ ho
      | pan v => exact hK _ _ _ ho
    · refine h.mono fun out S' ho => ?_
      cases out with
      | ok r => exact hn _ _ ho
      | pan v => exact hK _ _ _ ho
    · exact h.elim
theorem moK_mono {P : Program} {K K' : Option AV → Fr → St → Prop} (hK : ∀ o F S,K o F S → K' o F S) : ∀ (l : List MOp) {F : Fr} {S : St},moK P l K F S → moK P l K' F S
  | [],_,_,h => hK _ _ _ h
  | o :: l,F,S,h => by
    have ih := fun F S => moK_mono (P := P) hK l (F := F) (S := S)
    have hs := fun F S => stepK_mono (P := P) (o := o) (fun v F S => hK (some v) F S) ih (F := F) (S := S)
    simp only [moK] at h ⊢
    unfold guardK at h ⊢
    split at h
    · exact hs _ _ h
    · split at h
      · exact ⟨fun e => hs _ _ (h.1 e),fun e => ih _ _ (h.2 e)⟩
      · exact ih _ _ h
      · exact h.elim
theorem plK_mono {P : Program} {K K' : Option AV → Fr → St → Prop} (hK : ∀ o F S,K o F S → K' o F S) {S0 : St} {Ls : List Nat} : ∀ (pl : MPl) {F : Fr} {S : St},plK P K S0 Ls pl F S → plK P K' S0 Ls pl F S
  | .done,_,_,h => hK _ _ _ h
  | .one o lo nd r,F,S,h => by
    have hx : ∀ F' S',((nd = true → InvS S0 Ls S') ∧ plK P K S0 Ls r F' S') → ((nd = true → InvS S0 Ls S') ∧ plK P K' S0 Ls r F' S') := fun F' S' h => ⟨h.1,plK_mono hK r h.2⟩
    have hs := fun F S => stepK_mono (P := P) (o := o) (fun v F S => hK (some v) F S) hx (F := F) (S := S)
    simp only [plK] at h ⊢
    unfold guardK at h ⊢
    split at h
    · exact ⟨h.1,hs _ _ h.2⟩
    · split at h
      · exact ⟨fun e => ⟨(h.1 e).1,hs _ _ (h.1 e).2⟩,fun e => hx _ _ (h.2 e)⟩
      · exact hx _ _ h
      · exact h.elim
  | .two o1 n1 r1 o2 n2 r2,F,S,h => by
    have key : ∀ (o : MOp) (nd : Bool) (r : MPl),(∀ F S,plK P K S0 Ls r F S → plK P K' S0 Ls r F S) → guardK o (stepK P o K fun F' S' => (nd = true → InvS S0 Ls S') ∧ plK P K S0 Ls r F' S') (fun F' S' => (nd = true → InvS S0 Ls S') ∧ plK P K S0 Ls r F' S') F S →
        guardK o (stepK P o K' fun F' S' => (nd = true → InvS S0 Ls S') ∧ plK P K' S0 Ls r F' S') (fun F' S' => (nd = true → InvS S0 Ls S') ∧ plK P K' S0 Ls r F' S') F S := by
      intro o nd r ih h
      have hx : ∀ F' S',((nd = true → InvS S0 Ls S') ∧ plK P K S0 Ls r F' S') → ((nd = true → InvS S0 Ls S') ∧ plK P K' S0 Ls r F' S') := fun F' S' h => ⟨h.1,ih _ _ h.2⟩
      have hs := fun F S => stepK_mono (P := P) (o := o) (fun v F S => hK (some v) F S) hx (F := F) (S := S)
      unfold guardK at h ⊢
      split at h
      · exact hs _ _ h
      · split at h
        · exact ⟨fun e => hs _ _ (h.1 e),fun e => hx _ _ (h.2 e)⟩
        · exact hx _ _ h
        · exact h.elim
    exact ⟨key o1 n1 r1 (fun F S => plK_mono hK r1) h.1,key o2 n2 r2 (fun F S => plK_mono hK r2) h.2⟩
theorem mw_sound {P : Program} {n : Nat} {Q : EndQ} : ∀ (fu : Nat) {k : List MI} {D : Dfs} {F : Fr} {S : St},mw P n Q fu k D F S → MRun P n k D F S Q
  | 0,_,_,_,_,h => h
  | fu + 1,k,D,F,S,h => by
    simp only [mw] at h
    split at h
    · exact .done h
    · exact .inBlock (mw_sound fu h)
    · exact h
    · exact h
    · split at h
      · exact .skip (mw_sound fu h)
      · exact .seq (mw_sound fu h)
      · exact .block (mw_sound fu h)
      · split at h
        · exact .exit ‹_› (mw_sound fu h)
        · exact h.elim
      · exact .ret h
      · exact h
      · exact .named h
      · split at h
        · exact .cond ‹_› (fun e => mw_sound fu (h.1 e)) (fun e => mw_sound fu (h.2 e))
        · exact h.elim
      · refine .reg (moK_mono (fun o F' S' hk => ?_) _ h)
        cases o with
        | none => exact mw_sound fu hk
        | some v => exact hk
      · refine .any h.1 (plK_mono (fun o F' S' hk => ?_) _ h.2)
        cases o with
        | none => exact mw_sound fu hk
        | some v => exact hk
      · exact h.elim
      · exact h.elim
      · exact h
      · refine .dfr (moK_mono (fun o F' S' hk => ?_) _ h)
        cases o with
        | none => obtain ⟨f,first,caps,h1,h2⟩ := hk; exact ⟨f,first,caps,h1,mw_sound fu h2⟩
        | some v => exact hk
def exK (P : Program) (n : Nat) (Q : EndQ) (fu : Nat) (D : Dfs) (F : Fr) (S : St) : Option (List MI) → Prop
  | some k' => mw P n Q fu k' D F S
  | none => False
def cdK (P : Program) (n : Nat) (Q : EndQ) (fu : Nat) (a b : MC) (k : List MI) (D : Dfs) (F : Fr) (S : St) : AV → Prop
  | .bool t => (t = true → mw P n Q fu (.code a :: k) D F S) ∧ (t = false → mw P n Q fu (.code b :: k) D F S)
  | _ => False
def dfK (P : Program) (n : Nat) (Q : EndQ) (fu : Nat) (k : List MI) (as : List AV) (D : Dfs) (F : Fr) (S : St) : AV → Prop
  | .fn f first caps => mw P n Q fu k ((f,first ++ as,caps) :: D) F S
  | _ => False
def KD (P : Program) (n : Nat) (Q : EndQ) (fu : Nat) (k : List MI) (c : Opd) (as : List Opd) (kp : List Nat) (D : Dfs) : Option AV → Fr → St → Prop := fun o F' S' => match o with
  | none => dfK P n Q fu k (as.map (Opd.ev F')) D (keepK kp F') S' (c.ev F')
  | some v => Q (some v) D F' S'
section eqs
variable {P : Program} {n : Nat} {Q : EndQ} {fu : Nat} {k : List MI} {D : Dfs} {F : Fr} {S : St}
theorem mw_nil : mw P n Q (fu + 1) [] D F S = Q none D F S := rfl
theorem mw_begin (l : Nat) : mw P n Q (fu + 1) (.begin l :: k) D F S = MRun P n (.begin l :: k) D F S Q := rfl
theorem mw_rfn (g : Opd) (ps : List Nat) (a b : MC) : mw P n Q (fu + 1) (.code (.rfn g ps a b) :: k) D F S = MRun P n (.code (.rfn g ps a b) :: k) D F S Q := rfl
theorem mw_inBlock (i : Nat) : mw P n Q (fu + 1) (.inBlock i :: k) D F S = mw P n Q fu k D F S := rfl
theorem mw_inLoop (x : MC) : mw P n Q (fu + 1) (.inLoop x :: k) D F S = MRun P n (.inLoop x :: k) D F S Q := rfl
theorem mw_skip : mw P n Q (fu + 1) (.code .skip :: k) D F S = mw P n Q fu k D F S := rfl
theorem mw_seq (a b : MC) : mw P n Q (fu + 1) (.code (.seq a b) :: k) D F S = mw P n Q fu (.code a :: .code b :: k) D F S := rfl
theorem mw_block (i : Nat) (a : MC) : mw P n Q (fu + 1) (.code (.block i a) :: k) D F S = mw P n Q fu (.code a :: .inBlock i :: k) D F S := rfl
theorem mw_exit (i : Nat) : mw P n Q (fu + 1) (.code (.exit i) :: k) D F S = exK P n Q fu D F S (mexit i k) := rfl
theorem exK_some : exK P n Q fu D F S (some k) = mw P n Q fu k D F S := rfl
theorem mw_ret : mw P n Q (fu + 1) (.code .ret :: k) D F S = Q none D F S := rfl
theorem mw_loop (x : MC) : mw P n Q (fu + 1) (.code (.loop x) :: k) D F S = MRun P n (.code (.loop x) :: k) D F S Q := rfl
theorem mw_named (kp : List Nat) (x : MC) : mw P n Q (fu + 1) (.code (.named kp x) :: k) D F S = MRun P n (.code x :: k) D (keepK kp F) S Q := rfl
theorem mw_cond (c : Opd) (a b : MC) : mw P n Q (fu + 1) (.code (.cond c a b) :: k) D F S = cdK P n Q fu a b k D F S (c.ev F) := by
  simp only [mw,cdK]
theorem cdK_bool (a b : MC) (t : Bool) : cdK P n Q fu a b k D F S (.bool t) = ((t = true → mw P n Q fu (.code a :: k) D F S) ∧ (t = false → mw P n Q fu (.code b :: k) D F S)) := rfl
theorem cdK_true (a b : MC) : cdK P n Q fu a b k D F S (.bool true) = mw P n Q fu (.code a :: k) D F S := by simp [cdK]
theorem cdK_false (a b : MC) : cdK P n Q fu a b k D F S (.bool false) = mw P n Q fu (.code b :: k) D F S := by simp [cdK]
theorem mw_reg (l : List MOp) (kp : List Nat) : mw P n Q (fu + 1) (.code (.reg l kp) :: k) D F S = moK P l (KW P n Q fu k kp D) F S := rfl
theorem mw_any (pl : MPl) (pr kp : List Nat) : mw P n Q (fu + 1) (.code (.any pl pr kp) :: k) D F S = (QPin Q pl.dsts ∧ plK P (KW P n Q fu k kp D) S (protOf F pr) pl F S) := rfl
theorem mw_dfr (l : List MOp) (c : Opd) (as : List Opd) (kp : List Nat) : mw P n Q (fu + 1) (.code (.dfr l c as kp) :: k) D F S = moK P l (KD P n Q fu k c as kp D) F S := by
  simp only [mw]
  congr 1
  funext o F' S'
  cases o with
  | some v => rfl
  | none =>
    simp only [KD]
    cases c.ev F' <;> simp [dfK]
    exact ⟨fun ⟨_,_,_,⟨h1,h2,h3⟩,h4⟩ => by subst h1 h2 h3; exact h4,fun h => ⟨_,_,_,⟨rfl,rfl,rfl⟩,h⟩⟩
theorem KD_none (c : Opd) (as : List Opd) (kp : List Nat) : KD P n Q fu k c as kp D none F S = dfK P n Q fu k (as.map (Opd.ev F)) D (keepK kp F) S (c.ev F) := rfl
theorem KD_some (c : Opd) (as : List Opd) (kp : List Nat) (v : AV) : KD P n Q fu k c as kp D (some v) F S = Q (some v) D F S := rfl
theorem dfK_fn (as : List AV) (f : Fn) (first caps : List AV) : dfK P n Q fu k as D F S (.fn f first caps) = mw P n Q fu k ((f,first ++ as,caps) :: D) F S := rfl
theorem KW_none (kp : List Nat) : KW P n Q fu k kp D none F S = mw P n Q fu k D (keepK kp F) S := rfl
theorem KW_some (kp : List Nat) (v : AV) : KW P n Q fu k kp D (some v) F S = Q (some v) D F S := rfl
theorem mexit_inBlock (i j : Nat) : mexit i (.inBlock j :: k) = if j = i then some k else mexit i k := rfl
theorem mexit_code (i : Nat) (c : MC) : mexit i (.code c :: k) = mexit i k := rfl
theorem mexit_inLoop (i : Nat) (c : MC) : mexit i (.inLoop c :: k) = mexit i k := rfl
end eqs
def CallK (P : Program) (f : FuncId) (as : List AV) (d : Option Nat) (l : List MOp) (K : Option AV → Fr → St → Prop) (F : Fr) (S : St) : Prop :=
  MCalls P f as S (fun out S' => match out with
    | .ok r => moK P l K (putF d r F) S'
    | .pan v => K (some v) F S')
def YCallK (P : Program) (y : Nat) (as : List AV) (d : Option Nat) (l : List MOp) (K : Option AV → Fr → St → Prop) (F : Fr) (S : St) : Prop :=
  MYield P y as S (fun out S' => match out with
    | .ok r => moK P l K (putF d r F) S'
    | .pan v => K (some v) F S')
def evK (P : Program) (l : List MOp) (d : Option Nat) (K : Option AV → Fr → St → Prop) (F : Fr) : Option (AV × St) → Prop
  | some (r,S') => moK P l K (putF d r F) S'
  | none => False
def pnK (K : Option AV → Fr → St → Prop) (F : Fr) (S : St) : AV → Prop
  | .ifc t v => K (some (.ifc t v)) F S
  | _ => False
def clK (P : Program) (as : List Opd) (d : Option Nat) (l : List MOp) (K : Option AV → Fr → St → Prop) (F : Fr) (S : St) : AV → Prop
  | .fn (.func f) first caps => CallK P f (first ++ as.map (Opd.ev F) ++ caps) d l K F S
  | .fn (.yield y) [] [] => YCallK P y (as.map (Opd.ev F)) d l K F S
  | _ => False
def gdK (P : Program) (ix : Nat) (d : Option Nat) (op : MX) (t : Nat) (b : Bool) (l : List MOp) (K : Option AV → Fr → St → Prop) (F : Fr) (S : St) : AV → Prop
  | .bool c => (c = b → moK P (⟨ix,d,none,op⟩ :: l) K ((t,.bool b) :: F) S) ∧ (c = !b → moK P l K (putF d (.tup []) ((t,.bool (!b)) :: F)) S)
  | .tup [] => moK P l K (putF d (.tup []) F) S
  | _ => False
section eqs2
variable {P : Program} {K : Option AV → Fr → St → Prop} {F : Fr} {S : St} {l : List MOp} {ix : Nat} {d : Option Nat}
theorem moK_nil : moK P [] K F S = K none F S := rfl
theorem moK_k (m : MK) : moK P (⟨ix,d,none,.k m⟩ :: l) K F S = (m.ob F S ∧ evK P l d K F (m.ev F S)) := by
  show (m.ob F S ∧ _) = _
  congr 1
theorem evK_some (r : AV) (S' : St) : evK P l d K F (some (r,S')) = moK P l K (putF d r F) S' := rfl
theorem moK_panic (x : Opd) : moK P (⟨ix,d,none,.panic x⟩ :: l) K F S = pnK K F S (x.ev F) := rfl
theorem pnK_ifc (t : TypeId) (v : AV) : pnK K F S (.ifc t v) = K (some (.ifc t v)) F S := rfl
theorem moK_call (c : Opd) (as : List Opd) : moK P (⟨ix,d,none,.call c as⟩ :: l) K F S = clK P as d l K F S (c.ev F) := rfl
theorem clK_fn (f : FuncId) (first caps : List AV) (as : List Opd) : clK P as d l K F S (.fn (.func f) first caps) = CallK P f (first ++ as.map (Opd.ev F) ++ caps) d l K F S := rfl
theorem clK_yld (y : Nat) (as : List Opd) : clK P as d l K F S (.fn (.yield y) [] []) = YCallK P y (as.map (Opd.ev F)) d l K F S := rfl
theorem moK_guard (t : Nat) (b : Bool) (op : MX) : moK P (⟨ix,d,some (t,b),op⟩ :: l) K F S = gdK P ix d op t b l K F S (F.get t) := by
  cases op <;> rfl
theorem gdK_bool (t : Nat) (b c : Bool) (op : MX) : gdK P ix d op t b l K F S (.bool c) = ((c = b → moK P (⟨ix,d,none,op⟩ :: l) K ((t,.bool b) :: F) S) ∧ (c = !b → moK P l K (putF d (.tup []) ((t,.bool (!b)) :: F)) S)) := rfl
theorem gdK_same (t : Nat) (b : Bool) (op : MX) : gdK P ix d op t b l K F S (.bool b) = moK P (⟨ix,d,none,op⟩ :: l) K ((t,.bool b) :: F) S := by simp [gdK]
theorem gdK_tt (t : Nat) (op : MX) : gdK P ix d op t true l K F S (.bool true) = moK P (⟨ix,d,none,op⟩ :: l) K ((t,.bool true) :: F) S := gdK_same t true op
theorem gdK_ff (t : Nat) (op : MX) : gdK P ix d op t false l K F S (.bool false) = moK P (⟨ix,d,none,op⟩ :: l) K ((t,.bool false) :: F) S := gdK_same t false op
theorem gdK_tf (t : Nat) (op : MX) : gdK P ix d op t true l K F S (.bool false) = moK P l K (putF d (.tup []) ((t,.bool false) :: F)) S := by simp [gdK]
theorem gdK_ft (t : Nat) (op : MX) : gdK P ix d op t false l K F S (.bool true) = moK P l K (putF d (.tup []) ((t,.bool true) :: F)) S := by simp [gdK]
theorem gdK_tup (t : Nat) (b : Bool) (op : MX) : gdK P ix d op t b l K F S (.tup []) = moK P l K (putF d (.tup []) F) S := rfl
theorem putF_some (t : Nat) (v : AV) : putF (some t) v F = (t,v) :: F := rfl
theorem putF_none (v : AV) : putF none v F = F := rfl
theorem lookup_if (t u : Nat) (v : AV) (F : Fr) : List.lookup t ((u,v) :: F) = if t = u then some v else List.lookup t F := by
  rw [List.lookup_cons]
  by_cases h : t = u
  · subst h; simp
  · have : (t == u) = false := by simpa using h
    simp [this,h]
theorem get_if (l m n nt : Nat) (cs : List AV) (ob : List (Nat × List AV)) (live : List Nat) (gl : List (Nat × List AV)) : St.get ⟨n,(m,cs) :: ob,nt,live,gl⟩ l = if l = m then some cs else St.get ⟨n,ob,nt,live,gl⟩ l := by
  simp only [St.get,List.lookup_cons]
  by_cases h : l = m
  · subst h; simp
  · have : (l == m) = false := by simpa using h
    simp [this,h]
theorem set_eq (l n nt : Nat) (cs : List AV) (ob : List (Nat × List AV)) (live : List Nat) (gl : List (Nat × List AV)) : St.set ⟨n,ob,nt,live,gl⟩ l cs = ⟨n,(l,cs) :: ob,nt,live,gl⟩ := rfl
end eqs2
def PCallK (P : Program) (f : FuncId) (as : List AV) (d : Option Nat) (nd : Bool) (r : MPl) (K : Option AV → Fr → St → Prop) (S0 : St) (Ls : List Nat) (F : Fr) (S : St) : Prop :=
  MCalls P f as S (fun out S' => match out with
    | .ok v => (nd = true → InvS S0 Ls S') ∧ plK P K S0 Ls r (putF d v F) S'
    | .pan v => K (some v) F S')
def PYCallK (P : Program) (y : Nat) (as : List AV) (d : Option Nat) (nd : Bool) (r : MPl) (K : Option AV → Fr → St → Prop) (S0 : St) (Ls : List Nat) (F : Fr) (S : St) : Prop :=
  MYield P y as S (fun out S' => match out with
    | .ok v => (nd = true → InvS S0 Ls S') ∧ plK P K S0 Ls r (putF d v F) S'
    | .pan v => K (some v) F S')
def pevK (P : Program) (d : Option Nat) (nd : Bool) (r : MPl) (K : Option AV → Fr → St → Prop) (S0 : St) (Ls : List Nat) (F : Fr) : Option (AV × St) → Prop
  | some (v,S') => (nd = true → InvS S0 Ls S') ∧ plK P K S0 Ls r (putF d v F) S'
  | none => False
def pclK (P : Program) (as : List Opd) (d : Option Nat) (nd : Bool) (r : MPl) (K : Option AV → Fr → St → Prop) (S0 : St) (Ls : List Nat) (F : Fr) (S : St) : AV → Prop
  | .fn (.func f) first caps => PCallK P f (first ++ as.map (Opd.ev F) ++ caps) d nd r K S0 Ls F S
  | .fn (.yield y) [] [] => PYCallK P y (as.map (Opd.ev F)) d nd r K S0 Ls F S
  | _ => False
def pgdK (P : Program) (ix : Nat) (d : Option Nat) (op : MX) (t : Nat) (b lo nd : Bool) (r : MPl) (K : Option AV → Fr → St → Prop) (S0 : St) (Ls : List Nat) (F : Fr) (S : St) : AV → Prop
  | .bool c => (c = b → plK P K S0 Ls (.one ⟨ix,d,none,op⟩ lo nd r) ((t,.bool b) :: F) S) ∧ (c = !b → (nd = true → InvS S0 Ls S) ∧ plK P K S0 Ls r (putF d (.tup []) ((t,.bool (!b)) :: F)) S)
  | .tup [] => (nd = true → InvS S0 Ls S) ∧ plK P K S0 Ls r (putF d (.tup []) F) S
  | _ => False
section eqs3
variable {P : Program} {K : Option AV → Fr → St → Prop} {F : Fr} {S S0 : St} {Ls : List Nat} {ix : Nat} {d : Option Nat} {lo nd : Bool} {r : MPl}
theorem plK_done : plK P K S0 Ls .done F S = K none F S := rfl
theorem plK_k (m : MK) : plK P K S0 Ls (.one ⟨ix,d,none,.k m⟩ lo nd r) F S = ((lo = true → Shel Ls ⟨ix,d,none,.k m⟩ F ∧ InvS S0 Ls S) ∧ m.ob F S ∧ pevK P d nd r K S0 Ls F (m.ev F S)) := by
  show (_ ∧ m.ob F S ∧ _) = _
  congr 1
theorem pevK_some (v : AV) (S' : St) : pevK P d nd r K S0 Ls F (some (v,S')) = ((nd = true → InvS S0 Ls S') ∧ plK P K S0 Ls r (putF d v F) S') := rfl
theorem plK_call (c : Opd) (as : List Opd) : plK P K S0 Ls (.one ⟨ix,d,none,.call c as⟩ lo nd r) F S = ((lo = true → Shel Ls ⟨ix,d,none,.call c as⟩ F ∧ InvS S0 Ls S) ∧ pclK P as d nd r K S0 Ls F S (c.ev F)) := rfl
theorem pclK_fn (f : FuncId) (first caps : List AV) (as : List Opd) : pclK P as d nd r K S0 Ls F S (.fn (.func f) first caps) = PCallK P f (first ++ as.map (Opd.ev F) ++ caps) d nd r K S0 Ls F S := rfl
theorem pclK_yld (y : Nat) (as : List Opd) : pclK P as d nd r K S0 Ls F S (.fn (.yield y) [] []) = PYCallK P y (as.map (Opd.ev F)) d nd r K S0 Ls F S := rfl
theorem plK_guard (t : Nat) (b : Bool) (op : MX) : plK P K S0 Ls (.one ⟨ix,d,some (t,b),op⟩ lo nd r) F S = pgdK P ix d op t b lo nd r K S0 Ls F S (F.get t) := by
  cases op <;> rfl
theorem pgdK_bool (t : Nat) (b c : Bool) (op : MX) : pgdK P ix d op t b lo nd r K S0 Ls F S (.bool c) = ((c = b → plK P K S0 Ls (.one ⟨ix,d,none,op⟩ lo nd r) ((t,.bool b) :: F) S) ∧ (c = !b → (nd = true → InvS S0 Ls S) ∧ plK P K S0 Ls r (putF d (.tup []) ((t,.bool (!b)) :: F)) S)) := rfl
theorem pgdK_tt (t : Nat) (op : MX) : pgdK P ix d op t true lo nd r K S0 Ls F S (.bool true) = plK P K S0 Ls (.one ⟨ix,d,none,op⟩ lo nd r) ((t,.bool true) :: F) S := by simp [pgdK]
theorem pgdK_ff (t : Nat) (op : MX) : pgdK P ix d op t false lo nd r K S0 Ls F S (.bool false) = plK P K S0 Ls (.one ⟨ix,d,none,op⟩ lo nd r) ((t,.bool false) :: F) S := by simp [pgdK]
theorem pgdK_tf (t : Nat) (op : MX) : pgdK P ix d op t true lo nd r K S0 Ls F S (.bool false) = ((nd = true → InvS S0 Ls S) ∧ plK P K S0 Ls r (putF d (.tup []) ((t,.bool false) :: F)) S) := by simp [pgdK]
theorem pgdK_ft (t : Nat) (op : MX) : pgdK P ix d op t false lo nd r K S0 Ls F S (.bool true) = ((nd = true → InvS S0 Ls S) ∧ plK P K S0 Ls r (putF d (.tup []) ((t,.bool true) :: F)) S) := by simp [pgdK]
theorem pgdK_tup (t : Nat) (b : Bool) (op : MX) : pgdK P ix d op t b lo nd r K S0 Ls F S (.tup []) = ((nd = true → InvS S0 Ls S) ∧ plK P K S0 Ls r (putF d (.tup []) F) S) := rfl
theorem plK_two (o1 : MOp) (n1 : Bool) (r1 : MPl) (o2 : MOp) (n2 : Bool) (r2 : MPl) : plK P K S0 Ls (.two o1 n1 r1 o2 n2 r2) F S = (plK P K S0 Ls (.one o1 false n1 r1) F S ∧ plK P K S0 Ls (.one o2 false n2 r2) F S) := by
  have key : ∀ (o : MOp) (nd : Bool) (r : MPl),plK P K S0 Ls (.one o false nd r) F S = guardK o (stepK P o K fun F' S' => (nd = true → InvS S0 Ls S') ∧ plK P K S0 Ls r F' S') (fun F' S' => (nd = true → InvS S0 Ls S') ∧ plK P K S0 Ls r F' S') F S := by
    intro o nd r
    simp only [plK,Bool.false_eq_true,false_implies,true_and]
  rw [key,key]
  rfl
theorem shel_load (n : Nat) (ag : Bool) (p : Opd) (F : Fr) : Shel Ls ⟨ix,d,none,.k (.load n ag p)⟩ F = (match p.ev F with
    | .ptr l _ => l ∈ Ls
    | _ => True) := rfl
theorem InvS_refl : InvS S Ls S = True := eq_true ⟨rfl,fun _ _ => rfl⟩
theorem InvS_nil : InvS S0 [] S = (S.gl = S0.gl) := by simp [InvS]
theorem InvS_cons (l : Nat) : InvS S0 (l :: Ls) S = (S.get l = S0.get l ∧ InvS S0 Ls S) := by
  simp only [InvS,List.forall_mem_cons,eq_iff_iff]
  exact ⟨fun h => ⟨h.2.1,h.1,h.2.2⟩,fun h => ⟨h.2.1,h.1,h.2.2⟩⟩
theorem protOf_nil : protOf F [] = [] := rfl
theorem protOf_cons (t : Nat) (ts : List Nat) : protOf F (t :: ts) = (match F.get t with
    | .ptr l _ => l :: protOf F ts
    | .osl _ _ l _ => l :: protOf F ts
    | _ => protOf F ts) := rfl
theorem QPin_endQ (rs : List RV) (K : Out → St → Prop) (ds : List Nat) : QPin (endQ rs K) ds = True := eq_true fun v D F F' S _ h => h
end eqs3
theorem PCallK.of {P : Program} {f : FuncId} {as : List AV} {d : Option Nat} {nd : Bool} {r : MPl} {K : Option AV → Fr → St → Prop} {S0 : St} {Ls : List Nat} {F : Fr} {S : St} {R : Out → St → Prop} (h : MCalls P f as S R)
    (hk : ∀ v S',R (.ok v) S' → (nd = true → InvS S0 Ls S') ∧ plK P K S0 Ls r (putF d v F) S') (hp : ∀ v S',R (.pan v) S' → K (some v) F S') : PCallK P f as d nd r K S0 Ls F S :=
  h.mono fun o S' hr => by
    cases o with
    | ok r => exact hk r S' hr
    | pan v => exact hp v S' hr
theorem PYCallK.of {P : Program} {y : Nat} {as : List AV} {d : Option Nat} {nd : Bool} {r : MPl} {K : Option AV → Fr → St → Prop} {S0 : St} {Ls : List Nat} {F : Fr} {S : St} {R : Out → St → Prop} (h : MYield P y as S R)
    (hk : ∀ o S',R o S' → ∃ v,o = .ok v ∧ (nd = true → InvS S0 Ls S') ∧ plK P K S0 Ls r (putF d v F) S') : PYCallK P y as d nd r K S0 Ls F S :=
  h.mono fun o S' hr => by
    obtain ⟨v,rfl,h⟩ := hk o S' hr
    exact h
theorem YCallK.of {P : Program} {y : Nat} {as : List AV} {d : Option Nat} {l : List MOp} {K : Option AV → Fr → St → Prop} {F : Fr} {S : St} {R : Out → St → Prop} (h : MYield P y as S R)
    (hk : ∀ o S',R o S' → ∃ v,o = .ok v ∧ moK P l K (putF d v F) S') : YCallK P y as d l K F S :=
  h.mono fun o S' hr => by
    obtain ⟨v,rfl,h⟩ := hk o S' hr
    exact h
theorem CallK.of {P : Program} {f : FuncId} {as : List AV} {d : Option Nat} {l : List MOp} {K : Option AV → Fr → St → Prop} {F : Fr} {S : St} {R : Out → St → Prop} (h : MCalls P f as S R) (hk : ∀ r S',R (.ok r) S' → moK P l K (putF d r F) S')
    (hp : ∀ v S',R (.pan v) S' → K (some v) F S') : CallK P f as d l K F S :=
  h.mono fun o S' hr => by
    cases o with
    | ok r => exact hk r S' hr
    | pan v => exact hp v S' hr
def St.own (S : St) : St := { S with nt := S.nt + 1,live := S.nt :: S.live }
theorem MCalls.liftTok {P : Program} {f : FuncId} {as : List AV} {S : St} {k : Nat} {ys : List AV} (h : MCalls P f as (.none S.gl) fun o S' => ∃ t,o = .ok (.sl k ys (.tok t)) ∧ t ∈ S'.live) (ha : ∀ a ∈ as,NoRef a) (hg : ∀ g cs,S.gl.lookup g = some cs → ∀ c ∈ cs,NoRef c)
    (hys : ∀ x ∈ ys,∀ c ∈ x.cells,NoRef c) : MCalls P f as S fun o S' => o = .ok (.sl k ys (.tok S.nt)) ∧ S' = S.own := by
  intro wb G w vs hS hv
  have hst := hS.start hg
  have hv0 : VRels ⟨G.φ,fun _ => Option.none,fun _ => Option.none,w.heap.size,G.κ⟩ as vs := ⟨hv.len,fun m c v e1 e2 => ha c (List.mem_of_getElem? e1) G _ v (fun _ _ _ e => e) (hv.rel m c v e1 e2)⟩
  refine (h _ _ w vs hst hv0).mono fun e w' ⟨G',S',h1,h2,h3⟩ => ?_
  have hφ : ∀ r o v,G.φ r o = some v → G'.φ r o = some v := fun r o v e => h1.φ r o v e
  have hfr := hS.frame h2 hφ
  have hnone : G.τ S.nt = none := by
    cases e' : G.τ S.nt with
    | none => rfl
    | some x => have := (hS.tdom _ _ e').1; omega
  cases e with
  | panicked ch => obtain ⟨v,av,_,_,t,h6,_⟩ := h3; cases h6
  | outgrown => exact h3.elim
  | returned v =>
    obtain ⟨r,h4,t,h5,ht⟩ := h3
    injection h5 with h5
    subst h5
    obtain ⟨r,e,z,hτ,hreg⟩ := h2.tok t ht
    let G2 : Gh := ⟨G'.φ,G.σ,upd G.τ S.nt (some (r,e,z)),G.β,G.κ⟩
    have hle2 : (⟨G'.φ,G.σ,G.τ,G.β,G.κ⟩ : Gh).le G2 := ⟨fun _ _ _ e => e,fun _ _ e => e,fun t' x e' => by
      have : t' ≠ S.nt := fun e2 => by subst e2; simp only at e'; rw [hnone] at e'; cases e'
      simp [G2,upd,this]; exact e',rfl,fun _ _ _ => rfl⟩
    have hG2 : ∀ t',t' ≠ S.nt → G2.τ t' = G.τ t' := fun t' hne => by simp [G2,upd,hne]
    have hblk : e < z → w.heap.size ≤ r := fun hez => (hreg e (Nat.le_refl _) hez).1
    refine ⟨G2,S.own,⟨hφ,fun _ _ e => e,fun t' x e' => hle2.τ _ _ e',rfl,fun _ _ _ => rfl⟩,?_,_,?_,rfl,rfl⟩
    · refine { prom := hfr.prom,room := hfr.room,apart := hfr.apart,obj := ?_,inj := hfr.inj,dom := hfr.dom,tok := ?_,tdom := ?_,tdis := ?_,base := hfr.base,pold := hfr.pold,still := hfr.still,beta := hfr.beta,glob := ?_,bld := ?_,bldu := hfr.bldu }
      rotate_right
      · intro l s hl hsp0
        obtain ⟨rb,hrb,hbb⟩ := hS.bld l s hl hsp0
        refine ⟨rb,hrb,hbb.to ⟨hφ,fun _ _ e => e,fun t' x e' => hle2.τ _ _ e',rfl,fun _ _ _ => rfl⟩ (fun hlt => h2.base.2 rb hlt) fun g hg _ _ hal => ⟨h2.base.2 g hg,fun o => ?_,hal.2.1,fun t' hm' e' z' et => ?_⟩⟩
        · cases e2 : G'.φ g o with
          | none => first | rfl | exact e2
          | some v => have := h2.pold g o v hg e2; simp only at this; rw [hal.1 o] at this; cases this
        · by_cases hts : t' = S.nt
          · subst hts
            simp [G2] at et
            obtain ⟨e1,e2,e3⟩ := et
            subst e1 e2 e3
            rcases Nat.lt_or_ge e z with hez | hez
            · have := hblk hez
              omega
            · exact hez
          · rw [hG2 t' hts] at et
            have hm2 : t' ∈ S.live := by rcases List.mem_cons.1 hm' with e1 | e1; exact absurd e1 hts; exact e1
            exact hal.2.2 t' hm2 e' z' et
      · intro l cs hl hnb
        obtain ⟨r',hr',hm⟩ := hfr.obj l cs hl hnb
        exact ⟨r',hr',fun m c hmc => by obtain ⟨v,a,b,c',d⟩ := hm m c hmc; exact ⟨v,a,b.mono hle2,c',d⟩⟩
      · intro t' hm
        by_cases et : t' = S.nt
        · subst et
          refine ⟨r,e,z,by simp [G2],fun o q1 q2 => ?_⟩
          obtain ⟨q3,_,q5,q6,q7⟩ := hreg o q1 q2
          refine ⟨by have := hS.base.1; have : w.heap.size ≤ r := q3; omega,fun l e' => ?_,q5,q6,q7⟩
          have := (hS.dom l r e').2.2
          have : w.heap.size ≤ r := q3
          omega
        · have hm' : t' ∈ S.live := by rcases List.mem_cons.1 hm with e1 | e1; exact absurd e1 et; exact e1
          obtain ⟨r',a,z',q1,q2⟩ := hfr.tok t' hm'
          exact ⟨r',a,z',hle2.τ _ _ q1,q2⟩
      · intro t' x e'
        by_cases et : t' = S.nt
        · subst et
          simp [G2] at e'
          subst e'
          refine ⟨by simp [St.own],fun hez => ?_⟩
          have := (h2.tdom t _ hτ).2 hez
          exact this
        · rw [hG2 t' et] at e'
          have := hfr.tdom t' x e'
          exact ⟨by simp [St.own]; omega,this.2⟩
      · intro t1 m1 t2 m2 hne r1 a1 z1 a2 z2 e1 e2 o q1 q2 q3 q4
        by_cases et1 : t1 = S.nt <;> by_cases et2 : t2 = S.nt
        · exact hne (et1.trans et2.symm)
        · subst et1
          simp [G2] at e1
          obtain ⟨rfl,rfl,rfl⟩ := e1
          rw [hG2 t2 et2] at e2
          have h7 := (hS.tdom t2 _ e2).2 (by show a2 < z2; omega)
          have h8 := hblk (by omega)
          simp only at h7
          omega
        · subst et2
          simp [G2] at e2
          obtain ⟨rfl,rfl,rfl⟩ := e2
          rw [hG2 t1 et1] at e1
          have h7 := (hS.tdom t1 _ e1).2 (by show a1 < z1; omega)
          have h8 := hblk (by omega)
          simp only at h7
          omega
        · have m1' : t1 ∈ S.live := by rcases List.mem_cons.1 m1 with e3 | e3; exact absurd e3 et1; exact e3
          have m2' : t2 ∈ S.live := by rcases List.mem_cons.1 m2 with e3 | e3; exact absurd e3 et2; exact e3
          rw [hG2 t1 et1] at e1
          rw [hG2 t2 et2] at e2
          exact hS.tdis t1 m1' t2 m2' hne r1 a1 z1 a2 z2 e1 e2 o q1 q2 q3 q4
      · intro g cs hgl m c hmc
        obtain ⟨v,a,b,d⟩ := hfr.glob g cs hgl m c hmc
        exact ⟨v,a,b.mono hle2,d⟩
    · have hu := h4.unk
      have hn := (NoRef.sl (t := .unk) hys (.inl rfl)) G' G2 v (fun _ _ _ e => e) hu
      cases h4 with
      | slnil => exact .slnil _ _ _
      | sl f hk hp ho hv' hc htk =>
        cases hn with
        | slnil => exact .slnil _ _ _
        | sl f' hk' hp' ho' hv2 hc' _ =>
          refine .sl f' hk' hp' ho' hv2 hc' ?_
          have e1 : G'.τ t = some _ := htk
          rw [hτ] at e1
          injection e1 with e1
          show G2.τ S.nt = _
          simp only [G2,upd_same]
          rw [← e1]
abbrev oo (i d : Nat) (x : MK) : MOp := ⟨i, some d, none, .k x⟩
abbrev og (i d g : Nat) (b : Bool) (x : MK) : MOp := ⟨i, some d, some (g, b), .k x⟩
abbrev ld (i d n : Nat) (b : Bool) (t : Nat) : MOp := ⟨i, some d, none, .k (.load n b (.t t))⟩
abbrev fa (i d n t : Nat) : MOp := ⟨i, some d, none, .k (.fadr n (.t t))⟩
abbrev bi (i d : Nat) (o : BinOp) (t u : Nat) : MOp := ⟨i, some d, none, .k (.bin o (.t t) (.t u))⟩
abbrev bc (i d : Nat) (o : BinOp) (t : Nat) (c : AV) : MOp := ⟨i, some d, none, .k (.bin o (.t t) (.c c))⟩
abbrev mc (i d : Nat) (c : AV) : MOp := ⟨i, some d, none, .k (.mov (.c c))⟩
abbrev gm (i d g : Nat) (b : Bool) (t : Nat) : MOp := ⟨i, some d, some (g, b), .k (.mov (.t t))⟩
abbrev mv (i d t : Nat) : MOp := ⟨i, some d, none, .k (.mov (.t t))⟩
abbrev oc (i d f : Nat) (l : List Opd) : MOp := ⟨i, some d, none, .call (.f f) l⟩
abbrev on1 (o : MOp) (r : MPl) : MPl := .one o false false r
end Go.V
namespace Go.V
open Go
mutual
def AV.fg : AV → AV
  | .sl k xs _ => .sl k (AV.fgs xs) .unk
  | .agg cs => .agg (AV.fgs cs)
  | .tup vs => .tup (AV.fgs vs)
  | .ifc t v => .ifc t v.fg
  | a => a
def AV.fgs : List AV → List AV
  | [] => []
  | x :: xs => x.fg :: AV.fgs xs
end
theorem fgs_eq : ∀ xs : List AV,AV.fgs xs = xs.map AV.fg
  | [] => rfl
  | x :: xs => by rw [AV.fgs,List.map_cons,fgs_eq xs]
theorem fg_cells (x : AV) : x.fg.cells = x.cells.map AV.fg := by
  cases x <;> simp [AV.fg,AV.cells,fgs_eq]
theorem flat_fg (xs : List AV) : flat (xs.map AV.fg) = (flat xs).map AV.fg := by
  induction xs with
  | nil => rfl
  | cons x xs ih => simp [ih,fg_cells]
theorem VRel.fg {G : Gh} {a : AV} {v : Value} (h : VRel G a v) : VRel G a.fg v := by
  induction h with
  | junk v => exact .junk v
  | bool b => exact .bool b
  | int k n => exact .int k n
  | str s => exact .str s
  | nilp => exact .nilp
  | ptr e => exact .ptr e
  | gp g o => exact .gp g o
  | eptr f hk hp ho hv ih => exact .eptr f hk hp ho hv
  | slnil k t a => exact .slnil k .unk a
  | @sl k xs t r b cap f hk hp ho hv hc ht ih =>
    have hx : AV.fg (.sl k xs t) = .sl k (xs.map AV.fg) .unk := by simp [AV.fg,fgs_eq]
    have hfl : ∀ (m : Nat) (c : AV),(flat (xs.map AV.fg))[m]? = some c → ∃ c',(flat xs)[m]? = some c' ∧ c = c'.fg := fun m c e => by
      rw [flat_fg,List.getElem?_map] at e
      obtain ⟨c',h1,h2⟩ := Option.map_eq_some_iff.1 e
      exact ⟨c',h1,h2.symm⟩
    rw [hx]
    have := VRel.sl (G := G) (k := k) (xs := xs.map AV.fg) (t := .unk) (r := r) (b := b) (cap := cap) f (fun x hx => by
        obtain ⟨y,hy,rfl⟩ := List.mem_map.1 hx
        rw [fg_cells]; simpa using hk y hy) (fun m c e => by obtain ⟨c',h1,_⟩ := hfl m c e; exact hp m c' h1) (fun m c e => by obtain ⟨c',h1,_⟩ := hfl m c e; exact ho m c' h1)
      (fun m c e => by obtain ⟨c',h1,rfl⟩ := hfl m c e; exact ih m c' h1) (by simpa using hc) trivial
    simpa using this
  | osl k e hc hz => exact .osl k e hc hz
  | mp e => exact .mp e
  | nilm => exact .nilm
  | fn f h1 h2 hv hw => exact .fn f h1 h2 hv hw
  | nilf => exact .nilf
  | ifc t h ih => exact .ifc t ih
  | nili => exact .nili
  | agg hl ho hv ih =>
    simp only [AV.fg,fgs_eq]
    refine .agg (by simpa using hl) ho fun m c v e1 e2 => ?_
    rw [List.getElem?_map] at e1
    obtain ⟨c',h1,rfl⟩ := Option.map_eq_some_iff.1 e1
    exact ih m c' v h1 e2
  | tup hl hv ih =>
    simp only [AV.fg,fgs_eq]
    refine .tup (by simpa using hl) fun m c v e1 e2 => ?_
    rw [List.getElem?_map] at e1
    obtain ⟨c',h1,rfl⟩ := Option.map_eq_some_iff.1 e1
    exact ih m c' v h1 e2
theorem VRels.fg {G : Gh} {as : List AV} {vs : List Value} (h : VRels G as vs) : VRels G (as.map AV.fg) vs :=
  ⟨by simpa using h.len,fun m c v e1 e2 => by
    rw [List.getElem?_map] at e1
    obtain ⟨c',h1,rfl⟩ := Option.map_eq_some_iff.1 e1
    exact (h.rel m c' v h1 e2).fg⟩
def AV.Le (a a' : AV) : Prop := ∀ G v,VRel G a v → VRel G a' v
theorem AV.Le.refl (a : AV) : a.Le a := fun _ _ h => h
theorem AV.Le.fg (a : AV) : a.Le a.fg := fun _ _ h => h.fg
theorem AV.Le.sl {k : Nat} {xs ys : List AV} (t : STok) (h : ys = xs.map AV.fg) : (AV.sl k xs t).Le (.sl k ys t) := fun G v hv => by
  subst h
  cases hv with
  | slnil => exact .slnil _ _ _
  | sl f hk hp ho hv hc ht =>
    have hfl : ∀ (m : Nat) (c : AV),(flat (xs.map AV.fg))[m]? = some c → ∃ c',(flat xs)[m]? = some c' ∧ c = c'.fg := fun m c e => by
      rw [flat_fg,List.getElem?_map] at e
      obtain ⟨c',h1,h2⟩ := Option.map_eq_some_iff.1 e
      exact ⟨c',h1,h2.symm⟩
    rename_i r b cap
    have := VRel.sl (G := G) (k := k) (xs := xs.map AV.fg) (t := t) (r := r) (b := b) (cap := cap) f (fun x hx => by
        obtain ⟨y,hy,rfl⟩ := List.mem_map.1 hx
        rw [fg_cells]; simpa using hk y hy) (fun m c e => by obtain ⟨c',h1,_⟩ := hfl m c e; exact hp m c' h1) (fun m c e => by obtain ⟨c',h1,_⟩ := hfl m c e; exact ho m c' h1)
      (fun m c e => by obtain ⟨c',h1,rfl⟩ := hfl m c e; exact (hv m c' h1).fg) (by simpa using hc) (by simpa using ht)
    simpa using this
theorem MRun.imp {P : Program} {n : Nat} {k : List MI} {D : Dfs} {F F' : Fr} {S : St} {Q : EndQ} (h : MRun P n k D F' S Q) (hF : ∀ t v',F'.lookup t = some v' → ∃ v,F.lookup t = some v ∧ v.Le v') : MRun P n k D F S Q := by
  intro wb G w a b cs todo hb hf hR
  refine h wb G w a b cs todo hb hf ⟨hR.st,⟨fun t v e => ?_⟩,hR.sz,hR.df⟩
  obtain ⟨v0,h1,h2⟩ := hF t v e
  exact ⟨(hR.fr.rel t v0 h1).1,h2 G _ (hR.fr.rel t v0 h1).2⟩
theorem MCalls.fgArgs {P : Program} {f : FuncId} {as : List AV} {S : St} {K : Out → St → Prop} (h : MCalls P f (as.map AV.fg) S K) : MCalls P f as S K :=
  fun wb G w vs hS hv => h wb G w vs hS hv.fg
theorem MCalls.fgRes {P : Program} {f : FuncId} {as : List AV} {S : St} {K K' : Out → St → Prop} (h : MCalls P f as S K') (hk : ∀ r S',K' (.ok r) S' → K (.ok r.fg) S') (hp : ∀ r S',K' (.pan r) S' → K (.pan r.fg) S') : MCalls P f as S K := by
  intro wb G w vs hS hv
  refine (h wb G w vs hS hv).mono fun e w' ⟨G',S',h1,h2,h3⟩ => ⟨G',S',h1,h2,?_⟩
  cases e with
  | returned v => obtain ⟨r,h4,h5⟩ := h3; exact ⟨_,h4.fg,hk _ _ h5⟩
  | panicked ch => obtain ⟨v,av,h4,h5,h6⟩ := h3; exact ⟨v,_,h4,h5.fg,hp _ _ h6⟩
  | outgrown => exact h3
def GlNR (gl : List (Nat × List AV)) : Prop := ∀ g cs,gl.lookup g = some cs → ∀ c ∈ cs,NoRef c
def Out.noRef : Out → Prop
  | .ok r => NoRef r
  | .pan r => NoRef r
theorem noRef_ok (r : AV) : Out.noRef (.ok r) = NoRef r := rfl
theorem noRef_pan (r : AV) : Out.noRef (.pan r) = NoRef r := rfl
structure Pure (P : Program) (gl : List (Nat × List AV)) (f : FuncId) (args : List AV) (o : Out) : Prop where
  call : MCalls P f (args.map AV.fg) (.none gl) fun o' _ => o' = o
  na : ∀ a ∈ args.map AV.fg,NoRef a
  nr : o.noRef
structure Toks (P : Program) (gl : List (Nat × List AV)) (f : FuncId) (args : List AV) (k : Nat) (ys : List AV) : Prop where
  call : MCalls P f (args.map AV.fg) (.none gl) fun o S' => ∃ t,o = .ok (.sl k ys (.tok t)) ∧ t ∈ S'.live
  na : ∀ a ∈ args.map AV.fg,NoRef a
  nr : ∀ x ∈ ys,∀ c ∈ x.cells,NoRef c
theorem Pure.conv {P : Program} {gl : List (Nat × List AV)} {f : FuncId} {as as' : List AV} {o : Out} (h : Pure P gl f as o) (he : as'.map AV.fg = as.map AV.fg) : Pure P gl f as' o := ⟨by rw [he]; exact h.call,by rw [he]; exact h.na,h.nr⟩
theorem Toks.conv {P : Program} {gl : List (Nat × List AV)} {f : FuncId} {as as' : List AV} {k : Nat} {ys : List AV} (h : Toks P gl f as k ys) (he : as'.map AV.fg = as.map AV.fg) : Toks P gl f as' k ys := ⟨by rw [he]; exact h.call,by rw [he]; exact h.na,h.nr⟩
theorem Pure.at {P : Program} {gl : List (Nat × List AV)} {f : FuncId} {as : List AV} {o : Out} (h : Pure P gl f as o) {S : St} (hgl : S.gl = gl) (hg : GlNR gl) : MCalls P f as S fun o' S' => S' = S ∧ o' = o := by
  subst hgl
  refine MCalls.fgArgs (MCalls.lift (K := fun o' => o' = o) h.call h.na hg (fun r e => ?_) (fun r e => ?_))
  · subst e; exact h.nr
  · subst e; exact h.nr
theorem Toks.at {P : Program} {gl : List (Nat × List AV)} {f : FuncId} {as : List AV} {k : Nat} {ys : List AV} (h : Toks P gl f as k ys) {S : St} (hgl : S.gl = gl) (hg : GlNR gl) : MCalls P f as S fun o S' => o = .ok (.sl k ys (.tok S.nt)) ∧ S' = S.own := by
  subst hgl
  exact MCalls.fgArgs (MCalls.liftTok h.call h.na hg h.nr)
theorem Toks.pure {P : Program} {gl : List (Nat × List AV)} {f : FuncId} {as : List AV} {k : Nat} {ys : List AV} (h : Toks P gl f as k ys) (hy : ys.map AV.fg = ys) : Pure P gl f as (.ok (.sl k ys .unk)) where
  call := h.call.fgRes (fun r S' ⟨t,e,_⟩ => by injection e with e; subst e; simp [AV.fg,fgs_eq,hy]) (fun r S' ⟨t,e,_⟩ => by cases e)
  na := h.na
  nr := .sl h.nr (.inl rfl)
section use
variable {P : Program} {gl : List (Nat × List AV)} {f : FuncId} {as : List AV} {d : Option Nat} {l : List MOp} {K : Option AV → Fr → St → Prop} {F : Fr} {S S0 : St} {Ls : List Nat} {nd : Bool} {p : MPl}
theorem CallK.pure {r : AV} (h : Pure P gl f as (.ok r)) (hg : GlNR gl) (hgl : S.gl = gl) (k : moK P l K (putF d r F) S) : CallK P f as d l K F S :=
  CallK.of (h.at hgl hg) (fun r' S' ⟨e1,e2⟩ => by subst e1; injection e2 with e2; subst e2; exact k) (fun v S' ⟨_,e2⟩ => by cases e2)
theorem CallK.pan {r : AV} (h : Pure P gl f as (.pan r)) (hg : GlNR gl) (hgl : S.gl = gl) (k : K (some r) F S) : CallK P f as d l K F S :=
  CallK.of (h.at hgl hg) (fun r' S' ⟨_,e2⟩ => by cases e2) (fun v S' ⟨e1,e2⟩ => by subst e1; injection e2 with e2; subst e2; exact k)
theorem CallK.toks {k : Nat} {ys : List AV} (h : Toks P gl f as k ys) (hg : GlNR gl) (hgl : S.gl = gl) (hk : moK P l K (putF d (.sl k ys (.tok S.nt)) F) S.own) : CallK P f as d l K F S :=
  CallK.of (h.at hgl hg) (fun r' S' ⟨e1,e2⟩ => by subst e2; injection e1 with e1; subst e1; exact hk) (fun v S' ⟨e1,_⟩ => by cases e1)
theorem PCallK.pure {r : AV} (h : Pure P gl f as (.ok r)) (hg : GlNR gl) (hgl : S.gl = gl) (hi : nd = true → InvS S0 Ls S) (k : plK P K S0 Ls p (putF d r F) S) : PCallK P f as d nd p K S0 Ls F S :=
  PCallK.of (h.at hgl hg) (fun r' S' ⟨e1,e2⟩ => by subst e1; injection e2 with e2; subst e2; exact ⟨hi,k⟩) (fun v S' ⟨_,e2⟩ => by cases e2)
theorem PCallK.pan {r : AV} (h : Pure P gl f as (.pan r)) (hg : GlNR gl) (hgl : S.gl = gl) (k : K (some r) F S) : PCallK P f as d nd p K S0 Ls F S :=
  PCallK.of (h.at hgl hg) (fun r' S' ⟨_,e2⟩ => by cases e2) (fun v S' ⟨e1,e2⟩ => by subst e1; injection e2 with e2; subst e2; exact k)
theorem PCallK.toks {k : Nat} {ys : List AV} (h : Toks P gl f as k ys) (hg : GlNR gl) (hgl : S.gl = gl) (hi : nd = true → InvS S0 Ls S) (hk : plK P K S0 Ls p (putF d (.sl k ys (.tok S.nt)) F) S.own) : PCallK P f as d nd p K S0 Ls F S :=
  PCallK.of (h.at hgl hg) (fun r' S' ⟨e1,e2⟩ => by subst e2; injection e1 with e1; subst e1; exact ⟨fun e => hi e,hk⟩) (fun v S' ⟨e1,_⟩ => by cases e1)
end use
theorem VRels.nil_inv {G : Gh} {vs : List Value} (h : VRels G [] vs) : vs = [] := List.eq_nil_of_length_eq_zero h.len.symm
theorem VRels.cons_inv {G : Gh} {a : AV} {as : List AV} {vs : List Value} (h : VRels G (a :: as) vs) : ∃ v vs',vs = v :: vs' ∧ VRel G a v ∧ VRels G as vs' := by
  cases vs with
  | nil => have := h.len; simp at this
  | cons v vs => exact ⟨v,vs,rfl,h.rel 0 a v rfl rfl,by have := h.len; simpa using this,fun m c u e1 e2 => h.rel (m + 1) c u (by simpa using e1) (by simpa using e2)⟩
theorem VRel.str_inv {G : Gh} {s : List UInt8} {v : Value} (h : VRel G (.str s) v) : v = .string ⟨s.toArray⟩ := by cases h; rfl
theorem VRel.int_inv {G : Gh} {k : IntKind} {n : Int} {v : Value} (h : VRel G (.int k n) v) : v = .int k n := by cases h; rfl
theorem VRel.bool_inv {G : Gh} {b : Bool} {v : Value} (h : VRel G (.bool b) v) : v = .bool b := by cases h; rfl
theorem StRel.grow {wb : Base} {G : Gh} {S : St} {w : World} (h : StRel wb G S w) (os : Array Obj) : StRel wb G S (Go.Sort.grow w os) := by
  have key : ∀ (l : List Obj) (w : World),StRel wb G S w → StRel wb G S (Go.Sort.grow w l.toArray) := by
    intro l
    induction l with
    | nil => intro w h; simpa [Go.Sort.grow] using h
    | cons o l ih =>
      intro w h
      have := ih (w.alloc o) (h.alloc o)
      rw [Go.Sort.alloc_eq_grow,Go.Sort.grow_grow] at this
      simpa using this
  simpa using key os.toList w h
theorem StRel.drewN {wb : Base} {G : Gh} {S : St} {w : World} (h : StRel wb G S w) (k : Nat) : StRel wb G S (w.drewN k) := { h with still := h.still }
theorem MCalls.ofGrow {P : Program} {f : FuncId} {as : List AV} {S : St} {r : AV} (hc : ∀ (args : Array Value) (w : World),(callFunc f args).run P w = .ok (.enter f args) w)
    (h : ∀ wb G w vs,StRel wb G S w → VRels G as vs → ∃ v,VRel G r v ∧ Calls P f vs.toArray w fun e w' => e = .returned v ∧ ∃ k os,w' = Go.Sort.grow (w.drewN k) os) : MCalls P f as S fun o S' => S' = S ∧ o = .ok r := by
  intro wb G w vs hS hv
  obtain ⟨v,h1,h2⟩ := h wb G w vs hS hv
  unfold Invk
  rw [hc]
  refine h2.mono fun e w' ⟨he,k,os,hw⟩ => ?_
  subst he hw
  exact ⟨G,S,Gh.le_refl G,(hS.drewN k).grow os,r,h1,rfl,rfl⟩
theorem MCalls.ofSame {P : Program} {f : FuncId} {as : List AV} {S : St} {r : AV} (hc : ∀ (args : Array Value) (w : World),(callFunc f args).run P w = .ok (.enter f args) w)
    (h : ∀ wb G w vs,StRel wb G S w → VRels G as vs → ∃ v,VRel G r v ∧ Calls P f vs.toArray w fun e w' => e = .returned v ∧ w' = w) : MCalls P f as S fun o S' => S' = S ∧ o = .ok r :=
  .ofGrow hc fun wb G w vs hS hv => by
    obtain ⟨v,h1,h2⟩ := h wb G w vs hS hv
    exact ⟨v,h1,h2.mono fun e w' ⟨he,hw⟩ => ⟨he,0,#[],by rw [hw]; simp [Go.Sort.grow,World.drewN]⟩⟩
theorem NoRef.bool_eq (b : Bool) : NoRef (.bool b) = True := eq_true (.bool b)
theorem NoRef.int_eq (k : IntKind) (n : Int) : NoRef (.int k n) = True := eq_true (.int k n)
theorem NoRef.str_eq (s : List UInt8) : NoRef (.str s) = True := eq_true (.str s)
theorem NoRef.nilp_eq : NoRef .nilp = True := eq_true .nilp
theorem NoRef.nili_eq : NoRef .nili = True := eq_true .nili
theorem NoRef.nilf_eq : NoRef .nilf = True := eq_true .nilf
theorem NoRef.gp_eq (g o : Nat) : NoRef (.gp g o) = True := eq_true (.gp g o)
theorem NoRef.agg_eq {cs : List AV} (h : ∀ c ∈ cs,NoRef c) : NoRef (.agg cs) = True := eq_true (.agg h)
theorem NoRef.tup_eq {cs : List AV} (h : ∀ c ∈ cs,NoRef c) : NoRef (.tup cs) = True := eq_true (.tup h)
theorem NoRef.ifc_eq {t : TypeId} {c : AV} (h : NoRef c) : NoRef (.ifc t c) = True := eq_true (.ifc h)
theorem NoRef.sl_unk {k : Nat} {xs : List AV} (h : ∀ x ∈ xs,∀ c ∈ x.cells,NoRef c) : NoRef (.sl k xs .unk) = True := eq_true (.sl h (by simp))
theorem NoRef.sl_exact {k : Nat} {xs : List AV} (h : ∀ x ∈ xs,∀ c ∈ x.cells,NoRef c) : NoRef (.sl k xs .exact) = True := eq_true (.sl h (by simp))
theorem NoRef.fn_nil (f : Fn) : NoRef (.fn f [] []) = True := eq_true (.func (by simp) (by simp))
theorem NoRef.fn_eq {f : Fn} {as cs : List AV} (ha : ∀ c ∈ as,NoRef c) (hc : ∀ c ∈ cs,NoRef c) : NoRef (.fn f as cs) = True := eq_true (.func ha hc)
theorem ne_1 (m : Nat) : (m = m + 1) = False := eq_false (by omega)
theorem ne_2 (m : Nat) : (m = m + 1 + 1) = False := eq_false (by omega)
theorem ne_3 (m : Nat) : (m = m + 1 + 1 + 1) = False := eq_false (by omega)
theorem ne_4 (m : Nat) : (m = m + 1 + 1 + 1 + 1) = False := eq_false (by omega)
theorem ne_1' (m : Nat) : (m + 1 = m) = False := eq_false (by omega)
theorem ne_2' (m : Nat) : (m + 1 + 1 = m) = False := eq_false (by omega)
theorem ne_3' (m : Nat) : (m + 1 + 1 + 1 = m) = False := eq_false (by omega)
theorem ne_4' (m : Nat) : (m + 1 + 1 + 1 + 1 = m) = False := eq_false (by omega)
section loops
variable {P : Program} {n : Nat} {k : List MI} {D : Dfs} {F : Fr} {S : St} {Q : EndQ} {x : MC}
open Classical in
theorem MRun.loopN (I : Nat → Fr → St → Prop) (m : Nat) (h0 : I m F S)
    (round : ∀ m F S,I m F S → (∀ m' F' S',m' < m → I m' F' S' → MRun P n (.inLoop x :: k) D F' S' Q) → MRun P n (.code x :: .inLoop x :: k) D F S Q) : MRun P n (.code (.loop x) :: k) D F S Q := by
  have key : ∀ F S,(∃ m,I m F S) → ∃ m,I m F S ∧ ∀ m',I m' F S → m ≤ m' := by
    intro F S h
    obtain ⟨m,hm⟩ := h
    induction m using Nat.strongRecOn with
    | _ m ih =>
      by_cases h : ∃ m',m' < m ∧ I m' F S
      · obtain ⟨m',h1,h2⟩ := h
        exact ih m' h1 h2
      · exact ⟨m,hm,fun m' h' => Nat.le_of_not_lt fun h2 => h ⟨m',h2,h'⟩⟩
  refine MRun.loop (fun F S => ∃ m,I m F S) (fun F S => if h : ∃ m,I m F S then (key F S h).choose else 0) ⟨m,h0⟩ ?_
  intro F S hI ih
  have h1 := (key F S hI).choose_spec
  refine round _ F S h1.1 fun m' F' S' hlt hI' => ih F' S' ⟨m',hI'⟩ ?_
  have hI2 : ∃ m,I m F' S' := ⟨m',hI'⟩
  rw [dif_pos hI,dif_pos hI2]
  exact Nat.lt_of_le_of_lt ((key F' S' hI2).choose_spec.2 m' hI') hlt
theorem MRun.forUp (N : Nat) (I : Nat → Fr → St → Prop) (h0 : I 0 F S)
    (round : ∀ i F S,i ≤ N → I i F S → (i < N → ∀ F' S',I (i + 1) F' S' → MRun P n (.inLoop x :: k) D F' S' Q) → MRun P n (.code x :: .inLoop x :: k) D F S Q) : MRun P n (.code (.loop x) :: k) D F S Q := by
  refine .loopN (fun m F S => ∃ i,i + m = N ∧ I i F S) N ⟨0,by omega,h0⟩ ?_
  rintro m F S ⟨i,hi,hI⟩ ih
  exact round i F S (by omega) hI fun hlt F' S' hI' => ih (m - 1) F' S' (by omega) ⟨i + 1,by omega,hI'⟩
theorem MRun.forget {m t : Nat} {ob : List (Nat × List AV)} {live : List Nat} {gl : List (Nat × List AV)} (h : MRun P n k D F ⟨m,[],t,[],gl⟩ Q) : MRun P n k D F ⟨m,ob,t,live,gl⟩ Q :=
  h.weak (fun _ _ e => e) ⟨rfl,rfl,rfl,fun l cs e => (by cases e),fun t ht => (by cases ht)⟩
theorem MRun.keep {m t : Nat} {ob ob' : List (Nat × List AV)} {live live' : List Nat} {gl : List (Nat × List AV)} (h : MRun P n k D F ⟨m,ob',t,live',gl⟩ Q) (ho : ∀ l cs,List.lookup l ob' = some cs → List.lookup l ob = some cs) (hl : ∀ x ∈ live',x ∈ live) : MRun P n k D F ⟨m,ob,t,live,gl⟩ Q :=
  h.weak (fun _ _ e => e) ⟨rfl,rfl,rfl,ho,hl⟩
end loops
theorem mw_as {P : Program} {n : Nat} {Q : EndQ} {c c' : MC} (h : c = c') {fu : Nat} {k : List MI} {D : Dfs} {F : Fr} {S : St} (hm : mw P n Q fu (.code c' :: k) D F S) : mw P n Q fu (.code c :: k) D F S := h ▸ hm
section merge
variable {P : Program} {n : Nat} {k : List MI} {D : Dfs} {F : Fr} {S : St} {Q : EndQ} {a : Nat} {p q r : Bool}
theorem cond_or (p q : Bool) : cond p p q = (p || q) := by cases p <;> rfl
theorem cond_and (p q : Bool) : cond p q p = (p && q) := by cases p <;> rfl
theorem cond_tl (p q : Bool) : cond p true q = (p || q) := by cases p <;> rfl
theorem cond_fr (p q : Bool) : cond p q false = (p && q) := by cases p <;> rfl
theorem cond_fl (p q : Bool) : cond p false q = (!p && q) := by cases p <;> rfl
theorem cond_tr (p q : Bool) : cond p q true = (!p || q) := by cases p <;> rfl
theorem merge_sameT (X : Prop) : ((p = true → X) ∧ (p = false → X)) = X := by cases p <;> simp
theorem merge_sameF (X : Prop) : ((p = false → X) ∧ (p = true → X)) = X := by cases p <;> simp
theorem mergeT0 : ((p = true → MRun P n k D ((a,.bool q) :: F) S Q) ∧ (p = false → MRun P n k D ((a,.bool r) :: F) S Q)) = MRun P n k D ((a,.bool (cond p q r)) :: F) S Q := by cases p <;> simp
theorem mergeF0 : ((p = false → MRun P n k D ((a,.bool r) :: F) S Q) ∧ (p = true → MRun P n k D ((a,.bool q) :: F) S Q)) = MRun P n k D ((a,.bool (cond p q r)) :: F) S Q := by cases p <;> simp
theorem mergeT1 (x0 : Nat × AV) : ((p = true → MRun P n k D (x0 :: (a,.bool q) :: F) S Q) ∧ (p = false → MRun P n k D (x0 :: (a,.bool r) :: F) S Q)) = MRun P n k D (x0 :: (a,.bool (cond p q r)) :: F) S Q := by cases p <;> simp
theorem mergeF1 (x0 : Nat × AV) : ((p = false → MRun P n k D (x0 :: (a,.bool r) :: F) S Q) ∧ (p = true → MRun P n k D (x0 :: (a,.bool q) :: F) S Q)) = MRun P n k D (x0 :: (a,.bool (cond p q r)) :: F) S Q := by cases p <;> simp
theorem mergeT2 (x0 x1 : Nat × AV) : ((p = true → MRun P n k D (x0 :: x1 :: (a,.bool q) :: F) S Q) ∧ (p = false → MRun P n k D (x0 :: x1 :: (a,.bool r) :: F) S Q)) = MRun P n k D (x0 :: x1 :: (a,.bool (cond p q r)) :: F) S Q := by cases p <;> simp
theorem mergeF2 (x0 x1 : Nat × AV) : ((p = false → MRun P n k D (x0 :: x1 :: (a,.bool r) :: F) S Q) ∧ (p = true → MRun P n k D (x0 :: x1 :: (a,.bool q) :: F) S Q)) = MRun P n k D (x0 :: x1 :: (a,.bool (cond p q r)) :: F) S Q := by cases p <;> simp
theorem mergeT3 (x0 x1 x2 : Nat × AV) : ((p = true → MRun P n k D (x0 :: x1 :: x2 :: (a,.bool q) :: F) S Q) ∧ (p = false → MRun P n k D (x0 :: x1 :: x2 :: (a,.bool r) :: F) S Q)) = MRun P n k D (x0 :: x1 :: x2 :: (a,.bool (cond p q r)) :: F) S Q := by cases p <;> simp
theorem mergeF3 (x0 x1 x2 : Nat × AV) : ((p = false → MRun P n k D (x0 :: x1 :: x2 :: (a,.bool r) :: F) S Q) ∧ (p = true → MRun P n k D (x0 :: x1 :: x2 :: (a,.bool q) :: F) S Q)) = MRun P n k D (x0 :: x1 :: x2 :: (a,.bool (cond p q r)) :: F) S Q := by cases p <;> simp
theorem mergeT4 (x0 x1 x2 x3 : Nat × AV) : ((p = true → MRun P n k D (x0 :: x1 :: x2 :: x3 :: (a,.bool q) :: F) S Q) ∧ (p = false → MRun P n k D (x0 :: x1 :: x2 :: x3 :: (a,.bool r) :: F) S Q)) = MRun P n k D (x0 :: x1 :: x2 :: x3 :: (a,.bool (cond p q r)) :: F) S Q := by cases p <;> simp
theorem mergeF4 (x0 x1 x2 x3 : Nat × AV) : ((p = false → MRun P n k D (x0 :: x1 :: x2 :: x3 :: (a,.bool r) :: F) S Q) ∧ (p = true → MRun P n k D (x0 :: x1 :: x2 :: x3 :: (a,.bool q) :: F) S Q)) = MRun P n k D (x0 :: x1 :: x2 :: x3 :: (a,.bool (cond p q r)) :: F) S Q := by cases p <;> simp
theorem mergeT5 (x0 x1 x2 x3 x4 : Nat × AV) : ((p = true → MRun P n k D (x0 :: x1 :: x2 :: x3 :: x4 :: (a,.bool q) :: F) S Q) ∧ (p = false → MRun P n k D (x0 :: x1 :: x2 :: x3 :: x4 :: (a,.bool r) :: F) S Q)) = MRun P n k D (x0 :: x1 :: x2 :: x3 :: x4 :: (a,.bool (cond p q r)) :: F) S Q := by cases p <;> simp
theorem mergeF5 (x0 x1 x2 x3 x4 : Nat × AV) : ((p = false → MRun P n k D (x0 :: x1 :: x2 :: x3 :: x4 :: (a,.bool r) :: F) S Q) ∧ (p = true → MRun P n k D (x0 :: x1 :: x2 :: x3 :: x4 :: (a,.bool q) :: F) S Q)) = MRun P n k D (x0 :: x1 :: x2 :: x3 :: x4 :: (a,.bool (cond p q r)) :: F) S Q := by cases p <;> simp
theorem mergeT6 (x0 x1 x2 x3 x4 x5 : Nat × AV) : ((p = true → MRun P n k D (x0 :: x1 :: x2 :: x3 :: x4 :: x5 :: (a,.bool q) :: F) S Q) ∧ (p = false → MRun P n k D (x0 :: x1 :: x2 :: x3 :: x4 :: x5 :: (a,.bool r) :: F) S Q)) = MRun P n k D (x0 :: x1 :: x2 :: x3 :: x4 :: x5 :: (a,.bool (cond p q r)) :: F) S Q := by cases p <;> simp
theorem mergeF6 (x0 x1 x2 x3 x4 x5 : Nat × AV) : ((p = false → MRun P n k D (x0 :: x1 :: x2 :: x3 :: x4 :: x5 :: (a,.bool r) :: F) S Q) ∧ (p = true → MRun P n k D (x0 :: x1 :: x2 :: x3 :: x4 :: x5 :: (a,.bool q) :: F) S Q)) = MRun P n k D (x0 :: x1 :: x2 :: x3 :: x4 :: x5 :: (a,.bool (cond p q r)) :: F) S Q := by cases p <;> simp
theorem mergeT7 (x0 x1 x2 x3 x4 x5 x6 : Nat × AV) : ((p = true → MRun P n k D (x0 :: x1 :: x2 :: x3 :: x4 :: x5 :: x6 :: (a,.bool q) :: F) S Q) ∧ (p = false → MRun P n k D (x0 :: x1 :: x2 :: x3 :: x4 :: x5 :: x6 :: (a,.bool r) :: F) S Q)) = MRun P n k D (x0 :: x1 :: x2 :: x3 :: x4 :: x5 :: x6 :: (a,.bool (cond p q r)) :: F) S Q := by cases p <;> simp
theorem mergeF7 (x0 x1 x2 x3 x4 x5 x6 : Nat × AV) : ((p = false → MRun P n k D (x0 :: x1 :: x2 :: x3 :: x4 :: x5 :: x6 :: (a,.bool r) :: F) S Q) ∧ (p = true → MRun P n k D (x0 :: x1 :: x2 :: x3 :: x4 :: x5 :: x6 :: (a,.bool q) :: F) S Q)) = MRun P n k D (x0 :: x1 :: x2 :: x3 :: x4 :: x5 :: x6 :: (a,.bool (cond p q r)) :: F) S Q := by cases p <;> simp
theorem mergeT8 (x0 x1 x2 x3 x4 x5 x6 x7 : Nat × AV) : ((p = true → MRun P n k D (x0 :: x1 :: x2 :: x3 :: x4 :: x5 :: x6 :: x7 :: (a,.bool q) :: F) S Q) ∧ (p = false → MRun P n k D (x0 :: x1 :: x2 :: x3 :: x4 :: x5 :: x6 :: x7 :: (a,.bool r) :: F) S Q)) = MRun P n k D (x0 :: x1 :: x2 :: x3 :: x4 :: x5 :: x6 :: x7 :: (a,.bool (cond p q r)) :: F) S Q := by cases p <;> simp
theorem mergeF8 (x0 x1 x2 x3 x4 x5 x6 x7 : Nat × AV) : ((p = false → MRun P n k D (x0 :: x1 :: x2 :: x3 :: x4 :: x5 :: x6 :: x7 :: (a,.bool r) :: F) S Q) ∧ (p = true → MRun P n k D (x0 :: x1 :: x2 :: x3 :: x4 :: x5 :: x6 :: x7 :: (a,.bool q) :: F) S Q)) = MRun P n k D (x0 :: x1 :: x2 :: x3 :: x4 :: x5 :: x6 :: x7 :: (a,.bool (cond p q r)) :: F) S Q := by cases p <;> simp
theorem mergeT9 (x0 x1 x2 x3 x4 x5 x6 x7 x8 : Nat × AV) : ((p = true → MRun P n k D (x0 :: x1 :: x2 :: x3 :: x4 :: x5 :: x6 :: x7 :: x8 :: (a,.bool q) :: F) S Q) ∧ (p = false → MRun P n k D (x0 :: x1 :: x2 :: x3 :: x4 :: x5 :: x6 :: x7 :: x8 :: (a,.bool r) :: F) S Q)) = MRun P n k D (x0 :: x1 :: x2 :: x3 :: x4 :: x5 :: x6 :: x7 :: x8 :: (a,.bool (cond p q r)) :: F) S Q := by cases p <;> simp
theorem mergeF9 (x0 x1 x2 x3 x4 x5 x6 x7 x8 : Nat × AV) : ((p = false → MRun P n k D (x0 :: x1 :: x2 :: x3 :: x4 :: x5 :: x6 :: x7 :: x8 :: (a,.bool r) :: F) S Q) ∧ (p = true → MRun P n k D (x0 :: x1 :: x2 :: x3 :: x4 :: x5 :: x6 :: x7 :: x8 :: (a,.bool q) :: F) S Q)) = MRun P n k D (x0 :: x1 :: x2 :: x3 :: x4 :: x5 :: x6 :: x7 :: x8 :: (a,.bool (cond p q r)) :: F) S Q := by cases p <;> simp
end merge
end Go.V
