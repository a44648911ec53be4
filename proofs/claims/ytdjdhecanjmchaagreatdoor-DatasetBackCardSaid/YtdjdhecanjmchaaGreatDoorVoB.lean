/- The by-value layer, part fifteen: from a body's run to a call; a call that needs nothing of the store may be made over any store. Over any program. -/
import Derived.Test.YtdjdhecanjmchaaGreatDoorVnB
set_option linter.unusedSimpArgs false
set_option linter.unusedVariables false
namespace Go.V
open Go
def argF : Nat → List AV → Fr
  | _, [] => []
  | i, a :: as => (i, a) :: argF (i + 1) as
inductive RV where
  | t (n : Nat)
  | c (a n : Nat) (ag : Bool)
def rvEv (F : Fr) (S : St) : RV → Option AV
  | .t n => some (F.get n)
  | .c a n ag => ((F.get a).there S).bind (pickCells n ag)
def rvsEv (F : Fr) (S : St) : List RV → Option (List AV)
  | [] => some []
  | r :: rs => (rvEv F S r).bind fun v => (rvsEv F S rs).map fun vs => v :: vs
def resOf : List AV → AV
  | [v] => v
  | vs => .tup vs
def RV.fits (P : Program) : RV → ResultVar → Bool
  | .t n, .tmp m => n == m
  | .c a n ag, .cell a' ty => a == a' && known P ty && (isAggB P ty == ag) && sizeIs P ty n
  | _, _ => false
def rvsFit (P : Program) : List RV → List ResultVar → Bool
  | [], [] => true
  | r :: rs, x :: xs => r.fits P x && rvsFit P rs xs
  | _, _ => false
def rvSem (a : Act) : ResultVar → Sem Value
  | .tmp t => pure (a.tmps.getD t undef)
  | .cell b ty => do loadVar ty (← asAddr (a.tmps.getD b undef))
theorem run_rvs {P : Program} {wb : Base} {n : Nat} {G : Gh} {S : St} {F : Fr} {D : Dfs} {w : World} {a : Act} (hR : Rel wb n G S F D w a) : ∀ {rs : List RV} {xs : List ResultVar} {vs : List AV}, rvsFit P rs xs = true → rvsEv F S rs = some vs →
    ∃ us : List Value, (xs.mapM (rvSem a)).run P w = .ok us w ∧ VRels G vs us
  | [], [], vs, _, h => by
    simp [rvsEv] at h
    subst h
    exact ⟨[], by simp, rfl, by simp⟩
  | [], _ :: _, _, h, _ => by cases h
  | _ :: _, [], _, h, _ => by cases h
  | r :: rs, x :: xs, vs, h, he => by
    simp only [rvsFit, Bool.and_eq_true] at h
    simp only [rvsEv, Option.bind_eq_some_iff, Option.map_eq_some_iff] at he
    obtain ⟨v, h1, vs', h2, rfl⟩ := he
    obtain ⟨us, h3, h4, h5⟩ := run_rvs hR h.2 h2
    have hx : ∃ u, (rvSem a x).run P w = .ok u w ∧ VRel G v u := by
      cases r <;> cases x <;> simp only [RV.fits] at h <;> first
        | (cases h.1; done)
        | skip
      · simp only [beq_iff_eq] at h
        obtain ⟨rfl, _⟩ := h
        simp only [rvEv, Option.some.injEq] at h1
        subst h1
        exact ⟨_, rfl, hR.fr.get _⟩
      · simp only [Bool.and_eq_true, beq_iff_eq] at h
        obtain ⟨⟨⟨⟨rfl, q1⟩, q2⟩, q3⟩, _⟩ := h
        simp only [rvEv, Option.bind_eq_some_iff] at h1
        obtain ⟨cs, q4, q5⟩ := h1
        obtain ⟨rr, oo, q6, q7⟩ := there_at hR.st q4 (hR.fr.get _)
        obtain ⟨u, q8, q9⟩ := run_load_at (P := P) q7 q1 q2 q3 q5
        refine ⟨u, ?_, q9⟩
        simp only [rvSem, q6, asAddr, Sem.run_bind, Sem.run_pure, Result.andThen_ok]
        simpa [Instr.loadAt, Instr.sureAddr] using q8
    obtain ⟨u, h6, h7⟩ := hx
    refine ⟨u :: us, ?_, by simp [h4], ?_⟩
    · rw [List.mapM_cons]
      simp only [Sem.run_bind]
      rw [h6]
      simp only [Result.andThen_ok]
      rw [h3]
      simp
    · intro m c z hc hz
      cases m with
      | zero => simp at hc hz; subst hc hz; exact h7
      | succ m => exact h5 m c z (by simpa using hc) (by simpa using hz)
theorem run_results {P : Program} {wb : Base} {n : Nat} {G : Gh} {S : St} {F : Fr} {D : Dfs} {w : World} {a : Act} (hR : Rel wb n G S F D w a) {fn : Func} {rs : List RV} {vs : List AV} (hf : rvsFit P rs fn.results.toList = true) (he : rvsEv F S rs = some vs) :
    ∃ u, (results fn a.tmps).run P w = .ok u w ∧ VRel G (resOf vs) u := by
  obtain ⟨us, h1, h2, h3⟩ := run_rvs (P := P) hR hf he
  have hm : (fn.results.mapM (rvSem a)).run P w = .ok us.toArray w := by
    rw [← Array.toArray_toList (xs := fn.results), List.mapM_toArray]
    simp only [Sem.run_map]
    rw [h1]
    rfl
  refine ⟨if h : us.toArray.size = 1 then us.toArray[0] else .tuple us.toArray, ?_, ?_⟩
  · unfold results
    change ((fn.results.mapM (rvSem a)) >>= fun vs => pure (if h : vs.size = 1 then vs[0] else .tuple vs) : Sem Value).run P w = _
    simp only [Sem.run_bind, hm]
    rfl
  · cases us with
    | nil =>
      have : vs = [] := List.eq_nil_of_length_eq_zero h2
      subst this
      simpa [resOf] using VRel.tup (G := G) (cs := []) (vs := []) rfl (by simp)
    | cons u us =>
      cases us with
      | nil =>
        obtain ⟨v, rfl⟩ : ∃ v, vs = [v] := by
          cases vs with
          | nil => simp at h2
          | cons v vs => cases vs with
            | nil => exact ⟨v, rfl⟩
            | cons _ _ => simp at h2
        simpa [resOf] using h3 0 v u rfl rfl
      | cons u' us =>
        have hr : resOf vs = .tup vs := by
          cases vs with
          | nil => rfl
          | cons v vs => cases vs with
            | nil => simp at h2
            | cons _ _ => rfl
        rw [hr]
        simpa using VRel.tup (G := G) h2 h3
def endQ (rs : List RV) (K : Out → St → Prop) : EndQ := fun e D F S =>
  match e with
  | none => D = [] ∧ (match rvsEv F S rs with
    | some vs => K (.ok (resOf vs)) S
    | none => False)
  | some v => D = [] ∧ K (.pan v) S
theorem argF_lookup {t : Nat} {v : AV} : ∀ {as : List AV} {i : Nat}, (argF i as).lookup t = some v → i ≤ t ∧ as[t - i]? = some v
  | [], _, h => by cases h
  | a :: as, i, h => by
    simp only [argF, List.lookup_cons] at h
    by_cases ht : t = i
    · subst ht
      simp at h
      exact ⟨Nat.le_refl _, by simp [h]⟩
    · have hb : (t == i) = false := by simpa using ht
      rw [hb] at h
      obtain ⟨h1, h2⟩ := argF_lookup h
      refine ⟨by omega, ?_⟩
      rw [show t - i = (t - (i + 1)) + 1 from by omega, List.getElem?_cons_succ]
      exact h2
def fnChk (P : Program) (n : Nat) (m : MC) (rs : List RV) (fn : Func) : Bool :=
  (match fn.body with
   | some c => m.fits P n c
   | none => false) && fn.ntmps == n && rvsFit P rs fn.results.toList
structure FnIs (P : Program) (f : FuncId) (n : Nat) (m : MC) (rs : List RV) : Prop where
  call : ∀ (args : Array Value) (w : World), (callFunc f args).run P w = .ok (.enter f args) w
  is : ∃ fn c, P.funcs[f]? = some fn ∧ fn.body = some c ∧ fn.ntmps = n ∧ m.fits P n c = true ∧ rvsFit P rs fn.results.toList = true
theorem FnIs.of {P : Program} {f : FuncId} {n : Nat} {m : MC} {rs : List RV} {fn : Func} (hc : ∀ (args : Array Value) (w : World), (callFunc f args).run P w = .ok (.enter f args) w) (hf : P.funcs[f]? = some fn) (h : fnChk P n m rs fn = true) : FnIs P f n m rs := by
  unfold fnChk at h
  simp only [Bool.and_eq_true, beq_iff_eq] at h
  obtain ⟨⟨h1, h2⟩, h3⟩ := h
  split at h1
  · rename_i c hb
    exact ⟨hc, fn, c, hf, hb, h2, h1, h3⟩
  · cases h1
theorem MCalls.of_run {P : Program} {f : FuncId} {n : Nat} {m : MC} {rs : List RV} (hf : FnIs P f n m rs) {as : List AV} (hlen : as.length ≤ n) {S : St} {K : Out → St → Prop} (h : MRun P n [.code m] [] (argF 0 as) S (endQ rs K)) : MCalls P f as S K := by
  intro wb G w vs hS hv
  obtain ⟨fn, c, h1, h3, h4, h5, h6⟩ := hf.is
  unfold Invk
  rw [hf.call]
  intro cs
  let b : Frame := { (default : Frame) with fn := f, kind := .normal }
  let a : Act := { tmps := vs.toArray ++ Array.replicate (n - vs.toArray.size) undef, defers := [] }
  have henter : Frame.enter P f vs.toArray .normal = b.at a [.code c] := by
    simp [Frame.enter, Frame.at, h1, h3, h4, b, a]
  have hvl := hv.len
  have hR : Rel wb n G S (argF 0 as) [] w a := by
    refine ⟨hS, ⟨fun t v e => ?_⟩, by simp [a]; omega, trivial⟩
    obtain ⟨_, h7⟩ := argF_lookup e
    rw [Nat.sub_zero] at h7
    have ht : t < as.length := by
      rcases Nat.lt_or_ge t as.length with h' | h'
      · exact h'
      · rw [List.getElem?_eq_none h'] at h7; cases h7
    have htv : t < vs.length := by omega
    refine ⟨by simp [a]; omega, ?_⟩
    have : a.tmps.getD t undef = vs[t] := by
      simp only [a, Array.getD]
      have hsz : t < (vs.toArray ++ Array.replicate (n - vs.toArray.size) undef).size := by simp; omega
      rw [dif_pos hsz]
      simp [htv]
    rw [this]
    exact hv.rel t v _ h7 (by simp [htv])
  obtain ⟨e, a', w', G', F', S', D', av, g1, g2, g3, g4, g5⟩ := h wb G w a b cs [.code c] ⟨h5, trivial⟩ hR
  rw [← henter] at g3
  cases e with
  | none =>
    cases av with
    | some _ => exact g4.elim
    | none =>
      simp only [endQ] at g5
      obtain ⟨rfl, g5⟩ := g5
      split at g5
      · rename_i us hus
        obtain ⟨u, g6, g7⟩ := run_results (P := P) g2 h6 hus
        obtain ⟨todo, g8⟩ := g3
        have hdf : a'.defers = [] := by
          have := g2.df
          cases e2 : a'.defers with
          | nil => rfl
          | cons d ds => rw [e2] at this; exact this.elim
        exact ⟨.returned u, w', _, ⟨G', S', g1, g2.st, _, g7, g5⟩, g8, rfl, rfl, hdf, rfl, fn, h1, g6⟩
      · exact g5.elim
  | some v =>
    cases av with
    | none => exact g4.elim
    | some x =>
      simp only [endQ] at g5
      obtain ⟨rfl, g5⟩ := g5
      obtain ⟨todo, g8⟩ := g3
      have hdf : a'.defers = [] := by
        have := g2.df
        cases e2 : a'.defers with
        | nil => rfl
        | cons d ds => rw [e2] at this; exact this.elim
      exact ⟨.panicked [{ v, recovered := false }], w', _, ⟨G', S', g1, g2.st, v, x, rfl, g4, g5⟩, g8, rfl, rfl, hdf, fn, h1⟩
def MCallsD (P : Program) (g : FuncId) (as : List AV) (S : St) (pv : Option AV) (K : Out → St → Prop) : Prop :=
  ∀ (wb : Base) G w vs u, StRel wb G S w → VRels G as vs → PRel G pv u → CallsD P g vs.toArray u w fun e u' w' => u' = recd u ∧ EndK wb G K e w'
theorem MCallsD.mono {P : Program} {g : FuncId} {as : List AV} {S : St} {pv : Option AV} {K K' : Out → St → Prop} (h : MCallsD P g as S pv K) (hk : ∀ o S', K o S' → K' o S') : MCallsD P g as S pv K' := by
  intro wb G w vs u hS hv hp
  refine CallsD.mono (h wb G w vs u hS hv hp) fun e u' w' ⟨h0, G', S', h1, h2, h3⟩ => ⟨h0, G', S', h1, h2, ?_⟩
  cases e with
  | returned v => obtain ⟨r, h4, h5⟩ := h3; exact ⟨r, h4, hk _ _ h5⟩
  | panicked ch => obtain ⟨v, av, h4, h5, h6⟩ := h3; exact ⟨v, av, h4, h5, hk _ _ h6⟩
  | outgrown => exact h3
theorem MRun.post {P : Program} {n : Nat} {k : List MI} {D : Dfs} {F : Fr} {S : St} {Q Q' : EndQ} (h : MRun P n k D F S Q) (hq : ∀ e D F S, Q e D F S → Q' e D F S) : MRun P n k D F S Q' := by
  intro wb G w a b cs todo hf hR
  obtain ⟨e, a', w', G', F', S', D', av, h1, h2, h3, h4, h5⟩ := h wb G w a b cs todo hf hR
  exact ⟨e, a', w', G', F', S', D', av, h1, h2, h3, h4, hq _ _ _ _ h5⟩
theorem rel_start {wb : Base} {n : Nat} {G : Gh} {S : St} {w : World} {as : List AV} {vs : List Value} (hS : StRel wb G S w) (hv : VRels G as vs) (hlen : as.length ≤ n) :
    Rel wb n G S (argF 0 as) [] w { tmps := vs.toArray ++ Array.replicate (n - vs.toArray.size) undef, defers := [] } := by
  have hvl := hv.len
  refine ⟨hS, ⟨fun t v e => ?_⟩, by simp; omega, trivial⟩
  obtain ⟨_, h7⟩ := argF_lookup e
  rw [Nat.sub_zero] at h7
  have ht : t < as.length := by
    rcases Nat.lt_or_ge t as.length with h' | h'
    · exact h'
    · rw [List.getElem?_eq_none h'] at h7; cases h7
  have htv : t < vs.length := by omega
  refine ⟨by simp; omega, ?_⟩
  have : (vs.toArray ++ Array.replicate (n - vs.toArray.size) undef).getD t undef = vs[t] := by
    simp only [Array.getD]
    have hsz : t < (vs.toArray ++ Array.replicate (n - vs.toArray.size) undef).size := by simp; omega
    rw [dif_pos hsz]
    simp [htv]
  rw [this]
  exact hv.rel t v _ h7 (by simp [htv])
theorem MCallsD.of_run {P : Program} {f : FuncId} {n : Nat} {m : MC} {rs : List RV} (hf : FnIs P f n m rs) {as : List AV} (hlen : as.length ≤ n) {S : St} {pv : Option AV} {K : Out → St → Prop} (h : MRunR P n [.code m] pv (argF 0 as) S (endQ rs K)) : MCallsD P f as S pv K := by
  intro wb G w vs u hS hv hp c₀ cs hu
  obtain ⟨fn, c, h1, h3, h4, h5, h6⟩ := hf.is
  let b : Frame := { (default : Frame) with fn := f, kind := .deferred }
  let a : Act := { tmps := vs.toArray ++ Array.replicate (n - vs.toArray.size) undef, defers := [] }
  have henter : Frame.enter P f vs.toArray .deferred = b.at a [.code c] := by
    simp [Frame.enter, Frame.at, h1, h3, h4, b, a]
  obtain ⟨e, a', w', G', F', S', D', av, g1, g2, g3, g4, g5⟩ := h wb G w a b c₀ cs [.code c] rfl ⟨h5, trivial⟩ (rel_start hS hv hlen) (hu ▸ hp)
  rw [← henter] at g3
  have hdf : D' = [] → a'.defers = [] := fun hD => by
    subst hD
    have := g2.df
    cases e2 : a'.defers with
    | nil => rfl
    | cons d ds => rw [e2] at this; exact this.elim
  cases e with
  | none =>
    cases av with
    | some _ => exact g4.elim
    | none =>
      simp only [endQ] at g5
      obtain ⟨hD, g5⟩ := g5
      split at g5
      · rename_i us hus
        obtain ⟨r, g6, g7⟩ := run_results (P := P) g2 h6 hus
        obtain ⟨todo, g8⟩ := g3
        exact ⟨.returned r, recd c₀.mode, w', _, ⟨by rw [hu], G', S', g1, g2.st, _, g7, g5⟩, g8, rfl, rfl, hdf hD, fn, h1, g6⟩
      · exact g5.elim
  | some v =>
    cases av with
    | none => exact g4.elim
    | some x =>
      simp only [endQ] at g5
      obtain ⟨hD, g5⟩ := g5
      obtain ⟨todo, g8⟩ := g3
      exact ⟨.panicked [{ v, recovered := false }], recd c₀.mode, w', _, ⟨by rw [hu], G', S', g1, g2.st, v, x, rfl, g4, g5⟩, g8, rfl, rfl, hdf hD, fn, h1⟩
def endQD (P : Program) (rs : List RV) (K : Out → St → Prop) : EndQ := fun e D F S =>
  match D with
  | [] => endQ rs K e [] F S
  | [(f, as, caps)] => ∃ g, f = .func g ∧ (∀ (args : Array Value) (w : World), (callFunc g args).run P w = .ok (.enter g args) w) ∧ MCallsD P g (as ++ caps) S e fun o S' => match o with
    | .ok _ => (match rvsEv F S' rs with
      | some vs => K (.ok (resOf vs)) S'
      | none => False)
    | .pan v => e = none ∧ K (.pan v) S'
  | _ => False
theorem settle_recd {G : Gh} {pv : Option AV} {u : FrameMode} (h : PRel G pv u) : settle (recd u) = .returning := by
  cases pv with
  | none => have : u = .returning := h; subst this; rfl
  | some p => obtain ⟨v, rfl, _⟩ := h; rfl
theorem MCalls.of_runD {P : Program} {f : FuncId} {n : Nat} {m : MC} {rs : List RV} (hf : FnIs P f n m rs) {as : List AV} (hlen : as.length ≤ n) {S : St} {K : Out → St → Prop} (h : MRun P n [.code m] [] (argF 0 as) S (endQD P rs K)) : MCalls P f as S K := by
  intro wb G w vs hS hv
  obtain ⟨fn, c, h1, h3, h4, h5, h6⟩ := hf.is
  unfold Invk
  rw [hf.call]
  intro cs
  let b : Frame := { (default : Frame) with fn := f, kind := .normal }
  let a : Act := { tmps := vs.toArray ++ Array.replicate (n - vs.toArray.size) undef, defers := [] }
  have henter : Frame.enter P f vs.toArray .normal = b.at a [.code c] := by
    simp [Frame.enter, Frame.at, h1, h3, h4, b, a]
  obtain ⟨e, a', w', G', F', S', D', av, g1, g2, g3, g4, g5⟩ := h wb G w a b cs [.code c] ⟨h5, trivial⟩ (rel_start hS hv hlen)
  rw [← henter] at g3
  simp only [endQD] at g5
  split at g5
  ·
    have hdf : a'.defers = [] := by
      have := g2.df
      cases e2 : a'.defers with
      | nil => rfl
      | cons d ds => rw [e2] at this; exact this.elim
    cases e with
    | none =>
      cases av with
      | some _ => exact g4.elim
      | none =>
        simp only [endQ] at g5
        obtain ⟨_, g5⟩ := g5
        split at g5
        · rename_i us hus
          obtain ⟨u, g6, g7⟩ := run_results (P := P) g2 h6 hus
          obtain ⟨todo, g8⟩ := g3
          exact ⟨.returned u, w', _, ⟨G', S', g1, g2.st, _, g7, g5⟩, g8, rfl, rfl, hdf, rfl, fn, h1, g6⟩
        · exact g5.elim
    | some v =>
      cases av with
      | none => exact g4.elim
      | some x =>
        simp only [endQ] at g5
        obtain ⟨_, g5⟩ := g5
        obtain ⟨todo, g8⟩ := g3
        exact ⟨.panicked [{ v, recovered := false }], w', _, ⟨G', S', g1, g2.st, v, x, rfl, g4, g5⟩, g8, rfl, rfl, hdf, fn, h1⟩
  · rename_i f0 as0 caps0
    obtain ⟨g, rfl, hcall, hD⟩ := g5
    have hdf := g2.df
    cases e2 : a'.defers with
    | nil => rw [e2] at hdf; exact hdf.elim
    | cons d ds =>
      rw [e2] at hdf
      obtain ⟨⟨vs1, ws1, hd, hv1, hw1⟩, hds⟩ := hdf
      have hds' : ds = [] := by
        cases ds with
        | nil => rfl
        | cons _ _ => exact hds.elim
      subst hds'
      obtain ⟨u, todo, hu, hrun, hp⟩ : ∃ (u : FrameMode) (todo : List Item), u ≠ .run ∧ Steps P (lone (Frame.enter P f vs.toArray .normal) cs w) (lone { b.at a' todo with mode := u } cs w') ∧ PRel G' av u := by
        cases e with
        | none =>
          cases av with
          | some _ => exact g4.elim
          | none => obtain ⟨todo, g8⟩ := g3; exact ⟨.returning, todo, by simp, g8, rfl⟩
        | some v =>
          cases av with
          | none => exact g4.elim
          | some x => obtain ⟨todo, g8⟩ := g3; exact ⟨_, todo, by simp, g8, v, rfl, g4⟩
      have hL : Leaves P fn a'.tmps (EndK wb G K) [d] u w' := by
        refine ⟨hu, .func g, ws1.toArray, g, (vs1 ++ ws1).toArray, by rw [hd], ?_, ?_⟩
        · rw [hd]
          simp only [invoke]
          rw [show vs1.toArray ++ ws1.toArray = (vs1 ++ ws1).toArray from by simp]
          exact hcall _ _
        · refine CallsD.mono (hD wb G' w' (vs1 ++ ws1) u g2.st (hv1.append hw1) hp) fun e' u' w'' ⟨hu', G2, S2, q1, q2, q3⟩ => ?_
          subst hu'
          cases e' with
          | returned r =>
            obtain ⟨r', q4, q5⟩ := q3
            simp only at q5
            split at q5
            · rename_i us hus
              show Leaves P fn a'.tmps _ [] (settle (recd u)) w''
              rw [settle_recd hp]
              have hR2 : Rel wb n G2 S2 F' [] w'' { a' with defers := [] } := ⟨q2, ⟨(g2.fr.mono q1).rel⟩, g2.sz, trivial⟩
              obtain ⟨x, q6, q7⟩ := run_results (P := P) hR2 h6 hus
              exact ⟨x, q6, G2, S2, Gh.le_trans g1 q1, q2, _, q7, q5⟩
            · exact q5.elim
          | panicked ch =>
            obtain ⟨v, x, rfl, q5, q6, q7⟩ := q3
            subst q6
            have hu2 : u = .returning := hp
            subst hu2
            exact ⟨G2, S2, Gh.le_trans g1 q1, q2, v, x, rfl, q5, q7⟩
          | outgrown => exact q3.elim
      obtain ⟨e', w'', fr', r1, r2, r3, r4⟩ := leaves_steps [d] u w' { b.at a' todo with mode := u } cs rfl e2 rfl h1 rfl hL
      exact ⟨e', w'', fr', r1, Comes.of_steps hrun r2, r3, r4⟩
  · exact g5.elim
def RV.slot : RV → Nat
  | .t n => n
  | .c a _ _ => a
theorem rvsEv_congr {F F' : Fr} {S : St} : ∀ {rs : List RV}, (∀ r ∈ rs, F.get r.slot = F'.get r.slot) → rvsEv F S rs = rvsEv F' S rs
  | [], _ => rfl
  | r :: rs, h => by
    have h1 : rvEv F S r = rvEv F' S r := by
      have := h r (by simp)
      cases r <;> simp only [rvEv, RV.slot] at this ⊢ <;> rw [this]
    simp only [rvsEv, h1, rvsEv_congr (rs := rs) fun r hr => h r (by simp [hr])]
theorem QPin_endQD {P : Program} {rs : List RV} {K : Out → St → Prop} {ds : List Nat} (h : (rs.all fun r => !ds.contains r.slot) = true) : QPin (endQD P rs K) ds := by
  intro v D F F' S hF hq
  have hr : ∀ S, rvsEv F S rs = rvsEv F' S rs := fun S => rvsEv_congr fun r hr => by
    have h1 := List.all_eq_true.1 h r hr
    unfold Fr.get
    rw [hF _ (by simpa using h1)]
  simp only [endQD] at hq ⊢
  split at hq
  · exact hq
  · obtain ⟨g, h1, h2, h3⟩ := hq
    refine ⟨g, h1, h2, fun wb G w vs u a1 a2 a3 => CallsD.mono (h3 wb G w vs u a1 a2 a3) fun e u' w' ⟨b1, G', S', b2, b3, b4⟩ => ⟨b1, G', S', b2, b3, ?_⟩⟩
    cases e with
    | returned x => obtain ⟨r, b5, b6⟩ := b4; refine ⟨r, b5, ?_⟩; simp only [← hr]; exact b6
    | panicked ch => exact b4
    | outgrown => exact b4
  · exact hq
def NoRef (r : AV) : Prop := ∀ (G G' : Gh) (v : Value), (∀ a o x, G.φ a o = some x → G'.φ a o = some x) → VRel G r v → VRel G' r v
theorem NoRef.bool (b : Bool) : NoRef (.bool b) := fun G G' v _ h => by cases h; exact .bool _
theorem NoRef.int (k : IntKind) (n : Int) : NoRef (.int k n) := fun G G' v _ h => by cases h; exact .int _ _
theorem NoRef.str (s : List UInt8) : NoRef (.str s) := fun G G' v _ h => by cases h; exact .str _
theorem NoRef.nilp : NoRef .nilp := fun G G' v _ h => by cases h; exact .nilp
theorem NoRef.nili : NoRef .nili := fun G G' v _ h => by cases h; exact .nili
theorem NoRef.nilf : NoRef .nilf := fun G G' v _ h => by cases h; exact .nilf
theorem NoRef.junk : NoRef .junk := fun _ _ _ _ _ => .junk _
theorem NoRef.gp (g o : Nat) : NoRef (.gp g o) := fun G G' v _ h => by cases h; exact .gp _ _
theorem NoRef.ifc {t : TypeId} {c : AV} (hc : NoRef c) : NoRef (.ifc t c) := fun G G' v hp h => by cases h; exact .ifc t (hc G G' _ hp ‹_›)
theorem NoRef.agg {cs : List AV} (hc : ∀ c ∈ cs, NoRef c) : NoRef (.agg cs) := fun G G' v hp h => by
  cases h
  rename_i vs ho hl hv
  exact .agg hl ho fun m c v h1 h2 => hc c (List.mem_of_getElem? h1) G G' v hp (hv m c v h1 h2)
theorem NoRef.tup {cs : List AV} (hc : ∀ c ∈ cs, NoRef c) : NoRef (.tup cs) := fun G G' v hp h => by
  cases h
  rename_i vs hl hv
  exact .tup hl fun m c v h1 h2 => hc c (List.mem_of_getElem? h1) G G' v hp (hv m c v h1 h2)
theorem mem_flat {xs : List AV} {c : AV} (h : c ∈ flat xs) : ∃ x ∈ xs, c ∈ x.cells := by
  simpa [flat, List.mem_flatMap] using h
theorem NoRef.sl {k : Nat} {xs : List AV} {t : STok} (hx : ∀ x ∈ xs, ∀ c ∈ x.cells, NoRef c) (ht : t = .unk ∨ t = .exact) : NoRef (.sl k xs t) := fun G G' v hp h => by
  cases h with
  | slnil => exact .slnil _ _ _
  | sl f hk hf ho hv hc htk =>
    refine .sl f hk (fun m c e => hp _ _ _ (hf m c e)) ho (fun m c e => ?_) hc ?_
    · obtain ⟨x, h1, h2⟩ := mem_flat (List.mem_of_getElem? e)
      exact hx x h1 c h2 G G' _ hp (hv m c e)
    · cases t with
      | unk => trivial
      | exact => exact htk
      | tok n => simp at ht
      | new n => simp at ht
theorem NoRef.func {f : Fn} {as cs : List AV} (ha : ∀ c ∈ as, NoRef c) (hc : ∀ c ∈ cs, NoRef c) : NoRef (.fn f as cs) := fun G G' v hp h => by
  cases h
  rename_i vs ws h1 hv h2 hw
  exact .fn f h1 h2 (fun m c v e1 e2 => ha c (List.mem_of_getElem? e1) G G' v hp (hv m c v e1 e2)) (fun m c v e1 e2 => hc c (List.mem_of_getElem? e1) G G' v hp (hw m c v e1 e2))
def St.none (gl : List (Nat × List AV)) : St := ⟨0, [], 0, [], gl⟩
theorem StRel.start {wb : Base} {G : Gh} {S : St} {w : World} (h : StRel wb G S w) (hg : ∀ g cs, S.gl.lookup g = some cs → ∀ c ∈ cs, NoRef c) :
    StRel { toWorld := w, φ := G.φ, good := h.good } ⟨G.φ, fun _ => Option.none, fun _ => Option.none, w.heap.size⟩ (.none S.gl) w where
  prom := h.prom
  apart := fun l cs r o _ e => by cases e
  obj := fun l cs e => by cases e
  beta := rfl
  bld := fun l s e => by cases e
  bldu := fun l l' s s' e => by cases e
  inj := fun l l' r e => by cases e
  dom := fun l r e => by cases e
  tok := fun t ht => by cases ht
  tdom := fun t x e => by cases e
  tdis := fun t ht => by cases ht
  base := ⟨Nat.le_refl _, fun _ _ => rfl⟩
  pold := fun r o v _ e => e
  still := ⟨rfl, rfl, rfl⟩
  glob := fun g cs e m c hm => by
    obtain ⟨v, h1, h2, h3⟩ := h.glob g cs e m c hm
    exact ⟨v, h1, hg g cs e c (List.mem_of_getElem? hm) G _ _ (fun _ _ _ e => e) h2, h3⟩
theorem StRel.frame {wb : Base} {G G' : Gh} {S S' : St} {w w' : World} (h : StRel wb G S w) (h' : StRel { toWorld := w, φ := G.φ, good := h.good } G' S' w') (hφ : ∀ r o v, G.φ r o = some v → G'.φ r o = some v) :
    StRel wb ⟨G'.φ, G.σ, G.τ, G.β⟩ S w' := by
  have hle : G.le ⟨G'.φ, G.σ, G.τ, G.β⟩ := ⟨hφ, fun _ _ e => e, fun _ _ e => e, rfl⟩
  have hcell : ∀ r o, r < w.heap.size → w'.cell? ⟨r, o, Option.none⟩ = w.cell? ⟨r, o, Option.none⟩ := fun r o hr => by
    have : w'.heap[r]? = w.heap[r]? := h'.base.2 r hr
    simp only [World.cell?, this]
  have hfroz : ∀ r o, r < w.heap.size → w'.frozen? ⟨r, o, Option.none⟩ = w.frozen? ⟨r, o, Option.none⟩ := fun r o hr => by
    have : w'.heap[r]? = w.heap[r]? := h'.base.2 r hr
    simp only [World.frozen?, this]
  have hsz : w.heap.size ≤ w'.heap.size := h'.base.1
  have hold : ∀ r o v, r < w.heap.size → G'.φ r o = some v → G.φ r o = some v := fun r o v hr e => h'.pold r o v hr e
  refine { prom := h'.prom, apart := ?_, obj := ?_, inj := h.inj, dom := ?_, tok := ?_, tdom := ?_, tdis := h.tdis, base := ?_, pold := ?_, still := ?_, beta := h.beta, glob := ?_, bld := ?_, bldu := h.bldu }
  rotate_right
  · intro l s hl
    obtain ⟨r, hr, hb⟩ := h.bld l s hl
    refine ⟨r, hr, hb.to (fun hlt => h'.base.2 r hlt) fun g hg _ _ hal => ⟨h'.base.2 g hg, fun o => ?_, hal.2.1, hal.2.2⟩⟩
    cases e2 : G'.φ g o with
    | none => rfl
    | some v => have := hold g o v hg e2; rw [hal.1 o] at this; cases this
  · intro l cs r o hl e
    have hr := (h.dom l r e).2.2
    cases e2 : G'.φ r o with
    | none => rfl
    | some v => have := hold r o v hr e2; rw [h.apart l cs r o hl e] at this; cases this
  · intro l cs hl hnb
    obtain ⟨r, hr, hm⟩ := h.obj l cs hl hnb
    have hlt := (h.dom l r hr).2.2
    refine ⟨r, hr, fun m c hmc => ?_⟩
    obtain ⟨v, h1, h2, h3, h4⟩ := hm m c hmc
    exact ⟨v, by rw [hcell _ _ hlt]; exact h1, h2.mono hle, h3, by rw [hfroz _ _ hlt]; exact h4⟩
  · intro l r e
    have := h.dom l r e
    omega
  · intro t ht
    obtain ⟨r, e, z, h1, h2⟩ := h.tok t ht
    refine ⟨r, e, z, h1, fun o h3 h4 => ?_⟩
    have hlt := (h.tdom t _ h1).2 (by show e < z; omega)
    obtain ⟨h5, h6, h7, h8, h9⟩ := h2 o h3 h4
    refine ⟨h5, h6, by rw [hcell _ _ hlt]; exact h7, by rw [hfroz _ _ hlt]; exact h8, ?_⟩
    cases e2 : G'.φ r o with
    | none => rfl
    | some v => have := hold r o v hlt e2; rw [h9] at this; cases this
  · intro t x e
    have := h.tdom t x e
    exact ⟨this.1, fun h' => by have := this.2 h'; omega⟩
  · refine ⟨by have := h.base.1; omega, fun r hr => ?_⟩
    rw [show w'.heap[r]? = w.heap[r]? from h'.base.2 r (by have := h.base.1; show r < w.heap.size; omega)]
    exact h.base.2 r hr
  · intro r o v hr e
    exact h.pold r o v hr (hold r o v (by have := h.base.1; omega) e)
  · obtain ⟨h1, h2, h3⟩ := h'.still
    obtain ⟨h4, h5, h6⟩ := h.still
    exact ⟨h1.trans h4, h2.trans h5, h3.trans h6⟩
  · intro g cs hg m c hmc
    obtain ⟨v, h1, h2, h3⟩ := h.glob g cs hg m c hmc
    exact ⟨v, hφ _ _ _ h1, h2.mono hle, h3⟩
theorem MCalls.lift {P : Program} {f : FuncId} {as : List AV} {S : St} {K : Out → Prop} (h : MCalls P f as (.none S.gl) fun o _ => K o) (ha : ∀ a ∈ as, NoRef a) (hg : ∀ g cs, S.gl.lookup g = some cs → ∀ c ∈ cs, NoRef c)
    (hK : ∀ r, K (.ok r) → NoRef r) (hK' : ∀ r, K (.pan r) → NoRef r) : MCalls P f as S fun o S' => S' = S ∧ K o := by
  intro wb G w vs hS hv
  have hst := hS.start hg
  have hv0 : VRels ⟨G.φ, fun _ => Option.none, fun _ => Option.none, w.heap.size⟩ as vs := ⟨hv.len, fun m c v e1 e2 => ha c (List.mem_of_getElem? e1) G _ v (fun _ _ _ e => e) (hv.rel m c v e1 e2)⟩
  refine (h _ _ w vs hst hv0).mono fun e w' ⟨G', S', h1, h2, h3⟩ => ?_
  have hφ : ∀ r o v, G.φ r o = some v → G'.φ r o = some v := fun r o v e => h1.φ r o v e
  refine ⟨⟨G'.φ, G.σ, G.τ, G.β⟩, S, ⟨hφ, fun _ _ e => e, fun _ _ e => e, rfl⟩, hS.frame h2 hφ, ?_⟩
  cases e with
  | returned v => obtain ⟨r, h4, h5⟩ := h3; exact ⟨r, hK r h5 G' _ v (fun _ _ _ e => e) h4, rfl, h5⟩
  | panicked ch => obtain ⟨v, av, h4, h5, h6⟩ := h3; exact ⟨v, av, h4, hK' av h6 G' _ v (fun _ _ _ e => e) h5, rfl, h6⟩
  | outgrown => exact h3
end Go.V
