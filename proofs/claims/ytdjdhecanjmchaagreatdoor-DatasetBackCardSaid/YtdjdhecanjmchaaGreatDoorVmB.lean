/- The by-value layer, part thirteen: calls, and statements whose operations come in the order of the text. Over any program. -/
import Derived.Test.YtdjdhecanjmchaaGreatDoorVlB
set_option linter.unusedSimpArgs false
set_option linter.unusedVariables false
namespace Go.V
open Go
structure VRels (G : Gh) (as : List AV) (vs : List Value) : Prop where
  len : as.length = vs.length
  rel : ∀ (m : Nat) (c : AV) (v : Value), as[m]? = some c → vs[m]? = some v → VRel G c v
theorem VRels.mono {G G' : Gh} (h : G.le G') {as : List AV} {vs : List Value} (hr : VRels G as vs) : VRels G' as vs := ⟨hr.len, fun m c v a b => (hr.rel m c v a b).mono h⟩
theorem VRels.append {G : Gh} {as bs : List AV} {vs ws : List Value} (h : VRels G as vs) (h' : VRels G bs ws) : VRels G (as ++ bs) (vs ++ ws) := by
  refine ⟨by simp [h.len, h'.len], fun m c v h1 h2 => ?_⟩
  have hl := h.len
  by_cases hm : m < as.length
  · rw [List.getElem?_append_left hm] at h1
    rw [List.getElem?_append_left (by omega)] at h2
    exact h.rel m c v h1 h2
  · rw [List.getElem?_append_right (by omega)] at h1
    rw [List.getElem?_append_right (by omega)] at h2
    rw [hl] at h1
    exact h'.rel _ c v h1 h2
inductive Out where
  | ok (r : AV)
  | pan (v : AV)
def Invk (P : Program) (f : FuncId) (args : Array Value) (w : World) (R : Ending → World → Prop) : Prop :=
  match (callFunc f args).run P w with
  | .ok (.enter g as) w' => Calls P g as w' R
  | .ok (.value v) w' => R (.returned v) w'
  | .ok (.row row as) w' => Rows P row as w' fun v w'' => R (.returned v) w''
  | .halt (.panic v) w' => R (.panicked [{ v, recovered := false }]) w'
  | _ => False
def EndK (wb : Base) (G : Gh) (K : Out → St → Prop) (e : Ending) (w' : World) : Prop :=
  ∃ G' S', G.le G' ∧ StRel wb G' S' w' ∧ match e with
    | .returned v => ∃ r, VRel G' r v ∧ K (.ok r) S'
    | .panicked ch => ∃ v av, ch = [{ v, recovered := false }] ∧ VRel G' av v ∧ K (.pan av) S'
    | .outgrown => False
def MCalls (P : Program) (f : FuncId) (as : List AV) (S : St) (K : Out → St → Prop) : Prop :=
  ∀ (wb : Base) G w vs, StRel wb G S w → VRels G as vs → Invk P f vs.toArray w (EndK wb G K)
theorem Invk.mono {P : Program} {f : FuncId} {args : Array Value} {w : World} {R R' : Ending → World → Prop} (h : Invk P f args w R) (hr : ∀ e w', R e w' → R' e w') : Invk P f args w R' := by
  unfold Invk at *
  generalize (callFunc f args).run P w = r at *
  cases r with
  | ok x w' =>
    cases x with
    | enter g as => exact Calls.mono h hr
    | value v => exact hr _ _ h
    | row row as => exact Rows.mono h fun v w'' => hr _ _
    | _ => exact h.elim
  | halt x w' =>
    cases x with
    | panic v => exact hr _ _ h
    | _ => exact h.elim
theorem MCalls.mono {P : Program} {f : FuncId} {as : List AV} {S : St} {K K' : Out → St → Prop} (h : MCalls P f as S K) (hk : ∀ o S', K o S' → K' o S') : MCalls P f as S K' := by
  intro wb G w vs hS hv
  refine (h wb G w vs hS hv).mono fun e w' ⟨G', S', h1, h2, h3⟩ => ⟨G', S', h1, h2, ?_⟩
  cases e with
  | returned v => obtain ⟨r, h4, h5⟩ := h3; exact ⟨r, h4, hk _ _ h5⟩
  | panicked ch => obtain ⟨v, av, h4, h5, h6⟩ := h3; exact ⟨v, av, h4, h5, hk _ _ h6⟩
  | outgrown => exact h3
inductive MX where
  | k (m : MK)
  | call (c : Opd) (as : List Opd)
  | panic (x : Opd)
structure MOp where
  ix : Nat
  dst : Option Nat
  gd : Option (Nat × Bool)
  op : MX
def MX.fits (P : Program) : MX → Op → Bool
  | .k m, op => m.fits P op
  | .call c as, .call cc => (match cc.callee with
    | .value f => c.fits f
    | _ => false) && listFits as cc.args.toList
  | .panic x, .panic y => x.fits y
  | _, _ => false
theorem MX.fits_panic {P : Program} {x : Opd} {op : Op} (h : (MX.panic x).fits P op = true) : ∃ y, op = .panic y ∧ x.fits y = true := by
  cases op <;> simp_all [MX.fits]
theorem MX.fits_call {P : Program} {c : Opd} {as : List Opd} {op : Op} (h : (MX.call c as).fits P op = true) : ∃ fo args tys, op = .call ⟨.value fo, args, tys⟩ ∧ c.fits fo = true ∧ listFits as args.toList = true := by
  cases op <;> simp only [MX.fits] at h <;> first
    | (cases h; done)
    | skip
  rename_i cc
  obtain ⟨callee, args, tys⟩ := cc
  simp only [Bool.and_eq_true] at h
  cases callee with
  | value fo => exact ⟨fo, args, tys, rfl, h.1, h.2⟩
  | _ => cases h.1
def guardFits (ops : Array Oper) : Option (Nat × Bool) → Option (Nat × Bool) → Bool
  | none, none => true
  | some (t, b), some (j, b') => b == b' && decide ((ops[j]?).bind (·.dst) = some t)
  | _, _ => false
def MOp.fits (P : Program) (n : Nat) (ops : Array Oper) (m : MOp) : Bool :=
  match ops[m.ix]? with
  | some o => m.op.fits P o.op && decide (o.dst = m.dst) && (m.dst.all fun d => decide (d < n)) && guardFits ops m.gd o.guard
  | none => false
def putF (d : Option Nat) (v : AV) (F : Fr) : Fr :=
  match d with
  | some d => (d, v) :: F
  | none => F
def stepK (P : Program) (o : MOp) (K : Option AV → Fr → St → Prop) (next : Fr → St → Prop) (F : Fr) (S : St) : Prop :=
  match o.op with
  | .k m => m.ob F S ∧ (match m.ev F S with
    | some (r, S') => next (putF o.dst r F) S'
    | none => False)
  | .panic x => (match x.ev F with
    | .ifc t v => K (some (.ifc t v)) F S
    | _ => False)
  | .call c as => (match c.ev F with
    | .fn (.func f) first caps => MCalls P f (first ++ as.map (Opd.ev F) ++ caps) S (fun out S' => match out with
      | .ok r => next (putF o.dst r F) S'
      | .pan v => K (some v) F S')
    | _ => False)
def guardK (o : MOp) (stp : Fr → St → Prop) (next : Fr → St → Prop) (F : Fr) (S : St) : Prop :=
  match o.gd with
  | none => stp F S
  | some (t, want) => match F.get t with
    | .bool b => (b = want → stp ((t, .bool want) :: F) S) ∧ (b = !want → next (putF o.dst (.tup []) ((t, .bool (!want)) :: F)) S)
    | .tup [] => next (putF o.dst (.tup []) F) S
    | _ => False
def moK (P : Program) : List MOp → (Option AV → Fr → St → Prop) → Fr → St → Prop
  | [], K, F, S => K none F S
  | o :: l, K, F, S => guardK o (stepK P o K (moK P l K)) (moK P l K) F S
abbrev Dfs := List (Fn × List AV × List AV)
def DRel (G : Gh) : Dfs → List Deferred → Prop
  | [], [] => True
  | (f, as, cs) :: D, d :: ds => (∃ vs ws : List Value, d = { target := .fn f ws.toArray, args := vs.toArray } ∧ VRels G as vs ∧ VRels G cs ws) ∧ DRel G D ds
  | _, _ => False
theorem DRel.mono {G G' : Gh} (h : G.le G') : ∀ {D : Dfs} {ds : List Deferred}, DRel G D ds → DRel G' D ds
  | [], [], _ => trivial
  | [], _ :: _, hd => hd.elim
  | _ :: _, [], hd => hd.elim
  | (_, _, _) :: _, _ :: _, hd => ⟨let ⟨vs, ws, h1, h2, h3⟩ := hd.1; ⟨vs, ws, h1, h2.mono h, h3.mono h⟩, DRel.mono h hd.2⟩
structure Rel (wb : Base) (n : Nat) (G : Gh) (S : St) (F : Fr) (D : Dfs) (w : World) (a : Act) : Prop where
  st : StRel wb G S w
  fr : FRel G F a
  sz : a.tmps.size = n
  df : DRel G D a.defers
theorem FRel.put {G : Gh} {F : Fr} {a : Act} (h : FRel G F a) {d : Option Nat} {r : AV} {v : Value} (hd : (d.all fun d => decide (d < a.tmps.size)) = true) (hv : VRel G r v) : FRel G (putF d r F) (a.put d v) := by
  cases d with
  | none => exact h
  | some d =>
    simp at hd
    refine ⟨fun t x e => ?_⟩
    simp only [putF, List.lookup_cons] at e
    by_cases ht : t = d
    · subst ht
      simp at e
      subst e
      refine ⟨by simpa [Act.put] using hd, ?_⟩
      simpa [Act.put, Array.getD, hd] using hv
    · have hb : (t == d) = false := by simpa using ht
      rw [hb] at e
      obtain ⟨h1, h2⟩ := h.rel t x e
      refine ⟨by simpa [Act.put] using h1, ?_⟩
      have : (a.put (some d) v).tmps.getD t undef = a.tmps.getD t undef := by
        simp [Act.put, Array.getD, h1, Ne.symm ht]
      rw [this]
      exact h2
theorem put_size (a : Act) (d : Option Nat) (v : Value) : (a.put d v).tmps.size = a.tmps.size := by cases d <;> simp [Act.put]
theorem put_defers (a : Act) (d : Option Nat) (v : Value) : (a.put d v).defers = a.defers := by cases d <;> simp [Act.put]
theorem Rel.put {wb : Base} {n : Nat} {G : Gh} {S : St} {F : Fr} {D : Dfs} {w : World} {a : Act} (h : Rel wb n G S F D w a) {d : Option Nat} {r : AV} {v : Value} (hd : (d.all fun d => decide (d < n)) = true) (hv : VRel G r v) : Rel wb n G S (putF d r F) D w (a.put d v) :=
  ⟨h.st, h.fr.put (by rw [h.sz]; exact hd) hv, by rw [put_size]; exact h.sz, by rw [put_defers]; exact h.df⟩
theorem Rel.grow {wb : Base} {n : Nat} {G G' : Gh} {S S' : St} {F : Fr} {D : Dfs} {w w' : World} {a : Act} (h : Rel wb n G S F D w a) (hle : G.le G') (hS : StRel wb G' S' w') : Rel wb n G' S' F D w' a :=
  ⟨hS, h.fr.mono hle, h.sz, h.df.mono hle⟩
theorem Rel.known {wb : Base} {n : Nat} {G : Gh} {S : St} {F : Fr} {D : Dfs} {w : World} {a : Act} (h : Rel wb n G S F D w a) {t : Nat} {b b' : Bool} (e : F.get t = .bool b) (hb : b = b') : Rel wb n G S ((t, .bool b') :: F) D w a := by
  subst hb
  refine ⟨h.st, ⟨fun u x e' => ?_⟩, h.sz, h.df⟩
  simp only [List.lookup_cons] at e'
  by_cases hu : u = t
  · subst hu
    simp at e'
    subst e'
    unfold Fr.get at e
    cases e2 : F.lookup u with
    | none => rw [e2] at e; cases e
    | some y =>
      rw [e2] at e
      have : y = .bool b := e
      subst this
      exact h.fr.rel u _ e2
  · have hb : (u == t) = false := by simpa using hu
    rw [hb] at e'
    exact h.fr.rel u x e'
def QK (wb : Base) (n : Nat) (G0 : Gh) (D : Dfs) (K : Option AV → Fr → St → Prop) : Exit → Act → World → Prop
  | .normal, a, w => ∃ G F S, G0.le G ∧ Rel wb n G S F D w a ∧ K none F S
  | .panic ch, a, w => ∃ G F S v av, G0.le G ∧ Rel wb n G S F D w a ∧ ch = [{ v, recovered := false }] ∧ VRel G av v ∧ K (some av) F S
  | _, _, _ => False
theorem oper_stepK {P : Program} {wb : Base} {n : Nat} {G0 G : Gh} {S : St} {F : Fr} {D : Dfs} {w : World} {a : Act} {m : MOp} {o : Oper} {K : Option AV → Fr → St → Prop} {next : Fr → St → Prop} {nx : Act → World → Prop}
    (ho : m.op.fits P o.op = true) (hd : o.dst = m.dst) (hdn : (m.dst.all fun d => decide (d < n)) = true) (hle : G0.le G) (hR : Rel wb n G S F D w a) (hs : stepK P m K next F S)
    (hn : ∀ G' S' F' a' w', G0.le G' → Rel wb n G' S' F' D w' a' → next F' S' → nx a' w') : o.wp P a w nx (QK wb n G0 D K) := by
  obtain ⟨ix, dst, gd, op⟩ := m
  simp only at ho hd hdn
  subst hd
  cases op with
  | k m =>
    simp only [stepK] at hs
    obtain ⟨hob, hs⟩ := hs
    split at hs
    · rename_i r S' hev
      obtain ⟨nn, v, w', G', h1, h2, h3, h4, h5⟩ := MK.sound ho hob hev hR.st hR.fr
      unfold Oper.wp
      rw [h1]
      have hR' := (hR.grow h3 h4).put hdn h5
      rcases h2 with rfl | ⟨rfl, rfl⟩
      · exact hn G' S' _ _ _ (Gh.le_trans hle h3) hR' hs
      · exact hn G' S' _ _ _ (Gh.le_trans hle h3) hR' hs
    · exact hs.elim
  | panic x =>
    simp only [stepK] at hs
    obtain ⟨y, h2, ho⟩ := MX.fits_panic ho
    have hx := Opd.rel hR.fr ho
    split at hs
    · rename_i t v hv
      rw [hv] at hx
      generalize hy : a.eval y = yv at hx
      cases hx
      rename_i v' hv'
      unfold Oper.wp
      have : (execOp a.eval o).run P w = .halt (.panic (.iface t v')) w := by
        simp only [execOp, h2, hy, Instr.panic]
        rfl
      rw [this]
      exact ⟨G, F, S, _, _, hle, hR, rfl, .ifc t hv', hs⟩
    · exact hs.elim
  | call c as =>
    simp only [stepK] at hs
    obtain ⟨fo, args, tys, h2, ho1, ho2⟩ := MX.fits_call ho
    have hc := Opd.rel hR.fr ho1
    split at hs
    · rename_i f first caps hf
      rw [hf] at hc
      generalize hfo : a.eval fo = fv at hc
      cases hc
      rename_i vs ws l1 r1 l2 r2
      obtain ⟨l3, r3⟩ := listFits_rel hR.fr ho2
      have hargs : VRels G (first ++ as.map (Opd.ev F) ++ caps) (vs ++ args.toList.map a.eval ++ ws) := .append (.append ⟨l1, r1⟩ ⟨l3, r3⟩) ⟨l2, r2⟩
      have hi := hs wb G w _ hR.st hargs
      have hrun : (execOp a.eval o).run P w = (callFunc f (vs ++ args.toList.map a.eval ++ ws).toArray).run P w := by
        have e1 : (vs.toArray ++ Array.map a.eval args) ++ ws.toArray = (vs ++ args.toList.map a.eval ++ ws).toArray := by apply Array.ext'; simp
        rw [← e1]
        simp only [execOp, h2, resolve, hfo, Deferred.ofValue]
        rfl
      unfold Oper.wp
      rw [hrun]
      unfold Invk at hi
      split at hi
      · rename_i g as' w' hx
        rw [hx]
        refine Calls.mono hi fun e w'' ⟨G', S', q1, q2, q3⟩ => ?_
        cases e with
        | returned v => obtain ⟨r, q4, q5⟩ := q3; exact hn G' S' _ _ _ (Gh.le_trans hle q1) ((hR.grow q1 q2).put hdn q4) q5
        | panicked ch => obtain ⟨v, av, q4, q5, q6⟩ := q3; exact ⟨G', F, S', v, av, Gh.le_trans hle q1, hR.grow q1 q2, q4, q5, q6⟩
        | outgrown => exact q3.elim
      · rename_i v w' hx
        rw [hx]
        obtain ⟨G', S', q1, q2, r, q4, q5⟩ := hi
        exact hn G' S' _ _ _ (Gh.le_trans hle q1) ((hR.grow q1 q2).put hdn q4) q5
      · rename_i row as' w' hx
        rw [hx]
        refine Rows.mono hi fun v w'' ⟨G', S', q1, q2, r, q4, q5⟩ => ?_
        exact hn G' S' _ _ _ (Gh.le_trans hle q1) ((hR.grow q1 q2).put hdn q4) q5
      · rename_i v w' hx
        rw [hx]
        obtain ⟨G', S', q1, q2, v', av, q4, q5, q6⟩ := hi
        exact ⟨G', F, S', v', av, Gh.le_trans hle q1, hR.grow q1 q2, q4, q5, q6⟩
      · exact hi.elim
    · exact hs.elim
theorem yielded_of {ops : Array Oper} {tmps : Array Value} {j t : Nat} (hj : (ops[j]?).bind (·.dst) = some t) : yielded ops tmps j = match tmps[t]? with | some (.bool b) => some b | _ => none := by
  unfold yielded
  rw [hj]
  rfl
theorem guard_cases {wb : Base} {n : Nat} {G : Gh} {S : St} {F : Fr} {D : Dfs} {w : World} {a : Act} {ops : Array Oper} {m : MOp} {o : Oper} {stp next : Fr → St → Prop} (hg : guardFits ops m.gd o.guard = true) (hR : Rel wb n G S F D w a)
    (h : guardK m stp next F S) : (Region.wanted o (yielded ops a.tmps) = true ∧ ∃ F', Rel wb n G S F' D w a ∧ stp F' S) ∨ (Region.wanted o (yielded ops a.tmps) = false ∧ ∃ F', Rel wb n G S F' D w a ∧ next (putF m.dst (.tup []) F') S) := by
  unfold guardK at h
  cases e1 : m.gd with
  | none =>
    rw [e1] at h hg
    cases e2 : o.guard with
    | none => exact .inl ⟨by simp [Region.wanted, e2], F, hR, h⟩
    | some p => rw [e2] at hg; cases hg
  | some p =>
    obtain ⟨t, want⟩ := p
    rw [e1] at h hg
    cases e2 : o.guard with
    | none => rw [e2] at hg; cases hg
    | some q =>
      obtain ⟨j, want'⟩ := q
      rw [e2] at hg
      simp only [guardFits, Bool.and_eq_true, beq_iff_eq, decide_eq_true_eq] at hg
      obtain ⟨rfl, hj⟩ := hg
      simp only at h
      split at h
      · rename_i b hb
        have hlk : F.lookup t = some (.bool b) := by
          unfold Fr.get at hb
          cases e3 : F.lookup t with
          | none => rw [e3] at hb; cases hb
          | some y => rw [e3] at hb; exact congrArg some hb
        obtain ⟨h1, h2⟩ := hR.fr.rel t _ hlk
        have h3 : a.tmps[t]? = some (.bool b) := by
          simp only [Array.getD, h1, dif_pos] at h2
          cases hv : a.tmps[t] with
          | bool b' => simp only [Array.getInternal_eq_getElem, hv] at h2; cases h2; simp [h1, hv]
          | _ => simp only [Array.getInternal_eq_getElem, hv] at h2; cases h2
        have hw : Region.wanted o (yielded ops a.tmps) = decide (b = want) := by
          simp only [Region.wanted, e2, yielded_of hj, h3]
          cases b <;> cases want <;> rfl
        by_cases hbw : b = want
        · exact .inl ⟨by rw [hw]; simpa using hbw, _, hR.known hb hbw, h.1 hbw⟩
        · have hbn : b = !want := by cases b <;> cases want <;> simp_all
          exact .inr ⟨by rw [hw]; simpa using hbw, _, hR.known hb hbn, h.2 hbn⟩
      · rename_i hb
        have hlk : F.lookup t = some (.tup []) := by
          unfold Fr.get at hb
          cases e3 : F.lookup t with
          | none => rw [e3] at hb; cases hb
          | some y => rw [e3] at hb; exact congrArg some hb
        obtain ⟨h1, h2⟩ := hR.fr.rel t _ hlk
        have h3 : ∃ vs, a.tmps[t]? = some (.tuple vs) := by
          simp only [Array.getD, h1, dif_pos] at h2
          cases hv : a.tmps[t] with
          | tuple vs => exact ⟨vs, by simp [h1, hv]⟩
          | _ => simp only [Array.getInternal_eq_getElem, hv] at h2; cases h2
        obtain ⟨vs, h3⟩ := h3
        have hw : Region.wanted o (yielded ops a.tmps) = false := by
          simp only [Region.wanted, e2, yielded_of hj, h3]
          cases want <;> rfl
        exact .inr ⟨hw, F, hR, h⟩
      · exact h.elim
theorem ops_moK {P : Program} {wb : Base} {n : Nat} {G0 : Gh} {D : Dfs} {ops : Array Oper} {K : Option AV → Fr → St → Prop} : ∀ (l : List MOp) {G : Gh} {S : St} {F : Fr} {w : World} {a : Act}, (∀ m ∈ l, m.fits P n ops = true) → G0.le G → Rel wb n G S F D w a →
    moK P l K F S → wpOps P ops (QK wb n G0 D K) (l.map (·.ix)) a w
  | [], G, S, F, w, a, _, hle, hR, h => ⟨G, F, S, hle, hR, h⟩
  | m :: l, G, S, F, w, a, hf, hle, hR, h => by
    have hm := hf m (by simp)
    unfold MOp.fits at hm
    simp only [List.map_cons, wpOps]
    cases ho : ops[m.ix]? with
    | none => rw [ho] at hm; cases hm
    | some o =>
      rw [ho] at hm
      simp only [Bool.and_eq_true, decide_eq_true_eq] at hm
      obtain ⟨⟨⟨h1, h2⟩, h3⟩, h4⟩ := hm
      have ih := fun (G' : Gh) (S' : St) (F' : Fr) (a' : Act) (w' : World) (hle' : G0.le G') (hR' : Rel wb n G' S' F' D w' a') (h' : moK P l K F' S') => ops_moK l (fun x hx => hf x (by simp [hx])) hle' hR' h'
      simp only [moK] at h
      rcases guard_cases h4 hR h with ⟨hw, F', hR', hs⟩ | ⟨hw, F', hR', hs⟩
      · simp only [hw, if_true]
        exact .inl (oper_stepK h1 h2 h3 hle hR' hs ih)
      · simp only [hw, Bool.false_eq_true, if_false]
        refine ih G S _ _ w hle ?_ hs
        rw [h2]
        exact hR'.put h3 (.tup (vs := []) rfl (by simp))
end Go.V
