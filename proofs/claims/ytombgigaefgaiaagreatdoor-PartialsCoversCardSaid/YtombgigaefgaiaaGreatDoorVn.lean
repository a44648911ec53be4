/- The by-value layer, part fourteen: the code of a function, run from the store's side. Over any program. -/
import Derived.Test.YtombgigaefgaiaaGreatDoorVq
import Derived.Scope
import Derived.Recover
set_option linter.unusedSimpArgs false
set_option linter.unusedVariables false
namespace Go.V
open Go
theorem stepR_scope {P : Program} {b : Frame} {a : Act} {k : List Item} {cs : List Frame} {w : World} {c : Code} : step P (lone (b.atR a (.code (.scope c) :: k)) cs w) = .next (lone (b.atR a (.code c :: .inScope c :: k)) cs w) :=
  step_lone_go (by simp [stepG,stepG.exec,Frame.atR])
theorem stepR_inScope {P : Program} {b : Frame} {a : Act} {k : List Item} {cs : List Frame} {w : World} {c : Code} : step P (lone (b.atR a (.inScope c :: k)) cs w) = .next (lone (b.atR a k) cs w) :=
  step_lone_go (by simp [stepG,stepG.exec,Frame.atR])
inductive MC where
  | skip
  | reg (l : List MOp) (kp : List Nat)
  | any (pl : MPl) (pr kp : List Nat)
  | seq (a b : MC)
  | cond (c : Opd) (a b : MC)
  | block (i : Nat) (a : MC)
  | loop (a : MC)
  | exit (i : Nat)
  | ret
  | named (kp : List Nat) (a : MC)
  | bad
  | dfr (l : List MOp) (c : Opd) (as : List Opd) (kp : List Nat)
  | rcv (d : Option Nat) (l : List MOp) (kp : List Nat)
  | rfn (g : Opd) (ps : List Nat) (a b : MC)
inductive MI where
  | code (c : MC)
  | inBlock (i : Nat)
  | inLoop (c : MC)
  | begin (l : Nat)
def MC.okR (ro : Option Nat) : MC → Bool
  | .ret | .dfr .. | .rcv .. | .rfn .. => ro.isNone
  | .seq a b | .cond _ a b => a.okR ro && b.okR ro
  | .block _ a | .loop a | .named _ a => a.okR ro
  | _ => true
def MI.okR (ro : Option Nat) : MI → Bool
  | .code c | .inLoop c => c.okR ro
  | .inBlock _ => true
  | .begin l => ro == some l
def okRs (ro : Option Nat) (k : List MI) : Bool := k.all (MI.okR ro)
theorem okRs_cons (ro : Option Nat) (m : MI) (k : List MI) : okRs ro (m :: k) = (m.okR ro && okRs ro k) := rfl
theorem MC.okR_none : ∀ m : MC,m.okR none = true
  | .ret | .dfr .. | .rcv .. | .rfn .. | .skip | .reg .. | .any .. | .exit _ | .bad => rfl
  | .seq a b | .cond _ a b => by simp only [MC.okR,a.okR_none,b.okR_none,Bool.and_self]
  | .block _ a | .loop a | .named _ a => by simp only [MC.okR,a.okR_none]
def keep (kp : List Nat) (F : Fr) : Fr := kp.map fun t => (t,F.get t)
def keepK (kp : List Nat) (F : Fr) : Fr :=
  match kp with
  | [] => []
  | t :: ts => match F.lookup t with
    | some v => (t,v) :: keepK ts F
    | none => keepK ts F
theorem lookup_keepK {F : Fr} {t : Nat} {v : AV} : ∀ {kp : List Nat},(keepK kp F).lookup t = some v → F.lookup t = some v
  | [],h => by cases h
  | u :: us,h => by
    simp only [keepK] at h
    split at h
    · rename_i x hx
      simp only [List.lookup_cons] at h
      by_cases hu : t = u
      · subst hu
        simp at h
        rw [hx,h]
      · have hb : (t == u) = false := by simpa using hu
        rw [hb] at h
        exact lookup_keepK h
    · exact lookup_keepK h
theorem Rel.keep {wb : Base} {n : Nat} {G : Gh} {S : St} {F : Fr} {D : Dfs} {w : World} {a : Act} (h : Rel wb n G S F D w a) (kp : List Nat) : Rel wb n G S (keepK kp F) D w a :=
  ⟨h.st,⟨fun t v e => h.fr.rel t v (lookup_keepK e)⟩,h.sz,h.df⟩
def regFits (P : Program) (n : Nat) (l : List MOp) (ops : Array Oper) : Bool :=
  decide (l.map (·.ix) = List.range ops.size) && l.all fun m => m.fits P n ops
def anyFits (P : Program) (n : Nat) (pl : MPl) (ops : Array Oper) : Bool :=
  pl.ops.all (fun m => m.fits P n ops) && planChk ops pl.ops pl.nds (Array.replicate ops.size false) pl && decide (pl.depth ≤ ops.size)
def dfrFits (P : Program) (n : Nat) (l : List MOp) (c : Opd) (as : List Opd) (ops : Array Oper) : Bool :=
  decide (List.range ops.size = l.map (·.ix) ++ [l.length]) && (l.all (fun m => m.fits P n ops) && (match ops[l.length]? with
    | some o => o.guard.isNone && (o.dst.isNone && (match o.op with
      | .defer cc => (match cc.callee with
        | .value f => c.fits f
        | _ => false) && listFits as cc.args.toList
      | _ => false))
    | none => false))
def rcvFits (P : Program) (n : Nat) (d : Option Nat) (l : List MOp) (ops : Array Oper) : Bool :=
  decide (List.range ops.size = 0 :: l.map (·.ix)) && (l.all (fun m => m.fits P n ops) && ((d.all fun d => decide (d < n)) && (match ops[0]? with
    | some o => o.guard.isNone && (decide (o.dst = d) && (match o.op with
      | .call cc => (match cc.callee with
        | .builtin .recover => true
        | _ => false)
      | _ => false))
    | none => false)))
def MC.fits (P : Program) (n : Nat) : MC → Code → Bool
  | .bad,_ => true
  | .dfr l c as _,.region _ ops false => dfrFits P n l c as ops
  | .rcv d l _,.region _ ops false => rcvFits P n d l ops
  | .skip,.skip => true
  | .skip,.label _ => true
  | .reg l _,.region _ ops false => regFits P n l ops
  | .any pl _ _,.region _ ops true => P.follows .mixedOrders && anyFits P n pl ops
  | .seq a b,.seq a' b' => a.fits P n a' && b.fits P n b'
  | .cond c a b,.cond c' a' b' => c.fits c' && a.fits P n a' && b.fits P n b'
  | .block i a,.block j b => i == j && a.fits P n b
  | .block i a,.scope b => decide (1000000 ≤ i) && a.fits P n b
  | .loop a,.loop b => a.fits P n b
  | .exit i,.exit j => i == j && decide (i < 1000000)
  | .ret,.ret => true
  | .named _ a,c => a.fits P n c
  | .rfn g ps a b,.rangeFunc g' ps' a' b' => g.fits g' && (decide (ps = ps'.toList) && ((ps.all fun p => decide (p < n)) && (a.fits P n a' && b.fits P n b')))
  | _,_ => false
def MI.fits (P : Program) (n : Nat) : MI → Item → Prop
  | .code m,.code c => m.fits P n c = true
  | .inBlock i,.inBlock j => i = j
  | .inBlock i,.inScope _ => 1000000 ≤ i
  | .inLoop m,.inLoop c => m.fits P n c = true
  | .begin _,.beginRound => True
  | _,_ => False
def todoFits (P : Program) (n : Nat) : List MI → List Item → Prop
  | [],[] => True
  | m :: ms,i :: is => m.fits P n i ∧ todoFits P n ms is
  | _,_ => False
abbrev EndQ := Option AV → Dfs → Fr → St → Prop
def Ends (P : Program) (m : Machine) (b : Frame) (cs : List Frame) (e : Option Value) (a : Act) (w : World) : Prop :=
  match e with
  | none => (b.roundOf = none → ∃ todo,Steps P m (lone { b.atR a todo with mode := .returning } cs w)) ∧ (b.roundOf.isSome = true → Steps P m (lone (b.atR a []) cs w))
  | some v => ∃ todo,Steps P m (lone { b.atR a todo with mode := .panicking [{ v,recovered := false }] } cs w)
theorem Ends.of_steps {P : Program} {m m1 : Machine} {b : Frame} {cs : List Frame} {e : Option Value} {a : Act} {w : World} (h : Steps P m m1) (h' : Ends P m1 b cs e a w) : Ends P m b cs e a w := by
  cases e with
  | none => exact ⟨fun hb => let ⟨t,ht⟩ := h'.1 hb; ⟨t,h.trans ht⟩,fun hb => h.trans (h'.2 hb)⟩
  | some v => obtain ⟨t,ht⟩ := h'; exact ⟨t,h.trans ht⟩
def MRun (P : Program) (n : Nat) (k : List MI) (D : Dfs) (F : Fr) (S : St) (Q : EndQ) : Prop :=
  ∀ (wb : Base) G w a (b : Frame) cs todo,okRs b.roundOf k = true → todoFits P n k todo → Rel wb n G S F D w a →
    ∃ e a' w' G' F' S' D' av,G.le G' ∧ Rel wb n G' S' F' D' w' a' ∧ Ends P (lone (b.atR a todo) cs w) b cs e a' w' ∧
      (match e,av with
       | none,none => True
       | some v,some x => VRel G' x v
       | _,_ => False) ∧ Q av D' F' S'
theorem MRun.one {P : Program} {n : Nat} {k k' : List MI} {D : Dfs} {F : Fr} {S : St} {Q : EndQ} (h : MRun P n k' D F S Q) (hk : ∀ ro,okRs ro k = true → okRs ro k' = true)
    (hs : ∀ (a : Act) (w : World) (b : Frame) (cs : List Frame) (todo : List Item) wb G,todoFits P n k todo → Rel wb n G S F D w a → ∃ todo',todoFits P n k' todo' ∧ Steps P (lone (b.atR a todo) cs w) (lone (b.atR a todo') cs w)) : MRun P n k D F S Q := by
  intro wb G w a b cs todo hb hf hR
  obtain ⟨todo',hf',hst⟩ := hs a w b cs todo wb G hf hR
  obtain ⟨e,a',w',G',F',S',D',av,h1,h2,h3,h4⟩ := h wb G w a b cs todo' (hk _ hb) hf' hR
  exact ⟨e,a',w',G',F',S',D',av,h1,h2,h3.of_steps hst,h4⟩
theorem todo_cons {P : Program} {n : Nat} {m : MI} {k : List MI} {todo : List Item} (h : todoFits P n (m :: k) todo) : ∃ i is,todo = i :: is ∧ m.fits P n i ∧ todoFits P n k is := by
  cases todo with
  | nil => exact h.elim
  | cons i is => exact ⟨i,is,rfl,h.1,h.2⟩
theorem code_fits {P : Program} {n : Nat} {m : MC} {i : Item} (h : (MI.code m).fits P n i) : ∃ c,i = .code c ∧ m.fits P n c = true := by
  cases i <;> first
    | exact h.elim
    | exact ⟨_,rfl,h⟩
theorem reg_fits {P : Program} {n : Nat} {l : List MOp} {kp : List Nat} {c : Code} (h : (MC.reg l kp).fits P n c = true) : ∃ id ops,c = .region id ops false ∧ regFits P n l ops = true := by
  cases c with
  | region id ops dr =>
    cases dr
    · exact ⟨id,ops,rfl,h⟩
    · cases h
  | _ => cases h
def mexit (i : Nat) : List MI → Option (List MI)
  | .inBlock j :: k => if j = i then some k else mexit i k
  | _ :: k => mexit i k
  | [] => none
theorem mexit_fits {P : Program} {n : Nat} {i : Nat} (hi : i < 1000000) : ∀ {k k' : List MI} {todo : List Item},mexit i k = some k' → todoFits P n k todo → ∃ todo',exitTo i todo = some todo' ∧ todoFits P n k' todo'
  | [],_,_,h,_ => by cases h
  | m :: k,k',todo,h,hf => by
    obtain ⟨it,is,rfl,h1,h2⟩ := todo_cons hf
    cases m with
    | inBlock j =>
      cases it <;> first
        | exact h1.elim
        | skip
      · rename_i j'
        have : j = j' := h1
        subst this
        simp only [mexit] at h
        by_cases hj : j = i
        · rw [if_pos hj] at h
          injection h with h
          subst h
          exact ⟨is,by simp [exitTo,hj],h2⟩
        · rw [if_neg hj] at h
          obtain ⟨t,h3,h4⟩ := mexit_fits hi h h2
          exact ⟨t,by simp [exitTo,hj,h3],h4⟩
      · have h1 : 1000000 ≤ j := h1
        simp only [mexit] at h
        rw [if_neg (by omega)] at h
        obtain ⟨t,h3,h4⟩ := mexit_fits hi h h2
        exact ⟨t,by simp [exitTo,h3],h4⟩
    | code c =>
      obtain ⟨t,h3,h4⟩ := mexit_fits hi (k := k) h h2
      refine ⟨t,?_,h4⟩
      cases it <;> first
        | exact h1.elim
        | simpa [exitTo] using h3
    | inLoop c =>
      obtain ⟨t,h3,h4⟩ := mexit_fits hi (k := k) h h2
      refine ⟨t,?_,h4⟩
      cases it <;> first
        | exact h1.elim
        | simpa [exitTo] using h3
    | begin l =>
      obtain ⟨t,h3,h4⟩ := mexit_fits hi (k := k) h h2
      refine ⟨t,?_,h4⟩
      cases it <;> first
        | exact h1.elim
        | simpa [exitTo] using h3
def recoverU (c : Frame) (cs : List Frame) : Value × List Frame :=
  match c.mode with
  | .panicking ({ v,recovered := false,goexit := false } :: older) => (v,{ c with mode := .panicking ({ v,recovered := true } :: older) } :: cs)
  | _ => (.nilIface,c :: cs)
section rules
variable {P : Program} {n : Nat} {k : List MI} {D : Dfs} {F : Fr} {S : St} {Q : EndQ}
theorem MRun.skip (h : MRun P n k D F S Q) : MRun P n (.code .skip :: k) D F S Q :=
  h.one (by simp only [okRs_cons,MI.okR,MC.okR,Bool.and_eq_true,and_assoc,true_and]; exact fun _ h => h) fun a w b cs todo wb G hf _ => by
    obtain ⟨i,is,rfl,h1,h2⟩ := todo_cons hf
    obtain ⟨c,rfl,h3⟩ := code_fits h1
    cases c <;> simp only [MC.fits] at h3 <;> first
      | (cases h3; done)
      | exact ⟨is,h2,.one stepR_skip⟩
      | exact ⟨is,h2,.one stepR_label⟩
theorem MRun.seq {x y : MC} (h : MRun P n (.code x :: .code y :: k) D F S Q) : MRun P n (.code (.seq x y) :: k) D F S Q :=
  h.one (by simp only [okRs_cons,MI.okR,MC.okR,Bool.and_eq_true,and_assoc,true_and]; exact fun _ h => h) fun a w b cs todo wb G hf _ => by
    obtain ⟨i,is,rfl,h1,h2⟩ := todo_cons hf
    obtain ⟨c,rfl,h3⟩ := code_fits h1
    cases c <;> simp only [MC.fits] at h3 <;> first
      | (cases h3; done)
      | (simp only [Bool.and_eq_true] at h3
         exact ⟨.code _ :: .code _ :: is,⟨h3.1,h3.2,h2⟩,.one stepR_seq⟩)
theorem MRun.block {j : Nat} {x : MC} (h : MRun P n (.code x :: .inBlock j :: k) D F S Q) : MRun P n (.code (.block j x) :: k) D F S Q :=
  h.one (by simp only [okRs_cons,MI.okR,MC.okR,Bool.and_eq_true,and_assoc,true_and]; exact fun _ h => h) fun a w b cs todo wb G hf _ => by
    obtain ⟨i,is,rfl,h1,h2⟩ := todo_cons hf
    obtain ⟨c,rfl,h3⟩ := code_fits h1
    cases c <;> simp only [MC.fits] at h3 <;> first
      | (cases h3; done)
      | (simp only [Bool.and_eq_true,beq_iff_eq] at h3
         obtain ⟨rfl,h3⟩ := h3
         exact ⟨.code _ :: .inBlock _ :: is,⟨h3,rfl,h2⟩,.one stepR_block⟩)
      | (simp only [Bool.and_eq_true,decide_eq_true_eq] at h3
         exact ⟨.code _ :: .inScope _ :: is,⟨h3.2,h3.1,h2⟩,.one stepR_scope⟩)
theorem MRun.inBlock {j : Nat} (h : MRun P n k D F S Q) : MRun P n (.inBlock j :: k) D F S Q :=
  h.one (by simp only [okRs_cons,MI.okR,MC.okR,Bool.and_eq_true,and_assoc,true_and]; exact fun _ h => h) fun a w b cs todo wb G hf _ => by
    obtain ⟨i,is,rfl,h1,h2⟩ := todo_cons hf
    cases i <;> first
      | exact h1.elim
      | exact ⟨is,h2,.one stepR_inBlock⟩
      | exact ⟨is,h2,.one stepR_inScope⟩
theorem MRun.named {kp : List Nat} {x : MC} (h : MRun P n (.code x :: k) D (keepK kp F) S Q) : MRun P n (.code (.named kp x) :: k) D F S Q := by
  intro wb G w a b cs todo hb hf hR
  refine h wb G w a b cs todo hb ?_ (hR.keep kp)
  obtain ⟨i,is,rfl,h1,h2⟩ := todo_cons hf
  obtain ⟨c,rfl,h3⟩ := code_fits h1
  have h4 : MC.fits P n x c = true := by simpa [MC.fits] using h3
  exact ⟨h4,h2⟩
theorem okRs_exit {ro : Option Nat} {j : Nat} : ∀ {k k' : List MI},mexit j k = some k' → okRs ro k = true → okRs ro k' = true
  | [],_,h,_ => by cases h
  | m :: k,k',h,hn => by
    rw [okRs_cons,Bool.and_eq_true] at hn
    cases m with
    | inBlock i =>
      simp only [mexit] at h
      split at h
      · injection h with h
        subst h
        exact hn.2
      · exact okRs_exit h hn.2
    | code c => exact okRs_exit (k := k) h hn.2
    | inLoop c => exact okRs_exit (k := k) h hn.2
    | begin l => exact okRs_exit (k := k) h hn.2
theorem MRun.exit {j : Nat} {k' : List MI} (he : mexit j k = some k') (h : MRun P n k' D F S Q) : MRun P n (.code (.exit j) :: k) D F S Q :=
  h.one (fun _ hn => okRs_exit he (by rw [okRs_cons,Bool.and_eq_true] at hn; exact hn.2)) fun a w b cs todo wb G hf _ => by
    obtain ⟨i,is,rfl,h1,h2⟩ := todo_cons hf
    obtain ⟨c,rfl,h3⟩ := code_fits h1
    cases c <;> simp only [MC.fits] at h3 <;> first
      | (cases h3; done)
      | (simp only [Bool.and_eq_true,beq_iff_eq,decide_eq_true_eq] at h3
         obtain ⟨rfl,h3⟩ := h3
         obtain ⟨t,h4,h5⟩ := mexit_fits h3 he h2
         exact ⟨t,h5,.one (stepR_exit h4)⟩)
theorem MRun.cond {c : Opd} {x y : MC} {t : Bool} (hc : c.ev F = .bool t) (h1 : t = true → MRun P n (.code x :: k) D F S Q) (h2 : t = false → MRun P n (.code y :: k) D F S Q) : MRun P n (.code (.cond c x y) :: k) D F S Q := by
  have key : ∀ (z : MC),(if t then x else y) = z → MRun P n (.code z :: k) D F S Q → MRun P n (.code (.cond c x y) :: k) D F S Q := by
    intro z hz h
    refine h.one (fun _ hn => ?_) fun a w b cs todo wb G hf hR => ?_
    · simp only [okRs_cons,MI.okR,MC.okR,Bool.and_eq_true] at hn ⊢
      subst hz
      cases t
      · exact ⟨hn.1.2,hn.2⟩
      · exact ⟨hn.1.1,hn.2⟩
    obtain ⟨i,is,rfl,h1,h2⟩ := todo_cons hf
    obtain ⟨c0,rfl,h3⟩ := code_fits h1
    cases c0 <;> simp only [MC.fits] at h3 <;> first
      | (cases h3; done)
      | skip
    rename_i c' x' y'
    simp only [Bool.and_eq_true] at h3
    obtain ⟨⟨h4,h5⟩,h6⟩ := h3
    have hcv := Opd.rel hR.fr h4
    rw [hc] at hcv
    generalize hcc : a.eval c' = cv at hcv
    cases hcv
    refine ⟨.code (if t then x' else y') :: is,⟨?_,h2⟩,.one (stepR_cond hcc)⟩
    subst hz
    cases t
    · exact h6
    · exact h5
  cases t
  · exact key y rfl (h2 rfl)
  · exact key x rfl (h1 rfl)
theorem MRun.ret (h : Q none D F S) : MRun P n (.code .ret :: k) D F S Q := by
  intro wb G w a b cs todo hb hf hR
  have hb : b.roundOf = none := by
    cases e : b.roundOf with
    | none => rfl
    | some l => rw [e] at hb; cases hb
  obtain ⟨i,is,rfl,h1,h2⟩ := todo_cons hf
  obtain ⟨c,rfl,h3⟩ := code_fits h1
  cases c <;> simp only [MC.fits] at h3 <;> first
    | (cases h3; done)
    | exact ⟨none,a,w,G,F,S,D,none,Gh.le_refl G,hR,⟨fun _ => ⟨_,.one (stepR_ret hb)⟩,fun e => by rw [hb] at e; cases e⟩,trivial,h⟩
theorem MRun.done (h : Q none D F S) : MRun P n [] D F S Q := by
  intro wb G w a b cs todo _ hf hR
  cases todo with
  | nil => exact ⟨none,a,w,G,F,S,D,none,Gh.le_refl G,hR,⟨fun hb => ⟨_,.one (stepR_end hb)⟩,fun _ => .refl _ _⟩,trivial,h⟩
  | cons i is => exact hf.elim
theorem MRun.reg {l : List MOp} {kp : List Nat} (h : moK P l (fun o F' S' => match o with | none => MRun P n k D (keepK kp F') S' Q | some v => Q (some v) D F' S') F S) : MRun P n (.code (.reg l kp) :: k) D F S Q := by
  intro wb G w a b cs todo hb hf hR
  have hb' : okRs b.roundOf k = true := by rw [okRs_cons,Bool.and_eq_true] at hb; exact hb.2
  obtain ⟨i,is,rfl,h1,h2⟩ := todo_cons hf
  obtain ⟨c,rfl,h3⟩ := code_fits h1
  obtain ⟨id,ops,rfl,h3'⟩ := reg_fits h3
  simp only [regFits,Bool.and_eq_true,decide_eq_true_eq,List.all_eq_true] at h3'
  obtain ⟨h4,h5⟩ := h3'
  have hw := ops_moK (P := P) (G0 := G) (ro := b.roundOf) l h5 (Gh.le_refl G) hR h
  rw [h4] at hw
  obtain ⟨e,a',w',hq,harr⟩ := wpIn_region (id := id) hw b is cs rfl trivial (wideR_room _ _)
  cases e with
  | normal =>
    obtain ⟨G1,F1,S1,h6,h7,h8⟩ := hq
    obtain ⟨e,a2,w2,G2,F2,S2,D2,av,h9,h10,h11,h12⟩ := h8 wb G1 w' a' b cs is hb' h2 (h7.keep kp)
    exact ⟨e,a2,w2,G2,F2,S2,D2,av,Gh.le_trans h6 h9,h10,h11.of_steps (StepsIn.steps harr),h12⟩
  | panic ch =>
    obtain ⟨G1,F1,S1,v,av,h6,h7,rfl,h8,h9⟩ := hq
    exact ⟨some v,a',w',G1,F1,S1,D,some av,h6,h7,(let ⟨t,ht⟩ := harr; ⟨t,ht.steps⟩),h8,h9⟩
  | exit _ => exact hq.elim
  | goto _ => exact hq.elim
  | ret => exact hq.elim
  | outgrown => exact hq.elim
def QPin (Q : EndQ) (ds : List Nat) : Prop := ∀ v D F F' S,(∀ t,t ∉ ds → F.lookup t = F'.lookup t) → Q (some v) D F S → Q (some v) D F' S
def MPl.dsts (pl : MPl) : List Nat := pl.ops.filterMap (·.dst)
def protOf (F : Fr) : List Nat → List Nat
  | [] => []
  | t :: ts => match F.get t with
    | .ptr l _ => l :: protOf F ts
    | .osl _ _ l _ => l :: protOf F ts
    | _ => protOf F ts
theorem keepK_congr {F F' : Fr} (e : FEq F F') : ∀ kp,keepK kp F = keepK kp F'
  | [] => rfl
  | t :: ts => by simp only [keepK,e t,keepK_congr e ts]
theorem any_fits {P : Program} {n : Nat} {pl : MPl} {pr kp : List Nat} {c : Code} (h : (MC.any pl pr kp).fits P n c = true) : ∃ id ops,c = .region id ops true ∧ P.follows .mixedOrders = true ∧ anyFits P n pl ops = true := by
  cases c with
  | region id ops dr =>
    cases dr
    · cases h
    · simp only [MC.fits,Bool.and_eq_true] at h
      exact ⟨id,ops,rfl,h.1,h.2⟩
  | _ => cases h
theorem MRun.anyQ {pl : MPl} {pr kp : List Nat} {Q1 : EndQ} (hQ : QPin Q1 pl.dsts) (hQ1 : ∀ v F S,Q1 (some v) D F S → Q (some v) D F S) (h : plK P (fun o F' S' => match o with | none => MRun P n k D (keepK kp F') S' Q | some v => Q1 (some v) D F' S') S (protOf F pr) pl F S) : MRun P n (.code (.any pl pr kp) :: k) D F S Q := by
  intro wb G w a b cs todo hb hf hR
  have hb' : okRs b.roundOf k = true := by rw [okRs_cons,Bool.and_eq_true] at hb; exact hb.2
  obtain ⟨i,is,rfl,h1,h2⟩ := todo_cons hf
  obtain ⟨c,rfl,h3⟩ := code_fits h1
  obtain ⟨id,ops,rfl,hmix,h3'⟩ := any_fits h3
  simp only [anyFits,Bool.and_eq_true,decide_eq_true_eq,List.all_eq_true] at h3'
  obtain ⟨⟨h4,h5⟩,h6⟩ := h3'
  have hK : ∀ o,Rsp ((fun o F' S' => match o with | none => MRun P n k D (keepK kp F') S' Q | some v => Q1 (some v) D F' S' : Option AV → Fr → St → Prop) o) := by
    intro o F F' S e h
    cases o with
    | none => simp only at h ⊢; rw [← keepK_congr e]; exact h
    | some v => exact hQ v D F F' S (fun t _ => e t) h
  have hany := plan_any (ops := ops) (all := pl.ops) (nds := pl.nds) hK (fun o ho v x F S h => hQ x D _ F S (fun t ht => by
    rw [lookup_put]
    by_cases hd : o.dst = some t
    · exact absurd (List.mem_filterMap.2 ⟨o,ho,hd⟩) ht
    · rw [if_neg hd]) h) pl (Array.replicate ops.size false) F S ops.size h6 (fun _ h => h) h5 h
  have hw := any_sound (P := P) (ro := b.roundOf) (G0 := G) (D := D) (wb := wb) h4 ops.size (Array.replicate ops.size false) (w := w.drew) (Gh.le_refl G) ⟨hR.st.drew,hR.fr,hR.sz,hR.df⟩ hany
  obtain ⟨e,a',w',hq,harr⟩ := wpIn_region_any (id := id) hmix hw b is cs rfl trivial (wideR_room _ _)
  cases e with
  | normal =>
    obtain ⟨G1,F1,S1,h6,h7,h8⟩ := hq
    obtain ⟨e,a2,w2,G2,F2,S2,D2,av,h9,h10,h11,h12⟩ := h8 wb G1 w' a' b cs is hb' h2 (h7.keep kp)
    exact ⟨e,a2,w2,G2,F2,S2,D2,av,Gh.le_trans h6 h9,h10,h11.of_steps (StepsIn.steps harr),h12⟩
  | panic ch =>
    obtain ⟨G1,F1,S1,v,av,h6,h7,rfl,h8,h9⟩ := hq
    exact ⟨some v,a',w',G1,F1,S1,D,some av,h6,h7,(let ⟨t,ht⟩ := harr; ⟨t,ht.steps⟩),h8,hQ1 _ _ _ h9⟩
  | exit _ => exact hq.elim
  | goto _ => exact hq.elim
  | ret => exact hq.elim
  | outgrown => exact hq.elim
theorem MRun.any {pl : MPl} {pr kp : List Nat} (hQ : QPin Q pl.dsts) (h : plK P (fun o F' S' => match o with | none => MRun P n k D (keepK kp F') S' Q | some v => Q (some v) D F' S') S (protOf F pr) pl F S) : MRun P n (.code (.any pl pr kp) :: k) D F S Q :=
  .anyQ hQ (fun _ _ _ h => h) h
theorem MRun.inLoop {x : MC} (h : MRun P n (.code x :: .inLoop x :: k) D F S Q) : MRun P n (.inLoop x :: k) D F S Q :=
  h.one (by simp only [okRs_cons,MI.okR,Bool.and_eq_true]; exact fun _ h => ⟨h.1,h⟩) fun a w b cs todo wb G hf _ => by
    obtain ⟨i,is,rfl,h1,h2⟩ := todo_cons hf
    cases i <;> first
      | exact h1.elim
      | exact ⟨.code _ :: .inLoop _ :: is,⟨h1,h1,h2⟩,.one stepR_inLoop⟩
theorem MRun.loop1 {x : MC} (h : MRun P n (.code x :: .inLoop x :: k) D F S Q) : MRun P n (.code (.loop x) :: k) D F S Q :=
  h.one (by simp only [okRs_cons,MI.okR,MC.okR,Bool.and_eq_true]; exact fun _ h => ⟨h.1,h⟩) fun a w b cs todo wb G hf _ => by
    obtain ⟨i,is,rfl,h1,h2⟩ := todo_cons hf
    obtain ⟨c,rfl,h3⟩ := code_fits h1
    cases c <;> simp only [MC.fits] at h3 <;> first
      | (cases h3; done)
      | exact ⟨.code _ :: .inLoop _ :: is,⟨h3,h3,h2⟩,.one stepR_loop⟩
theorem wp_both {o : Oper} {a : Act} {w : World} {ro : Option Nat} {K K' : Act → World → Prop} {R R' : Exit → Act → World → Prop} (h : ∀ a w,K a w → K' a w) (hq : ∀ e a w,e ≠ .normal → R e a w → R' e a w)
    (hh : o.wpIn (wideR ro) 0 P a w K R) : o.wpIn (wideR ro) 0 P a w K' R' := by
  unfold Oper.wpIn at *
  refine ⟨hh.1,?_⟩
  replace hh := hh.2
  generalize (o.semAt (wideR ro).round a.eval).run P w = r at *
  have hl : LetsOut R → LetsOut R' := fun ⟨a,w,h⟩ => ⟨a,w,hq _ _ _ (by simp) h⟩
  cases r with
  | ok n w' =>
    cases n <;> simp only [Oper.uponIn] at hh ⊢ <;>
      first
        | exact h _ _ hh
        | exact ⟨hh.1,CallsIn.mono hh.2 (fun e w'' he => by cases e <;> first | exact h _ _ he | exact hq _ _ _ (by simp) he | exact hl he)⟩
        | exact ⟨hh.1,RowsIn.mono hh.2 (fun _ _ he => h _ _ he)⟩
        | exact ⟨hh.1,RoundIn.mono hh.2 (fun e w'' he => by cases e <;> first | exact h _ _ he | exact hq _ _ _ (by simp) he | exact hl he)⟩
  | halt x w' => cases x <;> simp only [Oper.uponIn] at hh ⊢ <;> first
    | exact hh
    | exact hq _ _ _ (by simp) hh
theorem wpOps_append {ops : Array Oper} {ro : Option Nat} {R R' : Exit → Act → World → Prop} {rest : List Nat} (hn : ∀ a w,R .normal a w → wpOpsIn (wideR ro) 0 P ops R' rest a w) (hq : ∀ e a w,e ≠ .normal → R e a w → R' e a w) : ∀ (l : List Nat) {a : Act} {w : World},wpOpsIn (wideR ro) 0 P ops R l a w → wpOpsIn (wideR ro) 0 P ops R' (l ++ rest) a w
  | [],a,w,h => hn a w h
  | i :: l,a,w,h => by
    have ih := fun a w => wpOps_append hn hq l (a := a) (w := w)
    simp only [List.cons_append,wpOpsIn] at h ⊢
    cases ho : ops[i]? with
    | none => simp only [ho] at h ⊢; exact ih _ _ h
    | some o =>
      simp only [ho] at h ⊢
      split
      · rename_i hw
        rw [if_pos hw] at h
        exact wp_both ih hq h
      · rename_i hw
        rw [if_neg hw] at h
        exact ⟨h.1,ih _ _ h.2⟩
theorem dfr_fits {l : List MOp} {c : Opd} {as : List Opd} {kp : List Nat} {c0 : Code} (h : (MC.dfr l c as kp).fits P n c0 = true) : ∃ id ops,c0 = .region id ops false ∧ dfrFits P n l c as ops = true := by
  cases c0 with
  | region id ops dr =>
    cases dr
    · exact ⟨id,ops,rfl,h⟩
    · cases h
  | _ => cases h
theorem rcv_fits {d : Option Nat} {l : List MOp} {kp : List Nat} {c0 : Code} (h : (MC.rcv d l kp).fits P n c0 = true) : ∃ id ops,c0 = .region id ops false ∧ rcvFits P n d l ops = true := by
  cases c0 with
  | region id ops dr =>
    cases dr
    · exact ⟨id,ops,rfl,h⟩
    · cases h
  | _ => cases h
theorem run_defer {a : Act} {o : Oper} {w : World} {fo : Operand} {args : Array Operand} {tys : Array TypeId} {f : Fn} {vs ws : Array Value} (ho : o.op = .defer ⟨.value fo,args,tys⟩) (hf : a.eval fo = .func f vs ws) :
    (execOp a.eval o).run P w = .ok (.defer { target := .fn f ws,args := vs ++ args.map a.eval }) w := by
  simp only [execOp,ho,resolve,hf,Deferred.ofValue]
  rfl
theorem MRun.dfr {l : List MOp} {c : Opd} {as : List Opd} {kp : List Nat} (h : moK P l (fun o F' S' => match o with
    | none => ∃ f first caps,c.ev F' = .fn f first caps ∧ MRun P n k ((f,first ++ as.map (Opd.ev F'),caps) :: D) (keepK kp F') S' Q
    | some v => Q (some v) D F' S') F S) : MRun P n (.code (.dfr l c as kp) :: k) D F S Q := by
  intro wb G w a b cs todo hb hf hR
  have hbn : b.roundOf = none := by
    cases e : b.roundOf with
    | none => rfl
    | some l => rw [e] at hb; cases hb
  have hb' : okRs b.roundOf k = true := by rw [okRs_cons,Bool.and_eq_true] at hb; exact hb.2
  obtain ⟨i,is,rfl,h1,h2⟩ := todo_cons hf
  obtain ⟨c0,rfl,h3⟩ := code_fits h1
  obtain ⟨id,ops,rfl,h3'⟩ := dfr_fits h3
  simp only [dfrFits,Bool.and_eq_true,decide_eq_true_eq,List.all_eq_true] at h3'
  obtain ⟨h4,h5,h6⟩ := h3'
  have hw := ops_moK (P := P) (G0 := G) (ro := b.roundOf) l h5 (Gh.le_refl G) hR h
  let R : Exit → Act → World → Prop := fun e a' w' => match e with
    | .normal => ∃ G1 F1 S1 D1,G.le G1 ∧ Rel wb n G1 S1 F1 D1 w' a' ∧ MRun P n k D1 F1 S1 Q
    | .panic ch => ∃ G1 F1 S1 v av,G.le G1 ∧ Rel wb n G1 S1 F1 D w' a' ∧ ch = [{ v,recovered := false }] ∧ VRel G1 av v ∧ Q (some av) D F1 S1
    | _ => False
  have hw2 : wpOpsIn (wideR b.roundOf) 0 P ops R (List.range ops.size) a w := by
    rw [h4]
    refine wpOps_append (fun a' w' hq => ?_) (fun e a' w' he hq => ?_) _ hw
    · obtain ⟨G1,F1,S1,g1,g2,f,first,caps,g3,g4⟩ := hq
      simp only [wpOpsIn]
      split at h6
      · rename_i o ho
        simp only [ho]
        simp only [Bool.and_eq_true,Option.isNone_iff_eq_none] at h6
        obtain ⟨q1,q2,q3⟩ := h6
        have hwant : Region.wanted o (yielded ops a'.tmps) = true := by simp [Region.wanted,q1]
        rw [if_pos hwant]
        split at q3
        · rename_i cc hcc
          obtain ⟨callee,args,tys⟩ := cc
          simp only [Bool.and_eq_true] at q3
          obtain ⟨q4,q5⟩ := q3
          split at q4
          · rename_i fo
            have hcv := Opd.rel g2.fr q4
            rw [g3] at hcv
            generalize hfv : a'.eval fo = fv at hcv
            cases hcv
            rename_i vs ws l1 r1 l2 r2
            obtain ⟨l3,r3⟩ := listFits_rel g2.fr q5
            have hargs : VRels G1 (first ++ as.map (Opd.ev F1)) (vs ++ args.toList.map a'.eval) := .append ⟨l1,r1⟩ ⟨l3,r3⟩
            refine ⟨fun _ _ => trivial,?_⟩
            rw [show (wideR b.roundOf).round = none from hbn,Oper.semAt_none,run_defer hcc hfv]
            simp only [Oper.uponIn,q2,Act.put]
            refine ⟨G1,keepK kp F1,S1,_,g1,?_,g4⟩
            have gk := g2.keep kp
            refine ⟨gk.st,⟨gk.fr.rel⟩,gk.sz,.inl ⟨vs ++ args.toList.map a'.eval,ws,?_,hargs,⟨l2,r2⟩⟩,gk.df⟩
            congr 1
            apply Array.ext'
            simp
          · cases q4
        · cases q3
      · cases h6
    · cases e with
      | normal => exact (he rfl).elim
      | panic ch =>
        obtain ⟨G1,F1,S1,v,av,g1,g2,g3,g4,g5⟩ := hq
        exact ⟨G1,F1,S1,v,av,g1,g2,g3,g4,g5⟩
      | _ => exact hq.elim
  obtain ⟨e,a',w',hq,harr⟩ := wpIn_region (id := id) hw2 b is cs rfl trivial (wideR_room _ _)
  cases e with
  | normal =>
    obtain ⟨G1,F1,S1,D1,g1,g2,g3⟩ := hq
    obtain ⟨e,a2,w2,G2,F2,S2,D2,av,h9,h10,h11,h12⟩ := g3 wb G1 w' a' b cs is hb' h2 g2
    exact ⟨e,a2,w2,G2,F2,S2,D2,av,Gh.le_trans g1 h9,h10,h11.of_steps (StepsIn.steps harr),h12⟩
  | panic ch =>
    obtain ⟨G1,F1,S1,v,av,h6,h7,rfl,h8,h9⟩ := hq
    exact ⟨some v,a',w',G1,F1,S1,D,some av,h6,h7,(let ⟨t,ht⟩ := harr; ⟨t,ht.steps⟩),h8,h9⟩
  | exit _ => exact hq.elim
  | goto _ => exact hq.elim
  | ret => exact hq.elim
  | outgrown => exact hq.elim
def PRel (G : Gh) (pv : Option AV) (u : FrameMode) : Prop :=
  match pv with
  | none => u = .returning
  | some p => ∃ v,u = .panicking [{ v,recovered := false }] ∧ VRel G p v
def recd : FrameMode → FrameMode
  | .panicking ({ v,recovered := _,goexit := _ } :: older) => .panicking ({ v,recovered := true } :: older)
  | u => u
theorem PRel.mono {G G' : Gh} (h : G.le G') {pv : Option AV} {u : FrameMode} (hp : PRel G pv u) : PRel G' pv u := by
  cases pv with
  | none => exact hp
  | some p => obtain ⟨v,h1,h2⟩ := hp; exact ⟨v,h1,h2.mono h⟩
def MRunR (P : Program) (n : Nat) (k : List MI) (pv : Option AV) (F : Fr) (S : St) (Q : EndQ) : Prop :=
  ∀ (wb : Base) G w a (b c₀ : Frame) cs todo,b.roundOf = none → okRs none k = true → b.kind = .deferred → todoFits P n k todo → Rel wb n G S F [] w a → PRel G pv c₀.mode →
    ∃ e a' w' G' F' S' D' av,G.le G' ∧ Rel wb n G' S' F' D' w' a' ∧ Ends P (lone (b.atR a todo) (c₀ :: cs) w) b ({ c₀ with mode := recd c₀.mode } :: cs) e a' w' ∧
      (match e,av with
       | none,none => True
       | some v,some x => VRel G' x v
       | _,_ => False) ∧ Q av D' F' S'
theorem MRunR.one {k k' : List MI} {pv : Option AV} (h : MRunR P n k' pv F S Q) (hk : ∀ ro,okRs ro k = true → okRs ro k' = true)
    (hs : ∀ (a : Act) (w : World) (b : Frame) (cs : List Frame) (todo : List Item) wb G,todoFits P n k todo → Rel wb n G S F [] w a → ∃ todo',todoFits P n k' todo' ∧ Steps P (lone (b.atR a todo) cs w) (lone (b.atR a todo') cs w)) : MRunR P n k pv F S Q := by
  intro wb G w a b c₀ cs todo hbn ho hb hf hR hp
  obtain ⟨todo',hf',hst⟩ := hs a w b (c₀ :: cs) todo wb G hf hR
  obtain ⟨e,a',w',G',F',S',D',av,h1,h2,h3,h4⟩ := h wb G w a b c₀ cs todo' hbn (hk _ ho) hb hf' hR hp
  exact ⟨e,a',w',G',F',S',D',av,h1,h2,h3.of_steps hst,h4⟩
theorem MRunR.seq {pv : Option AV} {x y : MC} (h : MRunR P n (.code x :: .code y :: k) pv F S Q) : MRunR P n (.code (.seq x y) :: k) pv F S Q :=
  h.one (by simp only [okRs_cons,MI.okR,MC.okR,Bool.and_eq_true,and_assoc,true_and]; exact fun _ h => h) fun a w b cs todo wb G hf _ => by
    obtain ⟨i,is,rfl,h1,h2⟩ := todo_cons hf
    obtain ⟨c,rfl,h3⟩ := code_fits h1
    cases c <;> simp only [MC.fits] at h3 <;> first
      | (cases h3; done)
      | (simp only [Bool.and_eq_true] at h3
         exact ⟨.code _ :: .code _ :: is,⟨h3.1,h3.2,h2⟩,.one stepR_seq⟩)
theorem MRunR.block {pv : Option AV} {j : Nat} {x : MC} (h : MRunR P n (.code x :: .inBlock j :: k) pv F S Q) : MRunR P n (.code (.block j x) :: k) pv F S Q :=
  h.one (by simp only [okRs_cons,MI.okR,MC.okR,Bool.and_eq_true,and_assoc,true_and]; exact fun _ h => h) fun a w b cs todo wb G hf _ => by
    obtain ⟨i,is,rfl,h1,h2⟩ := todo_cons hf
    obtain ⟨c,rfl,h3⟩ := code_fits h1
    cases c <;> simp only [MC.fits] at h3 <;> first
      | (cases h3; done)
      | (simp only [Bool.and_eq_true,beq_iff_eq] at h3
         obtain ⟨rfl,h3⟩ := h3
         exact ⟨.code _ :: .inBlock _ :: is,⟨h3,rfl,h2⟩,.one stepR_block⟩)
      | (simp only [Bool.and_eq_true,decide_eq_true_eq] at h3
         exact ⟨.code _ :: .inScope _ :: is,⟨h3.2,h3.1,h2⟩,.one stepR_scope⟩)
theorem MRunR.named {pv : Option AV} {kp : List Nat} {x : MC} (h : MRunR P n (.code x :: k) pv (keepK kp F) S Q) : MRunR P n (.code (.named kp x) :: k) pv F S Q := by
  intro wb G w a b c₀ cs todo hbn ho hb hf hR hp
  refine h wb G w a b c₀ cs todo hbn ho hb ?_ (hR.keep kp) hp
  obtain ⟨i,is,rfl,h1,h2⟩ := todo_cons hf
  obtain ⟨c,rfl,h3⟩ := code_fits h1
  have h4 : MC.fits P n x c = true := by simpa [MC.fits] using h3
  exact ⟨h4,h2⟩
theorem MRunR.rcv {pv : Option AV} {d : Option Nat} {l : List MOp} {kp : List Nat} (h : moK P l (fun o F' S' => match o with
    | none => MRun P n k [] (keepK kp F') S' Q
    | some v => Q (some v) [] F' S') (putF d (pv.getD .nili) F) S) : MRunR P n (.code (.rcv d l kp) :: k) pv F S Q := by
  intro wb G w a b c₀ cs todo hbn ho hb hf hR hp
  obtain ⟨i,is,rfl,h1,h2⟩ := todo_cons hf
  obtain ⟨c0,rfl,h3⟩ := code_fits h1
  obtain ⟨id,ops,rfl,h3'⟩ := rcv_fits h3
  simp only [rcvFits,Bool.and_eq_true,decide_eq_true_eq,List.all_eq_true] at h3'
  obtain ⟨h4,h5,hdn,h6⟩ := h3'
  split at h6
  rotate_left
  · cases h6
  rename_i o ho'
  simp only [Bool.and_eq_true,Option.isNone_iff_eq_none,decide_eq_true_eq] at h6
  obtain ⟨q1,q2,q3⟩ := h6
  split at q3
  rotate_left
  · cases q3
  rename_i cc hcc
  obtain ⟨callee,args,tys⟩ := cc
  simp only at q3
  split at q3
  rotate_left
  · cases q3
  have hrun : (execOp a.eval o).run P w = .ok .recover w := by
    simp only [execOp,hcc,resolve]
    rfl
  have hwant : Region.wanted o (yielded ops a.tmps) = true := by simp [Region.wanted,q1]
  obtain ⟨u,hu1,hu2,hu3⟩ : ∃ u,recoverU c₀ cs = u ∧ u.2 = { c₀ with mode := recd c₀.mode } :: cs ∧ VRel G (pv.getD .nili) u.1 := by
    cases pv with
    | none =>
      have hm : c₀.mode = .returning := hp
      refine ⟨_,rfl,?_,?_⟩
      · simp only [recoverU,hm,recd]
        cases c₀
        simp only at hm
        subst hm
        rfl
      · simp only [recoverU,hm]
        exact .nili
    | some p =>
      obtain ⟨v,hm,hv⟩ := hp
      refine ⟨_,rfl,?_,?_⟩
      · simp only [recoverU,hm,recd]
      · simp only [recoverU,hm]
        exact hv
  have hstep : Steps P (lone (b.atR a (.code (.region id ops false) :: is)) (c₀ :: cs) w) (lone (b.atR (a.put d u.1) (.inRegion ops (l.map (·.ix)) :: is)) ({ c₀ with mode := recd c₀.mode } :: cs) w) := by
    refine .head stepR_region (.one ?_)
    rw [h4]
    have hg := stepGR_op (P := P) (b := b) (a := a) (k := is) (cs := c₀ :: cs) (w := w) (rest := l.map (·.ix)) ho' hwant
    refine step_lone_go ?_
    rw [hbn,Oper.semAt_none] at hg
    rw [hg]
    have hfin : ∀ v,(b.atR a (.inRegion ops (0 :: l.map (·.ix)) :: is)).finish v = b.atR (a.put d v) (.inRegion ops (l.map (·.ix)) :: is) := by
      intro v; rw [Frame.finish_atR,ho',← q2]; rfl
    have hk : (b.atR a (.inRegion ops (0 :: l.map (·.ix)) :: is)).kind = .deferred := hb
    have htr := tryRecover_deferred hk (c₀ :: cs)
    rw [← hfin,← hu2]
    simp only [Frame.atR] at htr ⊢
    rw [hbn] at htr
    rw [← hu1]
    cases pv with
    | none =>
      have hm : c₀.mode = .returning := hp
      simp [stepG.apply,hrun,htr,recoverD,recoverU,hm,hbn]
    | some p =>
      obtain ⟨v,hm,hv⟩ := hp
      simp [stepG.apply,hrun,htr,recoverD,recoverU,hm,hbn]
  have hw := ops_moK (P := P) (ro := b.roundOf) (G0 := G) l h5 (Gh.le_refl G) (hR.put hdn hu3) h
  obtain ⟨e,a',w',hq,harr⟩ := wp_opsIn _ _ _ hw b is ({ c₀ with mode := recd c₀.mode } :: cs) rfl trivial (wideR_room _ _)
  cases e with
  | normal =>
    obtain ⟨G1,F1,S1,h6,h7,h8⟩ := hq
    obtain ⟨e,a2,w2,G2,F2,S2,D2,av,h9,h10,h11,h12⟩ := h8 wb G1 w' a' b _ is (by rw [hbn]; rw [okRs_cons,Bool.and_eq_true] at ho; exact ho.2) h2 (h7.keep kp)
    exact ⟨e,a2,w2,G2,F2,S2,D2,av,Gh.le_trans h6 h9,h10,(h11.of_steps (StepsIn.steps harr)).of_steps hstep,h12⟩
  | panic ch =>
    obtain ⟨G1,F1,S1,v,av,h6,h7,rfl,h8,h9⟩ := hq
    refine ⟨some v,a',w',G1,F1,S1,[],some av,h6,h7,?_,h8,h9⟩
    obtain ⟨t,ht⟩ := harr
    exact ⟨t,hstep.trans ht.steps⟩
  | exit _ => exact hq.elim
  | goto _ => exact hq.elim
  | ret => exact hq.elim
  | outgrown => exact hq.elim
theorem MRun.loop {x : MC} (I : Fr → St → Prop) (μ : Fr → St → Nat) (h0 : I F S)
    (round : ∀ F S,I F S → (∀ F' S',I F' S' → μ F' S' < μ F S → MRun P n (.inLoop x :: k) D F' S' Q) → MRun P n (.code x :: .inLoop x :: k) D F S Q) : MRun P n (.code (.loop x) :: k) D F S Q := by
  have key : ∀ m F S,μ F S = m → I F S → MRun P n (.inLoop x :: k) D F S Q := by
    intro m
    induction m using Nat.strongRecOn with
    | _ m ih =>
      intro F S hm hI
      refine (round F S hI fun F' S' hI' hlt => ih (μ F' S') (hm ▸ hlt) F' S' rfl hI').one (by simp only [okRs_cons,MI.okR,Bool.and_eq_true]; exact fun _ h => ⟨h.1,h⟩) fun a w b cs todo wb G hf _ => ?_
      obtain ⟨i,is,rfl,h1,h2⟩ := todo_cons hf
      cases i <;> first
        | exact h1.elim
        | exact ⟨.code _ :: .inLoop _ :: is,⟨h1,h1,h2⟩,.one stepR_inLoop⟩
  refine (round F S h0 fun F' S' hI' _ => key _ F' S' rfl hI').one (by simp only [okRs_cons,MI.okR,MC.okR,Bool.and_eq_true]; exact fun _ h => ⟨h.1,h⟩) fun a w b cs todo wb G hf _ => ?_
  obtain ⟨i,is,rfl,h1,h2⟩ := todo_cons hf
  obtain ⟨c,rfl,h3⟩ := code_fits h1
  cases c <;> simp only [MC.fits] at h3 <;> first
    | (cases h3; done)
    | exact ⟨.code _ :: .inLoop _ :: is,⟨h3,h3,h2⟩,.one stepR_loop⟩
theorem MRun.weak {F' : Fr} {S' : St} (h : MRun P n k D F' S' Q) (hF : ∀ t v,F'.lookup t = some v → F.lookup t = some v) (hS : S.le S') : MRun P n k D F S Q := by
  intro wb G w a b cs todo hb hf hR
  exact h wb G w a b cs todo hb hf ⟨hR.st.weak hS,⟨fun t v e => hR.fr.rel t v (hF t v e)⟩,hR.sz,hR.df⟩
end rules
end Go.V
