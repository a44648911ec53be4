/- The by-value layer, part sixteen: running a body by rewriting; results that own spare places. Over any program. -/
import Derived.Test.YtdjdhecanjmchaaGreatDoorVoB
set_option linter.unusedSimpArgs false
set_option linter.unusedVariables false
namespace Go.V
open Go
def mw (P : Program) (n : Nat) (Q : EndQ) : Nat → List MI → Dfs → Fr → St → Prop
  | 0, k, D, F, S => MRun P n k D F S Q
  | fu + 1, k, D, F, S => match k with
    | [] => Q none D F S
    | .inBlock _ :: k => mw P n Q fu k D F S
    | .inLoop x :: k => MRun P n (.inLoop x :: k) D F S Q
    | .code c :: k => match c with
      | .skip => mw P n Q fu k D F S
      | .seq a b => mw P n Q fu (.code a :: .code b :: k) D F S
      | .block i a => mw P n Q fu (.code a :: .inBlock i :: k) D F S
      | .exit i => match mexit i k with
        | some k' => mw P n Q fu k' D F S
        | none => False
      | .ret => Q none D F S
      | .loop x => MRun P n (.code (.loop x) :: k) D F S Q
      | .named kp x => MRun P n (.code x :: k) D (keepK kp F) S Q
      | .cond c a b => match c.ev F with
        | .bool t => (t = true → mw P n Q fu (.code a :: k) D F S) ∧ (t = false → mw P n Q fu (.code b :: k) D F S)
        | _ => False
      | .reg l kp => moK P l (fun o F' S' => match o with
        | none => mw P n Q fu k D (keepK kp F') S'
        | some v => Q (some v) D F' S') F S
      | .any pl pr kp => QPin Q pl.dsts ∧ plK P (fun o F' S' => match o with
        | none => mw P n Q fu k D (keepK kp F') S'
        | some v => Q (some v) D F' S') S (protOf F pr) pl F S
      | .bad => False
      | .rcv _ _ _ => False
      | .dfr l c as kp => moK P l (fun o F' S' => match o with
        | none => ∃ f first caps, c.ev F' = .fn f first caps ∧ mw P n Q fu k ((f, first ++ as.map (Opd.ev F'), caps) :: D) (keepK kp F') S'
        | some v => Q (some v) D F' S') F S
def KW (P : Program) (n : Nat) (Q : EndQ) (fu : Nat) (k : List MI) (kp : List Nat) (D : Dfs) : Option AV → Fr → St → Prop := fun o F' S' => match o with
  | none => mw P n Q fu k D (keepK kp F') S'
  | some v => Q (some v) D F' S'
theorem stepK_mono {P : Program} {o : MOp} {K K' : Option AV → Fr → St → Prop} {nx nx' : Fr → St → Prop} (hK : ∀ v F S, K (some v) F S → K' (some v) F S) (hn : ∀ F S, nx F S → nx' F S) {F : Fr} {S : St} (h : stepK P o K nx F S) : stepK P o K' nx' F S := by
  obtain ⟨ix, dst, gd, op⟩ := o
  cases op with
  | k m =>
    simp only [stepK] at h ⊢
    refine ⟨h.1, ?_⟩
    have := h.2
    split at this
    · exact hn _ _ this
    · exact this.elim
  | panic x =>
    simp only [stepK] at h ⊢
    split at h
    · exact hK _ _ _ h
    · exact h.elim
  | call c as =>
    simp only [stepK] at h ⊢
    split at h
    · refine h.mono fun out S' ho => ?_
      cases out with
      | ok r => exact hn _ _ ho
      | pan v => exact hK _ _ _ ho
    · exact h.elim
theorem moK_mono {P : Program} {K K' : Option AV → Fr → St → Prop} (hK : ∀ o F S, K o F S → K' o F S) : ∀ (l : List MOp) {F : Fr} {S : St}, moK P l K F S → moK P l K' F S
  | [], _, _, h => hK _ _ _ h
  | o :: l, F, S, h => by
    have ih := fun F S => moK_mono (P := P) hK l (F := F) (S := S)
    have hs := fun F S => stepK_mono (P := P) (o := o) (fun v F S => hK (some v) F S) ih (F := F) (S := S)
    simp only [moK] at h ⊢
    unfold guardK at h ⊢
    split at h
    · exact hs _ _ h
    · split at h
      · exact ⟨fun e => hs _ _ (h.1 e), fun e => ih _ _ (h.2 e)⟩
      · exact ih _ _ h
      · exact h.elim
theorem plK_mono {P : Program} {K K' : Option AV → Fr → St → Prop} (hK : ∀ o F S, K o F S → K' o F S) {S0 : St} {Ls : List Nat} : ∀ (pl : MPl) {F : Fr} {S : St}, plK P K S0 Ls pl F S → plK P K' S0 Ls pl F S
  | .done, _, _, h => hK _ _ _ h
  | .one o lo nd r, F, S, h => by
    have hx : ∀ F' S', ((nd = true → InvS S0 Ls S') ∧ plK P K S0 Ls r F' S') → ((nd = true → InvS S0 Ls S') ∧ plK P K' S0 Ls r F' S') := fun F' S' h => ⟨h.1, plK_mono hK r h.2⟩
    have hs := fun F S => stepK_mono (P := P) (o := o) (fun v F S => hK (some v) F S) hx (F := F) (S := S)
    simp only [plK] at h ⊢
    unfold guardK at h ⊢
    split at h
    · exact ⟨h.1, hs _ _ h.2⟩
    · split at h
      · exact ⟨fun e => ⟨(h.1 e).1, hs _ _ (h.1 e).2⟩, fun e => hx _ _ (h.2 e)⟩
      · exact hx _ _ h
      · exact h.elim
  | .two o1 n1 r1 o2 n2 r2, F, S, h => by
    have key : ∀ (o : MOp) (nd : Bool) (r : MPl), (∀ F S, plK P K S0 Ls r F S → plK P K' S0 Ls r F S) → guardK o (stepK P o K fun F' S' => (nd = true → InvS S0 Ls S') ∧ plK P K S0 Ls r F' S') (fun F' S' => (nd = true → InvS S0 Ls S') ∧ plK P K S0 Ls r F' S') F S →
        guardK o (stepK P o K' fun F' S' => (nd = true → InvS S0 Ls S') ∧ plK P K' S0 Ls r F' S') (fun F' S' => (nd = true → InvS S0 Ls S') ∧ plK P K' S0 Ls r F' S') F S := by
      intro o nd r ih h
      have hx : ∀ F' S', ((nd = true → InvS S0 Ls S') ∧ plK P K S0 Ls r F' S') → ((nd = true → InvS S0 Ls S') ∧ plK P K' S0 Ls r F' S') := fun F' S' h => ⟨h.1, ih _ _ h.2⟩
      have hs := fun F S => stepK_mono (P := P) (o := o) (fun v F S => hK (some v) F S) hx (F := F) (S := S)
      unfold guardK at h ⊢
      split at h
      · exact hs _ _ h
      · split at h
        · exact ⟨fun e => hs _ _ (h.1 e), fun e => hx _ _ (h.2 e)⟩
        · exact hx _ _ h
        · exact h.elim
    exact ⟨key o1 n1 r1 (fun F S => plK_mono hK r1) h.1, key o2 n2 r2 (fun F S => plK_mono hK r2) h.2⟩
theorem mw_sound {P : Program} {n : Nat} {Q : EndQ} : ∀ (fu : Nat) {k : List MI} {D : Dfs} {F : Fr} {S : St}, mw P n Q fu k D F S → MRun P n k D F S Q
  | 0, _, _, _, _, h => h
  | fu + 1, k, D, F, S, h => by
    simp only [mw] at h
    split at h
    · exact .done h
    · exact .inBlock (mw_sound fu h)
    · exact h
    · split at h
      · exact .skip (mw_sound fu h)
      · exact .seq (mw_sound fu h)
      · exact .block (mw_sound fu h)
      · split at h
        · exact .exit ‹_› (mw_sound fu h)
        · exact h.elim
      · exact .ret h
      · exact h
      · exact .named h
      · split at h
        · exact .cond ‹_› (fun e => mw_sound fu (h.1 e)) (fun e => mw_sound fu (h.2 e))
        · exact h.elim
      · refine .reg (moK_mono (fun o F' S' hk => ?_) _ h)
        cases o with
        | none => exact mw_sound fu hk
        | some v => exact hk
      · refine .any h.1 (plK_mono (fun o F' S' hk => ?_) _ h.2)
        cases o with
        | none => exact mw_sound fu hk
        | some v => exact hk
      · exact h.elim
      · exact h.elim
      · refine .dfr (moK_mono (fun o F' S' hk => ?_) _ h)
        cases o with
        | none => obtain ⟨f, first, caps, h1, h2⟩ := hk; exact ⟨f, first, caps, h1, mw_sound fu h2⟩
        | some v => exact hk
def exK (P : Program) (n : Nat) (Q : EndQ) (fu : Nat) (D : Dfs) (F : Fr) (S : St) : Option (List MI) → Prop
  | some k' => mw P n Q fu k' D F S
  | none => False
def cdK (P : Program) (n : Nat) (Q : EndQ) (fu : Nat) (a b : MC) (k : List MI) (D : Dfs) (F : Fr) (S : St) : AV → Prop
  | .bool t => (t = true → mw P n Q fu (.code a :: k) D F S) ∧ (t = false → mw P n Q fu (.code b :: k) D F S)
  | _ => False
def dfK (P : Program) (n : Nat) (Q : EndQ) (fu : Nat) (k : List MI) (as : List AV) (D : Dfs) (F : Fr) (S : St) : AV → Prop
  | .fn f first caps => mw P n Q fu k ((f, first ++ as, caps) :: D) F S
  | _ => False
def KD (P : Program) (n : Nat) (Q : EndQ) (fu : Nat) (k : List MI) (c : Opd) (as : List Opd) (kp : List Nat) (D : Dfs) : Option AV → Fr → St → Prop := fun o F' S' => match o with
  | none => dfK P n Q fu k (as.map (Opd.ev F')) D (keepK kp F') S' (c.ev F')
  | some v => Q (some v) D F' S'
section eqs
variable {P : Program} {n : Nat} {Q : EndQ} {fu : Nat} {k : List MI} {D : Dfs} {F : Fr} {S : St}
theorem mw_nil : mw P n Q (fu + 1) [] D F S = Q none D F S := rfl
theorem mw_inBlock (i : Nat) : mw P n Q (fu + 1) (.inBlock i :: k) D F S = mw P n Q fu k D F S := rfl
theorem mw_inLoop (x : MC) : mw P n Q (fu + 1) (.inLoop x :: k) D F S = MRun P n (.inLoop x :: k) D F S Q := rfl
theorem mw_skip : mw P n Q (fu + 1) (.code .skip :: k) D F S = mw P n Q fu k D F S := rfl
theorem mw_seq (a b : MC) : mw P n Q (fu + 1) (.code (.seq a b) :: k) D F S = mw P n Q fu (.code a :: .code b :: k) D F S := rfl
theorem mw_block (i : Nat) (a : MC) : mw P n Q (fu + 1) (.code (.block i a) :: k) D F S = mw P n Q fu (.code a :: .inBlock i :: k) D F S := rfl
theorem mw_exit (i : Nat) : mw P n Q (fu + 1) (.code (.exit i) :: k) D F S = exK P n Q fu D F S (mexit i k) := rfl
theorem exK_some : exK P n Q fu D F S (some k) = mw P n Q fu k D F S := rfl
theorem mw_ret : mw P n Q (fu + 1) (.code .ret :: k) D F S = Q none D F S := rfl
theorem mw_loop (x : MC) : mw P n Q (fu + 1) (.code (.loop x) :: k) D F S = MRun P n (.code (.loop x) :: k) D F S Q := rfl
theorem mw_named (kp : List Nat) (x : MC) : mw P n Q (fu + 1) (.code (.named kp x) :: k) D F S = MRun P n (.code x :: k) D (keepK kp F) S Q := rfl
theorem mw_cond (c : Opd) (a b : MC) : mw P n Q (fu + 1) (.code (.cond c a b) :: k) D F S = cdK P n Q fu a b k D F S (c.ev F) := by
  simp only [mw, cdK]
theorem cdK_bool (a b : MC) (t : Bool) : cdK P n Q fu a b k D F S (.bool t) = ((t = true → mw P n Q fu (.code a :: k) D F S) ∧ (t = false → mw P n Q fu (.code b :: k) D F S)) := rfl
theorem cdK_true (a b : MC) : cdK P n Q fu a b k D F S (.bool true) = mw P n Q fu (.code a :: k) D F S := by simp [cdK]
theorem cdK_false (a b : MC) : cdK P n Q fu a b k D F S (.bool false) = mw P n Q fu (.code b :: k) D F S := by simp [cdK]
theorem mw_reg (l : List MOp) (kp : List Nat) : mw P n Q (fu + 1) (.code (.reg l kp) :: k) D F S = moK P l (KW P n Q fu k kp D) F S := rfl
theorem mw_any (pl : MPl) (pr kp : List Nat) : mw P n Q (fu + 1) (.code (.any pl pr kp) :: k) D F S = (QPin Q pl.dsts ∧ plK P (KW P n Q fu k kp D) S (protOf F pr) pl F S) := rfl
theorem mw_dfr (l : List MOp) (c : Opd) (as : List Opd) (kp : List Nat) : mw P n Q (fu + 1) (.code (.dfr l c as kp) :: k) D F S = moK P l (KD P n Q fu k c as kp D) F S := by
  simp only [mw]
  congr 1
  funext o F' S'
  cases o with
  | some v => rfl
  | none =>
    simp only [KD]
    cases c.ev F' <;> simp [dfK]
    exact ⟨fun ⟨_, _, _, ⟨h1, h2, h3⟩, h4⟩ => by subst h1 h2 h3; exact h4, fun h => ⟨_, _, _, ⟨rfl, rfl, rfl⟩, h⟩⟩
theorem KD_none (c : Opd) (as : List Opd) (kp : List Nat) : KD P n Q fu k c as kp D none F S = dfK P n Q fu k (as.map (Opd.ev F)) D (keepK kp F) S (c.ev F) := rfl
theorem KD_some (c : Opd) (as : List Opd) (kp : List Nat) (v : AV) : KD P n Q fu k c as kp D (some v) F S = Q (some v) D F S := rfl
theorem dfK_fn (as : List AV) (f : Fn) (first caps : List AV) : dfK P n Q fu k as D F S (.fn f first caps) = mw P n Q fu k ((f, first ++ as, caps) :: D) F S := rfl
theorem KW_none (kp : List Nat) : KW P n Q fu k kp D none F S = mw P n Q fu k D (keepK kp F) S := rfl
theorem KW_some (kp : List Nat) (v : AV) : KW P n Q fu k kp D (some v) F S = Q (some v) D F S := rfl
theorem mexit_inBlock (i j : Nat) : mexit i (.inBlock j :: k) = if j = i then some k else mexit i k := rfl
theorem mexit_code (i : Nat) (c : MC) : mexit i (.code c :: k) = mexit i k := rfl
theorem mexit_inLoop (i : Nat) (c : MC) : mexit i (.inLoop c :: k) = mexit i k := rfl
end eqs
def CallK (P : Program) (f : FuncId) (as : List AV) (d : Option Nat) (l : List MOp) (K : Option AV → Fr → St → Prop) (F : Fr) (S : St) : Prop :=
  MCalls P f as S (fun out S' => match out with
    | .ok r => moK P l K (putF d r F) S'
    | .pan v => K (some v) F S')
def evK (P : Program) (l : List MOp) (d : Option Nat) (K : Option AV → Fr → St → Prop) (F : Fr) : Option (AV × St) → Prop
  | some (r, S') => moK P l K (putF d r F) S'
  | none => False
def pnK (K : Option AV → Fr → St → Prop) (F : Fr) (S : St) : AV → Prop
  | .ifc t v => K (some (.ifc t v)) F S
  | _ => False
def clK (P : Program) (as : List Opd) (d : Option Nat) (l : List MOp) (K : Option AV → Fr → St → Prop) (F : Fr) (S : St) : AV → Prop
  | .fn (.func f) first caps => CallK P f (first ++ as.map (Opd.ev F) ++ caps) d l K F S
  | _ => False
def gdK (P : Program) (ix : Nat) (d : Option Nat) (op : MX) (t : Nat) (b : Bool) (l : List MOp) (K : Option AV → Fr → St → Prop) (F : Fr) (S : St) : AV → Prop
  | .bool c => (c = b → moK P (⟨ix, d, none, op⟩ :: l) K ((t, .bool b) :: F) S) ∧ (c = !b → moK P l K (putF d (.tup []) ((t, .bool (!b)) :: F)) S)
  | .tup [] => moK P l K (putF d (.tup []) F) S
  | _ => False
section eqs2
variable {P : Program} {K : Option AV → Fr → St → Prop} {F : Fr} {S : St} {l : List MOp} {ix : Nat} {d : Option Nat}
theorem moK_nil : moK P [] K F S = K none F S := rfl
theorem moK_k (m : MK) : moK P (⟨ix, d, none, .k m⟩ :: l) K F S = (m.ob F S ∧ evK P l d K F (m.ev F S)) := by
  show (m.ob F S ∧ _) = _
  congr 1
theorem evK_some (r : AV) (S' : St) : evK P l d K F (some (r, S')) = moK P l K (putF d r F) S' := rfl
theorem moK_panic (x : Opd) : moK P (⟨ix, d, none, .panic x⟩ :: l) K F S = pnK K F S (x.ev F) := rfl
theorem pnK_ifc (t : TypeId) (v : AV) : pnK K F S (.ifc t v) = K (some (.ifc t v)) F S := rfl
theorem moK_call (c : Opd) (as : List Opd) : moK P (⟨ix, d, none, .call c as⟩ :: l) K F S = clK P as d l K F S (c.ev F) := rfl
theorem clK_fn (f : FuncId) (first caps : List AV) (as : List Opd) : clK P as d l K F S (.fn (.func f) first caps) = CallK P f (first ++ as.map (Opd.ev F) ++ caps) d l K F S := rfl
theorem moK_guard (t : Nat) (b : Bool) (op : MX) : moK P (⟨ix, d, some (t, b), op⟩ :: l) K F S = gdK P ix d op t b l K F S (F.get t) := by
  cases op <;> rfl
theorem gdK_bool (t : Nat) (b c : Bool) (op : MX) : gdK P ix d op t b l K F S (.bool c) = ((c = b → moK P (⟨ix, d, none, op⟩ :: l) K ((t, .bool b) :: F) S) ∧ (c = !b → moK P l K (putF d (.tup []) ((t, .bool (!b)) :: F)) S)) := rfl
theorem gdK_same (t : Nat) (b : Bool) (op : MX) : gdK P ix d op t b l K F S (.bool b) = moK P (⟨ix, d, none, op⟩ :: l) K ((t, .bool b) :: F) S := by simp [gdK]
theorem gdK_tt (t : Nat) (op : MX) : gdK P ix d op t true l K F S (.bool true) = moK P (⟨ix, d, none, op⟩ :: l) K ((t, .bool true) :: F) S := gdK_same t true op
theorem gdK_ff (t : Nat) (op : MX) : gdK P ix d op t false l K F S (.bool false) = moK P (⟨ix, d, none, op⟩ :: l) K ((t, .bool false) :: F) S := gdK_same t false op
theorem gdK_tf (t : Nat) (op : MX) : gdK P ix d op t true l K F S (.bool false) = moK P l K (putF d (.tup []) ((t, .bool false) :: F)) S := by simp [gdK]
theorem gdK_ft (t : Nat) (op : MX) : gdK P ix d op t false l K F S (.bool true) = moK P l K (putF d (.tup []) ((t, .bool true) :: F)) S := by simp [gdK]
theorem gdK_tup (t : Nat) (b : Bool) (op : MX) : gdK P ix d op t b l K F S (.tup []) = moK P l K (putF d (.tup []) F) S := rfl
theorem putF_some (t : Nat) (v : AV) : putF (some t) v F = (t, v) :: F := rfl
theorem putF_none (v : AV) : putF none v F = F := rfl
theorem lookup_if (t u : Nat) (v : AV) (F : Fr) : List.lookup t ((u, v) :: F) = if t = u then some v else List.lookup t F := by
  rw [List.lookup_cons]
  by_cases h : t = u
  · subst h; simp
  · have : (t == u) = false := by simpa using h
    simp [this, h]
theorem get_if (l m n nt : Nat) (cs : List AV) (ob : List (Nat × List AV)) (live : List Nat) (gl : List (Nat × List AV)) : St.get ⟨n, (m, cs) :: ob, nt, live, gl⟩ l = if l = m then some cs else St.get ⟨n, ob, nt, live, gl⟩ l := by
  simp only [St.get, List.lookup_cons]
  by_cases h : l = m
  · subst h; simp
  · have : (l == m) = false := by simpa using h
    simp [this, h]
theorem set_eq (l n nt : Nat) (cs : List AV) (ob : List (Nat × List AV)) (live : List Nat) (gl : List (Nat × List AV)) : St.set ⟨n, ob, nt, live, gl⟩ l cs = ⟨n, (l, cs) :: ob, nt, live, gl⟩ := rfl
end eqs2
def PCallK (P : Program) (f : FuncId) (as : List AV) (d : Option Nat) (nd : Bool) (r : MPl) (K : Option AV → Fr → St → Prop) (S0 : St) (Ls : List Nat) (F : Fr) (S : St) : Prop :=
  MCalls P f as S (fun out S' => match out with
    | .ok v => (nd = true → InvS S0 Ls S') ∧ plK P K S0 Ls r (putF d v F) S'
    | .pan v => K (some v) F S')
def pevK (P : Program) (d : Option Nat) (nd : Bool) (r : MPl) (K : Option AV → Fr → St → Prop) (S0 : St) (Ls : List Nat) (F : Fr) : Option (AV × St) → Prop
  | some (v, S') => (nd = true → InvS S0 Ls S') ∧ plK P K S0 Ls r (putF d v F) S'
  | none => False
def pclK (P : Program) (as : List Opd) (d : Option Nat) (nd : Bool) (r : MPl) (K : Option AV → Fr → St → Prop) (S0 : St) (Ls : List Nat) (F : Fr) (S : St) : AV → Prop
  | .fn (.func f) first caps => PCallK P f (first ++ as.map (Opd.ev F) ++ caps) d nd r K S0 Ls F S
  | _ => False
def pgdK (P : Program) (ix : Nat) (d : Option Nat) (op : MX) (t : Nat) (b lo nd : Bool) (r : MPl) (K : Option AV → Fr → St → Prop) (S0 : St) (Ls : List Nat) (F : Fr) (S : St) : AV → Prop
  | .bool c => (c = b → plK P K S0 Ls (.one ⟨ix, d, none, op⟩ lo nd r) ((t, .bool b) :: F) S) ∧ (c = !b → (nd = true → InvS S0 Ls S) ∧ plK P K S0 Ls r (putF d (.tup []) ((t, .bool (!b)) :: F)) S)
  | .tup [] => (nd = true → InvS S0 Ls S) ∧ plK P K S0 Ls r (putF d (.tup []) F) S
  | _ => False
section eqs3
variable {P : Program} {K : Option AV → Fr → St → Prop} {F : Fr} {S S0 : St} {Ls : List Nat} {ix : Nat} {d : Option Nat} {lo nd : Bool} {r : MPl}
theorem plK_done : plK P K S0 Ls .done F S = K none F S := rfl
theorem plK_k (m : MK) : plK P K S0 Ls (.one ⟨ix, d, none, .k m⟩ lo nd r) F S = ((lo = true → Shel Ls ⟨ix, d, none, .k m⟩ F ∧ InvS S0 Ls S) ∧ m.ob F S ∧ pevK P d nd r K S0 Ls F (m.ev F S)) := by
  show (_ ∧ m.ob F S ∧ _) = _
  congr 1
theorem pevK_some (v : AV) (S' : St) : pevK P d nd r K S0 Ls F (some (v, S')) = ((nd = true → InvS S0 Ls S') ∧ plK P K S0 Ls r (putF d v F) S') := rfl
theorem plK_call (c : Opd) (as : List Opd) : plK P K S0 Ls (.one ⟨ix, d, none, .call c as⟩ lo nd r) F S = ((lo = true → Shel Ls ⟨ix, d, none, .call c as⟩ F ∧ InvS S0 Ls S) ∧ pclK P as d nd r K S0 Ls F S (c.ev F)) := rfl
theorem pclK_fn (f : FuncId) (first caps : List AV) (as : List Opd) : pclK P as d nd r K S0 Ls F S (.fn (.func f) first caps) = PCallK P f (first ++ as.map (Opd.ev F) ++ caps) d nd r K S0 Ls F S := rfl
theorem plK_guard (t : Nat) (b : Bool) (op : MX) : plK P K S0 Ls (.one ⟨ix, d, some (t, b), op⟩ lo nd r) F S = pgdK P ix d op t b lo nd r K S0 Ls F S (F.get t) := by
  cases op <;> rfl
theorem pgdK_bool (t : Nat) (b c : Bool) (op : MX) : pgdK P ix d op t b lo nd r K S0 Ls F S (.bool c) = ((c = b → plK P K S0 Ls (.one ⟨ix, d, none, op⟩ lo nd r) ((t, .bool b) :: F) S) ∧ (c = !b → (nd = true → InvS S0 Ls S) ∧ plK P K S0 Ls r (putF d (.tup []) ((t, .bool (!b)) :: F)) S)) := rfl
theorem pgdK_tt (t : Nat) (op : MX) : pgdK P ix d op t true lo nd r K S0 Ls F S (.bool true) = plK P K S0 Ls (.one ⟨ix, d, none, op⟩ lo nd r) ((t, .bool true) :: F) S := by simp [pgdK]
theorem pgdK_ff (t : Nat) (op : MX) : pgdK P ix d op t false lo nd r K S0 Ls F S (.bool false) = plK P K S0 Ls (.one ⟨ix, d, none, op⟩ lo nd r) ((t, .bool false) :: F) S := by simp [pgdK]
theorem pgdK_tf (t : Nat) (op : MX) : pgdK P ix d op t true lo nd r K S0 Ls F S (.bool false) = ((nd = true → InvS S0 Ls S) ∧ plK P K S0 Ls r (putF d (.tup []) ((t, .bool false) :: F)) S) := by simp [pgdK]
theorem pgdK_ft (t : Nat) (op : MX) : pgdK P ix d op t false lo nd r K S0 Ls F S (.bool true) = ((nd = true → InvS S0 Ls S) ∧ plK P K S0 Ls r (putF d (.tup []) ((t, .bool true) :: F)) S) := by simp [pgdK]
theorem pgdK_tup (t : Nat) (b : Bool) (op : MX) : pgdK P ix d op t b lo nd r K S0 Ls F S (.tup []) = ((nd = true → InvS S0 Ls S) ∧ plK P K S0 Ls r (putF d (.tup []) F) S) := rfl
theorem plK_two (o1 : MOp) (n1 : Bool) (r1 : MPl) (o2 : MOp) (n2 : Bool) (r2 : MPl) : plK P K S0 Ls (.two o1 n1 r1 o2 n2 r2) F S = (plK P K S0 Ls (.one o1 false n1 r1) F S ∧ plK P K S0 Ls (.one o2 false n2 r2) F S) := by
  have key : ∀ (o : MOp) (nd : Bool) (r : MPl), plK P K S0 Ls (.one o false nd r) F S = guardK o (stepK P o K fun F' S' => (nd = true → InvS S0 Ls S') ∧ plK P K S0 Ls r F' S') (fun F' S' => (nd = true → InvS S0 Ls S') ∧ plK P K S0 Ls r F' S') F S := by
    intro o nd r
    simp only [plK, Bool.false_eq_true, false_implies, true_and]
  rw [key, key]
  rfl
theorem shel_load (n : Nat) (ag : Bool) (p : Opd) (F : Fr) : Shel Ls ⟨ix, d, none, .k (.load n ag p)⟩ F = (match p.ev F with
    | .ptr l _ => l ∈ Ls
    | _ => True) := rfl
theorem InvS_refl : InvS S Ls S = True := eq_true ⟨rfl, fun _ _ => rfl⟩
theorem InvS_nil : InvS S0 [] S = (S.gl = S0.gl) := by simp [InvS]
theorem InvS_cons (l : Nat) : InvS S0 (l :: Ls) S = (S.get l = S0.get l ∧ InvS S0 Ls S) := by
  simp only [InvS, List.forall_mem_cons, eq_iff_iff]
  exact ⟨fun h => ⟨h.2.1, h.1, h.2.2⟩, fun h => ⟨h.2.1, h.1, h.2.2⟩⟩
theorem protOf_nil : protOf F [] = [] := rfl
theorem protOf_cons (t : Nat) (ts : List Nat) : protOf F (t :: ts) = (match F.get t with
    | .ptr l _ => l :: protOf F ts
    | _ => protOf F ts) := rfl
theorem QPin_endQ (rs : List RV) (K : Out → St → Prop) (ds : List Nat) : QPin (endQ rs K) ds = True := eq_true fun v D F F' S _ h => h
end eqs3
theorem PCallK.of {P : Program} {f : FuncId} {as : List AV} {d : Option Nat} {nd : Bool} {r : MPl} {K : Option AV → Fr → St → Prop} {S0 : St} {Ls : List Nat} {F : Fr} {S : St} {R : Out → St → Prop} (h : MCalls P f as S R)
    (hk : ∀ v S', R (.ok v) S' → (nd = true → InvS S0 Ls S') ∧ plK P K S0 Ls r (putF d v F) S') (hp : ∀ v S', R (.pan v) S' → K (some v) F S') : PCallK P f as d nd r K S0 Ls F S :=
  h.mono fun o S' hr => by
    cases o with
    | ok r => exact hk r S' hr
    | pan v => exact hp v S' hr
theorem CallK.of {P : Program} {f : FuncId} {as : List AV} {d : Option Nat} {l : List MOp} {K : Option AV → Fr → St → Prop} {F : Fr} {S : St} {R : Out → St → Prop} (h : MCalls P f as S R) (hk : ∀ r S', R (.ok r) S' → moK P l K (putF d r F) S')
    (hp : ∀ v S', R (.pan v) S' → K (some v) F S') : CallK P f as d l K F S :=
  h.mono fun o S' hr => by
    cases o with
    | ok r => exact hk r S' hr
    | pan v => exact hp v S' hr
def St.own (S : St) : St := { S with nt := S.nt + 1, live := S.nt :: S.live }
theorem MCalls.liftTok {P : Program} {f : FuncId} {as : List AV} {S : St} {k : Nat} {ys : List AV} (h : MCalls P f as (.none S.gl) fun o S' => ∃ t, o = .ok (.sl k ys (.tok t)) ∧ t ∈ S'.live) (ha : ∀ a ∈ as, NoRef a) (hg : ∀ g cs, S.gl.lookup g = some cs → ∀ c ∈ cs, NoRef c)
    (hys : ∀ x ∈ ys, ∀ c ∈ x.cells, NoRef c) : MCalls P f as S fun o S' => o = .ok (.sl k ys (.tok S.nt)) ∧ S' = S.own := by
  intro wb G w vs hS hv
  have hst := hS.start hg
  have hv0 : VRels ⟨G.φ, fun _ => Option.none, fun _ => Option.none, w.heap.size⟩ as vs := ⟨hv.len, fun m c v e1 e2 => ha c (List.mem_of_getElem? e1) G _ v (fun _ _ _ e => e) (hv.rel m c v e1 e2)⟩
  refine (h _ _ w vs hst hv0).mono fun e w' ⟨G', S', h1, h2, h3⟩ => ?_
  have hφ : ∀ r o v, G.φ r o = some v → G'.φ r o = some v := fun r o v e => h1.φ r o v e
  have hfr := hS.frame h2 hφ
  have hnone : G.τ S.nt = none := by
    cases e' : G.τ S.nt with
    | none => rfl
    | some x => have := (hS.tdom _ _ e').1; omega
  cases e with
  | panicked ch => obtain ⟨v, av, _, _, t, h6, _⟩ := h3; cases h6
  | outgrown => exact h3.elim
  | returned v =>
    obtain ⟨r, h4, t, h5, ht⟩ := h3
    injection h5 with h5
    subst h5
    obtain ⟨r, e, z, hτ, hreg⟩ := h2.tok t ht
    let G2 : Gh := ⟨G'.φ, G.σ, upd G.τ S.nt (some (r, e, z)), G.β⟩
    have hle2 : (⟨G'.φ, G.σ, G.τ, G.β⟩ : Gh).le G2 := ⟨fun _ _ _ e => e, fun _ _ e => e, fun t' x e' => by
      have : t' ≠ S.nt := fun e2 => by subst e2; simp only at e'; rw [hnone] at e'; cases e'
      simp [G2, upd, this]; exact e', rfl⟩
    have hG2 : ∀ t', t' ≠ S.nt → G2.τ t' = G.τ t' := fun t' hne => by simp [G2, upd, hne]
    have hblk : e < z → w.heap.size ≤ r := fun hez => (hreg e (Nat.le_refl _) hez).1
    refine ⟨G2, S.own, ⟨hφ, fun _ _ e => e, fun t' x e' => hle2.τ _ _ e', rfl⟩, ?_, _, ?_, rfl, rfl⟩
    · refine { prom := hfr.prom, apart := hfr.apart, obj := ?_, inj := hfr.inj, dom := hfr.dom, tok := ?_, tdom := ?_, tdis := ?_, base := hfr.base, pold := hfr.pold, still := hfr.still, beta := hfr.beta, glob := ?_, bld := ?_, bldu := hfr.bldu }
      rotate_right
      · intro l s hl
        obtain ⟨rb, hrb, hbb⟩ := hS.bld l s hl
        refine ⟨rb, hrb, hbb.to (fun hlt => h2.base.2 rb hlt) fun g hg _ _ hal => ⟨h2.base.2 g hg, fun o => ?_, hal.2.1, fun t' hm' e' z' et => ?_⟩⟩
        · cases e2 : G'.φ g o with
          | none => first | rfl | exact e2
          | some v => have := h2.pold g o v hg e2; simp only at this; rw [hal.1 o] at this; cases this
        · by_cases hts : t' = S.nt
          · subst hts
            simp [G2] at et
            obtain ⟨e1, e2, e3⟩ := et
            subst e1 e2 e3
            rcases Nat.lt_or_ge e z with hez | hez
            · have := hblk hez
              omega
            · exact hez
          · rw [hG2 t' hts] at et
            have hm2 : t' ∈ S.live := by rcases List.mem_cons.1 hm' with e1 | e1; exact absurd e1 hts; exact e1
            exact hal.2.2 t' hm2 e' z' et
      · intro l cs hl hnb
        obtain ⟨r', hr', hm⟩ := hfr.obj l cs hl hnb
        exact ⟨r', hr', fun m c hmc => by obtain ⟨v, a, b, c', d⟩ := hm m c hmc; exact ⟨v, a, b.mono hle2, c', d⟩⟩
      · intro t' hm
        by_cases et : t' = S.nt
        · subst et
          refine ⟨r, e, z, by simp [G2], fun o q1 q2 => ?_⟩
          obtain ⟨q3, _, q5, q6, q7⟩ := hreg o q1 q2
          refine ⟨by have := hS.base.1; have : w.heap.size ≤ r := q3; omega, fun l e' => ?_, q5, q6, q7⟩
          have := (hS.dom l r e').2.2
          have : w.heap.size ≤ r := q3
          omega
        · have hm' : t' ∈ S.live := by rcases List.mem_cons.1 hm with e1 | e1; exact absurd e1 et; exact e1
          obtain ⟨r', a, z', q1, q2⟩ := hfr.tok t' hm'
          exact ⟨r', a, z', hle2.τ _ _ q1, q2⟩
      · intro t' x e'
        by_cases et : t' = S.nt
        · subst et
          simp [G2] at e'
          subst e'
          refine ⟨by simp [St.own], fun hez => ?_⟩
          have := (h2.tdom t _ hτ).2 hez
          exact this
        · rw [hG2 t' et] at e'
          have := hfr.tdom t' x e'
          exact ⟨by simp [St.own]; omega, this.2⟩
      · intro t1 m1 t2 m2 hne r1 a1 z1 a2 z2 e1 e2 o q1 q2 q3 q4
        by_cases et1 : t1 = S.nt <;> by_cases et2 : t2 = S.nt
        · exact hne (et1.trans et2.symm)
        · subst et1
          simp [G2] at e1
          obtain ⟨rfl, rfl, rfl⟩ := e1
          rw [hG2 t2 et2] at e2
          have h7 := (hS.tdom t2 _ e2).2 (by show a2 < z2; omega)
          have h8 := hblk (by omega)
          simp only at h7
          omega
        · subst et2
          simp [G2] at e2
          obtain ⟨rfl, rfl, rfl⟩ := e2
          rw [hG2 t1 et1] at e1
          have h7 := (hS.tdom t1 _ e1).2 (by show a1 < z1; omega)
          have h8 := hblk (by omega)
          simp only at h7
          omega
        · have m1' : t1 ∈ S.live := by rcases List.mem_cons.1 m1 with e3 | e3; exact absurd e3 et1; exact e3
          have m2' : t2 ∈ S.live := by rcases List.mem_cons.1 m2 with e3 | e3; exact absurd e3 et2; exact e3
          rw [hG2 t1 et1] at e1
          rw [hG2 t2 et2] at e2
          exact hS.tdis t1 m1' t2 m2' hne r1 a1 z1 a2 z2 e1 e2 o q1 q2 q3 q4
      · intro g cs hgl m c hmc
        obtain ⟨v, a, b, d⟩ := hfr.glob g cs hgl m c hmc
        exact ⟨v, a, b.mono hle2, d⟩
    · have hu := h4.unk
      have hn := (NoRef.sl (t := .unk) hys (.inl rfl)) G' G2 v (fun _ _ _ e => e) hu
      cases h4 with
      | slnil => exact .slnil _ _ _
      | sl f hk hp ho hv' hc htk =>
        cases hn with
        | slnil => exact .slnil _ _ _
        | sl f' hk' hp' ho' hv2 hc' _ =>
          refine .sl f' hk' hp' ho' hv2 hc' ?_
          have e1 : G'.τ t = some _ := htk
          rw [hτ] at e1
          injection e1 with e1
          show G2.τ S.nt = _
          simp only [G2, upd_same]
          rw [← e1]
end Go.V
