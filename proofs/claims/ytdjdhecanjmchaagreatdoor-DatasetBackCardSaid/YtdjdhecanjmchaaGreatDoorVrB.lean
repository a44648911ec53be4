/- The by-value layer, part seventeen: contracts of two kinds, and their use at a call. Over any program. -/
import Derived.Test.YtdjdhecanjmchaaGreatDoorVpB
import Derived.Sort.Grow
import Derived.Deep.Draws
set_option linter.unusedSimpArgs false
set_option linter.unusedVariables false
namespace Go.V
open Go
mutual
def AV.fg : AV → AV
  | .sl k xs _ => .sl k (AV.fgs xs) .unk
  | .agg cs => .agg (AV.fgs cs)
  | .tup vs => .tup (AV.fgs vs)
  | .ifc t v => .ifc t v.fg
  | a => a
def AV.fgs : List AV → List AV
  | [] => []
  | x :: xs => x.fg :: AV.fgs xs
end
theorem fgs_eq : ∀ xs : List AV, AV.fgs xs = xs.map AV.fg
  | [] => rfl
  | x :: xs => by rw [AV.fgs, List.map_cons, fgs_eq xs]
theorem fg_cells (x : AV) : x.fg.cells = x.cells.map AV.fg := by
  cases x <;> simp [AV.fg, AV.cells, fgs_eq]
theorem flat_fg (xs : List AV) : flat (xs.map AV.fg) = (flat xs).map AV.fg := by
  induction xs with
  | nil => rfl
  | cons x xs ih => simp [ih, fg_cells]
theorem VRel.fg {G : Gh} {a : AV} {v : Value} (h : VRel G a v) : VRel G a.fg v := by
  induction h with
  | junk v => exact .junk v
  | bool b => exact .bool b
  | int k n => exact .int k n
  | str s => exact .str s
  | nilp => exact .nilp
  | ptr e => exact .ptr e
  | gp g o => exact .gp g o
  | eptr f hk hp ho hv ih => exact .eptr f hk hp ho hv
  | slnil k t a => exact .slnil k .unk a
  | @sl k xs t r b cap f hk hp ho hv hc ht ih =>
    have hx : AV.fg (.sl k xs t) = .sl k (xs.map AV.fg) .unk := by simp [AV.fg, fgs_eq]
    have hfl : ∀ (m : Nat) (c : AV), (flat (xs.map AV.fg))[m]? = some c → ∃ c', (flat xs)[m]? = some c' ∧ c = c'.fg := fun m c e => by
      rw [flat_fg, List.getElem?_map] at e
      obtain ⟨c', h1, h2⟩ := Option.map_eq_some_iff.1 e
      exact ⟨c', h1, h2.symm⟩
    rw [hx]
    have := VRel.sl (G := G) (k := k) (xs := xs.map AV.fg) (t := .unk) (r := r) (b := b) (cap := cap) f (fun x hx => by
        obtain ⟨y, hy, rfl⟩ := List.mem_map.1 hx
        rw [fg_cells]; simpa using hk y hy) (fun m c e => by obtain ⟨c', h1, _⟩ := hfl m c e; exact hp m c' h1) (fun m c e => by obtain ⟨c', h1, _⟩ := hfl m c e; exact ho m c' h1)
      (fun m c e => by obtain ⟨c', h1, rfl⟩ := hfl m c e; exact ih m c' h1) (by simpa using hc) trivial
    simpa using this
  | fn f h1 h2 hv hw => exact .fn f h1 h2 hv hw
  | nilf => exact .nilf
  | ifc t h ih => exact .ifc t ih
  | nili => exact .nili
  | agg hl ho hv ih =>
    simp only [AV.fg, fgs_eq]
    refine .agg (by simpa using hl) ho fun m c v e1 e2 => ?_
    rw [List.getElem?_map] at e1
    obtain ⟨c', h1, rfl⟩ := Option.map_eq_some_iff.1 e1
    exact ih m c' v h1 e2
  | tup hl hv ih =>
    simp only [AV.fg, fgs_eq]
    refine .tup (by simpa using hl) fun m c v e1 e2 => ?_
    rw [List.getElem?_map] at e1
    obtain ⟨c', h1, rfl⟩ := Option.map_eq_some_iff.1 e1
    exact ih m c' v h1 e2
theorem VRels.fg {G : Gh} {as : List AV} {vs : List Value} (h : VRels G as vs) : VRels G (as.map AV.fg) vs :=
  ⟨by simpa using h.len, fun m c v e1 e2 => by
    rw [List.getElem?_map] at e1
    obtain ⟨c', h1, rfl⟩ := Option.map_eq_some_iff.1 e1
    exact (h.rel m c' v h1 e2).fg⟩
def AV.Le (a a' : AV) : Prop := ∀ G v, VRel G a v → VRel G a' v
theorem AV.Le.refl (a : AV) : a.Le a := fun _ _ h => h
theorem AV.Le.fg (a : AV) : a.Le a.fg := fun _ _ h => h.fg
theorem AV.Le.sl {k : Nat} {xs ys : List AV} (t : STok) (h : ys = xs.map AV.fg) : (AV.sl k xs t).Le (.sl k ys t) := fun G v hv => by
  subst h
  cases hv with
  | slnil => exact .slnil _ _ _
  | sl f hk hp ho hv hc ht =>
    have hfl : ∀ (m : Nat) (c : AV), (flat (xs.map AV.fg))[m]? = some c → ∃ c', (flat xs)[m]? = some c' ∧ c = c'.fg := fun m c e => by
      rw [flat_fg, List.getElem?_map] at e
      obtain ⟨c', h1, h2⟩ := Option.map_eq_some_iff.1 e
      exact ⟨c', h1, h2.symm⟩
    rename_i r b cap
    have := VRel.sl (G := G) (k := k) (xs := xs.map AV.fg) (t := t) (r := r) (b := b) (cap := cap) f (fun x hx => by
        obtain ⟨y, hy, rfl⟩ := List.mem_map.1 hx
        rw [fg_cells]; simpa using hk y hy) (fun m c e => by obtain ⟨c', h1, _⟩ := hfl m c e; exact hp m c' h1) (fun m c e => by obtain ⟨c', h1, _⟩ := hfl m c e; exact ho m c' h1)
      (fun m c e => by obtain ⟨c', h1, rfl⟩ := hfl m c e; exact (hv m c' h1).fg) (by simpa using hc) (by simpa using ht)
    simpa using this
theorem MRun.imp {P : Program} {n : Nat} {k : List MI} {D : Dfs} {F F' : Fr} {S : St} {Q : EndQ} (h : MRun P n k D F' S Q) (hF : ∀ t v', F'.lookup t = some v' → ∃ v, F.lookup t = some v ∧ v.Le v') : MRun P n k D F S Q := by
  intro wb G w a b cs todo hf hR
  refine h wb G w a b cs todo hf ⟨hR.st, ⟨fun t v e => ?_⟩, hR.sz, hR.df⟩
  obtain ⟨v0, h1, h2⟩ := hF t v e
  exact ⟨(hR.fr.rel t v0 h1).1, h2 G _ (hR.fr.rel t v0 h1).2⟩
theorem MCalls.fgArgs {P : Program} {f : FuncId} {as : List AV} {S : St} {K : Out → St → Prop} (h : MCalls P f (as.map AV.fg) S K) : MCalls P f as S K :=
  fun wb G w vs hS hv => h wb G w vs hS hv.fg
theorem MCalls.fgRes {P : Program} {f : FuncId} {as : List AV} {S : St} {K K' : Out → St → Prop} (h : MCalls P f as S K') (hk : ∀ r S', K' (.ok r) S' → K (.ok r.fg) S') (hp : ∀ r S', K' (.pan r) S' → K (.pan r.fg) S') : MCalls P f as S K := by
  intro wb G w vs hS hv
  refine (h wb G w vs hS hv).mono fun e w' ⟨G', S', h1, h2, h3⟩ => ⟨G', S', h1, h2, ?_⟩
  cases e with
  | returned v => obtain ⟨r, h4, h5⟩ := h3; exact ⟨_, h4.fg, hk _ _ h5⟩
  | panicked ch => obtain ⟨v, av, h4, h5, h6⟩ := h3; exact ⟨v, _, h4, h5.fg, hp _ _ h6⟩
  | outgrown => exact h3
def GlNR (gl : List (Nat × List AV)) : Prop := ∀ g cs, gl.lookup g = some cs → ∀ c ∈ cs, NoRef c
def Out.noRef : Out → Prop
  | .ok r => NoRef r
  | .pan r => NoRef r
theorem noRef_ok (r : AV) : Out.noRef (.ok r) = NoRef r := rfl
theorem noRef_pan (r : AV) : Out.noRef (.pan r) = NoRef r := rfl
structure Pure (P : Program) (gl : List (Nat × List AV)) (f : FuncId) (args : List AV) (o : Out) : Prop where
  call : MCalls P f (args.map AV.fg) (.none gl) fun o' _ => o' = o
  na : ∀ a ∈ args.map AV.fg, NoRef a
  nr : o.noRef
structure Toks (P : Program) (gl : List (Nat × List AV)) (f : FuncId) (args : List AV) (k : Nat) (ys : List AV) : Prop where
  call : MCalls P f (args.map AV.fg) (.none gl) fun o S' => ∃ t, o = .ok (.sl k ys (.tok t)) ∧ t ∈ S'.live
  na : ∀ a ∈ args.map AV.fg, NoRef a
  nr : ∀ x ∈ ys, ∀ c ∈ x.cells, NoRef c
theorem Pure.conv {P : Program} {gl : List (Nat × List AV)} {f : FuncId} {as as' : List AV} {o : Out} (h : Pure P gl f as o) (he : as'.map AV.fg = as.map AV.fg) : Pure P gl f as' o := ⟨by rw [he]; exact h.call, by rw [he]; exact h.na, h.nr⟩
theorem Toks.conv {P : Program} {gl : List (Nat × List AV)} {f : FuncId} {as as' : List AV} {k : Nat} {ys : List AV} (h : Toks P gl f as k ys) (he : as'.map AV.fg = as.map AV.fg) : Toks P gl f as' k ys := ⟨by rw [he]; exact h.call, by rw [he]; exact h.na, h.nr⟩
theorem Pure.at {P : Program} {gl : List (Nat × List AV)} {f : FuncId} {as : List AV} {o : Out} (h : Pure P gl f as o) {S : St} (hgl : S.gl = gl) (hg : GlNR gl) : MCalls P f as S fun o' S' => S' = S ∧ o' = o := by
  subst hgl
  refine MCalls.fgArgs (MCalls.lift (K := fun o' => o' = o) h.call h.na hg (fun r e => ?_) (fun r e => ?_))
  · subst e; exact h.nr
  · subst e; exact h.nr
theorem Toks.at {P : Program} {gl : List (Nat × List AV)} {f : FuncId} {as : List AV} {k : Nat} {ys : List AV} (h : Toks P gl f as k ys) {S : St} (hgl : S.gl = gl) (hg : GlNR gl) : MCalls P f as S fun o S' => o = .ok (.sl k ys (.tok S.nt)) ∧ S' = S.own := by
  subst hgl
  exact MCalls.fgArgs (MCalls.liftTok h.call h.na hg h.nr)
theorem Toks.pure {P : Program} {gl : List (Nat × List AV)} {f : FuncId} {as : List AV} {k : Nat} {ys : List AV} (h : Toks P gl f as k ys) (hy : ys.map AV.fg = ys) : Pure P gl f as (.ok (.sl k ys .unk)) where
  call := h.call.fgRes (fun r S' ⟨t, e, _⟩ => by injection e with e; subst e; simp [AV.fg, fgs_eq, hy]) (fun r S' ⟨t, e, _⟩ => by cases e)
  na := h.na
  nr := .sl h.nr (.inl rfl)
section use
variable {P : Program} {gl : List (Nat × List AV)} {f : FuncId} {as : List AV} {d : Option Nat} {l : List MOp} {K : Option AV → Fr → St → Prop} {F : Fr} {S S0 : St} {Ls : List Nat} {nd : Bool} {p : MPl}
theorem CallK.pure {r : AV} (h : Pure P gl f as (.ok r)) (hg : GlNR gl) (hgl : S.gl = gl) (k : moK P l K (putF d r F) S) : CallK P f as d l K F S :=
  CallK.of (h.at hgl hg) (fun r' S' ⟨e1, e2⟩ => by subst e1; injection e2 with e2; subst e2; exact k) (fun v S' ⟨_, e2⟩ => by cases e2)
theorem CallK.pan {r : AV} (h : Pure P gl f as (.pan r)) (hg : GlNR gl) (hgl : S.gl = gl) (k : K (some r) F S) : CallK P f as d l K F S :=
  CallK.of (h.at hgl hg) (fun r' S' ⟨_, e2⟩ => by cases e2) (fun v S' ⟨e1, e2⟩ => by subst e1; injection e2 with e2; subst e2; exact k)
theorem CallK.toks {k : Nat} {ys : List AV} (h : Toks P gl f as k ys) (hg : GlNR gl) (hgl : S.gl = gl) (hk : moK P l K (putF d (.sl k ys (.tok S.nt)) F) S.own) : CallK P f as d l K F S :=
  CallK.of (h.at hgl hg) (fun r' S' ⟨e1, e2⟩ => by subst e2; injection e1 with e1; subst e1; exact hk) (fun v S' ⟨e1, _⟩ => by cases e1)
theorem PCallK.pure {r : AV} (h : Pure P gl f as (.ok r)) (hg : GlNR gl) (hgl : S.gl = gl) (hi : nd = true → InvS S0 Ls S) (k : plK P K S0 Ls p (putF d r F) S) : PCallK P f as d nd p K S0 Ls F S :=
  PCallK.of (h.at hgl hg) (fun r' S' ⟨e1, e2⟩ => by subst e1; injection e2 with e2; subst e2; exact ⟨hi, k⟩) (fun v S' ⟨_, e2⟩ => by cases e2)
theorem PCallK.pan {r : AV} (h : Pure P gl f as (.pan r)) (hg : GlNR gl) (hgl : S.gl = gl) (k : K (some r) F S) : PCallK P f as d nd p K S0 Ls F S :=
  PCallK.of (h.at hgl hg) (fun r' S' ⟨_, e2⟩ => by cases e2) (fun v S' ⟨e1, e2⟩ => by subst e1; injection e2 with e2; subst e2; exact k)
theorem PCallK.toks {k : Nat} {ys : List AV} (h : Toks P gl f as k ys) (hg : GlNR gl) (hgl : S.gl = gl) (hi : nd = true → InvS S0 Ls S) (hk : plK P K S0 Ls p (putF d (.sl k ys (.tok S.nt)) F) S.own) : PCallK P f as d nd p K S0 Ls F S :=
  PCallK.of (h.at hgl hg) (fun r' S' ⟨e1, e2⟩ => by subst e2; injection e1 with e1; subst e1; exact ⟨fun e => hi e, hk⟩) (fun v S' ⟨e1, _⟩ => by cases e1)
end use
theorem VRels.nil_inv {G : Gh} {vs : List Value} (h : VRels G [] vs) : vs = [] := List.eq_nil_of_length_eq_zero h.len.symm
theorem VRels.cons_inv {G : Gh} {a : AV} {as : List AV} {vs : List Value} (h : VRels G (a :: as) vs) : ∃ v vs', vs = v :: vs' ∧ VRel G a v ∧ VRels G as vs' := by
  cases vs with
  | nil => have := h.len; simp at this
  | cons v vs => exact ⟨v, vs, rfl, h.rel 0 a v rfl rfl, by have := h.len; simpa using this, fun m c u e1 e2 => h.rel (m + 1) c u (by simpa using e1) (by simpa using e2)⟩
theorem VRel.str_inv {G : Gh} {s : List UInt8} {v : Value} (h : VRel G (.str s) v) : v = .string ⟨s.toArray⟩ := by cases h; rfl
theorem VRel.int_inv {G : Gh} {k : IntKind} {n : Int} {v : Value} (h : VRel G (.int k n) v) : v = .int k n := by cases h; rfl
theorem VRel.bool_inv {G : Gh} {b : Bool} {v : Value} (h : VRel G (.bool b) v) : v = .bool b := by cases h; rfl
theorem StRel.grow {wb : Base} {G : Gh} {S : St} {w : World} (h : StRel wb G S w) (os : Array Obj) : StRel wb G S (Go.Sort.grow w os) := by
  have key : ∀ (l : List Obj) (w : World), StRel wb G S w → StRel wb G S (Go.Sort.grow w l.toArray) := by
    intro l
    induction l with
    | nil => intro w h; simpa [Go.Sort.grow] using h
    | cons o l ih =>
      intro w h
      have := ih (w.alloc o) (h.alloc o)
      rw [Go.Sort.alloc_eq_grow, Go.Sort.grow_grow] at this
      simpa using this
  simpa using key os.toList w h
theorem StRel.drewN {wb : Base} {G : Gh} {S : St} {w : World} (h : StRel wb G S w) (k : Nat) : StRel wb G S (w.drewN k) := { h with still := h.still }
theorem MCalls.ofGrow {P : Program} {f : FuncId} {as : List AV} {S : St} {r : AV} (hc : ∀ (args : Array Value) (w : World), (callFunc f args).run P w = .ok (.enter f args) w)
    (h : ∀ wb G w vs, StRel wb G S w → VRels G as vs → ∃ v, VRel G r v ∧ Calls P f vs.toArray w fun e w' => e = .returned v ∧ ∃ k os, w' = Go.Sort.grow (w.drewN k) os) : MCalls P f as S fun o S' => S' = S ∧ o = .ok r := by
  intro wb G w vs hS hv
  obtain ⟨v, h1, h2⟩ := h wb G w vs hS hv
  unfold Invk
  rw [hc]
  refine h2.mono fun e w' ⟨he, k, os, hw⟩ => ?_
  subst he hw
  exact ⟨G, S, Gh.le_refl G, (hS.drewN k).grow os, r, h1, rfl, rfl⟩
theorem MCalls.ofSame {P : Program} {f : FuncId} {as : List AV} {S : St} {r : AV} (hc : ∀ (args : Array Value) (w : World), (callFunc f args).run P w = .ok (.enter f args) w)
    (h : ∀ wb G w vs, StRel wb G S w → VRels G as vs → ∃ v, VRel G r v ∧ Calls P f vs.toArray w fun e w' => e = .returned v ∧ w' = w) : MCalls P f as S fun o S' => S' = S ∧ o = .ok r :=
  .ofGrow hc fun wb G w vs hS hv => by
    obtain ⟨v, h1, h2⟩ := h wb G w vs hS hv
    exact ⟨v, h1, h2.mono fun e w' ⟨he, hw⟩ => ⟨he, 0, #[], by rw [hw]; simp [Go.Sort.grow, World.drewN]⟩⟩
theorem NoRef.bool_eq (b : Bool) : NoRef (.bool b) = True := eq_true (.bool b)
theorem NoRef.int_eq (k : IntKind) (n : Int) : NoRef (.int k n) = True := eq_true (.int k n)
theorem NoRef.str_eq (s : List UInt8) : NoRef (.str s) = True := eq_true (.str s)
theorem NoRef.nilp_eq : NoRef .nilp = True := eq_true .nilp
theorem NoRef.nili_eq : NoRef .nili = True := eq_true .nili
theorem NoRef.nilf_eq : NoRef .nilf = True := eq_true .nilf
theorem NoRef.agg_eq {cs : List AV} (h : ∀ c ∈ cs, NoRef c) : NoRef (.agg cs) = True := eq_true (.agg h)
theorem NoRef.tup_eq {cs : List AV} (h : ∀ c ∈ cs, NoRef c) : NoRef (.tup cs) = True := eq_true (.tup h)
theorem NoRef.ifc_eq {t : TypeId} {c : AV} (h : NoRef c) : NoRef (.ifc t c) = True := eq_true (.ifc h)
theorem NoRef.sl_unk {k : Nat} {xs : List AV} (h : ∀ x ∈ xs, ∀ c ∈ x.cells, NoRef c) : NoRef (.sl k xs .unk) = True := eq_true (.sl h (by simp))
theorem NoRef.fn_nil (f : Fn) : NoRef (.fn f [] []) = True := eq_true (.func (by simp) (by simp))
theorem NoRef.fn_eq {f : Fn} {as cs : List AV} (ha : ∀ c ∈ as, NoRef c) (hc : ∀ c ∈ cs, NoRef c) : NoRef (.fn f as cs) = True := eq_true (.func ha hc)
theorem ne_1 (m : Nat) : (m = m + 1) = False := eq_false (by omega)
theorem ne_2 (m : Nat) : (m = m + 1 + 1) = False := eq_false (by omega)
theorem ne_3 (m : Nat) : (m = m + 1 + 1 + 1) = False := eq_false (by omega)
theorem ne_4 (m : Nat) : (m = m + 1 + 1 + 1 + 1) = False := eq_false (by omega)
theorem ne_1' (m : Nat) : (m + 1 = m) = False := eq_false (by omega)
theorem ne_2' (m : Nat) : (m + 1 + 1 = m) = False := eq_false (by omega)
theorem ne_3' (m : Nat) : (m + 1 + 1 + 1 = m) = False := eq_false (by omega)
theorem ne_4' (m : Nat) : (m + 1 + 1 + 1 + 1 = m) = False := eq_false (by omega)
section loops
variable {P : Program} {n : Nat} {k : List MI} {D : Dfs} {F : Fr} {S : St} {Q : EndQ} {x : MC}
open Classical in
theorem MRun.loopN (I : Nat → Fr → St → Prop) (m : Nat) (h0 : I m F S)
    (round : ∀ m F S, I m F S → (∀ m' F' S', m' < m → I m' F' S' → MRun P n (.inLoop x :: k) D F' S' Q) → MRun P n (.code x :: .inLoop x :: k) D F S Q) : MRun P n (.code (.loop x) :: k) D F S Q := by
  have key : ∀ F S, (∃ m, I m F S) → ∃ m, I m F S ∧ ∀ m', I m' F S → m ≤ m' := by
    intro F S h
    obtain ⟨m, hm⟩ := h
    induction m using Nat.strongRecOn with
    | _ m ih =>
      by_cases h : ∃ m', m' < m ∧ I m' F S
      · obtain ⟨m', h1, h2⟩ := h
        exact ih m' h1 h2
      · exact ⟨m, hm, fun m' h' => Nat.le_of_not_lt fun h2 => h ⟨m', h2, h'⟩⟩
  refine MRun.loop (fun F S => ∃ m, I m F S) (fun F S => if h : ∃ m, I m F S then (key F S h).choose else 0) ⟨m, h0⟩ ?_
  intro F S hI ih
  have h1 := (key F S hI).choose_spec
  refine round _ F S h1.1 fun m' F' S' hlt hI' => ih F' S' ⟨m', hI'⟩ ?_
  have hI2 : ∃ m, I m F' S' := ⟨m', hI'⟩
  rw [dif_pos hI, dif_pos hI2]
  exact Nat.lt_of_le_of_lt ((key F' S' hI2).choose_spec.2 m' hI') hlt
theorem MRun.forUp (N : Nat) (I : Nat → Fr → St → Prop) (h0 : I 0 F S)
    (round : ∀ i F S, i ≤ N → I i F S → (i < N → ∀ F' S', I (i + 1) F' S' → MRun P n (.inLoop x :: k) D F' S' Q) → MRun P n (.code x :: .inLoop x :: k) D F S Q) : MRun P n (.code (.loop x) :: k) D F S Q := by
  refine .loopN (fun m F S => ∃ i, i + m = N ∧ I i F S) N ⟨0, by omega, h0⟩ ?_
  rintro m F S ⟨i, hi, hI⟩ ih
  exact round i F S (by omega) hI fun hlt F' S' hI' => ih (m - 1) F' S' (by omega) ⟨i + 1, by omega, hI'⟩
theorem MRun.forget {m t : Nat} {ob : List (Nat × List AV)} {live : List Nat} {gl : List (Nat × List AV)} (h : MRun P n k D F ⟨m, [], t, [], gl⟩ Q) : MRun P n k D F ⟨m, ob, t, live, gl⟩ Q :=
  h.weak (fun _ _ e => e) ⟨rfl, rfl, rfl, fun l cs e => (by cases e), fun t ht => (by cases ht)⟩
theorem MRun.keep {m t : Nat} {ob ob' : List (Nat × List AV)} {live live' : List Nat} {gl : List (Nat × List AV)} (h : MRun P n k D F ⟨m, ob', t, live', gl⟩ Q) (ho : ∀ l cs, List.lookup l ob' = some cs → List.lookup l ob = some cs) (hl : ∀ x ∈ live', x ∈ live) : MRun P n k D F ⟨m, ob, t, live, gl⟩ Q :=
  h.weak (fun _ _ e => e) ⟨rfl, rfl, rfl, ho, hl⟩
end loops
theorem mw_as {P : Program} {n : Nat} {Q : EndQ} {c c' : MC} (h : c = c') {fu : Nat} {k : List MI} {D : Dfs} {F : Fr} {S : St} (hm : mw P n Q fu (.code c' :: k) D F S) : mw P n Q fu (.code c :: k) D F S := h ▸ hm
section merge
variable {P : Program} {n : Nat} {k : List MI} {D : Dfs} {F : Fr} {S : St} {Q : EndQ} {a : Nat} {p q r : Bool}
theorem cond_or (p q : Bool) : cond p p q = (p || q) := by cases p <;> rfl
theorem cond_and (p q : Bool) : cond p q p = (p && q) := by cases p <;> rfl
theorem cond_tl (p q : Bool) : cond p true q = (p || q) := by cases p <;> rfl
theorem cond_fr (p q : Bool) : cond p q false = (p && q) := by cases p <;> rfl
theorem cond_fl (p q : Bool) : cond p false q = (!p && q) := by cases p <;> rfl
theorem cond_tr (p q : Bool) : cond p q true = (!p || q) := by cases p <;> rfl
theorem merge_sameT (X : Prop) : ((p = true → X) ∧ (p = false → X)) = X := by cases p <;> simp
theorem merge_sameF (X : Prop) : ((p = false → X) ∧ (p = true → X)) = X := by cases p <;> simp
theorem mergeT0 : ((p = true → MRun P n k D ((a, .bool q) :: F) S Q) ∧ (p = false → MRun P n k D ((a, .bool r) :: F) S Q)) = MRun P n k D ((a, .bool (cond p q r)) :: F) S Q := by cases p <;> simp
theorem mergeF0 : ((p = false → MRun P n k D ((a, .bool r) :: F) S Q) ∧ (p = true → MRun P n k D ((a, .bool q) :: F) S Q)) = MRun P n k D ((a, .bool (cond p q r)) :: F) S Q := by cases p <;> simp
theorem mergeT1 (x0 : Nat × AV) : ((p = true → MRun P n k D (x0 :: (a, .bool q) :: F) S Q) ∧ (p = false → MRun P n k D (x0 :: (a, .bool r) :: F) S Q)) = MRun P n k D (x0 :: (a, .bool (cond p q r)) :: F) S Q := by cases p <;> simp
theorem mergeF1 (x0 : Nat × AV) : ((p = false → MRun P n k D (x0 :: (a, .bool r) :: F) S Q) ∧ (p = true → MRun P n k D (x0 :: (a, .bool q) :: F) S Q)) = MRun P n k D (x0 :: (a, .bool (cond p q r)) :: F) S Q := by cases p <;> simp
theorem mergeT2 (x0 x1 : Nat × AV) : ((p = true → MRun P n k D (x0 :: x1 :: (a, .bool q) :: F) S Q) ∧ (p = false → MRun P n k D (x0 :: x1 :: (a, .bool r) :: F) S Q)) = MRun P n k D (x0 :: x1 :: (a, .bool (cond p q r)) :: F) S Q := by cases p <;> simp
theorem mergeF2 (x0 x1 : Nat × AV) : ((p = false → MRun P n k D (x0 :: x1 :: (a, .bool r) :: F) S Q) ∧ (p = true → MRun P n k D (x0 :: x1 :: (a, .bool q) :: F) S Q)) = MRun P n k D (x0 :: x1 :: (a, .bool (cond p q r)) :: F) S Q := by cases p <;> simp
theorem mergeT3 (x0 x1 x2 : Nat × AV) : ((p = true → MRun P n k D (x0 :: x1 :: x2 :: (a, .bool q) :: F) S Q) ∧ (p = false → MRun P n k D (x0 :: x1 :: x2 :: (a, .bool r) :: F) S Q)) = MRun P n k D (x0 :: x1 :: x2 :: (a, .bool (cond p q r)) :: F) S Q := by cases p <;> simp
theorem mergeF3 (x0 x1 x2 : Nat × AV) : ((p = false → MRun P n k D (x0 :: x1 :: x2 :: (a, .bool r) :: F) S Q) ∧ (p = true → MRun P n k D (x0 :: x1 :: x2 :: (a, .bool q) :: F) S Q)) = MRun P n k D (x0 :: x1 :: x2 :: (a, .bool (cond p q r)) :: F) S Q := by cases p <;> simp
theorem mergeT4 (x0 x1 x2 x3 : Nat × AV) : ((p = true → MRun P n k D (x0 :: x1 :: x2 :: x3 :: (a, .bool q) :: F) S Q) ∧ (p = false → MRun P n k D (x0 :: x1 :: x2 :: x3 :: (a, .bool r) :: F) S Q)) = MRun P n k D (x0 :: x1 :: x2 :: x3 :: (a, .bool (cond p q r)) :: F) S Q := by cases p <;> simp
theorem mergeF4 (x0 x1 x2 x3 : Nat × AV) : ((p = false → MRun P n k D (x0 :: x1 :: x2 :: x3 :: (a, .bool r) :: F) S Q) ∧ (p = true → MRun P n k D (x0 :: x1 :: x2 :: x3 :: (a, .bool q) :: F) S Q)) = MRun P n k D (x0 :: x1 :: x2 :: x3 :: (a, .bool (cond p q r)) :: F) S Q := by cases p <;> simp
theorem mergeT5 (x0 x1 x2 x3 x4 : Nat × AV) : ((p = true → MRun P n k D (x0 :: x1 :: x2 :: x3 :: x4 :: (a, .bool q) :: F) S Q) ∧ (p = false → MRun P n k D (x0 :: x1 :: x2 :: x3 :: x4 :: (a, .bool r) :: F) S Q)) = MRun P n k D (x0 :: x1 :: x2 :: x3 :: x4 :: (a, .bool (cond p q r)) :: F) S Q := by cases p <;> simp
theorem mergeF5 (x0 x1 x2 x3 x4 : Nat × AV) : ((p = false → MRun P n k D (x0 :: x1 :: x2 :: x3 :: x4 :: (a, .bool r) :: F) S Q) ∧ (p = true → MRun P n k D (x0 :: x1 :: x2 :: x3 :: x4 :: (a, .bool q) :: F) S Q)) = MRun P n k D (x0 :: x1 :: x2 :: x3 :: x4 :: (a, .bool (cond p q r)) :: F) S Q := by cases p <;> simp
theorem mergeT6 (x0 x1 x2 x3 x4 x5 : Nat × AV) : ((p = true → MRun P n k D (x0 :: x1 :: x2 :: x3 :: x4 :: x5 :: (a, .bool q) :: F) S Q) ∧ (p = false → MRun P n k D (x0 :: x1 :: x2 :: x3 :: x4 :: x5 :: (a, .bool r) :: F) S Q)) = MRun P n k D (x0 :: x1 :: x2 :: x3 :: x4 :: x5 :: (a, .bool (cond p q r)) :: F) S Q := by cases p <;> simp
theorem mergeF6 (x0 x1 x2 x3 x4 x5 : Nat × AV) : ((p = false → MRun P n k D (x0 :: x1 :: x2 :: x3 :: x4 :: x5 :: (a, .bool r) :: F) S Q) ∧ (p = true → MRun P n k D (x0 :: x1 :: x2 :: x3 :: x4 :: x5 :: (a, .bool q) :: F) S Q)) = MRun P n k D (x0 :: x1 :: x2 :: x3 :: x4 :: x5 :: (a, .bool (cond p q r)) :: F) S Q := by cases p <;> simp
theorem mergeT7 (x0 x1 x2 x3 x4 x5 x6 : Nat × AV) : ((p = true → MRun P n k D (x0 :: x1 :: x2 :: x3 :: x4 :: x5 :: x6 :: (a, .bool q) :: F) S Q) ∧ (p = false → MRun P n k D (x0 :: x1 :: x2 :: x3 :: x4 :: x5 :: x6 :: (a, .bool r) :: F) S Q)) = MRun P n k D (x0 :: x1 :: x2 :: x3 :: x4 :: x5 :: x6 :: (a, .bool (cond p q r)) :: F) S Q := by cases p <;> simp
theorem mergeF7 (x0 x1 x2 x3 x4 x5 x6 : Nat × AV) : ((p = false → MRun P n k D (x0 :: x1 :: x2 :: x3 :: x4 :: x5 :: x6 :: (a, .bool r) :: F) S Q) ∧ (p = true → MRun P n k D (x0 :: x1 :: x2 :: x3 :: x4 :: x5 :: x6 :: (a, .bool q) :: F) S Q)) = MRun P n k D (x0 :: x1 :: x2 :: x3 :: x4 :: x5 :: x6 :: (a, .bool (cond p q r)) :: F) S Q := by cases p <;> simp
theorem mergeT8 (x0 x1 x2 x3 x4 x5 x6 x7 : Nat × AV) : ((p = true → MRun P n k D (x0 :: x1 :: x2 :: x3 :: x4 :: x5 :: x6 :: x7 :: (a, .bool q) :: F) S Q) ∧ (p = false → MRun P n k D (x0 :: x1 :: x2 :: x3 :: x4 :: x5 :: x6 :: x7 :: (a, .bool r) :: F) S Q)) = MRun P n k D (x0 :: x1 :: x2 :: x3 :: x4 :: x5 :: x6 :: x7 :: (a, .bool (cond p q r)) :: F) S Q := by cases p <;> simp
theorem mergeF8 (x0 x1 x2 x3 x4 x5 x6 x7 : Nat × AV) : ((p = false → MRun P n k D (x0 :: x1 :: x2 :: x3 :: x4 :: x5 :: x6 :: x7 :: (a, .bool r) :: F) S Q) ∧ (p = true → MRun P n k D (x0 :: x1 :: x2 :: x3 :: x4 :: x5 :: x6 :: x7 :: (a, .bool q) :: F) S Q)) = MRun P n k D (x0 :: x1 :: x2 :: x3 :: x4 :: x5 :: x6 :: x7 :: (a, .bool (cond p q r)) :: F) S Q := by cases p <;> simp
theorem mergeT9 (x0 x1 x2 x3 x4 x5 x6 x7 x8 : Nat × AV) : ((p = true → MRun P n k D (x0 :: x1 :: x2 :: x3 :: x4 :: x5 :: x6 :: x7 :: x8 :: (a, .bool q) :: F) S Q) ∧ (p = false → MRun P n k D (x0 :: x1 :: x2 :: x3 :: x4 :: x5 :: x6 :: x7 :: x8 :: (a, .bool r) :: F) S Q)) = MRun P n k D (x0 :: x1 :: x2 :: x3 :: x4 :: x5 :: x6 :: x7 :: x8 :: (a, .bool (cond p q r)) :: F) S Q := by cases p <;> simp
theorem mergeF9 (x0 x1 x2 x3 x4 x5 x6 x7 x8 : Nat × AV) : ((p = false → MRun P n k D (x0 :: x1 :: x2 :: x3 :: x4 :: x5 :: x6 :: x7 :: x8 :: (a, .bool r) :: F) S Q) ∧ (p = true → MRun P n k D (x0 :: x1 :: x2 :: x3 :: x4 :: x5 :: x6 :: x7 :: x8 :: (a, .bool q) :: F) S Q)) = MRun P n k D (x0 :: x1 :: x2 :: x3 :: x4 :: x5 :: x6 :: x7 :: x8 :: (a, .bool (cond p q r)) :: F) S Q := by cases p <;> simp
end merge
end Go.V
