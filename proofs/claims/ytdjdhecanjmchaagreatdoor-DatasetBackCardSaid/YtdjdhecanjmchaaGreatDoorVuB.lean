/- The by-value layer, ahead of part twelve: type assertions, and a new strings.Builder. Over any program. -/
import Derived.Test.YtdjdhecanjmchaaGreatDoorVsB
set_option linter.unusedSimpArgs false
set_option linter.unusedVariables false
namespace Go.V
open Go
def zvFits : AV → Value → Bool
  | .agg cs, .agg vs => cellsFit cs vs.toList
  | a, v => constFits a v
theorem zvFits_rel {G : Gh} {a : AV} {v : Value} (h : zvFits a v = true) : VRel G a v := by
  unfold zvFits at h
  split at h
  · rename_i cs vs
    have hc := cellsFit_rel (G := G) h
    have := VRel.agg (G := G) hc.len hc.one hc.rel
    simpa using this
  · exact constFits_rel h
def tasFits (P : Program) (t : TypeId) (z : AV) : Bool :=
  (match P.underlying t with
   | some (.interface _) => false
   | some _ => true
   | none => false) && (match P.info? t with
   | some i => (match i.zero with
     | some v => zvFits z v
     | none => false)
   | none => false)
def tasEv (t : TypeId) (z : AV) : AV → Option AV
  | .ifc t' v => if t' = t then some (.tup [v, .bool true]) else some (.tup [z, .bool false])
  | .nili => some (.tup [z, .bool false])
  | _ => none
theorem VRel.tup2 {G : Gh} {a b : AV} {u v : Value} (h1 : VRel G a u) (h2 : VRel G b v) : VRel G (.tup [a, b]) (.tuple #[u, v]) := by
  have := VRel.tup (G := G) (cs := [a, b]) (vs := [u, v]) rfl (fun m c x e1 e2 => by
    match m with
    | 0 => simp at e1 e2; subst e1 e2; exact h1
    | 1 => simp at e1 e2; subst e1 e2; exact h2
    | m + 2 => simp at e1)
  simpa using this
theorem run_tas {P : Program} {w : World} {G : Gh} {t xt : TypeId} {z x r : AV} {u : Value} (hx : VRel G x u) (hf : tasFits P t z = true) (he : tasEv t z x = some r) :
    ∃ v, (Instr.typeAssert u xt t true).run P w = .ok v w ∧ VRel G r v := by
  unfold tasFits at hf
  simp only [Bool.and_eq_true] at hf
  obtain ⟨h1, h2⟩ := hf
  split at h2
  rotate_left
  · cases h2
  rename_i i hi
  split at h2
  rotate_left
  · cases h2
  rename_i zv hz
  have hzv : (zeroValue t).run P w = .ok zv w := by simp [zeroValue, typeInfo, hi, hz]
  have hzr : VRel G z zv := zvFits_rel h2
  have hni : ∃ d, P.underlying t = some d ∧ ∀ ms, d ≠ .interface ms := by
    split at h1
    · cases h1
    · rename_i d hn hd
      exact ⟨d, hd, fun ms e => hn ms e⟩
    · cases h1
  obtain ⟨d, hd, hdi⟩ := hni
  unfold tasEv at he
  split at he
  · rename_i t' v
    cases hx
    rename_i v' hv'
    split at he
    · rename_i ht
      subst ht
      injection he with he
      subst he
      refine ⟨.tuple #[v', .bool true], ?_, .tup2 hv' (.bool true)⟩
      unfold Instr.typeAssert
      simp only [Sem.run_bind, run_und hd, Result.andThen_ok]
      cases d with
      | interface ms => exact absurd rfl (hdi ms)
      | _ => simp
    · rename_i ht
      injection he with he
      subst he
      refine ⟨.tuple #[zv, .bool false], ?_, .tup2 hzr (.bool false)⟩
      unfold Instr.typeAssert
      simp only [Sem.run_bind, run_und hd, Result.andThen_ok]
      cases d with
      | interface ms => exact absurd rfl (hdi ms)
      | _ => simp [ht, hzv]
  · cases hx
    injection he with he
    subst he
    refine ⟨.tuple #[zv, .bool false], ?_, .tup2 hzr (.bool false)⟩
    unfold Instr.typeAssert
    simp only [Sem.run_bind, run_und hd, Result.andThen_ok]
    cases d with
    | interface ms => exact absurd rfl (hdi ms)
    | _ => simp [hzv]
  · cases he
def bldFits (P : Program) (t : TypeId) : Bool :=
  t == bldT && (match P.info? t with
    | some i => (match i.zero with
      | some v => (match v.cells.toList with
        | [.pointer none, .slice none 0 0] => true
        | _ => false)
      | none => false)
    | none => false)
theorem StRel.newBld {wb : Base} {G : Gh} {S : St} {w : World} (h : StRel wb G S w) (hno : ∀ l s, S.get l ≠ some [.bld s]) :
    ∃ G', G.le G' ∧ G'.σ S.n = some w.heap.size ∧ StRel wb G' { S with n := S.n + 1, obj := (S.n, [.bld []]) :: S.obj } (w.alloc (.cells #[.pointer none, .slice none 0 0] bldT)) := by
  have hnone : G.σ S.n = none := by
    cases e : G.σ S.n with
    | none => rfl
    | some r => have := (h.dom _ _ e).1; omega
  let G' : Gh := { G with σ := upd G.σ S.n (some w.heap.size) }
  have hle : G.le G' := by
    refine ⟨fun _ _ _ e => e, fun l r e => ?_, fun _ _ e => e, rfl⟩
    have : l ≠ S.n := fun e' => by rw [e', hnone] at e; cases e
    simp [G', upd, this, e]
  have ha := h.alloc (.cells #[.pointer none, .slice none 0 0] bldT)
  have hφ : ∀ o, G.φ w.heap.size o = none := fun o => by
    cases e : G.φ w.heap.size o with
    | none => rfl
    | some v => have := h.lt e; omega
  have hold : ∀ l cs, l ≠ S.n → List.lookup l ((S.n, [AV.bld []]) :: S.obj) = some cs → S.get l = some cs := fun l cs hl e => by
    have hb : (l == S.n) = false := by simpa using hl
    simp only [List.lookup_cons, hb] at e
    exact e
  refine ⟨G', hle, by simp [G'], ?_⟩
  refine { prom := ha.prom, apart := ?_, obj := ?_, inj := ?_, dom := ?_, tok := ?_, tdom := ha.tdom, tdis := ha.tdis, base := ha.base, still := ha.still, pold := ha.pold, beta := ha.beta, glob := ?_, bld := ?_, bldu := ?_ }
  · intro l ds r o hget e
    by_cases hl : l = S.n
    · subst hl
      simp [G'] at e
      subst e
      exact hφ o
    · simp only [G', upd, hl, if_false] at e
      exact h.apart l ds r o (hold l ds hl hget) e
  · intro l ds hl hnb
    by_cases hln : l = S.n
    · subst hln
      simp [St.get] at hl
      subst hl
      cases hnb
    · obtain ⟨r, hr', hm⟩ := ha.obj l ds (hold l ds hln hl) hnb
      exact ⟨r, hle.σ _ _ hr', fun m c hmc => by obtain ⟨v, h1, h2, h3, h4⟩ := hm m c hmc; exact ⟨v, h1, h2.mono hle, h3, h4⟩⟩
  · intro l l' r e e'
    by_cases hl : l = S.n <;> by_cases hl' : l' = S.n
    · rw [hl, hl']
    · subst hl
      simp only [G', upd_same] at e
      simp only [G', upd, hl', if_false] at e'
      injection e with e
      have := (h.dom _ _ e').2.2
      omega
    · subst hl'
      simp only [G', upd_same] at e'
      simp only [G', upd, hl, if_false] at e
      injection e' with e'
      have := (h.dom _ _ e).2.2
      omega
    · simp only [G', upd, hl, hl', if_false] at e e'
      exact h.inj l l' r e e'
  · intro l r e
    by_cases hl : l = S.n
    · subst hl
      simp only [G', upd_same] at e
      injection e with e
      subst e
      have := h.base.1
      simp; omega
    · simp only [G', upd, hl, if_false] at e
      have := ha.dom l r e
      exact ⟨by simp; omega, this.2⟩
  · intro t ht
    obtain ⟨r, e, z, h1, h4⟩ := ha.tok t ht
    refine ⟨r, e, z, h1, fun i h5 h6 => ?_⟩
    obtain ⟨h2, h3, h7, h8, h9⟩ := h4 i h5 h6
    refine ⟨h2, fun l el => ?_, h7, h8, h9⟩
    by_cases hl : l = S.n
    · subst hl
      simp only [G', upd_same] at el
      injection el with el
      have := (h.tdom t _ h1).2 (by show e < z; omega)
      simp only at this
      omega
    · simp only [G', upd, hl, if_false] at el
      exact h3 l el
  · intro g cs hg m c hmc
    obtain ⟨v, h1, h2, h3⟩ := ha.glob g cs hg m c hmc
    exact ⟨v, h1, h2.mono hle, h3⟩
  · intro l s hl
    by_cases hln : l = S.n
    · subst hln
      simp [St.get] at hl
      subst hl
      refine ⟨w.heap.size, by simp [G'], .pointer none, .slice none 0 0, .inl rfl, by simp [World.alloc, -World.alloc_eq], .inl ⟨rfl, rfl⟩⟩
    · exact (hno l s (hold l _ hln hl)).elim
  · intro l l' s s' h1 h2
    have key : ∀ l s, List.lookup l ((S.n, [AV.bld []]) :: S.obj) = some [AV.bld s] → l = S.n := fun l s e => by
      by_cases hln : l = S.n
      · exact hln
      · exact (hno l s (hold l _ hln e)).elim
    rw [key l s h1, key l' s' h2]
def noBld (S : St) : Bool := S.obj.all fun p => !isBld p.2
theorem noBld_ok {S : St} (h : noBld S = true) : ∀ l s, S.get l ≠ some [.bld s] := by
  intro l s e
  have key : ∀ ob : List (Nat × List AV), ob.all (fun p => !isBld p.2) = true → List.lookup l ob ≠ some [.bld s] := by
    intro ob
    induction ob with
    | nil => intro _ h; cases h
    | cons p ob ih =>
      intro h e
      simp only [List.all_cons, Bool.and_eq_true] at h
      obtain ⟨m, cs⟩ := p
      rw [List.lookup_cons] at e
      split at e
      · injection e with e
        subst e
        simp [isBld] at h
      · exact ih h.2 e
  exact key S.obj h e
theorem sem_allocB {P : Program} {wb : Base} {G : Gh} {S : St} {w : World} (h : StRel wb G S w) {t : TypeId} (hz : bldFits P t = true) (hno : noBld S = true) :
    SemOK P wb G (Instr.alloc t true (.tuple #[])) w (.ptr S.n 0) { S with n := S.n + 1, obj := (S.n, [.bld []]) :: S.obj } := by
  unfold bldFits at hz
  simp only [Bool.and_eq_true, beq_iff_eq] at hz
  obtain ⟨rfl, hz⟩ := hz
  split at hz
  rotate_left
  · cases hz
  rename_i i hi
  split at hz
  rotate_left
  · cases hz
  rename_i v hv
  split at hz
  rotate_left
  · cases hz
  rename_i hc
  have hcells : v.cells = #[.pointer none, .slice none 0 0] := by apply Array.ext'; simpa using hc
  obtain ⟨G', h1, h2, h3⟩ := h.newBld (noBld_ok hno)
  refine ⟨.pointer (some ⟨w.heap.size, 0, none⟩), w.alloc (.cells v.cells bldT), G', ?_, h1, by rw [hcells]; exact h3, .ptr h2⟩
  have hzv : (zeroValue bldT).run P w = .ok v w := by simp [zeroValue, typeInfo, hi, hv]
  simp only [Instr.alloc, Sem.run_bind, hzv, Result.andThen_ok]
  simp [newVar, newRow]
end Go.V
