/- The by-value layer, part nine: slicing, lengths, conversions, structs written out, make. Over any program. -/
import Derived.Test.YtdjdhecanjmchaaGreatDoorVhB
set_option linter.unusedSimpArgs false
set_option linter.unusedVariables false
namespace Go.V
open Go
def bnd (d : Int) : Option AV → Option Int
  | none => some d
  | some (.int _ n) => some n
  | _ => none
def ORel (G : Gh) : Option AV → Option Value → Prop
  | none, none => True
  | some a, some v => VRel G a v
  | _, _ => False
theorem run_sliceBound {P : Program} {w : World} {G : Gh} {a : AV} {v : Value} {n : Int} {y : Nat} {code : BoundsCode} (ha : VRel G a v) (hb : ∀ d, bnd d (some a) = some n) (h0 : 0 ≤ n) (h1 : n ≤ y) :
    (Instr.sliceBound v y code).run P w = .ok n.toNat w := by
  have := hb 0
  cases ha <;> simp only [bnd] at this <;> first
    | (cases this; done)
    | skip
  injection this with this
  subst this
  simp [Instr.sliceBound, asIntOf, h0, h1]
theorem bnd_some {d d' : Int} {a : AV} {n : Int} (h : bnd d (some a) = some n) : bnd d' (some a) = some n := by
  cases a <;> simp_all [bnd]
theorem run_sliceBounds {P : Program} {w : World} {G : Gh} {lo hi mx : Option AV} {lo' hi' mx' : Option Value} (hlo : ORel G lo lo') (hhi : ORel G hi hi') (hmx : ORel G mx mx') {b : Bool} {len cap : Nat} {l h m : Int}
    (el : bnd 0 lo = some l) (eh : bnd len hi = some h) (em : bnd cap mx = some m) (h0 : 0 ≤ l) (h1 : l ≤ h) (h2 : h ≤ m) (h3 : m ≤ cap) (hm : mx = none ∨ hi ≠ none) :
    (Instr.sliceBounds b len cap lo' hi' mx').run P w = .ok (l.toNat, h.toNat, m.toNat) w := by
  have rm : ∀ (code : BoundsCode) (v : Value), mx' = some v → (Instr.sliceBound v cap code).run P w = .ok m.toNat w := by
    intro code v hv
    subst hv
    cases mx with
    | none => exact hmx.elim
    | some a => exact run_sliceBound hmx (fun d => bnd_some em) (by omega) h3
  have nm : mx' = none → m.toNat = cap := by
    intro e
    subst e
    cases mx with
    | none => simp [bnd] at em; subst em; simp
    | some a => exact hmx.elim
  have rh : ∀ y : Nat, h ≤ y → ∀ (code : BoundsCode) (v : Value), hi' = some v → (Instr.sliceBound v y code).run P w = .ok h.toNat w := by
    intro y hy code v hv
    subst hv
    cases hi with
    | none => exact hhi.elim
    | some a => exact run_sliceBound hhi (fun d => bnd_some eh) (by omega) hy
  have nh : hi' = none → mx' = none ∧ h.toNat = len := by
    intro e
    subst e
    cases hi with
    | none =>
      have hmn : mx = none := hm.resolve_right (by simp)
      subst hmn
      cases mx' with
      | some v => exact hmx.elim
      | none => simp [bnd] at eh; subst eh; simp
    | some a => exact hhi.elim
  have rl : ∀ (code : BoundsCode) (v : Value), lo' = some v → (Instr.sliceBound v h.toNat code).run P w = .ok l.toNat w := by
    intro code v hv
    subst hv
    cases lo with
    | none => exact hlo.elim
    | some a => exact run_sliceBound hlo (fun d => bnd_some el) h0 (by omega)
  have nl : lo' = none → l.toNat = 0 := by
    intro e
    subst e
    cases lo with
    | none => simp [bnd] at el; subst el; simp
    | some a => exact hlo.elim
  clear hlo hhi hmx
  have hhm : h ≤ (m.toNat : Int) := by omega
  unfold Instr.sliceBounds
  cases hi' with
  | some v =>
    cases mx' with
    | some v2 =>
      cases lo' with
      | some v3 => simp only [Sem.run_bind, rm _ v2 rfl, Result.andThen_ok, rh m.toNat hhm _ v rfl, rl _ v3 rfl, Sem.run_pure]
      | none => simp only [Sem.run_bind, rm _ v2 rfl, Result.andThen_ok, rh m.toNat hhm _ v rfl, nl rfl, Sem.run_pure]
    | none =>
      rw [nm rfl] at hhm ⊢
      cases lo' with
      | some v3 => simp only [Sem.run_bind, Result.andThen_ok, rh cap hhm _ v rfl, rl _ v3 rfl, Sem.run_pure]
      | none => simp only [Sem.run_bind, Result.andThen_ok, rh cap hhm _ v rfl, nl rfl, Sem.run_pure]
  | none =>
    obtain ⟨rfl, e⟩ := nh rfl
    rw [nm rfl]
    rw [e] at rl ⊢
    cases lo' with
    | some v3 => simp only [Sem.run_bind, Result.andThen_ok, rl _ v3 rfl, Sem.run_pure]
    | none => simp only [Sem.run_bind, Result.andThen_ok, nl rfl, Sem.run_pure]
def slStrEv (x : AV) (lo hi : Option AV) : Option AV :=
  match x with
  | .str s => (bnd 0 lo).bind fun l => (bnd s.length hi).map fun h => .str ((s.take h.toNat).drop l.toNat)
  | _ => none
def slStrOb (x : AV) (lo hi : Option AV) : Prop :=
  match x with
  | .str s => match bnd 0 lo, bnd s.length hi with
    | some l, some h => 0 ≤ l ∧ l ≤ h ∧ h ≤ s.length
    | _, _ => True
  | _ => True
theorem run_slStr {P : Program} {w : World} {G : Gh} {t : TypeId} {x r : AV} {u : Value} {lo hi : Option AV} {lo' hi' : Option Value} (hx : VRel G x u) (hlo : ORel G lo lo') (hhi : ORel G hi hi')
    (ht : P.underlying t = some .string) (hob : slStrOb x lo hi) (he : slStrEv x lo hi = some r) : ∃ z, (Instr.sliceAt t u lo' hi' none).run P w = .ok z w ∧ VRel G r z := by
  cases hx <;> simp only [slStrEv] at he <;> first
    | (cases he; done)
    | skip
  rename_i s
  simp only [Option.bind_eq_some_iff, Option.map_eq_some_iff] at he
  obtain ⟨l, el, h, eh, rfl⟩ := he
  simp only [slStrOb, el, eh] at hob
  obtain ⟨h0, h1, h2⟩ := hob
  refine ⟨_, ?_, .str _⟩
  have hb := run_sliceBounds (P := P) (w := w) (mx := none) (mx' := none) (b := false) (len := s.length) (cap := s.length) (m := s.length) hlo hhi trivial el eh rfl h0 h1 h2 (Int.le_refl _) (.inl rfl)
  have hsz : (ByteArray.mk s.toArray).size = s.length := by simp [ByteArray.size]
  simp only [Instr.sliceAt, Sem.run_bind, run_und ht, Result.andThen_ok, Instr.slice, hsz, hb, Option.isSome_none, Bool.false_eq_true, if_false, Sem.run_pure]
  congr 2
  apply ByteArray.ext
  apply Array.ext'
  simp [List.drop_take]
def slVecEv (k : Nat) (x : AV) (lo hi mx : Option AV) : Option AV :=
  match x with
  | .sl k' xs t =>
    if k' = k then
      (bnd 0 lo).bind fun l => (bnd xs.length hi).bind fun h =>
        match mx with
        | none => some (.sl k ((xs.take h.toNat).drop l.toNat) (if lo.isNone && hi.isNone then t else .unk))
        | some _ => (bnd 0 mx).map fun m => .sl k ((xs.take h.toNat).drop l.toNat) (if m = h then .exact else .unk)
    else none
  | _ => none
def slVecOb (x : AV) (lo hi mx : Option AV) : Prop :=
  match x with
  | .sl _ xs _ => match bnd 0 lo, bnd xs.length hi with
    | some l, some h => 0 ≤ l ∧ l ≤ h ∧ h ≤ xs.length ∧ (match mx with
      | none => True
      | some _ => match bnd 0 mx with
        | some m => h ≤ m ∧ m ≤ xs.length ∧ hi.isSome = true
        | none => True)
    | _, _ => True
  | _ => True
theorem sl_part {G : Gh} {k : Nat} {xs : List AV} {r b : Nat} {f : Nat → Value} (hk : ∀ x ∈ xs, x.cells.length = k)
    (hp : ∀ (m : Nat) (c : AV), (flat xs)[m]? = some c → G.φ r (b + m) = some (f m))
    (ho : ∀ (m : Nat) (c : AV), (flat xs)[m]? = some c → (f m).oneCell' = true)
    (hv : ∀ (m : Nat) (c : AV), (flat xs)[m]? = some c → VRel G c (f m)) {l h : Nat} (hl : l ≤ h) (hh : h ≤ xs.length) {t : STok} {cap : Nat} (hc : h - l ≤ cap)
    (ht : TokOK G t r (b + l * k + (h - l) * k) (b + l * k + cap * k)) : VRel G (.sl k ((xs.take h).drop l) t) (.slice (some ⟨r, b + l * k, none⟩) (h - l) cap) := by
  have hlen : ((xs.take h).drop l).length = h - l := by simp; omega
  have hk' : ∀ x ∈ (xs.take h).drop l, x.cells.length = k := fun x hx => hk x (List.mem_of_mem_take (List.mem_of_mem_drop hx))
  have key : ∀ (m : Nat) (c : AV), (flat ((xs.take h).drop l))[m]? = some c → (flat xs)[l * k + m]? = some c := by
    intro m c e
    rcases Nat.eq_zero_or_pos k with hk0 | hk0
    · have h0 : (flat ((xs.take h).drop l)).length = 0 := by rw [flat_length hk', hk0, Nat.mul_zero]
      rw [List.getElem?_eq_none (by omega)] at e
      cases e
    · have hm : m = m / k * k + m % k := by have := Nat.div_add_mod m k; rw [Nat.mul_comm] at this; omega
      rw [hm, flat_get hk' (Nat.mod_lt _ hk0)] at e
      rw [hm, ← Nat.add_assoc, ← Nat.add_mul, flat_get hk (Nat.mod_lt _ hk0)]
      rw [List.getElem?_drop, List.getElem?_take] at e
      split at e
      · exact e
      · simp at e
  rw [← hlen]
  refine .sl (fun m => f (l * k + m)) hk' (fun m c e => ?_) (fun m c e => ho _ c (key m c e)) (fun m c e => hv _ c (key m c e)) (by omega) (by rw [hlen]; exact ht)
  have := hp _ c (key m c e)
  rwa [← Nat.add_assoc] at this
def slTok (tk : STok) (lo hi mx : Option AV) (m h : Int) : STok := if mx.isSome then (if m = h then .exact else .unk) else (if lo.isNone && hi.isNone then tk else .unk)
theorem run_slVec {P : Program} {w : World} {G : Gh} {t e : TypeId} {k : Nat} {x r : AV} {u : Value} {lo hi mx : Option AV} {lo' hi' mx' : Option Value} (hx : VRel G x u) (hlo : ORel G lo lo') (hhi : ORel G hi hi') (hmx : ORel G mx mx')
    (ht : P.underlying t = some (.slice e)) (hs : sizeIs P e k = true) (hob : slVecOb x lo hi mx) (he : slVecEv k x lo hi mx = some r) : ∃ z, (Instr.sliceAt t u lo' hi' mx').run P w = .ok z w ∧ VRel G r z := by
  have hxs : ∃ xs tk, x = .sl k xs tk := by
    cases hx <;> simp only [slVecEv] at he <;> first
      | (cases he; done)
      | (split at he
         · rename_i hk
           subst hk
           exact ⟨_, _, rfl⟩
         · cases he)
  obtain ⟨xs, tk, rfl⟩ := hxs
  simp only [slVecEv, if_true, Option.bind_eq_some_iff] at he
  obtain ⟨l, el, h, eh, he⟩ := he
  simp only [slVecOb, el, eh] at hob
  obtain ⟨h0, h1, h2, h3⟩ := hob
  obtain ⟨base, cap, rfl, hcap⟩ : ∃ base cap, u = .slice base xs.length cap ∧ xs.length ≤ cap := by
    cases hx with
    | slnil => exact ⟨_, 0, rfl, Nat.le_refl _⟩
    | sl f hk hp ho hv hc htk => exact ⟨_, _, rfl, hc⟩
  obtain ⟨m, em, h4, h5, hm, hr⟩ : ∃ m : Int, bnd cap mx = some m ∧ h ≤ m ∧ m ≤ cap ∧ (mx = none ∨ hi ≠ none) ∧
      r = .sl k ((xs.take h.toNat).drop l.toNat) (slTok tk lo hi mx m h) := by
    cases mx with
    | none =>
      simp only [Option.some.injEq] at he
      exact ⟨cap, rfl, by omega, Int.le_refl _, .inl rfl, he.symm⟩
    | some a =>
      simp only [Option.map_eq_some_iff] at he
      obtain ⟨m, em, he⟩ := he
      rw [em] at h3
      obtain ⟨h4, h5, h6⟩ := h3
      exact ⟨m, bnd_some em, h4, by omega, .inr (by intro e; rw [e] at h6; cases h6), he.symm⟩
  have hb := run_sliceBounds (P := P) (w := w) (b := true) (len := xs.length) (cap := cap) hlo hhi hmx el eh em h0 h1 h4 h5 hm
  have hrun : (Instr.sliceAt t (.slice base xs.length cap) lo' hi' mx').run P w = .ok (.slice (if m.toNat = l.toNat then base else base.map (·.add (l.toNat * k))) (h.toNat - l.toNat) (m.toNat - l.toNat)) w := by
    simp only [Instr.sliceAt, Sem.run_bind, run_und ht, Result.andThen_ok, Instr.slice, hb, run_sizeIs hs, Sem.run_pure]
  refine ⟨_, hrun, ?_⟩
  subst hr
  have hl' : l.toNat ≤ h.toNat := by omega
  have hh' : h.toNat ≤ xs.length := by omega
  cases hx with
  | slnil =>
    have e1 : l.toNat = 0 := by simp at hh'; omega
    have e2 : h.toNat = 0 := by simpa using hh'
    have e3 : m.toNat = 0 := by omega
    simp only [e1, e2, e3, if_true, List.take_nil, List.drop_nil, Nat.sub_self]
    exact .slnil _ _ _
  | sl f hk hp ho hv hc htk =>
    rename_i rb b
    by_cases hml : m.toNat = l.toNat
    · have hhl : h.toNat = l.toNat := by omega
      have hnil : (xs.take h.toNat).drop l.toNat = [] := by
        apply List.eq_nil_of_length_eq_zero
        simp; omega
      simp only [hml, if_true, hhl, Nat.sub_self]
      have hz := VRel.sl (G := G) (k := k) (xs := []) (t := slTok tk lo hi mx m h) (r := rb) (b := b) (cap := 0) f (by simp) (by simp) (by simp) (by simp) (Nat.le_refl _) (by
        unfold slTok
        cases mx with
        | some a =>
          simp only [Option.isSome_some, if_true]
          split
          · rfl
          · trivial
        | none =>
          simp only [Option.isSome_none, Bool.false_eq_true, if_false]
          split
          · rename_i hn
            simp only [Bool.and_eq_true, Option.isNone_iff_eq_none] at hn
            obtain ⟨rfl, rfl⟩ := hn
            simp only [bnd, Option.some.injEq] at em el eh
            subst el em eh
            have hc0 : cap = 0 := by simpa using hml
            have hx0 : xs.length = 0 := by omega
            simp only [hc0, hx0] at htk
            simpa using htk
          · trivial)
      simpa using hz
    · simp only [hml, if_false, Option.map_some, add_none]
      refine sl_part hk hp ho hv hl' hh' (by omega) ?_
      unfold slTok
      cases mx with
      | some a =>
        simp only [Option.isSome_some, if_true]
        split
        · rename_i hmh
          subst hmh
          rfl
        · trivial
      | none =>
        simp only [Option.isSome_none, Bool.false_eq_true, if_false]
        split
        · rename_i hn
          simp only [Bool.and_eq_true, Option.isNone_iff_eq_none] at hn
          obtain ⟨rfl, rfl⟩ := hn
          simp only [bnd, Option.some.injEq] at em el eh
          subst el em eh
          simpa using htk
        · trivial
end Go.V
