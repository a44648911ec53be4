/- The by-value layer, part nine: slicing, lengths, conversions, structs written out, make. Over any program. -/
import Derived.Test.YtombgigaefgaiaaGreatDoorVh
import Derived.Laws.IdiomStrings
import Derived.Laws.MakeOwn
import Derived.RangeFuncRecord
import Derived.OrdersIn
import Derived.RangeFuncSeq
set_option linter.unusedSimpArgs false
set_option linter.unusedVariables false
namespace Go.V
open Go
def bnd (d : Int) : Option AV → Option Int
  | none => some d
  | some (.int _ n) => some n
  | _ => none
def ORel (G : Gh) : Option AV → Option Value → Prop
  | none,none => True
  | some a,some v => VRel G a v
  | _,_ => False
theorem run_sliceBound {P : Program} {w : World} {G : Gh} {a : AV} {v : Value} {n : Int} {y : Nat} {code : BoundsCode} (ha : VRel G a v) (hb : ∀ d,bnd d (some a) = some n) (h0 : 0 ≤ n) (h1 : n ≤ y) :
    (Instr.sliceBound v y code).run P w = .ok n.toNat w := by
  have := hb 0
  cases ha <;> simp only [bnd] at this <;> first
    | (cases this; done)
    | skip
  injection this with this
  subst this
  simp [Instr.sliceBound,asIntOf,h0,h1]
theorem bnd_some {d d' : Int} {a : AV} {n : Int} (h : bnd d (some a) = some n) : bnd d' (some a) = some n := by
  cases a <;> simp_all [bnd]
theorem run_sliceBounds {P : Program} {w : World} {G : Gh} {lo hi mx : Option AV} {lo' hi' mx' : Option Value} (hlo : ORel G lo lo') (hhi : ORel G hi hi') (hmx : ORel G mx mx') {b : Bool} {len cap : Nat} {l h m : Int}
    (el : bnd 0 lo = some l) (eh : bnd len hi = some h) (em : bnd cap mx = some m) (h0 : 0 ≤ l) (h1 : l ≤ h) (h2 : h ≤ m) (h3 : m ≤ cap) (hm : mx = none ∨ hi ≠ none) :
    (Instr.sliceBounds b len cap lo' hi' mx').run P w = .ok (l.toNat,h.toNat,m.toNat) w := by
  have rm : ∀ (code : BoundsCode) (v : Value),mx' = some v → (Instr.sliceBound v cap code).run P w = .ok m.toNat w := by
    intro code v hv
    subst hv
    cases mx with
    | none => exact hmx.elim
    | some a => exact run_sliceBound hmx (fun d => bnd_some em) (by omega) h3
  have nm : mx' = none → m.toNat = cap := by
    intro e
    subst e
    cases mx with
    | none => simp [bnd] at em; subst em; simp
    | some a => exact hmx.elim
  have rh : ∀ y : Nat,h ≤ y → ∀ (code : BoundsCode) (v : Value),hi' = some v → (Instr.sliceBound v y code).run P w = .ok h.toNat w := by
    intro y hy code v hv
    subst hv
    cases hi with
    | none => exact hhi.elim
    | some a => exact run_sliceBound hhi (fun d => bnd_some eh) (by omega) hy
  have nh : hi' = none → mx' = none ∧ h.toNat = len := by
    intro e
    subst e
    cases hi with
    | none =>
      have hmn : mx = none := hm.resolve_right (by simp)
      subst hmn
      cases mx' with
      | some v => exact hmx.elim
      | none => simp [bnd] at eh; subst eh; simp
    | some a => exact hhi.elim
  have rl : ∀ (code : BoundsCode) (v : Value),lo' = some v → (Instr.sliceBound v h.toNat code).run P w = .ok l.toNat w := by
    intro code v hv
    subst hv
    cases lo with
    | none => exact hlo.elim
    | some a => exact run_sliceBound hlo (fun d => bnd_some el) h0 (by omega)
  have nl : lo' = none → l.toNat = 0 := by
    intro e
    subst e
    cases lo with
    | none => simp [bnd] at el; subst el; simp
    | some a => exact hlo.elim
  clear hlo hhi hmx
  have hhm : h ≤ (m.toNat : Int) := by omega
  unfold Instr.sliceBounds
  cases hi' with
  | some v =>
    cases mx' with
    | some v2 =>
      cases lo' with
      | some v3 => simp only [Sem.run_bind,rm _ v2 rfl,Result.andThen_ok,rh m.toNat hhm _ v rfl,rl _ v3 rfl,Sem.run_pure]
      | none => simp only [Sem.run_bind,rm _ v2 rfl,Result.andThen_ok,rh m.toNat hhm _ v rfl,nl rfl,Sem.run_pure]
    | none =>
      rw [nm rfl] at hhm ⊢
      cases lo' with
      | some v3 => simp only [Sem.run_bind,Result.andThen_ok,rh cap hhm _ v rfl,rl _ v3 rfl,Sem.run_pure]
      | none => simp only [Sem.run_bind,Result.andThen_ok,rh cap hhm _ v rfl,nl rfl,Sem.run_pure]
  | none =>
    obtain ⟨rfl,e⟩ := nh rfl
    rw [nm rfl]
    rw [e] at rl ⊢
    cases lo' with
    | some v3 => simp only [Sem.run_bind,Result.andThen_ok,rl _ v3 rfl,Sem.run_pure]
    | none => simp only [Sem.run_bind,Result.andThen_ok,nl rfl,Sem.run_pure]
def slStrEv (x : AV) (lo hi : Option AV) : Option AV :=
  match x with
  | .str s => (bnd 0 lo).bind fun l => (bnd s.length hi).map fun h => .str ((s.take h.toNat).drop l.toNat)
  | _ => none
def slStrOb (x : AV) (lo hi : Option AV) : Prop :=
  match x with
  | .str s => match bnd 0 lo,bnd s.length hi with
    | some l,some h => 0 ≤ l ∧ l ≤ h ∧ h ≤ s.length
    | _,_ => True
  | _ => True
theorem run_slStr {P : Program} {w : World} {G : Gh} {t : TypeId} {x r : AV} {u : Value} {lo hi : Option AV} {lo' hi' : Option Value} (hx : VRel G x u) (hlo : ORel G lo lo') (hhi : ORel G hi hi')
    (ht : P.underlying t = some .string) (hob : slStrOb x lo hi) (he : slStrEv x lo hi = some r) : ∃ z,(Instr.sliceAt t u lo' hi' none).run P w = .ok z w ∧ VRel G r z := by
  cases hx <;> simp only [slStrEv] at he <;> first
    | (cases he; done)
    | skip
  rename_i s
  simp only [Option.bind_eq_some_iff,Option.map_eq_some_iff] at he
  obtain ⟨l,el,h,eh,rfl⟩ := he
  simp only [slStrOb,el,eh] at hob
  obtain ⟨h0,h1,h2⟩ := hob
  refine ⟨_,?_,.str _⟩
  have hb := run_sliceBounds (P := P) (w := w) (mx := none) (mx' := none) (b := false) (len := s.length) (cap := s.length) (m := s.length) hlo hhi trivial el eh rfl h0 h1 h2 (Int.le_refl _) (.inl rfl)
  have hsz : (ByteArray.mk s.toArray).size = s.length := by simp [ByteArray.size]
  simp only [Instr.sliceAt,Sem.run_bind,run_und ht,Result.andThen_ok,Instr.slice,hsz,hb,Option.isSome_none,Bool.false_eq_true,if_false,Sem.run_pure]
  congr 2
  apply ByteArray.ext
  apply Array.ext'
  simp [List.drop_take]
def slVecEv (k : Nat) (x : AV) (lo hi mx : Option AV) : Option AV :=
  match x with
  | .sl k' xs t =>
    if k' = k then
      (bnd 0 lo).bind fun l => (bnd xs.length hi).bind fun h =>
        match mx with
        | none => some (.sl k ((xs.take h.toNat).drop l.toNat) (if lo.isNone && hi.isNone then t else .unk))
        | some _ => (bnd 0 mx).map fun m => .sl k ((xs.take h.toNat).drop l.toNat) (if m = h then .exact else .unk)
    else none
  | .osl k' n ob o =>
    if k' = k then
      match mx with
      | none => (bnd 0 lo).bind fun l => (bnd n hi).map fun h => if l < h then .osl k (h.toNat - l.toNat) ob (o + l.toNat * k) else .sl k [] .unk
      | some _ => none
    else none
  | _ => none
def slVecOb (x : AV) (lo hi mx : Option AV) : Prop :=
  match x with
  | .sl _ xs _ => match bnd 0 lo,bnd xs.length hi with
    | some l,some h => 0 ≤ l ∧ l ≤ h ∧ h ≤ xs.length ∧ (match mx with
      | none => True
      | some _ => match bnd 0 mx with
        | some m => h ≤ m ∧ m ≤ xs.length ∧ hi.isSome = true
        | none => True)
    | _,_ => True
  | .osl _ n _ _ => match bnd 0 lo,bnd n hi with
    | some l,some h => 0 ≤ l ∧ l ≤ h ∧ h ≤ n
    | _,_ => True
  | _ => True
theorem sl_part {G : Gh} {k : Nat} {xs : List AV} {r b : Nat} {f : Nat → Value} (hk : ∀ x ∈ xs,x.cells.length = k)
    (hp : ∀ (m : Nat) (c : AV),(flat xs)[m]? = some c → G.φ r (b + m) = some (f m))
    (ho : ∀ (m : Nat) (c : AV),(flat xs)[m]? = some c → (f m).oneCell' = true)
    (hv : ∀ (m : Nat) (c : AV),(flat xs)[m]? = some c → VRel G c (f m)) {l h : Nat} (hl : l ≤ h) (hh : h ≤ xs.length) {t : STok} {cap : Nat} (hc : h - l ≤ cap)
    (ht : TokOK G t r (b + l * k + (h - l) * k) (b + l * k + cap * k)) : VRel G (.sl k ((xs.take h).drop l) t) (.slice (some ⟨r,b + l * k,none⟩) (h - l) cap) := by
  have hlen : ((xs.take h).drop l).length = h - l := by simp; omega
  have hk' : ∀ x ∈ (xs.take h).drop l,x.cells.length = k := fun x hx => hk x (List.mem_of_mem_take (List.mem_of_mem_drop hx))
  have key : ∀ (m : Nat) (c : AV),(flat ((xs.take h).drop l))[m]? = some c → (flat xs)[l * k + m]? = some c := by
    intro m c e
    rcases Nat.eq_zero_or_pos k with hk0 | hk0
    · have h0 : (flat ((xs.take h).drop l)).length = 0 := by rw [flat_length hk',hk0,Nat.mul_zero]
      rw [List.getElem?_eq_none (by omega)] at e
      cases e
    · have hm : m = m / k * k + m % k := by have := Nat.div_add_mod m k; rw [Nat.mul_comm] at this; omega
      rw [hm,flat_get hk' (Nat.mod_lt _ hk0)] at e
      rw [hm,← Nat.add_assoc,← Nat.add_mul,flat_get hk (Nat.mod_lt _ hk0)]
      rw [List.getElem?_drop,List.getElem?_take] at e
      split at e
      · exact e
      · simp at e
  rw [← hlen]
  refine .sl (fun m => f (l * k + m)) hk' (fun m c e => ?_) (fun m c e => ho _ c (key m c e)) (fun m c e => hv _ c (key m c e)) (by omega) (by rw [hlen]; exact ht)
  have := hp _ c (key m c e)
  rwa [← Nat.add_assoc] at this
def slTok (tk : STok) (lo hi mx : Option AV) (m h : Int) : STok := if mx.isSome then (if m = h then .exact else .unk) else (if lo.isNone && hi.isNone then tk else .unk)
theorem run_slVec {P : Program} {w : World} {G : Gh} {t e : TypeId} {k : Nat} {x r : AV} {u : Value} {lo hi mx : Option AV} {lo' hi' mx' : Option Value} (hx : VRel G x u) (hlo : ORel G lo lo') (hhi : ORel G hi hi') (hmx : ORel G mx mx')
    (ht : P.underlying t = some (.slice e)) (hs : sizeIs P e k = true) (hob : slVecOb x lo hi mx) (he : slVecEv k x lo hi mx = some r) : ∃ z,(Instr.sliceAt t u lo' hi' mx').run P w = .ok z w ∧ VRel G r z := by
  by_cases hosl : ∃ k' n ob o,x = .osl k' n ob o
  · obtain ⟨k',n,ob,o,rfl⟩ := hosl
    cases hx with
    | osl _ h1 hc hz =>
      rename_i r cap
      simp only [slVecEv] at he
      split at he
      rotate_left
      · cases he
      rename_i hk
      subst hk
      cases mx with
      | some a => simp at he
      | none =>
        simp only [Option.bind_eq_some_iff,Option.map_eq_some_iff] at he
        obtain ⟨l,el,h,eh,rfl⟩ := he
        simp only [slVecOb,el,eh] at hob
        obtain ⟨h0,h2,h3⟩ := hob
        have hb := run_sliceBounds (P := P) (w := w) (b := true) (len := n) (cap := cap) hlo hhi hmx el eh (show bnd cap none = some (cap : Int) from rfl) h0 (by omega) (by omega) (Int.le_refl _) (.inl rfl)
        by_cases hlh : l < h
        · rw [if_pos hlh]
          refine ⟨.slice (some ⟨r,o + l.toNat * k',none⟩) (h.toNat - l.toNat) ((cap : Int).toNat - l.toNat),?_,.osl _ h1 (by omega) ?_⟩
          · simp only [Instr.sliceAt,Sem.run_bind,run_und ht,Result.andThen_ok,Instr.slice,hb,run_sizeIs hs,Sem.run_pure]
            rw [if_neg (by omega)]
            simp [add_none]
          · refine Nat.le_trans (Nat.le_of_eq ?_) hz
            rw [Nat.add_assoc,← Nat.add_mul]
            congr 2
            omega
        · rw [if_neg hlh]
          refine ⟨.slice (if (cap : Int).toNat = l.toNat then some ⟨r,o,none⟩ else some ⟨r,o + l.toNat * k',none⟩) (h.toNat - l.toNat) ((cap : Int).toNat - l.toNat),?_,?_⟩
          · simp only [Instr.sliceAt,Sem.run_bind,run_und ht,Result.andThen_ok,Instr.slice,hb,run_sizeIs hs,Sem.run_pure]
            simp [add_none]
          have e0 : h.toNat - l.toNat = 0 := by omega
          have key : ∀ b c,VRel G (.sl k' [] .unk) (.slice (some ⟨r,b,none⟩) 0 c) := fun b c => .sl (xs := []) (fun _ => undef) (by simp) (by simp) (by simp) (by simp) (by simp) trivial
          rw [e0]
          split
          · exact key _ _
          · exact key _ _
  have hxs : ∃ xs tk,x = .sl k xs tk := by
    cases hx <;> simp only [slVecEv] at he <;> first
      | (cases he; done)
      | exact absurd ⟨_,_,_,_,rfl⟩ hosl
      | (split at he
         · rename_i hk
           subst hk
           exact ⟨_,_,rfl⟩
         · cases he)
  obtain ⟨xs,tk,rfl⟩ := hxs
  simp only [slVecEv,if_true,Option.bind_eq_some_iff] at he
  obtain ⟨l,el,h,eh,he⟩ := he
  simp only [slVecOb,el,eh] at hob
  obtain ⟨h0,h1,h2,h3⟩ := hob
  obtain ⟨base,cap,rfl,hcap⟩ : ∃ base cap,u = .slice base xs.length cap ∧ xs.length ≤ cap := by
    cases hx with
    | slnil => exact ⟨_,0,rfl,Nat.le_refl _⟩
    | sl f hk hp ho hv hc htk => exact ⟨_,_,rfl,hc⟩
  obtain ⟨m,em,h4,h5,hm,hr⟩ : ∃ m : Int,bnd cap mx = some m ∧ h ≤ m ∧ m ≤ cap ∧ (mx = none ∨ hi ≠ none) ∧
      r = .sl k ((xs.take h.toNat).drop l.toNat) (slTok tk lo hi mx m h) := by
    cases mx with
    | none =>
      simp only [Option.some.injEq] at he
      exact ⟨cap,rfl,by omega,Int.le_refl _,.inl rfl,he.symm⟩
    | some a =>
      simp only [Option.map_eq_some_iff] at he
      obtain ⟨m,em,he⟩ := he
      rw [em] at h3
      obtain ⟨h4,h5,h6⟩ := h3
      exact ⟨m,bnd_some em,h4,by omega,.inr (by intro e; rw [e] at h6; cases h6),he.symm⟩
  have hb := run_sliceBounds (P := P) (w := w) (b := true) (len := xs.length) (cap := cap) hlo hhi hmx el eh em h0 h1 h4 h5 hm
  have hrun : (Instr.sliceAt t (.slice base xs.length cap) lo' hi' mx').run P w = .ok (.slice (if m.toNat = l.toNat then base else base.map (·.add (l.toNat * k))) (h.toNat - l.toNat) (m.toNat - l.toNat)) w := by
    simp only [Instr.sliceAt,Sem.run_bind,run_und ht,Result.andThen_ok,Instr.slice,hb,run_sizeIs hs,Sem.run_pure]
  refine ⟨_,hrun,?_⟩
  subst hr
  have hl' : l.toNat ≤ h.toNat := by omega
  have hh' : h.toNat ≤ xs.length := by omega
  cases hx with
  | slnil =>
    have e1 : l.toNat = 0 := by simp at hh'; omega
    have e2 : h.toNat = 0 := by simpa using hh'
    have e3 : m.toNat = 0 := by omega
    simp only [e1,e2,e3,if_true,List.take_nil,List.drop_nil,Nat.sub_self]
    exact .slnil _ _ _
  | sl f hk hp ho hv hc htk =>
    rename_i rb b
    by_cases hml : m.toNat = l.toNat
    · have hhl : h.toNat = l.toNat := by omega
      have hnil : (xs.take h.toNat).drop l.toNat = [] := by
        apply List.eq_nil_of_length_eq_zero
        simp; omega
      simp only [hml,if_true,hhl,Nat.sub_self]
      have hz := VRel.sl (G := G) (k := k) (xs := []) (t := slTok tk lo hi mx m h) (r := rb) (b := b) (cap := 0) f (by simp) (by simp) (by simp) (by simp) (Nat.le_refl _) (by
        unfold slTok
        cases mx with
        | some a =>
          simp only [Option.isSome_some,if_true]
          split
          · rfl
          · trivial
        | none =>
          simp only [Option.isSome_none,Bool.false_eq_true,if_false]
          split
          · rename_i hn
            simp only [Bool.and_eq_true,Option.isNone_iff_eq_none] at hn
            obtain ⟨rfl,rfl⟩ := hn
            simp only [bnd,Option.some.injEq] at em el eh
            subst el em eh
            have hc0 : cap = 0 := by simpa using hml
            have hx0 : xs.length = 0 := by omega
            simp only [hc0,hx0] at htk
            simpa using htk
          · trivial)
      simpa using hz
    · simp only [hml,if_false,Option.map_some,add_none]
      refine sl_part hk hp ho hv hl' hh' (by omega) ?_
      unfold slTok
      cases mx with
      | some a =>
        simp only [Option.isSome_some,if_true]
        split
        · rename_i hmh
          subst hmh
          rfl
        · trivial
      | none =>
        simp only [Option.isSome_none,Bool.false_eq_true,if_false]
        split
        · rename_i hn
          simp only [Bool.and_eq_true,Option.isNone_iff_eq_none] at hn
          obtain ⟨rfl,rfl⟩ := hn
          simp only [bnd,Option.some.injEq] at em el eh
          subst el em eh
          simpa using htk
        · trivial
end Go.V
namespace Go.V
open Go
def lenEv : AV → Option AV
  | .sl _ xs _ => some (.int .i64 xs.length)
  | .osl _ n _ _ => some (.int .i64 n)
  | .str s => some (.int .i64 s.length)
  | _ => none
def lenTy (P : Program) (s : Bool) (t : TypeId) : Bool :=
  match P.underlying t with
  | some .string => s
  | some (.slice _) => !s
  | _ => false
def isStr : AV → Bool
  | .str _ => true
  | _ => false
theorem run_len {P : Program} {w : World} {G : Gh} {t ty : TypeId} {x r : AV} {u : Value} (hx : VRel G x u) (ht : lenTy P (isStr x) t = true) (he : lenEv x = some r) :
    ∃ z,(Builtin.len_ #[t] ty #[u]).run P w = .ok z w ∧ VRel G r z := by
  unfold lenTy at ht
  cases hx <;> simp only [lenEv] at he <;> first
    | (cases he; done)
    | (injection he with he; subst he)
  all_goals
    split at ht
    · rename_i h
      first
        | (cases ht; done)
        | (refine ⟨_,?_,.int _ _⟩
           have hsz : ∀ s : List UInt8,(ByteArray.mk s.toArray).size = s.length := fun s => by simp [ByteArray.size]
           simp only [Builtin.len_,Sem.run_bind,List.getElem?_toArray,List.getElem?_cons_zero,run_und h,Result.andThen_ok,goInt,hsz,Sem.run_pure])
    · rename_i h
      first
        | (cases ht; done)
        | (refine ⟨_,?_,.int _ _⟩
           simp [Builtin.len_,run_und h,goInt])
    · cases ht
def kindTy (P : Program) (t : TypeId) (k : IntKind) : Bool :=
  match P.underlying t with
  | some (.int k') => k == k'
  | _ => false
theorem run_conv {P : Program} {w : World} {G : Gh} {s d : TypeId} {k : IntKind} {x : AV} {u : Value} {n : Int} {k0 : IntKind} (hx : VRel G x u) (e : x = .int k0 n) (hs : known P s = true) (hd : kindTy P d k = true) :
    (convert s d u).run P w = .ok (.int k (k.wrap n)) w := by
  subst e
  cases hx
  unfold known at hs
  unfold kindTy at hd
  cases e1 : P.underlying s with
  | none => rw [e1] at hs; cases hs
  | some ds =>
    split at hd
    · rename_i k' e2
      have : k = k' := by simpa using hd
      subst this
      simp only [convert,Sem.run_bind,run_und e1,run_und e2,Result.andThen_ok]
      rfl
    · cases hd
def isStrTy (P : Program) (t : TypeId) : Bool :=
  match P.underlying t with
  | some .string => true
  | _ => false
theorem run_convStr {P : Program} {w : World} {G : Gh} {s d : TypeId} {a : List UInt8} {u : Value} (hx : VRel G (.str a) u) (hs : isStrTy P s = true) (hd : isStrTy P d = true) :
    (convert s d u).run P w = .ok u w := by
  cases hx
  unfold isStrTy at hs hd
  split at hs
  · rename_i e1
    split at hd
    · rename_i e2
      simp only [convert,Sem.run_bind,run_und e1,run_und e2,Result.andThen_ok]
      rfl
    · cases hd
  · cases hs
def unbyte : AV → Option UInt8
  | .int .u8 n => if 0 ≤ n ∧ n < 256 then some (UInt8.ofNat n.toNat) else none
  | _ => none
def strOf : List AV → Option (List UInt8)
  | [] => some []
  | x :: xs => (unbyte x).bind fun b => (strOf xs).map fun s => b :: s
theorem unbyte_byteAV (b : UInt8) : unbyte (byteAV b) = some b := by
  have : (b.toNat : Int) < 256 := by have := b.toNat_lt; omega
  simp [unbyte,byteAV,this]
theorem strOf_bytes (s : List UInt8) : strOf (s.map byteAV) = some s := by
  induction s with
  | nil => rfl
  | cons b s ih => simp [strOf,unbyte_byteAV,ih]
def byteTy (P : Program) (t : TypeId) : Bool :=
  match P.underlying t with
  | some (.slice e) => kindTy P e .u8 && sizeIs P e 1
  | _ => false
theorem strOf_spec : ∀ {xs : List AV} {s : List UInt8},strOf xs = some s → ∃ ns : List Int,xs = ns.map (AV.int .u8) ∧ s = ns.map (fun n => UInt8.ofNat n.toNat)
  | [],s,h => by simp [strOf] at h; exact ⟨[],rfl,by simp [← h]⟩
  | x :: xs,s,h => by
    simp only [strOf,Option.bind_eq_some_iff,Option.map_eq_some_iff] at h
    obtain ⟨b,h1,t,h2,rfl⟩ := h
    obtain ⟨ns,rfl,rfl⟩ := strOf_spec h2
    unfold unbyte at h1
    split at h1
    · rename_i n
      split at h1
      · injection h1 with h1
        exact ⟨n :: ns,rfl,by simp [h1]⟩
      · cases h1
    · cases h1
theorem foldl_push (ns : List Int) : ∀ (b : ByteArray),ns.foldl (fun r n => r.push (UInt8.ofNat n.toNat)) b = ⟨b.data ++ (ns.map fun n => UInt8.ofNat n.toNat).toArray⟩ := by
  induction ns with
  | nil => intro b; cases b; simp
  | cons n ns ih =>
    intro b
    rw [List.foldl_cons,ih]
    congr 1
    simp [ByteArray.push]
theorem run_b2s {P : Program} {wb : Base} {G : Gh} {S : St} {w : World} (h : StRel wb G S w) {s d : TypeId} {xs : List AV} {tk : STok} {a : List UInt8} {u : Value} (hx : VRel G (.sl 1 xs tk) u) (ha : strOf xs = some a) (hs : byteTy P s = true) (hd : isStrTy P d = true) :
    ∃ z,(convert s d u).run P w = .ok z w ∧ VRel G (.str a) z := by
  unfold byteTy at hs
  split at hs
  · rename_i e he
    simp only [Bool.and_eq_true] at hs
    obtain ⟨hs1,hs2⟩ := hs
    have he2 : P.underlying e = some (.int .u8) := by
      unfold kindTy at hs1
      split at hs1
      · rename_i k' e2
        have : IntKind.u8 = k' := by simpa using hs1
        subst this
        exact e2
      · cases hs1
    have hd2 : P.underlying d = some .string := by
      unfold isStrTy at hd
      split at hd
      · assumption
      · cases hd
    refine ⟨_,?_,.str a⟩
    cases hx with
    | slnil =>
      simp [strOf] at ha
      subst ha
      rename_i ad
      rw [run_convert_bytes_string w s d e ad 0 0 he he2 hd2]
      cases ad
      · simp [Conv.bytesToString]
        rfl
      · simp [Conv.bytesToString,loadCells,loadCellsFrom]
        rfl
    | sl f hk hp ho hv hc ht =>
      rename_i r b cap
      obtain ⟨ns,rfl,rfl⟩ := strOf_spec ha
      rw [run_convert_bytes_string w s d e _ _ _ he he2 hd2]
      have hat : At w G r b (flat (ns.map (AV.int .u8))) := At.of_row h hp ho hv
      have hfl : flat (ns.map (AV.int .u8)) = ns.map (AV.int .u8) := by
        clear hk hp ho hv ha hat hc ht
        induction ns with
        | nil => rfl
        | cons n ns ih => rw [List.map_cons,flat_cons,ih]; rfl
      rw [hfl] at hat
      have hl := run_loadCells_list (P := P) w ⟨r,b,none⟩ (ns.map (Value.int .u8)) (fun j v e => by
        rw [add_none]
        simp only [List.getElem?_map,Option.map_eq_some_iff] at e
        obtain ⟨n,hn,rfl⟩ := e
        obtain ⟨v,h1,h2,_⟩ := hat j (.int .u8 n) (by simp [hn])
        cases h2
        exact h1)
      rw [List.length_map] at hl
      rw [List.length_map,run_bytesToString w _ _ _ ns hl,foldl_push]
      congr 3
      simp [ByteArray.empty,ByteArray.emptyWithCapacity]
      rfl
  · cases hs
theorem run_part_gen {P : Program} {w : World} {G : Gh} {t : TypeId} {n o : Nat} {ag : Bool} {cs : List AV} {vs : List Value} {r : AV} (hc : CRel G cs vs) (hk : known P t = true) (ha : isAggB P t = ag) (hs : sizeIs P t n = true)
    (he : pickCells n ag (cs.drop o) = some r) : ∃ z,(part t vs.toArray o).run P w = .ok z w ∧ VRel G r z := by
  simp only [part,Sem.run_bind,run_isAggB hk,Result.andThen_ok,ha]
  unfold pickCells at he
  cases ag with
  | true =>
    simp only [if_true] at he ⊢
    split at he
    · rename_i hn
      injection he with he
      subst he
      have hl := hc.len
      simp at hn
      refine ⟨.agg ((vs.drop o).take n).toArray,?_,.agg (by simp; omega) ?_ ?_⟩
      · simp only [Sem.run_bind,run_sizeIs hs,Result.andThen_ok,Sem.run_pure]
        congr 2
        apply Array.ext'
        simp
      · intro v hv
        exact hc.one v (List.mem_of_mem_drop (List.mem_of_mem_take hv))
      · intro m c v h1 h2
        rw [List.getElem?_take,List.getElem?_drop] at h1 h2
        by_cases hm : m < n
        · rw [if_pos hm] at h1 h2
          exact hc.rel _ c v h1 h2
        · rw [if_neg hm] at h1
          cases h1
    · cases he
  | false =>
    simp only [Bool.false_eq_true,if_false] at he ⊢
    rw [List.getElem?_drop] at he
    obtain ⟨v,h1,h2,_⟩ := hc.get he
    rw [Nat.add_zero] at h1
    exact ⟨v,by simp [h1],h2⟩
def fldEv (off n : Nat) (ag : Bool) : AV → Option AV
  | .agg cs => pickCells n ag (cs.drop off)
  | _ => none
def fldTy (P : Program) (s : TypeId) (f off n : Nat) (ag : Bool) : Bool :=
  match P.underlying s with
  | some (.struct fs) => match fs[f]? with
    | some fd => fd.offset == off && known P fd.type && (isAggB P fd.type == ag) && sizeIs P fd.type n
    | none => false
  | _ => false
theorem run_field {P : Program} {w : World} {G : Gh} {s : TypeId} {f off n : Nat} {ag : Bool} {x r : AV} {u : Value} (hx : VRel G x u) (ht : fldTy P s f off n ag = true) (he : fldEv off n ag x = some r) :
    ∃ z,(Instr.field s u f).run P w = .ok z w ∧ VRel G r z := by
  cases hx <;> simp only [fldEv] at he <;> first
    | (cases he; done)
    | skip
  rename_i cs vs hl ho hv
  unfold fldTy at ht
  split at ht
  · rename_i fs hfs
    split at ht
    · rename_i fd hfd
      simp only [Bool.and_eq_true,beq_iff_eq] at ht
      obtain ⟨⟨⟨h1,h2⟩,h3⟩,h4⟩ := ht
      subst h1
      obtain ⟨z,h5,h6⟩ := run_part_gen (P := P) (w := w) (CRel.mk hl ho hv) h2 h3 h4 he
      exact ⟨z,by simp only [Instr.field,Sem.run_bind,run_und hfs,Result.andThen_ok,hfd,asAgg,Sem.run_pure,h5],h6⟩
    · cases ht
  · cases ht
def iarrEv (k len : Nat) (ag : Bool) (x i : AV) : Option AV :=
  match x,i with
  | .agg cs,.int _ n => if 0 ≤ n ∧ n < len then pickCells k ag (cs.drop (n.toNat * k)) else none
  | _,_ => none
def iarrTy (P : Program) (t : TypeId) (k len : Nat) (ag : Bool) : Bool :=
  match P.underlying t with
  | some (.array n e) => n == len && known P e && (isAggB P e == ag) && sizeIs P e k
  | _ => false
theorem run_iarr {P : Program} {w : World} {G : Gh} {t : TypeId} {k len : Nat} {ag : Bool} {x i r : AV} {u v : Value} (hx : VRel G x u) (hi : VRel G i v) (ht : iarrTy P t k len ag = true) (he : iarrEv k len ag x i = some r) :
    ∃ z,(Instr.index t u v).run P w = .ok z w ∧ VRel G r z := by
  cases hx <;> cases hi <;> simp only [iarrEv] at he <;> first
    | (cases he; done)
    | skip
  rename_i cs vs hl ho hv ki n
  split at he
  · rename_i hn
    unfold iarrTy at ht
    split at ht
    · rename_i m e hme
      simp only [Bool.and_eq_true,beq_iff_eq] at ht
      obtain ⟨⟨⟨h1,h2⟩,h3⟩,h4⟩ := ht
      subst h1
      obtain ⟨z,h5,h6⟩ := run_part_gen (P := P) (w := w) (CRel.mk hl ho hv) h2 h3 h4 he
      exact ⟨z,by simp only [Instr.index,Sem.run_bind,asIntOf,Sem.run_pure,run_und hme,Result.andThen_ok,hn,and_self,if_true,run_sizeIs h4,h5],h6⟩
    · cases ht
  · cases he
def extEv (i : Nat) : AV → Option AV
  | .tup vs => vs[i]?
  | _ => none
theorem run_ext {P : Program} {w : World} {G : Gh} {i : Nat} {x r : AV} {u : Value} (hx : VRel G x u) (he : extEv i x = some r) : ∃ z,(Instr.extract u i).run P w = .ok z w ∧ VRel G r z := by
  cases hx <;> simp only [extEv] at he <;> first
    | (cases he; done)
    | skip
  rename_i cs vs hl hv
  have hi : i < vs.length := by
    rcases Nat.lt_or_ge i cs.length with h | h
    · omega
    · rw [List.getElem?_eq_none h] at he; cases he
  exact ⟨vs[i],by simp [Instr.extract,hi],hv i r _ he (by simp [hi])⟩
def concreteTy (P : Program) (t : TypeId) : Bool :=
  match P.underlying t with
  | some (.interface _) => false
  | some _ => true
  | none => false
theorem run_ifc {P : Program} {w : World} {t : TypeId} {u : Value} (ht : concreteTy P t = true) : (Instr.makeInterface t u).run P w = .ok (.iface t u) w := by
  unfold concreteTy at ht
  cases e : P.underlying t with
  | none => rw [e] at ht; cases ht
  | some d =>
    rw [e] at ht
    simp only [Instr.makeInterface,Sem.run_bind,run_und e,Result.andThen_ok]
    cases d <;> first
      | rfl
      | cases ht
def minEv (x y : AV) : Option AV :=
  match x,y with
  | .int k a,.int _ b => some (.int k (if b < a then b else a))
  | _,_ => none
theorem run_min {P : Program} {w : World} {G : Gh} {ts : Array TypeId} {ty : TypeId} {x y r : AV} {u v : Value} (hx : VRel G x u) (hy : VRel G y v) (he : minEv x y = some r) :
    ∃ z,(Builtin.min_ ts ty #[u,v]).run P w = .ok z w ∧ VRel G r z := by
  cases hx <;> cases hy <;> simp only [minEv] at he <;> first
    | (cases he; done)
    | (injection he with he; subst he)
  exact ⟨_,rfl,.int _ _⟩
def nonNil : AV → Bool
  | .ptr _ _ | .gp _ _ | .eptr _ _ _ _ => true
  | _ => false
end Go.V
namespace Go.V
open Go
def putParts (F : Fr) : List AV → List (Nat × Nat × Opd) → Option (List AV)
  | cs,[] => some cs
  | cs,(o,n,x) :: ps => if (x.ev F).solid && (x.ev F).cells.length == n && decide (o + n ≤ cs.length) then putParts F (splice cs o (x.ev F).cells) ps else none
def partsFit (places : Nat → Option (Nat × Nat)) : List (Nat × Nat × Opd) → List (Nat × Operand) → Bool
  | [],[] => true
  | (o,n,x) :: ps,(i,y) :: qs => decide (places i = some (o,n)) && x.fits y && partsFit places ps qs
  | _,_ => false
theorem splice_length {cs ds : List AV} {o : Nat} (h : o + ds.length ≤ cs.length) : (splice cs o ds).length = cs.length := by
  simp [splice]; omega
theorem CRel.splice {G : Gh} {cs ds : List AV} {acc : Array Value} {us : List Value} (h : CRel G cs acc.toList) (hd : CRel G ds us) {o : Nat} (ho : o + ds.length ≤ cs.length) :
    CRel G (V.splice cs o ds) ((us.zipIdx.foldl (fun (cs : Array Value) (x : Value × Nat) => cs.setIfInBounds (o + x.2) x.1) acc)).toList := by
  obtain ⟨h1,h2⟩ := Great.foldl_set o us 0 acc
  have hl := h.len
  have hdl := hd.len
  simp at hl
  refine ⟨(splice_length ho).trans (hl.trans (h1.symm.trans Array.length_toList.symm)),?_,?_⟩
  · intro v hv
    obtain ⟨m,hm⟩ := List.mem_iff_getElem?.1 hv
    rw [Array.getElem?_toList,h2 m] at hm
    split at hm
    · exact hd.one v (List.mem_iff_getElem?.2 ⟨_,hm⟩)
    · exact h.one v (List.mem_iff_getElem?.2 ⟨m,by rw [Array.getElem?_toList]; exact hm⟩)
  · intro m c v hc hv
    rw [splice_get ho] at hc
    rw [Array.getElem?_toList,h2 m] at hv
    simp only [Nat.add_zero] at hv
    by_cases hin : o ≤ m ∧ m < o + ds.length
    · rw [if_pos hin] at hc
      rw [if_pos ⟨hin.1,by omega,by omega⟩] at hv
      exact hd.rel _ c v hc hv
    · rw [if_neg hin] at hc
      rw [if_neg (by omega)] at hv
      exact h.rel m c v hc (by rw [Array.getElem?_toList]; exact hv)
theorem fill_parts {G : Gh} {F : Fr} {a : Act} (hf : FRel G F a) (places : Nat → Option (Nat × Nat)) : ∀ {ps : List (Nat × Nat × Opd)} {qs : List (Nat × Operand)} {cs ds : List AV} {acc : Array Value},
    partsFit places ps qs = true → CRel G cs acc.toList → putParts F cs ps = some ds → ∃ r,Instr.fill places acc (qs.map fun p => (p.1,a.eval p.2)) = some r ∧ CRel G ds r.toList
  | [],[],cs,ds,acc,_,hc,hp => by
    simp only [putParts,Option.some.injEq] at hp
    subst hp
    exact ⟨acc,rfl,hc⟩
  | [],_ :: _,_,_,_,h,_,_ => by cases h
  | _ :: _,[],_,_,_,h,_,_ => by cases h
  | (o,n,x) :: ps,(i,y) :: qs,cs,ds,acc,h,hc,hp => by
    simp only [partsFit,Bool.and_eq_true,decide_eq_true_eq] at h
    obtain ⟨⟨h1,h2⟩,h3⟩ := h
    simp only [putParts] at hp
    split at hp
    · rename_i hcond
      simp only [Bool.and_eq_true,beq_iff_eq,decide_eq_true_eq] at hcond
      obtain ⟨⟨h4,h5⟩,h6⟩ := hcond
      have hx := (Opd.rel hf h2).cells h4
      have hxl : (a.eval y).cells.size = n := by have := hx.len; simp at this; omega
      have hacc : acc.size = cs.length := by have := hc.len; simp at this; omega
      have hc' := hc.splice hx (o := o) (by omega)
      obtain ⟨r,h7,h8⟩ := fill_parts hf places h3 hc' hp
      refine ⟨r,?_,h8⟩
      simp only [List.map_cons]
      unfold Instr.fill
      simp only [h1,hxl]
      rw [if_neg (by simp; omega),← h7]
      congr 1
      rw [← Array.foldl_toList,Array.toList_zipIdx]
    · cases hp
def placesOf (P : Program) (t : TypeId) : Option (Nat → Option (Nat × Nat)) :=
  match P.underlying t with
  | some (.struct fs) => some fun i => match fs[i]? with
    | some f => match P.info? f.type with
      | some j => some (f.offset,j.size)
      | none => none
    | none => none
  | some (.array _ e) => match P.info? e with
    | some j => some fun i => some (i * j.size,j.size)
    | none => none
  | _ => none
def fieldsKnown (P : Program) (t : TypeId) : Bool :=
  match P.underlying t with
  | some (.struct fs) => fs.all fun f => (P.info? f.type).isSome
  | _ => true
def buildTy (P : Program) (t : TypeId) (z : List AV) (ps : List (Nat × Nat × Opd)) (qs : List (Nat × Operand)) : Bool :=
  zeroIs P t z && fieldsKnown P t && (match placesOf P t with
    | some pl => partsFit pl ps qs
    | none => false)
theorem run_fieldPlaces {P : Program} {w : World} : ∀ (fs : List Field),(fs.all fun f => (P.info? f.type).isSome) = true →
    (fs.mapM fun f => do pure (f.offset,← Go.sizeOf f.type) : Sem (List (Nat × Nat))).run P w = .ok (fs.map fun f => (f.offset,((P.info? f.type).map (·.size)).getD 0)) w
  | [],_ => by simp
  | f :: fs,h => by
    simp only [List.all_cons,Bool.and_eq_true] at h
    obtain ⟨j,hj⟩ := Option.isSome_iff_exists.1 h.1
    have ih := run_fieldPlaces (P := P) (w := w) fs h.2
    simp only [List.mapM_cons,Sem.run_bind,Go.sizeOf,typeInfo,run_program,hj,Result.andThen_ok,Sem.run_pure] at ih ⊢
    rw [ih]
    simp [hj]
theorem run_build {P : Program} {w : World} {G : Gh} {F : Fr} {a : Act} (hf : FRel G F a) {t : TypeId} {z ds : List AV} {ps : List (Nat × Nat × Opd)} {qs : Array (Nat × Operand)} (ht : buildTy P t z ps qs.toList = true) (he : putParts F z ps = some ds) :
    ∃ v,(Instr.build t (qs.map fun p => (p.1,a.eval p.2))).run P w = .ok v w ∧ VRel G (.agg ds) v := by
  unfold buildTy at ht
  simp only [Bool.and_eq_true] at ht
  obtain ⟨⟨h1,h2⟩,h3⟩ := ht
  obtain ⟨zv,h4,h5⟩ := run_zeroIs h1 w
  split at h3
  · rename_i pl hpl
    obtain ⟨r,h6,h7⟩ := fill_parts hf pl h3 (acc := zv.cells) (h5 G) he
    have hqs : (qs.map fun p => (p.1,a.eval p.2)).toList = qs.toList.map fun p => (p.1,a.eval p.2) := by simp
    refine ⟨.agg r,?_,by have := VRel.agg (G := G) h7.len h7.one h7.rel; simpa using this⟩
    unfold placesOf at hpl
    split at hpl
    · rename_i fs hfs
      injection hpl with hpl
      unfold fieldsKnown at h2
      rw [hfs] at h2
      simp only [Instr.build,Sem.run_bind,h4,Result.andThen_ok,run_und hfs]
      have hm : (fs.mapM fun f => do pure (f.offset,← Go.sizeOf f.type) : Sem (Array (Nat × Nat))).run P w = .ok (fs.map fun f => (f.offset,((P.info? f.type).map (·.size)).getD 0)) w := by
        rw [← Array.toArray_toList (xs := fs),List.mapM_toArray]
        simp only [Sem.run_map]
        rw [run_fieldPlaces fs.toList (by simpa using h2)]
        simp only [Result.andThen_ok]
        congr 1
        apply Array.ext'
        simp
      rw [hm]
      simp only [Result.andThen_ok]
      have hpe : (fun i => (fs.map fun f => (f.offset,((P.info? f.type).map (·.size)).getD 0))[i]?) = pl := by
        rw [← hpl]
        funext i
        simp only [Array.getElem?_map]
        cases e : fs[i]? with
        | none => rfl
        | some f =>
          have hall := Array.all_eq_true_iff_forall_mem.1 h2 f (Array.mem_of_getElem? e)
          obtain ⟨j,hj⟩ := Option.isSome_iff_exists.1 hall
          simp [hj]
      rw [hqs,hpe,h6]
      simp
    · rename_i n e hfs
      split at hpl
      · rename_i j hj
        injection hpl with hpl
        have hs : (Go.sizeOf e).run P w = .ok j.size w := by simp [Go.sizeOf,typeInfo,hj]
        simp only [Instr.build,Sem.run_bind,h4,Result.andThen_ok,run_und hfs,hs]
        rw [hqs,hpl,h6]
        simp
      · cases hpl
    · cases hpl
  · cases h3
end Go.V
namespace Go.V
open Go
theorem sem_s2y {P : Program} {wb : Base} {G : Gh} {S : St} {w : World} (h : StRel wb G S w) {s d : TypeId} {b : List UInt8} {u : Value} (hx : VRel G (.str b) u) (hs : isStrTy P s = true) (hd : byteTy P d = true) :
    SemOK P wb G (convert s d u) w (.sl 1 (b.map byteAV) .unk) S := by
  cases hx
  unfold isStrTy at hs
  split at hs
  · rename_i e1
    unfold byteTy at hd
    split at hd
    · rename_i e he
      simp only [Bool.and_eq_true] at hd
      obtain ⟨hk0,_⟩ := hd
      unfold kindTy at hk0
      split at hk0
      · rename_i k' hk1
        have hk : P.underlying e = some (.int .u8) := by rw [hk1,← (by simpa using hk0 : IntKind.u8 = k')]
        have hrun := run_bytes_of_string (P := P) w s d e ⟨b.toArray⟩ e1 he hk
        generalize hcap : grownCap w (ByteArray.mk b.toArray).size 0 e = cap at hrun
        have hge : b.length ≤ cap := by rw [← hcap]; simpa [ByteArray.size] using grownCap_ge w (ByteArray.mk b.toArray).size 0 e
        have hrow : bytesRow (ByteArray.mk b.toArray) cap = ((b.map fun x => Value.int .u8 x.toNat) ++ List.replicate (cap - b.length) (Value.int .u8 0)).toArray := by
          apply Array.ext'
          simp [bytesRow,ByteArray.size]
        rw [hrow] at hrun
        obtain ⟨G',h1,h2,h3,h4,h5⟩ := h.drew.promise (E := e) (fr := (((b.map fun x => Value.int .u8 x.toNat) ++ List.replicate (cap - b.length) (Value.int .u8 0)).toArray.size,((b.map fun x => Value.int .u8 x.toNat) ++ List.replicate (cap - b.length) (Value.int .u8 0)).toArray.size + 1))
          (row := (b.map fun x => Value.int .u8 x.toNat) ++ List.replicate (cap - b.length) (Value.int .u8 0)) (vs := b.map fun x => Value.int .u8 x.toNat)
          (fun j v e' => by
            rw [List.getElem?_append_left (by
              rcases Nat.lt_or_ge j (b.map fun x => Value.int .u8 x.toNat).length with h' | h'
              · exact h'
              · rw [List.getElem?_eq_none h'] at e'; cases e')]
            exact e')
        refine ⟨_,_,G',hrun,h1,h4,?_⟩
        have hsz : (ByteArray.mk b.toArray).size = (b.map byteAV).length := by simp [ByteArray.size]
        rw [hsz]
        exact sl_of_row (G := G') (k := 1) (xs := b.map byteAV) (t := .unk) (r := w.heap.size) (b := 0) (cap := cap) (fun x hm => by obtain ⟨y,_,rfl⟩ := List.mem_map.1 hm; rfl)
          (by rw [byte_cells]; exact (bytes_rel G' b)) (fun j v e' => by rw [Nat.zero_add]; rw [show w.heap.size = w.drew.heap.size from rfl,h5]; exact e') (by simpa using hge) trivial
      · cases hk0
    · cases hd
  · cases hs
theorem sem_mkCap {P : Program} {wb : Base} {G : Gh} {S : St} {w : World} (h : StRel wb G S w) {t e : TypeId} {i : TypeInfo} {z : Value} {k : Nat} {kl kc : IntKind} {c : Int} (ht : P.underlying t = some (.slice e)) (hi : P.info? e = some i) (hz : i.zero = some z)
    (h0 : 0 ≤ c) (hb : (i.bytes : Int) * c ≤ 281474976710656) (h63 : c ≤ 9223372036854775807) (hk : i.size = k) :
    SemOK P wb G (Instr.makeSlice t (.int kl 0) (.int kc c)) w (.sl k [] (.tok S.nt)) { S with nt := S.nt + 1,live := S.nt :: S.live } := by
  have hrun := run_make (P := P) w t e i z ht hi hz kl kc 0 c (Int.le_refl _) h0 hb h63
  have hm : madeCells z.cells (c.toNat * i.size) = ([] ++ (madeCells z.cells (c.toNat * i.size)).toList).toArray := by simp
  obtain ⟨G',g1,g2,g3,g4,g5⟩ := h.rowTok (E := e) (vs := []) (rest := (madeCells z.cells (c.toNat * i.size)).toList)
  rw [hm] at hrun
  refine ⟨_,_,G',hrun,g1,g5,?_⟩
  have := VRel.sl (G := G') (k := k) (xs := []) (t := .tok S.nt) (r := w.heap.size) (b := 0) (cap := c.toNat) (fun _ => undef) (by simp) (by simp) (by simp) (by simp) (Nat.zero_le _) (by
    show G'.τ S.nt = _
    rw [g3]
    simp [size_madeCells,hk])
  simpa using this
def cmpEv : Nat → AV → AV → Option Bool
  | 0,.bool a,.bool b => some (a == b)
  | 1,.nili,.nili => some true
  | 1,.ifc _ _,.nili => some false
  | 2,.nilp,.nilp => some true
  | 2,.ptr _ _,.nilp => some false
  | 2,.gp _ _,.nilp => some false
  | 2,.eptr _ _ _ _,.nilp => some false
  | _,_,_ => none
def cmpTy (P : Program) (t : TypeId) (k : Nat) (y : Operand) : Bool :=
  match P.underlying t with
  | some .bool => k == 0
  | some (.interface _) => k == 1 && (match y with
    | .const _ => true
    | _ => false)
  | some (.pointer _) => k == 2
  | _ => false
theorem equalIn_step (P : Program) (w : World) (t : TypeId) (d : TypeDesc) (hu : P.underlying t = some d) (x y : Value) (r : Bool)
    (h : ∀ n,(Op.equalIn (n + 1) t x y).run P w = .ok r w) : (Op.equal t x y).run P w = .ok r w := by
  unfold Op.equal Op.maxDepth
  exact h 9999
theorem run_cmp {P : Program} {w : World} {G : Gh} {t : TypeId} {neg : Bool} {k : Nat} {x y : AV} {ox oy : Operand} {u v : Value} {b : Bool} (hx : VRel G x u) (hy : VRel G y v) (ht : cmpTy P t k oy = true) (he : cmpEv k x y = some b) :
    ∃ z,(do eqGuard (if neg then .neq else .eql) t ox oy u v; binOp (if neg then .neq else .eql) t u v).run P w = .ok z w ∧ VRel G (.bool (neg != b)) z := by
  have fin : ∀ (u v : Value),(∀ op : BinOp,(eqGuard op t ox oy u v).run P w = .ok () w) → (Op.equal t u v).run P w = .ok b w → (binOp .eql t u v = do pure (.bool (← Op.equal t u v))) → (binOp .neq t u v = do pure (.bool (!(← Op.equal t u v)))) →
      ∃ z,(do eqGuard (if neg then .neq else .eql) t ox oy u v; binOp (if neg then .neq else .eql) t u v).run P w = .ok z w ∧ VRel G (.bool (neg != b)) z := by
    intro u v h1 h2 h3 h4
    refine ⟨.bool (neg != b),?_,.bool _⟩
    cases neg
    · simp only [Bool.false_eq_true,if_false,Sem.run_bind,h1,Result.andThen_ok,h3,h2,Sem.run_pure]
      cases b <;> rfl
    · simp only [if_true,Sem.run_bind,h1,Result.andThen_ok,h4,h2,Sem.run_pure]
      cases b <;> rfl
  unfold cmpTy at ht
  unfold cmpEv at he
  split at he <;> first
    | (cases he; done)
    | (injection he with he; subst he)
  · cases hx
    cases hy
    split at ht
    · rename_i hu
      refine fin _ _ (fun op => by unfold eqGuard; split <;> rfl) (equalIn_step P w t _ hu _ _ _ fun n => ?_) rfl rfl
      simp only [Op.equalIn,Sem.run_bind,run_und hu,Result.andThen_ok,Sem.run_pure]
    all_goals (simp at ht)
  · cases hx
    cases hy
    split at ht
    · simp at ht
    · rename_i ms hu
      simp only [Bool.and_eq_true] at ht
      have ho := ht.2
      split at ho
      · refine fin _ _ (fun op => by unfold eqGuard; split <;> simp) (equalIn_step P w t _ hu _ _ _ fun n => ?_) rfl rfl
        simp only [Op.equalIn,Sem.run_bind,run_und hu,Result.andThen_ok,Sem.run_pure]
      · cases ho
    all_goals (simp at ht)
  · cases hx
    cases hy
    split at ht
    · simp at ht
    · rename_i ms hu
      refine fin _ _ (fun op => by unfold eqGuard; split <;> rfl) (equalIn_step P w t _ hu _ _ _ fun n => ?_) rfl rfl
      simp only [Op.equalIn,Sem.run_bind,run_und hu,Result.andThen_ok,Sem.run_pure]
    all_goals (simp at ht)
  all_goals
    cases hx
    cases hy
    split at ht
    · simp at ht
    · simp at ht
    · rename_i el hu
      refine fin _ _ (fun op => by unfold eqGuard; split <;> rfl) (equalIn_step P w t _ hu _ _ _ fun n => ?_) rfl rfl
      simp only [Op.equalIn,Sem.run_bind,run_und hu,Result.andThen_ok,Sem.run_pure,Option.isNone_none]
    · simp at ht
def nnEv (neg : Bool) : AV → Option AV
  | .sl _ (_ :: _) _ => some (.bool neg)
  | .osl _ _ _ _ => some (.bool neg)
  | _ => none
def nnTy (P : Program) (t : TypeId) (y : Operand) : Bool :=
  (match P.underlying t with
   | some (.slice _) => true
   | _ => false) && (match y with
   | .const (.slice none _ _) => true
   | _ => false)
theorem run_nn {P : Program} {w : World} {G : Gh} {t : TypeId} {neg : Bool} {x r : AV} {ox oy : Operand} {u : Value} {a : Act} (hx : VRel G x u) (ht : nnTy P t oy = true) (he : nnEv neg x = some r) :
    ∃ z,(do eqGuard (if neg then .neq else .eql) t ox oy u (a.eval oy); binOp (if neg then .neq else .eql) t u (a.eval oy)).run P w = .ok z w ∧ VRel G r z := by
  unfold nnTy at ht
  simp only [Bool.and_eq_true] at ht
  obtain ⟨h1,h2⟩ := ht
  split at h1
  rotate_left
  · cases h1
  rename_i e hu
  split at h2
  rotate_left
  · cases h2
  have hbase : ∃ ad n c,u = .slice (some ad) n c ∧ r = .bool neg := by
    unfold nnEv at he
    split at he
    · injection he with he
      cases hx
      exact ⟨_,_,_,rfl,he.symm⟩
    · injection he with he
      cases hx
      exact ⟨_,_,_,rfl,he.symm⟩
    · cases he
  obtain ⟨ad,n,c,rfl,rfl⟩ := hbase
  rename_i n1 c1
  have heq : (Op.equal t (.slice (some ad) n c) (.slice none n1 c1)).run P w = .ok false w := equalIn_step P w t _ hu _ _ _ fun n => by
    simp only [Op.equalIn,Sem.run_bind,run_und hu,Result.andThen_ok,Sem.run_pure]
  refine ⟨.bool neg,?_,.bool _⟩
  have hg : ∀ op : BinOp,(eqGuard op t ox (.const (.slice none n1 c1)) (.slice (some ad) n c) (.slice none n1 c1)).run P w = .ok () w := fun op => by unfold eqGuard; split <;> rfl
  have e3 : binOp .eql t (.slice (some ad) n c) (.slice none n1 c1) = (do pure (.bool (← Op.equal t (.slice (some ad) n c) (.slice none n1 c1)))) := rfl
  have e4 : binOp .neq t (.slice (some ad) n c) (.slice none n1 c1) = (do pure (.bool (!(← Op.equal t (.slice (some ad) n c) (.slice none n1 c1))))) := rfl
  cases neg
  · simp only [Bool.false_eq_true,if_false,Sem.run_bind,Act.eval,hg,Result.andThen_ok,e3,heq,Sem.run_pure]
  · simp only [if_true,Sem.run_bind,Act.eval,hg,Result.andThen_ok,e4,heq,Sem.run_pure]
    rfl
theorem zeros_rel {G : Gh} {z : List AV} {v : Array Value} (h : CRel G z v.toList) (n : Nat) (hz : 0 < z.length) : CRel G (flat (List.replicate n (.agg z))) (Builtin.zeroCells v n).toList := by
  have hl : z.length = v.size := by have := h.len; simpa using this
  have hk : ∀ x ∈ List.replicate n (AV.agg z),x.cells.length = z.length := fun x hx => by rw [List.eq_of_mem_replicate hx]; rfl
  have hlen : (flat (List.replicate n (AV.agg z))).length = n * z.length := by rw [flat_length hk,List.length_replicate]
  have e : ∀ m,m < n * v.size → (Builtin.zeroCells v n).toList[m]? = v.toList[m % v.size]? := fun m hm => by
    have hlt : m % v.size < v.size := Nat.mod_lt _ (by omega)
    simp [Builtin.zeroCells,hm,getElem!_pos,hlt]
  have hsz : (Builtin.zeroCells v n).toList.length = n * v.size := by simp [Builtin.zeroCells]
  refine ⟨by rw [hlen,hsz,hl],fun u hu => ?_,fun m c u h1 h2 => ?_⟩
  · obtain ⟨m,hm,e1⟩ := List.mem_iff_getElem.1 hu
    have e2 : (Builtin.zeroCells v n).toList[m]? = some u := by rw [List.getElem?_eq_getElem hm,e1]
    rw [e m (by omega)] at e2
    exact h.one u (List.mem_of_getElem? e2)
  · have hm : m < n * v.size := by
      rcases Nat.lt_or_ge m (n * v.size) with h | h
      · exact h
      · rw [List.getElem?_eq_none (by omega)] at h2; cases h2
    rw [e m hm] at h2
    have hd : m = m / z.length * z.length + m % z.length := by have := Nat.div_add_mod m z.length; rw [Nat.mul_comm] at this; omega
    rw [hd,flat_get hk (Nat.mod_lt _ hz),Option.bind_eq_some_iff] at h1
    obtain ⟨x,h3,h4⟩ := h1
    rw [List.eq_of_mem_replicate (List.mem_of_getElem? h3)] at h4
    rw [← hl] at h2
    exact h.rel _ c u h4 h2
def clrEv (k : Nat) (z : List AV) (S : St) : AV → Option (AV × St)
  | .osl k' n l o => if k' = k ∧ 0 < n then (S.get l).bind fun cs => if isBld cs then none else if o + n * k ≤ cs.length then some (.tup [],S.set l (splice cs o (flat (List.replicate n (.agg z))))) else none else none
  | _ => none
def clrTy (P : Program) (t : TypeId) (k : Nat) (z : List AV) : Bool :=
  match P.underlying t with
  | some (.slice e) => sizeIs P e k && zeroIs P e z && (z.length == k) && decide (0 < k)
  | _ => false
theorem sem_clr {P : Program} {wb : Base} {G : Gh} {S S' : St} {w : World} {t ty : TypeId} {k : Nat} {z : List AV} {x r : AV} {u : Value} (h : StRel wb G S w) (hx : VRel G x u) (ht : clrTy P t k z = true) (he : clrEv k z S x = some (r,S')) :
    SemOK P wb G (Builtin.clear_ #[t] ty #[u]) w r S' := by
  unfold clrTy at ht
  split at ht
  rotate_left
  · cases ht
  rename_i e hu
  simp only [Bool.and_eq_true,beq_iff_eq,decide_eq_true_eq] at ht
  obtain ⟨⟨⟨h1,h2⟩,h3⟩,h4⟩ := ht
  cases hx <;> simp only [clrEv] at he <;> first
    | (cases he; done)
    | skip
  rename_i k' n l o r0 cap hr hc hcz
  split at he
  rotate_left
  · cases he
  rename_i hkn
  obtain ⟨rfl,hn⟩ := hkn
  simp only [Option.bind_eq_some_iff] at he
  obtain ⟨cs,g1,he⟩ := he
  split at he
  · cases he
  rename_i hnb
  have hnb : isBld cs = false := by simpa using hnb
  split at he
  rotate_left
  · cases he
  rename_i hle
  injection he with he
  injection he with e1 e2
  subst e1 e2
  obtain ⟨v,hv,hz⟩ := run_zeroIs h2 w
  have hcr := zeros_rel (hz G) n (by omega)
  have hkr : ∀ x ∈ List.replicate n (AV.agg z),x.cells.length = k' := fun x hx => by rw [List.eq_of_mem_replicate hx]; exact h3
  have hlen : (flat (List.replicate n (AV.agg z))).length = n * k' := by rw [flat_length hkr,List.length_replicate]
  obtain ⟨r',hr',hm⟩ := h.obj l cs g1 hnb
  obtain rfl : r0 = r' := by rw [hr] at hr'; exact Option.some.inj hr'
  have hvl := hcr.len
  have hst := run_storeCells (P := P) r0 o (Builtin.zeroCells v.cells n).toList w 0 hcr.one (fun j hj => by
    obtain ⟨y,h5,_,_,h6⟩ := hm (o + 0 + j) (cs[o + 0 + j]'(by omega)) (by simp)
    exact ⟨⟨y,h5⟩,h6⟩)
  refine ⟨.tuple #[],putCells w r0 o (Builtin.zeroCells v.cells n).toList,G,?_,Gh.le_refl G,h.store g1 hr hcr (by omega) hnb,VRel.tup (vs := []) rfl (by simp)⟩
  obtain ⟨n,rfl⟩ : ∃ m,n = m + 1 := ⟨n - 1,by omega⟩
  simp only [Builtin.clear_,Sem.run_bind,List.getElem?_toArray,List.getElem?_cons_zero,run_und hu,Result.andThen_ok,hv,Nat.add_zero] at hst ⊢
  rw [hst]
  rfl
end Go.V
namespace Go.V
open Go
def zvFits : AV → Value → Bool
  | .agg cs,.agg vs => cellsFit cs vs.toList
  | a,v => constFits a v
theorem zvFits_rel {G : Gh} {a : AV} {v : Value} (h : zvFits a v = true) : VRel G a v := by
  unfold zvFits at h
  split at h
  · rename_i cs vs
    have hc := cellsFit_rel (G := G) h
    have := VRel.agg (G := G) hc.len hc.one hc.rel
    simpa using this
  · exact constFits_rel h
def tasFits (P : Program) (t : TypeId) (z : AV) : Bool :=
  (match P.underlying t with
   | some (.interface _) => false
   | some _ => true
   | none => false) && (match P.info? t with
   | some i => (match i.zero with
     | some v => zvFits z v
     | none => false)
   | none => false)
def tasEv (t : TypeId) (z : AV) : AV → Option AV
  | .ifc t' v => if t' = t then some (.tup [v,.bool true]) else some (.tup [z,.bool false])
  | .nili => some (.tup [z,.bool false])
  | _ => none
theorem VRel.tup2 {G : Gh} {a b : AV} {u v : Value} (h1 : VRel G a u) (h2 : VRel G b v) : VRel G (.tup [a,b]) (.tuple #[u,v]) := by
  have := VRel.tup (G := G) (cs := [a,b]) (vs := [u,v]) rfl (fun m c x e1 e2 => by
    match m with
    | 0 => simp at e1 e2; subst e1 e2; exact h1
    | 1 => simp at e1 e2; subst e1 e2; exact h2
    | m + 2 => simp at e1)
  simpa using this
theorem run_tas {P : Program} {w : World} {G : Gh} {t xt : TypeId} {z x r : AV} {u : Value} (hx : VRel G x u) (hf : tasFits P t z = true) (he : tasEv t z x = some r) :
    ∃ v,(Instr.typeAssert u xt t true).run P w = .ok v w ∧ VRel G r v := by
  unfold tasFits at hf
  simp only [Bool.and_eq_true] at hf
  obtain ⟨h1,h2⟩ := hf
  split at h2
  rotate_left
  · cases h2
  rename_i i hi
  split at h2
  rotate_left
  · cases h2
  rename_i zv hz
  have hzv : (zeroValue t).run P w = .ok zv w := by simp [zeroValue,typeInfo,hi,hz]
  have hzr : VRel G z zv := zvFits_rel h2
  have hni : ∃ d,P.underlying t = some d ∧ ∀ ms,d ≠ .interface ms := by
    split at h1
    · cases h1
    · rename_i d hn hd
      exact ⟨d,hd,fun ms e => hn ms e⟩
    · cases h1
  obtain ⟨d,hd,hdi⟩ := hni
  unfold tasEv at he
  split at he
  · rename_i t' v
    cases hx
    rename_i v' hv'
    split at he
    · rename_i ht
      subst ht
      injection he with he
      subst he
      refine ⟨.tuple #[v',.bool true],?_,.tup2 hv' (.bool true)⟩
      unfold Instr.typeAssert
      simp only [Sem.run_bind,run_und hd,Result.andThen_ok]
      cases d with
      | interface ms => exact absurd rfl (hdi ms)
      | _ => simp
    · rename_i ht
      injection he with he
      subst he
      refine ⟨.tuple #[zv,.bool false],?_,.tup2 hzr (.bool false)⟩
      unfold Instr.typeAssert
      simp only [Sem.run_bind,run_und hd,Result.andThen_ok]
      cases d with
      | interface ms => exact absurd rfl (hdi ms)
      | _ => simp [ht,hzv]
  · cases hx
    injection he with he
    subst he
    refine ⟨.tuple #[zv,.bool false],?_,.tup2 hzr (.bool false)⟩
    unfold Instr.typeAssert
    simp only [Sem.run_bind,run_und hd,Result.andThen_ok]
    cases d with
    | interface ms => exact absurd rfl (hdi ms)
    | _ => simp [hzv]
  · cases he
def bldFits (P : Program) (t : TypeId) : Bool :=
  t == bldT && (match P.info? t with
    | some i => (match i.zero with
      | some v => (match v.cells.toList with
        | [.pointer none,.slice none 0 0] => true
        | _ => false)
      | none => false)
    | none => false)
theorem StRel.newBld {wb : Base} {G : Gh} {S : St} {w : World} (h : StRel wb G S w) (hno : ∀ l s,S.get l ≠ some [.bld s]) :
    ∃ G',G.le G' ∧ G'.σ S.n = some w.heap.size ∧ StRel wb G' { S with n := S.n + 1,obj := (S.n,[.bld []]) :: S.obj } (w.alloc (.cells #[.pointer none,.slice none 0 0] bldT)) := by
  have hnone : G.σ S.n = none := by
    cases e : G.σ S.n with
    | none => rfl
    | some r => have := (h.dom _ _ e).1; omega
  let G' : Gh := { G with σ := upd G.σ S.n (some w.heap.size) }
  have hle : G.le G' := by
    refine ⟨fun _ _ _ e => e,fun l r e => ?_,fun _ _ e => e,rfl,fun _ _ _ => rfl⟩
    have : l ≠ S.n := fun e' => by rw [e',hnone] at e; cases e
    simp [G',upd,this,e]
  have ha := h.alloc (.cells #[.pointer none,.slice none 0 0] bldT)
  have hφ : ∀ o,G.φ w.heap.size o = none := fun o => by
    cases e : G.φ w.heap.size o with
    | none => rfl
    | some v => have := h.lt e; omega
  have hold : ∀ l cs,l ≠ S.n → List.lookup l ((S.n,[AV.bld []]) :: S.obj) = some cs → S.get l = some cs := fun l cs hl e => by
    have hb : (l == S.n) = false := by simpa using hl
    simp only [List.lookup_cons,hb] at e
    exact e
  refine ⟨G',hle,by simp [G'],?_⟩
  refine { prom := ha.prom,room := fun l cs r hg hnb e => by
             by_cases hl : l = S.n
             · subst hl
               simp [St.get] at hg
               subst hg
               cases hnb
             · simp only [G',upd,hl,if_false] at e
               exact ha.room l cs r (hold l cs hl hg) hnb e,apart := ?_,obj := ?_,inj := ?_,dom := ?_,tok := ?_,tdom := ha.tdom,tdis := ha.tdis,base := ha.base,still := ha.still,pold := ha.pold,beta := ha.beta,glob := ?_,bld := ?_,bldu := ?_ }
  · intro l ds r o hget hd e
    by_cases hl : l = S.n
    · subst hl
      simp [G'] at e
      subst e
      exact hφ o
    · simp only [G',upd,hl,if_false] at e
      exact h.apart l ds r o (hold l ds hl hget) hd e
  · intro l ds hl hnb
    by_cases hln : l = S.n
    · subst hln
      simp [St.get] at hl
      subst hl
      cases hnb
    · obtain ⟨r,hr',hm⟩ := ha.obj l ds (hold l ds hln hl) hnb
      exact ⟨r,hle.σ _ _ hr',fun m c hmc => by obtain ⟨v,h1,h2,h3,h4⟩ := hm m c hmc; exact ⟨v,h1,h2.mono hle,h3,h4⟩⟩
  · intro l l' r cs1 cs2 g1 g2 d1 d2 e e'
    by_cases hl : l = S.n <;> by_cases hl' : l' = S.n
    · rw [hl,hl']
    · subst hl
      simp only [G',upd_same] at e
      simp only [G',upd,hl',if_false] at e'
      injection e with e
      have := (h.dom _ _ e').2.2
      omega
    · subst hl'
      simp only [G',upd_same] at e'
      simp only [G',upd,hl,if_false] at e
      injection e' with e'
      have := (h.dom _ _ e).2.2
      omega
    · simp only [G',upd,hl,hl',if_false] at e e'
      exact h.inj l l' r cs1 cs2 (hold l _ hl g1) (hold l' _ hl' g2) d1 d2 e e'
  · intro l r e
    by_cases hl : l = S.n
    · subst hl
      simp only [G',upd_same] at e
      injection e with e
      subst e
      have := h.base.1
      simp; omega
    · simp only [G',upd,hl,if_false] at e
      have := ha.dom l r e
      exact ⟨by simp; omega,this.2⟩
  · intro t ht
    obtain ⟨r,e,z,h1,h4⟩ := ha.tok t ht
    refine ⟨r,e,z,h1,fun i h5 h6 => ?_⟩
    obtain ⟨h2,h3,h7,h8,h9⟩ := h4 i h5 h6
    refine ⟨h2,fun l el => ?_,h7,h8,h9⟩
    by_cases hl : l = S.n
    · subst hl
      simp only [G',upd_same] at el
      injection el with el
      have := (h.tdom t _ h1).2 (by show e < z; omega)
      simp only at this
      omega
    · simp only [G',upd,hl,if_false] at el
      exact h3 l el
  · intro g cs hg m c hmc
    obtain ⟨v,h1,h2,h3⟩ := ha.glob g cs hg m c hmc
    exact ⟨v,h1,h2.mono hle,h3⟩
  · intro l s hl hsp0
    by_cases hln : l = S.n
    · subst hln
      simp [St.get] at hl
      subst hl
      refine ⟨w.heap.size,by simp [G'],.pointer none,.slice none 0 0,.inl rfl,by simp [World.alloc,-World.alloc_eq],.inl ⟨rfl,rfl⟩⟩
    · obtain ⟨r,hr,hb⟩ := h.bld l s (hold l _ hln hl) hsp0
      cases s with
      | bld s => exact (hno l s (hold l _ hln hl)).elim
      | hob l' o ts vs =>
        obtain ⟨rfl,h2,h3,h4⟩ := hb
        exact ⟨_,hle.σ _ _ hr,rfl,by rw [alloc_heap_lt _ _ (h.dom _ _ hr).2.2]; exact h2,h3,h4.mono hle⟩
      | mob ks vs =>
        obtain ⟨es,cl,es',c,h2,h3,h4,h5⟩ := hb
        exact ⟨_,hle.σ _ _ hr,es,cl,es',c,by rw [alloc_heap_lt _ _ (h.dom _ _ hr).2.2]; exact h2,h3,h4.mono hle,h5⟩
      | zob E =>
        obtain ⟨fz,h2⟩ := hb
        exact ⟨_,hle.σ _ _ hr,fz,by rw [alloc_heap_lt _ _ (h.dom _ _ hr).2.2]; exact h2⟩
      | tup _ => exact ⟨_,hle.σ _ _ hr,trivial⟩
      | _ => cases hsp0
  · intro l l' s s' h1 h2
    have key : ∀ l s,List.lookup l ((S.n,[AV.bld []]) :: S.obj) = some [AV.bld s] → l = S.n := fun l s e => by
      by_cases hln : l = S.n
      · exact hln
      · exact (hno l s (hold l _ hln e)).elim
    rw [key l s h1,key l' s' h2]
def noBld (S : St) : Bool := S.obj.all fun p => !isBld p.2
theorem noBld_ok {S : St} (h : noBld S = true) : ∀ l s,S.get l ≠ some [.bld s] := by
  intro l s e
  have key : ∀ ob : List (Nat × List AV),ob.all (fun p => !isBld p.2) = true → List.lookup l ob ≠ some [.bld s] := by
    intro ob
    induction ob with
    | nil => intro _ h; cases h
    | cons p ob ih =>
      intro h e
      simp only [List.all_cons,Bool.and_eq_true] at h
      obtain ⟨m,cs⟩ := p
      rw [List.lookup_cons] at e
      split at e
      · injection e with e
        subst e
        simp [isBld] at h
      · exact ih h.2 e
  exact key S.obj h e
theorem sem_allocB {P : Program} {wb : Base} {G : Gh} {S : St} {w : World} (h : StRel wb G S w) {t : TypeId} (hz : bldFits P t = true) (hno : noBld S = true) :
    SemOK P wb G (Instr.alloc t true (.tuple #[])) w (.ptr S.n 0) { S with n := S.n + 1,obj := (S.n,[.bld []]) :: S.obj } := by
  unfold bldFits at hz
  simp only [Bool.and_eq_true,beq_iff_eq] at hz
  obtain ⟨rfl,hz⟩ := hz
  split at hz
  rotate_left
  · cases hz
  rename_i i hi
  split at hz
  rotate_left
  · cases hz
  rename_i v hv
  split at hz
  rotate_left
  · cases hz
  rename_i hc
  have hcells : v.cells = #[.pointer none,.slice none 0 0] := by apply Array.ext'; simpa using hc
  obtain ⟨G',h1,h2,h3⟩ := h.newBld (noBld_ok hno)
  refine ⟨.pointer (some ⟨w.heap.size,0,none⟩),w.alloc (.cells v.cells bldT),G',?_,h1,by rw [hcells]; exact h3,.ptr h2⟩
  have hzv : (zeroValue bldT).run P w = .ok v w := by simp [zeroValue,typeInfo,hi,hv]
  simp only [Instr.alloc,Sem.run_bind,hzv,Result.andThen_ok]
  simp [newVar,newRow]
end Go.V
namespace Go.V
open Go
theorem cell_ne_hob {w : World} {l r i : Nat} {o : Obj} {v : Value} (ho : w.heap[l]? = some o) (hn : notCells o = true) (hc : w.cell? ⟨r,i,none⟩ = some v) : r ≠ l := by
  rintro rfl
  unfold World.cell? at hc
  rw [show (Addr.mk r i none).block = r from rfl,ho] at hc
  cases o <;> first
    | (simp at hc; done)
    | (simp [notCells] at hn; done)
theorem putObj_cell {w : World} {l : Nat} (o : Obj) {r i : Nat} (h : r ≠ l) : (w.putObj l o).cell? ⟨r,i,none⟩ = w.cell? ⟨r,i,none⟩ ∧ (w.putObj l o).frozen? ⟨r,i,none⟩ = w.frozen? ⟨r,i,none⟩ := by
  have := World.putObj_heap_other (w := w) (o := o) h
  exact ⟨by simp only [World.cell?,this],by simp only [World.frozen?,this]⟩
theorem StRel.putSpec {wb : Base} {G : Gh} {S : St} {w : World} (h : StRel wb G S w) {k l : Nat} {c0 c' : AV} (hk : S.get k = some [c0]) (hd0 : isDead [c0] = false) (hb' : isBld [c'] = true) (hnb : ∀ s,c' ≠ .bld s) (h1 : G.σ k = some l) {o o' : Obj} (h2 : w.heap[l]? = some o) (h3 : notCells o = true)
    (hs : SpecAt wb G (S.set k [c']) (w.putObj l o') l c') : StRel wb G (S.set k [c']) (w.putObj l o') := by
  have hd := h.dom k l h1
  have hc : ∀ {r i : Nat} {v : Value},w.cell? ⟨r,i,none⟩ = some v → (w.putObj l o').cell? ⟨r,i,none⟩ = some v ∧ (w.putObj l o').frozen? ⟨r,i,none⟩ = w.frozen? ⟨r,i,none⟩ := fun hv => by
    have hne := cell_ne_hob h2 h3 hv
    exact ⟨(putObj_cell o' hne).1.trans hv,(putObj_cell o' hne).2⟩
  have hget : ∀ {k' cs},isBld cs = false → (S.set k [c']).get k' = some cs → S.get k' = some cs := fun {k' cs} hb e => by
    simp only [St.get,St.set,List.lookup_cons] at e
    split at e
    · injection e with e
      subst e
      rw [hb'] at hb
      cases hb
    · exact e
  refine { prom := fun r o v e => (hc (h.prom r o v e)).1,room := fun k' cs r hg hb e => by
             obtain ⟨q1,q2⟩ := h.room k' cs r (hget hb hg) hb e
             exact ⟨q1,fun m hm => by
               obtain ⟨⟨v,q3⟩,q4⟩ := q2 m hm
               exact ⟨⟨v,(hc q3).1⟩,by rw [(hc q3).2]; exact q4⟩⟩,apart := ?_,obj := ?_,inj := fun a b r c1 c2 g1 g2 d1 d2 => by
             have key : ∀ {k' cs},(S.set k [c']).get k' = some cs → isDead cs = false → ∃ cs',S.get k' = some cs' ∧ isDead cs' = false := fun {k' cs} e d => by
               simp only [St.get,St.set,List.lookup_cons] at e
               split at e
               · rename_i hkk
                 have : k' = k := by simpa using hkk
                 subst this
                 exact ⟨_,hk,hd0⟩
               · exact ⟨_,e,d⟩
             obtain ⟨_,p1,p2⟩ := key g1 d1
             obtain ⟨_,p3,p4⟩ := key g2 d2
             exact h.inj a b r _ _ p1 p3 p2 p4,dom := fun l r e => by rw [World.putObj_size]; exact h.dom l r e,tok := ?_,tdom := fun t x e => by rw [World.putObj_size]; exact h.tdom t x e,tdis := h.tdis,base := ⟨by rw [World.putObj_size]; exact h.base.1,fun r hr => ?_⟩,pold := h.pold,still := h.still,beta := h.beta,glob := h.glob,bld := ?_,bldu := ?_ }
  · intro k' cs r i hg hd e
    simp only [St.get,St.set,List.lookup_cons] at hg
    split at hg
    · rename_i hkk
      have : k' = k := by simpa using hkk
      subst this
      exact h.apart _ _ r i hk hd0 e
    · exact h.apart k' cs r i hg hd e
  · intro k' cs hg hb
    obtain ⟨r,hr,hm⟩ := h.obj k' cs (hget hb hg) hb
    refine ⟨r,hr,fun m c hmc => ?_⟩
    obtain ⟨v,a1,a2,a3,a4⟩ := hm m c hmc
    exact ⟨v,(hc a1).1,a2,a3,by rw [(hc a1).2]; exact a4⟩
  · intro t ht
    obtain ⟨r,e,z,a1,a2⟩ := h.tok t ht
    refine ⟨r,e,z,a1,fun i b1 b2 => ?_⟩
    obtain ⟨c1,c2,⟨v,c3⟩,c4,c5⟩ := a2 i b1 b2
    exact ⟨c1,c2,⟨v,(hc c3).1⟩,by rw [(hc c3).2]; exact c4,c5⟩
  · rw [World.putObj_heap_other (by omega)]
    exact h.base.2 r hr
  · intro k' c hg hb
    simp only [St.get,St.set,List.lookup_cons] at hg
    split at hg
    · rename_i hkk
      have : k' = k := by simpa using hkk
      subst this
      simp only [Option.some.injEq,List.cons.injEq,and_true] at hg
      subst hg
      exact ⟨l,h1,hs⟩
    · rename_i hkk
      obtain ⟨r,hr,hs'⟩ := h.bld k' c hg hb
      cases hds : isDead [c] with
      | true =>
        unfold isDead at hds
        split at hds
        · rename_i e
          injection e with e
          subst e
          exact ⟨r,hr,trivial⟩
        · cases hds
      | false =>
      refine ⟨r,hr,hs'.to (Gh.le_refl _) (fun _ => World.putObj_heap_other ?_) fun g _ _ _ hal => ⟨World.putObj_heap_other fun e => hal.2.1 k (by rw [h1,e]),hal⟩⟩
      rintro rfl
      have := h.inj _ _ _ _ _ hg hk hds hd0 hr h1
      subst this
      simp at hkk
  · intro a b s s' ha hb
    have key : ∀ {a s},(S.set k [c']).get a = some [.bld s] → S.get a = some [.bld s] := fun {a s} e => by
      simp only [St.get,St.set,List.lookup_cons] at e
      split at e
      · exact absurd (by simpa using e) (hnb _)
      · exact e
    exact h.bldu a b s s' (key ha) (key hb)
theorem StRel.newSpec {wb : Base} {G : Gh} {S : St} {w : World} (h : StRel wb G S w) {o : Obj} {c0 : AV} (hb0 : isBld [c0] = true) (hnb : ∀ s,c0 ≠ .bld s)
    (hs0 : ∀ G',G.le G' → SpecAt wb G' { S with n := S.n + 1,obj := (S.n,[c0]) :: S.obj } (w.alloc o) w.heap.size c0) : ∃ G',G.le G' ∧ G'.σ S.n = some w.heap.size ∧ StRel wb G' { S with n := S.n + 1,obj := (S.n,[c0]) :: S.obj } (w.alloc o) := by
  have hnone : G.σ S.n = none := by
    cases e : G.σ S.n with
    | none => rfl
    | some r => have := (h.dom _ _ e).1; omega
  let G' : Gh := { G with σ := upd G.σ S.n (some w.heap.size) }
  have hle : G.le G' := by
    refine ⟨fun _ _ _ e => e,fun l r e => ?_,fun _ _ e => e,rfl,fun _ _ _ => rfl⟩
    have : l ≠ S.n := fun e' => by rw [e',hnone] at e; cases e
    simp [G',upd,this,e]
  have ha := h.alloc o
  have hφ : ∀ i,G.φ w.heap.size i = none := fun i => by
    cases e : G.φ w.heap.size i with
    | none => rfl
    | some v => have := h.lt e; omega
  have hget : ∀ {k' cs},k' ≠ S.n → List.lookup k' ((S.n,[c0]) :: S.obj) = some cs → S.get k' = some cs := fun {k' cs} hne e => by
    have hb : (k' == S.n) = false := by simpa using hne
    rw [List.lookup_cons,hb] at e
    exact e
  have hnew : ∀ {cs},List.lookup S.n ((S.n,[c0]) :: S.obj) = some cs → cs = [c0] := fun {cs} e => by
    rw [List.lookup_cons,beq_self_eq_true] at e
    exact (Option.some.inj e).symm
  have hσ : ∀ {l r},l ≠ S.n → G'.σ l = some r → G.σ l = some r := fun {l r} hl e => by simpa only [G',upd,hl,if_false] using e
  have hσn : ∀ {r},G'.σ S.n = some r → r = w.heap.size := fun {r} e => by simp only [G',upd_same] at e; exact (Option.some.inj e).symm
  have hroom : ∀ k' cs r,List.lookup k' ((S.n,[c0]) :: S.obj) = some cs → isBld cs = false → G'.σ k' = some r → cs.length ≤ G'.κ k' ∧ ∀ m,m < G'.κ k' → (∃ v,(w.alloc o).cell? ⟨r,m,none⟩ = some v) ∧ (w.alloc o).frozen? ⟨r,m,none⟩ = false := fun k' cs r hg hb e => by
    by_cases hl : k' = S.n
    · subst hl
      rw [hnew hg,hb0] at hb
      cases hb
    · exact ha.room k' cs r (hget hl hg) hb (hσ hl e)
  refine ⟨G',hle,by simp [G'],{ prom := ha.prom,room := hroom,apart := ?_,obj := ?_,inj := ?_,dom := ?_,tok := ?_,tdom := ha.tdom,tdis := ha.tdis,base := ha.base,still := ha.still,pold := ha.pold,beta := ha.beta,glob := ?_,bld := ?_,bldu := ?_ }⟩
  · intro k' cs r i hg hd e
    by_cases hl : k' = S.n
    · subst hl
      rw [hσn e]
      exact hφ i
    · exact h.apart k' cs r i (hget hl hg) hd (hσ hl e)
  · intro k' cs hg hb
    by_cases hl : k' = S.n
    · subst hl
      rw [hnew hg,hb0] at hb
      cases hb
    · obtain ⟨r,hr,hm⟩ := ha.obj k' cs (hget hl hg) hb
      exact ⟨r,hle.σ _ _ hr,fun m c hmc => by obtain ⟨v,a1,a2,a3,a4⟩ := hm m c hmc; exact ⟨v,a1,a2.mono hle,a3,a4⟩⟩
  · intro a b r c1 c2 g1 g2 d1 d2 ea eb
    by_cases h1 : a = S.n <;> by_cases h2 : b = S.n
    · rw [h1,h2]
    · subst h1
      have e1 := hσn ea
      have := (h.dom _ _ (hσ h2 eb)).2.2
      omega
    · subst h2
      have e1 := hσn eb
      have := (h.dom _ _ (hσ h1 ea)).2.2
      omega
    · exact h.inj _ _ _ _ _ (hget h1 g1) (hget h2 g2) d1 d2 (hσ h1 ea) (hσ h2 eb)
  · intro a r ea
    by_cases h1 : a = S.n
    · subst h1
      have e1 := hσn ea
      have := h.base.1
      simp
      omega
    · have := h.dom _ _ (hσ h1 ea)
      simp
      omega
  · intro t ht
    obtain ⟨r,e,z,a1,a2⟩ := ha.tok t ht
    refine ⟨r,e,z,a1,fun i b1 b2 => ?_⟩
    obtain ⟨c1,c2,c3⟩ := a2 i b1 b2
    refine ⟨c1,fun a ea => ?_,c3⟩
    by_cases hl : a = S.n
    · subst hl
      have e1 := hσn ea
      have := (h.tdom t _ a1).2 (by show e < z; omega)
      simp only at this
      omega
    · exact c2 a (hσ hl ea)
  · intro g cs hg m c hmc
    obtain ⟨v,a1,a2,a3⟩ := ha.glob g cs hg m c hmc
    exact ⟨v,a1,a2.mono hle,a3⟩
  · intro k' c hg hb
    by_cases hl : k' = S.n
    · subst hl
      have := hnew hg
      simp only [List.cons.injEq,and_true] at this
      subst this
      exact ⟨w.heap.size,by simp [G'],hs0 G' hle⟩
    · obtain ⟨r,hr,hs⟩ := h.bld k' c (hget hl hg) hb
      refine ⟨r,hle.σ _ _ hr,hs.to hle (fun hlt => alloc_heap_lt _ _ hlt) fun g hg' _ _ hal => ⟨alloc_heap_lt _ _ hg',hal.1,fun a ea => ?_,hal.2.2⟩⟩
      by_cases ha' : a = S.n
      · subst ha'
        have := hσn ea
        omega
      · exact hal.2.1 a (hσ ha' ea)
  · intro a b s s' h1 h2
    have key : ∀ {a s},List.lookup a ((S.n,[c0]) :: S.obj) = some [AV.bld s] → S.get a = some [.bld s] := fun {a s} e => by
      by_cases hl : a = S.n
      · subst hl
        exact absurd (by simpa using (hnew e).symm) (hnb _)
      · exact hget hl e
    exact h.bldu a b s s' (key h1) (key h2)
def maxEv (x y : AV) : Option AV :=
  match x,y with
  | .int k a,.int _ b => some (.int k (if b > a then b else a))
  | _,_ => none
theorem run_max {P : Program} {w : World} {G : Gh} {ts : Array TypeId} {ty : TypeId} {x y r : AV} {u v : Value} (hx : VRel G x u) (hy : VRel G y v) (he : maxEv x y = some r) :
    ∃ z,(Builtin.max_ ts ty #[u,v]).run P w = .ok z w ∧ VRel G r z := by
  cases hx <;> cases hy <;> simp only [maxEv] at he <;> first
    | (cases he; done)
    | (injection he with he; subst he)
  exact ⟨_,rfl,.int _ _⟩
theorem mob_inv {wb : Base} {G : Gh} {S : St} {w : World} (h : StRel wb G S w) {k r : Nat} {ks vs : List AV} (hk : S.get k = some [.mob ks vs]) (hr : G.σ k = some r) : MobAt G w r ks vs := by
  obtain ⟨r',h1,h2⟩ := h.bld k _ hk rfl
  rw [hr] at h1
  cases h1
  exact h2
def St.repl (S : St) (l : Nat) (cs : List AV) : St := { S with obj := S.obj.map fun p => if p.1 = l then (l,cs) else p }
theorem repl_get {S : St} {l k : Nat} {cs c0 : List AV} (h : S.get l = some c0) : (S.repl l cs).get k = (S.set l cs).get k := by
  have key : ∀ ob : List (Nat × List AV),(ob.lookup l).isSome → List.lookup k (ob.map fun p => if p.1 = l then (l,cs) else p) = List.lookup k ((l,cs) :: ob) := by
    intro ob
    induction ob with
    | nil => intro h; cases h
    | cons p ob ih =>
      obtain ⟨a,b⟩ := p
      intro hs
      by_cases ha : a = l
      · subst ha
        by_cases hka : k = a
        · subst hka; simp [List.lookup_cons]
        · have hb : (k == a) = false := by simpa using hka
          have : ∀ o2 : List (Nat × List AV),List.lookup k (o2.map fun p => if p.1 = a then (a,cs) else p) = List.lookup k o2 := by
            intro o2
            induction o2 with
            | nil => rfl
            | cons q o2 ih2 =>
              obtain ⟨a2,b2⟩ := q
              by_cases h2 : a2 = a
              · subst h2; simp [List.lookup_cons,hb,ih2]
              · simp [List.lookup_cons,h2,ih2]
          simp [List.lookup_cons,hb,this]
      · have hla : (l == a) = false := by simpa using fun e => ha e.symm
        rw [List.lookup_cons,hla] at hs
        have := ih hs
        simp only [List.map_cons,ha,if_false,List.lookup_cons] at this ⊢
        rw [this]
        by_cases hka : k = a
        · subst hka
          have : (k == l) = false := by simpa using ha
          simp [this]
        · have hb : (k == a) = false := by simpa using hka
          simp [hb]
  exact key S.obj (by unfold St.get at h; rw [h]; rfl)
theorem StRel.get_congr {wb : Base} {G : Gh} {S S' : St} {w : World} (h : StRel wb G S w) (hg : ∀ l,S'.get l = S.get l) (h1 : S'.n = S.n) (h2 : S'.nt = S.nt) (h3 : S'.live = S.live) (h4 : S'.gl = S.gl) : StRel wb G S' w := by
  refine { prom := h.prom,room := fun l cs r e => h.room l cs r (hg l ▸ e),apart := fun l cs r o e => h.apart l cs r o (hg l ▸ e),obj := fun l cs e => h.obj l cs (hg l ▸ e),inj := fun l l' r c c' e e' => h.inj l l' r c c' (hg l ▸ e) (hg l' ▸ e'),dom := by rw [h1]; exact h.dom,tok := by rw [h3]; exact h.tok,tdom := by rw [h2]; exact h.tdom,tdis := by rw [h3]; exact h.tdis,base := h.base,pold := h.pold,still := h.still,beta := h.beta,glob := by rw [h4]; exact h.glob,bld := fun l c e hb => ?_,bldu := fun l l' s s' e e' => h.bldu l l' s s' (hg l ▸ e) (hg l' ▸ e') }
  obtain ⟨r,a,b⟩ := h.bld l c (hg l ▸ e) hb
  exact ⟨r,a,b.to (Gh.le_refl G) (fun _ => rfl) fun g _ _ _ hal => ⟨rfl,hal.1,hal.2.1,by rw [h3]; exact hal.2.2⟩⟩
theorem StRel.repl {wb : Base} {G : Gh} {S : St} {w : World} {l : Nat} {cs c0 : List AV} (hg : S.get l = some c0) (h : StRel wb G (S.set l cs) w) : StRel wb G (S.repl l cs) w :=
  h.get_congr (fun _ => repl_get hg) rfl rfl rfl rfl
def keyEqv : AV → AV → Option Bool
  | .int k a,.int k' b => if k = k' then some (a == b) else none
  | .str a,.str b => some (a == b)
  | _,_ => none
def keyOK : Bool → AV → Bool
  | false,.int _ _ => true
  | true,.str _ => true
  | _,_ => false
def keyTy (P : Program) (t : TypeId) (s : Bool) : Bool :=
  match P.underlying t with
  | some (.int _) => !s
  | some .string => s
  | _ => false
def mapTy (P : Program) (t : TypeId) (s : Bool) (z : Option AV) : Bool :=
  match P.underlying t with
  | some (.map k e) => keyTy P k s && (match z with
    | none => true
    | some z => (match P.info? e with
      | some i => (match i.zero with
        | some v => zvFits z v
        | none => false)
      | none => false))
  | _ => false
def lookL (x : AV) : List AV → List AV → Option (Option AV)
  | [],[] => some none
  | k :: ks,v :: vs => match keyEqv x k with
    | some true => some (some v)
    | some false => lookL x ks vs
    | none => none
  | _,_ => none
def setL (x y : AV) : List AV → List AV → Option (Option (List AV))
  | [],[] => some none
  | k :: ks,v :: vs => match keyEqv x k with
    | some true => some (some (y :: vs))
    | some false => (setL x y ks vs).map (Option.map (v :: ·))
    | none => none
  | _,_ => none
def ltK : AV → Int → Bool
  | .int _ b,a => decide (b < a)
  | _,_ => false
def sIns {α : Type} (a : Int) (y : α) : List AV → List α → List α
  | k :: ks,v :: vs => if ltK k a then v :: sIns a y ks vs else y :: v :: vs
  | _,vs => y :: vs
def lookRes (ok : Bool) (v : AV) (b : Bool) : AV := if ok then .tup [v,.bool b] else v
def lookEv (ok s : Bool) (z : AV) (S : St) (m x : AV) : Option AV :=
  if keyOK s x then (match m with
    | .nilm => some (lookRes ok z false)
    | .mp l => (match S.get l with
      | some [.mob ks vs] => (lookL x ks vs).map fun r => match r with
        | some v => lookRes ok v true
        | none => lookRes ok z false
      | _ => none)
    | _ => none) else none
def insEv (s : Bool) (S : St) (m x y : AV) : Option St :=
  if keyOK s x then (match m with
    | .mp l => (match S.get l with
      | some [.mob ks vs] => (setL x y ks vs).map fun r => match r with
        | some vs' => S.repl l [.mob ks vs']
        | none => S.repl l [.mob (ks ++ [x]) (vs ++ [y])]
      | _ => none)
    | _ => none) else none
def insCEv (q : IntKind) (a : Int) (S : St) (m y : AV) : Option St :=
  match m with
  | .mp l => (match S.get l with
    | some [.mob ks vs] => (match lookL (.int q a) ks vs with
      | some none => some (S.repl l [.mob (sIns a (.int q a) ks ks) (sIns a y ks vs)])
      | _ => none)
    | _ => none)
  | _ => none
theorem mapTy_ok {P : Program} {t : TypeId} {s : Bool} {z : Option AV} (h : mapTy P t s z = true) : ∃ k e,P.underlying t = some (.map k e) ∧ keyTy P k s = true ∧ ∀ z0,z = some z0 → ∃ v,(∀ w,(zeroValue e).run P w = .ok v w) ∧ ∀ G,VRel G z0 v := by
  unfold mapTy at h
  split at h
  · rename_i k e he
    rw [Bool.and_eq_true] at h
    refine ⟨k,e,he,h.1,fun z0 hz => ?_⟩
    subst hz
    have h2 := h.2
    simp only at h2
    split at h2
    · rename_i i hi
      split at h2
      · rename_i v hv
        exact ⟨v,fun w => by simp [zeroValue,typeInfo,hi,hv],fun G => zvFits_rel h2⟩
      · cases h2
    · cases h2
  · cases h
theorem run_checkKey {P : Program} {t : TypeId} {s : Bool} (ht : keyTy P t s = true) (b : Bool) (n : Nat) (v : Value) (w : World) : (Instr.checkKey b (n + 1) t v).run P w = .ok () w := by
  unfold keyTy at ht
  split at ht
  · rename_i q hq
    simp [Instr.checkKey,run_und hq]
  · rename_i hq
    simp [Instr.checkKey,run_und hq]
  · cases ht
theorem keyEqv_rel {G : Gh} {x k : AV} {u v : Value} {b : Bool} (hx : VRel G x u) (hk : VRel G k v) (he : keyEqv x k = some b) : (b = true ↔ u = v) ∧ ∀ c,keyCls c v → keyCls c u := by
  cases x <;> cases k <;> simp only [keyEqv] at he <;> first
    | (cases he; done)
    | skip
  · cases hx
    cases hk
    split at he
    · rename_i h
      subst h
      injection he with he
      subst he
      refine ⟨by simp,fun c hc => ?_⟩
      cases c with
      | some q => obtain ⟨a,h⟩ := hc; cases h; exact ⟨_,rfl⟩
      | none => obtain ⟨a,h⟩ := hc; cases h
    · cases he
  · cases hx
    cases hk
    injection he with he
    subst he
    refine ⟨?_,fun c hc => ?_⟩
    · simp only [beq_iff_eq,Value.string.injEq,ByteArray.mk.injEq]
      constructor
      · intro h; rw [h]
      · intro h; simpa using h
    · cases c with
      | some q => obtain ⟨a,h⟩ := hc; cases h
      | none => exact ⟨_,rfl⟩
theorem lookL_rel {G : Gh} {x : AV} {u : Value} (hx : VRel G x u) {c : Option IntKind} : ∀ {ks vs : List AV} {es : List MapEntry} {r : Option AV},Rows3 G ks vs es → (∀ e ∈ es,keyCls c e.key) → lookL x ks vs = some r →
    (es = [] ∨ keyCls c u) ∧ ((r = none ∧ ∀ e ∈ es,e.key ≠ u) ∨ ∃ v e,r = some v ∧ e ∈ es ∧ e.key = u ∧ VRel G v e.val)
  | [],[],[],r,_,_,h => by
    simp only [lookL,Option.some.injEq] at h
    exact ⟨.inl rfl,.inl ⟨h.symm,by simp⟩⟩
  | k :: ks,v :: vs,e :: es,r,hr,hc,h => by
    simp only [lookL] at h
    split at h
    · rename_i he
      injection h with h
      obtain ⟨h1,h2⟩ := keyEqv_rel hx hr.1.1 he
      exact ⟨.inr (h2 c (hc e (by simp))),.inr ⟨v,e,h.symm,by simp,(h1.1 rfl).symm,hr.1.2⟩⟩
    · rename_i he
      obtain ⟨h1,h2⟩ := keyEqv_rel hx hr.1.1 he
      refine ⟨.inr (h2 c (hc e (by simp))),?_⟩
      rcases (lookL_rel hx hr.2 (fun e' he' => hc e' (by simp [he'])) h).2 with ⟨a1,a2⟩ | ⟨v',e',a1,a2,a3⟩
      · refine .inl ⟨a1,fun e' he' => ?_⟩
        rcases List.mem_cons.1 he' with rfl | he'
        · exact fun h => by simpa using h1.2 h.symm
        · exact a2 e' he'
      · exact .inr ⟨v',e',a1,by simp [a2],a3⟩
    · cases h
  | [],[],_ :: _,_,hr,_,_ => hr.elim
  | [],_ :: _,es,_,hr,_,_ => by cases es <;> exact hr.elim
  | _ :: _,[],es,_,hr,_,_ => by cases es <;> exact hr.elim
  | _ :: _,_ :: _,[],_,hr,_,_ => hr.elim
theorem sameNow_cls {P : Program} {t : TypeId} {d : TypeDesc} {s : Bool} {c : Option IntKind} {u v : Value} (hd : P.underlying t = some d) (ht : keyTy P t s = true) (hs : (s = true ∧ c = none) ∨ (s = false ∧ ∃ q,c = some q)) (hu : keyCls c u) (hv : keyCls c v) :
    ∃ b,Instr.sameNow d u v = some b ∧ (b = true ↔ u = v) := by
  unfold keyTy at ht
  rw [hd] at ht
  rcases hs with ⟨rfl,rfl⟩ | ⟨rfl,q,rfl⟩
  · obtain ⟨a,rfl⟩ := hu
    obtain ⟨b,rfl⟩ := hv
    split at ht <;> first
      | (cases ht; done)
      | skip
    rename_i hq
    cases hq
    refine ⟨_,rfl,?_⟩
    obtain ⟨⟨la⟩⟩ := a
    obtain ⟨⟨lb⟩⟩ := b
    show (ByteArray.mk la.toArray == ByteArray.mk lb.toArray) = true ↔ Value.string (ByteArray.mk la.toArray) = Value.string (ByteArray.mk lb.toArray)
    rw [beq_toListBytes,ByteArray.toList_mk,ByteArray.toList_mk]
    simp
  · obtain ⟨a,rfl⟩ := hu
    obtain ⟨b,rfl⟩ := hv
    split at ht <;> first
      | (cases ht; done)
      | skip
    rename_i hq
    cases hq
    exact ⟨a == b,by simp [Instr.sameNow],by simp⟩
theorem findNow_cls {P : Program} {t : TypeId} {d : TypeDesc} {s : Bool} {c : Option IntKind} {u : Value} (hd : P.underlying t = some d) (ht : keyTy P t s = true) (hs : (s = true ∧ c = none) ∨ (s = false ∧ ∃ q,c = some q)) (hu : keyCls c u) : ∀ (es : List MapEntry) (i : Nat),(∀ e ∈ es,keyCls c e.key) →
    ((∀ e ∈ es,e.key ≠ u) → Instr.findNow d u es i = some none) ∧ (∀ e ∈ es,e.key = u → es.Pairwise (fun a b => a.key ≠ b.key) → ∃ j,es[j]? = some e ∧ Instr.findNow d u es i = some (some (i + j,e.val)))
  | [],i,_ => ⟨fun _ => rfl,fun e he => by cases he⟩
  | e0 :: es,i,hc => by
    obtain ⟨b,h1,h2⟩ := sameNow_cls hd ht hs hu (hc e0 (by simp))
    have ih := findNow_cls hd ht hs hu es (i + 1) fun e he => hc e (by simp [he])
    refine ⟨fun hn => ?_,fun e he hk hp => ?_⟩
    · have : b = false := by
        cases b with
        | false => rfl
        | true => exact absurd (h2.1 rfl).symm (hn e0 (by simp))
      subst this
      simp only [Instr.findNow,h1]
      exact ih.1 fun e he => hn e (by simp [he])
    · cases b with
      | true =>
        have h3 := h2.1 rfl
        rcases List.mem_cons.1 he with rfl | he
        · exact ⟨0,rfl,by simp [Instr.findNow,h1]⟩
        · exact absurd (h3.symm.trans hk.symm) ((List.pairwise_cons.1 hp).1 e he)
      | false =>
        rcases List.mem_cons.1 he with rfl | he
        · have := h2.2 hk.symm; cases this
        · obtain ⟨j,a1,a2⟩ := ih.2 e he hk (List.pairwise_cons.1 hp).2
          refine ⟨j + 1,by simpa using a1,?_⟩
          simp only [Instr.findNow,h1]
          rw [a2]
          congr 3
          omega
theorem cls_of {G : Gh} {x : AV} {u : Value} {s : Bool} {c : Option IntKind} (hx : VRel G x u) (ho : keyOK s x = true) (hu : keyCls c u) : (s = true ∧ c = none) ∨ (s = false ∧ ∃ q,c = some q) := by
  cases s <;> cases x <;> simp only [keyOK] at ho <;> first
    | (cases ho; done)
    | skip
  · cases hx
    cases c with
    | some q => exact .inr ⟨rfl,q,rfl⟩
    | none => obtain ⟨_,h⟩ := hu; cases h
  · cases hx
    cases c with
    | some q => obtain ⟨_,h⟩ := hu; cases h
    | none => exact .inl ⟨rfl,rfl⟩
theorem run_find {P : Program} {t : TypeId} {s : Bool} {G : Gh} {x : AV} {u : Value} {c : Option IntKind} {ks vs : List AV} {es' : List MapEntry} {es : Array MapEntry} {r : Option AV} (ht : keyTy P t s = true) (hx : VRel G x u) (ho : keyOK s x = true)
    (hp : es.toList.Perm es') (hr : Rows3 G ks vs es') (hc : ∀ e ∈ es',keyCls c e.key) (hn : es'.Pairwise fun a b => a.key ≠ b.key) (h : lookL x ks vs = some r) (w : World) :
    (r = none ∧ (∀ e ∈ es',e.key ≠ u) ∧ (Instr.findKey t u es.toList).run P w = .ok none w) ∨ ∃ v e j,r = some v ∧ e ∈ es' ∧ e.key = u ∧ VRel G v e.val ∧ es[j]? = some e ∧ (Instr.findKey t u es.toList).run P w = .ok (some (j,e.val)) w := by
  cases hd : P.underlying t with
  | none => simp [keyTy,hd] at ht
  | some d =>
    obtain ⟨h1,h2⟩ := lookL_rel hx hr hc h
    have hc' : ∀ e ∈ es.toList,keyCls c e.key := fun e he => hc e (hp.mem_iff.1 he)
    have hn' : es.toList.Pairwise fun a b => a.key ≠ b.key := (hp.pairwise_iff (fun h => Ne.symm h)).2 hn
    rcases h2 with ⟨a1,a2⟩ | ⟨v,e,a1,a2,a3,a4⟩
    · refine .inl ⟨a1,a2,?_⟩
      rcases h1 with h1 | h1
      · subst h1
        have : es.toList = [] := List.Perm.eq_nil hp
        simp [Instr.findKey,run_und hd,this,Instr.findNow]
      · have := (findNow_cls hd ht (cls_of hx ho h1) h1 es.toList 0 hc').1 fun e he => a2 e (hp.mem_iff.1 he)
        simp [Instr.findKey,run_und hd,this]
    · have h1' : keyCls c u := a3 ▸ hc e a2
      obtain ⟨j,b1,b2⟩ := (findNow_cls hd ht (cls_of hx ho h1') h1' es.toList 0 hc').2 e (hp.mem_iff.2 a2) a3 hn'
      refine .inr ⟨v,e,j,a1,a2,a3,a4,by simpa using b1,?_⟩
      rw [Nat.zero_add] at b2
      simp [Instr.findKey,run_und hd,b2]
theorem lookRes_rel {G : Gh} (ok : Bool) {v : AV} {u : Value} (b : Bool) (h : VRel G v u) : VRel G (lookRes ok v b) (if ok then .tuple #[u,.bool b] else u) := by
  cases ok
  · exact h
  · exact .tup2 h (.bool b)
theorem run_look {P : Program} {wb : Base} {w : World} {G : Gh} {S : St} {ok s : Bool} {z m x r : AV} {u v : Value} {t : TypeId} (hS : StRel wb G S w) (ht : mapTy P t s (some z) = true) (hm : VRel G m u) (hx : VRel G x v) (he : lookEv ok s z S m x = some r) :
    ∃ y,(Instr.lookup t u v ok).run P w = .ok y w ∧ VRel G r y := by
  obtain ⟨k,e,h1,h2,h3⟩ := mapTy_ok ht
  obtain ⟨zv,hz,hzr⟩ := h3 z rfl
  unfold lookEv at he
  split at he
  rotate_left
  · cases he
  rename_i ho
  split at he
  · cases hm
    injection he with he
    subst he
    refine ⟨_,?_,lookRes_rel ok false (hzr G)⟩
    have hf : (Instr.findKey k v []).run P w = .ok none w := by
      rcases run_find (es := #[]) (es' := []) (ks := []) (vs := []) (c := none) (r := none) h2 hx ho (.refl _) trivial (by simp) .nil rfl w with ⟨_,_,h⟩ | ⟨_,_,_,h,_⟩
      · exact h
      · cases h
    simp [Instr.lookup,run_und h1,run_checkKey h2,hf,hz]
  · rename_i l
    cases hm
    rename_i q hq
    split at he
    · rename_i ks vs hg
      obtain ⟨es,clock,es',c,a1,a2,a3,a4,a5⟩ := mob_inv hS hg hq
      have hget : (getObj q).run P w = .ok (.map es clock) w := by simp [getObj,Sem.run,a1]
      simp only [Option.map_eq_some_iff] at he
      obtain ⟨r0,hr0,rfl⟩ := he
      rcases run_find h2 hx ho a2 a3 a4 a5 hr0 w with ⟨rfl,_,hf⟩ | ⟨v0,e0,j,rfl,_,_,hv,_,hf⟩
      · refine ⟨_,?_,lookRes_rel ok false (hzr G)⟩
        simp [Instr.lookup,run_und h1,hget,run_checkKey h2,hf,hz]
      · refine ⟨_,?_,lookRes_rel ok true hv⟩
        simp [Instr.lookup,run_und h1,hget,run_checkKey h2,hf]
    · cases he
  · cases he
theorem sem_mkMap {P : Program} {wb : Base} {w : World} {G : Gh} {S : St} (hS : StRel wb G S w) (t : TypeId) : SemOK P wb G (Instr.makeMap t none) w (.mp S.n) { S with n := S.n + 1,obj := (S.n,[.mob [] []]) :: S.obj } := by
  obtain ⟨G',h1,h2,h3⟩ := hS.newSpec (o := .map #[] 0) (c0 := .mob [] []) rfl (by simp) fun G' _ => ⟨#[],0,[],none,World.alloc_heap_new w _,.refl _,trivial,by simp,.nil⟩
  exact ⟨_,_,G',rfl,h1,h3,.mp h2⟩
theorem sem_mkMapH {P : Program} {wb : Base} {w : World} {G : Gh} {S : St} (hS : StRel wb G S w) {t : TypeId} {s : Bool} (ht : mapTy P t s none = true) (q : IntKind) (n : Int) : SemOK P wb G (Instr.makeMap t (some (.int q n))) w (.mp S.n) { S with n := S.n + 1,obj := (S.n,[.mob [] []]) :: S.obj } := by
  obtain ⟨k,e,h1,_⟩ := mapTy_ok ht
  obtain ⟨v,w',G',a1,a2⟩ := sem_mkMap (P := P) hS t
  refine ⟨v,w',G',?_,a2⟩
  rw [← a1]
  simp [Instr.makeMap,run_und h1,asInt,asIntOf]
theorem run_stays {P : Program} {c : Option IntKind} {u : Value} (hu : keyCls c u) (w : World) : (Instr.keyThatStays u u).run P w = .ok u w := by
  have : Instr.sameBits 10000 u u = true := by
    cases c with
    | some q => obtain ⟨a,rfl⟩ := hu; simp [Instr.sameBits]
    | none => obtain ⟨a,rfl⟩ := hu; simp only [Instr.sameBits]; rw [beq_toListBytes]; simp
  simp [Instr.keyThatStays,this]
open Classical in
theorem setL_rel {G : Gh} {x y : AV} {u z : Value} (hx : VRel G x u) (hy : VRel G y z) : ∀ {ks vs : List AV} {es : List MapEntry} {r : Option (List AV)},Rows3 G ks vs es → (es.Pairwise fun a b => a.key ≠ b.key) → setL x y ks vs = some r →
    ∃ o,lookL x ks vs = some o ∧ (o.isSome = r.isSome) ∧ ∀ vs',r = some vs' → Rows3 G ks vs' (es.map fun e => if e.key = u then { e with key := u,val := z } else e)
  | [],[],[],r,_,_,h => by
    simp only [setL,Option.some.injEq] at h
    subst h
    exact ⟨none,rfl,rfl,fun vs' h => by cases h⟩
  | k :: ks,v :: vs,e :: es,r,hr,hp,h => by
    simp only [setL] at h
    split at h
    · rename_i he
      injection h with h
      subst h
      obtain ⟨h1,_⟩ := keyEqv_rel hx hr.1.1 he
      have h2 := h1.1 rfl
      refine ⟨some v,by simp only [lookL,he],rfl,fun vs' h => ?_⟩
      injection h with h
      subst h
      rw [List.map_cons,if_pos h2.symm]
      refine ⟨⟨h2 ▸ hr.1.1,hy⟩,?_⟩
      have : (es.map fun e => if e.key = u then { e with key := u,val := z } else e) = es := by
        rw [List.map_congr_left (g := id)]
        · simp
        · intro e' he'
          rw [if_neg fun h => (List.pairwise_cons.1 hp).1 e' he' (h2.symm.trans h.symm)]
          rfl
      rw [this]
      exact hr.2
    · rename_i he
      obtain ⟨h1,_⟩ := keyEqv_rel hx hr.1.1 he
      simp only [Option.map_eq_some_iff] at h
      obtain ⟨r',h2,rfl⟩ := h
      obtain ⟨o,a1,a2,a3⟩ := setL_rel hx hy hr.2 (List.pairwise_cons.1 hp).2 h2
      refine ⟨o,by simp only [lookL,he]; exact a1,by cases r' <;> simpa using a2,fun vs' h => ?_⟩
      cases r' with
      | none => cases h
      | some w =>
        injection h with h
        subst h
        rw [List.map_cons,if_neg fun h => by simpa using h1.2 h.symm]
        exact ⟨hr.1,a3 w rfl⟩
    · cases h
  | [],[],_ :: _,_,hr,_,_ => hr.elim
  | [],_ :: _,es,_,hr,_,_ => by cases es <;> exact hr.elim
  | _ :: _,[],es,_,hr,_,_ => by cases es <;> exact hr.elim
  | _ :: _,_ :: _,[],_,hr,_,_ => hr.elim
theorem Rows3.snoc {G : Gh} {x y : AV} {e : MapEntry} (h : VRel G x e.key ∧ VRel G y e.val) : ∀ {ks vs : List AV} {es : List MapEntry},Rows3 G ks vs es → Rows3 G (ks ++ [x]) (vs ++ [y]) (es ++ [e])
  | [],[],[],_ => ⟨h,trivial⟩
  | _ :: _,_ :: _,_ :: _,hr => ⟨hr.1,Rows3.snoc h hr.2⟩
  | [],[],_ :: _,hr => hr.elim
  | [],_ :: _,es,hr => by cases es <;> exact hr.elim
  | _ :: _,[],es,hr => by cases es <;> exact hr.elim
  | _ :: _,_ :: _,[],hr => hr.elim
theorem Rows3.ins {G : Gh} {x y : AV} {e : MapEntry} (a : Int) (h : VRel G x e.key ∧ VRel G y e.val) : ∀ {ks vs : List AV} {es : List MapEntry},Rows3 G ks vs es → Rows3 G (sIns a x ks ks) (sIns a y ks vs) (sIns a e ks es)
  | [],[],[],_ => ⟨h,trivial⟩
  | k :: ks,_ :: _,_ :: _,hr => by
    simp only [sIns]
    split
    · exact ⟨hr.1,Rows3.ins a h hr.2⟩
    · exact ⟨h,hr.1,hr.2⟩
  | [],[],_ :: _,hr => hr.elim
  | [],_ :: _,es,hr => by cases es <;> exact hr.elim
  | _ :: _,[],es,hr => by cases es <;> exact hr.elim
  | _ :: _,_ :: _,[],hr => hr.elim
theorem sIns_perm {α : Type} (a : Int) (y : α) : ∀ (ks : List AV) (vs : List α),(sIns a y ks vs).Perm (y :: vs)
  | [],_ => .refl _
  | _ :: _,[] => .refl _
  | k :: ks,v :: vs => by
    simp only [sIns]
    split
    · exact ((sIns_perm a y ks vs).cons v).trans (.swap _ _ _)
    · exact .refl _
theorem mob_push {G : Gh} {u z : Value} {es : Array MapEntry} {es' es'' : List MapEntry} {clock : Nat} {c c' : Option IntKind} {w : World} {r : Nat} {ks' vs' : List AV} (hlt : r < w.heap.size) (hp : es.toList.Perm es') (hcu : keyCls c' u) (hc : ∀ e ∈ es',keyCls c e.key) (hcc : es' = [] ∨ c = c')
    (hn : es'.Pairwise fun a b => a.key ≠ b.key) (hnew : ∀ e ∈ es',e.key ≠ u) (hpp : es''.Perm ({ key := u,val := z,born := clock } :: es')) (hr : Rows3 G ks' vs' es'') :
    MobAt G (w.putObj r (.map (es.push { key := u,val := z,born := clock }) (clock + 1))) r ks' vs' := by
  refine ⟨_,_,es'',c',World.putObj_heap_same hlt,?_,hr,fun e he => ?_,?_⟩
  · rw [Array.toList_push]
    exact ((hp.append_right _).trans (List.perm_append_comm)).trans hpp.symm
  · rcases List.mem_cons.1 (hpp.mem_iff.1 he) with rfl | he
    · exact hcu
    · rcases hcc with h | h
      · rw [h] at he; cases he
      · exact h ▸ hc e he
  · refine (hpp.pairwise_iff (fun h => Ne.symm h)).2 (List.pairwise_cons.2 ⟨fun e he => (hnew e he).symm,hn⟩)
theorem keyCls_of {G : Gh} {s : Bool} {x : AV} {u : Value} (hx : VRel G x u) (ho : keyOK s x = true) : ∃ c,keyCls c u := by
  cases s <;> cases x <;> simp only [keyOK] at ho <;> first
    | (cases ho; done)
    | skip
  · cases hx; exact ⟨some _,_,rfl⟩
  · cases hx; exact ⟨none,_,rfl⟩
theorem keyCls_eq {c c' : Option IntKind} {u : Value} (h : keyCls c u) (h' : keyCls c' u) : c = c' := by
  cases c <;> cases c' <;> obtain ⟨_,rfl⟩ := h <;> obtain ⟨_,h'⟩ := h' <;> cases h' <;> rfl
open Classical in
theorem sem_ins {P : Program} {wb : Base} {w : World} {G : Gh} {S S' : St} {s : Bool} {m x y : AV} {u v z : Value} {t : TypeId} (hS : StRel wb G S w) (ht : mapTy P t s none = true) (hm : VRel G m u) (hx : VRel G x v) (hy : VRel G y z) (he : insEv s S m x y = some S') :
    ∃ w',(Instr.mapUpdate t u v z).run P w = .ok () w' ∧ StRel wb G S' w' := by
  obtain ⟨k,e,h1,h2,_⟩ := mapTy_ok ht
  unfold insEv at he
  split at he
  rotate_left
  · cases he
  rename_i ho
  split at he
  rotate_left
  · cases he
  rename_i l
  cases hm
  rename_i q hq
  split at he
  rotate_left
  · cases he
  rename_i ks vs hg
  obtain ⟨es,clock,es',c,a1,a2,a3,a4,a5⟩ := mob_inv hS hg hq
  have hget : (getObj q).run P w = .ok (.map es clock) w := by simp [getObj,Sem.run,a1]
  have hset : ∀ o,(setObj q o).run P w = .ok () (w.putObj q o) := fun o => by simp [setObj,Sem.run,a1,World.putObj]
  have hlt : q < w.heap.size := (hS.dom _ _ hq).2.2
  simp only [Option.map_eq_some_iff] at he
  obtain ⟨r,hr,rfl⟩ := he
  obtain ⟨o,b1,b2,b3⟩ := setL_rel hx hy a3 a5 hr
  have hcu := (lookL_rel hx a3 a4 b1).1
  obtain ⟨c',hc'⟩ := keyCls_of hx ho
  rcases run_find h2 hx ho a2 a3 a4 a5 b1 w with ⟨rfl,hno,hf⟩ | ⟨v0,e0,j,rfl,hm0,hk0,_,hj,hf⟩
  · cases r with
    | some _ => cases b2
    | none =>
      refine ⟨w.putObj q (.map (es.push { key := v,val := z,born := clock }) (clock + 1)),by simp [Instr.mapUpdate,run_und h1,hget,run_checkKey h2,hf,hset],.repl hg (hS.putSpec hg rfl rfl (by simp) hq a1 rfl ?_)⟩
      exact mob_push (es'' := es' ++ [{ key := v,val := z,born := clock }]) hlt a2 hc' a4 (hcu.imp id fun h => keyCls_eq h hc') a5 hno (List.perm_append_comm) (a3.snoc ⟨hx,hy⟩)
  · cases r with
    | none => cases b2
    | some vs' =>
      have hmod : (es.modify j fun e => { e with key := v,val := z }).toList = es.toList.map fun e => if e.key = v then { e with key := v,val := z } else e := by
        apply List.ext_getElem?
        intro i
        rw [Array.getElem?_toList,Array.getElem?_modify,List.getElem?_map,Array.getElem?_toList]
        split
        · rename_i hij
          subst hij
          rw [hj]
          simp [hk0]
        · rename_i hij
          cases hi : es[i]? with
          | none => rfl
          | some ei =>
            have hne : ei.key ≠ v := by
              have hp5 : es.toList.Pairwise fun a b => a.key ≠ b.key := (a2.pairwise_iff (fun h => Ne.symm h)).2 a5
              intro hkv
              obtain ⟨hi1,hi2⟩ := List.getElem?_eq_some_iff.1 (show es.toList[i]? = some ei by simpa using hi)
              obtain ⟨hj1,hj2⟩ := List.getElem?_eq_some_iff.1 (show es.toList[j]? = some e0 by simpa using hj)
              rcases Nat.lt_or_gt_of_ne (Ne.symm hij) with h | h
              · exact (List.pairwise_iff_getElem.1 hp5 i j hi1 hj1 h) (by rw [hi2,hj2,hkv,hk0])
              · exact (List.pairwise_iff_getElem.1 hp5 j i hj1 hi1 h) (by rw [hi2,hj2,hkv,hk0])
            simp [hne]
      refine ⟨w.putObj q (.map (es.modify j fun e => { e with key := v,val := z }) clock),?_,.repl hg (hS.putSpec hg rfl rfl (by simp) hq a1 rfl ⟨_,clock,es'.map fun e => if e.key = v then { e with key := v,val := z } else e,c,World.putObj_heap_same hlt,?_,b3 vs' rfl,fun e he => ?_,?_⟩)⟩
      · simp [Instr.mapUpdate,run_und h1,hget,run_checkKey h2,hf,hj,hk0,run_stays hc' w,hset]
      · rw [hmod]
        exact a2.map _
      · obtain ⟨e1,h3,rfl⟩ := List.mem_map.1 he
        split
        · rename_i h4; show keyCls c v; rw [← h4]; exact a4 e1 h3
        · exact a4 e1 h3
      · rw [List.pairwise_map]
        refine a5.imp fun {a b} hab => ?_
        split <;> split
        · rename_i h3 h4; exact absurd (h3.trans h4.symm) hab
        · rename_i h3 h4; exact fun h => h4 h.symm
        · rename_i h3 h4; exact h3
        · exact hab
theorem sem_insC {P : Program} {wb : Base} {w : World} {G : Gh} {S S' : St} {q : IntKind} {a : Int} {m y : AV} {u z : Value} {t : TypeId} (hS : StRel wb G S w) (ht : mapTy P t false none = true) (hm : VRel G m u) (hy : VRel G y z) (he : insCEv q a S m y = some S') :
    ∃ w',(Instr.mapUpdate t u (.int q a) z).run P w = .ok () w' ∧ StRel wb G S' w' := by
  obtain ⟨k,e,h1,h2,_⟩ := mapTy_ok ht
  unfold insCEv at he
  split at he
  rotate_left
  · cases he
  rename_i l
  cases hm
  rename_i r hq
  split at he
  rotate_left
  · cases he
  rename_i ks vs hg
  split at he
  rotate_left
  · cases he
  rename_i hl
  injection he with he
  subst he
  obtain ⟨es,clock,es',c,a1,a2,a3,a4,a5⟩ := mob_inv hS hg hq
  have hget : (getObj r).run P w = .ok (.map es clock) w := by simp [getObj,Sem.run,a1]
  have hset : ∀ o,(setObj r o).run P w = .ok () (w.putObj r o) := fun o => by simp [setObj,Sem.run,a1,World.putObj]
  have hlt : r < w.heap.size := (hS.dom _ _ hq).2.2
  have hx : VRel G (.int q a) (.int q a) := .int q a
  have hcu := (lookL_rel hx a3 a4 hl).1
  rcases run_find h2 hx rfl a2 a3 a4 a5 hl w with ⟨_,hno,hf⟩ | ⟨v0,e0,j,h,_⟩
  · refine ⟨w.putObj r (.map (es.push { key := .int q a,val := z,born := clock }) (clock + 1)),by simp [Instr.mapUpdate,run_und h1,hget,run_checkKey h2,hf,hset],.repl hg (hS.putSpec hg rfl rfl (by simp) hq a1 rfl ?_)⟩
    exact mob_push (c' := some q) (es'' := sIns a { key := .int q a,val := z,born := clock } ks es') hlt a2 ⟨a,rfl⟩ a4 (hcu.imp id fun h => keyCls_eq h ⟨a,rfl⟩) a5 hno (sIns_perm _ _ _ _) (a3.ins a ⟨hx,hy⟩)
  · cases h
theorem ltK_mix {k : AV} {a b : Int} (ha : ltK k a = false) (hb : ltK k b = true) : a < b := by
  cases k <;> simp only [ltK] at ha hb <;> first
    | (cases hb; done)
    | (simp at ha hb; omega)
theorem sIns_comm {α : Type} {a b : Int} (hab : a ≠ b) (q q' : IntKind) (y z : α) : ∀ (ks : List AV) (vs : List α),ks.length = vs.length → sIns a y (sIns b (.int q' b) ks ks) (sIns b z ks vs) = sIns b z (sIns a (.int q a) ks ks) (sIns a y ks vs)
  | [],[],_ => by
    rcases Int.lt_or_gt_of_ne hab with h | h
    · simp [sIns,ltK,h,Int.not_lt.2 (Int.le_of_lt h)]
    · simp [sIns,ltK,h,Int.not_lt.2 (Int.le_of_lt h)]
  | k :: ks,v :: vs,h => by
    have ih := sIns_comm hab q q' y z ks vs (by simpa using h)
    cases hka : ltK k a <;> cases hkb : ltK k b <;> simp only [sIns,hka,hkb,if_true,if_false,Bool.false_eq_true]
    · rcases Int.lt_or_gt_of_ne hab with h | h
      · simp [sIns,ltK,h,Int.not_lt.2 (Int.le_of_lt h),hka,hkb]
      · simp [sIns,ltK,h,Int.not_lt.2 (Int.le_of_lt h),hka,hkb]
    · have h := ltK_mix hka hkb
      simp [sIns,ltK,h,hka,hkb]
    · have h := ltK_mix hkb hka
      simp [sIns,ltK,h,hka,hkb]
    · rw [ih]
  | [],_ :: _,h => by cases h
  | _ :: _,[],h => by cases h
theorem look_len {x : AV} : ∀ {ks vs : List AV} {r : Option AV},lookL x ks vs = some r → r = none → ks.length = vs.length
  | [],[],_,_,_ => rfl
  | k :: ks,v :: vs,r,h,hr => by
    simp only [lookL] at h
    split at h
    · injection h with h; rw [hr] at h; cases h
    · simp [look_len h hr]
    · cases h
  | [],_ :: _,_,h,_ => by simp [lookL] at h
  | _ :: _,[],_,h,_ => by simp [lookL] at h
theorem look_sIns {x k0 y : AV} (a : Int) : ∀ {ks vs : List AV},ks.length = vs.length → (lookL x (sIns a k0 ks ks) (sIns a y ks vs) = some none ↔ keyEqv x k0 = some false ∧ lookL x ks vs = some none)
  | [],[],_ => by
    simp only [sIns,lookL]
    split <;> simp_all
  | k :: ks,v :: vs,h => by
    have ih := look_sIns (x := x) (k0 := k0) (y := y) a (ks := ks) (vs := vs) (by simpa using h)
    simp only [sIns]
    split
    · simp only [lookL]
      split
      · simp_all
      · rw [ih]
      · simp_all
    · simp only [lookL]
      cases keyEqv x k0 with
      | none => simp
      | some b => cases b <;> simp
  | [],_ :: _,h => by cases h
  | _ :: _,[],h => by cases h
theorem repl_repl (S : St) (l : Nat) (c d : List AV) : (S.repl l c).repl l d = S.repl l d := by
  simp only [St.repl,List.map_map]
  congr 1
  refine List.map_congr_left fun p _ => ?_
  simp only [Function.comp]
  split <;> simp_all
theorem repl_swap (S : St) {l l' : Nat} (h : l ≠ l') (c d : List AV) : (S.repl l c).repl l' d = (S.repl l' d).repl l c := by
  simp only [St.repl,List.map_map]
  congr 1
  refine List.map_congr_left fun p _ => ?_
  simp only [Function.comp]
  by_cases h1 : p.1 = l
  · have : p.1 ≠ l' := fun e => h (h1.symm.trans e)
    simp [h1,h]
  · by_cases h2 : p.1 = l'
    · simp [h2,Ne.symm h]
    · simp [h1,h2]
theorem repl_same {S : St} {l : Nat} {c c0 : List AV} (h : S.get l = some c0) : (S.repl l c).get l = some c := by rw [repl_get h]; simp [St.get,St.set]
theorem repl_other {S : St} {l k : Nat} {c c0 : List AV} (h : S.get l = some c0) (hk : k ≠ l) : (S.repl l c).get k = S.get k := by
  have hb : (k == l) = false := by simpa using hk
  rw [repl_get h]; simp [St.get,St.set,List.lookup_cons,hb]
theorem insC_comm {q q' : IntKind} {a b : Int} {S S1 S2 : St} {m m' y y' : AV} (h1 : insCEv q a S m y = some S1) (h2 : insCEv q' b S1 m' y' = some S2) : ∃ T,insCEv q' b S m' y' = some T ∧ insCEv q a T m y = some S2 := by
  unfold insCEv at h1
  split at h1
  rotate_left
  · cases h1
  rename_i l
  split at h1
  rotate_left
  · cases h1
  rename_i ks vs hg
  split at h1
  rotate_left
  · cases h1
  rename_i hl
  injection h1 with h1
  subst h1
  have hlen := look_len hl rfl
  unfold insCEv at h2
  split at h2
  rotate_left
  · cases h2
  rename_i l'
  by_cases hll : l' = l
  · subst hll
    rw [repl_same hg] at h2
    simp only at h2
    split at h2
    rotate_left
    · cases h2
    rename_i hl2
    injection h2 with h2
    obtain ⟨h3,h4⟩ := (look_sIns a hlen).1 hl2
    have h5 : q' = q ∧ b ≠ a := by
      simp only [keyEqv] at h3
      split at h3
      · rename_i e; exact ⟨e,by simpa using h3⟩
      · cases h3
    obtain ⟨rfl,hba⟩ := h5
    have h6 : keyEqv (.int q' a) (.int q' b) = some false := by simp [keyEqv,Ne.symm hba]
    refine ⟨S.repl l' [.mob (sIns b (.int q' b) ks ks) (sIns b y' ks vs)],by simp only [insCEv,hg,h4],?_⟩
    simp only [insCEv,repl_same hg,(look_sIns b hlen).2 ⟨h6,hl⟩,repl_repl]
    rw [← h2,repl_repl,sIns_comm (Ne.symm hba) q' q' _ _ ks ks rfl,sIns_comm (Ne.symm hba) q' q' y y' ks vs hlen]
  · rw [repl_other hg hll] at h2
    split at h2
    rotate_left
    · cases h2
    rename_i ks' vs' hg'
    split at h2
    rotate_left
    · cases h2
    rename_i hl'
    injection h2 with h2
    refine ⟨S.repl l' [.mob (sIns b (.int q' b) ks' ks') (sIns b y' ks' vs')],by simp only [insCEv,hg',hl'],?_⟩
    simp only [insCEv,repl_other hg' (Ne.symm hll),hg,hl]
    rw [← h2,repl_swap S hll]
theorem zob_inv {wb : Base} {G : Gh} {S : St} {w : World} (h : StRel wb G S w) {k r : Nat} {E : Nat} (hk : S.get k = some [.zob E]) (hr : G.σ k = some r) : ∃ fz,w.heap[r]? = some (.cells #[] E fz) := by
  obtain ⟨r',h1,h2⟩ := h.bld k _ hk rfl
  rw [hr] at h1
  cases h1
  exact h2
def zAt (E : Nat) (S : St) : AV → Bool
  | .ptr l 0 => (match S.get l with
    | some [.zob E'] => E' == E
    | _ => false)
  | _ => false
def isZp (S : St) : AV → Bool
  | .ptr l 0 => (match S.get l with
    | some [.zob _] => true
    | _ => false)
  | _ => false
def zfld (P : Program) (s : TypeId) (f : Nat) : Bool :=
  P.cellsOf s == 0 && (match P.underlying s with
   | some (.struct fs) => (match fs[f]? with
     | some fd => fd.offset == 0 && fd.byteOffset == 0 && sizeIs P fd.type 0
     | none => false)
   | _ => false)
theorem run_byteOf0 {P : Program} {w : World} {r E : Nat} {fz : Nat × Nat} (h : w.heap[r]? = some (.cells #[] E fz)) (hE : P.cellsOf E = 0) : (byteOf ⟨r,0,none⟩).run P w = .ok 0 w := by
  have hs : w.shape? r = some (E,0) := by simp [World.shape?,h]
  have hp : (program).run P w = .ok P w := rfl
  simp [byteOf,noView,viewAt,shape,Sem.run,hs,hp,hE]
theorem run_zfadr {P : Program} {w : World} {s f r : Nat} {fz : Nat × Nat} (h : w.heap[r]? = some (.cells #[] s fz)) (hf : zfld P s f = true) : (Instr.fieldAt s (.pointer (some ⟨r,0,none⟩)) f).run P w = .ok (.pointer (some ⟨r,0,none⟩)) w := by
  unfold zfld at hf
  rw [Bool.and_eq_true,beq_iff_eq] at hf
  obtain ⟨hE,hf⟩ := hf
  split at hf
  · rename_i fs hu
    split at hf
    · rename_i fd hfd
      simp only [Bool.and_eq_true,beq_iff_eq] at hf
      obtain ⟨⟨h1,h2⟩,h3⟩ := hf
      have hb := run_byteOf0 (P := P) h hE
      simp [Instr.fieldAt,run_und hu,hfd,Instr.sureAddr,fieldPlace,run_sizeIs h3,partAt,h1,h2,hb]
    · cases hf
  · cases hf
theorem sem_zbox {P : Program} {wb : Base} {w : World} {G : Gh} {S : St} (hS : StRel wb G S w) (E : TypeId) {u : Value} (hu : VRel G (.agg []) u) : SemOK P wb G (Instr.box E u) w (.ptr S.n 0) { S with n := S.n + 1,obj := (S.n,[.zob E]) :: S.obj } := by
  obtain rfl : u = .agg #[] := by
    cases hu with
    | agg hl ho hv => rename_i vs; obtain rfl := List.eq_nil_of_length_eq_zero hl.symm; rfl
  obtain ⟨G',h1,h2,h3⟩ := hS.newSpec (o := .cells #[] E) (c0 := .zob E) rfl (by simp) fun G' _ => ⟨_,World.alloc_heap_new w _⟩
  exact ⟨_,_,G',rfl,h1,h3,.ptr h2⟩
end Go.V
namespace Go.V
open Go
inductive MK where
  | mov (x : Opd)
  | pick (c a b : Opd)
  | alloc (z : List AV)
  | box (x : Opd)
  | build (z : List AV) (ps : List (Nat × Nat × Opd))
  | mkSl (k : Nat) (z : List AV) (xs : List Opd)
  | load (n : Nat) (ag : Bool) (p : Opd)
  | store (n : Nat) (p x : Opd)
  | nilChk (x : Opd)
  | bin (op : BinOp) (x y : Opd)
  | eqv (ks : List EK) (neg : Bool) (x y : Opd)
  | un (op : UnOp) (x : Opd)
  | conv (k : IntKind) (x : Opd)
  | s2s (x : Opd)
  | b2s (x : Opd)
  | fadr (off : Nat) (x : Opd)
  | fld (off n : Nat) (ag : Bool) (x : Opd)
  | iadr (k : Nat) (x i : Opd)
  | iadrA (k len : Nat) (x i : Opd)
  | istr (x i : Opd)
  | iarr (k len : Nat) (ag : Bool) (x i : Opd)
  | slS (x : Opd) (lo hi : Option Opd)
  | slV (k : Nat) (x : Opd) (lo hi mx : Option Opd)
  | len (s : Bool) (x : Opd)
  | app (k bytes : Nat) (x y : Opd)
  | ifc (t : TypeId) (x : Opd)
  | func (f : Fn) (first caps : List Opd)
  | ext (x : Opd) (i : Nat)
  | min (x y : Opd)
  | s2y (x : Opd)
  | mkCap (k bytes : Nat) (c : Opd)
  | cmp (k : Nat) (neg : Bool) (x y : Opd)
  | bad
  | allocB
  | appN (k bytes : Nat) (x y : Opd)
  | tas (t : TypeId) (z : AV) (x : Opd)
  | appO (k bytes : Nat) (x y : Opd)
  | nn (t : TypeId) (neg : Bool) (x : Opd)
  | clr (k : Nat) (z : List AV) (x : Opd)
  | mkMap
  | ins (s : Bool) (m x y : Opd)
  | look (ok s : Bool) (z : AV) (m x : Opd)
  | insC (q : IntKind) (a : Int) (m y : Opd)
  | max (x y : Opd)
  | zbox (E : Nat) (x : Opd)
  | zfadr (E : Nat) (x : Opd)
  | zload (x : Opd)
  | appG (k bytes : Nat) (x y : Opd)
def MK.ev (F : Fr) (S : St) : MK → Option (AV × St)
  | .mov x => some (x.ev F,S)
  | .pick c a b => match c.ev F with
    | .bool t => some (if t then a.ev F else b.ev F,S)
    | _ => none
  | .alloc z => some (.ptr S.n 0,{ S with n := S.n + 1,obj := (S.n,z) :: S.obj })
  | .box x => if (x.ev F).solid then some (.ptr S.n 0,{ S with n := S.n + 1,obj := (S.n,(x.ev F).cells) :: S.obj }) else none
  | .build z ps => (putParts F z ps).map fun cs => (.agg cs,S)
  | .mkSl k _ xs => if rowOK k (xs.map (Opd.ev F)) then some (.sl k (xs.map (Opd.ev F)) .exact,S) else none
  | .load n ag p => ((p.ev F).there S).bind fun cs => (pickCells n ag cs).map fun v => (v,S)
  | .store n p x => (storeEv n S (p.ev F) (x.ev F)).map fun S' => (.tup [],S')
  | .nilChk x => if nonNil (x.ev F) then some (x.ev F,S) else none
  | .bin op x y => (binEv op (x.ev F) (y.ev F)).map fun v => (v,S)
  | .eqv ks neg x y => (eqvEv ks neg (x.ev F) (y.ev F)).map fun v => (v,S)
  | .un op x => (unEv op (x.ev F)).map fun v => (v,S)
  | .conv k x => match x.ev F with
    | .int _ n => some (.int k (k.wrap n),S)
    | _ => none
  | .s2s x => match x.ev F with
    | .str s => some (.str s,S)
    | _ => none
  | .b2s x => match x.ev F with
    | .sl k xs _ => if k = 1 then (strOf xs).map fun s => (.str s,S) else none
    | _ => none
  | .fadr off x => ((x.ev F).plus off).map fun v => (v,S)
  | .fld off n ag x => (fldEv off n ag (x.ev F)).map fun v => (v,S)
  | .iadr k x i => match x.ev F,i.ev F with
    | .sl k' xs _,.int _ n => if k' = k then some (.eptr k xs n.toNat 0,S) else none
    | .osl k' _ l o,.int _ n => if k' = k then some (.ptr l (o + n.toNat * k),S) else none
    | _,_ => none
  | .iadrA k _ x i => match i.ev F with
    | .int _ n => ((x.ev F).plus (n.toNat * k)).map fun v => (v,S)
    | _ => none
  | .istr x i => match x.ev F,i.ev F with
    | .str s,.int _ n => (s[n.toNat]?).map fun b => (.int .u8 b.toNat,S)
    | _,_ => none
  | .iarr k ln ag x i => (iarrEv k ln ag (x.ev F) (i.ev F)).map fun v => (v,S)
  | .slS x lo hi => (slStrEv (x.ev F) (lo.map (Opd.ev F)) (hi.map (Opd.ev F))).map fun v => (v,S)
  | .slV k x lo hi mx => (slVecEv k (x.ev F) (lo.map (Opd.ev F)) (hi.map (Opd.ev F)) (mx.map (Opd.ev F))).map fun v => (v,S)
  | .len s x => if isStr (x.ev F) = s then (lenEv (x.ev F)).map fun v => (v,S) else none
  | .app k _ x y => appEv k S (x.ev F) (y.ev F)
  | .ifc t x => some (.ifc t (x.ev F),S)
  | .func f first caps => some (.fn f (first.map (Opd.ev F)) (caps.map (Opd.ev F)),S)
  | .ext x i => (extEv i (x.ev F)).map fun v => (v,S)
  | .min x y => (minEv (x.ev F) (y.ev F)).map fun v => (v,S)
  | .s2y x => match x.ev F with
    | .str s => some (.sl 1 (s.map byteAV) .unk,S)
    | _ => none
  | .mkCap k _ c => match c.ev F with
    | .int _ _ => some (.sl k [] (.tok S.nt),{ S with nt := S.nt + 1,live := S.nt :: S.live })
    | _ => none
  | .cmp k neg x y => (cmpEv k (x.ev F) (y.ev F)).map fun b => (.bool (neg != b),S)
  | .bad => none
  | .allocB => some (.ptr S.n 0,{ S with n := S.n + 1,obj := (S.n,[.bld []]) :: S.obj })
  | .appN k _ x y => appNEv k S (x.ev F) (y.ev F)
  | .tas t z x => (tasEv t z (x.ev F)).map fun v => (v,S)
  | .appO k _ x y => appOEv k S (x.ev F) (y.ev F)
  | .nn _ neg x => (nnEv neg (x.ev F)).map fun v => (v,S)
  | .clr k z x => clrEv k z S (x.ev F)
  | .mkMap => some (.mp S.n,{ S with n := S.n + 1,obj := (S.n,[.mob [] []]) :: S.obj })
  | .ins s m x y => (insEv s S (m.ev F) (x.ev F) (y.ev F)).map fun S' => (.tup [],S')
  | .look ok s z m x => (lookEv ok s z S (m.ev F) (x.ev F)).map fun v => (v,S)
  | .insC q a m y => (insCEv q a S (m.ev F) (y.ev F)).map fun S' => (.tup [],S')
  | .max x y => (maxEv (x.ev F) (y.ev F)).map fun v => (v,S)
  | .zbox E x => (match x.ev F with
    | .agg [] => some (.ptr S.n 0,{ S with n := S.n + 1,obj := (S.n,[.zob E]) :: S.obj })
    | _ => none)
  | .zfadr E x => if zAt E S (x.ev F) then some (x.ev F,S) else none
  | .zload x => if isZp S (x.ev F) then some (.agg [],S) else none
  | .appG k _ x y => appGEv k S (x.ev F) (y.ev F)
def MK.ob (F : Fr) (S : St) : MK → Prop
  | .bin op x y => binOb op (x.ev F) (y.ev F)
  | .iadr _ x i => match x.ev F,i.ev F with
    | .sl _ xs _,.int _ n => 0 ≤ n ∧ n < xs.length
    | .osl _ m _ _,.int _ n => 0 ≤ n ∧ n < m
    | _,_ => True
  | .iadrA _ ln _ i => match i.ev F with
    | .int _ n => 0 ≤ n ∧ n < ln
    | _ => True
  | .istr _ i => match i.ev F with
    | .int _ n => 0 ≤ n
    | _ => True
  | .slS x lo hi => slStrOb (x.ev F) (lo.map (Opd.ev F)) (hi.map (Opd.ev F))
  | .slV _ x lo hi mx => slVecOb (x.ev F) (lo.map (Opd.ev F)) (hi.map (Opd.ev F)) (mx.map (Opd.ev F))
  | .app k bytes x y => appOb k bytes S (x.ev F) (y.ev F)
  | .mkCap _ bytes c => match c.ev F with
    | .int _ n => 0 ≤ n ∧ (bytes : Int) * n ≤ 281474976710656 ∧ n ≤ 9223372036854775807
    | _ => True
  | .allocB => noBld S = true
  | .appN k bytes x y => appNOb k bytes S (x.ev F) (y.ev F)
  | .appO k bytes _ y => appOOb k bytes (y.ev F)
  | .appG k bytes x y => appGOb k bytes (x.ev F) (y.ev F)
  | _ => True
def mkSlFits (P : Program) (k : Nat) (z : List AV) (xs : List Opd) (t : TypeId) (len : Nat) (parts : Array (Nat × Operand)) : Bool :=
  (match P.underlying t with
   | some (.slice e) => sizeIs P e k && zeroIs P e z
   | _ => false) && decide (0 < k) && decide (xs.length * k ≤ 16777216) && xs.length == len && listFits xs (parts.toList.map (·.2)) && decide (parts.toList.map (·.1) = List.range len)
def capFits (P : Program) (k bytes : Nat) (t : TypeId) (l : Operand) : Bool :=
  (match l with
   | .const (.int _ 0) => true
   | _ => false) && (match P.underlying t with
   | some (.slice e) => (match P.info? e with
     | some i => i.size == k && i.bytes == bytes && i.zero.isSome
     | none => false)
   | _ => false)
def MK.fits (P : Program) : MK → Op → Bool
  | .mov x,.move y | .mov x,.assign y => x.fits y
  | .pick c a b,.pick c' a' b' => c.fits c' && a.fits a' && b.fits b'
  | .alloc z,.alloc t => zeroIs P t z
  | .box x,.box _ y => x.fits y
  | .build z ps,.build t qs => buildTy P t z ps qs.toList
  | .mkSl k z xs,.buildSlice t ln parts => mkSlFits P k z xs t ln parts
  | .load n ag p,.load t q => p.fits q && known P t && (isAggB P t == ag) && sizeIs P t n
  | .store n p x,.store t q y => p.fits q && x.fits y && sizeIs P t n
  | .nilChk x,.nilCheck y => x.fits y
  | .bin op x y,.binOp op' _ x' y' _ => decide (op = op') && x.fits x' && y.fits y'
  | .eqv ks neg x y,.binOp op t x' y' _ => decide (op = if neg then .neq else .eql) && flatTy P ks t && x.fits x' && y.fits y'
  | .un op x,.unOp op' _ y => decide (op = op') && x.fits y
  | .conv k x,.convert s d y => x.fits y && known P s && kindTy P d k
  | .s2s x,.convert s d y => x.fits y && isStrTy P s && isStrTy P d
  | .b2s x,.convert s d y => x.fits y && byteTy P s && isStrTy P d
  | .fadr off x,.fieldAddr s y f => x.fits y && fieldIs P s f off
  | .fld off n ag x,.field s y f => x.fits y && fldTy P s f off n ag
  | .iadr k x i,.indexAddr t y j => x.fits y && i.fits j && (match P.underlying t with
    | some (.slice e) => sizeIs P e k
    | _ => false)
  | .iadrA k ln x i,.indexAddr t y j => x.fits y && i.fits j && (match P.underlying t with
    | some (.array n e) => n == ln && sizeIs P e k
    | _ => false)
  | .istr x i,.index t y j => x.fits y && i.fits j && isStrTy P t
  | .iarr k ln ag x i,.index t y j => x.fits y && i.fits j && iarrTy P t k ln ag
  | .slS x lo hi,.slice t y lo' hi' mx' => x.fits y && optFits lo lo' && optFits hi hi' && mx'.isNone && isStrTy P t
  | .slV k x lo hi mx,.slice t y lo' hi' mx' => x.fits y && optFits lo lo' && optFits hi hi' && optFits mx mx' && (match P.underlying t with
    | some (.slice e) => sizeIs P e k
    | _ => false)
  | .len s x,.call c => (match c.callee with
    | .builtin .len => true
    | _ => false) && (match c.args.toList,c.argTypes.toList with
    | [y],[t] => x.fits y && lenTy P s t
    | _,_ => false)
  | .app k bytes x y,.call c => (match c.callee with
    | .builtin .append => true
    | _ => false) && (match c.args.toList,c.argTypes.toList with
    | [x',y'],[t,t2] => x.fits x' && y.fits y' && appTy P t t2 k bytes
    | _,_ => false)
  | .min x y,.call c => (match c.callee with
    | .builtin .min => true
    | _ => false) && (match c.args.toList with
    | [x',y'] => x.fits x' && y.fits y'
    | _ => false)
  | .ifc t x,.makeInterface t' y => t == t' && x.fits y && concreteTy P t
  | .func f first caps,.makeFunc f' first' caps' => decide (f = f') && listFits first first'.toList && listFits caps caps'.toList
  | .ext x i,.extract y j => x.fits y && i == j
  | .s2y x,.convert s d y => x.fits y && isStrTy P s && byteTy P d
  | .mkCap k bytes c,.makeSlice t l c' => c.fits c' && capFits P k bytes t l
  | .cmp k neg x y,.binOp op t x' y' _ => decide (op = if neg then .neq else .eql) && x.fits x' && y.fits y' && cmpTy P t k y'
  | .allocB,.alloc t => bldFits P t
  | .appN k bytes x y,.call c => (match c.callee with
    | .builtin .append => true
    | _ => false) && (match c.args.toList,c.argTypes.toList with
    | [x',y'],[t,t2] => x.fits x' && y.fits y' && appTy P t t2 k bytes
    | _,_ => false)
  | .tas t z x,.typeAssert y _ t' ok => x.fits y && t == t' && ok && tasFits P t z
  | .appO k bytes x y,.call c => (match c.callee with
    | .builtin .append => true
    | _ => false) && (match c.args.toList,c.argTypes.toList with
    | [x',y'],[t,t2] => x.fits x' && y.fits y' && appTy P t t2 k bytes
    | _,_ => false)
  | .nn t neg x,.binOp op t' x' y' _ => decide (op = if neg then .neq else .eql) && x.fits x' && t == t' && nnTy P t y'
  | .clr k z x,.call c => (match c.callee with
    | .builtin .clear => true
    | _ => false) && (match c.args.toList,c.argTypes.toList with
    | [x'],[t] => x.fits x' && clrTy P t k z
    | _,_ => false)
  | .mkMap,.makeMap t r => (match r with
    | none => true
    | some (.const (.int _ _)) => mapTy P t false none || mapTy P t true none
    | _ => false)
  | .ins s m x y,.mapUpdate t m' x' y' | .ins s m x y,.insert t m' x' y' => mapTy P t s none && m.fits m' && x.fits x' && y.fits y'
  | .look ok s z m x,.lookup t m' x' ok' => ok == ok' && mapTy P t s (some z) && m.fits m' && x.fits x'
  | .insC q a m y,.insert t m' (.const (.int q' a')) y' => mapTy P t false none && m.fits m' && y.fits y' && q == q' && a == a'
  | .max x y,.call c => (match c.callee with
    | .builtin .max => true
    | _ => false) && (match c.args.toList with
    | [x',y'] => x.fits x' && y.fits y'
    | _ => false)
  | .zbox E x,.box t y => E == t && x.fits y
  | .zfadr E x,.fieldAddr s y f => E == s && x.fits y && zfld P s f
  | .zload x,.load t q => x.fits q && known P t && isAggB P t && sizeIs P t 0
  | .appG k bytes x y,.call c => (match c.callee with
    | .builtin .append => true
    | _ => false) && (match c.args.toList,c.argTypes.toList with
    | [x',y'],[t,t2] => x.fits x' && y.fits y' && appTy P t t2 k bytes
    | _,_ => false)
  | .bad,_ => true
  | _,_ => false
def OpOK (P : Program) (wb : Base) (G : Gh) (x : Sem Next) (w : World) (r : AV) (S' : St) : Prop :=
  ∃ n v w' G',x.run P w = .ok n w' ∧ (n = .value v ∨ (n = .skip ∧ v = undef)) ∧ G.le G' ∧ StRel wb G' S' w' ∧ VRel G' r v
theorem OpOK.of_sem {P : Program} {wb : Base} {G : Gh} {x : Sem Value} {w : World} {r : AV} {S' : St} (h : SemOK P wb G x w r S') : OpOK P wb G (do pure (.value (← x))) w r S' := by
  obtain ⟨v,w',G',h1,h2,h3,h4⟩ := h
  exact ⟨.value v,v,w',G',by simp [h1],.inl rfl,h2,h3,h4⟩
theorem OpOK.same {P : Program} {wb : Base} {G : Gh} {x : Sem Value} {w : World} {r : AV} {S : St} (h : StRel wb G S w) (hx : ∃ v,x.run P w = .ok v w ∧ VRel G r v) : OpOK P wb G (do pure (.value (← x))) w r S := by
  obtain ⟨v,h1,h2⟩ := hx
  exact .of_sem (.same h h1 h2)
theorem optFits_rel {G : Gh} {F : Fr} {a : Act} (h : FRel G F a) {x : Option Opd} {o : Option Operand} (hf : optFits x o = true) : ORel G (x.map (Opd.ev F)) (o.map a.eval) := by
  cases x <;> cases o <;> simp [optFits] at hf
  · trivial
  · exact Opd.rel h hf
theorem kind_und {P : Program} {t : TypeId} (h : isStrTy P t = true) : P.underlying t = some .string := by
  unfold isStrTy at h
  split at h
  · assumption
  · cases h
theorem listFits_len {F : Fr} {a : Act} : ∀ {xs : List Opd} {os : List Operand},listFits xs os = true → (xs.map (Opd.ev F)).length = (os.map a.eval).length
  | [],[],_ => rfl
  | [],_ :: _,h => by cases h
  | _ :: _,[],h => by cases h
  | x :: xs,o :: os,h => by
    simp only [listFits,Bool.and_eq_true] at h
    simpa using listFits_len (F := F) (a := a) h.2
theorem zip_parts : ∀ (vs : List Value) (parts : List (Nat × Value)) (i : Nat),parts.map (·.2) = vs → parts.map (·.1) = List.range' i vs.length → parts = (vs.zipIdx i).map fun x => (x.2,x.1)
  | [],[],_,_,_ => rfl
  | [],_ :: _,_,h,_ => by simp at h
  | _ :: _,[],_,h,_ => by simp at h
  | v :: vs,p :: ps,i,h,h' => by
    simp only [List.map_cons,List.cons.injEq,List.length_cons,List.range'_succ] at h h'
    obtain ⟨rfl,h1⟩ := h
    obtain ⟨h2,h3⟩ := h'
    have := zip_parts vs ps (i + 1) h1 (by rw [h3])
    subst h2
    rw [List.zipIdx_cons,List.map_cons,← this]
theorem MK.sound {P : Program} {wb : Base} {G : Gh} {S S' : St} {F : Fr} {a : Act} {w : World} {m : MK} {o : Oper} {r : AV} (hfit : m.fits P o.op = true) (hob : m.ob F S) (hev : m.ev F S = some (r,S')) (hS : StRel wb G S w) (hF : FRel G F a) :
    OpOK P wb G (execOp a.eval o) w r S' := by
  unfold MK.fits at hfit
  split at hfit
  case h_1 x y h =>
    simp only [MK.ev,Option.some.injEq,Prod.mk.injEq] at hev
    obtain ⟨rfl,rfl⟩ := hev
    simp only [execOp,h]
    exact ⟨_,_,w,G,rfl,.inl rfl,Gh.le_refl G,hS,Opd.rel hF hfit⟩
  case h_2 x y h =>
    simp only [MK.ev,Option.some.injEq,Prod.mk.injEq] at hev
    obtain ⟨rfl,rfl⟩ := hev
    simp only [execOp,h]
    exact ⟨_,_,w,G,rfl,.inl rfl,Gh.le_refl G,hS,Opd.rel hF hfit⟩
  case h_3 c a1 b c' a' b' h =>
    simp only [Bool.and_eq_true] at hfit
    obtain ⟨⟨f1,f2⟩,f3⟩ := hfit
    have hc := Opd.rel hF f1
    simp only [MK.ev] at hev
    split at hev
    · rename_i t ht
      rw [ht] at hc
      simp only [Option.some.injEq,Prod.mk.injEq] at hev
      obtain ⟨rfl,rfl⟩ := hev
      generalize hcv : a.eval c' = cv at hc
      cases hc
      simp only [execOp,h,hcv,asBool]
      refine ⟨_,_,w,G,rfl,.inl rfl,Gh.le_refl G,hS,?_⟩
      cases t
      · exact Opd.rel hF f3
      · exact Opd.rel hF f2
    · cases hev
  case h_4 z t h =>
    simp only [MK.ev,Option.some.injEq,Prod.mk.injEq] at hev
    obtain ⟨rfl,rfl⟩ := hev
    simp only [execOp,h]
    exact .of_sem (sem_alloc hS hfit)
  case h_5 x t y h =>
    simp only [MK.ev] at hev
    split at hev
    · rename_i hs
      simp only [Option.some.injEq,Prod.mk.injEq] at hev
      obtain ⟨rfl,rfl⟩ := hev
      simp only [execOp,h]
      exact .of_sem (sem_box hS (Opd.rel hF hfit) hs)
    · cases hev
  case h_6 z ps t qs h =>
    simp only [MK.ev,Option.map_eq_some_iff,Prod.mk.injEq] at hev
    obtain ⟨cs,h1,rfl,rfl⟩ := hev
    simp only [execOp,h]
    exact .same hS (run_build hF hfit h1)
  case h_7 k z xs t ln parts h =>
    simp only [MK.ev] at hev
    split at hev
    · rename_i hrow
      simp only [Option.some.injEq,Prod.mk.injEq] at hev
      obtain ⟨rfl,rfl⟩ := hev
      simp only [execOp,h]
      unfold mkSlFits at hfit
      simp only [Bool.and_eq_true,decide_eq_true_eq,beq_iff_eq] at hfit
      obtain ⟨⟨⟨⟨⟨f1,f2⟩,f3⟩,f4⟩,f5⟩,f6⟩ := hfit
      split at f1
      · rename_i e he
        simp only [Bool.and_eq_true] at f1
        obtain ⟨r1,r2⟩ := listFits_rel hF f5
        have e1 : ln = (xs.map (Opd.ev F)).length := by simp [f4]
        rw [e1]
        refine .of_sem (sem_buildSlice hS (vs := (parts.toList.map (·.2)).map a.eval) r1 r2 hrow he f1.1 f1.2 f2 (by simpa using f3) ?_)
        refine zip_parts _ _ 0 ?_ ?_
        · simp
        · have e2 : ((parts.toList.map (·.2)).map a.eval).length = ln := by rw [← r1]; simp [f4]
          rw [e2,← List.range_eq_range',← f6]
          simp
      · cases f1
    · cases hev
  case h_8 n ag p t q h =>
    simp only [Bool.and_eq_true,beq_iff_eq] at hfit
    obtain ⟨⟨⟨f1,f2⟩,f3⟩,f4⟩ := hfit
    simp only [MK.ev,Option.bind_eq_some_iff,Option.map_eq_some_iff,Prod.mk.injEq] at hev
    obtain ⟨cs,h1,v,h2,rfl,rfl⟩ := hev
    obtain ⟨rr,oo,h3,h4⟩ := there_at hS h1 (Opd.rel hF f1)
    simp only [execOp,h,h3]
    exact .same hS (run_load_at h4 f2 f3 f4 h2)
  case h_9 n p x t q y h =>
    simp only [Bool.and_eq_true] at hfit
    obtain ⟨⟨f1,f2⟩,f3⟩ := hfit
    simp only [MK.ev,Option.map_eq_some_iff,Prod.mk.injEq] at hev
    obtain ⟨S1,h1,rfl,rfl⟩ := hev
    obtain ⟨w',h2,h3⟩ := run_store_at (P := P) hS (Opd.rel hF f1) (Opd.rel hF f2) f3 h1
    simp only [execOp,h]
    exact ⟨.skip,undef,w',G,by simp [h2],.inr ⟨rfl,rfl⟩,Gh.le_refl G,h3,.tup (vs := []) rfl (by simp)⟩
  case h_10 x y h =>
    simp only [MK.ev] at hev
    split at hev
    · rename_i hn
      simp only [Option.some.injEq,Prod.mk.injEq] at hev
      obtain ⟨rfl,rfl⟩ := hev
      have hx := Opd.rel hF hfit
      simp only [execOp,h]
      generalize x.ev F = xv at hx hn
      generalize a.eval y = yv at hx
      cases hx <;> first
        | (cases hn; done)
        | exact ⟨_,_,w,G,rfl,.inl rfl,Gh.le_refl G,hS,by constructor <;> assumption⟩
    · cases hev
  case h_11 op x y op' t x' y' t' h =>
    simp only [Bool.and_eq_true,decide_eq_true_eq] at hfit
    obtain ⟨⟨rfl,f2⟩,f3⟩ := hfit
    simp only [MK.ev,Option.map_eq_some_iff,Prod.mk.injEq] at hev
    obtain ⟨v,h1,rfl,rfl⟩ := hev
    simp only [execOp,h]
    exact .same hS (run_bin (Opd.rel hF f2) (Opd.rel hF f3) hob h1 x' y')
  case h_12 ks neg x y op t x' y' t' h =>
    simp only [Bool.and_eq_true,decide_eq_true_eq] at hfit
    obtain ⟨⟨⟨rfl,f1⟩,f2⟩,f3⟩ := hfit
    simp only [MK.ev,Option.map_eq_some_iff,Prod.mk.injEq] at hev
    obtain ⟨v,h1,rfl,rfl⟩ := hev
    simp only [execOp,h]
    exact .same hS (run_eqv (Opd.rel hF f2) (Opd.rel hF f3) f1 h1 x' y')
  case h_13 op x op' t y h =>
    simp only [Bool.and_eq_true,decide_eq_true_eq] at hfit
    obtain ⟨rfl,f2⟩ := hfit
    simp only [MK.ev,Option.map_eq_some_iff,Prod.mk.injEq] at hev
    obtain ⟨v,h1,rfl,rfl⟩ := hev
    simp only [execOp,h]
    exact .same hS (run_un (Opd.rel hF f2) h1)
  case h_14 k x s d y h =>
    simp only [Bool.and_eq_true] at hfit
    obtain ⟨⟨f1,f2⟩,f3⟩ := hfit
    simp only [MK.ev] at hev
    split at hev
    · rename_i k0 n hx
      simp only [Option.some.injEq,Prod.mk.injEq] at hev
      obtain ⟨rfl,rfl⟩ := hev
      simp only [execOp,h]
      exact .same hS ⟨_,run_conv (Opd.rel hF f1) hx f2 f3,.int _ _⟩
    · cases hev
  case h_15 x s d y h =>
    simp only [Bool.and_eq_true] at hfit
    obtain ⟨⟨f1,f2⟩,f3⟩ := hfit
    have hx := Opd.rel hF f1
    simp only [MK.ev] at hev
    split at hev
    · rename_i b hb
      rw [hb] at hx
      simp only [Option.some.injEq,Prod.mk.injEq] at hev
      obtain ⟨rfl,rfl⟩ := hev
      simp only [execOp,h]
      exact .same hS ⟨_,run_convStr hx f2 f3,hx⟩
    · cases hev
  case h_16 x s d y h =>
    simp only [Bool.and_eq_true] at hfit
    obtain ⟨⟨f1,f2⟩,f3⟩ := hfit
    have hx := Opd.rel hF f1
    simp only [MK.ev] at hev
    split at hev
    · rename_i k xs tk hb
      rw [hb] at hx
      split at hev
      · rename_i hk
        subst hk
        simp only [Option.map_eq_some_iff,Prod.mk.injEq] at hev
        obtain ⟨b,h1,rfl,rfl⟩ := hev
        simp only [execOp,h]
        exact .same hS (run_b2s hS hx h1 f2 f3)
      · cases hev
    · cases hev
  case h_17 off x s y f h =>
    simp only [Bool.and_eq_true] at hfit
    simp only [MK.ev,Option.map_eq_some_iff,Prod.mk.injEq] at hev
    obtain ⟨v,h1,rfl,rfl⟩ := hev
    simp only [execOp,h]
    exact .same hS (run_fieldAt (Opd.rel hF hfit.1) hfit.2 h1)
  case h_18 off n ag x s y f h =>
    simp only [Bool.and_eq_true] at hfit
    simp only [MK.ev,Option.map_eq_some_iff,Prod.mk.injEq] at hev
    obtain ⟨v,h1,rfl,rfl⟩ := hev
    simp only [execOp,h]
    exact .same hS (run_field (Opd.rel hF hfit.1) hfit.2 h1)
  case h_19 k x i t y j h =>
    simp only [Bool.and_eq_true] at hfit
    obtain ⟨⟨f1,f2⟩,f3⟩ := hfit
    have hx := Opd.rel hF f1
    have hi := Opd.rel hF f2
    simp only [MK.ev] at hev
    split at hev
    · rename_i k' xs tk ki n e1 e2
      split at hev
      · rename_i hk
        subst hk
        simp only [Option.some.injEq,Prod.mk.injEq] at hev
        obtain ⟨rfl,rfl⟩ := hev
        simp only [MK.ob,e1,e2] at hob
        rw [e1] at hx
        rw [e2] at hi
        split at f3
        · rename_i e he
          simp only [execOp,h]
          exact .same hS (run_indexAt_sl hx hi he f3 hob.1 hob.2)
        · cases f3
      · cases hev
    · rename_i k' m l ki n e1 e2
      split at hev
      · rename_i hk
        subst hk
        simp only [Option.some.injEq,Prod.mk.injEq] at hev
        obtain ⟨rfl,rfl⟩ := hev
        simp only [MK.ob,e1,e2] at hob
        rw [e1] at hx
        rw [e2] at hi
        split at f3
        · rename_i e he
          simp only [execOp,h]
          exact .same hS (run_indexAt_osl hx hi he f3 hob.1 hob.2)
        · cases f3
      · cases hev
    · cases hev
  case h_20 k ln x i t y j h =>
    simp only [Bool.and_eq_true] at hfit
    obtain ⟨⟨f1,f2⟩,f3⟩ := hfit
    have hi := Opd.rel hF f2
    simp only [MK.ev] at hev
    split at hev
    · rename_i ki n e2
      simp only [Option.map_eq_some_iff,Prod.mk.injEq] at hev
      obtain ⟨v,h1,rfl,rfl⟩ := hev
      simp only [MK.ob,e2] at hob
      rw [e2] at hi
      split at f3
      · rename_i n' e he
        simp only [Bool.and_eq_true,beq_iff_eq] at f3
        obtain ⟨rfl,f3⟩ := f3
        simp only [execOp,h]
        exact .same hS (run_indexAt_arr (Opd.rel hF f1) hi he f3 hob.1 hob.2 h1)
      · cases f3
    · cases hev
  case h_21 x i t y j h =>
    simp only [Bool.and_eq_true] at hfit
    obtain ⟨⟨f1,f2⟩,f3⟩ := hfit
    have hx := Opd.rel hF f1
    have hi := Opd.rel hF f2
    simp only [MK.ev] at hev
    split at hev
    · rename_i s ki n e1 e2
      simp only [Option.map_eq_some_iff,Prod.mk.injEq] at hev
      obtain ⟨b,h1,rfl,rfl⟩ := hev
      simp only [MK.ob,e2] at hob
      rw [e1] at hx
      rw [e2] at hi
      simp only [execOp,h]
      exact .same hS (run_index_str hx hi (kind_und f3) hob h1)
    · cases hev
  case h_22 k ln ag x i t y j h =>
    simp only [Bool.and_eq_true] at hfit
    obtain ⟨⟨f1,f2⟩,f3⟩ := hfit
    simp only [MK.ev,Option.map_eq_some_iff,Prod.mk.injEq] at hev
    obtain ⟨v,h1,rfl,rfl⟩ := hev
    simp only [execOp,h]
    exact .same hS (run_iarr (Opd.rel hF f1) (Opd.rel hF f2) f3 h1)
  case h_23 x lo hi t y lo' hi' mx' h =>
    simp only [Bool.and_eq_true,Option.isNone_iff_eq_none] at hfit
    obtain ⟨⟨⟨⟨f1,f2⟩,f3⟩,rfl⟩,f5⟩ := hfit
    simp only [MK.ev,Option.map_eq_some_iff,Prod.mk.injEq] at hev
    obtain ⟨v,h1,rfl,rfl⟩ := hev
    simp only [execOp,h,Option.map_none]
    exact .same hS (run_slStr (Opd.rel hF f1) (optFits_rel hF f2) (optFits_rel hF f3) (kind_und f5) hob h1)
  case h_24 k x lo hi mx t y lo' hi' mx' h =>
    simp only [Bool.and_eq_true] at hfit
    obtain ⟨⟨⟨⟨f1,f2⟩,f3⟩,f4⟩,f5⟩ := hfit
    simp only [MK.ev,Option.map_eq_some_iff,Prod.mk.injEq] at hev
    obtain ⟨v,h1,rfl,rfl⟩ := hev
    split at f5
    · rename_i e he
      simp only [execOp,h]
      exact .same hS (run_slVec (Opd.rel hF f1) (optFits_rel hF f2) (optFits_rel hF f3) (optFits_rel hF f4) he f5 hob h1)
    · cases f5
  case h_25 s x c h =>
    simp only [Bool.and_eq_true] at hfit
    obtain ⟨f1,f2⟩ := hfit
    obtain ⟨callee,args,argTypes⟩ := c
    simp only at f1 f2
    split at f1
    rotate_left
    · cases f1
    split at f2
    · rename_i y t e1 e2
      simp only [Bool.and_eq_true] at f2
      simp only [MK.ev] at hev
      split at hev
      · rename_i hstr
        subst hstr
        simp only [Option.map_eq_some_iff,Prod.mk.injEq] at hev
        obtain ⟨v,h1,rfl,rfl⟩ := hev
        obtain rfl : args = #[y] := by apply Array.ext'; simpa using e1
        obtain rfl : argTypes = #[t] := by apply Array.ext'; simpa using e2
        simp only [execOp,h,resolve,List.map_toArray,List.map_cons,List.map_nil]
        exact .same hS (run_len (Opd.rel hF f2.1) f2.2 h1)
      · cases hev
    · cases f2
  case h_26 k bytes x y c h =>
    simp only [Bool.and_eq_true] at hfit
    obtain ⟨f1,f2⟩ := hfit
    obtain ⟨callee,args,argTypes⟩ := c
    simp only at f1 f2
    split at f1
    rotate_left
    · cases f1
    split at f2
    · rename_i x' y' t t2 e1 e2
      simp only [Bool.and_eq_true] at f2
      obtain ⟨⟨f3,f4⟩,f5⟩ := f2
      simp only [MK.ev] at hev
      obtain rfl : args = #[x',y'] := by apply Array.ext'; simpa using e1
      obtain rfl : argTypes = #[t,t2] := by apply Array.ext'; simpa using e2
      simp only [execOp,h,resolve,List.map_toArray,List.map_cons,List.map_nil]
      exact .of_sem (sem_append hS (Opd.rel hF f3) (Opd.rel hF f4) f5 hob hev)
    · cases f2
  case h_27 x y c h =>
    simp only [Bool.and_eq_true] at hfit
    obtain ⟨f1,f2⟩ := hfit
    obtain ⟨callee,args,argTypes⟩ := c
    simp only at f1 f2
    split at f1
    rotate_left
    · cases f1
    split at f2
    · rename_i x' y' e1
      simp only [Bool.and_eq_true] at f2
      simp only [MK.ev,Option.map_eq_some_iff,Prod.mk.injEq] at hev
      obtain ⟨v,h1,rfl,rfl⟩ := hev
      obtain rfl : args = #[x',y'] := by apply Array.ext'; simpa using e1
      simp only [execOp,h,resolve,List.map_toArray,List.map_cons,List.map_nil]
      exact .same hS (run_min (Opd.rel hF f2.1) (Opd.rel hF f2.2) h1)
    · cases f2
  case h_28 t x t' y h =>
    simp only [Bool.and_eq_true,beq_iff_eq] at hfit
    obtain ⟨⟨rfl,f2⟩,f3⟩ := hfit
    simp only [MK.ev,Option.some.injEq,Prod.mk.injEq] at hev
    obtain ⟨rfl,rfl⟩ := hev
    simp only [execOp,h]
    exact .same hS ⟨_,run_ifc f3,.ifc t (Opd.rel hF f2)⟩
  case h_29 f first caps f' first' caps' h =>
    simp only [Bool.and_eq_true,decide_eq_true_eq] at hfit
    obtain ⟨⟨rfl,f2⟩,f3⟩ := hfit
    simp only [MK.ev,Option.some.injEq,Prod.mk.injEq] at hev
    obtain ⟨rfl,rfl⟩ := hev
    obtain ⟨l1,r1⟩ := listFits_rel hF f2
    obtain ⟨l2,r2⟩ := listFits_rel hF f3
    simp only [execOp,h]
    refine .same hS ⟨.func f (first'.map a.eval) (caps'.map a.eval),rfl,?_⟩
    have := VRel.fn (G := G) f l1 l2 r1 r2
    rw [show (first'.toList.map a.eval).toArray = first'.map a.eval from by apply Array.ext'; simp,show (caps'.toList.map a.eval).toArray = caps'.map a.eval from by apply Array.ext'; simp] at this
    exact this
  case h_30 x i y j h =>
    simp only [Bool.and_eq_true,beq_iff_eq] at hfit
    obtain ⟨f1,rfl⟩ := hfit
    simp only [MK.ev,Option.map_eq_some_iff,Prod.mk.injEq] at hev
    obtain ⟨v,h1,rfl,rfl⟩ := hev
    simp only [execOp,h]
    exact .same hS (run_ext (Opd.rel hF f1) h1)
  case h_31 x s d y h =>
    simp only [Bool.and_eq_true] at hfit
    obtain ⟨⟨f1,f2⟩,f3⟩ := hfit
    have hx := Opd.rel hF f1
    simp only [MK.ev] at hev
    split at hev
    · rename_i b hb
      rw [hb] at hx
      simp only [Option.some.injEq,Prod.mk.injEq] at hev
      obtain ⟨rfl,rfl⟩ := hev
      simp only [execOp,h]
      exact .of_sem (sem_s2y hS hx f2 f3)
    · cases hev
  case h_32 k bytes c t l c' h =>
    simp only [Bool.and_eq_true] at hfit
    obtain ⟨f1,f2⟩ := hfit
    have hx := Opd.rel hF f1
    simp only [MK.ev] at hev
    simp only [MK.ob] at hob
    split at hev
    · rename_i k0 n hn
      rw [hn] at hx hob
      simp only at hob
      simp only [Option.some.injEq,Prod.mk.injEq] at hev
      obtain ⟨rfl,rfl⟩ := hev
      unfold capFits at f2
      simp only [Bool.and_eq_true] at f2
      obtain ⟨f3,f4⟩ := f2
      split at f3
      · rename_i kl
        split at f4
        · rename_i e he
          split at f4
          · rename_i i hi
            simp only [Bool.and_eq_true,beq_iff_eq] at f4
            obtain ⟨⟨f5,f6⟩,f7⟩ := f4
            obtain ⟨z,hz⟩ := Option.isSome_iff_exists.1 f7
            simp only [execOp,h]
            generalize hcv : a.eval c' = cv at hx
            cases hx
            simp only [Act.eval]
            exact .of_sem (sem_mkCap hS he hi hz hob.1 (by rw [f6]; exact hob.2.1) hob.2.2 f5)
          · cases f4
        · cases f4
      · cases f3
    · cases hev
  case h_33 k neg x y op t x' y' t' h =>
    simp only [Bool.and_eq_true,decide_eq_true_eq] at hfit
    obtain ⟨⟨⟨rfl,f1⟩,f2⟩,f3⟩ := hfit
    simp only [MK.ev,Option.map_eq_some_iff,Prod.mk.injEq] at hev
    obtain ⟨b,h1,rfl,rfl⟩ := hev
    simp only [execOp,h]
    exact .same hS (run_cmp (Opd.rel hF f1) (Opd.rel hF f2) f3 h1)
  case h_34 t h =>
    simp only [MK.ev,Option.some.injEq,Prod.mk.injEq] at hev
    obtain ⟨rfl,rfl⟩ := hev
    simp only [execOp,h]
    exact .of_sem (sem_allocB hS hfit hob)
  case h_35 k bytes x y c h =>
    simp only [Bool.and_eq_true] at hfit
    obtain ⟨f1,f2⟩ := hfit
    obtain ⟨callee,args,argTypes⟩ := c
    simp only at f1 f2
    split at f1
    rotate_left
    · cases f1
    split at f2
    · rename_i x' y' t t2 e1 e2
      simp only [Bool.and_eq_true] at f2
      obtain ⟨⟨f3,f4⟩,f5⟩ := f2
      simp only [MK.ev] at hev
      obtain rfl : args = #[x',y'] := by apply Array.ext'; simpa using e1
      obtain rfl : argTypes = #[t,t2] := by apply Array.ext'; simpa using e2
      simp only [execOp,h,resolve,List.map_toArray,List.map_cons,List.map_nil]
      exact .of_sem (sem_appN hS (Opd.rel hF f3) (Opd.rel hF f4) f5 hob hev)
    · cases f2
  case h_36 t z x y xt t' ok h =>
    simp only [Bool.and_eq_true,beq_iff_eq] at hfit
    obtain ⟨⟨⟨f1,rfl⟩,rfl⟩,f4⟩ := hfit
    simp only [MK.ev,Option.map_eq_some_iff,Prod.mk.injEq] at hev
    obtain ⟨v,h1,rfl,rfl⟩ := hev
    simp only [execOp,h]
    exact .same hS (run_tas (Opd.rel hF f1) f4 h1)
  case h_37 k bytes x y c h =>
    simp only [Bool.and_eq_true] at hfit
    obtain ⟨f1,f2⟩ := hfit
    obtain ⟨callee,args,argTypes⟩ := c
    simp only at f1 f2
    split at f1
    rotate_left
    · cases f1
    split at f2
    · rename_i x' y' t t2 e1 e2
      simp only [Bool.and_eq_true] at f2
      obtain ⟨⟨f3,f4⟩,f5⟩ := f2
      simp only [MK.ev] at hev
      obtain rfl : args = #[x',y'] := by apply Array.ext'; simpa using e1
      obtain rfl : argTypes = #[t,t2] := by apply Array.ext'; simpa using e2
      simp only [execOp,h,resolve,List.map_toArray,List.map_cons,List.map_nil]
      exact .of_sem (sem_appO hS (Opd.rel hF f3) (Opd.rel hF f4) f5 hob hev)
    · cases f2
  case h_38 t neg x op t' x' y' xt h =>
    simp only [Bool.and_eq_true,decide_eq_true_eq,beq_iff_eq] at hfit
    obtain ⟨⟨⟨rfl,f1⟩,rfl⟩,f3⟩ := hfit
    simp only [MK.ev,Option.map_eq_some_iff,Prod.mk.injEq] at hev
    obtain ⟨v,h1,rfl,rfl⟩ := hev
    simp only [execOp,h]
    exact .same hS (run_nn (Opd.rel hF f1) f3 h1)
  case h_39 k z x c h =>
    simp only [Bool.and_eq_true] at hfit
    obtain ⟨f1,f2⟩ := hfit
    obtain ⟨callee,args,argTypes⟩ := c
    simp only at f1 f2
    split at f1
    rotate_left
    · cases f1
    split at f2
    · rename_i x' t e1 e2
      simp only [Bool.and_eq_true] at f2
      obtain ⟨f3,f5⟩ := f2
      simp only [MK.ev] at hev
      obtain rfl : args = #[x'] := by apply Array.ext'; simpa using e1
      obtain rfl : argTypes = #[t] := by apply Array.ext'; simpa using e2
      simp only [execOp,h,resolve,List.map_toArray,List.map_cons,List.map_nil]
      exact .of_sem (sem_clr hS (Opd.rel hF f3) f5 hev)
    · cases f2
  case h_40 t r h =>
    simp only [MK.ev,Option.some.injEq,Prod.mk.injEq] at hev
    obtain ⟨rfl,rfl⟩ := hev
    split at hfit
    · simp only [execOp,h,Option.map_none]
      exact .of_sem (sem_mkMap hS t)
    · simp only [execOp,h,Option.map_some,Act.eval]
      rw [Bool.or_eq_true] at hfit
      rcases hfit with hfit | hfit
      · exact .of_sem (sem_mkMapH hS hfit _ _)
      · exact .of_sem (sem_mkMapH hS hfit _ _)
    · cases hfit
  case h_41 s m x y t m' x' y' h =>
    simp only [Bool.and_eq_true] at hfit
    obtain ⟨⟨⟨f1,f2⟩,f3⟩,f4⟩ := hfit
    simp only [MK.ev,Option.map_eq_some_iff,Prod.mk.injEq] at hev
    obtain ⟨S1,h1,rfl,rfl⟩ := hev
    obtain ⟨w',h2,h3⟩ := sem_ins hS f1 (Opd.rel hF f2) (Opd.rel hF f3) (Opd.rel hF f4) h1
    simp only [execOp,h]
    exact ⟨.skip,undef,w',G,by simp [h2],.inr ⟨rfl,rfl⟩,Gh.le_refl G,h3,.tup (vs := []) rfl (by simp)⟩
  case h_42 s m x y t m' x' y' h =>
    simp only [Bool.and_eq_true] at hfit
    obtain ⟨⟨⟨f1,f2⟩,f3⟩,f4⟩ := hfit
    simp only [MK.ev,Option.map_eq_some_iff,Prod.mk.injEq] at hev
    obtain ⟨S1,h1,rfl,rfl⟩ := hev
    obtain ⟨w',h2,h3⟩ := sem_ins hS f1 (Opd.rel hF f2) (Opd.rel hF f3) (Opd.rel hF f4) h1
    simp only [execOp,h]
    exact ⟨.skip,undef,w',G,by simp [h2],.inr ⟨rfl,rfl⟩,Gh.le_refl G,h3,.tup (vs := []) rfl (by simp)⟩
  case h_43 ok s z m x t m' x' ok' h =>
    simp only [Bool.and_eq_true,beq_iff_eq] at hfit
    obtain ⟨⟨⟨rfl,f1⟩,f2⟩,f3⟩ := hfit
    simp only [MK.ev,Option.map_eq_some_iff,Prod.mk.injEq] at hev
    obtain ⟨v,h1,rfl,rfl⟩ := hev
    simp only [execOp,h]
    exact .same hS (run_look hS f1 (Opd.rel hF f2) (Opd.rel hF f3) h1)
  case h_44 q ka m y t m' q' ka' y' h =>
    simp only [Bool.and_eq_true,beq_iff_eq] at hfit
    obtain ⟨⟨⟨⟨f1,f2⟩,f3⟩,rfl⟩,rfl⟩ := hfit
    simp only [MK.ev,Option.map_eq_some_iff,Prod.mk.injEq] at hev
    obtain ⟨S1,h1,rfl,rfl⟩ := hev
    obtain ⟨w',h2,h3⟩ := sem_insC hS f1 (Opd.rel hF f2) (Opd.rel hF f3) h1
    have e1 : a.eval (.const (.int q ka)) = .int q ka := rfl
    simp only [execOp,h,e1]
    exact ⟨.skip,undef,w',G,by simp [h2],.inr ⟨rfl,rfl⟩,Gh.le_refl G,h3,.tup (vs := []) rfl (by simp)⟩
  case h_45 x y c h =>
    simp only [Bool.and_eq_true] at hfit
    obtain ⟨f1,f2⟩ := hfit
    obtain ⟨callee,args,argTypes⟩ := c
    simp only at f1 f2
    split at f1
    rotate_left
    · cases f1
    split at f2
    · rename_i x' y' e1
      simp only [Bool.and_eq_true] at f2
      simp only [MK.ev,Option.map_eq_some_iff,Prod.mk.injEq] at hev
      obtain ⟨v,h1,rfl,rfl⟩ := hev
      obtain rfl : args = #[x',y'] := by apply Array.ext'; simpa using e1
      simp only [execOp,h,resolve,List.map_toArray,List.map_cons,List.map_nil]
      exact .same hS (run_max (Opd.rel hF f2.1) (Opd.rel hF f2.2) h1)
    · cases f2
  case h_46 E x t y h =>
    simp only [Bool.and_eq_true,beq_iff_eq] at hfit
    obtain ⟨rfl,f1⟩ := hfit
    have hx := Opd.rel hF f1
    simp only [MK.ev] at hev
    split at hev
    · rename_i hxe
      rw [hxe] at hx
      simp only [Option.some.injEq,Prod.mk.injEq] at hev
      obtain ⟨rfl,rfl⟩ := hev
      simp only [execOp,h]
      exact .of_sem (sem_zbox hS _ hx)
    · cases hev
  case h_47 E x s y f h =>
    simp only [Bool.and_eq_true,beq_iff_eq] at hfit
    obtain ⟨⟨rfl,f1⟩,f2⟩ := hfit
    have hx := Opd.rel hF f1
    simp only [MK.ev] at hev
    split at hev
    · rename_i hz
      simp only [Option.some.injEq,Prod.mk.injEq] at hev
      obtain ⟨rfl,rfl⟩ := hev
      simp only [execOp,h]
      generalize hxe : x.ev F = xe at hz hx
      generalize hya : a.eval y = ya at hx
      unfold zAt at hz
      split at hz
      · rename_i l
        split at hz
        · rename_i E' hg
          have hE : E' = E := by simpa using hz
          subst hE
          cases hx with
          | ptr hr =>
            obtain ⟨fz,hb⟩ := zob_inv hS hg hr
            exact .same hS ⟨_,run_zfadr hb f2,.ptr hr⟩
        · cases hz
      · cases hz
    · cases hev
  case h_48 x t q h =>
    simp only [Bool.and_eq_true] at hfit
    obtain ⟨⟨⟨f1,f2⟩,f3⟩,f4⟩ := hfit
    have hx := Opd.rel hF f1
    simp only [MK.ev] at hev
    split at hev
    · rename_i hz
      simp only [Option.some.injEq,Prod.mk.injEq] at hev
      obtain ⟨rfl,rfl⟩ := hev
      simp only [execOp,h]
      generalize hxe : x.ev F = xe at hz hx
      generalize hya : a.eval q = ya at hx
      unfold isZp at hz
      split at hz
      · cases hx with
        | ptr hr =>
          refine .same hS ⟨.agg #[],?_,.agg (vs := []) rfl (by simp) (by simp)⟩
          simp [Instr.loadAt,Instr.sureAddr,loadVar,run_isAggB f2,f3,run_sizeIs f4,loadCells,loadCellsFrom]
      · cases hz
    · cases hev
  case h_49 k bytes x y c h =>
    simp only [Bool.and_eq_true] at hfit
    obtain ⟨f1,f2⟩ := hfit
    obtain ⟨callee,args,argTypes⟩ := c
    simp only at f1 f2
    split at f1
    rotate_left
    · cases f1
    split at f2
    · rename_i x' y' t t2 e1 e2
      simp only [Bool.and_eq_true] at f2
      obtain ⟨⟨f3,f4⟩,f5⟩ := f2
      simp only [MK.ev] at hev
      obtain rfl : args = #[x',y'] := by apply Array.ext'; simpa using e1
      obtain rfl : argTypes = #[t,t2] := by apply Array.ext'; simpa using e2
      simp only [execOp,h,resolve,List.map_toArray,List.map_cons,List.map_nil]
      exact .of_sem (sem_appG hS (Opd.rel hF f3) (Opd.rel hF f4) f5 hob hev)
    · cases f2
  case h_50 => simp only [MK.ev,reduceCtorEq] at hev
  case h_51 => cases hfit
end Go.V
namespace Go.V
open Go
structure VRels (G : Gh) (as : List AV) (vs : List Value) : Prop where
  len : as.length = vs.length
  rel : ∀ (m : Nat) (c : AV) (v : Value),as[m]? = some c → vs[m]? = some v → VRel G c v
theorem VRels.mono {G G' : Gh} (h : G.le G') {as : List AV} {vs : List Value} (hr : VRels G as vs) : VRels G' as vs := ⟨hr.len,fun m c v a b => (hr.rel m c v a b).mono h⟩
theorem VRels.append {G : Gh} {as bs : List AV} {vs ws : List Value} (h : VRels G as vs) (h' : VRels G bs ws) : VRels G (as ++ bs) (vs ++ ws) := by
  refine ⟨by simp [h.len,h'.len],fun m c v h1 h2 => ?_⟩
  have hl := h.len
  by_cases hm : m < as.length
  · rw [List.getElem?_append_left hm] at h1
    rw [List.getElem?_append_left (by omega)] at h2
    exact h.rel m c v h1 h2
  · rw [List.getElem?_append_right (by omega)] at h1
    rw [List.getElem?_append_right (by omega)] at h2
    rw [hl] at h1
    exact h'.rel _ c v h1 h2
inductive Out where
  | ok (r : AV)
  | pan (v : AV)
def Invk (P : Program) (f : FuncId) (args : Array Value) (w : World) (R : Ending → World → Prop) : Prop :=
  match (callFunc f args).run P w with
  | .ok (.enter g as) w' => Calls P g as w' R
  | .ok (.value v) w' => R (.returned v) w'
  | .ok (.row row as) w' => Rows P row as w' fun v w'' => R (.returned v) w''
  | .halt (.panic v) w' => R (.panicked [{ v,recovered := false }]) w'
  | _ => False
def EndK (wb : Base) (G : Gh) (K : Out → St → Prop) (e : Ending) (w' : World) : Prop :=
  ∃ G' S',G.le G' ∧ StRel wb G' S' w' ∧ match e with
    | .returned v => ∃ r,VRel G' r v ∧ K (.ok r) S'
    | .panicked ch => ∃ v av,ch = [{ v,recovered := false }] ∧ VRel G' av v ∧ K (.pan av) S'
    | .outgrown => False
def MCalls (P : Program) (f : FuncId) (as : List AV) (S : St) (K : Out → St → Prop) : Prop :=
  ∀ (wb : Base) G w vs,StRel wb G S w → VRels G as vs → Invk P f vs.toArray w (EndK wb G K)
theorem Invk.mono {P : Program} {f : FuncId} {args : Array Value} {w : World} {R R' : Ending → World → Prop} (h : Invk P f args w R) (hr : ∀ e w',R e w' → R' e w') : Invk P f args w R' := by
  unfold Invk at *
  generalize (callFunc f args).run P w = r at *
  cases r with
  | ok x w' =>
    cases x with
    | enter g as => exact Calls.mono h hr
    | value v => exact hr _ _ h
    | row row as => exact Rows.mono h fun v w'' => hr _ _
    | _ => exact h.elim
  | halt x w' =>
    cases x with
    | panic v => exact hr _ _ h
    | _ => exact h.elim
theorem MCalls.mono {P : Program} {f : FuncId} {as : List AV} {S : St} {K K' : Out → St → Prop} (h : MCalls P f as S K) (hk : ∀ o S',K o S' → K' o S') : MCalls P f as S K' := by
  intro wb G w vs hS hv
  refine (h wb G w vs hS hv).mono fun e w' ⟨G',S',h1,h2,h3⟩ => ⟨G',S',h1,h2,?_⟩
  cases e with
  | returned v => obtain ⟨r,h4,h5⟩ := h3; exact ⟨r,h4,hk _ _ h5⟩
  | panicked ch => obtain ⟨v,av,h4,h5,h6⟩ := h3; exact ⟨v,av,h4,h5,hk _ _ h6⟩
  | outgrown => exact h3
def wideR (ro : Option Nat) : Fence := { Fence.wide with round := ro }
theorem wideR_room (ro : Option Nat) (n : Nat) : (wideR ro).room n := fun _ h => by cases h
theorem wideR_calls {ro : Option Nat} {n : Nat} {P : Program} {f : FuncId} {args : Array Value} {w : World} {R : Ending → World → Prop} (h : Calls P f args w R) : CallsIn (wideR ro) n P f args w R := (callsIn_wide (n := n)).2 h
theorem wideR_rows {ro : Option Nat} {n : Nat} {P : Program} {row : String} {args : Array Value} {w : World} {R : Value → World → Prop} (h : Rows P row args w R) : RowsIn (wideR ro) n P row args w R :=
  fun c cs _ => let ⟨v,w',r,s⟩ := h c cs; ⟨v,w',r,(StepsIn.of_steps s).mono fun m _ => fenced_wide P m⟩
def MYield (P : Program) (l : Nat) (as : List AV) (S : St) (K : Out → St → Prop) : Prop :=
  ∀ (wb : Base) G w vs,StRel wb G S w → VRels G as vs → YieldAt Fence.wide 0 P l vs.toArray w (EndK wb G K)
theorem MYield.mono {P : Program} {l : Nat} {as : List AV} {S : St} {K K' : Out → St → Prop} (h : MYield P l as S K) (hk : ∀ o S',K o S' → K' o S') : MYield P l as S K' := by
  intro wb G w vs hS hv
  obtain ⟨fn,tmps,a,b,h1,h2⟩ := h wb G w vs hS hv
  refine ⟨fn,tmps,a,b,h1,h2.mono fun e w' ⟨G',S',h1,h2,h3⟩ => ⟨G',S',h1,h2,?_⟩⟩
  cases e with
  | returned v => obtain ⟨r,h4,h5⟩ := h3; exact ⟨r,h4,hk _ _ h5⟩
  | panicked ch => obtain ⟨v,av,h4,h5,h6⟩ := h3; exact ⟨v,av,h4,h5,hk _ _ h6⟩
  | outgrown => exact h3
inductive MX where
  | k (m : MK)
  | call (c : Opd) (as : List Opd)
  | panic (x : Opd)
structure MOp where
  ix : Nat
  dst : Option Nat
  gd : Option (Nat × Bool)
  op : MX
def mthRow (P : Program) (name : String) (t f : Nat) : Bool :=
  (match P.info? t with
   | some i => (match i.methods.find? (·.name == name) with
     | some m => m.path.isEmpty && decide (m.func = some (f,false))
     | none => false)
   | none => false) && (match P.underlying t with
   | some (.pointer _) => false
   | some _ => true
   | none => false)
theorem run_method {P : Program} {name : String} {t f : Nat} (h : mthRow P name t f = true) (v : Value) (n : Nat) (w : World) : (method (n + 1) t v name).run P w = .ok (f,v) w := by
  simp only [mthRow,Bool.and_eq_true] at h
  obtain ⟨h1,h2⟩ := h
  split at h1
  · rename_i i hi
    split at h1
    · rename_i m hm
      simp only [Bool.and_eq_true,decide_eq_true_eq] at h1
      obtain ⟨a1,a2⟩ := h1
      have a3 : m.path.toList = [] := by simpa using a1
      split at h2
      · cases h2
      · rename_i d hn hd
        have hr : ∀ wr,(receiverAt t (.val v) false wr).run P w = .ok v w := by
          intro wr
          unfold receiverAt
          simp only [Sem.run_bind,run_und hd,Result.andThen_ok]
          cases d with
          | pointer e => exact (hn e rfl).elim
          | _ => rfl
        unfold method
        simp [typeInfo,hi,hm,a2,a3,follow,hr]
      · cases h2
    · cases h1
  · cases h1
theorem run_invoke_method {P : Program} {name : String} {t f : Nat} (h : mthRow P name t f = true) (v : Value) (args : Array Value) (w : World) : (invoke (.fn (.method name) #[]) (#[.iface t v] ++ args)).run P w = (callFunc f (#[v] ++ args)).run P w := by
  have hm := fun n => run_method h v n w
  have hp : (program).run P w = .ok P w := rfl
  have e1 : (#[Value.iface t v] ++ args)[0]? = some (.iface t v) := by rw [Array.getElem?_append_left (by simp)]; rfl
  have e2 : (#[Value.iface t v] ++ args).extract 1 (#[Value.iface t v] ++ args).size = args := by apply Array.ext'; simp
  simp only [invoke,e1,e2,callMethod,Sem.run_bind,hp,Result.andThen_ok]
  rw [show P.types.size + Made.depth = (P.types.size + 99) + 1 from rfl,hm]
  rfl
theorem lookup_mem {l : List (Nat × Nat)} {t f : Nat} (h : l.lookup t = some f) : (t,f) ∈ l := by
  induction l with
  | nil => cases h
  | cons p l ih =>
    rw [List.lookup_cons] at h
    split at h
    · rename_i e
      obtain ⟨p1,p2⟩ := p
      simp only [beq_iff_eq] at e
      injection h with h
      subst e h
      exact List.mem_cons_self
    · exact List.mem_cons_of_mem _ (ih h)
def mthFits (P : Program) (r : Operand) (name : String) : Opd → Bool
  | .mth x rows => (Opd.t x).fits r && rows.all fun p => mthRow P name p.1 p.2
  | _ => false
def MX.fits (P : Program) : MX → Op → Bool
  | .k m,op => m.fits P op
  | .call c as,.call cc => (match cc.callee with
    | .value f => c.fits f
    | .invoke r name => mthFits P r name c
    | _ => false) && listFits as cc.args.toList
  | .panic x,.panic y => x.fits y
  | _,_ => false
theorem MX.fits_panic {P : Program} {x : Opd} {op : Op} (h : (MX.panic x).fits P op = true) : ∃ y,op = .panic y ∧ x.fits y = true := by
  cases op <;> simp_all [MX.fits]
theorem MX.fits_call {P : Program} {c : Opd} {as : List Opd} {op : Op} (h : (MX.call c as).fits P op = true) : ∃ args tys,listFits as args.toList = true ∧ ((∃ fo,op = .call ⟨.value fo,args,tys⟩ ∧ c.fits fo = true) ∨ ∃ r name,op = .call ⟨.invoke r name,args,tys⟩ ∧ mthFits P r name c = true) := by
  cases op <;> simp only [MX.fits] at h <;> first
    | (cases h; done)
    | skip
  rename_i cc
  obtain ⟨callee,args,tys⟩ := cc
  simp only [Bool.and_eq_true] at h
  cases callee with
  | value fo => exact ⟨args,tys,h.2,.inl ⟨fo,rfl,h.1⟩⟩
  | invoke r name => exact ⟨args,tys,h.2,.inr ⟨r,name,rfl,h.1⟩⟩
  | _ => cases h.1
def guardFits (ops : Array Oper) : Option (Nat × Bool) → Option (Nat × Bool) → Bool
  | none,none => true
  | some (t,b),some (j,b') => b == b' && decide ((ops[j]?).bind (·.dst) = some t)
  | _,_ => false
def MOp.fits (P : Program) (n : Nat) (ops : Array Oper) (m : MOp) : Bool :=
  match ops[m.ix]? with
  | some o => m.op.fits P o.op && decide (o.dst = m.dst) && (m.dst.all fun d => decide (d < n)) && guardFits ops m.gd o.guard
  | none => false
def putF (d : Option Nat) (v : AV) (F : Fr) : Fr :=
  match d with
  | some d => (d,v) :: F
  | none => F
def stepK (P : Program) (o : MOp) (K : Option AV → Fr → St → Prop) (next : Fr → St → Prop) (F : Fr) (S : St) : Prop :=
  match o.op with
  | .k m => m.ob F S ∧ (match m.ev F S with
    | some (r,S') => next (putF o.dst r F) S'
    | none => False)
  | .panic x => (match x.ev F with
    | .ifc t v => K (some (.ifc t v)) F S
    | _ => False)
  | .call c as => (match c.ev F with
    | .fn (.func f) first caps => MCalls P f (first ++ as.map (Opd.ev F) ++ caps) S (fun out S' => match out with
      | .ok r => next (putF o.dst r F) S'
      | .pan v => K (some v) F S')
    | .fn (.yield l) [] [] => MYield P l (as.map (Opd.ev F)) S (fun out S' => match out with
      | .ok r => next (putF o.dst r F) S'
      | .pan v => K (some v) F S')
    | _ => False)
def guardK (o : MOp) (stp : Fr → St → Prop) (next : Fr → St → Prop) (F : Fr) (S : St) : Prop :=
  match o.gd with
  | none => stp F S
  | some (t,want) => match F.get t with
    | .bool b => (b = want → stp ((t,.bool want) :: F) S) ∧ (b = !want → next (putF o.dst (.tup []) ((t,.bool (!want)) :: F)) S)
    | .tup [] => next (putF o.dst (.tup []) F) S
    | _ => False
def moK (P : Program) : List MOp → (Option AV → Fr → St → Prop) → Fr → St → Prop
  | [],K,F,S => K none F S
  | o :: l,K,F,S => guardK o (stepK P o K (moK P l K)) (moK P l K) F S
abbrev Dfs := List (Fn × List AV × List AV)
def DRel (G : Gh) : Dfs → List Deferred → Prop
  | [],[] => True
  | (f,as,cs) :: D,d :: ds => ((∃ vs ws : List Value,d = { target := .fn f ws.toArray,args := vs.toArray } ∧ VRels G as vs ∧ VRels G cs ws) ∨ ∃ r,f = .yield r ∧ as = [] ∧ cs = [.hob r (.deferred none) [] []] ∧ d = { target := .collected r,args := #[] }) ∧ DRel G D ds
  | _,_ => False
theorem DRel.mono {G G' : Gh} (h : G.le G') : ∀ {D : Dfs} {ds : List Deferred},DRel G D ds → DRel G' D ds
  | [],[],_ => trivial
  | [],_ :: _,hd => hd.elim
  | _ :: _,[],hd => hd.elim
  | (_,_,_) :: _,_ :: _,hd => ⟨hd.1.imp (fun ⟨vs,ws,h1,h2,h3⟩ => ⟨vs,ws,h1,h2.mono h,h3.mono h⟩) id,DRel.mono h hd.2⟩
structure Rel (wb : Base) (n : Nat) (G : Gh) (S : St) (F : Fr) (D : Dfs) (w : World) (a : Act) : Prop where
  st : StRel wb G S w
  fr : FRel G F a
  sz : a.tmps.size = n
  df : DRel G D a.defers
theorem FRel.put {G : Gh} {F : Fr} {a : Act} (h : FRel G F a) {d : Option Nat} {r : AV} {v : Value} (hd : (d.all fun d => decide (d < a.tmps.size)) = true) (hv : VRel G r v) : FRel G (putF d r F) (a.put d v) := by
  cases d with
  | none => exact h
  | some d =>
    simp at hd
    refine ⟨fun t x e => ?_⟩
    simp only [putF,List.lookup_cons] at e
    by_cases ht : t = d
    · subst ht
      simp at e
      subst e
      refine ⟨by simpa [Act.put] using hd,?_⟩
      simpa [Act.put,Array.getD,hd] using hv
    · have hb : (t == d) = false := by simpa using ht
      rw [hb] at e
      obtain ⟨h1,h2⟩ := h.rel t x e
      refine ⟨by simpa [Act.put] using h1,?_⟩
      have : (a.put (some d) v).tmps.getD t undef = a.tmps.getD t undef := by
        simp [Act.put,Array.getD,h1,Ne.symm ht]
      rw [this]
      exact h2
theorem put_size (a : Act) (d : Option Nat) (v : Value) : (a.put d v).tmps.size = a.tmps.size := by cases d <;> simp [Act.put]
theorem put_defers (a : Act) (d : Option Nat) (v : Value) : (a.put d v).defers = a.defers := by cases d <;> simp [Act.put]
theorem Rel.put {wb : Base} {n : Nat} {G : Gh} {S : St} {F : Fr} {D : Dfs} {w : World} {a : Act} (h : Rel wb n G S F D w a) {d : Option Nat} {r : AV} {v : Value} (hd : (d.all fun d => decide (d < n)) = true) (hv : VRel G r v) : Rel wb n G S (putF d r F) D w (a.put d v) :=
  ⟨h.st,h.fr.put (by rw [h.sz]; exact hd) hv,by rw [put_size]; exact h.sz,by rw [put_defers]; exact h.df⟩
theorem Rel.grow {wb : Base} {n : Nat} {G G' : Gh} {S S' : St} {F : Fr} {D : Dfs} {w w' : World} {a : Act} (h : Rel wb n G S F D w a) (hle : G.le G') (hS : StRel wb G' S' w') : Rel wb n G' S' F D w' a :=
  ⟨hS,h.fr.mono hle,h.sz,h.df.mono hle⟩
theorem Rel.known {wb : Base} {n : Nat} {G : Gh} {S : St} {F : Fr} {D : Dfs} {w : World} {a : Act} (h : Rel wb n G S F D w a) {t : Nat} {b b' : Bool} (e : F.get t = .bool b) (hb : b = b') : Rel wb n G S ((t,.bool b') :: F) D w a := by
  subst hb
  refine ⟨h.st,⟨fun u x e' => ?_⟩,h.sz,h.df⟩
  simp only [List.lookup_cons] at e'
  by_cases hu : u = t
  · subst hu
    simp at e'
    subst e'
    unfold Fr.get at e
    cases e2 : F.lookup u with
    | none => rw [e2] at e; cases e
    | some y =>
      rw [e2] at e
      have : y = .bool b := e
      subst this
      exact h.fr.rel u _ e2
  · have hb : (u == t) = false := by simpa using hu
    rw [hb] at e'
    exact h.fr.rel u x e'
def QK (wb : Base) (n : Nat) (G0 : Gh) (D : Dfs) (K : Option AV → Fr → St → Prop) : Exit → Act → World → Prop
  | .normal,a,w => ∃ G F S,G0.le G ∧ Rel wb n G S F D w a ∧ K none F S
  | .panic ch,a,w => ∃ G F S v av,G0.le G ∧ Rel wb n G S F D w a ∧ ch = [{ v,recovered := false }] ∧ VRel G av v ∧ K (some av) F S
  | _,_,_ => False
theorem MK.no_defer {P : Program} {m : MK} {op : Op} {F : Fr} {S : St} {x : AV × St} (h : m.fits P op = true) (he : m.ev F S = some x) : ∀ c,op ≠ .defer c := by
  rintro c rfl
  cases m <;> simp [MK.fits] at h
  simp [MK.ev] at he
theorem wideR_depth {ro : Option Nat} {p : Prop} (h : (wideR ro).depth.isSome = true) : p := by cases h
theorem oper_stepK {P : Program} {wb : Base} {n : Nat} {ro : Option Nat} {G0 G : Gh} {S : St} {F : Fr} {D : Dfs} {w : World} {a : Act} {m : MOp} {o : Oper} {K : Option AV → Fr → St → Prop} {next : Fr → St → Prop} {nx : Act → World → Prop}
    (ho : m.op.fits P o.op = true) (hd : o.dst = m.dst) (hdn : (m.dst.all fun d => decide (d < n)) = true) (hle : G0.le G) (hR : Rel wb n G S F D w a) (hs : stepK P m K next F S)
    (hn : ∀ G' S' F' a' w',G0.le G' → Rel wb n G' S' F' D w' a' → next F' S' → nx a' w') : o.wpIn (wideR ro) 0 P a w nx (QK wb n G0 D K) := by
  obtain ⟨ix,dst,gd,op⟩ := m
  simp only at ho hd hdn
  refine ⟨fun _ _ => trivial,?_⟩
  subst hd
  cases op with
  | k m =>
    simp only [stepK] at hs
    obtain ⟨hob,hs⟩ := hs
    split at hs
    · rename_i r S' hev
      obtain ⟨nn,v,w',G',h1,h2,h3,h4,h5⟩ := MK.sound ho hob hev hR.st hR.fr
      rw [Oper.semAt_eq _ _ _ (MK.no_defer ho hev),h1]
      have hR' := (hR.grow h3 h4).put hdn h5
      rcases h2 with rfl | ⟨rfl,rfl⟩
      · exact hn G' S' _ _ _ (Gh.le_trans hle h3) hR' hs
      · exact hn G' S' _ _ _ (Gh.le_trans hle h3) hR' hs
    · exact hs.elim
  | panic x =>
    simp only [stepK] at hs
    obtain ⟨y,h2,ho⟩ := MX.fits_panic ho
    have hx := Opd.rel hR.fr ho
    split at hs
    · rename_i t v hv
      rw [hv] at hx
      generalize hy : a.eval y = yv at hx
      cases hx
      rename_i v' hv'
      have : (execOp a.eval o).run P w = .halt (.panic (.iface t v')) w := by
        simp only [execOp,h2,hy,Instr.panic]
        rfl
      rw [Oper.semAt_eq _ _ _ (by rw [h2]; intro c e; cases e),this]
      exact ⟨G,F,S,_,_,hle,hR,rfl,.ifc t hv',hs⟩
    · exact hs.elim
  | call c as =>
    simp only [stepK] at hs
    obtain ⟨args,tys,ho2,ho1⟩ := MX.fits_call ho
    have hnd : ∀ c,o.op ≠ .defer c := by
      rcases ho1 with ⟨fo,h2,_⟩ | ⟨r,name,h2,_⟩ <;> (rw [h2]; intro c e; cases e)
    obtain ⟨l3,r3⟩ := listFits_rel hR.fr ho2
    have fin : ∀ (f : FuncId) (as' : List AV) (us : List Value),VRels G as' us → MCalls P f as' S (fun out S' => match out with
        | .ok r => next (putF o.dst r F) S'
        | .pan v => K (some v) F S') → (execOp a.eval o).run P w = (callFunc f us.toArray).run P w → o.uponIn (wideR ro) 0 P a nx (QK wb n G0 D K) ((o.semAt (wideR ro).round a.eval).run P w) := by
      intro f as' us hargs hs hrun
      have hi := hs wb G w _ hR.st hargs
      rw [Oper.semAt_eq _ _ _ hnd,hrun]
      unfold Invk at hi
      split at hi
      · rename_i g as' w' hx
        rw [hx]
        refine ⟨wideR_depth,wideR_calls (Calls.mono hi fun e w'' ⟨G',S',q1,q2,q3⟩ => ?_)⟩
        cases e with
        | returned v => obtain ⟨r,q4,q5⟩ := q3; exact hn G' S' _ _ _ (Gh.le_trans hle q1) ((hR.grow q1 q2).put hdn q4) q5
        | panicked ch => obtain ⟨v,av,q4,q5,q6⟩ := q3; exact ⟨G',F,S',v,av,Gh.le_trans hle q1,hR.grow q1 q2,q4,q5,q6⟩
        | outgrown => exact q3.elim
      · rename_i v w' hx
        rw [hx]
        obtain ⟨G',S',q1,q2,r,q4,q5⟩ := hi
        exact hn G' S' _ _ _ (Gh.le_trans hle q1) ((hR.grow q1 q2).put hdn q4) q5
      · rename_i row as' w' hx
        rw [hx]
        refine ⟨wideR_depth,wideR_rows (Rows.mono hi fun v w'' ⟨G',S',q1,q2,r,q4,q5⟩ => ?_)⟩
        exact hn G' S' _ _ _ (Gh.le_trans hle q1) ((hR.grow q1 q2).put hdn q4) q5
      · rename_i v w' hx
        rw [hx]
        obtain ⟨G',S',q1,q2,v',av,q4,q5,q6⟩ := hi
        exact ⟨G',F,S',v',av,Gh.le_trans hle q1,hR.grow q1 q2,q4,q5,q6⟩
      · exact hi.elim
    rcases ho1 with ⟨fo,h2,ho1⟩ | ⟨r,name,h2,ho1⟩
    · have hc := Opd.rel hR.fr ho1
      split at hs
      · rename_i f first caps hf
        rw [hf] at hc
        generalize hfo : a.eval fo = fv at hc
        cases hc
        rename_i vs ws l1 r1 l2 r2
        refine fin f _ (vs ++ args.toList.map a.eval ++ ws) (.append (.append ⟨l1,r1⟩ ⟨l3,r3⟩) ⟨l2,r2⟩) hs ?_
        have e1 : (vs.toArray ++ Array.map a.eval args) ++ ws.toArray = (vs ++ args.toList.map a.eval ++ ws).toArray := by apply Array.ext'; simp
        rw [← e1]
        simp only [execOp,h2,resolve,hfo,Deferred.ofValue]
        rfl
      · rename_i l hf
        rw [hf] at hc
        generalize hfo : a.eval fo = fv at hc
        cases hc
        rename_i vs ws l1 r1 l2 r2
        obtain rfl := List.eq_nil_of_length_eq_zero l1.symm
        obtain rfl := List.eq_nil_of_length_eq_zero l2.symm
        obtain ⟨fn,tmps,assign,body,hy,hrd⟩ := hs wb G w _ hR.st ⟨l3,r3⟩
        have hrun : (execOp a.eval o).run P w = (Instr.yield l (args.toList.map a.eval).toArray).run P w := by
          have e1 : Array.map a.eval args = (args.toList.map a.eval).toArray := by apply Array.ext'; simp
          rw [← e1]
          simp only [execOp,h2,resolve,hfo,Deferred.ofValue]
          simp [invoke]
        rw [Oper.semAt_eq _ _ _ hnd,hrun,hy]
        refine ⟨wideR_depth,RoundIn.mono (F := wideR ro) hrd fun e w'' ⟨G',S',q1,q2,q3⟩ => ?_⟩
        cases e with
        | returned v => obtain ⟨r,q4,q5⟩ := q3; exact hn G' S' _ _ _ (Gh.le_trans hle q1) ((hR.grow q1 q2).put hdn q4) q5
        | panicked ch => obtain ⟨v,av,q4,q5,q6⟩ := q3; exact ⟨G',F,S',v,av,Gh.le_trans hle q1,hR.grow q1 q2,q4,q5,q6⟩
        | outgrown => exact q3.elim
      · exact hs.elim
    · cases c with
      | mth x rows =>
        simp only [mthFits,Bool.and_eq_true] at ho1
        have hx := Opd.rel hR.fr ho1.1
        simp only [Opd.ev] at hs hx
        generalize F.get x = xa at hs hx
        cases xa with
        | ifc t v =>
          simp only [mthEv] at hs
          cases hl : rows.lookup t with
          | none => rw [hl] at hs; exact hs.elim
          | some f =>
            rw [hl] at hs
            simp only [mthF] at hs
            generalize hrv : a.eval r = rv at hx
            cases hx
            rename_i v' hv'
            refine fin f _ ([v'] ++ args.toList.map a.eval ++ []) (.append (.append ⟨rfl,fun m c x e1 e2 => by
              cases m with
              | zero => simp at e1 e2; subst e1 e2; exact hv'
              | succ m => simp at e1⟩ ⟨l3,r3⟩) ⟨rfl,by simp⟩) hs ?_
            have := run_invoke_method (List.all_eq_true.1 ho1.2 (t,f) (lookup_mem hl)) v' (args.map a.eval) w
            have e1 : ([v'] ++ args.toList.map a.eval ++ []).toArray = #[v'] ++ args.map a.eval := by apply Array.ext'; simp
            rw [e1,← this]
            simp only [execOp,h2,resolve,hrv]
            rfl
        | _ => exact hs.elim
      | _ => cases ho1
theorem yielded_of {ops : Array Oper} {tmps : Array Value} {j t : Nat} (hj : (ops[j]?).bind (·.dst) = some t) : yielded ops tmps j = match tmps[t]? with | some (.bool b) => some b | _ => none := by
  unfold yielded
  rw [hj]
  rfl
theorem guard_cases {wb : Base} {n : Nat} {G : Gh} {S : St} {F : Fr} {D : Dfs} {w : World} {a : Act} {ops : Array Oper} {m : MOp} {o : Oper} {stp next : Fr → St → Prop} (hg : guardFits ops m.gd o.guard = true) (hR : Rel wb n G S F D w a)
    (h : guardK m stp next F S) : (Region.wanted o (yielded ops a.tmps) = true ∧ ∃ F',Rel wb n G S F' D w a ∧ stp F' S) ∨ (Region.wanted o (yielded ops a.tmps) = false ∧ ∃ F',Rel wb n G S F' D w a ∧ next (putF m.dst (.tup []) F') S) := by
  unfold guardK at h
  cases e1 : m.gd with
  | none =>
    rw [e1] at h hg
    cases e2 : o.guard with
    | none => exact .inl ⟨by simp [Region.wanted,e2],F,hR,h⟩
    | some p => rw [e2] at hg; cases hg
  | some p =>
    obtain ⟨t,want⟩ := p
    rw [e1] at h hg
    cases e2 : o.guard with
    | none => rw [e2] at hg; cases hg
    | some q =>
      obtain ⟨j,want'⟩ := q
      rw [e2] at hg
      simp only [guardFits,Bool.and_eq_true,beq_iff_eq,decide_eq_true_eq] at hg
      obtain ⟨rfl,hj⟩ := hg
      simp only at h
      split at h
      · rename_i b hb
        have hlk : F.lookup t = some (.bool b) := by
          unfold Fr.get at hb
          cases e3 : F.lookup t with
          | none => rw [e3] at hb; cases hb
          | some y => rw [e3] at hb; exact congrArg some hb
        obtain ⟨h1,h2⟩ := hR.fr.rel t _ hlk
        have h3 : a.tmps[t]? = some (.bool b) := by
          simp only [Array.getD,h1,dif_pos] at h2
          cases hv : a.tmps[t] with
          | bool b' => simp only [Array.getInternal_eq_getElem,hv] at h2; cases h2; simp [h1,hv]
          | _ => simp only [Array.getInternal_eq_getElem,hv] at h2; cases h2
        have hw : Region.wanted o (yielded ops a.tmps) = decide (b = want) := by
          simp only [Region.wanted,e2,yielded_of hj,h3]
          cases b <;> cases want <;> rfl
        by_cases hbw : b = want
        · exact .inl ⟨by rw [hw]; simpa using hbw,_,hR.known hb hbw,h.1 hbw⟩
        · have hbn : b = !want := by cases b <;> cases want <;> simp_all
          exact .inr ⟨by rw [hw]; simpa using hbw,_,hR.known hb hbn,h.2 hbn⟩
      · rename_i hb
        have hlk : F.lookup t = some (.tup []) := by
          unfold Fr.get at hb
          cases e3 : F.lookup t with
          | none => rw [e3] at hb; cases hb
          | some y => rw [e3] at hb; exact congrArg some hb
        obtain ⟨h1,h2⟩ := hR.fr.rel t _ hlk
        have h3 : ∃ vs,a.tmps[t]? = some (.tuple vs) := by
          simp only [Array.getD,h1,dif_pos] at h2
          cases hv : a.tmps[t] with
          | tuple vs => exact ⟨vs,by simp [h1,hv]⟩
          | _ => simp only [Array.getInternal_eq_getElem,hv] at h2; cases h2
        obtain ⟨vs,h3⟩ := h3
        have hw : Region.wanted o (yielded ops a.tmps) = false := by
          simp only [Region.wanted,e2,yielded_of hj,h3]
          cases want <;> rfl
        exact .inr ⟨hw,F,hR,h⟩
      · exact h.elim
theorem ops_moK {P : Program} {wb : Base} {n : Nat} {ro : Option Nat} {G0 : Gh} {D : Dfs} {ops : Array Oper} {K : Option AV → Fr → St → Prop} : ∀ (l : List MOp) {G : Gh} {S : St} {F : Fr} {w : World} {a : Act},(∀ m ∈ l,m.fits P n ops = true) → G0.le G → Rel wb n G S F D w a →
    moK P l K F S → wpOpsIn (wideR ro) 0 P ops (QK wb n G0 D K) (l.map (·.ix)) a w
  | [],G,S,F,w,a,_,hle,hR,h => ⟨G,F,S,hle,hR,h⟩
  | m :: l,G,S,F,w,a,hf,hle,hR,h => by
    have hm := hf m (by simp)
    unfold MOp.fits at hm
    simp only [List.map_cons,wpOpsIn]
    cases ho : ops[m.ix]? with
    | none => rw [ho] at hm; cases hm
    | some o =>
      rw [ho] at hm
      simp only [Bool.and_eq_true,decide_eq_true_eq] at hm
      obtain ⟨⟨⟨h1,h2⟩,h3⟩,h4⟩ := hm
      have ih := fun (G' : Gh) (S' : St) (F' : Fr) (a' : Act) (w' : World) (hle' : G0.le G') (hR' : Rel wb n G' S' F' D w' a') (h' : moK P l K F' S') => ops_moK (ro := ro) l (fun x hx => hf x (by simp [hx])) hle' hR' h'
      simp only [moK] at h
      rcases guard_cases h4 hR h with ⟨hw,F',hR',hs⟩ | ⟨hw,F',hR',hs⟩
      · simp only [hw,if_true]
        exact oper_stepK h1 h2 h3 hle hR' hs ih
      · simp only [hw,Bool.false_eq_true,if_false]
        refine ⟨fun _ _ => trivial,ih G S _ _ w hle ?_ hs⟩
        rw [h2]
        exact hR'.put h3 (.tup (vs := []) rfl (by simp))
end Go.V
