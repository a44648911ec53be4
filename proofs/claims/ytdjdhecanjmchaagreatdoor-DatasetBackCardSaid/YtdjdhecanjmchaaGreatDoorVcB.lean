/- The by-value layer, part three: the operations of the small language, what they come to, and that the model's operations do just that. Over any program. -/
import Derived.Test.YtdjdhecanjmchaaGreatDoorVbB
import Derived.Laws.StructEq
import Derived.Laws.Append
import Derived.Laws.BytesString
set_option linter.unusedSimpArgs false
set_option linter.unusedVariables false
namespace Go.V
open Go
abbrev Fr := List (Nat × AV)
def Fr.get (F : Fr) (t : Nat) : AV := (F.lookup t).getD .junk
@[simp] theorem Fr.get_cons (F : Fr) (t u : Nat) (v : AV) : Fr.get ((u, v) :: F) t = if t = u then v else Fr.get F t := by
  simp only [Fr.get, List.lookup_cons]
  by_cases h : t = u
  · subst h; simp
  · have : (t == u) = false := by simpa using h
    simp [this, h]
structure FRel (G : Gh) (F : Fr) (a : Act) : Prop where
  rel : ∀ t v, F.lookup t = some v → t < a.tmps.size ∧ VRel G v (a.tmps.getD t undef)
theorem FRel.mono {G G' : Gh} (h : G.le G') {F : Fr} {a : Act} (hf : FRel G F a) : FRel G' F a :=
  ⟨fun t v e => ⟨(hf.rel t v e).1, (hf.rel t v e).2.mono h⟩⟩
theorem FRel.get {G : Gh} {F : Fr} {a : Act} (h : FRel G F a) (t : Nat) : VRel G (F.get t) (a.tmps.getD t undef) := by
  unfold Fr.get
  cases e : F.lookup t with
  | none => exact .junk _
  | some v => exact (h.rel t v e).2
inductive Opd where
  | t (n : Nat)
  | c (v : AV)
  | g (n : Nat)
  | f (n : Nat)
def Opd.ev (F : Fr) : Opd → AV
  | .t n => F.get n
  | .c v => v
  | .g n => .gp n 0
  | .f n => .fn (.func n) [] []
def constFits : AV → Value → Bool
  | .bool a, .bool b => a == b
  | .int k n, .int k' m => k == k' && n == m
  | .str s, .string b => s == b.data.toList
  | .nilp, .pointer none => true
  | .sl _ [] .exact, .slice none 0 0 => true
  | .nilf, .nilFunc => true
  | .nili, .nilIface => true
  | .tup [], .tuple vs => vs.isEmpty
  | _, _ => false
theorem constFits_rel {G : Gh} {a : AV} {v : Value} (h : constFits a v = true) : VRel G a v := by
  unfold constFits at h
  split at h
  · simp at h; subst h; exact .bool _
  · simp at h; obtain ⟨rfl, rfl⟩ := h; exact .int _ _
  · rename_i s b
    simp at h
    subst h
    have := VRel.str (G := G) b.data.toList
    simpa using this
  · exact .nilp
  · exact .slnil _ _ _
  · exact .nilf
  · exact .nili
  · rename_i vs
    have : vs = #[] := by simpa using h
    subst this
    exact .tup (vs := []) rfl (by simp)
  · cases h
def Opd.fits : Opd → Operand → Bool
  | .t n, .tmp m => n == m
  | .c v, .const x => constFits v x
  | .g n, .global m => n == m
  | .f n, .func m => n == m
  | _, _ => false
theorem Opd.rel {G : Gh} {F : Fr} {a : Act} (h : FRel G F a) {x : Opd} {o : Operand} (hf : x.fits o = true) : VRel G (x.ev F) (a.eval o) := by
  unfold Opd.fits at hf
  split at hf
  · simp at hf; subst hf; exact h.get _
  · exact constFits_rel hf
  · simp at hf; subst hf; exact .gp _ _
  · simp at hf; subst hf; exact .fn (vs := []) (ws := []) _ rfl rfl (by simp) (by simp)
  · cases hf
def optFits : Option Opd → Option Operand → Bool
  | none, none => true
  | some x, some o => x.fits o
  | _, _ => false
def listFits : List Opd → List Operand → Bool
  | [], [] => true
  | x :: xs, o :: os => x.fits o && listFits xs os
  | _, _ => false
theorem listFits_rel {G : Gh} {F : Fr} {a : Act} (h : FRel G F a) : ∀ {xs : List Opd} {os : List Operand}, listFits xs os = true →
    (xs.map (Opd.ev F)).length = (os.map a.eval).length ∧ ∀ (m : Nat) (c : AV) (v : Value), (xs.map (Opd.ev F))[m]? = some c → (os.map a.eval)[m]? = some v → VRel G c v
  | [], [], _ => ⟨rfl, by simp⟩
  | [], _ :: _, hf => by cases hf
  | _ :: _, [], hf => by cases hf
  | x :: xs, o :: os, hf => by
    simp only [listFits, Bool.and_eq_true] at hf
    obtain ⟨h1, h2⟩ := listFits_rel h hf.2
    refine ⟨by simpa using h1, fun m c v hc hv => ?_⟩
    cases m with
    | zero => simp at hc hv; subst hc hv; exact Opd.rel h hf.1
    | succ m => exact h2 m c v (by simpa using hc) (by simpa using hv)
def isAggB (P : Program) (t : TypeId) : Bool :=
  match P.underlying t with
  | some (.struct _) | some (.array _ _) => true
  | _ => false
def sizeIs (P : Program) (t : TypeId) (n : Nat) : Bool :=
  match P.info? t with
  | some i => i.size == n
  | none => false
def known (P : Program) (t : TypeId) : Bool := (P.underlying t).isSome
theorem run_und {P : Program} {t : TypeId} {d : TypeDesc} (h : P.underlying t = some d) (w : World) : (underlying t).run P w = .ok d w := by
  simp [underlying, h]
theorem run_isAggB {P : Program} {t : TypeId} (h : known P t = true) (w : World) : (isAgg t).run P w = .ok (isAggB P t) w := by
  unfold known at h
  cases e : P.underlying t with
  | none => rw [e] at h; cases h
  | some d =>
    simp only [isAgg, Sem.run_bind, run_und e, Result.andThen_ok, isAggB, e]
    cases d <;> rfl
theorem run_sizeIs {P : Program} {t : TypeId} {n : Nat} (h : sizeIs P t n = true) (w : World) : (sizeOf t).run P w = .ok n w := by
  unfold sizeIs at h
  cases e : P.info? t with
  | none => rw [e] at h; cases h
  | some i =>
    rw [e] at h
    simp at h
    simp [Go.sizeOf, typeInfo, e, h]
def SemOK (P : Program) (wb : Base) (G : Gh) (x : Sem Value) (w : World) (r : AV) (S' : St) : Prop :=
  ∃ v w' G', x.run P w = .ok v w' ∧ G.le G' ∧ StRel wb G' S' w' ∧ VRel G' r v
theorem SemOK.same {P : Program} {wb : Base} {G : Gh} {x : Sem Value} {w : World} {r : AV} {S : St} {v : Value} (h : StRel wb G S w) (hx : x.run P w = .ok v w) (hv : VRel G r v) : SemOK P wb G x w r S :=
  ⟨v, w, G, hx, Gh.le_refl G, h, hv⟩
theorem At.of_obj {wb : Base} {G : Gh} {S : St} {w : World} (h : StRel wb G S w) {l r : Nat} {cs : List AV} (hl : S.get l = some cs) (hr : G.σ l = some r) (hnb : isBld cs = false) : At w G r 0 cs := by
  obtain ⟨r', hr', hm⟩ := h.obj l cs hl hnb
  obtain rfl : r = r' := by rw [hr] at hr'; exact Option.some.inj hr'
  intro m c hmc
  obtain ⟨v, h1, h2, h3, _⟩ := hm m c hmc
  exact ⟨v, by rwa [Nat.zero_add], h2, h3⟩
theorem At.of_row {wb : Base} {G : Gh} {S : St} {w : World} (h : StRel wb G S w) {xs : List AV} {r b : Nat} {f : Nat → Value}
    (hp : ∀ (m : Nat) (c : AV), (flat xs)[m]? = some c → G.φ r (b + m) = some (f m))
    (ho : ∀ (m : Nat) (c : AV), (flat xs)[m]? = some c → (f m).oneCell' = true)
    (hv : ∀ (m : Nat) (c : AV), (flat xs)[m]? = some c → VRel G c (f m)) : At w G r b (flat xs) :=
  fun m c hmc => ⟨f m, h.prom _ _ _ (hp m c hmc), hv m c hmc, ho m c hmc⟩
theorem At.of_glob {wb : Base} {G : Gh} {S : St} {w : World} (h : StRel wb G S w) {g : Nat} {cs : List AV} (hg : S.gl.lookup g = some cs) : At w G g 0 cs := by
  intro m c hmc
  obtain ⟨v, h1, h2, h3⟩ := h.glob g cs hg m c hmc
  exact ⟨v, by rw [Nat.zero_add]; exact h.prom _ _ _ h1, h2, h3⟩
theorem isBld_nil : isBld [] = false := rfl
theorem isBld_two (a b : AV) (l : List AV) : isBld (a :: b :: l) = false := by cases a <;> rfl
theorem isBld_bool (b : Bool) : isBld [.bool b] = false := rfl
theorem isBld_int (k : IntKind) (n : Int) : isBld [.int k n] = false := rfl
theorem isBld_str (s : List UInt8) : isBld [.str s] = false := rfl
theorem isBld_nilp : isBld [.nilp] = false := rfl
theorem isBld_ptr (l o : Nat) : isBld [.ptr l o] = false := rfl
theorem isBld_gp (l o : Nat) : isBld [.gp l o] = false := rfl
theorem isBld_eptr (k : Nat) (xs : List AV) (l o : Nat) : isBld [.eptr k xs l o] = false := rfl
theorem isBld_sl (k : Nat) (xs : List AV) (t : STok) : isBld [.sl k xs t] = false := rfl
theorem isBld_fn (f : Fn) (a c : List AV) : isBld [.fn f a c] = false := rfl
theorem isBld_nilf : isBld [.nilf] = false := rfl
theorem isBld_ifc (t : TypeId) (v : AV) : isBld [.ifc t v] = false := rfl
theorem isBld_nili : isBld [.nili] = false := rfl
theorem isBld_agg (cs : List AV) : isBld [.agg cs] = false := rfl
theorem isBld_bld (s : List UInt8) : isBld [.bld s] = true := rfl
def AV.there (S : St) : AV → Option (List AV)
  | .ptr l o => (S.get l).bind fun cs => if isBld cs then none else some (cs.drop o)
  | .gp g o => (S.gl.lookup g).map (·.drop o)
  | .eptr _ xs i off => (xs[i]?).map (·.cells.drop off)
  | _ => none
theorem there_at {wb : Base} {G : Gh} {S : St} {w : World} (h : StRel wb G S w) {p : AV} {cs : List AV} {v : Value} (hp : p.there S = some cs) (hv : VRel G p v) :
    ∃ r o, v = .pointer (some ⟨r, o, none⟩) ∧ At w G r o cs := by
  cases hv with
  | ptr e =>
    simp only [AV.there, Option.bind_eq_some_iff] at hp
    obtain ⟨ds, h1, hp⟩ := hp
    split at hp
    · cases hp
    · rename_i hnb
      injection hp with hp
      subst hp
      rename_i l o r
      exact ⟨r, o, rfl, by simpa using (At.of_obj h h1 e (by simpa using hnb)).drop o⟩
  | gp g o =>
    simp only [AV.there, Option.map_eq_some_iff] at hp
    obtain ⟨ds, h1, rfl⟩ := hp
    exact ⟨g, o, rfl, by simpa using (At.of_glob h h1).drop o⟩
  | eptr f hk hf ho hv' =>
    rename_i k xs i off r b
    simp only [AV.there, Option.map_eq_some_iff] at hp
    obtain ⟨x, h1, rfl⟩ := hp
    refine ⟨r, _, rfl, ?_⟩
    intro m c hmc
    rw [List.getElem?_drop] at hmc
    have hx : x ∈ xs := List.mem_of_getElem? h1
    have hlen := hk x hx
    have hlt : off + m < k := by
      rcases Nat.lt_or_ge (off + m) k with h' | h'
      · exact h'
      · rw [List.getElem?_eq_none (by omega)] at hmc; cases hmc
    have h2 : (flat xs)[i * k + (off + m)]? = some c := by rw [flat_get hk hlt, h1]; simpa using hmc
    refine ⟨f (i * k + (off + m)), ?_, hv' _ c h2, ho _ c h2⟩
    have := h.prom _ _ _ (hf _ c h2)
    rwa [show b + (i * k + (off + m)) = b + i * k + off + m from by omega] at this
  | _ => cases hp
def pickCells (n : Nat) (ag : Bool) (cs : List AV) : Option AV :=
  if ag then (if n ≤ cs.length then some (.agg (cs.take n)) else none) else cs[0]?
theorem run_load_at {P : Program} {w : World} {G : Gh} {r o : Nat} {cs : List AV} (h : At w G r o cs) {t : TypeId} {n : Nat} {ag : Bool} (hk : known P t = true) (ha : isAggB P t = ag) (hs : sizeIs P t n = true)
    {x : AV} (hx : pickCells n ag cs = some x) : ∃ v, (Instr.loadAt t (.pointer (some ⟨r, o, none⟩))).run P w = .ok v w ∧ VRel G x v := by
  simp only [Instr.loadAt, Instr.sureAddr, loadVar, Sem.run_bind, Sem.run_pure, Result.andThen_ok, run_isAggB hk, ha]
  cases ag with
  | true =>
    simp only [pickCells, if_true] at hx
    split at hx
    · rename_i hn
      injection hx with hx
      subst hx
      obtain ⟨vs, h1, h2⟩ := (h.take n).choose
      have hl : n = vs.length := by rw [← h1.len]; simp; omega
      refine ⟨.agg vs.toArray, ?_, .agg h1.len h1.one h1.rel⟩
      simp only [if_true, Sem.run_bind, run_sizeIs hs, Result.andThen_ok]
      rw [hl, run_loadCells_list w ⟨r, o, none⟩ vs (fun j v e => by rw [add_none]; exact h2 j v e)]
      simp
    · cases hx
  | false =>
    simp only [pickCells, Bool.false_eq_true, if_false] at hx
    obtain ⟨v, h1, h2, _⟩ := h 0 x hx
    refine ⟨v, ?_, h2⟩
    simp only [Bool.false_eq_true, if_false]
    rw [run_load]
    simp only [Nat.add_zero] at h1
    simp [h1]
end Go.V
