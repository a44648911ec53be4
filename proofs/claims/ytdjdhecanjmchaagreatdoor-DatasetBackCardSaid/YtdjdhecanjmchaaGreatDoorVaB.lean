/- The by-value layer, part one: abstract values, what they mean in a world, and what stays when the world grows. No program in sight. -/
import Derived.Calls
import Derived.Laws.Sem
import Derived.Laws.World
import Derived.Laws.Cells
import Derived.Lib.FrozenHead
set_option linter.unusedSimpArgs false
set_option linter.unusedVariables false
namespace Go.V
open Go
inductive STok where
  | unk
  | exact
  | tok (n : Nat)
  | new (n : Nat)
  deriving DecidableEq
inductive AV where
  | junk
  | bool (b : Bool)
  | int (k : IntKind) (n : Int)
  | str (s : List UInt8)
  | nilp
  | ptr (l o : Nat)
  | gp (g o : Nat)
  | eptr (k : Nat) (xs : List AV) (i off : Nat)
  | sl (k : Nat) (xs : List AV) (t : STok)
  | fn (f : Fn) (first caps : List AV)
  | nilf
  | ifc (t : TypeId) (v : AV)
  | nili
  | agg (cs : List AV)
  | tup (vs : List AV)
  | bld (s : List UInt8)
  deriving Inhabited
def AV.cells : AV → List AV
  | .agg cs => cs
  | v => [v]
def AV.solid : AV → Bool
  | .junk | .tup _ | .bld _ => false
  | _ => true
def flat (xs : List AV) : List AV := xs.flatMap AV.cells
@[simp] theorem flat_nil : flat [] = [] := rfl
@[simp] theorem flat_cons (x : AV) (xs : List AV) : flat (x :: xs) = x.cells ++ flat xs := by simp [flat]
@[simp] theorem flat_append (xs ys : List AV) : flat (xs ++ ys) = flat xs ++ flat ys := by simp [flat]
theorem flat_length {k : Nat} : ∀ {xs : List AV}, (∀ x ∈ xs, x.cells.length = k) → (flat xs).length = xs.length * k
  | [], _ => by simp
  | x :: xs, h => by
    have h1 := h x (by simp)
    have h2 := flat_length (k := k) (xs := xs) fun y hy => h y (by simp [hy])
    simp [h1, h2, Nat.add_mul, Nat.add_comm]
theorem flat_get {k : Nat} : ∀ {xs : List AV} {i j : Nat}, (∀ x ∈ xs, x.cells.length = k) → j < k → (flat xs)[i * k + j]? = (xs[i]?).bind (fun x => x.cells[j]?)
  | [], i, j, _, _ => by simp
  | x :: xs, 0, j, h, hj => by
    have h1 := h x (by simp)
    simp [List.getElem?_append_left (by omega : j < x.cells.length)]
  | x :: xs, i + 1, j, h, hj => by
    have h1 := h x (by simp)
    have h2 := flat_get (k := k) (xs := xs) (i := i) (j := j) (fun y hy => h y (by simp [hy])) hj
    rw [flat_cons, List.getElem?_append_right (by rw [h1, Nat.add_mul]; omega)]
    rw [show (i + 1) * k + j - x.cells.length = i * k + j from by rw [h1, Nat.add_mul]; omega, h2]
    simp
structure Gh where
  φ : Nat → Nat → Option Value
  σ : Nat → Option Nat
  τ : Nat → Option (Nat × Nat × Nat)
  β : Nat
structure Gh.le (G G' : Gh) : Prop where
  φ : ∀ r o v, G.φ r o = some v → G'.φ r o = some v
  σ : ∀ l r, G.σ l = some r → G'.σ l = some r
  τ : ∀ t x, G.τ t = some x → G'.τ t = some x
  β : G'.β = G.β
theorem Gh.le_refl (G : Gh) : G.le G := ⟨fun _ _ _ h => h, fun _ _ h => h, fun _ _ h => h, rfl⟩
theorem Gh.le_trans {G G' G'' : Gh} (h : G.le G') (h' : G'.le G'') : G.le G'' :=
  ⟨fun r o v e => h'.φ r o v (h.φ r o v e), fun l r e => h'.σ l r (h.σ l r e), fun t x e => h'.τ t x (h.τ t x e), h'.β.trans h.β⟩
def TokOK (G : Gh) (t : STok) (r e z : Nat) : Prop :=
  match t with
  | .unk => True
  | .exact => e = z
  | .tok n => G.τ n = some (r, e, z)
  | .new n => G.τ n = some (r, e, z) ∧ G.β ≤ r
inductive VRel (G : Gh) : AV → Value → Prop
  | junk (v : Value) : VRel G .junk v
  | bool (b : Bool) : VRel G (.bool b) (.bool b)
  | int (k : IntKind) (n : Int) : VRel G (.int k n) (.int k n)
  | str (s : List UInt8) : VRel G (.str s) (.string ⟨s.toArray⟩)
  | nilp : VRel G .nilp (.pointer none)
  | ptr {l o r : Nat} (h : G.σ l = some r) : VRel G (.ptr l o) (.pointer (some ⟨r, o, none⟩))
  | gp (g o : Nat) : VRel G (.gp g o) (.pointer (some ⟨g, o, none⟩))
  | eptr {k : Nat} {xs : List AV} {i off r b : Nat} (f : Nat → Value)
      (hk : ∀ x ∈ xs, x.cells.length = k)
      (hp : ∀ (m : Nat) (c : AV), (flat xs)[m]? = some c → G.φ r (b + m) = some (f m))
      (ho : ∀ (m : Nat) (c : AV), (flat xs)[m]? = some c → (f m).oneCell' = true)
      (hv : ∀ (m : Nat) (c : AV), (flat xs)[m]? = some c → VRel G c (f m)) :
      VRel G (.eptr k xs i off) (.pointer (some ⟨r, b + i * k + off, none⟩))
  | slnil (k : Nat) (t : STok) (a : Option Addr) : VRel G (.sl k [] t) (.slice a 0 0)
  | sl {k : Nat} {xs : List AV} {t : STok} {r b cap : Nat} (f : Nat → Value)
      (hk : ∀ x ∈ xs, x.cells.length = k)
      (hp : ∀ (m : Nat) (c : AV), (flat xs)[m]? = some c → G.φ r (b + m) = some (f m))
      (ho : ∀ (m : Nat) (c : AV), (flat xs)[m]? = some c → (f m).oneCell' = true)
      (hv : ∀ (m : Nat) (c : AV), (flat xs)[m]? = some c → VRel G c (f m))
      (hc : xs.length ≤ cap) (ht : TokOK G t r (b + xs.length * k) (b + cap * k)) :
      VRel G (.sl k xs t) (.slice (some ⟨r, b, none⟩) xs.length cap)
  | fn (f : Fn) {first caps : List AV} {vs ws : List Value} (h1 : first.length = vs.length) (h2 : caps.length = ws.length)
      (hv : ∀ (m : Nat) (c : AV) (v : Value), first[m]? = some c → vs[m]? = some v → VRel G c v)
      (hw : ∀ (m : Nat) (c : AV) (v : Value), caps[m]? = some c → ws[m]? = some v → VRel G c v) :
      VRel G (.fn f first caps) (.func f vs.toArray ws.toArray)
  | nilf : VRel G .nilf .nilFunc
  | ifc (t : TypeId) {c : AV} {v : Value} (h : VRel G c v) : VRel G (.ifc t c) (.iface t v)
  | nili : VRel G .nili .nilIface
  | agg {cs : List AV} {vs : List Value} (hl : cs.length = vs.length) (ho : ∀ v ∈ vs, v.oneCell' = true)
      (hv : ∀ (m : Nat) (c : AV) (v : Value), cs[m]? = some c → vs[m]? = some v → VRel G c v) : VRel G (.agg cs) (.agg vs.toArray)
  | tup {cs : List AV} {vs : List Value} (hl : cs.length = vs.length)
      (hv : ∀ (m : Nat) (c : AV) (v : Value), cs[m]? = some c → vs[m]? = some v → VRel G c v) : VRel G (.tup cs) (.tuple vs.toArray)
theorem VRel.mono {G G' : Gh} (h : G.le G') {a : AV} {v : Value} (hr : VRel G a v) : VRel G' a v := by
  induction hr with
  | junk v => exact .junk v
  | bool b => exact .bool b
  | int k n => exact .int k n
  | str s => exact .str s
  | nilp => exact .nilp
  | ptr e => exact .ptr (h.σ _ _ e)
  | gp g o => exact .gp g o
  | eptr f hk hp ho _ ih => exact .eptr f hk (fun m c e => h.φ _ _ _ (hp m c e)) ho ih
  | slnil k t a => exact .slnil k t a
  | sl f hk hp ho _ hc ht ih =>
    refine .sl f hk (fun m c e => h.φ _ _ _ (hp m c e)) ho ih hc ?_
    cases ‹STok› with
    | unk => trivial
    | exact => exact ht
    | tok n => exact h.τ _ _ ht
    | new n => exact ⟨h.τ _ _ ht.1, h.β ▸ ht.2⟩
  | fn f h1 h2 _ _ ihv ihw => exact .fn f h1 h2 ihv ihw
  | nilf => exact .nilf
  | ifc t _ ih => exact .ifc t ih
  | nili => exact .nili
  | agg hl ho _ ih => exact .agg hl ho ih
  | tup hl _ ih => exact .tup hl ih
structure CRel (G : Gh) (cs : List AV) (vs : List Value) : Prop where
  len : cs.length = vs.length
  one : ∀ v ∈ vs, v.oneCell' = true
  rel : ∀ (m : Nat) (c : AV) (v : Value), cs[m]? = some c → vs[m]? = some v → VRel G c v
theorem CRel.mono {G G' : Gh} (h : G.le G') {cs : List AV} {vs : List Value} (hr : CRel G cs vs) : CRel G' cs vs :=
  ⟨hr.len, hr.one, fun m c v a b => (hr.rel m c v a b).mono h⟩
theorem CRel.nil (G : Gh) : CRel G [] [] := ⟨rfl, by simp, by simp⟩
theorem CRel.cons {G : Gh} {c : AV} {v : Value} {cs : List AV} {vs : List Value} (h : VRel G c v) (ho : v.oneCell' = true) (hr : CRel G cs vs) : CRel G (c :: cs) (v :: vs) := by
  refine ⟨by simp [hr.len], ?_, ?_⟩
  · intro u hu
    rcases List.mem_cons.1 hu with rfl | hu
    · exact ho
    · exact hr.one u hu
  · intro m c' v' h1 h2
    cases m with
    | zero => simp at h1 h2; rw [← h1, ← h2]; exact h
    | succ m => exact hr.rel m c' v' (by simpa using h1) (by simpa using h2)
theorem CRel.append {G : Gh} : ∀ {cs : List AV} {vs : List Value} {cs' : List AV} {vs' : List Value}, CRel G cs vs → CRel G cs' vs' → CRel G (cs ++ cs') (vs ++ vs')
  | [], [], _, _, _, h' => by simpa using h'
  | [], _ :: _, _, _, h, _ => absurd h.len (by simp)
  | _ :: _, [], _, _, h, _ => absurd h.len (by simp)
  | c :: cs, v :: vs, _, _, h, h' => by
    refine CRel.cons (h.rel 0 c v rfl rfl) (h.one v (by simp)) (CRel.append ⟨by simpa using h.len, fun u hu => h.one u (by simp [hu]), fun m c' v' a b => h.rel (m + 1) c' v' (by simpa using a) (by simpa using b)⟩ h')
theorem CRel.get {G : Gh} {cs : List AV} {vs : List Value} (h : CRel G cs vs) {m : Nat} {c : AV} (hc : cs[m]? = some c) : ∃ v, vs[m]? = some v ∧ VRel G c v ∧ v.oneCell' = true := by
  have hm : m < cs.length := by
    rcases Nat.lt_or_ge m cs.length with h' | h'
    · exact h'
    · rw [List.getElem?_eq_none h'] at hc; cases hc
  have hm' : m < vs.length := h.len ▸ hm
  refine ⟨vs[m], by simp [hm'], h.rel m c _ hc (by simp [hm']), h.one _ (by simp)⟩
theorem VRel.cells {G : Gh} {a : AV} {v : Value} (h : VRel G a v) (hs : a.solid = true) : CRel G a.cells v.cells.toList := by
  cases h with
  | junk v => cases hs
  | tup _ _ => cases hs
  | agg hl ho hv => exact ⟨by simpa [AV.cells, Value.cells] using hl, by simpa [Value.cells] using ho, by simpa [AV.cells, Value.cells] using hv⟩
  | bool b => exact .cons (.bool b) rfl (.nil G)
  | int k n => exact .cons (.int k n) rfl (.nil G)
  | str s => exact .cons (.str s) rfl (.nil G)
  | nilp => exact .cons .nilp rfl (.nil G)
  | ptr e => exact .cons (.ptr e) rfl (.nil G)
  | gp g o => exact .cons (.gp g o) rfl (.nil G)
  | eptr f hk hp ho hv => exact .cons (.eptr f hk hp ho hv) rfl (.nil G)
  | slnil k t a => exact .cons (.slnil k t a) rfl (.nil G)
  | sl f hk hp ho hv hc ht => exact .cons (.sl f hk hp ho hv hc ht) rfl (.nil G)
  | fn f h1 h2 hv hw => exact .cons (.fn f h1 h2 hv hw) rfl (.nil G)
  | nilf => exact .cons .nilf rfl (.nil G)
  | ifc t h => exact .cons (.ifc t h) rfl (.nil G)
  | nili => exact .cons .nili rfl (.nil G)
theorem VRel.unk {G : Gh} {k : Nat} {xs : List AV} {t : STok} {v : Value} (h : VRel G (.sl k xs t) v) : VRel G (.sl k xs .unk) v := by
  cases h with
  | slnil => exact .slnil _ _ _
  | sl f hk hp ho hv hc ht => exact .sl f hk hp ho hv hc trivial
structure St where
  n : Nat
  obj : List (Nat × List AV)
  nt : Nat
  live : List Nat
  gl : List (Nat × List AV)
def St.get (S : St) (l : Nat) : Option (List AV) := S.obj.lookup l
def gtab : List (Nat × List Value) := [(4, (List.range 20).map fun i => Value.int .u64 ((10 ^ i : Nat) : Int))]
def tabOK (w : World) : Prop := ∀ p ∈ gtab, ∃ T fz, w.heap[p.1]? = some (.cells p.2.toArray T fz)
structure Base extends World where
  φ : Nat → Nat → Option Value
  good : tabOK toWorld
def bldT : TypeId := 81
def bldE : TypeId := 5
def isBld : List AV → Bool
  | [.bld _] => true
  | _ => false
def Alone (G : Gh) (S : St) (g : Nat) : Prop := (∀ o, G.φ g o = none) ∧ (∀ l, G.σ l ≠ some g) ∧ ∀ t ∈ S.live, ∀ e z, G.τ t = some (g, e, z) → z ≤ e
def BldAt (wb : Base) (G : Gh) (S : St) (w : World) (r : Nat) (s : List UInt8) : Prop :=
  ∃ p v, (p = .pointer none ∨ p = .pointer (some ⟨r, 0, none⟩)) ∧ w.heap[r]? = some (.cells #[p, v] bldT (0, 0)) ∧
    ((v = .slice none 0 0 ∧ s = []) ∨ ∃ g cap cur fz, s ≠ [] ∧ v = .slice (some ⟨g, 0, none⟩) s.length cap ∧ wb.heap.size ≤ g ∧ g ≠ r ∧ w.heap[g]? = some (.cells cur bldE fz) ∧ fz.2 ≤ s.length ∧ s.length ≤ cap ∧ cap ≤ maxLen ∧ cur.size = cap ∧ cur.toList.take s.length = Lib.byteCells s ∧ Alone G S g)
theorem BldAt.to {wb : Base} {G G' : Gh} {S S' : St} {w w' : World} {r : Nat} {s : List UInt8} (h : BldAt wb G S w r s) (hr : r < w.heap.size → w'.heap[r]? = w.heap[r]?) (hg : ∀ g, g < w.heap.size → wb.heap.size ≤ g → g ≠ r → Alone G S g → w'.heap[g]? = w.heap[g]? ∧ Alone G' S' g) : BldAt wb G' S' w' r s := by
  obtain ⟨p, v, h1, h2, h3⟩ := h
  have hlt : ∀ g x, w.heap[g]? = some x → g < w.heap.size := fun g x e => by
    rcases Nat.lt_or_ge g w.heap.size with h' | h'
    · exact h'
    · simp [Array.getElem?_eq_none h'] at e
  refine ⟨p, v, h1, by rw [hr (hlt _ _ h2)]; exact h2, ?_⟩
  rcases h3 with h3 | ⟨g, cap, cur, fz, q0, q1, q2, q3, q4, q5, q6, q7, q8, q9, q10⟩
  · exact .inl h3
  · obtain ⟨k1, k2⟩ := hg g (hlt _ _ q4) q2 q3 q10
    exact .inr ⟨g, cap, cur, fz, q0, q1, q2, q3, by rw [k1]; exact q4, q5, q6, q7, q8, q9, k2⟩
structure StRel (wb : Base) (G : Gh) (S : St) (w : World) : Prop where
  prom : ∀ r o v, G.φ r o = some v → w.cell? ⟨r, o, none⟩ = some v
  apart : ∀ l cs r o, S.get l = some cs → G.σ l = some r → G.φ r o = none
  obj : ∀ l cs, S.get l = some cs → isBld cs = false → ∃ r, G.σ l = some r ∧ ∀ (m : Nat) (c : AV), cs[m]? = some c → ∃ v, w.cell? ⟨r, m, none⟩ = some v ∧ VRel G c v ∧ v.oneCell' = true ∧ w.frozen? ⟨r, m, none⟩ = false
  inj : ∀ l l' r, G.σ l = some r → G.σ l' = some r → l = l'
  dom : ∀ l r, G.σ l = some r → l < S.n ∧ wb.heap.size ≤ r ∧ r < w.heap.size
  tok : ∀ t ∈ S.live, ∃ r e z, G.τ t = some (r, e, z) ∧
    ∀ o, e ≤ o → o < z → wb.heap.size ≤ r ∧ (∀ l, G.σ l ≠ some r) ∧ (∃ v, w.cell? ⟨r, o, none⟩ = some v) ∧ w.frozen? ⟨r, o, none⟩ = false ∧ G.φ r o = none
  tdom : ∀ t x, G.τ t = some x → t < S.nt ∧ (x.2.1 < x.2.2 → x.1 < w.heap.size)
  tdis : ∀ t ∈ S.live, ∀ t' ∈ S.live, t ≠ t' → ∀ r e z e' z', G.τ t = some (r, e, z) → G.τ t' = some (r, e', z') → ∀ o, e ≤ o → o < z → e' ≤ o → o < z' → False
  base : wb.heap.size ≤ w.heap.size ∧ ∀ r, r < wb.heap.size → w.heap[r]? = wb.heap[r]?
  pold : ∀ r o v, r < wb.heap.size → G.φ r o = some v → wb.φ r o = some v
  still : w.os = wb.os ∧ w.output = wb.output ∧ w.tape = wb.tape
  beta : G.β = wb.heap.size
  glob : ∀ g cs, S.gl.lookup g = some cs → ∀ (m : Nat) (c : AV), cs[m]? = some c → ∃ v, G.φ g m = some v ∧ VRel G c v ∧ v.oneCell' = true
  bld : ∀ l s, S.get l = some [.bld s] → ∃ r, G.σ l = some r ∧ BldAt wb G S w r s
  bldu : ∀ l l' s s', S.get l = some [.bld s] → S.get l' = some [.bld s'] → l = l'
theorem StRel.good {wb : Base} {G : Gh} {S : St} {w : World} (h : StRel wb G S w) : tabOK w := by
  intro p hp
  obtain ⟨T, fz, e⟩ := wb.good p hp
  have hlt : p.1 < wb.heap.size := by
    rcases Nat.lt_or_ge p.1 wb.heap.size with h' | h'
    · exact h'
    · simp [Array.getElem?_eq_none h'] at e
  exact ⟨T, fz, by rw [h.base.2 p.1 hlt]; exact e⟩
end Go.V
