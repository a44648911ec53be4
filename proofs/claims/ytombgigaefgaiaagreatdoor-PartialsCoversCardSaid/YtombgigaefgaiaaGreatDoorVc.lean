/- The by-value layer, part one: abstract values, what they mean in a world, and what stays when the world grows. No program in sight. -/
import Derived.Calls
import Derived.Laws.Sem
import Derived.Laws.World
import Derived.Laws.Cells
import Derived.Lib.FrozenHead
import Derived.Laws.StructEq
import Derived.Laws.Append
import Derived.Laws.BytesString
set_option linter.unusedSimpArgs false
set_option linter.unusedVariables false
namespace Go.V
open Go
inductive STok where
  | unk
  | exact
  | tok (n : Nat)
  | new (n : Nat)
  deriving DecidableEq
inductive AV where
  | junk
  | bool (b : Bool)
  | int (k : IntKind) (n : Int)
  | str (s : List UInt8)
  | nilp
  | ptr (l o : Nat)
  | gp (g o : Nat)
  | eptr (k : Nat) (xs : List AV) (i off : Nat)
  | sl (k : Nat) (xs : List AV) (t : STok)
  | fn (f : Fn) (first caps : List AV)
  | nilf
  | ifc (t : TypeId) (v : AV)
  | nili
  | agg (cs : List AV)
  | tup (vs : List AV)
  | bld (s : List UInt8)
  | hob (l : Nat) (o : Obj) (ts : List Nat) (vs : List AV)
  | osl (k n l o : Nat)
  | mp (l : Nat)
  | nilm
  | mob (ks vs : List AV)
  | zob (E : Nat)
  deriving Inhabited
def AV.cells : AV → List AV
  | .agg cs => cs
  | v => [v]
def AV.solid : AV → Bool
  | .junk | .tup _ | .bld _ | .hob .. | .mob .. | .zob _ => false
  | _ => true
def flat (xs : List AV) : List AV := xs.flatMap AV.cells
@[simp] theorem flat_nil : flat [] = [] := rfl
@[simp] theorem flat_cons (x : AV) (xs : List AV) : flat (x :: xs) = x.cells ++ flat xs := by simp [flat]
@[simp] theorem flat_append (xs ys : List AV) : flat (xs ++ ys) = flat xs ++ flat ys := by simp [flat]
theorem flat_length {k : Nat} : ∀ {xs : List AV},(∀ x ∈ xs,x.cells.length = k) → (flat xs).length = xs.length * k
  | [],_ => by simp
  | x :: xs,h => by
    have h1 := h x (by simp)
    have h2 := flat_length (k := k) (xs := xs) fun y hy => h y (by simp [hy])
    simp [h1,h2,Nat.add_mul,Nat.add_comm]
theorem flat_get {k : Nat} : ∀ {xs : List AV} {i j : Nat},(∀ x ∈ xs,x.cells.length = k) → j < k → (flat xs)[i * k + j]? = (xs[i]?).bind (fun x => x.cells[j]?)
  | [],i,j,_,_ => by simp
  | x :: xs,0,j,h,hj => by
    have h1 := h x (by simp)
    simp [List.getElem?_append_left (by omega : j < x.cells.length)]
  | x :: xs,i + 1,j,h,hj => by
    have h1 := h x (by simp)
    have h2 := flat_get (k := k) (xs := xs) (i := i) (j := j) (fun y hy => h y (by simp [hy])) hj
    rw [flat_cons,List.getElem?_append_right (by rw [h1,Nat.add_mul]; omega)]
    rw [show (i + 1) * k + j - x.cells.length = i * k + j from by rw [h1,Nat.add_mul]; omega,h2]
    simp
structure Gh where
  φ : Nat → Nat → Option Value
  σ : Nat → Option Nat
  τ : Nat → Option (Nat × Nat × Nat)
  β : Nat
  κ : Nat → Nat
structure Gh.le (G G' : Gh) : Prop where
  φ : ∀ r o v,G.φ r o = some v → G'.φ r o = some v
  σ : ∀ l r,G.σ l = some r → G'.σ l = some r
  τ : ∀ t x,G.τ t = some x → G'.τ t = some x
  β : G'.β = G.β
  κ : ∀ l r,G.σ l = some r → G'.κ l = G.κ l
theorem Gh.le_refl (G : Gh) : G.le G := ⟨fun _ _ _ h => h,fun _ _ h => h,fun _ _ h => h,rfl,fun _ _ _ => rfl⟩
theorem Gh.le_trans {G G' G'' : Gh} (h : G.le G') (h' : G'.le G'') : G.le G'' :=
  ⟨fun r o v e => h'.φ r o v (h.φ r o v e),fun l r e => h'.σ l r (h.σ l r e),fun t x e => h'.τ t x (h.τ t x e),h'.β.trans h.β,fun l r e => (h'.κ l r (h.σ l r e)).trans (h.κ l r e)⟩
def TokOK (G : Gh) (t : STok) (r e z : Nat) : Prop :=
  match t with
  | .unk => True
  | .exact => e = z
  | .tok n => G.τ n = some (r,e,z)
  | .new n => G.τ n = some (r,e,z) ∧ G.β ≤ r
inductive VRel (G : Gh) : AV → Value → Prop
  | junk (v : Value) : VRel G .junk v
  | bool (b : Bool) : VRel G (.bool b) (.bool b)
  | int (k : IntKind) (n : Int) : VRel G (.int k n) (.int k n)
  | str (s : List UInt8) : VRel G (.str s) (.string ⟨s.toArray⟩)
  | nilp : VRel G .nilp (.pointer none)
  | ptr {l o r : Nat} (h : G.σ l = some r) : VRel G (.ptr l o) (.pointer (some ⟨r,o,none⟩))
  | gp (g o : Nat) : VRel G (.gp g o) (.pointer (some ⟨g,o,none⟩))
  | eptr {k : Nat} {xs : List AV} {i off r b : Nat} (f : Nat → Value)
      (hk : ∀ x ∈ xs,x.cells.length = k)
      (hp : ∀ (m : Nat) (c : AV),(flat xs)[m]? = some c → G.φ r (b + m) = some (f m))
      (ho : ∀ (m : Nat) (c : AV),(flat xs)[m]? = some c → (f m).oneCell' = true)
      (hv : ∀ (m : Nat) (c : AV),(flat xs)[m]? = some c → VRel G c (f m)) :
      VRel G (.eptr k xs i off) (.pointer (some ⟨r,b + i * k + off,none⟩))
  | slnil (k : Nat) (t : STok) (a : Option Addr) : VRel G (.sl k [] t) (.slice a 0 0)
  | sl {k : Nat} {xs : List AV} {t : STok} {r b cap : Nat} (f : Nat → Value)
      (hk : ∀ x ∈ xs,x.cells.length = k)
      (hp : ∀ (m : Nat) (c : AV),(flat xs)[m]? = some c → G.φ r (b + m) = some (f m))
      (ho : ∀ (m : Nat) (c : AV),(flat xs)[m]? = some c → (f m).oneCell' = true)
      (hv : ∀ (m : Nat) (c : AV),(flat xs)[m]? = some c → VRel G c (f m))
      (hc : xs.length ≤ cap) (ht : TokOK G t r (b + xs.length * k) (b + cap * k)) :
      VRel G (.sl k xs t) (.slice (some ⟨r,b,none⟩) xs.length cap)
  | osl (k : Nat) {n l o r cap : Nat} (h : G.σ l = some r) (hc : n ≤ cap) (hz : o + cap * k ≤ G.κ l) : VRel G (.osl k n l o) (.slice (some ⟨r,o,none⟩) n cap)
  | mp {l r : Nat} (h : G.σ l = some r) : VRel G (.mp l) (.map (some r))
  | nilm : VRel G .nilm (.map none)
  | fn (f : Fn) {first caps : List AV} {vs ws : List Value} (h1 : first.length = vs.length) (h2 : caps.length = ws.length)
      (hv : ∀ (m : Nat) (c : AV) (v : Value),first[m]? = some c → vs[m]? = some v → VRel G c v)
      (hw : ∀ (m : Nat) (c : AV) (v : Value),caps[m]? = some c → ws[m]? = some v → VRel G c v) :
      VRel G (.fn f first caps) (.func f vs.toArray ws.toArray)
  | nilf : VRel G .nilf .nilFunc
  | ifc (t : TypeId) {c : AV} {v : Value} (h : VRel G c v) : VRel G (.ifc t c) (.iface t v)
  | nili : VRel G .nili .nilIface
  | agg {cs : List AV} {vs : List Value} (hl : cs.length = vs.length) (ho : ∀ v ∈ vs,v.oneCell' = true)
      (hv : ∀ (m : Nat) (c : AV) (v : Value),cs[m]? = some c → vs[m]? = some v → VRel G c v) : VRel G (.agg cs) (.agg vs.toArray)
  | tup {cs : List AV} {vs : List Value} (hl : cs.length = vs.length)
      (hv : ∀ (m : Nat) (c : AV) (v : Value),cs[m]? = some c → vs[m]? = some v → VRel G c v) : VRel G (.tup cs) (.tuple vs.toArray)
theorem VRel.mono {G G' : Gh} (h : G.le G') {a : AV} {v : Value} (hr : VRel G a v) : VRel G' a v := by
  induction hr with
  | junk v => exact .junk v
  | bool b => exact .bool b
  | int k n => exact .int k n
  | str s => exact .str s
  | nilp => exact .nilp
  | ptr e => exact .ptr (h.σ _ _ e)
  | gp g o => exact .gp g o
  | eptr f hk hp ho _ ih => exact .eptr f hk (fun m c e => h.φ _ _ _ (hp m c e)) ho ih
  | slnil k t a => exact .slnil k t a
  | sl f hk hp ho _ hc ht ih =>
    refine .sl f hk (fun m c e => h.φ _ _ _ (hp m c e)) ho ih hc ?_
    cases ‹STok› with
    | unk => trivial
    | exact => exact ht
    | tok n => exact h.τ _ _ ht
    | new n => exact ⟨h.τ _ _ ht.1,h.β ▸ ht.2⟩
  | osl k e hc hz => exact .osl k (h.σ _ _ e) hc (by rw [h.κ _ _ e]; exact hz)
  | mp e => exact .mp (h.σ _ _ e)
  | nilm => exact .nilm
  | fn f h1 h2 _ _ ihv ihw => exact .fn f h1 h2 ihv ihw
  | nilf => exact .nilf
  | ifc t _ ih => exact .ifc t ih
  | nili => exact .nili
  | agg hl ho _ ih => exact .agg hl ho ih
  | tup hl _ ih => exact .tup hl ih
structure CRel (G : Gh) (cs : List AV) (vs : List Value) : Prop where
  len : cs.length = vs.length
  one : ∀ v ∈ vs,v.oneCell' = true
  rel : ∀ (m : Nat) (c : AV) (v : Value),cs[m]? = some c → vs[m]? = some v → VRel G c v
theorem CRel.mono {G G' : Gh} (h : G.le G') {cs : List AV} {vs : List Value} (hr : CRel G cs vs) : CRel G' cs vs :=
  ⟨hr.len,hr.one,fun m c v a b => (hr.rel m c v a b).mono h⟩
theorem CRel.nil (G : Gh) : CRel G [] [] := ⟨rfl,by simp,by simp⟩
theorem CRel.cons {G : Gh} {c : AV} {v : Value} {cs : List AV} {vs : List Value} (h : VRel G c v) (ho : v.oneCell' = true) (hr : CRel G cs vs) : CRel G (c :: cs) (v :: vs) := by
  refine ⟨by simp [hr.len],?_,?_⟩
  · intro u hu
    rcases List.mem_cons.1 hu with rfl | hu
    · exact ho
    · exact hr.one u hu
  · intro m c' v' h1 h2
    cases m with
    | zero => simp at h1 h2; rw [← h1,← h2]; exact h
    | succ m => exact hr.rel m c' v' (by simpa using h1) (by simpa using h2)
theorem CRel.append {G : Gh} : ∀ {cs : List AV} {vs : List Value} {cs' : List AV} {vs' : List Value},CRel G cs vs → CRel G cs' vs' → CRel G (cs ++ cs') (vs ++ vs')
  | [],[],_,_,_,h' => by simpa using h'
  | [],_ :: _,_,_,h,_ => absurd h.len (by simp)
  | _ :: _,[],_,_,h,_ => absurd h.len (by simp)
  | c :: cs,v :: vs,_,_,h,h' => by
    refine CRel.cons (h.rel 0 c v rfl rfl) (h.one v (by simp)) (CRel.append ⟨by simpa using h.len,fun u hu => h.one u (by simp [hu]),fun m c' v' a b => h.rel (m + 1) c' v' (by simpa using a) (by simpa using b)⟩ h')
theorem CRel.get {G : Gh} {cs : List AV} {vs : List Value} (h : CRel G cs vs) {m : Nat} {c : AV} (hc : cs[m]? = some c) : ∃ v,vs[m]? = some v ∧ VRel G c v ∧ v.oneCell' = true := by
  have hm : m < cs.length := by
    rcases Nat.lt_or_ge m cs.length with h' | h'
    · exact h'
    · rw [List.getElem?_eq_none h'] at hc; cases hc
  have hm' : m < vs.length := h.len ▸ hm
  refine ⟨vs[m],by simp [hm'],h.rel m c _ hc (by simp [hm']),h.one _ (by simp)⟩
theorem VRel.cells {G : Gh} {a : AV} {v : Value} (h : VRel G a v) (hs : a.solid = true) : CRel G a.cells v.cells.toList := by
  cases h with
  | junk v => cases hs
  | tup _ _ => cases hs
  | agg hl ho hv => exact ⟨by simpa [AV.cells,Value.cells] using hl,by simpa [Value.cells] using ho,by simpa [AV.cells,Value.cells] using hv⟩
  | bool b => exact .cons (.bool b) rfl (.nil G)
  | int k n => exact .cons (.int k n) rfl (.nil G)
  | str s => exact .cons (.str s) rfl (.nil G)
  | nilp => exact .cons .nilp rfl (.nil G)
  | ptr e => exact .cons (.ptr e) rfl (.nil G)
  | gp g o => exact .cons (.gp g o) rfl (.nil G)
  | eptr f hk hp ho hv => exact .cons (.eptr f hk hp ho hv) rfl (.nil G)
  | slnil k t a => exact .cons (.slnil k t a) rfl (.nil G)
  | sl f hk hp ho hv hc ht => exact .cons (.sl f hk hp ho hv hc ht) rfl (.nil G)
  | osl k e hc hz => exact .cons (.osl k e hc hz) rfl (.nil G)
  | mp e => exact .cons (.mp e) rfl (.nil G)
  | nilm => exact .cons .nilm rfl (.nil G)
  | fn f h1 h2 hv hw => exact .cons (.fn f h1 h2 hv hw) rfl (.nil G)
  | nilf => exact .cons .nilf rfl (.nil G)
  | ifc t h => exact .cons (.ifc t h) rfl (.nil G)
  | nili => exact .cons .nili rfl (.nil G)
theorem VRel.unk {G : Gh} {k : Nat} {xs : List AV} {t : STok} {v : Value} (h : VRel G (.sl k xs t) v) : VRel G (.sl k xs .unk) v := by
  cases h with
  | slnil => exact .slnil _ _ _
  | sl f hk hp ho hv hc ht => exact .sl f hk hp ho hv hc trivial
structure St where
  n : Nat
  obj : List (Nat × List AV)
  nt : Nat
  live : List Nat
  gl : List (Nat × List AV)
def St.get (S : St) (l : Nat) : Option (List AV) := S.obj.lookup l
def gtab : List (Nat × List Value) := []
def tabOK (w : World) : Prop := ∀ p ∈ gtab,∃ T fz,w.heap[p.1]? = some (.cells p.2.toArray T fz)
structure Base extends World where
  φ : Nat → Nat → Option Value
  good : tabOK toWorld
def bldT : TypeId := 81
def bldE : TypeId := 5
def isBld : List AV → Bool
  | [.bld _] => true
  | [.hob ..] => true
  | [.mob ..] => true
  | [.zob _] => true
  | [.tup _] => true
  | _ => false
def isDead : List AV → Bool
  | [.tup _] => true
  | _ => false
theorem isDead_of_isBld {cs : List AV} (h : isBld cs = false) : isDead cs = false := by
  unfold isDead
  split
  · simp [isBld] at h
  · rfl
def Alone (G : Gh) (S : St) (g : Nat) : Prop := (∀ o,G.φ g o = none) ∧ (∀ l,G.σ l ≠ some g) ∧ ∀ t ∈ S.live,∀ e z,G.τ t = some (g,e,z) → z ≤ e
def BldAt (wb : Base) (G : Gh) (S : St) (w : World) (r : Nat) (s : List UInt8) : Prop :=
  ∃ p v,(p = .pointer none ∨ p = .pointer (some ⟨r,0,none⟩)) ∧ w.heap[r]? = some (.cells #[p,v] bldT (0,0)) ∧
    ((v = .slice none 0 0 ∧ s = []) ∨ ∃ g cap cur fz,s ≠ [] ∧ v = .slice (some ⟨g,0,none⟩) s.length cap ∧ wb.heap.size ≤ g ∧ g ≠ r ∧ w.heap[g]? = some (.cells cur bldE fz) ∧ fz.2 ≤ s.length ∧ s.length ≤ cap ∧ cap ≤ maxLen ∧ cur.size = cap ∧ cur.toList.take s.length = Lib.byteCells s ∧ Alone G S g)
theorem BldAt.to {wb : Base} {G G' : Gh} {S S' : St} {w w' : World} {r : Nat} {s : List UInt8} (h : BldAt wb G S w r s) (hr : r < w.heap.size → w'.heap[r]? = w.heap[r]?) (hg : ∀ g,g < w.heap.size → wb.heap.size ≤ g → g ≠ r → Alone G S g → w'.heap[g]? = w.heap[g]? ∧ Alone G' S' g) : BldAt wb G' S' w' r s := by
  obtain ⟨p,v,h1,h2,h3⟩ := h
  have hlt : ∀ g x,w.heap[g]? = some x → g < w.heap.size := fun g x e => by
    rcases Nat.lt_or_ge g w.heap.size with h' | h'
    · exact h'
    · simp [Array.getElem?_eq_none h'] at e
  refine ⟨p,v,h1,by rw [hr (hlt _ _ h2)]; exact h2,?_⟩
  rcases h3 with h3 | ⟨g,cap,cur,fz,q0,q1,q2,q3,q4,q5,q6,q7,q8,q9,q10⟩
  · exact .inl h3
  · obtain ⟨k1,k2⟩ := hg g (hlt _ _ q4) q2 q3 q10
    exact .inr ⟨g,cap,cur,fz,q0,q1,q2,q3,by rw [k1]; exact q4,q5,q6,q7,q8,q9,k2⟩
def notCells : Obj → Bool
  | .cells .. => false
  | _ => true
def HobF (G : Gh) (o : Obj) (ts : List Nat) (vs : List AV) : Prop :=
  match o with
  | .loop L => ∀ t v,(ts.zip vs).lookup t = some v → t < L.tmps.size ∧ VRel G v (L.tmps.getD t undef)
  | _ => True
theorem HobF.mono {G G' : Gh} (h : G.le G') {o : Obj} {ts : List Nat} {vs : List AV} (hf : HobF G o ts vs) : HobF G' o ts vs := by
  cases o with
  | loop L => exact fun t v e => ⟨(hf t v e).1,(hf t v e).2.mono h⟩
  | _ => trivial
def Rows3 (G : Gh) : List AV → List AV → List MapEntry → Prop
  | [],[],[] => True
  | k :: ks,v :: vs,e :: es => (VRel G k e.key ∧ VRel G v e.val) ∧ Rows3 G ks vs es
  | _,_,_ => False
theorem Rows3.mono {G G' : Gh} (h : G.le G') : ∀ {ks vs : List AV} {es : List MapEntry},Rows3 G ks vs es → Rows3 G' ks vs es
  | [],[],[],_ => trivial
  | _ :: _,_ :: _,_ :: _,hr => ⟨⟨hr.1.1.mono h,hr.1.2.mono h⟩,Rows3.mono h hr.2⟩
  | [],[],_ :: _,hr => hr.elim
  | [],_ :: _,_,hr => by cases ‹List MapEntry› <;> exact hr.elim
  | _ :: _,[],_,hr => by cases ‹List MapEntry› <;> exact hr.elim
  | _ :: _,_ :: _,[],hr => hr.elim
def keyCls : Option IntKind → Value → Prop
  | some q,v => ∃ a,v = .int q a
  | none,v => ∃ s,v = .string s
def MobAt (G : Gh) (w : World) (r : Nat) (ks vs : List AV) : Prop :=
  ∃ es clock es' c,w.heap[r]? = some (.map es clock) ∧ es.toList.Perm es' ∧ Rows3 G ks vs es' ∧ (∀ e ∈ es',keyCls c e.key) ∧ es'.Pairwise fun a b => a.key ≠ b.key
def SpecAt (wb : Base) (G : Gh) (S : St) (w : World) (r : Nat) : AV → Prop
  | .bld s => BldAt wb G S w r s
  | .hob l o ts vs => r = l ∧ w.heap[l]? = some o ∧ notCells o = true ∧ HobF G o ts vs
  | .mob ks vs => MobAt G w r ks vs
  | .zob E => ∃ fz,w.heap[r]? = some (.cells #[] E fz)
  | .tup _ => True
  | _ => False
theorem SpecAt.to {wb : Base} {G G' : Gh} {S S' : St} {w w' : World} {r : Nat} {c : AV} (h : SpecAt wb G S w r c) (hle : G.le G') (hr : r < w.heap.size → w'.heap[r]? = w.heap[r]?) (hg : ∀ g,g < w.heap.size → wb.heap.size ≤ g → g ≠ r → Alone G S g → w'.heap[g]? = w.heap[g]? ∧ Alone G' S' g) : SpecAt wb G' S' w' r c := by
  cases c with
  | bld s => exact BldAt.to h hr hg
  | hob l o ts vs =>
    obtain ⟨rfl,h2,h3,h4⟩ := h
    refine ⟨rfl,?_,h3,h4.mono hle⟩
    rw [hr (by
      rcases Nat.lt_or_ge r w.heap.size with h' | h'
      · exact h'
      · simp [Array.getElem?_eq_none h'] at h2)]
    exact h2
  | mob ks vs =>
    obtain ⟨es,clock,es',c,h1,h2,h3,h4⟩ := h
    refine ⟨es,clock,es',c,?_,h2,h3.mono hle,h4⟩
    rw [hr (by
      rcases Nat.lt_or_ge r w.heap.size with h' | h'
      · exact h'
      · simp [Array.getElem?_eq_none h'] at h1)]
    exact h1
  | zob E =>
    obtain ⟨fz,h1⟩ := h
    refine ⟨fz,?_⟩
    rw [hr (by
      rcases Nat.lt_or_ge r w.heap.size with h' | h'
      · exact h'
      · simp [Array.getElem?_eq_none h'] at h1)]
    exact h1
  | tup _ => trivial
  | _ => exact h.elim
structure StRel (wb : Base) (G : Gh) (S : St) (w : World) : Prop where
  prom : ∀ r o v,G.φ r o = some v → w.cell? ⟨r,o,none⟩ = some v
  room : ∀ l cs r,S.get l = some cs → isBld cs = false → G.σ l = some r → cs.length ≤ G.κ l ∧ ∀ m,m < G.κ l → (∃ v,w.cell? ⟨r,m,none⟩ = some v) ∧ w.frozen? ⟨r,m,none⟩ = false
  apart : ∀ l cs r o,S.get l = some cs → isDead cs = false → G.σ l = some r → G.φ r o = none
  obj : ∀ l cs,S.get l = some cs → isBld cs = false → ∃ r,G.σ l = some r ∧ ∀ (m : Nat) (c : AV),cs[m]? = some c → ∃ v,w.cell? ⟨r,m,none⟩ = some v ∧ VRel G c v ∧ v.oneCell' = true ∧ w.frozen? ⟨r,m,none⟩ = false
  inj : ∀ l l' r cs cs',S.get l = some cs → S.get l' = some cs' → isDead cs = false → isDead cs' = false → G.σ l = some r → G.σ l' = some r → l = l'
  dom : ∀ l r,G.σ l = some r → l < S.n ∧ wb.heap.size ≤ r ∧ r < w.heap.size
  tok : ∀ t ∈ S.live,∃ r e z,G.τ t = some (r,e,z) ∧
    ∀ o,e ≤ o → o < z → wb.heap.size ≤ r ∧ (∀ l,G.σ l ≠ some r) ∧ (∃ v,w.cell? ⟨r,o,none⟩ = some v) ∧ w.frozen? ⟨r,o,none⟩ = false ∧ G.φ r o = none
  tdom : ∀ t x,G.τ t = some x → t < S.nt ∧ (x.2.1 < x.2.2 → x.1 < w.heap.size)
  tdis : ∀ t ∈ S.live,∀ t' ∈ S.live,t ≠ t' → ∀ r e z e' z',G.τ t = some (r,e,z) → G.τ t' = some (r,e',z') → ∀ o,e ≤ o → o < z → e' ≤ o → o < z' → False
  base : wb.heap.size ≤ w.heap.size ∧ ∀ r,r < wb.heap.size → w.heap[r]? = wb.heap[r]?
  pold : ∀ r o v,r < wb.heap.size → G.φ r o = some v → wb.φ r o = some v
  still : w.os = wb.os ∧ w.output = wb.output ∧ w.tape = wb.tape
  beta : G.β = wb.heap.size
  glob : ∀ g cs,S.gl.lookup g = some cs → ∀ (m : Nat) (c : AV),cs[m]? = some c → ∃ v,G.φ g m = some v ∧ VRel G c v ∧ v.oneCell' = true
  bld : ∀ l c,S.get l = some [c] → isBld [c] = true → ∃ r,G.σ l = some r ∧ SpecAt wb G S w r c
  bldu : ∀ l l' s s',S.get l = some [.bld s] → S.get l' = some [.bld s'] → l = l'
theorem StRel.good {wb : Base} {G : Gh} {S : St} {w : World} (h : StRel wb G S w) : tabOK w := by
  intro p hp
  obtain ⟨T,fz,e⟩ := wb.good p hp
  have hlt : p.1 < wb.heap.size := by
    rcases Nat.lt_or_ge p.1 wb.heap.size with h' | h'
    · exact h'
    · simp [Array.getElem?_eq_none h'] at e
  exact ⟨T,fz,by rw [h.base.2 p.1 hlt]; exact e⟩
end Go.V
namespace Go.V
open Go
def putCells (w : World) (r : Nat) : Nat → List Value → World
  | _,[] => w
  | o,v :: vs => putCells (w.setCell ⟨r,o,none⟩ v) r (o + 1) vs
theorem putCells_size (r : Nat) : ∀ (vs : List Value) (w : World) (o : Nat),(putCells w r o vs).heap.size = w.heap.size
  | [],_,_ => rfl
  | v :: vs,w,o => by rw [putCells,putCells_size r vs]; simp
theorem putCells_frozen (r : Nat) (a : Addr) : ∀ (vs : List Value) (w : World) (o : Nat),(putCells w r o vs).frozen? a = w.frozen? a
  | [],_,_ => rfl
  | v :: vs,w,o => by rw [putCells,putCells_frozen r a vs]; simp
theorem putCells_still (r : Nat) : ∀ (vs : List Value) (w : World) (o : Nat),(putCells w r o vs).os = w.os ∧ (putCells w r o vs).output = w.output ∧ (putCells w r o vs).tape = w.tape
  | [],_,_ => ⟨rfl,rfl,rfl⟩
  | v :: vs,w,o => by rw [putCells]; exact putCells_still r vs _ _
theorem setCell_heap_other (w : World) (a : Addr) (v : Value) (r : Nat) (h : r ≠ a.block) : (w.setCell a v).heap[r]? = w.heap[r]? := by
  simp [World.setCell,Array.getElem?_modify,Ne.symm h]
theorem putCells_heap_other (r r' : Nat) (h : r' ≠ r) : ∀ (vs : List Value) (w : World) (o : Nat),(putCells w r o vs).heap[r']? = w.heap[r']?
  | [],_,_ => rfl
  | v :: vs,w,o => by rw [putCells,putCells_heap_other r r' h vs,setCell_heap_other _ _ _ _ h]
theorem putCells_cell_other (r : Nat) (a : Addr) : ∀ (vs : List Value) (w : World) (o : Nat),(a.block = r → a.spot = none → ¬ (o ≤ a.off ∧ a.off < o + vs.length)) → (putCells w r o vs).cell? a = w.cell? a
  | [],_,_,_ => rfl
  | v :: vs,w,o,h => by
    rw [putCells,putCells_cell_other r a vs _ _ (fun h1 h2 h3 => h h1 h2 ⟨by omega,by simp; omega⟩)]
    refine World.cell?_setCell_other _ _ _ _ ?_
    intro e
    subst e
    exact h rfl rfl ⟨Nat.le_refl _,by simp⟩
theorem putCells_cell (r : Nat) : ∀ (vs : List Value) (w : World) (o : Nat),(∀ j,j < vs.length → ∃ v,w.cell? ⟨r,o + j,none⟩ = some v) → ∀ (j : Nat) (v : Value),vs[j]? = some v → (putCells w r o vs).cell? ⟨r,o + j,none⟩ = some v
  | [],_,_,_,_,_,h => by simp at h
  | u :: vs,w,o,hc,j,v,h => by
    rw [putCells]
    cases j with
    | zero =>
      simp at h
      subst h
      rw [putCells_cell_other r _ vs _ _ (by simp; omega)]
      obtain ⟨x,hx⟩ := hc 0 (by simp)
      exact World.cell?_setCell_same _ _ _ (by simpa using hx)
    | succ j =>
      have := putCells_cell r vs (w.setCell ⟨r,o,none⟩ u) (o + 1) (fun i hi => ?_) j v (by simpa using h)
      · rwa [show o + 1 + j = o + (j + 1) from by omega] at this
      · obtain ⟨x,hx⟩ := hc (i + 1) (by simp; omega)
        refine ⟨x,?_⟩
        rw [World.cell?_setCell_other _ _ _ _ (by intro e; injection e; omega)]
        rwa [show o + (i + 1) = o + 1 + i from by omega] at hx
theorem add_none (r o n : Nat) : (Addr.mk r o none).add n = ⟨r,o + n,none⟩ := by
  unfold Addr.add
  split
  · rename_i h; subst h; rfl
  · rfl
theorem run_storeCells {P : Program} (r o : Nat) : ∀ (vs : List Value) (w : World) (i : Nat),(∀ v ∈ vs,v.oneCell' = true) →
    (∀ j,j < vs.length → (∃ v,w.cell? ⟨r,o + i + j,none⟩ = some v) ∧ w.frozen? ⟨r,o + i + j,none⟩ = false) →
    (storeCells ⟨r,o,none⟩ vs i).run P w = .ok () (putCells w r (o + i) vs)
  | [],w,i,_,_ => by simp [storeCells,putCells]
  | v :: vs,w,i,ho,hc => by
    obtain ⟨⟨x,hx⟩,hf⟩ := hc 0 (by simp)
    have ih := run_storeCells (P := P) r o vs (w.setCell ⟨r,o + i,none⟩ v) (i + 1) (fun u hu => ho u (by simp [hu])) (fun j hj => by
      obtain ⟨⟨y,hy⟩,hg⟩ := hc (j + 1) (by simp; omega)
      rw [show o + (i + 1) + j = o + i + (j + 1) from by omega]
      refine ⟨⟨y,?_⟩,by simpa using hg⟩
      rw [World.cell?_setCell_other _ _ _ _ (by intro e; injection e; omega)]
      exact hy)
    simp only [storeCells,Sem.run_bind,add_none]
    rw [run_store P w _ v .plain (ho v (by simp))]
    simp only [Nat.add_zero] at hx hf
    simp only [hx,hf,Bool.false_eq_true,if_false,Result.andThen_ok,ih,putCells,Nat.add_assoc]
theorem VRel.notSpec {G : Gh} {s : AV} {v : Value} (h : VRel G s v) (ho : v.oneCell' = true) : isBld [s] = false := by
  cases h <;> first
    | rfl
    | cases ho
def At (w : World) (G : Gh) (r o : Nat) (cs : List AV) : Prop :=
  ∀ (m : Nat) (c : AV),cs[m]? = some c → ∃ v,w.cell? ⟨r,o + m,none⟩ = some v ∧ VRel G c v ∧ v.oneCell' = true
theorem At.choose {w : World} {G : Gh} {r : Nat} : ∀ {cs : List AV} {o : Nat},At w G r o cs → ∃ vs : List Value,CRel G cs vs ∧ ∀ (j : Nat) (v : Value),vs[j]? = some v → w.cell? ⟨r,o + j,none⟩ = some v
  | [],_,_ => ⟨[],.nil G,by simp⟩
  | c :: cs,o,h => by
    obtain ⟨v,h1,h2,h3⟩ := h 0 c rfl
    obtain ⟨vs,h4,h5⟩ := At.choose (cs := cs) (o := o + 1) (fun m c' hm => by
      have := h (m + 1) c' (by simpa using hm)
      rwa [show o + (m + 1) = o + 1 + m from by omega] at this)
    refine ⟨v :: vs,.cons h2 h3 h4,fun j u hj => ?_⟩
    cases j with
    | zero => simp at hj; subst hj; simpa using h1
    | succ j =>
      have := h5 j u (by simpa using hj)
      rwa [show o + 1 + j = o + (j + 1) from by omega] at this
theorem At.drop {w : World} {G : Gh} {r o : Nat} {cs : List AV} (h : At w G r o cs) (n : Nat) : At w G r (o + n) (cs.drop n) := by
  intro m c hm
  rw [List.getElem?_drop] at hm
  have := h (n + m) c hm
  rwa [← Nat.add_assoc] at this
theorem At.take {w : World} {G : Gh} {r o : Nat} {cs : List AV} (h : At w G r o cs) (n : Nat) : At w G r o (cs.take n) := by
  intro m c hm
  rw [List.getElem?_take] at hm
  split at hm
  · exact h m c hm
  · cases hm
theorem StRel.lt {wb : Base} {G : Gh} {S : St} {w : World} (h : StRel wb G S w) {r o : Nat} {v : Value} (e : G.φ r o = some v) : r < w.heap.size :=
  World.block_lt_of_cell? _ _ (h.prom r o v e)
def upd {α : Type} (f : Nat → α) (i : Nat) (x : α) : Nat → α := fun j => if j = i then x else f j
@[simp] theorem upd_same {α : Type} (f : Nat → α) (i : Nat) (x : α) : upd f i x i = x := by simp [upd]
theorem upd_ne {α : Type} (f : Nat → α) {i j : Nat} (x : α) (h : j ≠ i) : upd f i x j = f j := by simp [upd,h]
theorem alloc_heap_lt (w : World) (o : Obj) {r : Nat} (h : r < w.heap.size) : (w.alloc o).heap[r]? = w.heap[r]? := by
  show (w.heap.push o)[r]? = _
  simp [Array.getElem?_push,Nat.ne_of_lt h]
theorem StRel.drew {wb : Base} {G : Gh} {S : St} {w : World} (h : StRel wb G S w) : StRel wb G S w.drew :=
  { h with still := h.still }
theorem StRel.alloc {wb : Base} {G : Gh} {S : St} {w : World} (h : StRel wb G S w) (o : Obj) : StRel wb G S (w.alloc o) := by
  have hc : ∀ r i,r < w.heap.size → (w.alloc o).cell? ⟨r,i,none⟩ = w.cell? ⟨r,i,none⟩ := fun r i hr => World.cell?_alloc_lt _ _ _ hr
  have hf : ∀ r i,r < w.heap.size → (w.alloc o).frozen? ⟨r,i,none⟩ = w.frozen? ⟨r,i,none⟩ := fun r i hr => World.frozen?_alloc_old _ _ _ (Nat.ne_of_lt hr)
  refine { h with prom := ?_,obj := ?_,room := ?_,dom := ?_,tok := ?_,tdom := ?_,base := ?_,still := h.still,bld := ?_ }
  rotate_left
  · intro l cs r hl hnb hr
    obtain ⟨h1,h2⟩ := h.room l cs r hl hnb hr
    have hlt := (h.dom l r hr).2.2
    exact ⟨h1,fun m hm => by rw [hc _ _ hlt,hf _ _ hlt]; exact h2 m hm⟩
  rotate_right 2
  · intro l s hl hsp0
    obtain ⟨r,hr,hb⟩ := h.bld l s hl hsp0
    exact ⟨r,hr,hb.to (Gh.le_refl _) (fun hlt => alloc_heap_lt _ _ hlt) fun g hg _ _ ha => ⟨alloc_heap_lt _ _ hg,ha⟩⟩
  · intro r i v e; rw [hc _ _ (h.lt e)]; exact h.prom r i v e
  · intro l cs hl hnb
    obtain ⟨r,hr,hm⟩ := h.obj l cs hl hnb
    refine ⟨r,hr,fun m c hmc => ?_⟩
    obtain ⟨v,h1,h2,h3,h4⟩ := hm m c hmc
    have hlt := (h.dom l r hr).2.2
    exact ⟨v,by rw [hc _ _ hlt]; exact h1,h2,h3,by rw [hf _ _ hlt]; exact h4⟩
  · intro l r e
    have := h.dom l r e
    simp; omega
  · intro t ht
    obtain ⟨r,e,z,h1,h4⟩ := h.tok t ht
    refine ⟨r,e,z,h1,fun i h5 h6 => ?_⟩
    have hlt := (h.tdom t _ h1).2 (by show e < z; omega)
    rw [hc _ _ hlt,hf _ _ hlt]
    exact h4 i h5 h6
  · intro t x e
    have := h.tdom t x e
    exact ⟨this.1,fun h' => by have := this.2 h'; simp; omega⟩
  · refine ⟨by have := h.base.1; simp; omega,fun r hr => ?_⟩
    have := h.base.1
    rw [alloc_heap_lt _ _ (by omega)]
    exact h.base.2 r hr
theorem StRel.promise' {wb : Base} {G : Gh} {S : St} {w : World} (h : StRel wb G S w) {E : TypeId} {fr : Nat × Nat} {row vs : List Value} (hv : ∀ (j : Nat) (v : Value),vs[j]? = some v → row[j]? = some v) :
    ∃ G',G.le G' ∧ G'.σ = G.σ ∧ G'.τ = G.τ ∧ StRel wb G' S (w.alloc (.cells row.toArray E fr)) ∧ (∀ (j : Nat),G'.φ w.heap.size j = vs[j]?) ∧ ∀ r o,r ≠ w.heap.size → G'.φ r o = G.φ r o := by
  let G' : Gh := { G with φ := fun r o => if r = w.heap.size then vs[o]? else G.φ r o }
  have hle : G.le G' := by
    refine ⟨fun r o v e => ?_,fun _ _ e => e,fun _ _ e => e,rfl,fun _ _ _ => rfl⟩
    have : r ≠ w.heap.size := Nat.ne_of_lt (h.lt e)
    simp [G',this,e]
  have ha := h.alloc (.cells row.toArray E fr)
  have hcell : ∀ o,(w.alloc (.cells row.toArray E fr)).cell? ⟨w.heap.size,o,none⟩ = row[o]? := fun o => by simp [World.alloc,World.cell?,-World.alloc_eq]
  have hnew : ∀ l,G.σ l ≠ some w.heap.size := fun l e => by have := (h.dom l _ e).2.2; omega
  refine ⟨G',hle,rfl,rfl,?_,fun j => by simp [G'],fun r o hr => by simp [G',hr]⟩
  refine { ha with prom := ?_,apart := ?_,obj := ?_,tok := ?_,glob := ?_,pold := ?_,bld := ?_ }
  rotate_right
  · intro l s hl hsp0
    obtain ⟨r,hr,hb⟩ := h.bld l s hl hsp0
    refine ⟨r,hr,hb.to hle (fun hlt => alloc_heap_lt _ _ hlt) fun g hg _ _ hal => ⟨alloc_heap_lt _ _ hg,fun o => ?_,hal.2⟩⟩
    simp only [G',Nat.ne_of_lt hg,if_false]
    exact hal.1 o
  · intro r o v e
    by_cases hr : r = w.heap.size
    · subst hr
      simp only [G',if_true] at e
      rw [hcell]
      exact hv o v e
    · simp only [G',hr,if_false] at e
      exact ha.prom r o v e
  · intro l cs r o hl hd e
    have hr : r ≠ w.heap.size := fun e' => hnew l (e' ▸ e)
    simp only [G',hr,if_false]
    exact h.apart l cs r o hl hd e
  · intro l cs hl hnb
    obtain ⟨r,hr,hm⟩ := ha.obj l cs hl hnb
    exact ⟨r,hr,fun m c hmc => by obtain ⟨v,h1,h2,h3,h4⟩ := hm m c hmc; exact ⟨v,h1,h2.mono hle,h3,h4⟩⟩
  · intro t ht
    obtain ⟨r,e,z,h1,h4⟩ := ha.tok t ht
    refine ⟨r,e,z,h1,fun i h5 h6 => ?_⟩
    obtain ⟨h2,h3,h7,h8,h9⟩ := h4 i h5 h6
    have hr : r ≠ w.heap.size := Nat.ne_of_lt ((h.tdom t _ h1).2 (by show e < z; omega))
    exact ⟨h2,h3,h7,h8,by simp only [G',hr,if_false]; exact h9⟩
  · intro r o v hr e
    have hne : r ≠ w.heap.size := by have := h.base.1; omega
    simp only [G',hne,if_false] at e
    exact h.pold r o v hr e
  · intro g cs hg m c hmc
    obtain ⟨v,h1,h2,h3⟩ := h.glob g cs hg m c hmc
    exact ⟨v,hle.φ _ _ _ h1,h2.mono hle,h3⟩
theorem StRel.promise {wb : Base} {G : Gh} {S : St} {w : World} (h : StRel wb G S w) {E : TypeId} {fr : Nat × Nat} {row vs : List Value} (hv : ∀ (j : Nat) (v : Value),vs[j]? = some v → row[j]? = some v) :
    ∃ G',G.le G' ∧ G'.σ = G.σ ∧ G'.τ = G.τ ∧ StRel wb G' S (w.alloc (.cells row.toArray E fr)) ∧ (∀ (j : Nat),G'.φ w.heap.size j = vs[j]?) := by
  obtain ⟨G',h1,h2,h3,h4,h5,_⟩ := h.promise' (E := E) (fr := fr) hv
  exact ⟨G',h1,h2,h3,h4,h5⟩
theorem StRel.newObjR {wb : Base} {G : Gh} {S : St} {w : World} (h : StRel wb G S w) {E : TypeId} {cs : List AV} {vs rest : List Value} (hr : CRel G cs vs) :
    ∃ G',G.le G' ∧ G'.σ S.n = some w.heap.size ∧ G'.κ S.n = vs.length + rest.length ∧ StRel wb G' { S with n := S.n + 1,obj := (S.n,cs) :: S.obj } (w.alloc (.cells (vs ++ rest).toArray E)) := by
  have hnone : G.σ S.n = none := by
    cases e : G.σ S.n with
    | none => rfl
    | some r => have := (h.dom _ _ e).1; omega
  let G' : Gh := { G with σ := upd G.σ S.n (some w.heap.size),κ := upd G.κ S.n (vs.length + rest.length) }
  have hle : G.le G' := by
    refine ⟨fun _ _ _ e => e,fun l r e => ?_,fun _ _ e => e,rfl,fun l r e => ?_⟩ <;>
    · have : l ≠ S.n := fun e' => by rw [e',hnone] at e; cases e
      simp [G',upd,this,e]
  have ha := h.alloc (.cells (vs ++ rest).toArray E)
  have hφ : ∀ o,G.φ w.heap.size o = none := fun o => by
    cases e : G.φ w.heap.size o with
    | none => rfl
    | some v => have := h.lt e; omega
  refine ⟨G',hle,by simp [G'],by simp [G'],?_⟩
  refine { prom := ha.prom,room := ?_,apart := ?_,obj := ?_,inj := ?_,dom := ?_,tok := ?_,tdom := ha.tdom,tdis := ha.tdis,base := ha.base,still := ha.still,pold := ha.pold,beta := ha.beta,glob := ?_,bld := ?_,bldu := ?_ }
  rotate_right 2
  · intro l s hl hsp0
    simp only [St.get,List.lookup_cons] at hl
    by_cases hln : l = S.n
    · subst hln
      simp at hl
      subst hl
      obtain ⟨_,_,hx,ho⟩ := hr.get (m := 0) rfl
      rw [hx.notSpec ho] at hsp0
      cases hsp0
    · have hb : (l == S.n) = false := by simpa using hln
      rw [hb] at hl
      obtain ⟨r,hr',hb'⟩ := h.bld l s hl hsp0
      refine ⟨r,hle.σ _ _ hr',hb'.to hle (fun hlt => alloc_heap_lt _ _ hlt) fun g hg _ _ hal => ⟨alloc_heap_lt _ _ hg,hal.1,fun l' e => ?_,hal.2.2⟩⟩
      by_cases hl' : l' = S.n
      · subst hl'
        simp only [G',upd_same] at e
        injection e with e
        omega
      · simp only [G',upd,hl',if_false] at e
        exact hal.2.1 l' e
  · intro l l' s s' h1 h2
    have key : ∀ l s,List.lookup l ((S.n,cs) :: S.obj) = some [AV.bld s] → S.get l = some [.bld s] := by
      intro l s hl
      simp only [List.lookup_cons] at hl
      by_cases hln : l = S.n
      · subst hln
        simp at hl
        subst hl
        cases (hr.get (m := 0) rfl).choose_spec.2.1
      · have hb : (l == S.n) = false := by simpa using hln
        rw [hb] at hl
        exact hl
    exact h.bldu l l' s s' (key l s h1) (key l' s' h2)
  · intro l ds r hget hnb e
    by_cases hl : l = S.n
    · subst hl
      simp [G'] at e
      subst e
      simp [St.get] at hget
      subst hget
      refine ⟨by simp [G',hr.len],fun m hm => ?_⟩
      simp only [G',upd_same] at hm
      rw [World.cell?_alloc_new]
      have : m < (vs ++ rest).length := by simpa using hm
      exact ⟨⟨(vs ++ rest)[m],by simp⟩,by simp⟩
    · have hb : (l == S.n) = false := by simpa using hl
      simp only [St.get,List.lookup_cons,hb] at hget
      simp only [G',upd,hl,if_false] at e ⊢
      exact ha.room l ds r hget hnb e
  · intro l ds r o hget hd e
    by_cases hl : l = S.n
    · subst hl
      simp [G'] at e
      subst e
      exact hφ o
    · simp only [G',upd,hl,if_false] at e
      refine h.apart l ds r o ?_ hd e
      have hb : (l == S.n) = false := by simpa using hl
      simp only [St.get,List.lookup_cons,hb] at hget
      exact hget
  · intro l ds hl hnb
    simp only [St.get,List.lookup_cons] at hl
    by_cases hln : l = S.n
    · subst hln
      simp at hl
      subst hl
      refine ⟨w.heap.size,by simp [G'],fun m c hmc => ?_⟩
      obtain ⟨v,h1,h2,h3⟩ := hr.get hmc
      have hlt : m < vs.length := by
        rcases Nat.lt_or_ge m vs.length with h' | h'
        · exact h'
        · rw [List.getElem?_eq_none h'] at h1; cases h1
      exact ⟨v,by rw [World.cell?_alloc_new]; simpa [List.getElem?_append_left hlt] using h1,h2.mono hle,h3,by simp⟩
    · have hb : (l == S.n) = false := by simpa using hln
      rw [hb] at hl
      obtain ⟨r,hr',hm⟩ := ha.obj l ds hl hnb
      exact ⟨r,hle.σ _ _ hr',fun m c hmc => by obtain ⟨v,h1,h2,h3,h4⟩ := hm m c hmc; exact ⟨v,h1,h2.mono hle,h3,h4⟩⟩
  · intro l l' r cs1 cs2 g1 g2 d1 d2 e e'
    by_cases hl : l = S.n <;> by_cases hl' : l' = S.n
    · rw [hl,hl']
    · subst hl
      simp only [G',upd_same] at e
      simp only [G',upd,hl',if_false] at e'
      injection e with e
      have := (h.dom _ _ e').2.2
      omega
    · subst hl'
      simp only [G',upd_same] at e'
      simp only [G',upd,hl,if_false] at e
      injection e' with e'
      have := (h.dom _ _ e).2.2
      omega
    · simp only [G',upd,hl,hl',if_false] at e e'
      have hb : (l == S.n) = false := by simpa using hl
      have hb' : (l' == S.n) = false := by simpa using hl'
      simp only [St.get,List.lookup_cons,hb,hb'] at g1 g2
      exact h.inj l l' r cs1 cs2 g1 g2 d1 d2 e e'
  · intro l r e
    by_cases hl : l = S.n
    · subst hl
      simp only [G',upd_same] at e
      injection e with e
      have := h.base.1
      simp; omega
    · simp only [G',upd,hl,if_false] at e
      have := h.dom l r e
      simp; omega
  · intro t ht
    obtain ⟨r,e,z,h1,h4⟩ := ha.tok t ht
    refine ⟨r,e,z,h1,fun i h5 h6 => ?_⟩
    obtain ⟨h2,h3,h7⟩ := h4 i h5 h6
    refine ⟨h2,fun l e' => ?_,h7⟩
    by_cases hl : l = S.n
    · subst hl
      simp only [G',upd_same] at e'
      injection e' with e'
      have := (h.tdom t _ h1).2 (by show e < z; omega)
      simp at this
      omega
    · simp only [G',upd,hl,if_false] at e'
      exact h3 l e'
  · intro g cs' hg m c hmc
    obtain ⟨v,h1,h2,h3⟩ := h.glob g cs' hg m c hmc
    exact ⟨v,h1,h2.mono hle,h3⟩
theorem StRel.newObj {wb : Base} {G : Gh} {S : St} {w : World} (h : StRel wb G S w) {E : TypeId} {cs : List AV} {vs : List Value} (hr : CRel G cs vs) :
    ∃ G',G.le G' ∧ G'.σ S.n = some w.heap.size ∧ StRel wb G' { S with n := S.n + 1,obj := (S.n,cs) :: S.obj } (w.alloc (.cells vs.toArray E)) := by
  obtain ⟨G',h1,h2,_,h3⟩ := h.newObjR (E := E) (rest := []) hr
  rw [List.append_nil] at h3
  exact ⟨G',h1,h2,h3⟩
def splice (cs : List AV) (o : Nat) (ds : List AV) : List AV := cs.take o ++ ds ++ cs.drop (o + ds.length)
theorem splice_get {cs ds : List AV} {o : Nat} (h : o + ds.length ≤ cs.length) (m : Nat) : (splice cs o ds)[m]? = if o ≤ m ∧ m < o + ds.length then ds[m - o]? else cs[m]? := by
  unfold splice
  by_cases h1 : m < o
  · rw [List.append_assoc,List.getElem?_append_left (by simp; omega),List.getElem?_take,if_pos h1,if_neg (by omega)]
  · by_cases h2 : m < o + ds.length
    · rw [if_pos ⟨by omega,h2⟩,List.getElem?_append_left (by simp; omega),List.getElem?_append_right (by simp; omega)]
      congr 1
      simp; omega
    · rw [if_neg (by omega),List.getElem?_append_right (by simp; omega),List.getElem?_drop]
      congr 1
      simp; omega
def St.set (S : St) (l : Nat) (cs : List AV) : St := { S with obj := (l,cs) :: S.obj }
theorem StRel.store {wb : Base} {G : Gh} {S : St} {w : World} (h : StRel wb G S w) {l r o : Nat} {cs ds : List AV} {vs : List Value} (hl : S.get l = some cs) (hr : G.σ l = some r)
    (hd : CRel G ds vs) (ho : o + ds.length ≤ cs.length) (hnb0 : isBld cs = false) : StRel wb G (S.set l (splice cs o ds)) (putCells w r o vs) := by
  obtain ⟨r',hr',hm⟩ := h.obj l cs hl hnb0
  have hsp : ∀ s,isBld [s] = true → splice cs o ds ≠ [s] := by
    intro s hsp0 e
    have h0 : (splice cs o ds)[0]? = some s := by rw [e]; rfl
    rw [splice_get ho] at h0
    split at h0
    · obtain ⟨_,_,hx,ho⟩ := hd.get h0
      rw [hx.notSpec ho] at hsp0
      cases hsp0
    · have hlen1 : cs.length = 1 := by
        have := congrArg List.length e
        simp [splice] at this
        omega
      cases cs with
      | nil => simp at h0
      | cons c cs =>
        have : cs = [] := List.eq_nil_of_length_eq_zero (by simpa using hlen1)
        subst this
        simp at h0
        subst h0
        rw [hnb0] at hsp0
        cases hsp0
  obtain rfl : r = r' := by rw [hr] at hr'; exact Option.some.inj hr'
  have hlen := hd.len
  have hcell : ∀ j,j < vs.length → ∃ v,w.cell? ⟨r,o + j,none⟩ = some v := fun j hj => by
    obtain ⟨v,h1,_⟩ := hm (o + j) (cs[o + j]'(by omega)) (by simp)
    exact ⟨v,h1⟩
  have hoth : ∀ r' i,r' ≠ r → (putCells w r o vs).cell? ⟨r',i,none⟩ = w.cell? ⟨r',i,none⟩ := fun r' i hne => putCells_cell_other r _ vs w o (fun e => absurd e hne)
  have hbase := (h.dom l r hr).2.1
  have hlive : isDead cs = false := isDead_of_isBld hnb0
  have hput : ∀ i,(∃ v,w.cell? ⟨r,i,none⟩ = some v) → ∃ v,(putCells w r o vs).cell? ⟨r,i,none⟩ = some v := fun i ⟨v,e⟩ => by
    by_cases hin : o ≤ i ∧ i < o + vs.length
    · have := putCells_cell r vs w o hcell (i - o) (vs[i - o]'(by omega)) (by simp)
      rw [show o + (i - o) = i from by omega] at this
      exact ⟨_,this⟩
    · exact ⟨v,by rw [putCells_cell_other r _ vs w o (fun _ _ => hin)]; exact e⟩
  have hlv : ∀ l' cs',(S.set l (splice cs o ds)).get l' = some cs' → isDead cs' = false → ∃ cs'',S.get l' = some cs'' ∧ isDead cs'' = false := fun l' cs' hg hd' => by
    simp only [St.get,St.set,List.lookup_cons] at hg
    by_cases hll : l' = l
    · subst hll
      exact ⟨cs,hl,hlive⟩
    · have hb : (l' == l) = false := by simpa using hll
      rw [hb] at hg
      exact ⟨cs',hg,hd'⟩
  refine { prom := ?_,room := ?_,apart := ?_,obj := ?_,inj := fun l1 l2 r' c1 c2 g1 g2 d1 d2 => by
             obtain ⟨_,q1,q2⟩ := hlv l1 c1 g1 d1
             obtain ⟨_,q3,q4⟩ := hlv l2 c2 g2 d2
             exact h.inj l1 l2 r' _ _ q1 q3 q2 q4,dom := ?_,tok := ?_,tdom := ?_,tdis := h.tdis,base := ?_,still := ?_,pold := h.pold,beta := h.beta,glob := h.glob,bld := ?_,bldu := ?_ }
  rotate_left
  · intro l' ds' r' hget hnb' e
    simp only [St.get,St.set,List.lookup_cons] at hget
    by_cases hll : l' = l
    · subst hll
      simp at hget
      subst hget
      rw [hr] at e
      cases e
      obtain ⟨q1,q2⟩ := h.room l' cs r hl hnb0 hr
      refine ⟨by simp [splice]; omega,fun m hm' => ⟨hput m (q2 m hm').1,by rw [putCells_frozen]; exact (q2 m hm').2⟩⟩
    · have hb : (l' == l) = false := by simpa using hll
      rw [hb] at hget
      obtain ⟨q1,q2⟩ := h.room l' ds' r' hget hnb' e
      have hne : r' ≠ r := fun e' => hll (h.inj _ _ _ _ _ hget hl (isDead_of_isBld hnb') hlive (e' ▸ e) hr)
      exact ⟨q1,fun m hm' => by rw [hoth _ _ hne,putCells_frozen]; exact q2 m hm'⟩
  rotate_right
  rotate_right 2
  · intro l' s hget hsp0
    simp only [St.get,St.set,List.lookup_cons] at hget
    by_cases hll : l' = l
    · subst hll
      simp at hget
      exact (hsp s hsp0 hget).elim
    · have hb : (l' == l) = false := by simpa using hll
      rw [hb] at hget
      obtain ⟨rb,hrb,hbb⟩ := h.bld l' s hget hsp0
      cases hds : isDead [s] with
      | true =>
        unfold isDead at hds
        split at hds
        · rename_i e
          injection e with e
          subst e
          exact ⟨rb,hrb,trivial⟩
        · cases hds
      | false =>
      refine ⟨rb,hrb,hbb.to (Gh.le_refl _) (fun _ => putCells_heap_other _ _ (fun e => hll (h.inj _ _ _ _ _ hget hl hds hlive (by rw [hrb,e]) hr)) _ _ _) fun g hg _ _ hal => ⟨putCells_heap_other _ _ (fun e => hal.2.1 l (by rw [hr,e])) _ _ _,hal⟩⟩
  · intro l1 l2 s1 s2 h1 h2
    have key : ∀ l' s,(S.set l (splice cs o ds)).get l' = some [AV.bld s] → S.get l' = some [.bld s] := by
      intro l' s hget
      simp only [St.get,St.set,List.lookup_cons] at hget
      by_cases hll : l' = l
      · subst hll
        simp at hget
        exact (hsp _ rfl hget).elim
      · have hb : (l' == l) = false := by simpa using hll
        rw [hb] at hget
        exact hget
    exact h.bldu l1 l2 s1 s2 (key _ _ h1) (key _ _ h2)
  rotate_left
  · intro l' ds r' o' hget hd' e
    by_cases hll : l' = l
    · subst hll
      exact h.apart l' cs r' o' hl hlive e
    · refine h.apart l' ds r' o' ?_ hd' e
      have hb : (l' == l) = false := by simpa using hll
      simp only [St.get,St.set,List.lookup_cons,hb] at hget
      exact hget
  rotate_right
  · intro r' i v e
    have hne : r' ≠ r := fun e' => by subst e'; rw [h.apart l cs r' i hl hlive hr] at e; cases e
    rw [hoth _ _ hne]
    exact h.prom _ _ _ e
  · intro l' cs' hl' hnb'
    simp only [St.get,St.set,List.lookup_cons] at hl'
    by_cases e : l' = l
    · subst e
      simp at hl'
      subst hl'
      refine ⟨r,hr,fun m c hmc => ?_⟩
      rw [splice_get ho] at hmc
      rw [putCells_frozen]
      split at hmc
      · rename_i hin
        obtain ⟨v,h1,h2,h3⟩ := hd.get hmc
        refine ⟨v,?_,h2,h3,?_⟩
        · have := putCells_cell r vs w o hcell (m - o) v h1
          rwa [show o + (m - o) = m from by omega] at this
        · obtain ⟨_,_,_,_,h4⟩ := hm m (cs[m]'(by omega)) (by simp)
          exact h4
      · rename_i hout
        obtain ⟨v,h1,h2,h3,h4⟩ := hm m c hmc
        exact ⟨v,by rw [putCells_cell_other r _ vs w o (fun _ _ => by simpa [← hlen] using hout)]; exact h1,h2,h3,h4⟩
    · have hb : (l' == l) = false := by simpa using e
      rw [hb] at hl'
      obtain ⟨r',hr',hm'⟩ := h.obj l' cs' hl' hnb'
      have hne : r' ≠ r := fun e' => e (h.inj _ _ _ _ _ hl' hl (isDead_of_isBld hnb') hlive (e' ▸ hr') hr)
      refine ⟨r',hr',fun m c hmc => ?_⟩
      obtain ⟨v,h1,h2,h3,h4⟩ := hm' m c hmc
      exact ⟨v,by rw [hoth _ _ hne]; exact h1,h2,h3,by rw [putCells_frozen]; exact h4⟩
  · intro l' r' e
    rw [putCells_size]
    exact h.dom l' r' e
  · intro t ht
    obtain ⟨r',e,z,h1,h4⟩ := h.tok t ht
    refine ⟨r',e,z,h1,fun i h5 h6 => ?_⟩
    have hne : r' ≠ r := fun e' => (h4 i h5 h6).2.1 l (e' ▸ hr)
    rw [hoth _ _ hne,putCells_frozen]
    exact h4 i h5 h6
  · intro t x e
    rw [putCells_size]
    exact h.tdom t x e
  · rw [putCells_size]
    refine ⟨h.base.1,fun r' hr' => ?_⟩
    rw [putCells_heap_other _ _ (by omega)]
    exact h.base.2 r' hr'
  · obtain ⟨e1,e2,e3⟩ := putCells_still r vs w o
    rw [e1,e2,e3]
    exact h.still
def deadC : List AV := [.tup []]
theorem StRel.regrow {wb : Base} {G : Gh} {S : St} {w : World} (h : StRel wb G S w) {l r m : Nat} {cs ds : List AV} {vs : List Value} (hl : S.get l = some cs) (hr : G.σ l = some r)
    (hd : CRel G ds vs) (hm0 : m ≤ cs.length) (hz : m + ds.length ≤ G.κ l) (hnb0 : isBld cs = false) :
    ∃ G',G.le G' ∧ G'.σ S.n = some r ∧ G'.κ S.n = G.κ l ∧ StRel wb G' { S with n := S.n + 1,obj := (S.n,cs.take m ++ ds) :: (l,deadC) :: S.obj } (putCells w r m vs) := by
  obtain ⟨r',hr',hm⟩ := h.obj l cs hl hnb0
  obtain rfl : r = r' := by rw [hr] at hr'; exact Option.some.inj hr'
  obtain ⟨k1,k2⟩ := h.room l cs r hl hnb0 hr
  have hlen := hd.len
  have hdom := h.dom l r hr
  have hnone : G.σ S.n = none := by
    cases e : G.σ S.n with
    | none => rfl
    | some r => have := (h.dom _ _ e).1; omega
  let G' : Gh := { G with σ := upd G.σ S.n (some r),κ := upd G.κ S.n (G.κ l) }
  have hle : G.le G' := by
    refine ⟨fun _ _ _ e => e,fun l r e => ?_,fun _ _ e => e,rfl,fun l r e => ?_⟩ <;>
    · have : l ≠ S.n := fun e' => by rw [e',hnone] at e; cases e
      simp [G',upd,this,e]
  have hlive : isDead cs = false := isDead_of_isBld hnb0
  have hcell : ∀ j,j < vs.length → ∃ v,w.cell? ⟨r,m + j,none⟩ = some v := fun j hj => (k2 (m + j) (by omega)).1
  have hoth : ∀ r' i,r' ≠ r → (putCells w r m vs).cell? ⟨r',i,none⟩ = w.cell? ⟨r',i,none⟩ := fun r' i hne => putCells_cell_other r _ vs w m (fun e => absurd e hne)
  have hput : ∀ i,(∃ v,w.cell? ⟨r,i,none⟩ = some v) → ∃ v,(putCells w r m vs).cell? ⟨r,i,none⟩ = some v := fun i ⟨v,e⟩ => by
    by_cases hin : m ≤ i ∧ i < m + vs.length
    · have := putCells_cell r vs w m hcell (i - m) (vs[i - m]'(by omega)) (by simp)
      rw [show m + (i - m) = i from by omega] at this
      exact ⟨_,this⟩
    · exact ⟨v,by rw [putCells_cell_other r _ vs w m (fun _ _ => hin)]; exact e⟩
  have hnew : ∀ (i : Nat) (c : AV),(cs.take m ++ ds)[i]? = some c → ∃ v,(putCells w r m vs).cell? ⟨r,i,none⟩ = some v ∧ VRel G c v ∧ v.oneCell' = true ∧ (putCells w r m vs).frozen? ⟨r,i,none⟩ = false := fun i c hi => by
    rw [putCells_frozen]
    rcases Nat.lt_or_ge i m with him | him
    · rw [List.getElem?_append_left (by simp; omega),List.getElem?_take,if_pos him] at hi
      obtain ⟨v,h1,h2,h3,h4⟩ := hm i c hi
      exact ⟨v,by rw [putCells_cell_other r _ vs w m (fun _ _ => by simp; omega)]; exact h1,h2,h3,h4⟩
    · rw [List.getElem?_append_right (by simp; omega)] at hi
      have e1 : i - (cs.take m).length = i - m := by simp; omega
      rw [e1] at hi
      obtain ⟨v,h1,h2,h3⟩ := hd.get hi
      have := putCells_cell r vs w m hcell (i - m) v h1
      rw [show m + (i - m) = i from by omega] at this
      have hilt : i - m < ds.length := by
        rcases Nat.lt_or_ge (i - m) ds.length with h' | h'
        · exact h'
        · rw [List.getElem?_eq_none h'] at hi; cases hi
      exact ⟨v,this,h2,h3,(k2 i (by omega)).2⟩
  have hsp : ∀ s,isBld [s] = true → cs.take m ++ ds ≠ [s] := by
    intro s hsp0 e
    obtain ⟨v,_,hx,ho,_⟩ := hnew 0 s (by rw [e]; rfl)
    rw [hx.notSpec ho] at hsp0
    cases hsp0
  have hget : ∀ l' cs',List.lookup l' ((S.n,cs.take m ++ ds) :: (l,deadC) :: S.obj) = some cs' → (l' = S.n ∧ cs' = cs.take m ++ ds) ∨ (l' ≠ S.n ∧ l' = l ∧ cs' = deadC) ∨ (l' ≠ S.n ∧ l' ≠ l ∧ S.get l' = some cs') := fun l' cs' e => by
    rw [List.lookup_cons] at e
    by_cases h1 : l' = S.n
    · subst h1
      simp at e
      exact .inl ⟨rfl,e.symm⟩
    · have hb : (l' == S.n) = false := by simpa using h1
      rw [hb] at e
      rw [List.lookup_cons] at e
      by_cases h2 : l' = l
      · subst h2
        simp at e
        exact .inr (.inl ⟨h1,rfl,e.symm⟩)
      · have hb : (l' == l) = false := by simpa using h2
        rw [hb] at e
        exact .inr (.inr ⟨h1,h2,e⟩)
  have hσ' : ∀ l',l' ≠ S.n → G'.σ l' = G.σ l' := fun l' e => by simp [G',upd,e]
  have hκ' : ∀ l',l' ≠ S.n → G'.κ l' = G.κ l' := fun l' e => by simp [G',upd,e]
  have hne : ∀ l' cs' r',S.get l' = some cs' → l' ≠ l → isDead cs' = false → G.σ l' = some r' → r' ≠ r := fun l' cs' r' g1 g2 g3 g4 e => g2 (h.inj l' l r' cs' cs g1 hl g3 hlive g4 (e ▸ hr))
  refine ⟨G',hle,by simp [G'],by simp [G'],?_⟩
  refine { prom := ?_,room := ?_,apart := ?_,obj := ?_,inj := ?_,dom := ?_,tok := ?_,tdom := ?_,tdis := h.tdis,base := ?_,still := ?_,pold := h.pold,beta := h.beta,glob := ?_,bld := ?_,bldu := ?_ }
  · intro r' i v e
    have hne : r' ≠ r := fun e' => by subst e'; rw [h.apart l cs r' i hl hlive hr] at e; cases e
    rw [hoth _ _ hne]
    exact h.prom _ _ _ e
  · intro l' cs' r' g1 g2 g3
    rcases hget l' cs' g1 with ⟨rfl,rfl⟩ | ⟨_,rfl,rfl⟩ | ⟨q1,q2,q3⟩
    · simp only [G',upd_same] at g3 ⊢
      cases g3
      refine ⟨by simp; omega,fun i hi => ⟨hput i (k2 i hi).1,by rw [putCells_frozen]; exact (k2 i hi).2⟩⟩
    · cases g2
    · rw [hσ' _ q1] at g3
      rw [hκ' _ q1]
      obtain ⟨q4,q5⟩ := h.room l' cs' r' q3 g2 g3
      exact ⟨q4,fun i hi => by rw [hoth _ _ (hne _ _ _ q3 q2 (isDead_of_isBld g2) g3),putCells_frozen]; exact q5 i hi⟩
  · intro l' cs' r' o g1 g2 g3
    rcases hget l' cs' g1 with ⟨rfl,rfl⟩ | ⟨_,rfl,rfl⟩ | ⟨q1,q2,q3⟩
    · simp only [G',upd_same] at g3
      cases g3
      exact h.apart l cs r o hl hlive hr
    · cases g2
    · rw [hσ' _ q1] at g3
      exact h.apart l' cs' r' o q3 g2 g3
  · intro l' cs' g1 g2
    rcases hget l' cs' g1 with ⟨rfl,rfl⟩ | ⟨_,rfl,rfl⟩ | ⟨q1,q2,q3⟩
    · refine ⟨r,by simp [G'],fun i c hi => ?_⟩
      obtain ⟨v,h1,h2,h3,h4⟩ := hnew i c hi
      exact ⟨v,h1,h2.mono hle,h3,h4⟩
    · cases g2
    · obtain ⟨r',hr',hm'⟩ := h.obj l' cs' q3 g2
      refine ⟨r',hle.σ _ _ hr',fun i c hi => ?_⟩
      obtain ⟨v,h1,h2,h3,h4⟩ := hm' i c hi
      exact ⟨v,by rw [hoth _ _ (hne _ _ _ q3 q2 (isDead_of_isBld g2) hr')]; exact h1,h2.mono hle,h3,by rw [putCells_frozen]; exact h4⟩
  · intro l1 l2 r' c1 c2 g1 g2 d1 d2 e1 e2
    rcases hget l1 c1 g1 with ⟨rfl,rfl⟩ | ⟨_,rfl,rfl⟩ | ⟨q1,q2,q3⟩
    · rcases hget l2 c2 g2 with ⟨rfl,rfl⟩ | ⟨_,rfl,rfl⟩ | ⟨p1,p2,p3⟩
      · rfl
      · cases d2
      · simp only [G',upd_same] at e1
        cases e1
        rw [hσ' _ p1] at e2
        exact (hne _ _ _ p3 p2 d2 e2 rfl).elim
    · cases d1
    · rcases hget l2 c2 g2 with ⟨rfl,rfl⟩ | ⟨_,rfl,rfl⟩ | ⟨p1,p2,p3⟩
      · simp only [G',upd_same] at e2
        cases e2
        rw [hσ' _ q1] at e1
        exact (hne _ _ _ q3 q2 d1 e1 rfl).elim
      · cases d2
      · rw [hσ' _ q1] at e1
        rw [hσ' _ p1] at e2
        exact h.inj l1 l2 r' c1 c2 q3 p3 d1 d2 e1 e2
  · intro l' r' e
    rw [putCells_size]
    by_cases h1 : l' = S.n
    · subst h1
      simp only [G',upd_same] at e
      cases e
      exact ⟨by simp,hdom.2⟩
    · rw [hσ' _ h1] at e
      have := h.dom l' r' e
      exact ⟨by simp; omega,this.2⟩
  · intro t ht
    obtain ⟨r',e,z,h1,h4⟩ := h.tok t ht
    refine ⟨r',e,z,h1,fun i h5 h6 => ?_⟩
    obtain ⟨q1,q2,q3,q4,q5⟩ := h4 i h5 h6
    have hne : r' ≠ r := fun e' => q2 l (e' ▸ hr)
    refine ⟨q1,fun l' e' => ?_,by rw [hoth _ _ hne]; exact q3,by rw [putCells_frozen]; exact q4,q5⟩
    by_cases h1 : l' = S.n
    · subst h1
      simp only [G',upd_same] at e'
      injection e' with e'
      exact hne e'.symm
    · rw [hσ' _ h1] at e'
      exact q2 l' e'
  · intro t x e
    rw [putCells_size]
    exact h.tdom t x e
  · rw [putCells_size]
    refine ⟨h.base.1,fun r' hr' => ?_⟩
    rw [putCells_heap_other _ _ (by omega)]
    exact h.base.2 r' hr'
  · obtain ⟨e1,e2,e3⟩ := putCells_still r vs w m
    rw [e1,e2,e3]
    exact h.still
  · intro g cs' hg i c hi
    obtain ⟨v,a,b,d⟩ := h.glob g cs' hg i c hi
    exact ⟨v,hle.φ _ _ _ a,b.mono hle,d⟩
  · intro l' s hg hsp0
    rcases hget l' [s] hg with ⟨rfl,e⟩ | ⟨q1,rfl,e⟩ | ⟨q1,q2,q3⟩
    · exact (hsp s hsp0 e.symm).elim
    · injection e with e
      subst e
      exact ⟨r,by rw [hσ' _ q1]; exact hr,trivial⟩
    · obtain ⟨rb,hrb,hbb⟩ := h.bld l' s q3 hsp0
      refine ⟨rb,hle.σ _ _ hrb,?_⟩
      cases hds : isDead [s] with
      | true =>
        unfold isDead at hds
        split at hds
        · rename_i e
          injection e with e
          subst e
          exact trivial
        · cases hds
      | false =>
        refine hbb.to hle (fun _ => putCells_heap_other _ _ (hne _ _ _ q3 q2 hds hrb) _ _ _) fun g hg' _ _ hal => ?_
        have hgr : g ≠ r := fun e => hal.2.1 l (by rw [hr,e])
        refine ⟨putCells_heap_other _ _ hgr _ _ _,hal.1,fun l'' e => ?_,hal.2.2⟩
        by_cases h1 : l'' = S.n
        · subst h1
          simp only [G',upd_same] at e
          injection e with e
          exact hgr e.symm
        · rw [hσ' _ h1] at e
          exact hal.2.1 l'' e
  · intro l1 l2 s1 s2 g1 g2
    have key : ∀ l' s,List.lookup l' ((S.n,cs.take m ++ ds) :: (l,deadC) :: S.obj) = some [AV.bld s] → S.get l' = some [.bld s] := fun l' s g => by
      rcases hget l' _ g with ⟨rfl,e⟩ | ⟨_,_,e⟩ | ⟨_,_,q3⟩
      · exact (hsp _ rfl e.symm).elim
      · injection e with e
        cases e
      · exact q3
    exact h.bldu l1 l2 s1 s2 (key _ _ g1) (key _ _ g2)
theorem StRel.rowTok {wb : Base} {G : Gh} {S : St} {w : World} (h : StRel wb G S w) {E : TypeId} {vs rest : List Value} :
    ∃ G',G.le G' ∧ G'.σ = G.σ ∧ G'.τ S.nt = some (w.heap.size,vs.length,vs.length + rest.length) ∧ (∀ (j : Nat),G'.φ w.heap.size j = vs[j]?) ∧
      StRel wb G' { S with nt := S.nt + 1,live := S.nt :: S.live } (w.alloc (.cells (vs ++ rest).toArray E)) := by
  obtain ⟨G1,hle,hs,ht,h1,hφ,hφo⟩ := h.promise' (E := E) (row := vs ++ rest) (vs := vs) (fun j v e => by
    rw [List.getElem?_append_left (by
      rcases Nat.lt_or_ge j vs.length with h' | h'
      · exact h'
      · rw [List.getElem?_eq_none h'] at e; cases e)]
    exact e)
  have hnone : G.τ S.nt = none := by
    cases e : G.τ S.nt with
    | none => rfl
    | some x => have := (h.tdom _ _ e).1; omega
  let G' : Gh := { G1 with τ := upd G1.τ S.nt (some (w.heap.size,vs.length,vs.length + rest.length)) }
  have hle' : G1.le G' := by
    refine ⟨fun _ _ _ e => e,fun _ _ e => e,fun t x e => ?_,rfl,fun _ _ _ => rfl⟩
    have : t ≠ S.nt := fun e' => by rw [e',ht,hnone] at e; cases e
    simp [G',upd,this,e]
  have hold : ∀ t,t ∈ S.live → t ≠ S.nt := fun t hm e => by
    obtain ⟨r,a,z,h5,_⟩ := h.tok t hm
    rw [e,hnone] at h5
    cases h5
  have hG' : ∀ t,t ≠ S.nt → G'.τ t = G.τ t := fun t hne => by simp [G',upd,hne,ht]
  refine ⟨G',Gh.le_trans hle hle',by simp [G',hs],by simp [G'],by simpa [G'] using hφ,?_⟩
  refine { prom := h1.prom,room := h1.room,apart := h1.apart,obj := ?_,inj := h1.inj,dom := h1.dom,tok := ?_,tdom := ?_,tdis := ?_,base := h1.base,still := h1.still,pold := h1.pold,beta := h1.beta,glob := ?_,bld := ?_,bldu := h1.bldu }
  rotate_right
  · intro l s hl hsp0
    obtain ⟨r,hr,hb⟩ := h.bld l s hl hsp0
    refine ⟨r,by rw [show G'.σ = G1.σ from rfl,hs]; exact hr,hb.to (Gh.le_trans hle hle') (fun hlt => alloc_heap_lt _ _ hlt) fun g hg _ _ hal => ⟨alloc_heap_lt _ _ hg,fun o => ?_,fun l' e => ?_,fun t hm e z et => ?_⟩⟩
    · show G1.φ g o = none
      rw [hφo g o (Nat.ne_of_lt hg)]
      exact hal.1 o
    · rw [show G'.σ = G1.σ from rfl,hs] at e
      exact hal.2.1 l' e
    · by_cases hts : t = S.nt
      · subst hts
        simp [G'] at et
        omega
      · rw [hG' t hts] at et
        have hm' : t ∈ S.live := by rcases List.mem_cons.1 hm with e1 | e1; exact absurd e1 hts; exact e1
        exact hal.2.2 t hm' e z et
  · intro l cs hl hnb
    obtain ⟨r,hr,hm⟩ := h1.obj l cs hl hnb
    exact ⟨r,hr,fun m c hmc => by obtain ⟨v,a,b,c',d⟩ := hm m c hmc; exact ⟨v,a,b.mono hle',c',d⟩⟩
  · intro t hm
    by_cases e : t = S.nt
    · subst e
      refine ⟨w.heap.size,vs.length,vs.length + rest.length,by simp [G'],fun o h5 h6 => ⟨h.base.1,fun l e' => ?_,?_⟩⟩
      · have e2 : G.σ l = some w.heap.size := by rw [← hs]; exact e'
        have := (h.dom _ _ e2).2.2
        omega
      · refine ⟨?_,by simp,?_⟩
        · rw [World.cell?_alloc_new]
          have : o < (vs ++ rest).length := by simp; omega
          exact ⟨(vs ++ rest)[o],by simp⟩
        · show G1.φ w.heap.size o = none
          rw [hφ,List.getElem?_eq_none h5]
    · have hm' : t ∈ S.live := by
        rcases List.mem_cons.1 hm with e' | e'
        · exact absurd e' e
        · exact e'
      obtain ⟨r,a,z,h5,h6⟩ := h1.tok t hm'
      exact ⟨r,a,z,hle'.τ _ _ h5,h6⟩
  · intro t x e
    by_cases e' : t = S.nt
    · subst e'
      simp [G'] at e
      subst e
      simp
    · rw [hG' t e'] at e
      have := h.tdom t x e
      exact ⟨by simp; omega,fun h' => by have := this.2 h'; simp; omega⟩
  · intro t hm t' hm' hne r a z a' z' e e' o h5 h6 h7 h8
    by_cases et : t = S.nt <;> by_cases et' : t' = S.nt
    · exact hne (et.trans et'.symm)
    · subst et
      simp [G'] at e
      rw [hG' t' et'] at e'
      have := (h.tdom _ _ e').2 (by show a' < z'; omega)
      omega
    · subst et'
      simp [G'] at e'
      rw [hG' t et] at e
      have := (h.tdom _ _ e).2 (by show a < z; omega)
      omega
    · have m1 : t ∈ S.live := by rcases List.mem_cons.1 hm with e1 | e1; exact absurd e1 et; exact e1
      have m2 : t' ∈ S.live := by rcases List.mem_cons.1 hm' with e1 | e1; exact absurd e1 et'; exact e1
      rw [hG' t et] at e
      rw [hG' t' et'] at e'
      exact h.tdis t m1 t' m2 hne r a z a' z' e e' o h5 h6 h7 h8
  · intro g cs hg m c hmc
    obtain ⟨v,a,b,d⟩ := h1.glob g cs hg m c hmc
    exact ⟨v,a,b.mono hle',d⟩
theorem StRel.extend {wb : Base} {G : Gh} {S : St} {w : World} (h : StRel wb G S w) {t r e z : Nat} (ht : t ∈ S.live) (hτ : G.τ t = some (r,e,z)) {vs : List Value}
    (hz : e + vs.length ≤ z) :
    ∃ G',G.le G' ∧ G'.σ = G.σ ∧ G'.τ S.nt = some (r,e + vs.length,z) ∧ (∀ (j : Nat) (v : Value),vs[j]? = some v → G'.φ r (e + j) = some v) ∧
      StRel wb G' { S with nt := S.nt + 1,live := S.nt :: S.live.filter (· != t) } (putCells w r e vs) := by
  obtain ⟨r0,e0,z0,h0,hc'⟩ := h.tok t ht
  obtain ⟨rfl,rfl,rfl⟩ : r = r0 ∧ e = e0 ∧ z = z0 := by rw [hτ] at h0; simpa using h0
  have hc : ∀ o,e ≤ o → o < z → (∃ v,w.cell? ⟨r,o,none⟩ = some v) ∧ w.frozen? ⟨r,o,none⟩ = false ∧ G.φ r o = none := fun o h1 h2 => (hc' o h1 h2).2.2
  have hσ : e < z → ∀ l,G.σ l ≠ some r := fun h1 => (hc' e (Nat.le_refl _) h1).2.1
  have hb : e < z → wb.heap.size ≤ r := fun h1 => (hc' e (Nat.le_refl _) h1).1
  have hnone : G.τ S.nt = none := by
    cases e' : G.τ S.nt with
    | none => rfl
    | some x => have := (h.tdom _ _ e').1; omega
  let G' : Gh := { G with φ := fun r' o => if r' = r ∧ e ≤ o ∧ o < e + vs.length then vs[o - e]? else G.φ r' o,τ := upd G.τ S.nt (some (r,e + vs.length,z)) }
  have hle : G.le G' := by
    refine ⟨fun r' o v e' => ?_,fun _ _ e' => e',fun t' x e' => ?_,rfl,fun _ _ _ => rfl⟩
    · have : ¬ (r' = r ∧ e ≤ o ∧ o < e + vs.length) := fun ⟨h1,h2,h3⟩ => by
        subst h1
        rw [(hc o h2 (by omega)).2.2] at e'
        cases e'
      simp only [G',this,if_false]
      exact e'
    · have : t' ≠ S.nt := fun e2 => by rw [e2,hnone] at e'; cases e'
      simp [G',upd,this,e']
  have hcell : ∀ j,j < vs.length → ∃ v,w.cell? ⟨r,e + j,none⟩ = some v := fun j hj => (hc (e + j) (by omega) (by omega)).1
  have hoth : ∀ r' o,¬ (r' = r ∧ e ≤ o ∧ o < e + vs.length) → (putCells w r e vs).cell? ⟨r',o,none⟩ = w.cell? ⟨r',o,none⟩ := fun r' o hne =>
    putCells_cell_other r _ vs w e (fun h1 _ h3 => hne ⟨h1,h3.1,h3.2⟩)
  have hG' : ∀ t',t' ≠ S.nt → G'.τ t' = G.τ t' := fun t' hne => by simp [G',upd,hne]
  have hmem : ∀ t',t' ∈ S.live.filter (· != t) → t' ∈ S.live ∧ t' ≠ t := fun t' hm => by simpa using hm
  refine ⟨G',hle,rfl,by simp [G'],?_,?_⟩
  · intro j v hj
    have hjl : j < vs.length := by
      rcases Nat.lt_or_ge j vs.length with h' | h'
      · exact h'
      · rw [List.getElem?_eq_none h'] at hj; cases hj
    have : r = r ∧ e ≤ e + j ∧ e + j < e + vs.length := ⟨rfl,by omega,by omega⟩
    simp only [G',this]
    simpa using hj
  refine { prom := ?_,room := fun l cs r' hl hnb e' => by
             obtain ⟨q1,q2⟩ := h.room l cs r' hl hnb e'
             exact ⟨q1,fun m hm => by rw [hoth _ _ (fun ⟨e2,e3,e4⟩ => hσ (by omega) l (e2 ▸ e')),putCells_frozen]; exact q2 m hm⟩,apart := ?_,obj := ?_,inj := h.inj,dom := ?_,tok := ?_,tdom := ?_,tdis := ?_,base := ?_,still := ?_,pold := ?_,beta := h.beta,glob := ?_,bld := ?_,bldu := h.bldu }
  rotate_right
  · intro l s hl hsp0
    obtain ⟨rb,hrb,hbb⟩ := h.bld l s hl hsp0
    have hput : ∀ g,(e < z → g ≠ r) → (putCells w r e vs).heap[g]? = w.heap[g]? := fun g hgr => by
      cases vs with
      | nil => rfl
      | cons v vs => exact putCells_heap_other _ _ (hgr (by simp at hz; omega)) _ _ _
    refine ⟨rb,hrb,hbb.to hle (fun _ => hput rb fun hez e1 => hσ hez l (e1 ▸ hrb)) fun g hg _ _ hal => ?_⟩
    have hgr : e < z → g ≠ r := fun hez e1 => by
      subst e1
      have := hal.2.2 t ht e z hτ
      omega
    refine ⟨hput g hgr,fun o => ?_,hal.2.1,fun t' hm' e' z' et => ?_⟩
    · show (if g = r ∧ e ≤ o ∧ o < e + vs.length then vs[o - e]? else G.φ g o) = none
      rw [if_neg (fun ⟨e1,e2,e3⟩ => hgr (by omega) e1)]
      exact hal.1 o
    · by_cases hts : t' = S.nt
      · subst hts
        simp [G'] at et
        obtain ⟨e1,e2,e3⟩ := et
        subst e1
        have := hal.2.2 t ht e z hτ
        omega
      · rw [hG' t' hts] at et
        have hm2 : t' ∈ S.live.filter (· != t) := by rcases List.mem_cons.1 hm' with e1 | e1; exact absurd e1 hts; exact e1
        exact hal.2.2 t' (hmem t' hm2).1 e' z' et
  · intro r' o v e'
    simp only [G'] at e'
    split at e'
    · rename_i hin
      obtain ⟨h1,h2,h3⟩ := hin
      subst h1
      have := putCells_cell r' vs w e hcell (o - e) v e'
      rwa [show e + (o - e) = o from by omega] at this
    · rename_i hout
      rw [hoth _ _ hout]
      exact h.prom _ _ _ e'
  · intro l cs r' o hl hd e'
    show (if r' = r ∧ e ≤ o ∧ o < e + vs.length then vs[o - e]? else G.φ r' o) = none
    rw [if_neg (fun ⟨e2,e3,e4⟩ => hσ (by omega) l (e2 ▸ e'))]
    exact h.apart l cs r' o hl hd e'
  · intro l cs hl hnb
    obtain ⟨r',hr,hm⟩ := h.obj l cs hl hnb
    refine ⟨r',hr,fun m c hmc => ?_⟩
    obtain ⟨v,h1,h2,h3,h4⟩ := hm m c hmc
    exact ⟨v,by rw [hoth _ _ (fun ⟨e2,e3,e4⟩ => hσ (by omega) l (e2 ▸ hr))]; exact h1,h2.mono hle,h3,by rw [putCells_frozen]; exact h4⟩
  · intro l r' e'
    rw [putCells_size]
    exact h.dom l r' e'
  · intro t' hm
    by_cases et : t' = S.nt
    · subst et
      refine ⟨r,e + vs.length,z,by simp [G'],fun o h5 h6 => ?_⟩
      obtain ⟨h7,h8,h9⟩ := hc o (by omega) h6
      have hout : ¬ (r = r ∧ e ≤ o ∧ o < e + vs.length) := by omega
      refine ⟨hb (by omega),hσ (by omega),?_,by rw [putCells_frozen]; exact h8,?_⟩
      · rw [hoth _ _ hout]; exact h7
      · show (if r = r ∧ e ≤ o ∧ o < e + vs.length then vs[o - e]? else G.φ r o) = none
        rw [if_neg hout]; exact h9
    · have hm' : t' ∈ S.live.filter (· != t) := by rcases List.mem_cons.1 hm with e1 | e1; exact absurd e1 et; exact e1
      obtain ⟨m1,m2⟩ := hmem t' hm'
      obtain ⟨r',a,z',h5,h8⟩ := h.tok t' m1
      refine ⟨r',a,z',hle.τ _ _ h5,fun o h9 h10 => ?_⟩
      obtain ⟨h6,h7,h11,h12,h13⟩ := h8 o h9 h10
      have hout : ¬ (r' = r ∧ e ≤ o ∧ o < e + vs.length) := fun ⟨q1,q2,q3⟩ => by
        subst q1
        exact h.tdis t ht t' m1 (Ne.symm m2) r' e z a z' hτ h5 o q2 (by omega) h9 h10
      refine ⟨h6,h7,by rw [hoth _ _ hout]; exact h11,by rw [putCells_frozen]; exact h12,?_⟩
      show (if r' = r ∧ e ≤ o ∧ o < e + vs.length then vs[o - e]? else G.φ r' o) = none
      rw [if_neg hout]
      exact h13
  · intro t' x e'
    rw [putCells_size]
    by_cases et : t' = S.nt
    · subst et
      simp [G'] at e'
      subst e'
      have := (h.tdom t _ hτ).2
      exact ⟨by simp,fun h' => this (by simp at h'; show e < z; omega)⟩
    · rw [hG' t' et] at e'
      have := h.tdom t' x e'
      exact ⟨by simp; omega,this.2⟩
  · intro t1 hm t2 hm' hne r' a y a' y' e1 e2 o h5 h6 h7 h8
    have key : ∀ t',t' ∈ S.live.filter (· != t) → ∀ a y,G.τ t' = some (r,a,y) → ∀ o,e + vs.length ≤ o → o < z → a ≤ o → o < y → False := fun t' hm a y e' o q1 q2 q3 q4 => by
      obtain ⟨m1,m2⟩ := hmem t' hm
      exact h.tdis t ht t' m1 (Ne.symm m2) r e z a y hτ e' o (by omega) q2 q3 q4
    by_cases et1 : t1 = S.nt <;> by_cases et2 : t2 = S.nt
    · exact hne (et1.trans et2.symm)
    · subst et1
      have m2 : t2 ∈ S.live.filter (· != t) := by rcases List.mem_cons.1 hm' with e3 | e3; exact absurd e3 et2; exact e3
      simp [G'] at e1
      obtain ⟨rfl,rfl,rfl⟩ := e1
      rw [hG' t2 et2] at e2
      exact key t2 m2 _ _ e2 o h5 h6 h7 h8
    · subst et2
      have m1 : t1 ∈ S.live.filter (· != t) := by rcases List.mem_cons.1 hm with e3 | e3; exact absurd e3 et1; exact e3
      simp [G'] at e2
      obtain ⟨rfl,rfl,rfl⟩ := e2
      rw [hG' t1 et1] at e1
      exact key t1 m1 _ _ e1 o h7 h8 h5 h6
    · have m1 : t1 ∈ S.live.filter (· != t) := by rcases List.mem_cons.1 hm with e3 | e3; exact absurd e3 et1; exact e3
      have m2 : t2 ∈ S.live.filter (· != t) := by rcases List.mem_cons.1 hm' with e3 | e3; exact absurd e3 et2; exact e3
      rw [hG' t1 et1] at e1
      rw [hG' t2 et2] at e2
      exact h.tdis t1 (hmem _ m1).1 t2 (hmem _ m2).1 hne r' a y a' y' e1 e2 o h5 h6 h7 h8
  · rw [putCells_size]
    refine ⟨h.base.1,fun r' hr' => ?_⟩
    cases vs with
    | nil => exact h.base.2 r' hr'
    | cons v vs =>
      have := hb (by simp at hz; omega)
      rw [putCells_heap_other _ _ (by omega)]
      exact h.base.2 r' hr'
  · intro r' o v hr' e'
    have hout : ¬ (r' = r ∧ e ≤ o ∧ o < e + vs.length) := fun ⟨q1,q2,q3⟩ => by
      have := hb (by omega)
      omega
    have e2 : (if r' = r ∧ e ≤ o ∧ o < e + vs.length then vs[o - e]? else G.φ r' o) = some v := e'
    rw [if_neg hout] at e2
    exact h.pold r' o v hr' e2
  · obtain ⟨e1,e2,e3⟩ := putCells_still r vs w e
    rw [e1,e2,e3]
    exact h.still
  · intro g cs hg m c hmc
    obtain ⟨v,a,b,d⟩ := h.glob g cs hg m c hmc
    exact ⟨v,hle.φ _ _ _ a,b.mono hle,d⟩
theorem StRel.emptyTok {wb : Base} {G : Gh} {S : St} {w : World} (h : StRel wb G S w) (r e : Nat) :
    ∃ G',G.le G' ∧ G'.τ S.nt = some (r,e,e) ∧ StRel wb G' { S with nt := S.nt + 1,live := S.nt :: S.live } w := by
  have hnone : G.τ S.nt = none := by
    cases e' : G.τ S.nt with
    | none => rfl
    | some x => have := (h.tdom _ _ e').1; omega
  let G' : Gh := { G with τ := upd G.τ S.nt (some (r,e,e)) }
  have hle : G.le G' := by
    refine ⟨fun _ _ _ e' => e',fun _ _ e' => e',fun t x e' => ?_,rfl,fun _ _ _ => rfl⟩
    have : t ≠ S.nt := fun e2 => by rw [e2,hnone] at e'; cases e'
    simp [G',upd,this,e']
  have hG' : ∀ t',t' ≠ S.nt → G'.τ t' = G.τ t' := fun t' hne => by simp [G',upd,hne]
  refine ⟨G',hle,by simp [G'],?_⟩
  refine { prom := h.prom,room := h.room,apart := h.apart,obj := ?_,inj := h.inj,dom := h.dom,tok := ?_,tdom := ?_,tdis := ?_,base := h.base,still := h.still,pold := h.pold,beta := h.beta,glob := ?_,bld := ?_,bldu := h.bldu }
  rotate_right
  · intro l s hl hsp0
    obtain ⟨rb,hrb,hbb⟩ := h.bld l s hl hsp0
    refine ⟨rb,hrb,hbb.to hle (fun _ => rfl) fun g hg _ _ hal => ⟨rfl,hal.1,hal.2.1,fun t' hm' e' z' et => ?_⟩⟩
    by_cases hts : t' = S.nt
    · subst hts
      simp [G'] at et
      omega
    · rw [hG' t' hts] at et
      have hm2 : t' ∈ S.live := by rcases List.mem_cons.1 hm' with e1 | e1; exact absurd e1 hts; exact e1
      exact hal.2.2 t' hm2 e' z' et
  · intro l cs hl hnb
    obtain ⟨r,hr,hm⟩ := h.obj l cs hl hnb
    exact ⟨r,hr,fun m c hmc => by obtain ⟨v,a,b,c',d⟩ := hm m c hmc; exact ⟨v,a,b.mono hle,c',d⟩⟩
  · intro t hm
    by_cases et : t = S.nt
    · subst et
      exact ⟨r,e,e,by simp [G'],fun o h1 h2 => by omega⟩
    · have hm' : t ∈ S.live := by rcases List.mem_cons.1 hm with e1 | e1; exact absurd e1 et; exact e1
      obtain ⟨r',a,z',h5,h8⟩ := h.tok t hm'
      exact ⟨r',a,z',hle.τ _ _ h5,h8⟩
  · intro t x e'
    by_cases et : t = S.nt
    · subst et
      simp [G'] at e'
      subst e'
      simp
    · rw [hG' t et] at e'
      have := h.tdom t x e'
      exact ⟨by simp; omega,this.2⟩
  · intro t hm t' hm' hne r1 a z a' z' e1 e2 o h5 h6 h7 h8
    by_cases et : t = S.nt <;> by_cases et' : t' = S.nt
    · exact hne (et.trans et'.symm)
    · subst et
      simp [G'] at e1
      omega
    · subst et'
      simp [G'] at e2
      omega
    · have m1 : t ∈ S.live := by rcases List.mem_cons.1 hm with e3 | e3; exact absurd e3 et; exact e3
      have m2 : t' ∈ S.live := by rcases List.mem_cons.1 hm' with e3 | e3; exact absurd e3 et'; exact e3
      rw [hG' t et] at e1
      rw [hG' t' et'] at e2
      exact h.tdis t m1 t' m2 hne r1 a z a' z' e1 e2 o h5 h6 h7 h8
  · intro g cs hg m c hmc
    obtain ⟨v,a,b,d⟩ := h.glob g cs hg m c hmc
    exact ⟨v,a,b.mono hle,d⟩
structure St.le (S' S : St) : Prop where
  n : S'.n = S.n
  nt : S'.nt = S.nt
  gl : S'.gl = S.gl
  obj : ∀ l cs,S.get l = some cs → S'.get l = some cs
  live : ∀ t ∈ S.live,t ∈ S'.live
theorem StRel.weak {wb : Base} {G : Gh} {S S' : St} {w : World} (h : StRel wb G S' w) (hle : S'.le S) : StRel wb G S w := by
  have e1 := hle.n
  have e2 := hle.nt
  have e3 := hle.gl
  refine { prom := h.prom,room := fun l cs r hl => h.room l cs r (hle.obj l cs hl),apart := fun l cs r o hl hd e => h.apart l cs r o (hle.obj l cs hl) hd e,beta := h.beta,bld := ?_,bldu := fun l l' s s' h1 h2 => h.bldu l l' s s' (hle.obj _ _ h1) (hle.obj _ _ h2),obj := fun l cs hl => h.obj l cs (hle.obj l cs hl),inj := fun l l' r c c' g g' => h.inj l l' r c c' (hle.obj _ _ g) (hle.obj _ _ g'),dom := fun l r e => by rw [← e1]; exact h.dom l r e,tok := fun t ht => h.tok t (hle.live t ht),tdom := fun t x e => by rw [← e2]; exact h.tdom t x e,tdis := fun t ht t' ht' => h.tdis t (hle.live t ht) t' (hle.live t' ht'),base := h.base,still := h.still,pold := h.pold,glob := fun g cs hg => h.glob g cs (by rw [e3]; exact hg) }
  intro l s hl hsp0
  obtain ⟨r,hr,hb⟩ := h.bld l s (hle.obj _ _ hl) hsp0
  exact ⟨r,hr,hb.to (Gh.le_refl _) (fun _ => rfl) fun g hg _ _ hal => ⟨rfl,hal.1,hal.2.1,fun t ht => hal.2.2 t (hle.live t ht)⟩⟩
end Go.V
namespace Go.V
open Go
abbrev Fr := List (Nat × AV)
def Fr.get (F : Fr) (t : Nat) : AV := (F.lookup t).getD .junk
@[simp] theorem Fr.get_cons (F : Fr) (t u : Nat) (v : AV) : Fr.get ((u,v) :: F) t = if t = u then v else Fr.get F t := by
  simp only [Fr.get,List.lookup_cons]
  by_cases h : t = u
  · subst h; simp
  · have : (t == u) = false := by simpa using h
    simp [this,h]
structure FRel (G : Gh) (F : Fr) (a : Act) : Prop where
  rel : ∀ t v,F.lookup t = some v → t < a.tmps.size ∧ VRel G v (a.tmps.getD t undef)
theorem FRel.mono {G G' : Gh} (h : G.le G') {F : Fr} {a : Act} (hf : FRel G F a) : FRel G' F a :=
  ⟨fun t v e => ⟨(hf.rel t v e).1,(hf.rel t v e).2.mono h⟩⟩
theorem FRel.get {G : Gh} {F : Fr} {a : Act} (h : FRel G F a) (t : Nat) : VRel G (F.get t) (a.tmps.getD t undef) := by
  unfold Fr.get
  cases e : F.lookup t with
  | none => exact .junk _
  | some v => exact (h.rel t v e).2
inductive Opd where
  | t (n : Nat)
  | c (v : AV)
  | g (n : Nat)
  | f (n : Nat)
  | mth (x : Nat) (rows : List (Nat × Nat))
def mthF (v : AV) : Option Nat → AV
  | some f => .fn (.func f) [v] []
  | none => .junk
def mthEv (rows : List (Nat × Nat)) : AV → AV
  | .ifc t v => mthF v (rows.lookup t)
  | _ => .junk
theorem mthEv_ifc (rows : List (Nat × Nat)) (t : TypeId) (v : AV) : mthEv rows (.ifc t v) = mthF v (rows.lookup t) := rfl
theorem mthF_some (v : AV) (f : Nat) : mthF v (some f) = .fn (.func f) [v] [] := rfl
def Opd.ev (F : Fr) : Opd → AV
  | .t n => F.get n
  | .c v => v
  | .g n => .gp n 0
  | .f n => .fn (.func n) [] []
  | .mth x rows => mthEv rows (F.get x)
def constFits : AV → Value → Bool
  | .bool a,.bool b => a == b
  | .int k n,.int k' m => k == k' && n == m
  | .str s,.string b => s == b.data.toList
  | .nilp,.pointer none => true
  | .sl _ [] .exact,.slice none 0 0 => true
  | .nilf,.nilFunc => true
  | .nili,.nilIface => true
  | .tup [],.tuple vs => vs.isEmpty
  | _,_ => false
theorem constFits_rel {G : Gh} {a : AV} {v : Value} (h : constFits a v = true) : VRel G a v := by
  unfold constFits at h
  split at h
  · simp at h; subst h; exact .bool _
  · simp at h; obtain ⟨rfl,rfl⟩ := h; exact .int _ _
  · rename_i s b
    simp at h
    subst h
    have := VRel.str (G := G) b.data.toList
    simpa using this
  · exact .nilp
  · exact .slnil _ _ _
  · exact .nilf
  · exact .nili
  · rename_i vs
    have : vs = #[] := by simpa using h
    subst this
    exact .tup (vs := []) rfl (by simp)
  · cases h
def Opd.fits : Opd → Operand → Bool
  | .t n,.tmp m => n == m
  | .c v,.const x => constFits v x
  | .g n,.global m => n == m
  | .f n,.func m => n == m
  | _,_ => false
theorem Opd.rel {G : Gh} {F : Fr} {a : Act} (h : FRel G F a) {x : Opd} {o : Operand} (hf : x.fits o = true) : VRel G (x.ev F) (a.eval o) := by
  unfold Opd.fits at hf
  split at hf
  · simp at hf; subst hf; exact h.get _
  · exact constFits_rel hf
  · simp at hf; subst hf; exact .gp _ _
  · simp at hf; subst hf; exact .fn (vs := []) (ws := []) _ rfl rfl (by simp) (by simp)
  · cases hf
def optFits : Option Opd → Option Operand → Bool
  | none,none => true
  | some x,some o => x.fits o
  | _,_ => false
def listFits : List Opd → List Operand → Bool
  | [],[] => true
  | x :: xs,o :: os => x.fits o && listFits xs os
  | _,_ => false
theorem listFits_rel {G : Gh} {F : Fr} {a : Act} (h : FRel G F a) : ∀ {xs : List Opd} {os : List Operand},listFits xs os = true →
    (xs.map (Opd.ev F)).length = (os.map a.eval).length ∧ ∀ (m : Nat) (c : AV) (v : Value),(xs.map (Opd.ev F))[m]? = some c → (os.map a.eval)[m]? = some v → VRel G c v
  | [],[],_ => ⟨rfl,by simp⟩
  | [],_ :: _,hf => by cases hf
  | _ :: _,[],hf => by cases hf
  | x :: xs,o :: os,hf => by
    simp only [listFits,Bool.and_eq_true] at hf
    obtain ⟨h1,h2⟩ := listFits_rel h hf.2
    refine ⟨by simpa using h1,fun m c v hc hv => ?_⟩
    cases m with
    | zero => simp at hc hv; subst hc hv; exact Opd.rel h hf.1
    | succ m => exact h2 m c v (by simpa using hc) (by simpa using hv)
def isAggB (P : Program) (t : TypeId) : Bool :=
  match P.underlying t with
  | some (.struct _) | some (.array _ _) => true
  | _ => false
def sizeIs (P : Program) (t : TypeId) (n : Nat) : Bool :=
  match P.info? t with
  | some i => i.size == n
  | none => false
def known (P : Program) (t : TypeId) : Bool := (P.underlying t).isSome
theorem run_und {P : Program} {t : TypeId} {d : TypeDesc} (h : P.underlying t = some d) (w : World) : (underlying t).run P w = .ok d w := by
  simp [underlying,h]
theorem run_isAggB {P : Program} {t : TypeId} (h : known P t = true) (w : World) : (isAgg t).run P w = .ok (isAggB P t) w := by
  unfold known at h
  cases e : P.underlying t with
  | none => rw [e] at h; cases h
  | some d =>
    simp only [isAgg,Sem.run_bind,run_und e,Result.andThen_ok,isAggB,e]
    cases d <;> rfl
theorem run_sizeIs {P : Program} {t : TypeId} {n : Nat} (h : sizeIs P t n = true) (w : World) : (sizeOf t).run P w = .ok n w := by
  unfold sizeIs at h
  cases e : P.info? t with
  | none => rw [e] at h; cases h
  | some i =>
    rw [e] at h
    simp at h
    simp [Go.sizeOf,typeInfo,e,h]
def SemOK (P : Program) (wb : Base) (G : Gh) (x : Sem Value) (w : World) (r : AV) (S' : St) : Prop :=
  ∃ v w' G',x.run P w = .ok v w' ∧ G.le G' ∧ StRel wb G' S' w' ∧ VRel G' r v
theorem SemOK.same {P : Program} {wb : Base} {G : Gh} {x : Sem Value} {w : World} {r : AV} {S : St} {v : Value} (h : StRel wb G S w) (hx : x.run P w = .ok v w) (hv : VRel G r v) : SemOK P wb G x w r S :=
  ⟨v,w,G,hx,Gh.le_refl G,h,hv⟩
theorem At.of_obj {wb : Base} {G : Gh} {S : St} {w : World} (h : StRel wb G S w) {l r : Nat} {cs : List AV} (hl : S.get l = some cs) (hr : G.σ l = some r) (hnb : isBld cs = false) : At w G r 0 cs := by
  obtain ⟨r',hr',hm⟩ := h.obj l cs hl hnb
  obtain rfl : r = r' := by rw [hr] at hr'; exact Option.some.inj hr'
  intro m c hmc
  obtain ⟨v,h1,h2,h3,_⟩ := hm m c hmc
  exact ⟨v,by rwa [Nat.zero_add],h2,h3⟩
theorem At.of_row {wb : Base} {G : Gh} {S : St} {w : World} (h : StRel wb G S w) {xs : List AV} {r b : Nat} {f : Nat → Value}
    (hp : ∀ (m : Nat) (c : AV),(flat xs)[m]? = some c → G.φ r (b + m) = some (f m))
    (ho : ∀ (m : Nat) (c : AV),(flat xs)[m]? = some c → (f m).oneCell' = true)
    (hv : ∀ (m : Nat) (c : AV),(flat xs)[m]? = some c → VRel G c (f m)) : At w G r b (flat xs) :=
  fun m c hmc => ⟨f m,h.prom _ _ _ (hp m c hmc),hv m c hmc,ho m c hmc⟩
theorem At.of_glob {wb : Base} {G : Gh} {S : St} {w : World} (h : StRel wb G S w) {g : Nat} {cs : List AV} (hg : S.gl.lookup g = some cs) : At w G g 0 cs := by
  intro m c hmc
  obtain ⟨v,h1,h2,h3⟩ := h.glob g cs hg m c hmc
  exact ⟨v,by rw [Nat.zero_add]; exact h.prom _ _ _ h1,h2,h3⟩
theorem isBld_nil : isBld [] = false := rfl
theorem isBld_two (a b : AV) (l : List AV) : isBld (a :: b :: l) = false := by cases a <;> rfl
theorem isBld_bool (b : Bool) : isBld [.bool b] = false := rfl
theorem isBld_int (k : IntKind) (n : Int) : isBld [.int k n] = false := rfl
theorem isBld_str (s : List UInt8) : isBld [.str s] = false := rfl
theorem isBld_nilp : isBld [.nilp] = false := rfl
theorem isBld_ptr (l o : Nat) : isBld [.ptr l o] = false := rfl
theorem isBld_gp (l o : Nat) : isBld [.gp l o] = false := rfl
theorem isBld_eptr (k : Nat) (xs : List AV) (l o : Nat) : isBld [.eptr k xs l o] = false := rfl
theorem isBld_sl (k : Nat) (xs : List AV) (t : STok) : isBld [.sl k xs t] = false := rfl
theorem isBld_mp (l : Nat) : isBld [.mp l] = false := rfl
theorem isBld_nilm : isBld [.nilm] = false := rfl
theorem isBld_mob (ks vs : List AV) : isBld [.mob ks vs] = true := rfl
theorem isBld_tup (vs : List AV) : isBld [.tup vs] = true := rfl
theorem isBld_fn (f : Fn) (a c : List AV) : isBld [.fn f a c] = false := rfl
theorem isBld_nilf : isBld [.nilf] = false := rfl
theorem isBld_ifc (t : TypeId) (v : AV) : isBld [.ifc t v] = false := rfl
theorem isBld_nili : isBld [.nili] = false := rfl
theorem isBld_agg (cs : List AV) : isBld [.agg cs] = false := rfl
theorem isBld_bld (s : List UInt8) : isBld [.bld s] = true := rfl
def AV.there (S : St) : AV → Option (List AV)
  | .ptr l o => (S.get l).bind fun cs => if isBld cs then none else some (cs.drop o)
  | .gp g o => (S.gl.lookup g).map (·.drop o)
  | .eptr _ xs i off => (xs[i]?).map (·.cells.drop off)
  | _ => none
theorem there_at {wb : Base} {G : Gh} {S : St} {w : World} (h : StRel wb G S w) {p : AV} {cs : List AV} {v : Value} (hp : p.there S = some cs) (hv : VRel G p v) :
    ∃ r o,v = .pointer (some ⟨r,o,none⟩) ∧ At w G r o cs := by
  cases hv with
  | ptr e =>
    simp only [AV.there,Option.bind_eq_some_iff] at hp
    obtain ⟨ds,h1,hp⟩ := hp
    split at hp
    · cases hp
    · rename_i hnb
      injection hp with hp
      subst hp
      rename_i l o r
      exact ⟨r,o,rfl,by simpa using (At.of_obj h h1 e (by simpa using hnb)).drop o⟩
  | gp g o =>
    simp only [AV.there,Option.map_eq_some_iff] at hp
    obtain ⟨ds,h1,rfl⟩ := hp
    exact ⟨g,o,rfl,by simpa using (At.of_glob h h1).drop o⟩
  | eptr f hk hf ho hv' =>
    rename_i k xs i off r b
    simp only [AV.there,Option.map_eq_some_iff] at hp
    obtain ⟨x,h1,rfl⟩ := hp
    refine ⟨r,_,rfl,?_⟩
    intro m c hmc
    rw [List.getElem?_drop] at hmc
    have hx : x ∈ xs := List.mem_of_getElem? h1
    have hlen := hk x hx
    have hlt : off + m < k := by
      rcases Nat.lt_or_ge (off + m) k with h' | h'
      · exact h'
      · rw [List.getElem?_eq_none (by omega)] at hmc; cases hmc
    have h2 : (flat xs)[i * k + (off + m)]? = some c := by rw [flat_get hk hlt,h1]; simpa using hmc
    refine ⟨f (i * k + (off + m)),?_,hv' _ c h2,ho _ c h2⟩
    have := h.prom _ _ _ (hf _ c h2)
    rwa [show b + (i * k + (off + m)) = b + i * k + off + m from by omega] at this
  | _ => cases hp
def pickCells (n : Nat) (ag : Bool) (cs : List AV) : Option AV :=
  if ag then (if n ≤ cs.length then some (.agg (cs.take n)) else none) else cs[0]?
theorem run_load_at {P : Program} {w : World} {G : Gh} {r o : Nat} {cs : List AV} (h : At w G r o cs) {t : TypeId} {n : Nat} {ag : Bool} (hk : known P t = true) (ha : isAggB P t = ag) (hs : sizeIs P t n = true)
    {x : AV} (hx : pickCells n ag cs = some x) : ∃ v,(Instr.loadAt t (.pointer (some ⟨r,o,none⟩))).run P w = .ok v w ∧ VRel G x v := by
  simp only [Instr.loadAt,Instr.sureAddr,loadVar,Sem.run_bind,Sem.run_pure,Result.andThen_ok,run_isAggB hk,ha]
  cases ag with
  | true =>
    simp only [pickCells,if_true] at hx
    split at hx
    · rename_i hn
      injection hx with hx
      subst hx
      obtain ⟨vs,h1,h2⟩ := (h.take n).choose
      have hl : n = vs.length := by rw [← h1.len]; simp; omega
      refine ⟨.agg vs.toArray,?_,.agg h1.len h1.one h1.rel⟩
      simp only [if_true,Sem.run_bind,run_sizeIs hs,Result.andThen_ok]
      rw [hl,run_loadCells_list w ⟨r,o,none⟩ vs (fun j v e => by rw [add_none]; exact h2 j v e)]
      simp
    · cases hx
  | false =>
    simp only [pickCells,Bool.false_eq_true,if_false] at hx
    obtain ⟨v,h1,h2,_⟩ := h 0 x hx
    refine ⟨v,?_,h2⟩
    simp only [Bool.false_eq_true,if_false]
    rw [run_load]
    simp only [Nat.add_zero] at h1
    simp [h1]
end Go.V
