/- The by-value layer, part five: memory's operations: new objects, stores, addresses, rows, slices, append. Over any program. -/
import Derived.Test.YtdjdhecanjmchaaGreatDoorVdB
import Derived.Great.FillDense
set_option linter.unusedSimpArgs false
set_option linter.unusedVariables false
namespace Go.V
open Go
def cellsFit : List AV → List Value → Bool
  | [], [] => true
  | a :: as, v :: vs => constFits a v && v.oneCell' && cellsFit as vs
  | _, _ => false
theorem cellsFit_rel {G : Gh} : ∀ {as : List AV} {vs : List Value}, cellsFit as vs = true → CRel G as vs
  | [], [], _ => .nil G
  | [], _ :: _, h => by cases h
  | _ :: _, [], h => by cases h
  | a :: as, v :: vs, h => by
    simp only [cellsFit, Bool.and_eq_true] at h
    exact .cons (constFits_rel h.1.1) h.1.2 (cellsFit_rel h.2)
def zeroIs (P : Program) (t : TypeId) (z : List AV) : Bool :=
  match P.info? t with
  | some i => match i.zero with
    | some v => cellsFit z v.cells.toList
    | none => false
  | none => false
theorem run_zeroIs {P : Program} {t : TypeId} {z : List AV} (h : zeroIs P t z = true) (w : World) : ∃ v, (zeroValue t).run P w = .ok v w ∧ ∀ G, CRel G z v.cells.toList := by
  unfold zeroIs at h
  split at h
  · rename_i i hi
    split at h
    · rename_i v hv
      exact ⟨v, by simp [zeroValue, typeInfo, hi, hv], fun G => cellsFit_rel h⟩
    · cases h
  · cases h
theorem sem_newVar {P : Program} {wb : Base} {G : Gh} {S : St} {w : World} (h : StRel wb G S w) {t : TypeId} {v : Value} {cs : List AV} (hc : CRel G cs v.cells.toList) :
    SemOK P wb G (do pure (.pointer (some (← newVar t v)))) w (.ptr S.n 0) { S with n := S.n + 1, obj := (S.n, cs) :: S.obj } := by
  obtain ⟨G', h1, h2, h3⟩ := h.newObj (E := t) hc
  refine ⟨.pointer (some ⟨w.heap.size, 0, none⟩), w.alloc (.cells v.cells t), G', ?_, h1, by simpa using h3, .ptr h2⟩
  simp [newVar, newRow]
theorem sem_alloc {P : Program} {wb : Base} {G : Gh} {S : St} {w : World} (h : StRel wb G S w) {t : TypeId} {z : List AV} (hz : zeroIs P t z = true) :
    SemOK P wb G (Instr.alloc t true (.tuple #[])) w (.ptr S.n 0) { S with n := S.n + 1, obj := (S.n, z) :: S.obj } := by
  obtain ⟨v, h1, h2⟩ := run_zeroIs hz w
  obtain ⟨v', w', G', h3, h4⟩ := sem_newVar (P := P) h (t := t) (v := v) (h2 G)
  refine ⟨v', w', G', ?_, h4⟩
  simp only [Instr.alloc, Sem.run_bind, h1, Result.andThen_ok]
  exact h3
theorem sem_box {P : Program} {wb : Base} {G : Gh} {S : St} {w : World} (h : StRel wb G S w) {t : TypeId} {x : AV} {u : Value} (hx : VRel G x u) (hs : x.solid = true) :
    SemOK P wb G (Instr.box t u) w (.ptr S.n 0) { S with n := S.n + 1, obj := (S.n, x.cells) :: S.obj } :=
  sem_newVar h (hx.cells hs)
def storeEv (n : Nat) (S : St) (p x : AV) : Option St :=
  match p with
  | .ptr l o => (S.get l).bind fun cs => if isBld cs then none else if x.solid && x.cells.length == n && decide (o + n ≤ cs.length) then some (S.set l (splice cs o x.cells)) else none
  | _ => none
theorem run_store_at {P : Program} {wb : Base} {G : Gh} {S S' : St} {w : World} (h : StRel wb G S w) {t : TypeId} {n : Nat} {p x : AV} {u v : Value} (hp : VRel G p u) (hx : VRel G x v) (hs : sizeIs P t n = true)
    (he : storeEv n S p x = some S') : ∃ w', (Instr.storeAt t u v).run P w = .ok () w' ∧ StRel wb G S' w' := by
  cases hp <;> simp only [storeEv] at he <;> first
    | (cases he; done)
    | skip
  rename_i l o r hr
  simp only [Option.bind_eq_some_iff] at he
  obtain ⟨cs, h1, he⟩ := he
  split at he
  · cases he
  rename_i hnb
  have hnb : isBld cs = false := by simpa using hnb
  split at he
  · rename_i hc
    simp only [Bool.and_eq_true, beq_iff_eq, decide_eq_true_eq] at hc
    obtain ⟨⟨h2, h3⟩, h4⟩ := hc
    injection he with he
    subst he
    have hcr := hx.cells h2
    have hlen : v.cells.size = n := by have := hcr.len; simp at this; omega
    refine ⟨putCells w r o v.cells.toList, ?_, h.store h1 hr hcr (by omega) hnb⟩
    simp only [Instr.storeAt, Instr.sureAddr, storeVar, Sem.run_bind, Sem.run_pure, Result.andThen_ok, run_sizeIs hs, hlen, ne_eq, not_true_eq_false, if_false]
    obtain ⟨r', hr', hm⟩ := h.obj l cs h1 hnb
    obtain rfl : r = r' := by rw [hr] at hr'; exact Option.some.inj hr'
    have := run_storeCells (P := P) r o v.cells.toList w 0 hcr.one (fun j hj => by
      obtain ⟨y, h5, _, _, h6⟩ := hm (o + 0 + j) (cs[o + 0 + j]'(by simp at hj; omega)) (by simp)
      exact ⟨⟨y, h5⟩, h6⟩)
    simpa using this
  · cases he
def AV.plus (p : AV) (n : Nat) : Option AV :=
  match p with
  | .ptr l o => some (.ptr l (o + n))
  | .gp g o => some (.gp g (o + n))
  | .eptr k xs i o => some (.eptr k xs i (o + n))
  | _ => none
theorem plus_rel {G : Gh} {p q : AV} {u : Value} {n : Nat} (hp : VRel G p u) (he : p.plus n = some q) : ∃ r o, u = .pointer (some ⟨r, o, none⟩) ∧ VRel G q (.pointer (some ⟨r, o + n, none⟩)) := by
  cases hp <;> simp only [AV.plus] at he <;> first
    | (cases he; done)
    | (injection he with he; subst he)
  · exact ⟨_, _, rfl, .ptr ‹_›⟩
  · exact ⟨_, _, rfl, .gp _ _⟩
  · rename_i k xs i off r b f hk hp ho hv
    refine ⟨r, _, rfl, ?_⟩
    have := VRel.eptr (G := G) (i := i) (off := off + n) f hk hp ho hv
    rwa [show b + i * k + (off + n) = b + i * k + off + n from by omega] at this
def fieldIs (P : Program) (s : TypeId) (f off : Nat) : Bool :=
  match P.underlying s with
  | some (.struct fs) => match fs[f]? with
    | some fd => fd.offset == off && (match P.info? fd.type with | some i => i.size != 0 | none => false)
    | none => false
  | _ => false
theorem run_fieldAt {P : Program} {w : World} {G : Gh} {s : TypeId} {f off : Nat} {p q : AV} {u : Value} (hp : VRel G p u) (hf : fieldIs P s f off = true) (he : p.plus off = some q) :
    ∃ v, (Instr.fieldAt s u f).run P w = .ok v w ∧ VRel G q v := by
  obtain ⟨r, o, rfl, h1⟩ := plus_rel hp he
  refine ⟨_, ?_, h1⟩
  unfold fieldIs at hf
  split at hf
  · rename_i fs hfs
    split at hf
    · rename_i fd hfd
      simp only [Bool.and_eq_true, beq_iff_eq] at hf
      obtain ⟨h2, h3⟩ := hf
      split at h3
      · rename_i i hi
        have hsz : (Go.sizeOf fd.type).run P w = .ok i.size w := by simp [Go.sizeOf, typeInfo, hi]
        have hnz : i.size ≠ 0 := by simpa using h3
        simp only [Instr.fieldAt, Sem.run_bind, run_und hfs, Result.andThen_ok, hfd, Instr.sureAddr, Sem.run_pure, fieldPlace, hsz, hnz, if_false, add_none, h2]
      · cases h3
    · cases hf
  · cases hf
theorem run_indexAt_sl {P : Program} {w : World} {G : Gh} {t e : TypeId} {k : Nat} {xs : List AV} {tk : STok} {u v : Value} {ki : IntKind} {n : Int} (hx : VRel G (.sl k xs tk) u) (hi : VRel G (.int ki n) v)
    (ht : P.underlying t = some (.slice e)) (hs : sizeIs P e k = true) (h0 : 0 ≤ n) (h1 : n < xs.length) : ∃ z, (Instr.indexAt t u v).run P w = .ok z w ∧ VRel G (.eptr k xs n.toNat 0) z := by
  cases hi
  cases hx with
  | slnil => simp at h1; omega
  | sl f hk hp ho hv hc htk =>
    rename_i r b cap
    have hn : 0 ≤ n ∧ n < (xs.length : Int) := ⟨h0, h1⟩
    refine ⟨.pointer (some ⟨r, b + n.toNat * k + 0, none⟩), ?_, .eptr f hk hp ho hv⟩
    simp [Instr.indexAt, asIntOf, run_und ht, hn, run_sizeIs hs, add_none]
theorem run_indexAt_arr {P : Program} {w : World} {G : Gh} {t e : TypeId} {k len : Nat} {p q : AV} {u v : Value} {ki : IntKind} {n : Int} (hx : VRel G p u) (hi : VRel G (.int ki n) v)
    (ht : P.underlying t = some (.array len e)) (hs : sizeIs P e k = true) (h0 : 0 ≤ n) (h1 : n < len) (he : p.plus (n.toNat * k) = some q) : ∃ z, (Instr.indexAt t u v).run P w = .ok z w ∧ VRel G q z := by
  cases hi
  obtain ⟨r, o, rfl, h2⟩ := plus_rel hx he
  refine ⟨_, ?_, h2⟩
  have hn : 0 ≤ n ∧ n < (len : Int) := ⟨h0, h1⟩
  simp [Instr.indexAt, asIntOf, run_und ht, Instr.sureAddr, hn, run_sizeIs hs, add_none]
theorem run_index_str {P : Program} {w : World} {G : Gh} {t : TypeId} {s : List UInt8} {u v : Value} {ki : IntKind} {n : Int} (hx : VRel G (.str s) u) (hi : VRel G (.int ki n) v) (ht : P.underlying t = some .string)
    (h0 : 0 ≤ n) {b : UInt8} (h1 : s[n.toNat]? = some b) : ∃ z, (Instr.index t u v).run P w = .ok z w ∧ VRel G (.int .u8 b.toNat) z := by
  cases hi
  cases hx
  refine ⟨_, ?_, .int _ _⟩
  have hlt : n.toNat < s.length := by
    rcases Nat.lt_or_ge n.toNat s.length with h | h
    · exact h
    · rw [List.getElem?_eq_none h] at h1; cases h1
  have hb : (ByteArray.mk s.toArray)[n.toNat]? = some b := by
    rw [ByteArray.getElem?_lt' _ _ (by simpa [ByteArray.size] using hlt)]
    congr 1
    have : s[n.toNat] = b := by rw [List.getElem?_eq_getElem hlt] at h1; exact Option.some.inj h1
    rw [← this]
    rfl
  simp [Instr.index, asIntOf, run_und ht, h0, hb]
end Go.V
