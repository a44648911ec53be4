/- The by-value layer, part ten: lengths, conversions, structs written out, make, and the rest. Over any program. -/
import Derived.Test.YtdjdhecanjmchaaGreatDoorViB
set_option linter.unusedSimpArgs false
set_option linter.unusedVariables false
namespace Go.V
open Go
def lenEv : AV → Option AV
  | .sl _ xs _ => some (.int .i64 xs.length)
  | .str s => some (.int .i64 s.length)
  | _ => none
def lenTy (P : Program) (s : Bool) (t : TypeId) : Bool :=
  match P.underlying t with
  | some .string => s
  | some (.slice _) => !s
  | _ => false
def isStr : AV → Bool
  | .str _ => true
  | _ => false
theorem run_len {P : Program} {w : World} {G : Gh} {t ty : TypeId} {x r : AV} {u : Value} (hx : VRel G x u) (ht : lenTy P (isStr x) t = true) (he : lenEv x = some r) :
    ∃ z, (Builtin.len_ #[t] ty #[u]).run P w = .ok z w ∧ VRel G r z := by
  unfold lenTy at ht
  cases hx <;> simp only [lenEv] at he <;> first
    | (cases he; done)
    | (injection he with he; subst he)
  all_goals
    split at ht
    · rename_i h
      first
        | (cases ht; done)
        | (refine ⟨_, ?_, .int _ _⟩
           have hsz : ∀ s : List UInt8, (ByteArray.mk s.toArray).size = s.length := fun s => by simp [ByteArray.size]
           simp only [Builtin.len_, Sem.run_bind, List.getElem?_toArray, List.getElem?_cons_zero, run_und h, Result.andThen_ok, goInt, hsz, Sem.run_pure])
    · rename_i h
      first
        | (cases ht; done)
        | (refine ⟨_, ?_, .int _ _⟩
           simp [Builtin.len_, run_und h, goInt])
    · cases ht
def kindTy (P : Program) (t : TypeId) (k : IntKind) : Bool :=
  match P.underlying t with
  | some (.int k') => k == k'
  | _ => false
theorem run_conv {P : Program} {w : World} {G : Gh} {s d : TypeId} {k : IntKind} {x : AV} {u : Value} {n : Int} {k0 : IntKind} (hx : VRel G x u) (e : x = .int k0 n) (hs : known P s = true) (hd : kindTy P d k = true) :
    (convert s d u).run P w = .ok (.int k (k.wrap n)) w := by
  subst e
  cases hx
  unfold known at hs
  unfold kindTy at hd
  cases e1 : P.underlying s with
  | none => rw [e1] at hs; cases hs
  | some ds =>
    split at hd
    · rename_i k' e2
      have : k = k' := by simpa using hd
      subst this
      simp only [convert, Sem.run_bind, run_und e1, run_und e2, Result.andThen_ok]
      rfl
    · cases hd
def isStrTy (P : Program) (t : TypeId) : Bool :=
  match P.underlying t with
  | some .string => true
  | _ => false
theorem run_convStr {P : Program} {w : World} {G : Gh} {s d : TypeId} {a : List UInt8} {u : Value} (hx : VRel G (.str a) u) (hs : isStrTy P s = true) (hd : isStrTy P d = true) :
    (convert s d u).run P w = .ok u w := by
  cases hx
  unfold isStrTy at hs hd
  split at hs
  · rename_i e1
    split at hd
    · rename_i e2
      simp only [convert, Sem.run_bind, run_und e1, run_und e2, Result.andThen_ok]
      rfl
    · cases hd
  · cases hs
def unbyte : AV → Option UInt8
  | .int .u8 n => if 0 ≤ n ∧ n < 256 then some (UInt8.ofNat n.toNat) else none
  | _ => none
def strOf : List AV → Option (List UInt8)
  | [] => some []
  | x :: xs => (unbyte x).bind fun b => (strOf xs).map fun s => b :: s
theorem unbyte_byteAV (b : UInt8) : unbyte (byteAV b) = some b := by
  have : (b.toNat : Int) < 256 := by have := b.toNat_lt; omega
  simp [unbyte, byteAV, this]
theorem strOf_bytes (s : List UInt8) : strOf (s.map byteAV) = some s := by
  induction s with
  | nil => rfl
  | cons b s ih => simp [strOf, unbyte_byteAV, ih]
def byteTy (P : Program) (t : TypeId) : Bool :=
  match P.underlying t with
  | some (.slice e) => kindTy P e .u8 && sizeIs P e 1
  | _ => false
theorem strOf_spec : ∀ {xs : List AV} {s : List UInt8}, strOf xs = some s → ∃ ns : List Int, xs = ns.map (AV.int .u8) ∧ s = ns.map (fun n => UInt8.ofNat n.toNat)
  | [], s, h => by simp [strOf] at h; exact ⟨[], rfl, by simp [← h]⟩
  | x :: xs, s, h => by
    simp only [strOf, Option.bind_eq_some_iff, Option.map_eq_some_iff] at h
    obtain ⟨b, h1, t, h2, rfl⟩ := h
    obtain ⟨ns, rfl, rfl⟩ := strOf_spec h2
    unfold unbyte at h1
    split at h1
    · rename_i n
      split at h1
      · injection h1 with h1
        exact ⟨n :: ns, rfl, by simp [h1]⟩
      · cases h1
    · cases h1
theorem foldl_push (ns : List Int) : ∀ (b : ByteArray), ns.foldl (fun r n => r.push (UInt8.ofNat n.toNat)) b = ⟨b.data ++ (ns.map fun n => UInt8.ofNat n.toNat).toArray⟩ := by
  induction ns with
  | nil => intro b; cases b; simp
  | cons n ns ih =>
    intro b
    rw [List.foldl_cons, ih]
    congr 1
    simp [ByteArray.push]
theorem run_b2s {P : Program} {wb : Base} {G : Gh} {S : St} {w : World} (h : StRel wb G S w) {s d : TypeId} {xs : List AV} {tk : STok} {a : List UInt8} {u : Value} (hx : VRel G (.sl 1 xs tk) u) (ha : strOf xs = some a) (hs : byteTy P s = true) (hd : isStrTy P d = true) :
    ∃ z, (convert s d u).run P w = .ok z w ∧ VRel G (.str a) z := by
  unfold byteTy at hs
  split at hs
  · rename_i e he
    simp only [Bool.and_eq_true] at hs
    obtain ⟨hs1, hs2⟩ := hs
    have he2 : P.underlying e = some (.int .u8) := by
      unfold kindTy at hs1
      split at hs1
      · rename_i k' e2
        have : IntKind.u8 = k' := by simpa using hs1
        subst this
        exact e2
      · cases hs1
    have hd2 : P.underlying d = some .string := by
      unfold isStrTy at hd
      split at hd
      · assumption
      · cases hd
    refine ⟨_, ?_, .str a⟩
    cases hx with
    | slnil =>
      simp [strOf] at ha
      subst ha
      rename_i ad
      rw [run_convert_bytes_string w s d e ad 0 0 he he2 hd2]
      cases ad
      · simp [Conv.bytesToString]
        rfl
      · simp [Conv.bytesToString, loadCells, loadCellsFrom]
        rfl
    | sl f hk hp ho hv hc ht =>
      rename_i r b cap
      obtain ⟨ns, rfl, rfl⟩ := strOf_spec ha
      rw [run_convert_bytes_string w s d e _ _ _ he he2 hd2]
      have hat : At w G r b (flat (ns.map (AV.int .u8))) := At.of_row h hp ho hv
      have hfl : flat (ns.map (AV.int .u8)) = ns.map (AV.int .u8) := by
        clear hk hp ho hv ha hat hc ht
        induction ns with
        | nil => rfl
        | cons n ns ih => rw [List.map_cons, flat_cons, ih]; rfl
      rw [hfl] at hat
      have hl := run_loadCells_list (P := P) w ⟨r, b, none⟩ (ns.map (Value.int .u8)) (fun j v e => by
        rw [add_none]
        simp only [List.getElem?_map, Option.map_eq_some_iff] at e
        obtain ⟨n, hn, rfl⟩ := e
        obtain ⟨v, h1, h2, _⟩ := hat j (.int .u8 n) (by simp [hn])
        cases h2
        exact h1)
      rw [List.length_map] at hl
      rw [List.length_map, run_bytesToString w _ _ _ ns hl, foldl_push]
      congr 3
      simp [ByteArray.empty, ByteArray.emptyWithCapacity]
      rfl
  · cases hs
theorem run_part_gen {P : Program} {w : World} {G : Gh} {t : TypeId} {n o : Nat} {ag : Bool} {cs : List AV} {vs : List Value} {r : AV} (hc : CRel G cs vs) (hk : known P t = true) (ha : isAggB P t = ag) (hs : sizeIs P t n = true)
    (he : pickCells n ag (cs.drop o) = some r) : ∃ z, (part t vs.toArray o).run P w = .ok z w ∧ VRel G r z := by
  simp only [part, Sem.run_bind, run_isAggB hk, Result.andThen_ok, ha]
  unfold pickCells at he
  cases ag with
  | true =>
    simp only [if_true] at he ⊢
    split at he
    · rename_i hn
      injection he with he
      subst he
      have hl := hc.len
      simp at hn
      refine ⟨.agg ((vs.drop o).take n).toArray, ?_, .agg (by simp; omega) ?_ ?_⟩
      · simp only [Sem.run_bind, run_sizeIs hs, Result.andThen_ok, Sem.run_pure]
        congr 2
        apply Array.ext'
        simp
      · intro v hv
        exact hc.one v (List.mem_of_mem_drop (List.mem_of_mem_take hv))
      · intro m c v h1 h2
        rw [List.getElem?_take, List.getElem?_drop] at h1 h2
        by_cases hm : m < n
        · rw [if_pos hm] at h1 h2
          exact hc.rel _ c v h1 h2
        · rw [if_neg hm] at h1
          cases h1
    · cases he
  | false =>
    simp only [Bool.false_eq_true, if_false] at he ⊢
    rw [List.getElem?_drop] at he
    obtain ⟨v, h1, h2, _⟩ := hc.get he
    rw [Nat.add_zero] at h1
    exact ⟨v, by simp [h1], h2⟩
def fldEv (off n : Nat) (ag : Bool) : AV → Option AV
  | .agg cs => pickCells n ag (cs.drop off)
  | _ => none
def fldTy (P : Program) (s : TypeId) (f off n : Nat) (ag : Bool) : Bool :=
  match P.underlying s with
  | some (.struct fs) => match fs[f]? with
    | some fd => fd.offset == off && known P fd.type && (isAggB P fd.type == ag) && sizeIs P fd.type n
    | none => false
  | _ => false
theorem run_field {P : Program} {w : World} {G : Gh} {s : TypeId} {f off n : Nat} {ag : Bool} {x r : AV} {u : Value} (hx : VRel G x u) (ht : fldTy P s f off n ag = true) (he : fldEv off n ag x = some r) :
    ∃ z, (Instr.field s u f).run P w = .ok z w ∧ VRel G r z := by
  cases hx <;> simp only [fldEv] at he <;> first
    | (cases he; done)
    | skip
  rename_i cs vs hl ho hv
  unfold fldTy at ht
  split at ht
  · rename_i fs hfs
    split at ht
    · rename_i fd hfd
      simp only [Bool.and_eq_true, beq_iff_eq] at ht
      obtain ⟨⟨⟨h1, h2⟩, h3⟩, h4⟩ := ht
      subst h1
      obtain ⟨z, h5, h6⟩ := run_part_gen (P := P) (w := w) (CRel.mk hl ho hv) h2 h3 h4 he
      exact ⟨z, by simp only [Instr.field, Sem.run_bind, run_und hfs, Result.andThen_ok, hfd, asAgg, Sem.run_pure, h5], h6⟩
    · cases ht
  · cases ht
def iarrEv (k len : Nat) (ag : Bool) (x i : AV) : Option AV :=
  match x, i with
  | .agg cs, .int _ n => if 0 ≤ n ∧ n < len then pickCells k ag (cs.drop (n.toNat * k)) else none
  | _, _ => none
def iarrTy (P : Program) (t : TypeId) (k len : Nat) (ag : Bool) : Bool :=
  match P.underlying t with
  | some (.array n e) => n == len && known P e && (isAggB P e == ag) && sizeIs P e k
  | _ => false
theorem run_iarr {P : Program} {w : World} {G : Gh} {t : TypeId} {k len : Nat} {ag : Bool} {x i r : AV} {u v : Value} (hx : VRel G x u) (hi : VRel G i v) (ht : iarrTy P t k len ag = true) (he : iarrEv k len ag x i = some r) :
    ∃ z, (Instr.index t u v).run P w = .ok z w ∧ VRel G r z := by
  cases hx <;> cases hi <;> simp only [iarrEv] at he <;> first
    | (cases he; done)
    | skip
  rename_i cs vs hl ho hv ki n
  split at he
  · rename_i hn
    unfold iarrTy at ht
    split at ht
    · rename_i m e hme
      simp only [Bool.and_eq_true, beq_iff_eq] at ht
      obtain ⟨⟨⟨h1, h2⟩, h3⟩, h4⟩ := ht
      subst h1
      obtain ⟨z, h5, h6⟩ := run_part_gen (P := P) (w := w) (CRel.mk hl ho hv) h2 h3 h4 he
      exact ⟨z, by simp only [Instr.index, Sem.run_bind, asIntOf, Sem.run_pure, run_und hme, Result.andThen_ok, hn, and_self, if_true, run_sizeIs h4, h5], h6⟩
    · cases ht
  · cases he
def extEv (i : Nat) : AV → Option AV
  | .tup vs => vs[i]?
  | _ => none
theorem run_ext {P : Program} {w : World} {G : Gh} {i : Nat} {x r : AV} {u : Value} (hx : VRel G x u) (he : extEv i x = some r) : ∃ z, (Instr.extract u i).run P w = .ok z w ∧ VRel G r z := by
  cases hx <;> simp only [extEv] at he <;> first
    | (cases he; done)
    | skip
  rename_i cs vs hl hv
  have hi : i < vs.length := by
    rcases Nat.lt_or_ge i cs.length with h | h
    · omega
    · rw [List.getElem?_eq_none h] at he; cases he
  exact ⟨vs[i], by simp [Instr.extract, hi], hv i r _ he (by simp [hi])⟩
def concreteTy (P : Program) (t : TypeId) : Bool :=
  match P.underlying t with
  | some (.interface _) => false
  | some _ => true
  | none => false
theorem run_ifc {P : Program} {w : World} {t : TypeId} {u : Value} (ht : concreteTy P t = true) : (Instr.makeInterface t u).run P w = .ok (.iface t u) w := by
  unfold concreteTy at ht
  cases e : P.underlying t with
  | none => rw [e] at ht; cases ht
  | some d =>
    rw [e] at ht
    simp only [Instr.makeInterface, Sem.run_bind, run_und e, Result.andThen_ok]
    cases d <;> first
      | rfl
      | cases ht
def minEv (x y : AV) : Option AV :=
  match x, y with
  | .int k a, .int _ b => some (.int k (if b < a then b else a))
  | _, _ => none
theorem run_min {P : Program} {w : World} {G : Gh} {ts : Array TypeId} {ty : TypeId} {x y r : AV} {u v : Value} (hx : VRel G x u) (hy : VRel G y v) (he : minEv x y = some r) :
    ∃ z, (Builtin.min_ ts ty #[u, v]).run P w = .ok z w ∧ VRel G r z := by
  cases hx <;> cases hy <;> simp only [minEv] at he <;> first
    | (cases he; done)
    | (injection he with he; subst he)
  exact ⟨_, rfl, .int _ _⟩
def nonNil : AV → Bool
  | .ptr _ _ | .gp _ _ | .eptr _ _ _ _ => true
  | _ => false
end Go.V
