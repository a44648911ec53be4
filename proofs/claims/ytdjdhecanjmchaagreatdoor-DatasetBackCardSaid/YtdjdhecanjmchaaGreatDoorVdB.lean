/- The by-value layer, part four: each operation of the small language, and that the model's operation does just that. Over any program. -/
import Derived.Test.YtdjdhecanjmchaaGreatDoorVcB
set_option linter.unusedSimpArgs false
set_option linter.unusedVariables false
namespace Go.V
open Go
def iand (k : IntKind) (a b : Int) : Int := k.wrap (BitVec.ofInt k.bits a &&& BitVec.ofInt k.bits b).toNat
def ior (k : IntKind) (a b : Int) : Int := k.wrap (BitVec.ofInt k.bits a ||| BitVec.ofInt k.bits b).toNat
def ixor (k : IntKind) (a b : Int) : Int := k.wrap (BitVec.ofInt k.bits a ^^^ BitVec.ofInt k.bits b).toNat
def iandn (k : IntKind) (a b : Int) : Int := k.wrap (BitVec.ofInt k.bits a &&& ~~~ BitVec.ofInt k.bits b).toNat
def ishl (k : IntKind) (a b : Int) : Int := k.wrap (a * 2 ^ (min b.toNat k.bits))
def ishr (k : IntKind) (a b : Int) : Int := a.fdiv (2 ^ (min b.toNat k.bits))
def intOp (op : BinOp) (k : IntKind) (a b : Int) : Option AV :=
  match op with
  | .add => some (.int k (k.wrap (a + b)))
  | .sub => some (.int k (k.wrap (a - b)))
  | .mul => some (.int k (k.wrap (a * b)))
  | .quo => some (.int k (k.wrap (a.tdiv b)))
  | .rem => some (.int k (a.tmod b))
  | .and => some (.int k (iand k a b))
  | .or => some (.int k (ior k a b))
  | .xor => some (.int k (ixor k a b))
  | .andNot => some (.int k (iandn k a b))
  | .eql => some (.bool (a == b))
  | .neq => some (.bool (a != b))
  | .lss => some (.bool (decide (a < b)))
  | .leq => some (.bool (decide (a ≤ b)))
  | .gtr => some (.bool (decide (a > b)))
  | .geq => some (.bool (decide (a ≥ b)))
  | _ => none
def strOp (op : BinOp) (a b : List UInt8) : Option AV :=
  match op with
  | .add => some (.str (a ++ b))
  | .eql => some (.bool (a == b))
  | .neq => some (.bool (!(a == b)))
  | .lss => some (.bool (Op.bytesLess a b))
  | .leq => some (.bool (Op.bytesLess a b || a == b))
  | .gtr => some (.bool (!(Op.bytesLess a b || a == b)))
  | .geq => some (.bool (!Op.bytesLess a b))
  | _ => none
def binEv (op : BinOp) (x y : AV) : Option AV :=
  match x, y with
  | .int k a, .int k' b =>
    match op with
    | .shl => some (.int k (ishl k a b))
    | .shr => some (.int k (ishr k a b))
    | op => if k = k' then intOp op k a b else none
  | .str a, .str b => strOp op a b
  | _, _ => none
def binOb (op : BinOp) (x y : AV) : Prop :=
  match x, y with
  | .int _ _, .int _ b =>
    match op with
    | .shl | .shr => 0 ≤ b
    | .quo | .rem => b ≠ 0
    | _ => True
  | .str a, .str b =>
    match op with
    | .add => a.length + b.length < 9223372036854775808
    | _ => True
  | _, _ => True
theorem run_bin {P : Program} {w : World} {G : Gh} {op : BinOp} {t : TypeId} {x y r : AV} {u v : Value} (hx : VRel G x u) (hy : VRel G y v) (hob : binOb op x y) (he : binEv op x y = some r) (ox oy : Operand) :
    ∃ z, (do eqGuard op t ox oy u v; binOp op t u v).run P w = .ok z w ∧ VRel G r z := by
  cases hx <;> cases hy <;> first
    | (simp [binEv] at he; done)
    | skip
  · rename_i k a k' b
    have hg : (eqGuard op t ox oy (.int k a) (.int k' b)).run P w = .ok () w := by
      unfold eqGuard
      split <;> rfl
    simp only [Sem.run_bind, hg, Result.andThen_ok]
    have fin : ∀ (op : BinOp), op ≠ .shl → op ≠ .shr → binOb op (.int k a) (.int k b) → intOp op k a b = some r → ∃ z, (binOp op t (.int k a) (.int k b)).run P w = .ok z w ∧ VRel G r z := by
      intro op h1 h2 hob he
      cases op <;> simp only [binOb, intOp] at he hob <;> first
        | (cases he; done)
        | (exact absurd rfl h1)
        | (exact absurd rfl h2)
        | (injection he with he
           subst he
           first
             | refine ⟨_, ?_, .int _ _⟩
             | refine ⟨_, ?_, .bool _⟩
           simp only [binOp, ne_eq, not_true_eq_false, if_false]
           first
             | rfl
             | (simp only [Op.intDiv, hob, if_false]; rfl))
    by_cases h1 : op = .shl
    · subst h1
      simp only [binEv, binOb] at he hob
      injection he with he
      subst he
      refine ⟨_, ?_, .int _ _⟩
      simp only [binOp, Op.shift, Int.not_lt.2 hob, if_false]
      rfl
    by_cases h2 : op = .shr
    · subst h2
      simp only [binEv, binOb] at he hob
      injection he with he
      subst he
      refine ⟨_, ?_, .int _ _⟩
      simp only [binOp, Op.shift, Int.not_lt.2 hob, if_false]
      rfl
    by_cases hk : k = k'
    · subst hk
      refine fin op h1 h2 ?_ ?_
      · cases op <;> exact hob
      · cases op <;> simp_all [binEv]
    · cases op <;> simp_all [binEv]
  · rename_i a b
    have hg : (eqGuard op t ox oy (.string ⟨a.toArray⟩) (.string ⟨b.toArray⟩)).run P w = .ok () w := by
      unfold eqGuard
      split <;> rfl
    simp only [Sem.run_bind, hg, Result.andThen_ok]
    cases op <;> simp only [binEv, binOb, strOp] at he hob <;> first
      | cases he; done
      | (injection he with he; subst he)
    all_goals first
      | refine ⟨_, ?_, .bool _⟩
      | refine ⟨_, ?_, .str _⟩
    all_goals try (simp only [binOp, Op.stringOp, ByteArray.toList_mk]; rfl)
    have hs : ¬ ((((ByteArray.mk a.toArray).size + (ByteArray.mk b.toArray).size : Nat) : Int) > IntKind.i64.max) := by
      simp [IntKind.max, IntKind.signed, IntKind.bits, ByteArray.size]
      omega
    simp only [binOp, Op.stringOp, hs, if_false, Sem.run_pure]
    congr 2
def unEv (op : UnOp) (x : AV) : Option AV :=
  match op, x with
  | .not, .bool b => some (.bool (!b))
  | .neg, .int k n => some (.int k (k.wrap (0 - n)))
  | .xor, .int k n => some (.int k (k.wrap (BitVec.ofInt k.bits (if k.signed then -1 else k.max) ^^^ BitVec.ofInt k.bits n).toNat))
  | _, _ => none
theorem run_un {P : Program} {w : World} {G : Gh} {op : UnOp} {x r : AV} {u : Value} (hx : VRel G x u) (he : unEv op x = some r) : ∃ z, (Op.unary op u).run P w = .ok z w ∧ VRel G r z := by
  cases op <;> cases hx <;> simp only [unEv] at he <;> first
    | (cases he; done)
    | (injection he with he; subst he)
  all_goals first
    | refine ⟨_, ?_, .int _ _⟩
    | refine ⟨_, ?_, .bool _⟩
  all_goals rfl
inductive EK where
  | i
  | s
  | b
  deriving DecidableEq
def eqCell : EK → AV → AV → Option Bool
  | .i, .int k a, .int k' b => if k = k' then some (a == b) else none
  | .s, .str a, .str b => some (a == b)
  | .b, .bool a, .bool b => some (a == b)
  | _, _, _ => none
def eqCells : List EK → List AV → List AV → Option Bool
  | [], [], [] => some true
  | k :: ks, x :: xs, y :: ys => (eqCell k x y).bind fun b => (eqCells ks xs ys).map fun r => b && r
  | _, _, _ => none
def tyKind (P : Program) (t : TypeId) : Option EK :=
  match P.underlying t with
  | some (.int _) => some .i
  | some .string => some .s
  | some .bool => some .b
  | _ => none
def flatFields (P : Program) : Nat → List EK → List Field → Bool
  | _, [], [] => true
  | i, k :: ks, f :: fs => f.offset == i && f.name != "_" && decide (tyKind P f.type = some k) && flatFields P (i + 1) ks fs
  | _, _, _ => false
def flatTy (P : Program) (ks : List EK) (t : TypeId) : Bool :=
  match P.underlying t with
  | some (.struct fs) => !P.stoodInHeld t && flatFields P 0 ks fs.toList && !P.eqGuardType P.depth t
  | _ => false
theorem run_eqCell {P : Program} {w : World} {G : Gh} {t : TypeId} {k : EK} {x y : AV} {u v : Value} {b : Bool} (hx : VRel G x u) (hy : VRel G y v) (ht : tyKind P t = some k) (he : eqCell k x y = some b) (d : Nat) :
    (Op.equalIn (d + 1) t u v).run P w = .ok b w := by
  unfold tyKind at ht
  split at ht
  · rename_i h
    injection ht with ht
    subst ht
    cases hx <;> cases hy <;> simp only [eqCell] at he <;> first
      | (cases he; done)
      | skip
    split at he
    · rename_i hk
      injection he with he
      subst he hk
      simp [Op.equalIn, run_und h]
    · cases he
  · rename_i h
    injection ht with ht
    subst ht
    cases hx <;> cases hy <;> simp only [eqCell] at he <;> first
      | (cases he; done)
      | skip
    injection he with he
    subst he
    rw [run_equalIn_string _ _ _ _ _ h, ByteArray.toList_mk, ByteArray.toList_mk]
  · rename_i h
    injection ht with ht
    subst ht
    cases hx <;> cases hy <;> simp only [eqCell] at he <;> first
      | (cases he; done)
      | skip
    injection he with he
    subst he
    simp [Op.equalIn, run_und h]
  · cases ht
theorem tyKind_agg {P : Program} {t : TypeId} {k : EK} (ht : tyKind P t = some k) : known P t = true ∧ isAggB P t = false := by
  unfold tyKind at ht
  split at ht <;> first
    | (cases ht; done)
    | (rename_i h; simp [known, isAggB, h])
theorem run_part {P : Program} {w : World} {t : TypeId} {k : EK} (ht : tyKind P t = some k) {vs : List Value} {i : Nat} {v : Value} (hv : vs[i]? = some v) : (part t vs.toArray i).run P w = .ok v w := by
  obtain ⟨h1, h2⟩ := tyKind_agg ht
  simp [part, run_isAggB h1, h2, hv]
theorem run_eqFields {P : Program} {w : World} {G : Gh} (d : Nat) {xs ys : List Value} : ∀ {ks : List EK} {fs : List Field} {cs ds : List AV} {i : Nat} {b : Bool},
    flatFields P i ks fs = true → eqCells ks cs ds = some b → (∀ (m : Nat) (c : AV), cs[m]? = some c → ∃ v, xs[i + m]? = some v ∧ VRel G c v) → (∀ (m : Nat) (c : AV), ds[m]? = some c → ∃ v, ys[i + m]? = some v ∧ VRel G c v) →
    (Op.eqFields (d + 1) xs.toArray ys.toArray fs).run P w = .ok b w
  | [], [], [], [], i, b, _, he, _, _ => by
    simp [eqCells] at he
    subst he
    simp [Op.eqFields]
  | k :: ks, f :: fs, c :: cs, e :: es, i, b, hf, he, hx, hy => by
    simp only [flatFields, Bool.and_eq_true, decide_eq_true_eq, bne_iff_ne, beq_iff_eq] at hf
    obtain ⟨⟨⟨h1, h2⟩, h3⟩, h4⟩ := hf
    simp only [eqCells, Option.bind_eq_some_iff, Option.map_eq_some_iff] at he
    obtain ⟨b1, h5, r, h6, rfl⟩ := he
    obtain ⟨u, h7, h8⟩ := hx 0 c rfl
    obtain ⟨v, h9, h10⟩ := hy 0 e rfl
    rw [Nat.add_zero] at h7 h9
    have ih := run_eqFields (P := P) (w := w) (G := G) d (xs := xs) (ys := ys) (i := i + 1) h4 h6
      (fun m c' hm => by have := hx (m + 1) c' (by simpa using hm); rwa [show i + (m + 1) = i + 1 + m from by omega] at this)
      (fun m c' hm => by have := hy (m + 1) c' (by simpa using hm); rwa [show i + (m + 1) = i + 1 + m from by omega] at this)
    subst h1
    simp only [Op.eqFields, h2, ne_eq, not_false_eq_true, if_true, Sem.run_bind, run_part h3 h7, run_part h3 h9, Result.andThen_ok, run_eqCell h8 h10 h3 h5]
    cases b1 with
    | true => simpa using ih
    | false => simp
  | [], [], [], _ :: _, _, _, _, he, _, _ => by simp [eqCells] at he
  | [], [], _ :: _, _, _, _, _, he, _, _ => by simp [eqCells] at he
  | [], _ :: _, _, _, _, _, hf, _, _, _ => by simp [flatFields] at hf
  | _ :: _, [], _, _, _, _, hf, _, _, _ => by simp [flatFields] at hf
  | _ :: _, _ :: _, [], _, _, _, _, he, _, _ => by simp [eqCells] at he
  | _ :: _, _ :: _, _ :: _, [], _, _, _, he, _, _ => by simp [eqCells] at he
def eqvEv (ks : List EK) (neg : Bool) (x y : AV) : Option AV :=
  match x, y with
  | .agg cs, .agg ds => (eqCells ks cs ds).map fun b => .bool (if neg then !b else b)
  | _, _ => none
theorem run_eqv {P : Program} {w : World} {G : Gh} {t : TypeId} {ks : List EK} {neg : Bool} {x y r : AV} {u v : Value} (hx : VRel G x u) (hy : VRel G y v) (ht : flatTy P ks t = true) (he : eqvEv ks neg x y = some r) (ox oy : Operand) :
    ∃ z, (do eqGuard (if neg then .neq else .eql) t ox oy u v; binOp (if neg then .neq else .eql) t u v).run P w = .ok z w ∧ VRel G r z := by
  cases hx <;> cases hy <;> simp only [eqvEv] at he <;> first
    | (cases he; done)
    | skip
  rename_i cs vs hl ho hv ds ws hl' ho' hv'
  simp only [Option.map_eq_some_iff] at he
  obtain ⟨b, he, rfl⟩ := he
  unfold flatTy at ht
  split at ht
  · rename_i fs hfs
    simp only [Bool.and_eq_true, Bool.not_eq_true'] at ht
    obtain ⟨⟨h1, h2⟩, h3⟩ := ht
    have hfo : P.fieldsOf t = fs := by unfold Program.fieldsOf; rw [hfs]
    have hagg := run_equalIn_agg (P := P) w 9999 t vs.toArray ws.toArray (by rw [hfo]; exact hfs) h1
    have hrun : (Op.equalIn 10000 t (.agg vs.toArray) (.agg ws.toArray)).run P w = .ok b w := by
      rw [hagg, hfo]
      refine run_eqFields (G := G) 9998 h2 he (fun m c hc => ?_) (fun m c hc => ?_)
      · obtain ⟨z, h4, h5, _⟩ := (CRel.mk hl ho hv).get hc
        exact ⟨z, by simpa using h4, h5⟩
      · obtain ⟨z, h4, h5, _⟩ := (CRel.mk hl' ho' hv').get hc
        exact ⟨z, by simpa using h4, h5⟩
    refine ⟨_, ?_, .bool _⟩
    simp only [Sem.run_bind, run_eqGuard_agg w _ t ox oy _ _ h3, Result.andThen_ok]
    cases neg
    · simp only [Bool.false_eq_true, if_false]
      rw [run_eql_struct, hrun]
      rfl
    · simp only [if_true]
      rw [run_neq_struct, hrun]
      rfl
  · cases ht
end Go.V
