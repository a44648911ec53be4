/- The by-value layer, part four: each operation of the small language, and that the model's operation does just that. Over any program. -/
import Derived.Test.YtombgigaefgaiaaGreatDoorVc
import Derived.Great.FillDense
set_option linter.unusedSimpArgs false
set_option linter.unusedVariables false
namespace Go.V
open Go
def iand (k : IntKind) (a b : Int) : Int := k.wrap (BitVec.ofInt k.bits a &&& BitVec.ofInt k.bits b).toNat
def ior (k : IntKind) (a b : Int) : Int := k.wrap (BitVec.ofInt k.bits a ||| BitVec.ofInt k.bits b).toNat
def ixor (k : IntKind) (a b : Int) : Int := k.wrap (BitVec.ofInt k.bits a ^^^ BitVec.ofInt k.bits b).toNat
def iandn (k : IntKind) (a b : Int) : Int := k.wrap (BitVec.ofInt k.bits a &&& ~~~ BitVec.ofInt k.bits b).toNat
def ishl (k : IntKind) (a b : Int) : Int := k.wrap (a * 2 ^ (min b.toNat k.bits))
def ishr (k : IntKind) (a b : Int) : Int := a.fdiv (2 ^ (min b.toNat k.bits))
def intOp (op : BinOp) (k : IntKind) (a b : Int) : Option AV :=
  match op with
  | .add => some (.int k (k.wrap (a + b)))
  | .sub => some (.int k (k.wrap (a - b)))
  | .mul => some (.int k (k.wrap (a * b)))
  | .quo => some (.int k (k.wrap (a.tdiv b)))
  | .rem => some (.int k (a.tmod b))
  | .and => some (.int k (iand k a b))
  | .or => some (.int k (ior k a b))
  | .xor => some (.int k (ixor k a b))
  | .andNot => some (.int k (iandn k a b))
  | .eql => some (.bool (a == b))
  | .neq => some (.bool (a != b))
  | .lss => some (.bool (decide (a < b)))
  | .leq => some (.bool (decide (a ≤ b)))
  | .gtr => some (.bool (decide (a > b)))
  | .geq => some (.bool (decide (a ≥ b)))
  | _ => none
def strOp (op : BinOp) (a b : List UInt8) : Option AV :=
  match op with
  | .add => some (.str (a ++ b))
  | .eql => some (.bool (a == b))
  | .neq => some (.bool (!(a == b)))
  | .lss => some (.bool (Op.bytesLess a b))
  | .leq => some (.bool (Op.bytesLess a b || a == b))
  | .gtr => some (.bool (!(Op.bytesLess a b || a == b)))
  | .geq => some (.bool (!Op.bytesLess a b))
  | _ => none
def binEv (op : BinOp) (x y : AV) : Option AV :=
  match x,y with
  | .int k a,.int k' b =>
    match op with
    | .shl => some (.int k (ishl k a b))
    | .shr => some (.int k (ishr k a b))
    | op => if k = k' then intOp op k a b else none
  | .str a,.str b => strOp op a b
  | _,_ => none
def binOb (op : BinOp) (x y : AV) : Prop :=
  match x,y with
  | .int _ _,.int _ b =>
    match op with
    | .shl | .shr => 0 ≤ b
    | .quo | .rem => b ≠ 0
    | _ => True
  | .str a,.str b =>
    match op with
    | .add => a.length + b.length < 9223372036854775808
    | _ => True
  | _,_ => True
theorem run_bin {P : Program} {w : World} {G : Gh} {op : BinOp} {t : TypeId} {x y r : AV} {u v : Value} (hx : VRel G x u) (hy : VRel G y v) (hob : binOb op x y) (he : binEv op x y = some r) (ox oy : Operand) :
    ∃ z,(do eqGuard op t ox oy u v; binOp op t u v).run P w = .ok z w ∧ VRel G r z := by
  cases hx <;> cases hy <;> first
    | (simp [binEv] at he; done)
    | skip
  · rename_i k a k' b
    have hg : (eqGuard op t ox oy (.int k a) (.int k' b)).run P w = .ok () w := by
      unfold eqGuard
      split <;> rfl
    simp only [Sem.run_bind,hg,Result.andThen_ok]
    have fin : ∀ (op : BinOp),op ≠ .shl → op ≠ .shr → binOb op (.int k a) (.int k b) → intOp op k a b = some r → ∃ z,(binOp op t (.int k a) (.int k b)).run P w = .ok z w ∧ VRel G r z := by
      intro op h1 h2 hob he
      cases op <;> simp only [binOb,intOp] at he hob <;> first
        | (cases he; done)
        | (exact absurd rfl h1)
        | (exact absurd rfl h2)
        | (injection he with he
           subst he
           first
             | refine ⟨_,?_,.int _ _⟩
             | refine ⟨_,?_,.bool _⟩
           simp only [binOp,ne_eq,not_true_eq_false,if_false]
           first
             | rfl
             | (simp only [Op.intDiv,hob,if_false]; rfl))
    by_cases h1 : op = .shl
    · subst h1
      simp only [binEv,binOb] at he hob
      injection he with he
      subst he
      refine ⟨_,?_,.int _ _⟩
      simp only [binOp,Op.shift,Int.not_lt.2 hob,if_false]
      rfl
    by_cases h2 : op = .shr
    · subst h2
      simp only [binEv,binOb] at he hob
      injection he with he
      subst he
      refine ⟨_,?_,.int _ _⟩
      simp only [binOp,Op.shift,Int.not_lt.2 hob,if_false]
      rfl
    by_cases hk : k = k'
    · subst hk
      refine fin op h1 h2 ?_ ?_
      · cases op <;> exact hob
      · cases op <;> simp_all [binEv]
    · cases op <;> simp_all [binEv]
  · rename_i a b
    have hg : (eqGuard op t ox oy (.string ⟨a.toArray⟩) (.string ⟨b.toArray⟩)).run P w = .ok () w := by
      unfold eqGuard
      split <;> rfl
    simp only [Sem.run_bind,hg,Result.andThen_ok]
    cases op <;> simp only [binEv,binOb,strOp] at he hob <;> first
      | cases he; done
      | (injection he with he; subst he)
    all_goals first
      | refine ⟨_,?_,.bool _⟩
      | refine ⟨_,?_,.str _⟩
    all_goals try (simp only [binOp,Op.stringOp,ByteArray.toList_mk]; rfl)
    have hs : ¬ ((((ByteArray.mk a.toArray).size + (ByteArray.mk b.toArray).size : Nat) : Int) > IntKind.i64.max) := by
      simp [IntKind.max,IntKind.signed,IntKind.bits,ByteArray.size]
      omega
    simp only [binOp,Op.stringOp,hs,if_false,Sem.run_pure]
    congr 2
def unEv (op : UnOp) (x : AV) : Option AV :=
  match op,x with
  | .not,.bool b => some (.bool (!b))
  | .neg,.int k n => some (.int k (k.wrap (0 - n)))
  | .xor,.int k n => some (.int k (k.wrap (BitVec.ofInt k.bits (if k.signed then -1 else k.max) ^^^ BitVec.ofInt k.bits n).toNat))
  | _,_ => none
theorem run_un {P : Program} {w : World} {G : Gh} {op : UnOp} {x r : AV} {u : Value} (hx : VRel G x u) (he : unEv op x = some r) : ∃ z,(Op.unary op u).run P w = .ok z w ∧ VRel G r z := by
  cases op <;> cases hx <;> simp only [unEv] at he <;> first
    | (cases he; done)
    | (injection he with he; subst he)
  all_goals first
    | refine ⟨_,?_,.int _ _⟩
    | refine ⟨_,?_,.bool _⟩
  all_goals rfl
inductive EK where
  | i
  | s
  | b
  deriving DecidableEq
def eqCell : EK → AV → AV → Option Bool
  | .i,.int k a,.int k' b => if k = k' then some (a == b) else none
  | .s,.str a,.str b => some (a == b)
  | .b,.bool a,.bool b => some (a == b)
  | _,_,_ => none
def eqCells : List EK → List AV → List AV → Option Bool
  | [],[],[] => some true
  | k :: ks,x :: xs,y :: ys => (eqCell k x y).bind fun b => (eqCells ks xs ys).map fun r => b && r
  | _,_,_ => none
def tyKind (P : Program) (t : TypeId) : Option EK :=
  match P.underlying t with
  | some (.int _) => some .i
  | some .string => some .s
  | some .bool => some .b
  | _ => none
def flatFields (P : Program) : Nat → List EK → List Field → Bool
  | _,[],[] => true
  | i,k :: ks,f :: fs => f.offset == i && f.name != "_" && decide (tyKind P f.type = some k) && flatFields P (i + 1) ks fs
  | _,_,_ => false
def flatTy (P : Program) (ks : List EK) (t : TypeId) : Bool :=
  match P.underlying t with
  | some (.struct fs) => !P.stoodInHeld t && flatFields P 0 ks fs.toList && !P.eqGuardType P.depth t
  | _ => false
theorem run_eqCell {P : Program} {w : World} {G : Gh} {t : TypeId} {k : EK} {x y : AV} {u v : Value} {b : Bool} (hx : VRel G x u) (hy : VRel G y v) (ht : tyKind P t = some k) (he : eqCell k x y = some b) (d : Nat) :
    (Op.equalIn (d + 1) t u v).run P w = .ok b w := by
  unfold tyKind at ht
  split at ht
  · rename_i h
    injection ht with ht
    subst ht
    cases hx <;> cases hy <;> simp only [eqCell] at he <;> first
      | (cases he; done)
      | skip
    split at he
    · rename_i hk
      injection he with he
      subst he hk
      simp [Op.equalIn,run_und h]
    · cases he
  · rename_i h
    injection ht with ht
    subst ht
    cases hx <;> cases hy <;> simp only [eqCell] at he <;> first
      | (cases he; done)
      | skip
    injection he with he
    subst he
    rw [run_equalIn_string _ _ _ _ _ h,ByteArray.toList_mk,ByteArray.toList_mk]
  · rename_i h
    injection ht with ht
    subst ht
    cases hx <;> cases hy <;> simp only [eqCell] at he <;> first
      | (cases he; done)
      | skip
    injection he with he
    subst he
    simp [Op.equalIn,run_und h]
  · cases ht
theorem tyKind_agg {P : Program} {t : TypeId} {k : EK} (ht : tyKind P t = some k) : known P t = true ∧ isAggB P t = false := by
  unfold tyKind at ht
  split at ht <;> first
    | (cases ht; done)
    | (rename_i h; simp [known,isAggB,h])
theorem run_part {P : Program} {w : World} {t : TypeId} {k : EK} (ht : tyKind P t = some k) {vs : List Value} {i : Nat} {v : Value} (hv : vs[i]? = some v) : (part t vs.toArray i).run P w = .ok v w := by
  obtain ⟨h1,h2⟩ := tyKind_agg ht
  simp [part,run_isAggB h1,h2,hv]
theorem run_eqFields {P : Program} {w : World} {G : Gh} (d : Nat) {xs ys : List Value} : ∀ {ks : List EK} {fs : List Field} {cs ds : List AV} {i : Nat} {b : Bool},
    flatFields P i ks fs = true → eqCells ks cs ds = some b → (∀ (m : Nat) (c : AV),cs[m]? = some c → ∃ v,xs[i + m]? = some v ∧ VRel G c v) → (∀ (m : Nat) (c : AV),ds[m]? = some c → ∃ v,ys[i + m]? = some v ∧ VRel G c v) →
    (Op.eqFields (d + 1) xs.toArray ys.toArray fs).run P w = .ok b w
  | [],[],[],[],i,b,_,he,_,_ => by
    simp [eqCells] at he
    subst he
    simp [Op.eqFields]
  | k :: ks,f :: fs,c :: cs,e :: es,i,b,hf,he,hx,hy => by
    simp only [flatFields,Bool.and_eq_true,decide_eq_true_eq,bne_iff_ne,beq_iff_eq] at hf
    obtain ⟨⟨⟨h1,h2⟩,h3⟩,h4⟩ := hf
    simp only [eqCells,Option.bind_eq_some_iff,Option.map_eq_some_iff] at he
    obtain ⟨b1,h5,r,h6,rfl⟩ := he
    obtain ⟨u,h7,h8⟩ := hx 0 c rfl
    obtain ⟨v,h9,h10⟩ := hy 0 e rfl
    rw [Nat.add_zero] at h7 h9
    have ih := run_eqFields (P := P) (w := w) (G := G) d (xs := xs) (ys := ys) (i := i + 1) h4 h6
      (fun m c' hm => by have := hx (m + 1) c' (by simpa using hm); rwa [show i + (m + 1) = i + 1 + m from by omega] at this)
      (fun m c' hm => by have := hy (m + 1) c' (by simpa using hm); rwa [show i + (m + 1) = i + 1 + m from by omega] at this)
    subst h1
    simp only [Op.eqFields,h2,ne_eq,not_false_eq_true,if_true,Sem.run_bind,run_part h3 h7,run_part h3 h9,Result.andThen_ok,run_eqCell h8 h10 h3 h5]
    cases b1 with
    | true => simpa using ih
    | false => simp
  | [],[],[],_ :: _,_,_,_,he,_,_ => by simp [eqCells] at he
  | [],[],_ :: _,_,_,_,_,he,_,_ => by simp [eqCells] at he
  | [],_ :: _,_,_,_,_,hf,_,_,_ => by simp [flatFields] at hf
  | _ :: _,[],_,_,_,_,hf,_,_,_ => by simp [flatFields] at hf
  | _ :: _,_ :: _,[],_,_,_,_,he,_,_ => by simp [eqCells] at he
  | _ :: _,_ :: _,_ :: _,[],_,_,_,he,_,_ => by simp [eqCells] at he
def eqvEv (ks : List EK) (neg : Bool) (x y : AV) : Option AV :=
  match x,y with
  | .agg cs,.agg ds => (eqCells ks cs ds).map fun b => .bool (if neg then !b else b)
  | _,_ => none
theorem run_eqv {P : Program} {w : World} {G : Gh} {t : TypeId} {ks : List EK} {neg : Bool} {x y r : AV} {u v : Value} (hx : VRel G x u) (hy : VRel G y v) (ht : flatTy P ks t = true) (he : eqvEv ks neg x y = some r) (ox oy : Operand) :
    ∃ z,(do eqGuard (if neg then .neq else .eql) t ox oy u v; binOp (if neg then .neq else .eql) t u v).run P w = .ok z w ∧ VRel G r z := by
  cases hx <;> cases hy <;> simp only [eqvEv] at he <;> first
    | (cases he; done)
    | skip
  rename_i cs vs hl ho hv ds ws hl' ho' hv'
  simp only [Option.map_eq_some_iff] at he
  obtain ⟨b,he,rfl⟩ := he
  unfold flatTy at ht
  split at ht
  · rename_i fs hfs
    simp only [Bool.and_eq_true,Bool.not_eq_true'] at ht
    obtain ⟨⟨h1,h2⟩,h3⟩ := ht
    have hfo : P.fieldsOf t = fs := by unfold Program.fieldsOf; rw [hfs]
    have hagg := run_equalIn_agg (P := P) w 9999 t vs.toArray ws.toArray (by rw [hfo]; exact hfs) h1
    have hrun : (Op.equalIn 10000 t (.agg vs.toArray) (.agg ws.toArray)).run P w = .ok b w := by
      rw [hagg,hfo]
      refine run_eqFields (G := G) 9998 h2 he (fun m c hc => ?_) (fun m c hc => ?_)
      · obtain ⟨z,h4,h5,_⟩ := (CRel.mk hl ho hv).get hc
        exact ⟨z,by simpa using h4,h5⟩
      · obtain ⟨z,h4,h5,_⟩ := (CRel.mk hl' ho' hv').get hc
        exact ⟨z,by simpa using h4,h5⟩
    refine ⟨_,?_,.bool _⟩
    simp only [Sem.run_bind,run_eqGuard_agg w _ t ox oy _ _ h3,Result.andThen_ok]
    cases neg
    · simp only [Bool.false_eq_true,if_false]
      rw [run_eql_struct,hrun]
      rfl
    · simp only [if_true]
      rw [run_neq_struct,hrun]
      rfl
  · cases ht
end Go.V
namespace Go.V
open Go
def cellsFit : List AV → List Value → Bool
  | [],[] => true
  | a :: as,v :: vs => constFits a v && v.oneCell' && cellsFit as vs
  | _,_ => false
theorem cellsFit_rel {G : Gh} : ∀ {as : List AV} {vs : List Value},cellsFit as vs = true → CRel G as vs
  | [],[],_ => .nil G
  | [],_ :: _,h => by cases h
  | _ :: _,[],h => by cases h
  | a :: as,v :: vs,h => by
    simp only [cellsFit,Bool.and_eq_true] at h
    exact .cons (constFits_rel h.1.1) h.1.2 (cellsFit_rel h.2)
def zeroIs (P : Program) (t : TypeId) (z : List AV) : Bool :=
  match P.info? t with
  | some i => match i.zero with
    | some v => cellsFit z v.cells.toList
    | none => false
  | none => false
theorem run_zeroIs {P : Program} {t : TypeId} {z : List AV} (h : zeroIs P t z = true) (w : World) : ∃ v,(zeroValue t).run P w = .ok v w ∧ ∀ G,CRel G z v.cells.toList := by
  unfold zeroIs at h
  split at h
  · rename_i i hi
    split at h
    · rename_i v hv
      exact ⟨v,by simp [zeroValue,typeInfo,hi,hv],fun G => cellsFit_rel h⟩
    · cases h
  · cases h
theorem sem_newVar {P : Program} {wb : Base} {G : Gh} {S : St} {w : World} (h : StRel wb G S w) {t : TypeId} {v : Value} {cs : List AV} (hc : CRel G cs v.cells.toList) :
    SemOK P wb G (do pure (.pointer (some (← newVar t v)))) w (.ptr S.n 0) { S with n := S.n + 1,obj := (S.n,cs) :: S.obj } := by
  obtain ⟨G',h1,h2,h3⟩ := h.newObj (E := t) hc
  refine ⟨.pointer (some ⟨w.heap.size,0,none⟩),w.alloc (.cells v.cells t),G',?_,h1,by simpa using h3,.ptr h2⟩
  simp [newVar,newRow]
theorem sem_alloc {P : Program} {wb : Base} {G : Gh} {S : St} {w : World} (h : StRel wb G S w) {t : TypeId} {z : List AV} (hz : zeroIs P t z = true) :
    SemOK P wb G (Instr.alloc t true (.tuple #[])) w (.ptr S.n 0) { S with n := S.n + 1,obj := (S.n,z) :: S.obj } := by
  obtain ⟨v,h1,h2⟩ := run_zeroIs hz w
  obtain ⟨v',w',G',h3,h4⟩ := sem_newVar (P := P) h (t := t) (v := v) (h2 G)
  refine ⟨v',w',G',?_,h4⟩
  simp only [Instr.alloc,Sem.run_bind,h1,Result.andThen_ok]
  exact h3
theorem sem_box {P : Program} {wb : Base} {G : Gh} {S : St} {w : World} (h : StRel wb G S w) {t : TypeId} {x : AV} {u : Value} (hx : VRel G x u) (hs : x.solid = true) :
    SemOK P wb G (Instr.box t u) w (.ptr S.n 0) { S with n := S.n + 1,obj := (S.n,x.cells) :: S.obj } :=
  sem_newVar h (hx.cells hs)
def storeEv (n : Nat) (S : St) (p x : AV) : Option St :=
  match p with
  | .ptr l o => (S.get l).bind fun cs => if isBld cs then none else if x.solid && x.cells.length == n && decide (o + n ≤ cs.length) then some (S.set l (splice cs o x.cells)) else none
  | _ => none
theorem run_store_at {P : Program} {wb : Base} {G : Gh} {S S' : St} {w : World} (h : StRel wb G S w) {t : TypeId} {n : Nat} {p x : AV} {u v : Value} (hp : VRel G p u) (hx : VRel G x v) (hs : sizeIs P t n = true)
    (he : storeEv n S p x = some S') : ∃ w',(Instr.storeAt t u v).run P w = .ok () w' ∧ StRel wb G S' w' := by
  cases hp <;> simp only [storeEv] at he <;> first
    | (cases he; done)
    | skip
  rename_i l o r hr
  simp only [Option.bind_eq_some_iff] at he
  obtain ⟨cs,h1,he⟩ := he
  split at he
  · cases he
  rename_i hnb
  have hnb : isBld cs = false := by simpa using hnb
  split at he
  · rename_i hc
    simp only [Bool.and_eq_true,beq_iff_eq,decide_eq_true_eq] at hc
    obtain ⟨⟨h2,h3⟩,h4⟩ := hc
    injection he with he
    subst he
    have hcr := hx.cells h2
    have hlen : v.cells.size = n := by have := hcr.len; simp at this; omega
    refine ⟨putCells w r o v.cells.toList,?_,h.store h1 hr hcr (by omega) hnb⟩
    simp only [Instr.storeAt,Instr.sureAddr,storeVar,Sem.run_bind,Sem.run_pure,Result.andThen_ok,run_sizeIs hs,hlen,ne_eq,not_true_eq_false,if_false]
    obtain ⟨r',hr',hm⟩ := h.obj l cs h1 hnb
    obtain rfl : r = r' := by rw [hr] at hr'; exact Option.some.inj hr'
    have := run_storeCells (P := P) r o v.cells.toList w 0 hcr.one (fun j hj => by
      obtain ⟨y,h5,_,_,h6⟩ := hm (o + 0 + j) (cs[o + 0 + j]'(by simp at hj; omega)) (by simp)
      exact ⟨⟨y,h5⟩,h6⟩)
    simpa using this
  · cases he
def AV.plus (p : AV) (n : Nat) : Option AV :=
  match p with
  | .ptr l o => some (.ptr l (o + n))
  | .gp g o => some (.gp g (o + n))
  | .eptr k xs i o => some (.eptr k xs i (o + n))
  | _ => none
theorem plus_rel {G : Gh} {p q : AV} {u : Value} {n : Nat} (hp : VRel G p u) (he : p.plus n = some q) : ∃ r o,u = .pointer (some ⟨r,o,none⟩) ∧ VRel G q (.pointer (some ⟨r,o + n,none⟩)) := by
  cases hp <;> simp only [AV.plus] at he <;> first
    | (cases he; done)
    | (injection he with he; subst he)
  · exact ⟨_,_,rfl,.ptr ‹_›⟩
  · exact ⟨_,_,rfl,.gp _ _⟩
  · rename_i k xs i off r b f hk hp ho hv
    refine ⟨r,_,rfl,?_⟩
    have := VRel.eptr (G := G) (i := i) (off := off + n) f hk hp ho hv
    rwa [show b + i * k + (off + n) = b + i * k + off + n from by omega] at this
def fieldIs (P : Program) (s : TypeId) (f off : Nat) : Bool :=
  match P.underlying s with
  | some (.struct fs) => match fs[f]? with
    | some fd => fd.offset == off && (match P.info? fd.type with | some i => i.size != 0 | none => false)
    | none => false
  | _ => false
theorem run_fieldAt {P : Program} {w : World} {G : Gh} {s : TypeId} {f off : Nat} {p q : AV} {u : Value} (hp : VRel G p u) (hf : fieldIs P s f off = true) (he : p.plus off = some q) :
    ∃ v,(Instr.fieldAt s u f).run P w = .ok v w ∧ VRel G q v := by
  obtain ⟨r,o,rfl,h1⟩ := plus_rel hp he
  refine ⟨_,?_,h1⟩
  unfold fieldIs at hf
  split at hf
  · rename_i fs hfs
    split at hf
    · rename_i fd hfd
      simp only [Bool.and_eq_true,beq_iff_eq] at hf
      obtain ⟨h2,h3⟩ := hf
      split at h3
      · rename_i i hi
        have hsz : (Go.sizeOf fd.type).run P w = .ok i.size w := by simp [Go.sizeOf,typeInfo,hi]
        have hnz : i.size ≠ 0 := by simpa using h3
        simp only [Instr.fieldAt,Sem.run_bind,run_und hfs,Result.andThen_ok,hfd,Instr.sureAddr,Sem.run_pure,fieldPlace,hsz,hnz,if_false,add_none,h2]
      · cases h3
    · cases hf
  · cases hf
theorem run_indexAt_sl {P : Program} {w : World} {G : Gh} {t e : TypeId} {k : Nat} {xs : List AV} {tk : STok} {u v : Value} {ki : IntKind} {n : Int} (hx : VRel G (.sl k xs tk) u) (hi : VRel G (.int ki n) v)
    (ht : P.underlying t = some (.slice e)) (hs : sizeIs P e k = true) (h0 : 0 ≤ n) (h1 : n < xs.length) : ∃ z,(Instr.indexAt t u v).run P w = .ok z w ∧ VRel G (.eptr k xs n.toNat 0) z := by
  cases hi
  cases hx with
  | slnil => simp at h1; omega
  | sl f hk hp ho hv hc htk =>
    rename_i r b cap
    have hn : 0 ≤ n ∧ n < (xs.length : Int) := ⟨h0,h1⟩
    refine ⟨.pointer (some ⟨r,b + n.toNat * k + 0,none⟩),?_,.eptr f hk hp ho hv⟩
    simp [Instr.indexAt,asIntOf,run_und ht,hn,run_sizeIs hs,add_none]
theorem run_indexAt_osl {P : Program} {w : World} {G : Gh} {t e : TypeId} {k m l o : Nat} {u v : Value} {ki : IntKind} {n : Int} (hx : VRel G (.osl k m l o) u) (hi : VRel G (.int ki n) v)
    (ht : P.underlying t = some (.slice e)) (hs : sizeIs P e k = true) (h0 : 0 ≤ n) (h1 : n < m) : ∃ z,(Instr.indexAt t u v).run P w = .ok z w ∧ VRel G (.ptr l (o + n.toNat * k)) z := by
  cases hi
  cases hx with
  | osl _ h hc hz =>
    rename_i r cap
    have hn : 0 ≤ n ∧ n < (m : Int) := ⟨h0,h1⟩
    refine ⟨.pointer (some ⟨r,o + n.toNat * k,none⟩),?_,.ptr h⟩
    simp [Instr.indexAt,asIntOf,run_und ht,hn,run_sizeIs hs,add_none]
theorem run_indexAt_arr {P : Program} {w : World} {G : Gh} {t e : TypeId} {k len : Nat} {p q : AV} {u v : Value} {ki : IntKind} {n : Int} (hx : VRel G p u) (hi : VRel G (.int ki n) v)
    (ht : P.underlying t = some (.array len e)) (hs : sizeIs P e k = true) (h0 : 0 ≤ n) (h1 : n < len) (he : p.plus (n.toNat * k) = some q) : ∃ z,(Instr.indexAt t u v).run P w = .ok z w ∧ VRel G q z := by
  cases hi
  obtain ⟨r,o,rfl,h2⟩ := plus_rel hx he
  refine ⟨_,?_,h2⟩
  have hn : 0 ≤ n ∧ n < (len : Int) := ⟨h0,h1⟩
  simp [Instr.indexAt,asIntOf,run_und ht,Instr.sureAddr,hn,run_sizeIs hs,add_none]
theorem run_index_str {P : Program} {w : World} {G : Gh} {t : TypeId} {s : List UInt8} {u v : Value} {ki : IntKind} {n : Int} (hx : VRel G (.str s) u) (hi : VRel G (.int ki n) v) (ht : P.underlying t = some .string)
    (h0 : 0 ≤ n) {b : UInt8} (h1 : s[n.toNat]? = some b) : ∃ z,(Instr.index t u v).run P w = .ok z w ∧ VRel G (.int .u8 b.toNat) z := by
  cases hi
  cases hx
  refine ⟨_,?_,.int _ _⟩
  have hlt : n.toNat < s.length := by
    rcases Nat.lt_or_ge n.toNat s.length with h | h
    · exact h
    · rw [List.getElem?_eq_none h] at h1; cases h1
  have hb : (ByteArray.mk s.toArray)[n.toNat]? = some b := by
    rw [ByteArray.getElem?_lt' _ _ (by simpa [ByteArray.size] using hlt)]
    congr 1
    have : s[n.toNat] = b := by rw [List.getElem?_eq_getElem hlt] at h1; exact Option.some.inj h1
    rw [← this]
    rfl
  simp [Instr.index,asIntOf,run_und ht,h0,hb]
end Go.V
namespace Go.V
open Go
theorem sl_of_row {G : Gh} {k : Nat} {xs : List AV} {t : STok} {r b cap : Nat} {vs : List Value} (hk : ∀ x ∈ xs,x.cells.length = k) (hc : CRel G (flat xs) vs)
    (hp : ∀ (j : Nat) (v : Value),vs[j]? = some v → G.φ r (b + j) = some v) (hcap : xs.length ≤ cap) (ht : TokOK G t r (b + xs.length * k) (b + cap * k)) :
    VRel G (.sl k xs t) (.slice (some ⟨r,b,none⟩) xs.length cap) := by
  refine .sl (fun m => vs.getD m undef) hk (fun m c e => ?_) (fun m c e => ?_) (fun m c e => ?_) hcap ht
  all_goals
    obtain ⟨v,h1,h2,h3⟩ := hc.get e
    have : vs.getD m undef = v := by simp [List.getD,h1]
    rw [this]
  · exact hp m v h1
  · exact h3
  · exact h2
def rowOK (k : Nat) (xs : List AV) : Bool := xs.all fun x => x.solid && x.cells.length == k
theorem rowOK_spec {k : Nat} {xs : List AV} (h : rowOK k xs = true) : ∀ x ∈ xs,x.solid = true ∧ x.cells.length = k := by
  intro x hx
  have := List.all_eq_true.1 h x hx
  simpa using this
theorem flat_rel {G : Gh} : ∀ {xs : List AV} {vs : List Value},xs.length = vs.length → (∀ (m : Nat) (c : AV) (v : Value),xs[m]? = some c → vs[m]? = some v → VRel G c v) → (∀ x ∈ xs,x.solid = true) →
    CRel G (flat xs) (vs.flatMap fun v => v.cells.toList)
  | [],[],_,_,_ => .nil G
  | [],_ :: _,h,_,_ => by cases h
  | _ :: _,[],h,_,_ => by cases h
  | x :: xs,v :: vs,hl,hr,hs => by
    rw [flat_cons,List.flatMap_cons]
    exact .append ((hr 0 x v rfl rfl).cells (hs x (by simp))) (flat_rel (by simpa using hl) (fun m c u a b => hr (m + 1) c u (by simpa using a) (by simpa using b)) (fun y hy => hs y (by simp [hy])))
theorem sem_buildSlice {P : Program} {wb : Base} {G : Gh} {S : St} {w : World} (h : StRel wb G S w) {t e : TypeId} {k : Nat} {xs : List AV} {vs : List Value} {parts : Array (Nat × Value)} {z : List AV}
    (hl : xs.length = vs.length) (hr : ∀ (m : Nat) (c : AV) (v : Value),xs[m]? = some c → vs[m]? = some v → VRel G c v) (hx : rowOK k xs = true)
    (ht : P.underlying t = some (.slice e)) (hs : sizeIs P e k = true) (hz : zeroIs P e z = true) (hk : 0 < k) (hb : xs.length * k ≤ 16777216) (hp : parts.toList = (vs.zipIdx 0).map fun x => (x.2,x.1)) :
    SemOK P wb G (Instr.buildSlice t xs.length parts) w (.sl k xs .exact) S := by
  have hx' := rowOK_spec hx
  obtain ⟨zv,hz1,hz2⟩ := run_zeroIs hz w
  have hvk : ∀ v ∈ vs,v.cells.size = k := by
    intro v hv
    obtain ⟨m,hm,rfl⟩ := List.mem_iff_getElem.1 hv
    have hm' : m < xs.length := by omega
    have h1 := hx' xs[m] (by simp)
    have h2 := ((hr m xs[m] vs[m] (by simp [hm']) (by simp [hm])).cells h1.1).len
    rw [h1.2] at h2
    simpa using h2.symm
  have hfill : ∀ cells : Array Value,cells.size = xs.length * k → Instr.fill (fun i => some (i * k,k)) cells parts.toList = some (vs.flatMap fun v => v.cells.toList).toArray := by
    intro cells hc
    rw [hp]
    exact Great.fill_whole hk vs cells hvk (by rw [hc,hl])
  have hcr := flat_rel hl hr (fun x hm => (hx' x hm).1)
  obtain ⟨G',h1,h2,h3,h4,h5⟩ := h.promise (E := e) (fr := (0,0)) (row := vs.flatMap fun v => v.cells.toList) (vs := vs.flatMap fun v => v.cells.toList) (fun _ _ e => e)
  refine ⟨.slice (some ⟨w.heap.size,0,none⟩) xs.length xs.length,_,G',?_,h1,h4,?_⟩
  · have hb' : ¬ (xs.length * k > 2 ^ 24) := by omega
    simp only [Instr.buildSlice,Sem.run_bind,run_und ht,Result.andThen_ok,run_sizeIs hs,hb',if_false]
    by_cases h0 : xs.length * k = 0
    · simp only [h0,if_true,Sem.run_bind,Sem.run_pure,Result.andThen_ok]
      rw [hfill _ (by simp [h0])]
      simp [newRow]
    · simp only [h0,if_false,Sem.run_bind,hz1,Result.andThen_ok,Sem.run_pure]
      rw [hfill _ (by simp)]
      simp [newRow]
  · have := sl_of_row (G := G') (k := k) (xs := xs) (t := .exact) (r := w.heap.size) (b := 0) (cap := xs.length) (fun x hm => (hx' x hm).2) (hcr.mono h1) (fun j v e => by rw [Nat.zero_add,h5]; exact e) (Nat.le_refl _) rfl
    exact this
def byteAV (b : UInt8) : AV := .int .u8 b.toNat
def appArg (k : Nat) : AV → Option (List AV)
  | .sl k' ys _ => if k' = k then some ys else none
  | .str s => if k = 1 then some (s.map byteAV) else none
  | _ => none
def Able (S : St) (t : STok) : Prop := t = .exact ∨ ∃ n,t = .tok n ∧ n ∈ S.live
def St.use (S : St) (t : STok) : St := { S with nt := S.nt + 1,live := S.nt :: (match t with
  | .tok n => S.live.filter (· != n)
  | .new n => S.live.filter (· != n)
  | _ => S.live) }
theorem able_exact (S : St) : Able S .exact := .inl rfl
theorem able_use (S : St) (t : STok) : Able (S.use t) (.tok S.nt) := .inr ⟨_,rfl,by simp [St.use]⟩
def appEv (k : Nat) (S : St) (x y : AV) : Option (AV × St) :=
  match x with
  | .sl k' xs t => if k' = k then (appArg k y).map fun ys => (.sl k (xs ++ ys) (.tok S.nt),S.use t) else none
  | _ => none
def appNEv (k : Nat) (S : St) (x y : AV) : Option (AV × St) :=
  match x with
  | .sl k' xs t => if k' = k then (appArg k y).bind fun ys => (match t with
    | .new n => some (.sl k (xs ++ ys) (.new S.nt),S.use (.new n))
    | .exact => (match xs with
      | [] => (match ys with
        | [] => some (.sl k [] .exact,S)
        | a :: ys => some (.sl k (a :: ys) (.new S.nt),S.use .exact))
      | _ => none)
    | _ => none) else none
  | _ => none
def oslCells (k : Nat) (S : St) : AV → Option (List AV)
  | .osl k' n l o => if k' = k ∧ 0 < n then (S.get l).bind fun cs => if isBld cs then none else if o + n * k ≤ cs.length then some ((cs.drop o).take (n * k)) else none else none
  | _ => none
def oslLen : AV → Option Nat
  | .osl _ n _ _ => some n
  | _ => none
def appOEv (k : Nat) (S : St) (x y : AV) : Option (AV × St) :=
  match x with
  | .sl k' [] .exact => if k' = k then (match oslLen y with
    | some n => (oslCells k S y).map fun cs => (.osl k n S.n 0,{ S with n := S.n + 1,obj := (S.n,cs) :: S.obj })
    | none => (appArg k y).bind fun ys => (match ys with
      | [] => some (.sl k [] .exact,S)
      | a :: ys => some (.osl k (ys.length + 1) S.n 0,{ S with n := S.n + 1,obj := (S.n,flat (a :: ys)) :: S.obj }))) else none
  | _ => none
def appOOb (k bytes : Nat) (y : AV) : Prop :=
  match oslLen y with
  | some n => n * bytes ≤ 140737488355328 ∧ n ≤ 9223372036854775807
  | none => match appArg k y with
    | some ys => ys.length * bytes ≤ 140737488355328 ∧ ys.length ≤ 9223372036854775807
    | none => True
def appSrc (k : Nat) (S : St) (y : AV) : Option (Nat × List AV) :=
  match oslLen y with
  | some n => (oslCells k S y).map fun cs => (n,cs)
  | none => (appArg k y).map fun ys => (ys.length,flat ys)
def appGEv (k : Nat) (S : St) (x y : AV) : Option (AV × St) :=
  match x with
  | .osl k' n l 0 => (appSrc k S y).bind fun p =>
    if p.1 = 0 then some (x,S) else
    (oslCells k S (.osl k' n l 0)).map fun cs => (.osl k (n + p.1) S.n 0,{ S with n := S.n + 1,obj := (S.n,cs ++ p.2) :: (l,deadC) :: S.obj })
  | .sl _ _ _ => appOEv k S x y
  | _ => none
def oslN : AV → Nat
  | .osl _ n _ _ => n
  | _ => 0
def appGOb (k bytes : Nat) (x y : AV) : Prop :=
  match oslLen y with
  | some n => (oslN x + n) * bytes ≤ 140737488355328 ∧ oslN x + n ≤ 9223372036854775807
  | none => match appArg k y with
    | some ys => (oslN x + ys.length) * bytes ≤ 140737488355328 ∧ oslN x + ys.length ≤ 9223372036854775807
    | none => True
def appNOb (k bytes : Nat) (S : St) (x y : AV) : Prop :=
  match x with
  | .sl _ xs t => (match t with
     | .new n => n ∈ S.live
     | _ => True) ∧ (match appArg k y with
     | some ys => (xs.length + ys.length) * bytes ≤ 140737488355328 ∧ xs.length + ys.length ≤ 9223372036854775807
     | none => True)
  | _ => True
def appOb (k bytes : Nat) (S : St) (x y : AV) : Prop :=
  match x with
  | .sl _ xs t => Able S t ∧ (match appArg k y with
     | some ys => (xs.length + ys.length) * bytes ≤ 140737488355328 ∧ xs.length + ys.length ≤ 9223372036854775807
     | none => True)
  | _ => True
theorem byte_cells (s : List UInt8) : flat (s.map byteAV) = s.map byteAV := by
  induction s with
  | nil => rfl
  | cons b s ih => rw [List.map_cons,flat_cons,ih]; rfl
theorem bytes_rel (G : Gh) (s : List UInt8) : CRel G (s.map byteAV) (s.map fun b => Value.int .u8 b.toNat) := by
  induction s with
  | nil => exact .nil G
  | cons b s ih => exact .cons (.int _ _) rfl ih
theorem appArg_cells {P : Program} {wb : Base} {G : Gh} {S : St} {w : World} (h : StRel wb G S w) {k : Nat} {y : AV} {ys : List AV} {v : Value} (hy : VRel G y v) (ha : appArg k y = some ys) (hk : 0 < k) :
    ∃ us : List Value,CRel G (flat ys) us ∧ (∀ x ∈ ys,x.cells.length = k) ∧ (Builtin.lenOf v).run P w = .ok ys.length w ∧
      ∀ w',(∀ r o u,G.φ r o = some u → w'.cell? ⟨r,o,none⟩ = some u) → (Builtin.firstCells k ys.length v).run P w' = .ok us.toArray w' := by
  cases hy <;> simp only [appArg] at ha <;> first
    | (cases ha; done)
    | skip
  · rename_i s
    split at ha
    · rename_i hk1
      injection ha with ha
      subst ha hk1
      refine ⟨_,by rw [byte_cells]; exact bytes_rel G s,?_,?_,fun w' _ => ?_⟩
      · intro x hx
        obtain ⟨b,_,rfl⟩ := List.mem_map.1 hx
        rfl
      · simp [Builtin.lenOf,ByteArray.size]
      · simp only [Builtin.firstCells,Sem.run_pure]
        congr 1
        have : (ByteArray.mk s.toArray).extract 0 (s.map byteAV).length = ByteArray.mk s.toArray := by
          apply ByteArray.ext
          simp
        rw [this]
        simp
    · cases ha
  · split at ha
    · injection ha with ha
      subst ha
      exact ⟨[],.nil G,by simp,by simp [Builtin.lenOf],fun w' _ => by
        rename_i ad _ _
        cases ad <;> simp [Builtin.firstCells,loadCells,loadCellsFrom]⟩
    · cases ha
  · rename_i k' xs t r b cap f hk' hp ho hv hc ht
    split at ha
    · rename_i hkk
      injection ha with ha
      subst ha hkk
      have hat : At w G r b (flat xs) := At.of_row h hp ho hv
      let us : List Value := (List.range (flat xs).length).map f
      have hus : ∀ (m : Nat) (c : AV),(flat xs)[m]? = some c → us[m]? = some (f m) := fun m c e => by
        have hm : m < (flat xs).length := by
          rcases Nat.lt_or_ge m (flat xs).length with h' | h'
          · exact h'
          · rw [List.getElem?_eq_none h'] at e; cases e
        simp [us,hm]
      refine ⟨us,⟨by simp [us],?_,?_⟩,hk',by simp [Builtin.lenOf],fun w' hw' => ?_⟩
      · intro v hv'
        simp only [us,List.mem_map,List.mem_range] at hv'
        obtain ⟨m,hm,rfl⟩ := hv'
        exact ho m _ (List.getElem?_eq_getElem hm)
      · intro m c v h1 h2
        rw [hus m c h1] at h2
        injection h2 with h2
        subst h2
        exact hv m c h1
      · have := run_firstCells_some (P := P) w' k' xs.length ⟨r,b,none⟩ xs.length cap us (by simp [us,flat_length hk']) (fun j u e => by
          rw [add_none]
          have hj : j < (flat xs).length := by
            rcases Nat.lt_or_ge j (flat xs).length with h' | h'
            · exact h'
            · have : us.length ≤ j := by simp [us]; exact h'
              rw [List.getElem?_eq_none this] at e; cases e
          rw [hus j _ (List.getElem?_eq_getElem hj)] at e
          injection e with e
          subst e
          exact hw' _ _ _ (hp j _ (List.getElem?_eq_getElem hj)))
        exact this
    · cases ha
theorem oslArg_cells {P : Program} {wb : Base} {G : Gh} {S : St} {w : World} (h : StRel wb G S w) {k n : Nat} {y : AV} {cs : List AV} {v : Value} (hy : VRel G y v) (hn : oslLen y = some n) (ha : oslCells k S y = some cs) :
    ∃ us : List Value,CRel G cs us ∧ 0 < n ∧ (Builtin.lenOf v).run P w = .ok n w ∧ ∀ w',(∀ a,w'.cell? a = w.cell? a) → (Builtin.firstCells k n v).run P w' = .ok us.toArray w' := by
  cases y <;> simp only [oslLen] at hn <;> first
    | (cases hn; done)
    | skip
  rename_i k' n' l o
  injection hn with hn
  subst hn
  simp only [oslCells] at ha
  split at ha
  rotate_left
  · cases ha
  rename_i hk
  obtain ⟨rfl,hpos⟩ := hk
  simp only [Option.bind_eq_some_iff] at ha
  obtain ⟨cs0,hg,ha⟩ := ha
  split at ha
  · cases ha
  rename_i hnb
  split at ha
  rotate_left
  · cases ha
  rename_i hle
  injection ha with ha
  subst ha
  cases hy
  rename_i r cap hcap hr hcz
  obtain ⟨r',hr',hm⟩ := h.obj l cs0 hg (by simpa using hnb)
  rw [hr] at hr'
  cases hr'
  let f : Nat → Value := fun m => (w.cell? ⟨r,o + m,none⟩).getD undef
  have hlen : ((cs0.drop o).take (n' * k')).length = n' * k' := by simp; omega
  have hget : ∀ m c,((cs0.drop o).take (n' * k'))[m]? = some c → cs0[o + m]? = some c := fun m c e => by
    rw [List.getElem?_take] at e
    split at e
    · rw [List.getElem?_drop] at e; exact e
    · cases e
  have hf : ∀ m c,((cs0.drop o).take (n' * k'))[m]? = some c → w.cell? ⟨r,o + m,none⟩ = some (f m) ∧ VRel G c (f m) ∧ (f m).oneCell' = true := fun m c e => by
    obtain ⟨v,a1,a2,a3,_⟩ := hm (o + m) c (hget m c e)
    simp only [f,a1,Option.getD_some]
    exact ⟨trivial,a2,a3⟩
  let us : List Value := (List.range (n' * k')).map f
  have hus : ∀ m c,((cs0.drop o).take (n' * k'))[m]? = some c → us[m]? = some (f m) := fun m c e => by
    have hm : m < n' * k' := by rw [← hlen]; exact (List.getElem?_eq_some_iff.1 e).1
    simp [us,hm]
  refine ⟨us,⟨by simp only [us,List.length_map,List.length_range]; exact hlen,?_,?_⟩,hpos,by simp [Builtin.lenOf],fun w' hw' => ?_⟩
  · intro v hv'
    simp only [us,List.mem_map,List.mem_range] at hv'
    obtain ⟨m,hm,rfl⟩ := hv'
    exact (hf m _ (List.getElem?_eq_getElem (by rw [hlen]; exact hm))).2.2
  · intro m c v h1 h2
    rw [hus m c h1] at h2
    injection h2 with h2
    subst h2
    exact (hf m c h1).2.1
  · refine run_firstCells_some (P := P) w' k' n' ⟨r,o,none⟩ n' cap us (by simp [us]) fun j u e => ?_
    rw [add_none,hw']
    have hj : j < n' * k' := by
      rcases Nat.lt_or_ge j (n' * k') with h' | h'
      · exact h'
      · have : us.length ≤ j := by simp [us]; exact h'
        rw [List.getElem?_eq_none this] at e; cases e
    rw [hus j _ (List.getElem?_eq_getElem (by rw [hlen]; exact hj))] at e
    injection e with e
    subst e
    exact (hf j _ (List.getElem?_eq_getElem (by rw [hlen]; exact hj))).1
end Go.V
namespace Go.V
open Go
def appTy (P : Program) (t t2 : TypeId) (k bytes : Nat) : Bool :=
  (match P.underlying t with
   | some (.slice e) => match P.info? e with
     | some i => i.size == k && i.bytes == bytes && decide (0 < k) && (match i.zero with
       | some z => z.cells.size == k
       | none => false)
     | none => false
   | _ => false) &&
  (match P.underlying t2 with
   | some .string => true
   | some (.slice _) => true
   | _ => false)
theorem run_append_in {P : Program} {w w' : World} {t t2 ty e : TypeId} {i : TypeInfo} (ht : P.underlying t = some (.slice e)) (hi : P.info? e = some i) {d2 : TypeDesc} (ht2 : P.underlying t2 = some d2) (hd2 : d2 = .string ∨ ∃ x,d2 = .slice x)
    {base : Option Addr} {sLen sCap n : Nat} {v : Value} {us : Array Value} (hn : (Builtin.lenOf v).run P w = .ok n w) (hu : (Builtin.firstCells i.size n v).run P w = .ok us w) (hroom : sLen + n ≤ sCap)
    (hst : ∀ a,base = some a → (storeCells (a.add (sLen * i.size)) us.toList).run P w = .ok () w') (hnone : base = none → w' = w) :
    (Builtin.append_ #[t,t2] ty #[.slice base sLen sCap,v]).run P w = .ok (.slice base (sLen + n) sCap) w' := by
  have hs : (Go.sizeOf e).run P w = .ok i.size w := by simp [Go.sizeOf,typeInfo,hi]
  rcases hd2 with rfl | ⟨x,rfl⟩ <;> cases base with
  | none =>
    obtain rfl := hnone rfl
    simp [Builtin.append_,run_und ht,run_und ht2,hs,hn,hroom,hu]
  | some a =>
    have := hst a rfl
    simp [Builtin.append_,run_und ht,run_und ht2,hs,hn,hroom,hu,this]
theorem run_append_out {P : Program} {w : World} {t t2 ty e : TypeId} {i : TypeInfo} {z : Value} (ht : P.underlying t = some (.slice e)) (hi : P.info? e = some i) (hz : i.zero = some z) {d2 : TypeDesc} (ht2 : P.underlying t2 = some d2) (hd2 : d2 = .string ∨ ∃ x,d2 = .slice x)
    {base : Option Addr} {sLen sCap n : Nat} {v : Value} {us os : Array Value} (hn : (Builtin.lenOf v).run P w = .ok n w) (hu : (Builtin.firstCells i.size n v).run P w.drew = .ok us w.drew)
    (ho : (Builtin.firstCells i.size sLen (.slice base sLen sCap)).run P w.drew = .ok os w.drew) (hroom : ¬ sLen + n ≤ sCap)
    (h63 : ((sLen + n : Nat) : Int) ≤ 9223372036854775807) (hfit : (sLen + n) * i.bytes ≤ 140737488355328) :
    (Builtin.append_ #[t,t2] ty #[.slice base sLen sCap,v]).run P w =
      .ok (.slice (some ⟨w.heap.size,0,none⟩) (sLen + n) (grownCap w (sLen + n) sCap e)) (w.drew.alloc (.cells (os ++ us ++ Builtin.zeroCells z.cells (grownCap w (sLen + n) sCap e - (sLen + n))) e)) := by
  have hs : (Go.sizeOf e).run P w = .ok i.size w := by simp [Go.sizeOf,typeInfo,hi]
  have h48 : ¬ (281474976710656 < Builtin.nextslicecap (sLen + n) sCap * i.bytes) := by
    have := growslice_fits (need := sLen + n) (old := sCap) (bytes := i.bytes) (by omega) hfit
    omega
  have h63' : ¬ (9223372036854775807 < ((sLen : Int) + (n : Int))) := by omega
  rcases hd2 with rfl | ⟨x,rfl⟩
  · simp [Builtin.append_,run_und ht,run_und ht2,hs,hn,hroom,hu,ho,h63',h48,Question.forced,typeInfo,zeroValue,hi,hz,newRow,grownCap]
  · simp [Builtin.append_,run_und ht,run_und ht2,hs,hn,hroom,hu,ho,h63',h48,Question.forced,typeInfo,zeroValue,hi,hz,newRow,grownCap]
end Go.V
namespace Go.V
open Go
theorem StRel.liveSub {wb : Base} {G : Gh} {S : St} {w : World} {L L' : List Nat} {n : Nat} (h : StRel wb G { S with nt := n,live := L } w) (hs : ∀ t ∈ L',t ∈ L) : StRel wb G { S with nt := n,live := L' } w :=
  h.weak ⟨rfl,rfl,rfl,fun _ _ e => e,hs⟩
theorem zeroCells_size (z : Array Value) (n : Nat) : (Builtin.zeroCells z n).size = n * z.size := by simp [Builtin.zeroCells]
def Lies (wb : Base) (tk : STok) (ys : List AV) (u v : Value) (w w' : World) : Prop :=
  (∀ r b n c,v = .slice (some ⟨r,b,none⟩) n c → wb.heap.size ≤ r ∨ ((ys = [] ∨ tk ≠ .exact) ∧ ∃ n',u = .slice (some ⟨r,b,none⟩) n' c)) ∧ (tk = .exact → ys = [] → w' = w ∧ v = u)
def SemN (P : Program) (wb : Base) (G : Gh) (x : Sem Value) (w : World) (r : AV) (S' : St) (R : Value → World → Prop) : Prop :=
  ∃ v w' G',x.run P w = .ok v w' ∧ G.le G' ∧ StRel wb G' S' w' ∧ VRel G' r v ∧ R v w'
theorem sem_appendN {P : Program} {wb : Base} {G : Gh} {S S' : St} {w : World} (h : StRel wb G S w) {t t2 ty : TypeId} {k bytes : Nat} {x y r : AV} {u v : Value} (hx : VRel G x u) (hy : VRel G y v)
    (hty : appTy P t t2 k bytes = true) (hob : appOb k bytes S x y) (he : appEv k S x y = some (r,S')) : SemN P wb G (Builtin.append_ #[t,t2] ty #[u,v]) w r S' (fun v' w' => ∀ xs tk ys,x = .sl k xs tk → appArg k y = some ys → Lies wb tk ys u v' w w') := by
  unfold appTy at hty
  simp only [Bool.and_eq_true] at hty
  obtain ⟨hty,hty2⟩ := hty
  split at hty
  rotate_left
  · cases hty
  rename_i e ht
  split at hty
  rotate_left
  · cases hty
  rename_i i hi
  simp only [Bool.and_eq_true,beq_iff_eq,decide_eq_true_eq] at hty
  obtain ⟨⟨⟨h1,h2⟩,h3⟩,h4⟩ := hty
  split at h4
  rotate_left
  · cases h4
  rename_i z hz
  have h4 : z.cells.size = k := by simpa using h4
  obtain ⟨d2,ht2,hd2⟩ : ∃ d2,P.underlying t2 = some d2 ∧ (d2 = .string ∨ ∃ x,d2 = .slice x) := by
    split at hty2
    · exact ⟨_,‹_›,.inl rfl⟩
    · exact ⟨_,‹_›,.inr ⟨_,rfl⟩⟩
    · cases hty2
  have hxs : ∃ xs tk,x = .sl k xs tk := by
    cases hx <;> simp only [appEv] at he <;> first
      | (cases he; done)
      | (split at he
         · rename_i hk
           subst hk
           exact ⟨_,_,rfl⟩
         · cases he)
  obtain ⟨xs,tk,rfl⟩ := hxs
  simp only [appEv,if_true,Option.map_eq_some_iff,Prod.mk.injEq] at he
  obtain ⟨ys,hys,rfl,rfl⟩ := he
  simp only [appOb,hys] at hob
  obtain ⟨hob3,hob1,hob2⟩ := hob
  obtain ⟨us,hus,hyk,hn,hfc⟩ := appArg_cells (P := P) h hy hys h3
  have hxa : appArg k (.sl k xs tk) = some xs := by simp [appArg]
  obtain ⟨os,hos,hxk,hno,hfo⟩ := appArg_cells (P := P) h hx hxa h3
  have hk : ∀ a ∈ xs ++ ys,a.cells.length = k := fun a ha => by
    rcases List.mem_append.1 ha with ha | ha
    · exact hxk a ha
    · exact hyk a ha
  have hlu : us.length = ys.length * k := by rw [← hus.len,flat_length hyk]
  have hlo : os.length = xs.length * k := by rw [← hos.len,flat_length hxk]
  have hcr : CRel G (flat (xs ++ ys)) (os ++ us) := by rw [flat_append]; exact .append hos hus
  have hS : ∃ L',S.use tk = { S with nt := S.nt + 1,live := S.nt :: L' } ∧ (∀ t ∈ L',t ∈ S.live) ∧ (tk = .exact ∨ ∃ n,tk = .tok n ∧ n ∈ S.live ∧ L' = S.live.filter (· != n)) := by
    rcases hob3 with rfl | ⟨n,rfl,hn⟩
    · exact ⟨S.live,rfl,fun _ h => h,.inl rfl⟩
    · exact ⟨_,rfl,fun t ht => (List.mem_filter.1 ht).1,.inr ⟨n,rfl,hn,rfl⟩⟩
  obtain ⟨L',hL',hL,htk⟩ := hS
  rw [hL']
  suffices hsuf : SemN P wb G (Builtin.append_ #[t,t2] ty #[u,v]) w (.sl k (xs ++ ys) (.tok S.nt)) { S with nt := S.nt + 1,live := S.nt :: L' } (fun v' w' => Lies wb tk ys u v' w w') by
    obtain ⟨v',w',G',q1,q2,q3,q4,q5⟩ := hsuf
    refine ⟨v',w',G',q1,q2,q3,q4,fun xs' tk' ys' e1 e2 => ?_⟩
    injection e1 with _ e3 e4
    rw [hys] at e2
    injection e2 with e2
    subst e3 e4 e2
    exact q5
  have grow : ∀ (base : Option Addr) (cap : Nat),u = .slice base xs.length cap → ¬ xs.length + ys.length ≤ cap → ¬ (tk = .exact ∧ ys = []) → SemN P wb G (Builtin.append_ #[t,t2] ty #[u,v]) w (.sl k (xs ++ ys) (.tok S.nt)) { S with nt := S.nt + 1,live := S.nt :: L' } (fun v' w' => Lies wb tk ys u v' w w') := by
    intro base cap hu hroom hnex
    subst hu
    have hd := h.drew
    have run := run_append_out (P := P) (w := w) (t := t) (t2 := t2) (ty := ty) ht hi hz ht2 hd2 (base := base) (sLen := xs.length) (sCap := cap) (us := us.toArray) (os := os.toArray) hn
      (by rw [h1]; exact hfc w.drew (fun r o v e => hd.prom r o v e)) (by rw [h1]; exact hfo w.drew (fun r o v e => hd.prom r o v e)) hroom (by omega) (by rw [h2]; exact hob1)
    have hc : xs.length + ys.length ≤ grownCap w (xs.length + ys.length) cap e := by simp only [grownCap,Question.cut]; omega
    generalize grownCap w (xs.length + ys.length) cap e = c at run hc
    obtain ⟨G',g1,_,g3,g4,g5⟩ := hd.rowTok (E := e) (vs := os ++ us) (rest := (Builtin.zeroCells z.cells (c - (xs.length + ys.length))).toList)
    refine ⟨_,_,G',run,g1,?_,?_,⟨fun r0 b0 n0 c0 e0 => .inl ?_,fun e1 e2 => absurd ⟨e1,e2⟩ hnex⟩⟩
    rotate_left 2
    · injection e0 with e0 _ _
      injection e0 with e0
      injection e0 with e0 _ _
      rw [← e0]
      exact h.base.1
    · have := g5.liveSub (L' := S.nt :: L') (fun t ht => by
        rcases List.mem_cons.1 ht with rfl | ht
        · simp
        · exact List.mem_cons_of_mem _ (hL t ht))
      have e1 : (os ++ us ++ (Builtin.zeroCells z.cells (c - (xs.length + ys.length))).toList).toArray = os.toArray ++ us.toArray ++ Builtin.zeroCells z.cells (c - (xs.length + ys.length)) := by
        apply Array.ext'
        simp
      rw [e1] at this
      exact this
    · have e2 : xs.length + ys.length = (xs ++ ys).length := by simp
      rw [e2]
      refine sl_of_row hk (hcr.mono g1) (fun j v e => by rw [Nat.zero_add]; show G'.φ w.drew.heap.size j = _; rw [g4]; exact e) (by simpa using hc) ?_
      show G'.τ S.nt = _
      have e3 : (os ++ us).length = (xs ++ ys).length * k := by simp [hlo,hlu,Nat.add_mul]
      have e4 : (os ++ us).length + (Builtin.zeroCells z.cells (c - (xs.length + ys.length))).toList.length = c * k := by
        have e5 : (Builtin.zeroCells z.cells (c - (xs.length + ys.length))).toList.length = (c - (xs.length + ys.length)) * k := by rw [← h4,← zeroCells_size]; exact Array.length_toList
        have e6 : (xs ++ ys).length + (c - (xs.length + ys.length)) = c := by rw [List.length_append]; omega
        rw [e3,e5,← Nat.add_mul,e6]
      rw [g3,e4,e3,Nat.zero_add,Nat.zero_add]
      rfl
  cases hx with
  | slnil =>
    by_cases h0 : ys.length = 0
    · have hy0 : ys = [] := List.eq_nil_of_length_eq_zero h0
      subst hy0
      obtain ⟨G',g1,_,g3⟩ := h.emptyTok 0 0
      have hu0 : us = [] := by simpa using hlu
      subst hu0
      refine ⟨_,w,G',run_append_in (w' := w) ht hi ht2 hd2 hn (us := #[]) (by rw [h1]; exact hfc w h.prom) (by simp) (fun a _ => by simp [storeCells]) (fun _ => rfl),g1,?_,?_,⟨fun r0 b0 n0 c0 e0 => .inr ⟨.inl rfl,by injection e0 with e0 _ e2; subst e0 e2; exact ⟨_,rfl⟩⟩,fun _ _ => ⟨rfl,by simp⟩⟩⟩
      · exact g3.liveSub (fun t ht => by
          rcases List.mem_cons.1 ht with rfl | ht
          · simp
          · exact List.mem_cons_of_mem _ (hL t ht))
      · exact .slnil _ _ _
    · exact grow _ 0 rfl (by rw [List.length_nil]; omega) (fun e => h0 (by rw [e.2]; rfl))
  | sl f hk' hp ho hv hc htok =>
    rename_i r b cap
    by_cases hroom : xs.length + ys.length ≤ cap
    ·
      have hex : tk = .exact → ys = [] := fun e => by
        subst e
        have e5 : b + xs.length * k = b + cap * k := htok
        have : xs.length = cap := Nat.eq_of_mul_eq_mul_right h3 (by omega)
        exact List.eq_nil_of_length_eq_zero (by omega)
      rcases htk with hte | ⟨n,hte,hnl,hL2⟩
      · have hy0 := hex hte
        subst hy0 hte
        have hu0 : us = [] := by simpa using hlu
        subst hu0
        obtain ⟨G',g1,g2,g3⟩ := h.emptyTok r (b + xs.length * k)
        refine ⟨_,w,G',run_append_in (w' := w) ht hi ht2 hd2 hn (us := #[]) (by rw [h1]; exact hfc w h.prom) hroom (fun a _ => by simp [storeCells]) (fun _ => rfl),g1,?_,?_,⟨fun r0 b0 n0 c0 e0 => .inr ⟨.inl rfl,by injection e0 with e0 _ e2; exact ⟨xs.length,by rw [← e0,← e2]⟩⟩,fun _ _ => ⟨rfl,rfl⟩⟩⟩
        · exact g3.liveSub (fun t ht => by
            rcases List.mem_cons.1 ht with rfl | ht
            · simp
            · exact List.mem_cons_of_mem _ (hL t ht))
        · have hp' := fun (m : Nat) (c : AV) (e : (flat xs)[m]? = some c) => g1.φ _ _ _ (hp m c e)
          have hv' := fun (m : Nat) (c : AV) (e : (flat xs)[m]? = some c) => (hv m c e).mono g1
          have e5 : b + xs.length * k = b + cap * k := htok
          have := VRel.sl (G := G') (t := .tok S.nt) f hk' hp' ho hv' hc (by show G'.τ S.nt = _; rw [g2,← e5])
          simpa using this
      · subst hte
        have hτ : G.τ n = some (r,b + xs.length * k,b + cap * k) := htok
        have hz' : b + xs.length * k + us.length ≤ b + cap * k := by
          rw [hlu,Nat.add_assoc,← Nat.add_mul]
          exact Nat.add_le_add_left (Nat.mul_le_mul_right k hroom) b
        obtain ⟨G',g1,_,g3,g4,g5⟩ := h.extend hnl hτ hz'
        obtain ⟨r0,e0,z0,h5,h6⟩ := h.tok n hnl
        obtain ⟨rfl,rfl,rfl⟩ : r = r0 ∧ b + xs.length * k = e0 ∧ b + cap * k = z0 := by rw [hτ] at h5; simpa using h5
        refine ⟨_,putCells w r (b + xs.length * k) us,G',run_append_in (w' := putCells w r (b + xs.length * k) us) ht hi ht2 hd2 hn (us := us.toArray) (by rw [h1]; exact hfc w h.prom) hroom (fun a e => ?_) (fun e => by cases e),g1,?_,?_,⟨fun r0 b0 n0 c0 e0 => .inr ⟨.inr (by simp),by injection e0 with e0 _ e2; exact ⟨xs.length,by rw [← e0,← e2]⟩⟩,fun e => by cases e⟩⟩
        · injection e with e
          subst e
          rw [add_none,h1]
          have := run_storeCells (P := P) r (b + xs.length * k) us w 0 hus.one (fun j hj => by
            rw [Nat.add_zero]
            obtain ⟨_,_,h7,h8,_⟩ := h6 (b + xs.length * k + j) (by omega) (by omega)
            exact ⟨h7,h8⟩)
          simpa using this
        · rw [hL2]
          exact g5
        · have e2 : xs.length + ys.length = (xs ++ ys).length := by simp
          rw [e2]
          refine sl_of_row hk (hcr.mono g1) (fun j v e => ?_) (by simpa using hroom) ?_
          · rcases Nat.lt_or_ge j os.length with hj | hj
            · rw [List.getElem?_append_left hj] at e
              have hjx : j < (flat xs).length := by rw [hos.len]; exact hj
              have hcx := List.getElem?_eq_getElem hjx
              have e3 := g1.φ _ _ _ (hp j _ hcx)
              have e4 := (hfo w h.prom)
              have : os[j]? = some (f j) := by
                have e5 := run_firstCells_some (P := P) w k xs.length ⟨r,b,none⟩ xs.length cap ((List.range (flat xs).length).map f) (by simp [flat_length hxk]) (fun m u e => by
                  rw [add_none]
                  have hm : m < (flat xs).length := by
                    rcases Nat.lt_or_ge m (flat xs).length with h' | h'
                    · exact h'
                    · rw [List.getElem?_eq_none (by simpa using h')] at e; cases e
                  have : u = f m := by simp [hm] at e; exact e.symm
                  subst this
                  exact h.prom _ _ _ (hp m _ (List.getElem?_eq_getElem hm)))
                rw [e5] at e4
                injection e4 with e4
                have e6 : os = (List.range (flat xs).length).map f := by
                  have := congrArg Array.toList e4
                  simpa using this.symm
                rw [e6]
                simp [hjx]
              rw [this] at e
              injection e with e
              subst e
              exact e3
            · rw [List.getElem?_append_right hj] at e
              have := g4 _ _ e
              rwa [show b + xs.length * k + (j - os.length) = b + j from by omega] at this
          · show G'.τ S.nt = _
            rw [g3]
            congr 2
            rw [hlu]
            simp only [List.length_append,Nat.add_mul]
            congr 1
            omega
    · refine grow _ cap rfl hroom fun e => ?_
      have : ys.length = 0 := by rw [e.2]; rfl
      omega
theorem sem_append {P : Program} {wb : Base} {G : Gh} {S S' : St} {w : World} (h : StRel wb G S w) {t t2 ty : TypeId} {k bytes : Nat} {x y r : AV} {u v : Value} (hx : VRel G x u) (hy : VRel G y v)
    (hty : appTy P t t2 k bytes = true) (hob : appOb k bytes S x y) (he : appEv k S x y = some (r,S')) : SemOK P wb G (Builtin.append_ #[t,t2] ty #[u,v]) w r S' := by
  obtain ⟨v',w',G',h1,h2,h3,h4,_⟩ := sem_appendN h hx hy hty hob he
  exact ⟨v',w',G',h1,h2,h3,h4⟩
theorem VRel.newTok {G : Gh} {k : Nat} {xs : List AV} {n : Nat} {v : Value} (h : VRel G (.sl k xs (.new n)) v) : VRel G (.sl k xs (.tok n)) v := by
  cases h with
  | slnil => exact .slnil _ _ _
  | sl f hk hp ho hv hc ht => exact .sl f hk hp ho hv hc ht.1
theorem sem_appN {P : Program} {wb : Base} {G : Gh} {S S' : St} {w : World} (h : StRel wb G S w) {t t2 ty : TypeId} {k bytes : Nat} {x y r : AV} {u v : Value} (hx : VRel G x u) (hy : VRel G y v)
    (hty : appTy P t t2 k bytes = true) (hob : appNOb k bytes S x y) (he : appNEv k S x y = some (r,S')) : SemOK P wb G (Builtin.append_ #[t,t2] ty #[u,v]) w r S' := by
  unfold appNEv at he
  split at he
  rotate_left
  · cases he
  rename_i k' xs tk
  split at he
  rotate_left
  · cases he
  rename_i hkk
  subst hkk
  simp only [Option.bind_eq_some_iff] at he
  obtain ⟨ys,hys,he⟩ := he
  simp only [appNOb,hys] at hob
  obtain ⟨hob1,hob2⟩ := hob
  have key : ∀ (G' : Gh) (v' : Value),G.le G' → VRel G' (.sl k' (xs ++ ys) (.tok S.nt)) v' → (∀ r b n c,v' = .slice (some ⟨r,b,none⟩) n c → wb.heap.size ≤ r ∨ c = 0) → VRel G' (.sl k' (xs ++ ys) (.new S.nt)) v' := by
    intro G' v' hle hv hr
    generalize hz : xs ++ ys = zs at hv
    cases hv with
    | slnil => exact .slnil _ _ _
    | sl f hk hp ho hv hc ht =>
      rcases hr _ _ _ _ rfl with h6 | h6
      · exact .sl f hk hp ho hv hc ⟨ht,by rw [hle.β,h.beta]; exact h6⟩
      · subst h6
        have h7 : zs = [] := List.eq_nil_of_length_eq_zero (by omega)
        subst h7
        exact .slnil _ _ _
  split at he
  · rename_i n
    simp only [Option.some.injEq,Prod.mk.injEq] at he
    obtain ⟨rfl,rfl⟩ := he
    obtain ⟨v',w',G',h1,h2,h3,h4,h5⟩ := sem_appendN h (x := .sl k' xs (.tok n)) hx.newTok hy hty (by simp only [appOb,hys]; exact ⟨.inr ⟨n,rfl,hob1⟩,hob2⟩) (by simp only [appEv,hys,if_true,Option.map_some]; rfl)
    refine ⟨v',w',G',h1,h2,h3,key G' v' h2 h4 fun r0 b0 n0 c0 e0 => ?_⟩
    rcases (h5 _ _ _ rfl hys).1 _ _ _ _ e0 with h6 | ⟨_,n1,h6⟩
    · exact .inl h6
    · subst h6
      cases hx with
      | slnil => exact .inr rfl
      | sl f hk hp ho hv hc ht => rw [← h.beta]; exact .inl ht.2
  · split at he
    · split at he
      · simp only [Option.some.injEq,Prod.mk.injEq] at he
        obtain ⟨rfl,rfl⟩ := he
        obtain ⟨v',w',G',h1,h2,h3,h4,h5⟩ := sem_appendN h (x := .sl k' [] .exact) hx hy hty (by simp only [appOb,hys]; exact ⟨.inl rfl,hob2⟩) (by simp only [appEv,hys,if_true,Option.map_some]; rfl)
        obtain ⟨e1,e2⟩ := (h5 _ _ _ rfl hys).2 rfl rfl
        subst e1 e2
        exact ⟨_,_,G,h1,Gh.le_refl G,h,hx⟩
      · rename_i a ys'
        simp only [Option.some.injEq,Prod.mk.injEq] at he
        obtain ⟨rfl,rfl⟩ := he
        obtain ⟨v',w',G',h1,h2,h3,h4,h5⟩ := sem_appendN h (x := .sl k' [] .exact) hx hy hty (by simp only [appOb,hys]; exact ⟨.inl rfl,hob2⟩) (by simp only [appEv,hys,if_true,Option.map_some]; rfl)
        refine ⟨v',w',G',h1,h2,h3,key G' v' h2 h4 fun r0 b0 n0 c0 e0 => ?_⟩
        rcases (h5 _ _ _ rfl hys).1 _ _ _ _ e0 with h6 | ⟨h7,_⟩
        · exact .inl h6
        · rcases h7 with h7 | h7
          · cases h7
          · exact absurd rfl h7
    · cases he
  · cases he
theorem appSrc_cells {P : Program} {wb : Base} {G : Gh} {S : St} {w : World} (h : StRel wb G S w) {k n : Nat} {y : AV} {cs : List AV} {v : Value} (hy : VRel G y v) (ha : appSrc k S y = some (n,cs)) (hk : 0 < k) :
    ∃ us : List Value,CRel G cs us ∧ cs.length = n * k ∧ (Builtin.lenOf v).run P w = .ok n w ∧ (Builtin.firstCells k n v).run P w = .ok us.toArray w ∧ (Builtin.firstCells k n v).run P w.drew = .ok us.toArray w.drew := by
  unfold appSrc at ha
  split at ha
  · rename_i n' hn'
    simp only [Option.map_eq_some_iff,Prod.mk.injEq] at ha
    obtain ⟨_,ha,rfl,rfl⟩ := ha
    obtain ⟨us,h1,h2,h3,h4⟩ := oslArg_cells (P := P) h hy hn' ha
    refine ⟨us,h1,?_,h3,h4 w fun _ => rfl,h4 w.drew fun _ => rfl⟩
    cases y <;> simp only [oslLen] at hn' <;> first
      | (cases hn'; done)
      | skip
    injection hn' with hn'
    subst hn'
    simp only [oslCells] at ha
    split at ha
    rotate_left
    · cases ha
    rename_i hkk
    obtain ⟨rfl,_⟩ := hkk
    simp only [Option.bind_eq_some_iff] at ha
    obtain ⟨cs0,_,ha⟩ := ha
    split at ha
    · cases ha
    · split at ha
      · injection ha with ha
        subst ha
        simp
        omega
      · cases ha
  · simp only [Option.map_eq_some_iff,Prod.mk.injEq] at ha
    obtain ⟨ys,ha,rfl,rfl⟩ := ha
    obtain ⟨us,h1,h2,h3,h4⟩ := appArg_cells (P := P) h hy ha hk
    exact ⟨us,h1,flat_length h2,h3,h4 w h.prom,h4 w.drew fun r o u e => h.drew.prom r o u e⟩
theorem sem_appO {P : Program} {wb : Base} {G : Gh} {S S' : St} {w : World} (h : StRel wb G S w) {t t2 ty : TypeId} {k bytes : Nat} {x y r : AV} {u v : Value} (hx : VRel G x u) (hy : VRel G y v)
    (hty : appTy P t t2 k bytes = true) (hob : appOOb k bytes y) (he : appOEv k S x y = some (r,S')) : SemOK P wb G (Builtin.append_ #[t,t2] ty #[u,v]) w r S' := by
  unfold appTy at hty
  simp only [Bool.and_eq_true] at hty
  obtain ⟨hty,hty2⟩ := hty
  split at hty
  rotate_left
  · cases hty
  rename_i e ht
  split at hty
  rotate_left
  · cases hty
  rename_i i hi
  simp only [Bool.and_eq_true,beq_iff_eq,decide_eq_true_eq] at hty
  obtain ⟨⟨⟨h1,h2⟩,h3⟩,h4⟩ := hty
  split at h4
  rotate_left
  · cases h4
  rename_i z hz
  have h4 : z.cells.size = k := by simpa using h4
  obtain ⟨d2,ht2,hd2⟩ : ∃ d2,P.underlying t2 = some d2 ∧ (d2 = .string ∨ ∃ x,d2 = .slice x) := by
    split at hty2
    · exact ⟨_,‹_›,.inl rfl⟩
    · exact ⟨_,‹_›,.inr ⟨_,rfl⟩⟩
    · cases hty2
  unfold appOEv at he
  split at he
  rotate_left
  · cases he
  rename_i k'
  split at he
  rotate_left
  · cases he
  rename_i hkk
  subst hkk
  have grow : ∀ (n : Nat) (cs : List AV) (us : List Value),CRel G cs us → cs.length = n * k' → 0 < n → (Builtin.lenOf v).run P w = .ok n w → (Builtin.firstCells k' n v).run P w.drew = .ok us.toArray w.drew → n * bytes ≤ 140737488355328 → n ≤ 9223372036854775807 →
      ∀ (base : Option Addr) (cap : Nat),u = .slice base 0 cap → cap = 0 → SemOK P wb G (Builtin.append_ #[t,t2] ty #[u,v]) w (.osl k' n S.n 0) { S with n := S.n + 1,obj := (S.n,cs) :: S.obj } := by
    intro n cs us hus hcl hpos hn hfc hob1 hob2 base cap hu hcap
    subst hu hcap
    obtain ⟨os,hos,hxk,hno,hfo⟩ := appArg_cells (P := P) h hx (show appArg k' (.sl k' [] .exact) = some [] by simp [appArg]) h3
    have hos0 : os = [] := by
      have := hos.len
      simpa using this.symm
    subst hos0
    have hd := h.drew
    have run := run_append_out (P := P) (w := w) (t := t) (t2 := t2) (ty := ty) ht hi hz ht2 hd2 (base := base) (sLen := 0) (sCap := 0) (us := us.toArray) (os := #[]) hn
      (by rw [h1]; exact hfc) (by rw [h1]; exact hfo w.drew (fun r o v e => hd.prom r o v e)) (by omega) (by omega) (by rw [h2]; simpa using hob1)
    have hc : 0 + n ≤ grownCap w (0 + n) 0 e := by simp only [grownCap,Question.cut]; omega
    generalize grownCap w (0 + n) 0 e = c at run hc
    obtain ⟨G',g1,g2,gκ,g3⟩ := hd.newObjR (E := e) (rest := (Builtin.zeroCells z.cells (c - (0 + n))).toList) hus
    refine ⟨_,_,G',run,g1,?_,?_⟩
    · have e1 : (us ++ (Builtin.zeroCells z.cells (c - (0 + n))).toList).toArray = #[] ++ us.toArray ++ Builtin.zeroCells z.cells (c - (0 + n)) := by
        apply Array.ext'
        simp
      rw [e1] at g3
      exact g3
    · have := VRel.osl (G := G') k' (n := n) (o := 0) (cap := c) g2 (by simpa using hc) (by
        rw [gκ]
        have e5 : (Builtin.zeroCells z.cells (c - (0 + n))).toList.length = (c - (0 + n)) * k' := by rw [← h4,← zeroCells_size]; exact Array.length_toList
        have e6 : us.length = n * k' := by rw [← hus.len]; exact hcl
        rw [e5,e6,← Nat.add_mul,Nat.zero_add]
        refine Nat.mul_le_mul_right k' (by omega))
      rw [Nat.zero_add]
      exact this
  have fin : ∀ (n : Nat) (cs : List AV) (us : List Value),CRel G cs us → cs.length = n * k' → 0 < n → (Builtin.lenOf v).run P w = .ok n w → (Builtin.firstCells k' n v).run P w.drew = .ok us.toArray w.drew → n * bytes ≤ 140737488355328 → n ≤ 9223372036854775807 →
      SemOK P wb G (Builtin.append_ #[t,t2] ty #[u,v]) w (.osl k' n S.n 0) { S with n := S.n + 1,obj := (S.n,cs) :: S.obj } := by
    intro n cs us b1 b0 b2 b3 b4 b5 b6
    cases hx with
    | slnil => exact grow n cs us b1 b0 b2 b3 b4 b5 b6 _ 0 rfl rfl
    | sl f hk' hp ho hv hc htok =>
      rename_i r b cap
      refine grow n cs us b1 b0 b2 b3 b4 b5 b6 _ cap rfl ?_
      have e5 : b + ([] : List AV).length * k' = b + cap * k' := htok
      have : 0 * k' = cap * k' := by simp at e5 ⊢; omega
      exact (Nat.eq_of_mul_eq_mul_right h3 this).symm
  cases hol : oslLen y with
  | some n =>
    rw [hol] at he
    simp only [Option.map_eq_some_iff,Prod.mk.injEq] at he
    obtain ⟨cs,hcs,rfl,rfl⟩ := he
    simp only [appOOb,hol] at hob
    obtain ⟨us,c1,c2,c3,c4⟩ := oslArg_cells (P := P) h hy hol hcs
    obtain ⟨_,_,cl,_⟩ := appSrc_cells (P := P) h hy (show appSrc k' S y = some (n,cs) by simp [appSrc,hol,hcs]) h3
    exact fin n cs us c1 cl c2 c3 (c4 w.drew fun _ => rfl) hob.1 hob.2
  | none =>
  rw [hol] at he
  simp only [Option.bind_eq_some_iff] at he
  obtain ⟨ys,hys,he⟩ := he
  split at he
  · simp only [Option.some.injEq,Prod.mk.injEq] at he
    obtain ⟨rfl,rfl⟩ := he
    obtain ⟨us,hus,hyk,hn,hfc⟩ := appArg_cells (P := P) h hy hys h3
    have hu0 : us = [] := by
      have := hus.len
      simpa using this.symm
    subst hu0
    obtain ⟨base,cap,hu⟩ : ∃ base cap,u = .slice base 0 cap := by
      cases hx with
      | slnil _ _ a => exact ⟨a,0,rfl⟩
      | sl f _ _ _ _ _ _ => exact ⟨_,_,rfl⟩
    subst hu
    exact ⟨_,w,G,run_append_in (w' := w) ht hi ht2 hd2 hn (us := #[]) (by rw [h1]; exact hfc w h.prom) (by simp) (fun a _ => by simp [storeCells]) (fun _ => rfl),Gh.le_refl G,h,by simpa using hx⟩
  rename_i a ys
  simp only [Option.some.injEq,Prod.mk.injEq] at he
  obtain ⟨rfl,rfl⟩ := he
  simp only [appOOb,hol,hys] at hob
  obtain ⟨us,hus,hyk,hn,hfc⟩ := appArg_cells (P := P) h hy hys h3
  exact fin (ys.length + 1) _ us hus (by rw [flat_length hyk]; rfl) (by omega) hn (hfc w.drew (fun r o v e => h.drew.prom r o v e)) hob.1 hob.2
theorem StRel.kill {wb : Base} {G : Gh} {S : St} {w : World} (h : StRel wb G S w) {l r : Nat} (hr : G.σ l = some r) : StRel wb G (S.set l deadC) w := by
  have hget : ∀ l' cs',(S.set l deadC).get l' = some cs' → (l' = l ∧ cs' = deadC) ∨ S.get l' = some cs' := fun l' cs' e => by
    simp only [St.get,St.set,List.lookup_cons] at e
    by_cases h2 : l' = l
    · subst h2
      simp at e
      exact .inl ⟨rfl,e.symm⟩
    · have hb : (l' == l) = false := by simpa using h2
      rw [hb] at e
      exact .inr e
  refine { prom := h.prom,room := ?_,apart := ?_,obj := ?_,inj := ?_,dom := h.dom,tok := h.tok,tdom := h.tdom,tdis := h.tdis,base := h.base,still := h.still,pold := h.pold,beta := h.beta,glob := h.glob,bld := ?_,bldu := ?_ }
  · intro l' cs' r' g1 g2
    rcases hget l' cs' g1 with ⟨rfl,rfl⟩ | q
    · cases g2
    · exact h.room l' cs' r' q g2
  · intro l' cs' r' o g1 g2
    rcases hget l' cs' g1 with ⟨rfl,rfl⟩ | q
    · cases g2
    · exact h.apart l' cs' r' o q g2
  · intro l' cs' g1 g2
    rcases hget l' cs' g1 with ⟨rfl,rfl⟩ | q
    · cases g2
    · exact h.obj l' cs' q g2
  · intro l1 l2 r' c1 c2 g1 g2 d1 d2
    rcases hget l1 c1 g1 with ⟨rfl,rfl⟩ | q1
    · cases d1
    · rcases hget l2 c2 g2 with ⟨rfl,rfl⟩ | q2
      · cases d2
      · exact h.inj l1 l2 r' c1 c2 q1 q2 d1 d2
  · intro l' c g1 g2
    rcases hget l' [c] g1 with ⟨rfl,e⟩ | q
    · injection e with e
      subst e
      exact ⟨r,hr,trivial⟩
    · obtain ⟨rb,q1,q2⟩ := h.bld l' c q g2
      exact ⟨rb,q1,q2.to (Gh.le_refl G) (fun _ => rfl) fun g _ _ _ hal => ⟨rfl,hal⟩⟩
  · intro l1 l2 s1 s2 g1 g2
    have key : ∀ l' s,(S.set l deadC).get l' = some [AV.bld s] → S.get l' = some [.bld s] := fun l' s g => by
      rcases hget l' _ g with ⟨_,e⟩ | q
      · injection e with e
        cases e
      · exact q
    exact h.bldu l1 l2 s1 s2 (key _ _ g1) (key _ _ g2)
theorem sem_appG {P : Program} {wb : Base} {G : Gh} {S S' : St} {w : World} (h : StRel wb G S w) {t t2 ty : TypeId} {k bytes : Nat} {x y r : AV} {u v : Value} (hx : VRel G x u) (hy : VRel G y v)
    (hty : appTy P t t2 k bytes = true) (hob : appGOb k bytes x y) (he : appGEv k S x y = some (r,S')) : SemOK P wb G (Builtin.append_ #[t,t2] ty #[u,v]) w r S' := by
  unfold appGEv at he
  split at he
  rotate_left
  · refine sem_appO h hx hy hty ?_ he
    unfold appGOb at hob
    unfold appOOb
    simpa only [oslN,Nat.zero_add] using hob
  · cases he
  rename_i k' n l
  unfold appTy at hty
  simp only [Bool.and_eq_true] at hty
  obtain ⟨hty,hty2⟩ := hty
  split at hty
  rotate_left
  · cases hty
  rename_i e ht
  split at hty
  rotate_left
  · cases hty
  rename_i i hi
  simp only [Bool.and_eq_true,beq_iff_eq,decide_eq_true_eq] at hty
  obtain ⟨⟨⟨h1,h2⟩,h3⟩,h4⟩ := hty
  split at h4
  rotate_left
  · cases h4
  rename_i z hz
  have h4 : z.cells.size = k := by simpa using h4
  obtain ⟨d2,ht2,hd2⟩ : ∃ d2,P.underlying t2 = some d2 ∧ (d2 = .string ∨ ∃ x,d2 = .slice x) := by
    split at hty2
    · exact ⟨_,‹_›,.inl rfl⟩
    · exact ⟨_,‹_›,.inr ⟨_,rfl⟩⟩
    · cases hty2
  simp only [Option.bind_eq_some_iff] at he
  obtain ⟨⟨m,ys⟩,hsrc,he⟩ := he
  have hobn : (n + m) * bytes ≤ 140737488355328 ∧ n + m ≤ 9223372036854775807 := by
    unfold appSrc at hsrc
    unfold appGOb at hob
    split at hsrc
    · rename_i hn'
      rw [hn'] at hob
      simp only [Option.map_eq_some_iff,Prod.mk.injEq] at hsrc
      obtain ⟨_,_,rfl,_⟩ := hsrc
      exact hob
    · rename_i hn'
      rw [hn'] at hob
      simp only [Option.map_eq_some_iff,Prod.mk.injEq] at hsrc
      obtain ⟨_,e1,rfl,_⟩ := hsrc
      rw [e1] at hob
      exact hob
  obtain ⟨us,hus,hyl,hn,hfc,hfcd⟩ := appSrc_cells (P := P) h hy hsrc h3
  have hx0 := hx
  cases hx with
  | osl _ hσ hc hcz =>
  rename_i r0 cap
  split at he
  · rename_i hm0
    have hm0 : m = 0 := hm0
    subst hm0
    simp only [Option.some.injEq,Prod.mk.injEq] at he
    obtain ⟨rfl,rfl⟩ := he
    have hu0 : us = [] := by
      have := hus.len
      rw [hyl] at this
      simpa using this.symm
    subst hu0
    exact ⟨_,w,G,run_append_in (w' := w) ht hi ht2 hd2 hn (us := #[]) (by rw [h1]; exact hfc) (by omega) (fun a _ => by simp [storeCells]) (fun _ => rfl),Gh.le_refl G,h,hx0⟩
  · rename_i hm0
    have hm0 : ¬ m = 0 := hm0
    simp only [Option.map_eq_some_iff,Prod.mk.injEq] at he
    obtain ⟨cs,hcs,rfl,rfl⟩ := he
    obtain ⟨os,hos,hpos,_,hfo⟩ := oslArg_cells (P := P) h hx0 rfl hcs
    have hcs' := hcs
    simp only [oslCells] at hcs
    split at hcs
    rotate_left
    · cases hcs
    rename_i hkk
    obtain ⟨rfl,_⟩ := hkk
    simp only [Option.bind_eq_some_iff] at hcs
    obtain ⟨cs0,hg,hcs⟩ := hcs
    split at hcs
    · cases hcs
    rename_i hnb
    have hnb : isBld cs0 = false := by simpa using hnb
    split at hcs
    rotate_left
    · cases hcs
    rename_i hle
    injection hcs with hcs
    rw [List.drop_zero] at hcs
    have hcsl : cs.length = n * k' := by rw [← hcs]; simp; omega
    have hul : us.length = m * k' := by rw [← hus.len]; exact hyl
    by_cases hroom : n + m ≤ cap
    · have hkap : n * k' + m * k' ≤ G.κ l := by
        rw [← Nat.add_mul]
        refine Nat.le_trans (Nat.mul_le_mul_right k' hroom) (by omega)
      obtain ⟨G',g1,g2,g3,g4⟩ := h.regrow (m := n * k') hg hσ hus (by omega) (by rw [hyl]; exact hkap) hnb
      obtain ⟨_,k2⟩ := h.room l cs0 r0 hg hnb hσ
      refine ⟨_,putCells w r0 (n * k') us,G',run_append_in (w' := putCells w r0 (n * k') us) ht hi ht2 hd2 hn (us := us.toArray) (by rw [h1]; exact hfc) hroom (fun a e => ?_) (fun e => by cases e),g1,?_,?_⟩
      · injection e with e
        subst e
        rw [add_none,h1,Nat.zero_add]
        have := run_storeCells (P := P) r0 (n * k') us w 0 hus.one (fun j hj => by
          rw [Nat.add_zero]
          exact k2 (n * k' + j) (by omega))
        simpa using this
      · rw [hcs] at g4
        exact g4
      · exact .osl k' g2 hroom (by rw [g3]; exact hcz)
    · have hd := h.drew
      have run := run_append_out (P := P) (w := w) (t := t) (t2 := t2) (ty := ty) ht hi hz ht2 hd2 (base := some ⟨r0,0,none⟩) (sLen := n) (sCap := cap) (us := us.toArray) (os := os.toArray) hn
        (by rw [h1]; exact hfcd) (by rw [h1]; exact hfo w.drew fun _ => rfl) hroom (by omega) (by rw [h2]; exact hobn.1)
      have hc : n + m ≤ grownCap w (n + m) cap e := by simp only [grownCap,Question.cut]; omega
      generalize grownCap w (n + m) cap e = c at run hc
      have hkl := hd.kill hσ
      obtain ⟨G',g1,g2,g3,g4⟩ := hkl.newObjR (E := e) (rest := (Builtin.zeroCells z.cells (c - (n + m))).toList) (hos.append hus)
      refine ⟨_,_,G',run,g1,?_,?_⟩
      · have e1 : (os ++ us ++ (Builtin.zeroCells z.cells (c - (n + m))).toList).toArray = os.toArray ++ us.toArray ++ Builtin.zeroCells z.cells (c - (n + m)) := by
          apply Array.ext'
          simp
        rw [e1] at g4
        exact g4
      · refine .osl k' g2 hc ?_
        rw [show (S.set l deadC).n = S.n from rfl] at g3
        rw [g3]
        have e5 : (Builtin.zeroCells z.cells (c - (n + m))).toList.length = (c - (n + m)) * k' := by rw [← h4,← zeroCells_size]; exact Array.length_toList
        have e6 : (os ++ us).length = (n + m) * k' := by rw [List.length_append,← hos.len,hcsl,hul,Nat.add_mul]
        rw [e5,e6,← Nat.add_mul,Nat.zero_add]
        refine Nat.mul_le_mul_right k' (by omega)
end Go.V
