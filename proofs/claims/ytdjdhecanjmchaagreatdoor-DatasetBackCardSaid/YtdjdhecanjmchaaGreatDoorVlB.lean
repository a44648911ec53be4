/- The by-value layer, part twelve: the small language's operations as one type; each does what the model's does. Over any program. -/
import Derived.Test.YtdjdhecanjmchaaGreatDoorVuB
set_option linter.unusedSimpArgs false
set_option linter.unusedVariables false
namespace Go.V
open Go
inductive MK where
  | mov (x : Opd)
  | pick (c a b : Opd)
  | alloc (z : List AV)
  | box (x : Opd)
  | build (z : List AV) (ps : List (Nat × Nat × Opd))
  | mkSl (k : Nat) (z : List AV) (xs : List Opd)
  | load (n : Nat) (ag : Bool) (p : Opd)
  | store (n : Nat) (p x : Opd)
  | nilChk (x : Opd)
  | bin (op : BinOp) (x y : Opd)
  | eqv (ks : List EK) (neg : Bool) (x y : Opd)
  | un (op : UnOp) (x : Opd)
  | conv (k : IntKind) (x : Opd)
  | s2s (x : Opd)
  | b2s (x : Opd)
  | fadr (off : Nat) (x : Opd)
  | fld (off n : Nat) (ag : Bool) (x : Opd)
  | iadr (k : Nat) (x i : Opd)
  | iadrA (k len : Nat) (x i : Opd)
  | istr (x i : Opd)
  | iarr (k len : Nat) (ag : Bool) (x i : Opd)
  | slS (x : Opd) (lo hi : Option Opd)
  | slV (k : Nat) (x : Opd) (lo hi mx : Option Opd)
  | len (s : Bool) (x : Opd)
  | app (k bytes : Nat) (x y : Opd)
  | ifc (t : TypeId) (x : Opd)
  | func (f : Fn) (first caps : List Opd)
  | ext (x : Opd) (i : Nat)
  | min (x y : Opd)
  | s2y (x : Opd)
  | mkCap (k bytes : Nat) (c : Opd)
  | cmp (k : Nat) (neg : Bool) (x y : Opd)
  | bad
  | allocB
  | appN (k bytes : Nat) (x y : Opd)
  | tas (t : TypeId) (z : AV) (x : Opd)
def MK.ev (F : Fr) (S : St) : MK → Option (AV × St)
  | .mov x => some (x.ev F, S)
  | .pick c a b => match c.ev F with
    | .bool t => some (if t then a.ev F else b.ev F, S)
    | _ => none
  | .alloc z => some (.ptr S.n 0, { S with n := S.n + 1, obj := (S.n, z) :: S.obj })
  | .box x => if (x.ev F).solid then some (.ptr S.n 0, { S with n := S.n + 1, obj := (S.n, (x.ev F).cells) :: S.obj }) else none
  | .build z ps => (putParts F z ps).map fun cs => (.agg cs, S)
  | .mkSl k _ xs => if rowOK k (xs.map (Opd.ev F)) then some (.sl k (xs.map (Opd.ev F)) .exact, S) else none
  | .load n ag p => ((p.ev F).there S).bind fun cs => (pickCells n ag cs).map fun v => (v, S)
  | .store n p x => (storeEv n S (p.ev F) (x.ev F)).map fun S' => (.tup [], S')
  | .nilChk x => if nonNil (x.ev F) then some (x.ev F, S) else none
  | .bin op x y => (binEv op (x.ev F) (y.ev F)).map fun v => (v, S)
  | .eqv ks neg x y => (eqvEv ks neg (x.ev F) (y.ev F)).map fun v => (v, S)
  | .un op x => (unEv op (x.ev F)).map fun v => (v, S)
  | .conv k x => match x.ev F with
    | .int _ n => some (.int k (k.wrap n), S)
    | _ => none
  | .s2s x => match x.ev F with
    | .str s => some (.str s, S)
    | _ => none
  | .b2s x => match x.ev F with
    | .sl k xs _ => if k = 1 then (strOf xs).map fun s => (.str s, S) else none
    | _ => none
  | .fadr off x => ((x.ev F).plus off).map fun v => (v, S)
  | .fld off n ag x => (fldEv off n ag (x.ev F)).map fun v => (v, S)
  | .iadr k x i => match x.ev F, i.ev F with
    | .sl k' xs _, .int _ n => if k' = k then some (.eptr k xs n.toNat 0, S) else none
    | _, _ => none
  | .iadrA k _ x i => match i.ev F with
    | .int _ n => ((x.ev F).plus (n.toNat * k)).map fun v => (v, S)
    | _ => none
  | .istr x i => match x.ev F, i.ev F with
    | .str s, .int _ n => (s[n.toNat]?).map fun b => (.int .u8 b.toNat, S)
    | _, _ => none
  | .iarr k ln ag x i => (iarrEv k ln ag (x.ev F) (i.ev F)).map fun v => (v, S)
  | .slS x lo hi => (slStrEv (x.ev F) (lo.map (Opd.ev F)) (hi.map (Opd.ev F))).map fun v => (v, S)
  | .slV k x lo hi mx => (slVecEv k (x.ev F) (lo.map (Opd.ev F)) (hi.map (Opd.ev F)) (mx.map (Opd.ev F))).map fun v => (v, S)
  | .len s x => if isStr (x.ev F) = s then (lenEv (x.ev F)).map fun v => (v, S) else none
  | .app k _ x y => appEv k S (x.ev F) (y.ev F)
  | .ifc t x => some (.ifc t (x.ev F), S)
  | .func f first caps => some (.fn f (first.map (Opd.ev F)) (caps.map (Opd.ev F)), S)
  | .ext x i => (extEv i (x.ev F)).map fun v => (v, S)
  | .min x y => (minEv (x.ev F) (y.ev F)).map fun v => (v, S)
  | .s2y x => match x.ev F with
    | .str s => some (.sl 1 (s.map byteAV) .unk, S)
    | _ => none
  | .mkCap k _ c => match c.ev F with
    | .int _ _ => some (.sl k [] (.tok S.nt), { S with nt := S.nt + 1, live := S.nt :: S.live })
    | _ => none
  | .cmp k neg x y => (cmpEv k (x.ev F) (y.ev F)).map fun b => (.bool (neg != b), S)
  | .bad => none
  | .allocB => some (.ptr S.n 0, { S with n := S.n + 1, obj := (S.n, [.bld []]) :: S.obj })
  | .appN k _ x y => appNEv k S (x.ev F) (y.ev F)
  | .tas t z x => (tasEv t z (x.ev F)).map fun v => (v, S)
def MK.ob (F : Fr) (S : St) : MK → Prop
  | .bin op x y => binOb op (x.ev F) (y.ev F)
  | .iadr _ x i => match x.ev F, i.ev F with
    | .sl _ xs _, .int _ n => 0 ≤ n ∧ n < xs.length
    | _, _ => True
  | .iadrA _ ln _ i => match i.ev F with
    | .int _ n => 0 ≤ n ∧ n < ln
    | _ => True
  | .istr _ i => match i.ev F with
    | .int _ n => 0 ≤ n
    | _ => True
  | .slS x lo hi => slStrOb (x.ev F) (lo.map (Opd.ev F)) (hi.map (Opd.ev F))
  | .slV _ x lo hi mx => slVecOb (x.ev F) (lo.map (Opd.ev F)) (hi.map (Opd.ev F)) (mx.map (Opd.ev F))
  | .app k bytes x y => appOb k bytes S (x.ev F) (y.ev F)
  | .mkCap _ bytes c => match c.ev F with
    | .int _ n => 0 ≤ n ∧ (bytes : Int) * n ≤ 281474976710656 ∧ n ≤ 9223372036854775807
    | _ => True
  | .allocB => noBld S = true
  | .appN k bytes x y => appNOb k bytes S (x.ev F) (y.ev F)
  | _ => True
def mkSlFits (P : Program) (k : Nat) (z : List AV) (xs : List Opd) (t : TypeId) (len : Nat) (parts : Array (Nat × Operand)) : Bool :=
  (match P.underlying t with
   | some (.slice e) => sizeIs P e k && zeroIs P e z
   | _ => false) && decide (0 < k) && decide (xs.length * k ≤ 16777216) && xs.length == len && listFits xs (parts.toList.map (·.2)) && decide (parts.toList.map (·.1) = List.range len)
def capFits (P : Program) (k bytes : Nat) (t : TypeId) (l : Operand) : Bool :=
  (match l with
   | .const (.int _ 0) => true
   | _ => false) && (match P.underlying t with
   | some (.slice e) => (match P.info? e with
     | some i => i.size == k && i.bytes == bytes && i.zero.isSome
     | none => false)
   | _ => false)
def MK.fits (P : Program) : MK → Op → Bool
  | .mov x, .move y | .mov x, .assign y => x.fits y
  | .pick c a b, .pick c' a' b' => c.fits c' && a.fits a' && b.fits b'
  | .alloc z, .alloc t => zeroIs P t z
  | .box x, .box _ y => x.fits y
  | .build z ps, .build t qs => buildTy P t z ps qs.toList
  | .mkSl k z xs, .buildSlice t ln parts => mkSlFits P k z xs t ln parts
  | .load n ag p, .load t q => p.fits q && known P t && (isAggB P t == ag) && sizeIs P t n
  | .store n p x, .store t q y => p.fits q && x.fits y && sizeIs P t n
  | .nilChk x, .nilCheck y => x.fits y
  | .bin op x y, .binOp op' _ x' y' _ => decide (op = op') && x.fits x' && y.fits y'
  | .eqv ks neg x y, .binOp op t x' y' _ => decide (op = if neg then .neq else .eql) && flatTy P ks t && x.fits x' && y.fits y'
  | .un op x, .unOp op' _ y => decide (op = op') && x.fits y
  | .conv k x, .convert s d y => x.fits y && known P s && kindTy P d k
  | .s2s x, .convert s d y => x.fits y && isStrTy P s && isStrTy P d
  | .b2s x, .convert s d y => x.fits y && byteTy P s && isStrTy P d
  | .fadr off x, .fieldAddr s y f => x.fits y && fieldIs P s f off
  | .fld off n ag x, .field s y f => x.fits y && fldTy P s f off n ag
  | .iadr k x i, .indexAddr t y j => x.fits y && i.fits j && (match P.underlying t with
    | some (.slice e) => sizeIs P e k
    | _ => false)
  | .iadrA k ln x i, .indexAddr t y j => x.fits y && i.fits j && (match P.underlying t with
    | some (.array n e) => n == ln && sizeIs P e k
    | _ => false)
  | .istr x i, .index t y j => x.fits y && i.fits j && isStrTy P t
  | .iarr k ln ag x i, .index t y j => x.fits y && i.fits j && iarrTy P t k ln ag
  | .slS x lo hi, .slice t y lo' hi' mx' => x.fits y && optFits lo lo' && optFits hi hi' && mx'.isNone && isStrTy P t
  | .slV k x lo hi mx, .slice t y lo' hi' mx' => x.fits y && optFits lo lo' && optFits hi hi' && optFits mx mx' && (match P.underlying t with
    | some (.slice e) => sizeIs P e k
    | _ => false)
  | .len s x, .call c => (match c.callee with
    | .builtin .len => true
    | _ => false) && (match c.args.toList, c.argTypes.toList with
    | [y], [t] => x.fits y && lenTy P s t
    | _, _ => false)
  | .app k bytes x y, .call c => (match c.callee with
    | .builtin .append => true
    | _ => false) && (match c.args.toList, c.argTypes.toList with
    | [x', y'], [t, t2] => x.fits x' && y.fits y' && appTy P t t2 k bytes
    | _, _ => false)
  | .min x y, .call c => (match c.callee with
    | .builtin .min => true
    | _ => false) && (match c.args.toList with
    | [x', y'] => x.fits x' && y.fits y'
    | _ => false)
  | .ifc t x, .makeInterface t' y => t == t' && x.fits y && concreteTy P t
  | .func f first caps, .makeFunc f' first' caps' => decide (f = f') && listFits first first'.toList && listFits caps caps'.toList
  | .ext x i, .extract y j => x.fits y && i == j
  | .s2y x, .convert s d y => x.fits y && isStrTy P s && byteTy P d
  | .mkCap k bytes c, .makeSlice t l c' => c.fits c' && capFits P k bytes t l
  | .cmp k neg x y, .binOp op t x' y' _ => decide (op = if neg then .neq else .eql) && x.fits x' && y.fits y' && cmpTy P t k y'
  | .allocB, .alloc t => bldFits P t
  | .appN k bytes x y, .call c => (match c.callee with
    | .builtin .append => true
    | _ => false) && (match c.args.toList, c.argTypes.toList with
    | [x', y'], [t, t2] => x.fits x' && y.fits y' && appTy P t t2 k bytes
    | _, _ => false)
  | .tas t z x, .typeAssert y _ t' ok => x.fits y && t == t' && ok && tasFits P t z
  | .bad, _ => true
  | _, _ => false
def OpOK (P : Program) (wb : Base) (G : Gh) (x : Sem Next) (w : World) (r : AV) (S' : St) : Prop :=
  ∃ n v w' G', x.run P w = .ok n w' ∧ (n = .value v ∨ (n = .skip ∧ v = undef)) ∧ G.le G' ∧ StRel wb G' S' w' ∧ VRel G' r v
theorem OpOK.of_sem {P : Program} {wb : Base} {G : Gh} {x : Sem Value} {w : World} {r : AV} {S' : St} (h : SemOK P wb G x w r S') : OpOK P wb G (do pure (.value (← x))) w r S' := by
  obtain ⟨v, w', G', h1, h2, h3, h4⟩ := h
  exact ⟨.value v, v, w', G', by simp [h1], .inl rfl, h2, h3, h4⟩
theorem OpOK.same {P : Program} {wb : Base} {G : Gh} {x : Sem Value} {w : World} {r : AV} {S : St} (h : StRel wb G S w) (hx : ∃ v, x.run P w = .ok v w ∧ VRel G r v) : OpOK P wb G (do pure (.value (← x))) w r S := by
  obtain ⟨v, h1, h2⟩ := hx
  exact .of_sem (.same h h1 h2)
theorem optFits_rel {G : Gh} {F : Fr} {a : Act} (h : FRel G F a) {x : Option Opd} {o : Option Operand} (hf : optFits x o = true) : ORel G (x.map (Opd.ev F)) (o.map a.eval) := by
  cases x <;> cases o <;> simp [optFits] at hf
  · trivial
  · exact Opd.rel h hf
theorem kind_und {P : Program} {t : TypeId} (h : isStrTy P t = true) : P.underlying t = some .string := by
  unfold isStrTy at h
  split at h
  · assumption
  · cases h
theorem zip_parts : ∀ (vs : List Value) (parts : List (Nat × Value)) (i : Nat), parts.map (·.2) = vs → parts.map (·.1) = List.range' i vs.length → parts = (vs.zipIdx i).map fun x => (x.2, x.1)
  | [], [], _, _, _ => rfl
  | [], _ :: _, _, h, _ => by simp at h
  | _ :: _, [], _, h, _ => by simp at h
  | v :: vs, p :: ps, i, h, h' => by
    simp only [List.map_cons, List.cons.injEq, List.length_cons, List.range'_succ] at h h'
    obtain ⟨rfl, h1⟩ := h
    obtain ⟨h2, h3⟩ := h'
    have := zip_parts vs ps (i + 1) h1 (by rw [h3])
    subst h2
    rw [List.zipIdx_cons, List.map_cons, ← this]
theorem MK.sound {P : Program} {wb : Base} {G : Gh} {S S' : St} {F : Fr} {a : Act} {w : World} {m : MK} {o : Oper} {r : AV} (hfit : m.fits P o.op = true) (hob : m.ob F S) (hev : m.ev F S = some (r, S')) (hS : StRel wb G S w) (hF : FRel G F a) :
    OpOK P wb G (execOp a.eval o) w r S' := by
  unfold MK.fits at hfit
  split at hfit
  case h_1 x y h =>
    simp only [MK.ev, Option.some.injEq, Prod.mk.injEq] at hev
    obtain ⟨rfl, rfl⟩ := hev
    simp only [execOp, h]
    exact ⟨_, _, w, G, rfl, .inl rfl, Gh.le_refl G, hS, Opd.rel hF hfit⟩
  case h_2 x y h =>
    simp only [MK.ev, Option.some.injEq, Prod.mk.injEq] at hev
    obtain ⟨rfl, rfl⟩ := hev
    simp only [execOp, h]
    exact ⟨_, _, w, G, rfl, .inl rfl, Gh.le_refl G, hS, Opd.rel hF hfit⟩
  case h_3 c a1 b c' a' b' h =>
    simp only [Bool.and_eq_true] at hfit
    obtain ⟨⟨f1, f2⟩, f3⟩ := hfit
    have hc := Opd.rel hF f1
    simp only [MK.ev] at hev
    split at hev
    · rename_i t ht
      rw [ht] at hc
      simp only [Option.some.injEq, Prod.mk.injEq] at hev
      obtain ⟨rfl, rfl⟩ := hev
      generalize hcv : a.eval c' = cv at hc
      cases hc
      simp only [execOp, h, hcv, asBool]
      refine ⟨_, _, w, G, rfl, .inl rfl, Gh.le_refl G, hS, ?_⟩
      cases t
      · exact Opd.rel hF f3
      · exact Opd.rel hF f2
    · cases hev
  case h_4 z t h =>
    simp only [MK.ev, Option.some.injEq, Prod.mk.injEq] at hev
    obtain ⟨rfl, rfl⟩ := hev
    simp only [execOp, h]
    exact .of_sem (sem_alloc hS hfit)
  case h_5 x t y h =>
    simp only [MK.ev] at hev
    split at hev
    · rename_i hs
      simp only [Option.some.injEq, Prod.mk.injEq] at hev
      obtain ⟨rfl, rfl⟩ := hev
      simp only [execOp, h]
      exact .of_sem (sem_box hS (Opd.rel hF hfit) hs)
    · cases hev
  case h_6 z ps t qs h =>
    simp only [MK.ev, Option.map_eq_some_iff, Prod.mk.injEq] at hev
    obtain ⟨cs, h1, rfl, rfl⟩ := hev
    simp only [execOp, h]
    exact .same hS (run_build hF hfit h1)
  case h_7 k z xs t ln parts h =>
    simp only [MK.ev] at hev
    split at hev
    · rename_i hrow
      simp only [Option.some.injEq, Prod.mk.injEq] at hev
      obtain ⟨rfl, rfl⟩ := hev
      simp only [execOp, h]
      unfold mkSlFits at hfit
      simp only [Bool.and_eq_true, decide_eq_true_eq, beq_iff_eq] at hfit
      obtain ⟨⟨⟨⟨⟨f1, f2⟩, f3⟩, f4⟩, f5⟩, f6⟩ := hfit
      split at f1
      · rename_i e he
        simp only [Bool.and_eq_true] at f1
        obtain ⟨r1, r2⟩ := listFits_rel hF f5
        have e1 : ln = (xs.map (Opd.ev F)).length := by simp [f4]
        rw [e1]
        refine .of_sem (sem_buildSlice hS (vs := (parts.toList.map (·.2)).map a.eval) r1 r2 hrow he f1.1 f1.2 f2 (by simpa using f3) ?_)
        refine zip_parts _ _ 0 ?_ ?_
        · simp
        · have e2 : ((parts.toList.map (·.2)).map a.eval).length = ln := by rw [← r1]; simp [f4]
          rw [e2, ← List.range_eq_range', ← f6]
          simp
      · cases f1
    · cases hev
  case h_8 n ag p t q h =>
    simp only [Bool.and_eq_true, beq_iff_eq] at hfit
    obtain ⟨⟨⟨f1, f2⟩, f3⟩, f4⟩ := hfit
    simp only [MK.ev, Option.bind_eq_some_iff, Option.map_eq_some_iff, Prod.mk.injEq] at hev
    obtain ⟨cs, h1, v, h2, rfl, rfl⟩ := hev
    obtain ⟨rr, oo, h3, h4⟩ := there_at hS h1 (Opd.rel hF f1)
    simp only [execOp, h, h3]
    exact .same hS (run_load_at h4 f2 f3 f4 h2)
  case h_9 n p x t q y h =>
    simp only [Bool.and_eq_true] at hfit
    obtain ⟨⟨f1, f2⟩, f3⟩ := hfit
    simp only [MK.ev, Option.map_eq_some_iff, Prod.mk.injEq] at hev
    obtain ⟨S1, h1, rfl, rfl⟩ := hev
    obtain ⟨w', h2, h3⟩ := run_store_at (P := P) hS (Opd.rel hF f1) (Opd.rel hF f2) f3 h1
    simp only [execOp, h]
    exact ⟨.skip, undef, w', G, by simp [h2], .inr ⟨rfl, rfl⟩, Gh.le_refl G, h3, .tup (vs := []) rfl (by simp)⟩
  case h_10 x y h =>
    simp only [MK.ev] at hev
    split at hev
    · rename_i hn
      simp only [Option.some.injEq, Prod.mk.injEq] at hev
      obtain ⟨rfl, rfl⟩ := hev
      have hx := Opd.rel hF hfit
      simp only [execOp, h]
      generalize x.ev F = xv at hx hn
      generalize a.eval y = yv at hx
      cases hx <;> first
        | (cases hn; done)
        | exact ⟨_, _, w, G, rfl, .inl rfl, Gh.le_refl G, hS, by constructor <;> assumption⟩
    · cases hev
  case h_11 op x y op' t x' y' t' h =>
    simp only [Bool.and_eq_true, decide_eq_true_eq] at hfit
    obtain ⟨⟨rfl, f2⟩, f3⟩ := hfit
    simp only [MK.ev, Option.map_eq_some_iff, Prod.mk.injEq] at hev
    obtain ⟨v, h1, rfl, rfl⟩ := hev
    simp only [execOp, h]
    exact .same hS (run_bin (Opd.rel hF f2) (Opd.rel hF f3) hob h1 x' y')
  case h_12 ks neg x y op t x' y' t' h =>
    simp only [Bool.and_eq_true, decide_eq_true_eq] at hfit
    obtain ⟨⟨⟨rfl, f1⟩, f2⟩, f3⟩ := hfit
    simp only [MK.ev, Option.map_eq_some_iff, Prod.mk.injEq] at hev
    obtain ⟨v, h1, rfl, rfl⟩ := hev
    simp only [execOp, h]
    exact .same hS (run_eqv (Opd.rel hF f2) (Opd.rel hF f3) f1 h1 x' y')
  case h_13 op x op' t y h =>
    simp only [Bool.and_eq_true, decide_eq_true_eq] at hfit
    obtain ⟨rfl, f2⟩ := hfit
    simp only [MK.ev, Option.map_eq_some_iff, Prod.mk.injEq] at hev
    obtain ⟨v, h1, rfl, rfl⟩ := hev
    simp only [execOp, h]
    exact .same hS (run_un (Opd.rel hF f2) h1)
  case h_14 k x s d y h =>
    simp only [Bool.and_eq_true] at hfit
    obtain ⟨⟨f1, f2⟩, f3⟩ := hfit
    simp only [MK.ev] at hev
    split at hev
    · rename_i k0 n hx
      simp only [Option.some.injEq, Prod.mk.injEq] at hev
      obtain ⟨rfl, rfl⟩ := hev
      simp only [execOp, h]
      exact .same hS ⟨_, run_conv (Opd.rel hF f1) hx f2 f3, .int _ _⟩
    · cases hev
  case h_15 x s d y h =>
    simp only [Bool.and_eq_true] at hfit
    obtain ⟨⟨f1, f2⟩, f3⟩ := hfit
    have hx := Opd.rel hF f1
    simp only [MK.ev] at hev
    split at hev
    · rename_i b hb
      rw [hb] at hx
      simp only [Option.some.injEq, Prod.mk.injEq] at hev
      obtain ⟨rfl, rfl⟩ := hev
      simp only [execOp, h]
      exact .same hS ⟨_, run_convStr hx f2 f3, hx⟩
    · cases hev
  case h_16 x s d y h =>
    simp only [Bool.and_eq_true] at hfit
    obtain ⟨⟨f1, f2⟩, f3⟩ := hfit
    have hx := Opd.rel hF f1
    simp only [MK.ev] at hev
    split at hev
    · rename_i k xs tk hb
      rw [hb] at hx
      split at hev
      · rename_i hk
        subst hk
        simp only [Option.map_eq_some_iff, Prod.mk.injEq] at hev
        obtain ⟨b, h1, rfl, rfl⟩ := hev
        simp only [execOp, h]
        exact .same hS (run_b2s hS hx h1 f2 f3)
      · cases hev
    · cases hev
  case h_17 off x s y f h =>
    simp only [Bool.and_eq_true] at hfit
    simp only [MK.ev, Option.map_eq_some_iff, Prod.mk.injEq] at hev
    obtain ⟨v, h1, rfl, rfl⟩ := hev
    simp only [execOp, h]
    exact .same hS (run_fieldAt (Opd.rel hF hfit.1) hfit.2 h1)
  case h_18 off n ag x s y f h =>
    simp only [Bool.and_eq_true] at hfit
    simp only [MK.ev, Option.map_eq_some_iff, Prod.mk.injEq] at hev
    obtain ⟨v, h1, rfl, rfl⟩ := hev
    simp only [execOp, h]
    exact .same hS (run_field (Opd.rel hF hfit.1) hfit.2 h1)
  case h_19 k x i t y j h =>
    simp only [Bool.and_eq_true] at hfit
    obtain ⟨⟨f1, f2⟩, f3⟩ := hfit
    have hx := Opd.rel hF f1
    have hi := Opd.rel hF f2
    simp only [MK.ev] at hev
    split at hev
    · rename_i k' xs tk ki n e1 e2
      split at hev
      · rename_i hk
        subst hk
        simp only [Option.some.injEq, Prod.mk.injEq] at hev
        obtain ⟨rfl, rfl⟩ := hev
        simp only [MK.ob, e1, e2] at hob
        rw [e1] at hx
        rw [e2] at hi
        split at f3
        · rename_i e he
          simp only [execOp, h]
          exact .same hS (run_indexAt_sl hx hi he f3 hob.1 hob.2)
        · cases f3
      · cases hev
    · cases hev
  case h_20 k ln x i t y j h =>
    simp only [Bool.and_eq_true] at hfit
    obtain ⟨⟨f1, f2⟩, f3⟩ := hfit
    have hi := Opd.rel hF f2
    simp only [MK.ev] at hev
    split at hev
    · rename_i ki n e2
      simp only [Option.map_eq_some_iff, Prod.mk.injEq] at hev
      obtain ⟨v, h1, rfl, rfl⟩ := hev
      simp only [MK.ob, e2] at hob
      rw [e2] at hi
      split at f3
      · rename_i n' e he
        simp only [Bool.and_eq_true, beq_iff_eq] at f3
        obtain ⟨rfl, f3⟩ := f3
        simp only [execOp, h]
        exact .same hS (run_indexAt_arr (Opd.rel hF f1) hi he f3 hob.1 hob.2 h1)
      · cases f3
    · cases hev
  case h_21 x i t y j h =>
    simp only [Bool.and_eq_true] at hfit
    obtain ⟨⟨f1, f2⟩, f3⟩ := hfit
    have hx := Opd.rel hF f1
    have hi := Opd.rel hF f2
    simp only [MK.ev] at hev
    split at hev
    · rename_i s ki n e1 e2
      simp only [Option.map_eq_some_iff, Prod.mk.injEq] at hev
      obtain ⟨b, h1, rfl, rfl⟩ := hev
      simp only [MK.ob, e2] at hob
      rw [e1] at hx
      rw [e2] at hi
      simp only [execOp, h]
      exact .same hS (run_index_str hx hi (kind_und f3) hob h1)
    · cases hev
  case h_22 k ln ag x i t y j h =>
    simp only [Bool.and_eq_true] at hfit
    obtain ⟨⟨f1, f2⟩, f3⟩ := hfit
    simp only [MK.ev, Option.map_eq_some_iff, Prod.mk.injEq] at hev
    obtain ⟨v, h1, rfl, rfl⟩ := hev
    simp only [execOp, h]
    exact .same hS (run_iarr (Opd.rel hF f1) (Opd.rel hF f2) f3 h1)
  case h_23 x lo hi t y lo' hi' mx' h =>
    simp only [Bool.and_eq_true, Option.isNone_iff_eq_none] at hfit
    obtain ⟨⟨⟨⟨f1, f2⟩, f3⟩, rfl⟩, f5⟩ := hfit
    simp only [MK.ev, Option.map_eq_some_iff, Prod.mk.injEq] at hev
    obtain ⟨v, h1, rfl, rfl⟩ := hev
    simp only [execOp, h, Option.map_none]
    exact .same hS (run_slStr (Opd.rel hF f1) (optFits_rel hF f2) (optFits_rel hF f3) (kind_und f5) hob h1)
  case h_24 k x lo hi mx t y lo' hi' mx' h =>
    simp only [Bool.and_eq_true] at hfit
    obtain ⟨⟨⟨⟨f1, f2⟩, f3⟩, f4⟩, f5⟩ := hfit
    simp only [MK.ev, Option.map_eq_some_iff, Prod.mk.injEq] at hev
    obtain ⟨v, h1, rfl, rfl⟩ := hev
    split at f5
    · rename_i e he
      simp only [execOp, h]
      exact .same hS (run_slVec (Opd.rel hF f1) (optFits_rel hF f2) (optFits_rel hF f3) (optFits_rel hF f4) he f5 hob h1)
    · cases f5
  case h_25 s x c h =>
    simp only [Bool.and_eq_true] at hfit
    obtain ⟨f1, f2⟩ := hfit
    obtain ⟨callee, args, argTypes⟩ := c
    simp only at f1 f2
    split at f1
    rotate_left
    · cases f1
    split at f2
    · rename_i y t e1 e2
      simp only [Bool.and_eq_true] at f2
      simp only [MK.ev] at hev
      split at hev
      · rename_i hstr
        subst hstr
        simp only [Option.map_eq_some_iff, Prod.mk.injEq] at hev
        obtain ⟨v, h1, rfl, rfl⟩ := hev
        obtain rfl : args = #[y] := by apply Array.ext'; simpa using e1
        obtain rfl : argTypes = #[t] := by apply Array.ext'; simpa using e2
        simp only [execOp, h, resolve, List.map_toArray, List.map_cons, List.map_nil]
        exact .same hS (run_len (Opd.rel hF f2.1) f2.2 h1)
      · cases hev
    · cases f2
  case h_26 k bytes x y c h =>
    simp only [Bool.and_eq_true] at hfit
    obtain ⟨f1, f2⟩ := hfit
    obtain ⟨callee, args, argTypes⟩ := c
    simp only at f1 f2
    split at f1
    rotate_left
    · cases f1
    split at f2
    · rename_i x' y' t t2 e1 e2
      simp only [Bool.and_eq_true] at f2
      obtain ⟨⟨f3, f4⟩, f5⟩ := f2
      simp only [MK.ev] at hev
      obtain rfl : args = #[x', y'] := by apply Array.ext'; simpa using e1
      obtain rfl : argTypes = #[t, t2] := by apply Array.ext'; simpa using e2
      simp only [execOp, h, resolve, List.map_toArray, List.map_cons, List.map_nil]
      exact .of_sem (sem_append hS (Opd.rel hF f3) (Opd.rel hF f4) f5 hob hev)
    · cases f2
  case h_27 x y c h =>
    simp only [Bool.and_eq_true] at hfit
    obtain ⟨f1, f2⟩ := hfit
    obtain ⟨callee, args, argTypes⟩ := c
    simp only at f1 f2
    split at f1
    rotate_left
    · cases f1
    split at f2
    · rename_i x' y' e1
      simp only [Bool.and_eq_true] at f2
      simp only [MK.ev, Option.map_eq_some_iff, Prod.mk.injEq] at hev
      obtain ⟨v, h1, rfl, rfl⟩ := hev
      obtain rfl : args = #[x', y'] := by apply Array.ext'; simpa using e1
      simp only [execOp, h, resolve, List.map_toArray, List.map_cons, List.map_nil]
      exact .same hS (run_min (Opd.rel hF f2.1) (Opd.rel hF f2.2) h1)
    · cases f2
  case h_28 t x t' y h =>
    simp only [Bool.and_eq_true, beq_iff_eq] at hfit
    obtain ⟨⟨rfl, f2⟩, f3⟩ := hfit
    simp only [MK.ev, Option.some.injEq, Prod.mk.injEq] at hev
    obtain ⟨rfl, rfl⟩ := hev
    simp only [execOp, h]
    exact .same hS ⟨_, run_ifc f3, .ifc t (Opd.rel hF f2)⟩
  case h_29 f first caps f' first' caps' h =>
    simp only [Bool.and_eq_true, decide_eq_true_eq] at hfit
    obtain ⟨⟨rfl, f2⟩, f3⟩ := hfit
    simp only [MK.ev, Option.some.injEq, Prod.mk.injEq] at hev
    obtain ⟨rfl, rfl⟩ := hev
    obtain ⟨l1, r1⟩ := listFits_rel hF f2
    obtain ⟨l2, r2⟩ := listFits_rel hF f3
    simp only [execOp, h]
    refine .same hS ⟨.func f (first'.map a.eval) (caps'.map a.eval), rfl, ?_⟩
    have := VRel.fn (G := G) f l1 l2 r1 r2
    rw [show (first'.toList.map a.eval).toArray = first'.map a.eval from by apply Array.ext'; simp, show (caps'.toList.map a.eval).toArray = caps'.map a.eval from by apply Array.ext'; simp] at this
    exact this
  case h_30 x i y j h =>
    simp only [Bool.and_eq_true, beq_iff_eq] at hfit
    obtain ⟨f1, rfl⟩ := hfit
    simp only [MK.ev, Option.map_eq_some_iff, Prod.mk.injEq] at hev
    obtain ⟨v, h1, rfl, rfl⟩ := hev
    simp only [execOp, h]
    exact .same hS (run_ext (Opd.rel hF f1) h1)
  case h_31 x s d y h =>
    simp only [Bool.and_eq_true] at hfit
    obtain ⟨⟨f1, f2⟩, f3⟩ := hfit
    have hx := Opd.rel hF f1
    simp only [MK.ev] at hev
    split at hev
    · rename_i b hb
      rw [hb] at hx
      simp only [Option.some.injEq, Prod.mk.injEq] at hev
      obtain ⟨rfl, rfl⟩ := hev
      simp only [execOp, h]
      exact .of_sem (sem_s2y hS hx f2 f3)
    · cases hev
  case h_32 k bytes c t l c' h =>
    simp only [Bool.and_eq_true] at hfit
    obtain ⟨f1, f2⟩ := hfit
    have hx := Opd.rel hF f1
    simp only [MK.ev] at hev
    simp only [MK.ob] at hob
    split at hev
    · rename_i k0 n hn
      rw [hn] at hx hob
      simp only at hob
      simp only [Option.some.injEq, Prod.mk.injEq] at hev
      obtain ⟨rfl, rfl⟩ := hev
      unfold capFits at f2
      simp only [Bool.and_eq_true] at f2
      obtain ⟨f3, f4⟩ := f2
      split at f3
      · rename_i kl
        split at f4
        · rename_i e he
          split at f4
          · rename_i i hi
            simp only [Bool.and_eq_true, beq_iff_eq] at f4
            obtain ⟨⟨f5, f6⟩, f7⟩ := f4
            obtain ⟨z, hz⟩ := Option.isSome_iff_exists.1 f7
            simp only [execOp, h]
            generalize hcv : a.eval c' = cv at hx
            cases hx
            simp only [Act.eval]
            exact .of_sem (sem_mkCap hS he hi hz hob.1 (by rw [f6]; exact hob.2.1) hob.2.2 f5)
          · cases f4
        · cases f4
      · cases f3
    · cases hev
  case h_33 k neg x y op t x' y' t' h =>
    simp only [Bool.and_eq_true, decide_eq_true_eq] at hfit
    obtain ⟨⟨⟨rfl, f1⟩, f2⟩, f3⟩ := hfit
    simp only [MK.ev, Option.map_eq_some_iff, Prod.mk.injEq] at hev
    obtain ⟨b, h1, rfl, rfl⟩ := hev
    simp only [execOp, h]
    exact .same hS (run_cmp (Opd.rel hF f1) (Opd.rel hF f2) f3 h1)
  case h_34 t h =>
    simp only [MK.ev, Option.some.injEq, Prod.mk.injEq] at hev
    obtain ⟨rfl, rfl⟩ := hev
    simp only [execOp, h]
    exact .of_sem (sem_allocB hS hfit hob)
  case h_35 k bytes x y c h =>
    simp only [Bool.and_eq_true] at hfit
    obtain ⟨f1, f2⟩ := hfit
    obtain ⟨callee, args, argTypes⟩ := c
    simp only at f1 f2
    split at f1
    rotate_left
    · cases f1
    split at f2
    · rename_i x' y' t t2 e1 e2
      simp only [Bool.and_eq_true] at f2
      obtain ⟨⟨f3, f4⟩, f5⟩ := f2
      simp only [MK.ev] at hev
      obtain rfl : args = #[x', y'] := by apply Array.ext'; simpa using e1
      obtain rfl : argTypes = #[t, t2] := by apply Array.ext'; simpa using e2
      simp only [execOp, h, resolve, List.map_toArray, List.map_cons, List.map_nil]
      exact .of_sem (sem_appN hS (Opd.rel hF f3) (Opd.rel hF f4) f5 hob hev)
    · cases f2
  case h_36 t z x y xt t' ok h =>
    simp only [Bool.and_eq_true, beq_iff_eq] at hfit
    obtain ⟨⟨⟨f1, rfl⟩, rfl⟩, f4⟩ := hfit
    simp only [MK.ev, Option.map_eq_some_iff, Prod.mk.injEq] at hev
    obtain ⟨v, h1, rfl, rfl⟩ := hev
    simp only [execOp, h]
    exact .same hS (run_tas (Opd.rel hF f1) f4 h1)
  case h_37 => simp only [MK.ev, reduceCtorEq] at hev
  case h_38 => cases hfit
end Go.V
