/- The by-value layer, part twenty: running a body by computation, on known values. Over any program. -/
import Derived.Test.YtombgigaefgaiaaGreatDoorVr
set_option linter.unusedSimpArgs false
set_option linter.unusedVariables false
namespace Go.V
open Go
def binObB (op : BinOp) (x y : AV) : Bool :=
  match x,y with
  | .int _ _,.int _ b =>
    match op with
    | .shl | .shr => decide (0 ≤ b)
    | .quo | .rem => decide (b ≠ 0)
    | _ => true
  | .str a,.str b =>
    match op with
    | .add => decide (a.length + b.length < 9223372036854775808)
    | _ => true
  | _,_ => true
theorem binObB_ok {op : BinOp} {x y : AV} (h : binObB op x y = true) : binOb op x y := by
  unfold binObB at h
  unfold binOb
  split at h <;> (try split at h) <;> simp_all
def slStrObB (x : AV) (lo hi : Option AV) : Bool :=
  match x with
  | .str s => match bnd 0 lo,bnd s.length hi with
    | some l,some h => decide (0 ≤ l) && (decide (l ≤ h) && decide (h ≤ s.length))
    | _,_ => true
  | _ => true
theorem slStrObB_ok {x : AV} {lo hi : Option AV} (h : slStrObB x lo hi = true) : slStrOb x lo hi := by
  cases x <;> first
    | trivial
    | skip
  simp only [slStrObB] at h
  simp only [slStrOb]
  split
  · rename_i e1 e2
    rw [e1,e2] at h
    simpa using h
  · trivial
def slVecObB (x : AV) (lo hi mx : Option AV) : Bool :=
  match x with
  | .sl _ xs _ => match bnd 0 lo,bnd xs.length hi with
    | some l,some h => decide (0 ≤ l) && (decide (l ≤ h) && (decide (h ≤ xs.length) && (match mx with
      | none => true
      | some _ => match bnd 0 mx with
        | some m => decide (h ≤ m) && (decide (m ≤ xs.length) && hi.isSome)
        | none => true)))
    | _,_ => true
  | .osl _ n _ _ => match bnd 0 lo,bnd n hi with
    | some l,some h => decide (0 ≤ l) && (decide (l ≤ h) && decide (h ≤ n))
    | _,_ => true
  | _ => true
theorem slVecObB_ok {x : AV} {lo hi mx : Option AV} (h : slVecObB x lo hi mx = true) : slVecOb x lo hi mx := by
  cases x <;> first
    | trivial
    | skip
  rotate_left
  · simp only [slVecObB] at h
    simp only [slVecOb]
    split
    · rename_i e1 e2
      rw [e1,e2] at h
      simpa using h
    · trivial
  simp only [slVecObB] at h
  simp only [slVecOb]
  split
  · rename_i e1 e2
    rw [e1,e2] at h
    simp only [Bool.and_eq_true,decide_eq_true_eq] at h
    obtain ⟨h1,h2,h3,h4⟩ := h
    refine ⟨h1,h2,h3,?_⟩
    split
    · trivial
    · split
      · rename_i e3
        rw [e3] at h4
        simpa using h4
      · trivial
  · trivial
def ableB (S : St) : STok → Bool
  | .exact => true
  | .tok n => S.live.contains n
  | .unk => false
  | .new _ => false
def appObB (k bytes : Nat) (S : St) (x y : AV) : Bool :=
  match x with
  | .sl _ xs t => ableB S t && (match appArg k y with
     | some ys => decide ((xs.length + ys.length) * bytes ≤ 140737488355328) && decide (xs.length + ys.length ≤ 9223372036854775807)
     | none => true)
  | _ => true
theorem appObB_ok {k bytes : Nat} {S : St} {x y : AV} (h : appObB k bytes S x y = true) : appOb k bytes S x y := by
  cases x <;> first
    | trivial
    | skip
  rename_i t
  simp only [appObB,Bool.and_eq_true] at h
  obtain ⟨h1,h2⟩ := h
  refine ⟨?_,?_⟩
  · cases t with
    | unk => cases h1
    | exact => exact .inl rfl
    | tok n => exact .inr ⟨n,rfl,by simpa [ableB] using h1⟩
    | new n => cases h1
  · split
    · rename_i e
      rw [e] at h2
      simpa using h2
    · trivial
def appNObB (k bytes : Nat) (S : St) (x y : AV) : Bool :=
  match x with
  | .sl _ xs t => (match t with
     | .new n => S.live.contains n
     | _ => true) && (match appArg k y with
     | some ys => decide ((xs.length + ys.length) * bytes ≤ 140737488355328) && decide (xs.length + ys.length ≤ 9223372036854775807)
     | none => true)
  | _ => true
theorem appNObB_ok {k bytes : Nat} {S : St} {x y : AV} (h : appNObB k bytes S x y = true) : appNOb k bytes S x y := by
  cases x <;> first
    | trivial
    | skip
  rename_i t
  simp only [appNObB,Bool.and_eq_true] at h
  obtain ⟨h1,h2⟩ := h
  refine ⟨?_,?_⟩
  · cases t <;> simp_all
  · split
    · rename_i e
      rw [e] at h2
      simpa using h2
    · trivial
theorem appNEv_gl {k : Nat} {S S' : St} {x y r : AV} (h : appNEv k S x y = some (r,S')) : S'.gl = S.gl := by
  unfold appNEv at h
  split at h
  · split at h
    · simp only [Option.bind_eq_some_iff] at h
      obtain ⟨ys,_,h⟩ := h
      split at h
      · simp only [Option.some.injEq,Prod.mk.injEq] at h; obtain ⟨_,rfl⟩ := h; rfl
      · split at h
        · split at h
          · simp only [Option.some.injEq,Prod.mk.injEq] at h; obtain ⟨_,rfl⟩ := h; rfl
          · simp only [Option.some.injEq,Prod.mk.injEq] at h; obtain ⟨_,rfl⟩ := h; rfl
        · cases h
      · cases h
    · cases h
  · cases h
def MK.obB (F : Fr) (S : St) : MK → Bool
  | .bin op x y => binObB op (x.ev F) (y.ev F)
  | .iadr _ x i => match x.ev F,i.ev F with
    | .sl _ xs _,.int _ n => decide (0 ≤ n) && decide (n < xs.length)
    | .osl _ m _ _,.int _ n => decide (0 ≤ n) && decide (n < m)
    | _,_ => true
  | .iadrA _ ln _ i => match i.ev F with
    | .int _ n => decide (0 ≤ n) && decide (n < ln)
    | _ => true
  | .istr _ i => match i.ev F with
    | .int _ n => decide (0 ≤ n)
    | _ => true
  | .slS x lo hi => slStrObB (x.ev F) (lo.map (Opd.ev F)) (hi.map (Opd.ev F))
  | .slV _ x lo hi mx => slVecObB (x.ev F) (lo.map (Opd.ev F)) (hi.map (Opd.ev F)) (mx.map (Opd.ev F))
  | .app k bytes x y => appObB k bytes S (x.ev F) (y.ev F)
  | .mkCap _ bytes c => match c.ev F with
    | .int _ n => decide (0 ≤ n) && (decide ((bytes : Int) * n ≤ 281474976710656) && decide (n ≤ 9223372036854775807))
    | _ => true
  | .allocB => noBld S
  | .appN k bytes x y => appNObB k bytes S (x.ev F) (y.ev F)
  | .appG k bytes x y => (match oslLen (y.ev F) with
    | some n => decide ((oslN (x.ev F) + n) * bytes ≤ 140737488355328) && decide (oslN (x.ev F) + n ≤ 9223372036854775807)
    | none => match appArg k (y.ev F) with
      | some ys => decide ((oslN (x.ev F) + ys.length) * bytes ≤ 140737488355328) && decide (oslN (x.ev F) + ys.length ≤ 9223372036854775807)
      | none => true)
  | .appO k bytes _ y => (match oslLen (y.ev F) with
    | some n => decide (n * bytes ≤ 140737488355328) && decide (n ≤ 9223372036854775807)
    | none => match appArg k (y.ev F) with
      | some ys => decide (ys.length * bytes ≤ 140737488355328) && decide (ys.length ≤ 9223372036854775807)
      | none => true)
  | _ => true
theorem MK.obB_ok {F : Fr} {S : St} {m : MK} (h : m.obB F S = true) : m.ob F S := by
  cases m <;> first
    | trivial
    | exact binObB_ok h
    | exact slStrObB_ok h
    | exact slVecObB_ok h
    | exact appObB_ok h
    | exact appNObB_ok h
    | (simp only [MK.obB] at h
       simp only [MK.ob,appOOb,appGOb]
       repeat' split at h
       all_goals simp_all)
    | exact h
    | (simp only [MK.obB] at h
       simp only [MK.ob]
       split at h <;> simp_all)
theorem storeEv_gl {n : Nat} {S S' : St} {p x : AV} (h : storeEv n S p x = some S') : S'.gl = S.gl := by
  unfold storeEv at h
  split at h
  · simp only [Option.bind_eq_some_iff] at h
    obtain ⟨cs,_,h⟩ := h
    split at h
    · cases h
    · split at h
      · injection h with h; subst h; rfl
      · cases h
  · cases h
theorem appEv_gl {k : Nat} {S S' : St} {x y r : AV} (h : appEv k S x y = some (r,S')) : S'.gl = S.gl := by
  unfold appEv at h
  split at h
  · split at h
    · simp only [Option.map_eq_some_iff,Prod.mk.injEq] at h
      obtain ⟨_,_,_,rfl⟩ := h
      rfl
    · cases h
  · cases h
theorem MK.ev_gl {F : Fr} {S S' : St} {m : MK} {r : AV} (h : m.ev F S = some (r,S')) : S'.gl = S.gl := by
  by_cases hk : m.kd = 0
  · rw [(MK.pure hk h).1]
  · cases m <;> simp only [MK.kd] at hk <;> first
      | (exact absurd trivial hk)
      | skip
    case alloc z => simp only [MK.ev,Option.some.injEq,Prod.mk.injEq] at h; obtain ⟨_,rfl⟩ := h; rfl
    case box x =>
      simp only [MK.ev] at h
      split at h
      · simp only [Option.some.injEq,Prod.mk.injEq] at h; obtain ⟨_,rfl⟩ := h; rfl
      · cases h
    case load n ag p =>
      simp only [MK.ev,Option.bind_eq_some_iff,Option.map_eq_some_iff,Prod.mk.injEq] at h
      obtain ⟨_,_,_,_,_,rfl⟩ := h
      rfl
    case store n p x =>
      simp only [MK.ev,Option.map_eq_some_iff,Prod.mk.injEq] at h
      obtain ⟨_,h1,_,rfl⟩ := h
      exact storeEv_gl h1
    case app k b x y => exact appEv_gl h
    case appN k b x y => exact appNEv_gl h
    case appG k b x y =>
      simp only [MK.ev] at h
      unfold appGEv at h
      split at h
      · simp only [Option.bind_eq_some_iff] at h
        obtain ⟨p,_,h⟩ := h
        split at h
        · simp only [Option.some.injEq,Prod.mk.injEq] at h; obtain ⟨_,rfl⟩ := h; rfl
        · simp only [Option.map_eq_some_iff,Prod.mk.injEq] at h
          obtain ⟨_,_,_,rfl⟩ := h
          rfl
      · unfold appOEv at h
        split at h
        · split at h
          · split at h
            · simp only [Option.map_eq_some_iff,Prod.mk.injEq] at h
              obtain ⟨_,_,_,rfl⟩ := h
              rfl
            · simp only [Option.bind_eq_some_iff] at h
              obtain ⟨ys,_,h⟩ := h
              split at h
              · simp only [Option.some.injEq,Prod.mk.injEq] at h; obtain ⟨_,rfl⟩ := h; rfl
              · simp only [Option.some.injEq,Prod.mk.injEq] at h; obtain ⟨_,rfl⟩ := h; rfl
          · cases h
        · cases h
      · cases h
    case appO k b x y =>
      simp only [MK.ev] at h
      unfold appOEv at h
      split at h
      · split at h
        · split at h
          · simp only [Option.map_eq_some_iff,Prod.mk.injEq] at h
            obtain ⟨_,_,_,rfl⟩ := h
            rfl
          · simp only [Option.bind_eq_some_iff] at h
            obtain ⟨ys,_,h⟩ := h
            split at h
            · simp only [Option.some.injEq,Prod.mk.injEq] at h; obtain ⟨_,rfl⟩ := h; rfl
            · simp only [Option.some.injEq,Prod.mk.injEq] at h; obtain ⟨_,rfl⟩ := h; rfl
        · cases h
      · cases h
    case allocB => simp only [MK.ev,Option.some.injEq,Prod.mk.injEq] at h; obtain ⟨_,rfl⟩ := h; rfl
    case clr k z x =>
      simp only [MK.ev] at h
      unfold clrEv at h
      split at h
      · split at h
        · simp only [Option.bind_eq_some_iff] at h
          obtain ⟨cs,_,h⟩ := h
          split at h
          · cases h
          · split at h
            · simp only [Option.some.injEq,Prod.mk.injEq] at h; obtain ⟨_,rfl⟩ := h; rfl
            · cases h
        · cases h
      · cases h
    case mkCap k b c =>
      simp only [MK.ev] at h
      split at h
      · simp only [Option.some.injEq,Prod.mk.injEq] at h; obtain ⟨_,rfl⟩ := h; rfl
      · cases h
    case zbox E x =>
      simp only [MK.ev] at h
      split at h
      · simp only [Option.some.injEq,Prod.mk.injEq] at h; obtain ⟨_,rfl⟩ := h; rfl
      · cases h
    case zfadr E x =>
      simp only [MK.ev] at h
      split at h
      · simp only [Option.some.injEq,Prod.mk.injEq] at h; obtain ⟨_,rfl⟩ := h; rfl
      · cases h
    case zload x =>
      simp only [MK.ev] at h
      split at h
      · simp only [Option.some.injEq,Prod.mk.injEq] at h; obtain ⟨_,rfl⟩ := h; rfl
      · cases h
    case mkMap => simp only [MK.ev,Option.some.injEq,Prod.mk.injEq] at h; obtain ⟨_,rfl⟩ := h; rfl
    case look ok s z m x =>
      simp only [MK.ev,Option.map_eq_some_iff,Prod.mk.injEq] at h
      obtain ⟨_,_,_,rfl⟩ := h
      rfl
    case ins s m x y =>
      simp only [MK.ev,Option.map_eq_some_iff,Prod.mk.injEq] at h
      obtain ⟨_,h1,_,rfl⟩ := h
      unfold insEv at h1
      repeat' split at h1
      all_goals first
        | (cases h1; done)
        | (simp only [Option.map_eq_some_iff] at h1
           obtain ⟨r,_,rfl⟩ := h1
           cases r <;> rfl)
    case insC q a m y =>
      simp only [MK.ev,Option.map_eq_some_iff,Prod.mk.injEq] at h
      obtain ⟨_,h1,_,rfl⟩ := h
      unfold insCEv at h1
      repeat' split at h1
      all_goals first
        | (cases h1; done)
        | (injection h1 with h1; subst h1; rfl)
mutual
def AV.eqb : AV → AV → Bool
  | .junk,.junk => true
  | .bool a,.bool b => a == b
  | .int k n,.int k' m => decide (k = k') && decide (n = m)
  | .str s,.str t => decide (s = t)
  | .nilp,.nilp => true
  | .ptr l o,.ptr l' o' => l == l' && o == o'
  | .gp l o,.gp l' o' => l == l' && o == o'
  | .eptr k xs i o,.eptr k' xs' i' o' => (k == k' && AV.eqbs xs xs') && (i == i' && o == o')
  | .sl k xs t,.sl k' xs' t' => (k == k' && AV.eqbs xs xs') && decide (t = t')
  | .fn f a c,.fn f' a' c' => decide (f = f') && (AV.eqbs a a' && AV.eqbs c c')
  | .nilf,.nilf => true
  | .ifc t v,.ifc t' v' => decide (t = t') && AV.eqb v v'
  | .nili,.nili => true
  | .agg cs,.agg cs' => AV.eqbs cs cs'
  | .tup cs,.tup cs' => AV.eqbs cs cs'
  | .bld s,.bld t => decide (s = t)
  | .osl k n l o,.osl k' n' l' o' => decide ((k,n,l,o) = (k',n',l',o'))
  | .mp l,.mp l' => l == l'
  | .nilm,.nilm => true
  | .zob E,.zob E' => E == E'
  | .mob ks vs,.mob ks' vs' => AV.eqbs ks ks' && AV.eqbs vs vs'
  | _,_ => false
def AV.eqbs : List AV → List AV → Bool
  | [],[] => true
  | x :: xs,y :: ys => AV.eqb x y && AV.eqbs xs ys
  | _,_ => false
end
mutual
theorem AV.eqb_ok : ∀ {a b : AV},a.eqb b = true → a = b
  | .junk,b,h => by cases b <;> simp_all [AV.eqb]
  | .bool _,b,h => by cases b <;> simp_all [AV.eqb]
  | .int _ _,b,h => by cases b <;> simp_all [AV.eqb]
  | .str _,b,h => by cases b <;> simp_all [AV.eqb]
  | .nilp,b,h => by cases b <;> simp_all [AV.eqb]
  | .ptr _ _,b,h => by cases b <;> simp_all [AV.eqb]
  | .gp _ _,b,h => by cases b <;> simp_all [AV.eqb]
  | .eptr _ xs _ _,b,h => by
    cases b <;> simp only [AV.eqb,Bool.and_eq_true,beq_iff_eq,reduceCtorEq] at h
    obtain ⟨⟨rfl,h1⟩,rfl,rfl⟩ := h
    rw [AV.eqbs_ok h1]
  | .sl _ xs _,b,h => by
    cases b <;> simp only [AV.eqb,Bool.and_eq_true,beq_iff_eq,decide_eq_true_eq,reduceCtorEq] at h
    obtain ⟨⟨rfl,h1⟩,rfl⟩ := h
    rw [AV.eqbs_ok h1]
  | .fn _ a c,b,h => by
    cases b <;> simp only [AV.eqb,Bool.and_eq_true,beq_iff_eq,decide_eq_true_eq,reduceCtorEq] at h
    obtain ⟨rfl,h1,h2⟩ := h
    rw [AV.eqbs_ok h1,AV.eqbs_ok h2]
  | .nilf,b,h => by cases b <;> simp_all [AV.eqb]
  | .ifc _ v,b,h => by
    cases b <;> simp only [AV.eqb,Bool.and_eq_true,beq_iff_eq,decide_eq_true_eq,reduceCtorEq] at h
    obtain ⟨rfl,h1⟩ := h
    rw [AV.eqb_ok h1]
  | .nili,b,h => by cases b <;> simp_all [AV.eqb]
  | .bld _,b,h => by cases b <;> simp_all [AV.eqb]
  | .osl ..,b,h => by cases b <;> simp_all [AV.eqb]
  | .mp _,b,h => by cases b <;> simp_all [AV.eqb]
  | .nilm,b,h => by cases b <;> simp_all [AV.eqb]
  | .zob _,b,h => by cases b <;> simp_all [AV.eqb]
  | .mob ks vs,b,h => by
    cases b <;> simp only [AV.eqb,Bool.and_eq_true,reduceCtorEq] at h
    rw [AV.eqbs_ok h.1,AV.eqbs_ok h.2]
  | .agg cs,b,h => by
    cases b <;> simp only [AV.eqb,reduceCtorEq] at h
    rw [AV.eqbs_ok h]
  | .tup cs,b,h => by
    cases b <;> simp only [AV.eqb,reduceCtorEq] at h
    rw [AV.eqbs_ok h]
theorem AV.eqbs_ok : ∀ {a b : List AV},AV.eqbs a b = true → a = b
  | [],b,h => by cases b <;> simp_all [AV.eqbs]
  | x :: xs,b,h => by
    cases b with
    | nil => simp [AV.eqbs] at h
    | cons y ys =>
      simp only [AV.eqbs,Bool.and_eq_true] at h
      rw [AV.eqb_ok h.1,AV.eqbs_ok h.2]
end
mutual
def AV.nrB : AV → Bool
  | .ptr _ _ | .osl _ _ _ _ | .eptr _ _ _ _ | .mp _ | .nilm | .mob .. | .zob _ => false
  | .sl _ xs t => (match t with
    | .tok _ => false
    | .new _ => false
    | _ => true) && AV.nrsB xs
  | .fn _ a c => AV.nrsB a && AV.nrsB c
  | .ifc _ v => AV.nrB v
  | .agg cs => AV.nrsB cs
  | .tup cs => AV.nrsB cs
  | _ => true
def AV.nrsB : List AV → Bool
  | [] => true
  | x :: xs => AV.nrB x && AV.nrsB xs
end
theorem nrsB_mem : ∀ {xs : List AV},AV.nrsB xs = true → ∀ x ∈ xs,x.nrB = true
  | [],_,x,hx => by cases hx
  | y :: ys,h,x,hx => by
    simp only [AV.nrsB,Bool.and_eq_true] at h
    rcases List.mem_cons.1 hx with rfl | hx
    · exact h.1
    · exact nrsB_mem h.2 x hx
theorem nrB_ok : ∀ (n : Nat) {a : AV},SizeOf.sizeOf a ≤ n → a.nrB = true → NoRef a
  | 0,a,hn,_ => by cases a <;> simp at hn
  | n + 1,a,hn,h => by
    have key : ∀ xs : List AV,SizeOf.sizeOf xs < n + 1 → AV.nrsB xs = true → ∀ x ∈ xs,NoRef x := fun xs hx hs x hm =>
      nrB_ok n (by have := List.sizeOf_lt_of_mem hm; omega) (nrsB_mem hs x hm)
    have key2 : ∀ xs : List AV,SizeOf.sizeOf xs < n + 1 → AV.nrsB xs = true → ∀ x ∈ xs,∀ c ∈ x.cells,NoRef c := fun xs hx hs x hm c hc => by
      have h1 := List.sizeOf_lt_of_mem hm
      have h2 := nrsB_mem hs x hm
      cases x with
      | agg cs =>
        have h3 := List.sizeOf_lt_of_mem (show c ∈ cs from hc)
        simp only [AV.agg.sizeOf_spec] at h1
        exact nrB_ok n (by omega) (nrsB_mem (xs := cs) (by simpa [AV.nrB] using h2) c hc)
      | _ =>
        simp only [AV.cells,List.mem_singleton] at hc
        subst hc
        exact nrB_ok n (by omega) h2
    cases a with
    | junk => exact .junk
    | bool b => exact .bool b
    | int k n => exact .int k n
    | str s => exact .str s
    | nilp => exact .nilp
    | gp g o => exact .gp g o
    | nilf => exact .nilf
    | nili => exact .nili
    | bld s => exact fun G G' v hp h => by cases h
    | hob l o ts vs => exact fun G G' v hp h => by cases h
    | ptr l o => simp [AV.nrB] at h
    | osl k n l o => simp [AV.nrB] at h
    | mp l => simp [AV.nrB] at h
    | nilm => simp [AV.nrB] at h
    | zob E => simp [AV.nrB] at h
    | mob ks vs => simp [AV.nrB] at h
    | eptr k xs i o => simp [AV.nrB] at h
    | sl k xs t =>
      simp only [AV.nrB,Bool.and_eq_true] at h
      simp only [AV.sl.sizeOf_spec] at hn
      refine .sl (key2 xs (by omega) h.2) ?_
      cases t <;> simp_all
    | fn f a c =>
      simp only [AV.nrB,Bool.and_eq_true] at h
      simp only [AV.fn.sizeOf_spec] at hn
      exact .func (key a (by omega) h.1) (key c (by omega) h.2)
    | ifc t v =>
      simp only [AV.nrB] at h
      simp only [AV.ifc.sizeOf_spec] at hn
      exact .ifc (nrB_ok n (by omega) h)
    | agg cs =>
      simp only [AV.nrB] at h
      simp only [AV.agg.sizeOf_spec] at hn
      exact .agg (key cs (by omega) h)
    | tup cs =>
      simp only [AV.nrB] at h
      simp only [AV.tup.sizeOf_spec] at hn
      exact .tup (key cs (by omega) h)
theorem AV.nrB_ok {a : AV} (h : a.nrB = true) : NoRef a := V.nrB_ok _ (Nat.le_refl _) h
def Out.nrB : Out → Bool
  | .ok r => r.nrB
  | .pan r => r.nrB
theorem Out.nrB_ok {o : Out} (h : o.nrB = true) : o.noRef := by
  cases o
  · exact AV.nrB_ok h
  · exact AV.nrB_ok h
def lkO (t : Nat) : Fr → Option AV
  | [] => none
  | (u,v) :: F => cond (Nat.beq t u) (some v) (lkO t F)
theorem lkO_eq (t : Nat) : ∀ F : Fr,lkO t F = F.lookup t
  | [] => rfl
  | (u,v) :: F => by
    rw [lkO,lookup_if,lkO_eq t F]
    by_cases h : t = u
    · subst h; simp
    · have : Nat.beq t u = false := by
        cases hb : Nat.beq t u with
        | false => rfl
        | true => exact absurd (Nat.eq_of_beq_eq_true hb) h
      simp [this,h]
def lkJ (t : Nat) (F : Fr) : AV := match lkO t F with
  | some v => v
  | none => .junk
theorem lkJ_eq (t : Nat) (F : Fr) : lkJ t F = F.get t := by
  unfold lkJ Fr.get
  rw [lkO_eq]
  cases F.lookup t <;> rfl
def rs (F : Fr) : List Nat → Fr
  | [] => []
  | t :: ts => (t,lkJ t F) :: rs F ts
theorem rs_get {F : Fr} {t : Nat} : ∀ {l : List Nat},t ∈ l → (rs F l).get t = F.get t
  | [],h => by cases h
  | u :: us,h => by
    rw [rs,Fr.get_cons]
    by_cases htu : t = u
    · subst htu; rw [if_pos rfl,lkJ_eq]
    · rw [if_neg htu]
      exact rs_get (by
        rcases List.mem_cons.1 h with h | h
        · exact absurd h htu
        · exact h)
def Opd.evF (F : Fr) : Opd → AV
  | .t n => lkJ n F
  | .c v => v
  | .g n => .gp n 0
  | .f n => .fn (.func n) [] []
  | .mth x rows => mthEv rows (lkJ x F)
theorem evF_eq (F : Fr) (x : Opd) : x.evF F = x.ev F := by
  cases x <;> first
    | rfl
    | exact lkJ_eq _ _
    | (simp only [Opd.evF,Opd.ev]; rw [lkJ_eq])
def evsF (F : Fr) : List Opd → List AV
  | [] => []
  | x :: xs => x.evF F :: evsF F xs
theorem evsF_eq (F : Fr) : ∀ xs : List Opd,evsF F xs = xs.map (Opd.ev F)
  | [] => rfl
  | x :: xs => by rw [evsF,evF_eq,evsF_eq F xs,List.map_cons]
def keepF (F : Fr) : List Nat → Fr
  | [] => []
  | t :: ts => match lkO t F with
    | some v => (t,v) :: keepF F ts
    | none => keepF F ts
theorem keepF_eq (F : Fr) : ∀ kp : List Nat,keepF F kp = keepK kp F
  | [] => rfl
  | t :: ts => by
    rw [keepF,keepK,lkO_eq,keepF_eq F ts]
    rfl
section exec
abbrev CallE := FuncId → List AV → St → Option (Out × St)
def CallOK (P : Program) (gl : List (Nat × List AV)) (call : CallE) : Prop :=
  ∀ f as S o S',S.gl = gl → call f as S = some (o,S') → S'.gl = gl ∧ MCalls P f as S fun o' T => o' = o ∧ T = S'
def opE (call : CallE) (op : MX) (d : Option Nat) (F : Fr) (S : St) : Option (Option AV × Fr × St) :=
  match op with
  | .k m => if m.obB (rs F m.rd) S then (match m.ev (rs F m.rd) S with
    | some (r,S') => some (none,putF d r F,S')
    | none => none) else none
  | .panic x => match x.evF F with
    | .ifc t v => some (some (.ifc t v),F,S)
    | _ => none
  | .call c as => match c.evF F with
    | .fn (.func f) first caps => (match call f (first ++ evsF F as ++ caps) S with
      | some (.ok r,S') => some (none,putF d r F,S')
      | some (.pan v,S') => some (some v,F,S')
      | none => none)
    | _ => none
def After (K : Option AV → Fr → St → Prop) (nx : Fr → St → Prop) : Option AV → Fr → St → Prop
  | none,F,S => nx F S
  | some v,F,S => K (some v) F S
variable {P : Program} {gl : List (Nat × List AV)} {call : CallE} {K : Option AV → Fr → St → Prop} {nx : Fr → St → Prop} {F F' : Fr} {S S' : St} {e : Option AV}
theorem opE_ok (hc : CallOK P gl call) (hg : S.gl = gl) {ix : Nat} {d : Option Nat} {gd : Option (Nat × Bool)} {op : MX} (h : opE call op d F S = some (e,F',S')) : S'.gl = gl ∧ (After K nx e F' S' → stepK P ⟨ix,d,gd,op⟩ K nx F S) := by
  cases op with
  | k m =>
    simp only [opE] at h
    have hcg := MK.congr (m := m) (F := rs F m.rd) (F' := F) (S := S) fun t ht => rs_get ht
    split at h
    · rename_i hob
      split at h
      · rename_i r S1 hev
        have hob := MK.obB_ok hob
        rw [hcg.2] at hob
        rw [hcg.1] at hev
        simp only [Option.some.injEq,Prod.mk.injEq] at h
        obtain ⟨rfl,rfl,rfl⟩ := h
        refine ⟨(MK.ev_gl hev).trans hg,fun hk => ?_⟩
        simp only [stepK,hev]
        exact ⟨hob,hk⟩
      · cases h
    · cases h
  | panic x =>
    simp only [opE,evF_eq] at h
    split at h
    · rename_i hx
      simp only [Option.some.injEq,Prod.mk.injEq] at h
      obtain ⟨rfl,rfl,rfl⟩ := h
      refine ⟨hg,fun hk => ?_⟩
      simp only [stepK,hx]
      exact hk
    · cases h
  | call c as =>
    simp only [opE,evF_eq,evsF_eq] at h
    split at h
    · rename_i f first caps hf
      simp only [stepK,hf]
      split at h
      · rename_i r S1 hcall
        simp only [Option.some.injEq,Prod.mk.injEq] at h
        obtain ⟨rfl,rfl,rfl⟩ := h
        obtain ⟨h1,h2⟩ := hc _ _ _ _ _ hg hcall
        refine ⟨h1,fun hk => h2.mono ?_⟩
        rintro o T ⟨rfl,rfl⟩
        exact hk
      · rename_i v S1 hcall
        simp only [Option.some.injEq,Prod.mk.injEq] at h
        obtain ⟨rfl,rfl,rfl⟩ := h
        obtain ⟨h1,h2⟩ := hc _ _ _ _ _ hg hcall
        refine ⟨h1,fun hk => h2.mono ?_⟩
        rintro o T ⟨rfl,rfl⟩
        exact hk
      · cases h
    · cases h
def gdE (stp : Fr → St → Option (Option AV × Fr × St)) (gd : Option (Nat × Bool)) (d : Option Nat) (F : Fr) (S : St) : Option (Option AV × Fr × St) :=
  match gd with
  | none => stp F S
  | some (t,want) => match lkJ t F with
    | .bool b => if b = want then stp ((t,.bool want) :: F) S else some (none,putF d (.tup []) ((t,.bool (!want)) :: F),S)
    | .tup [] => some (none,putF d (.tup []) F,S)
    | _ => none
theorem gdE_ok {stp : Fr → St → Option (Option AV × Fr × St)} {pstp : Fr → St → Prop} {o : MOp} (hg : S.gl = gl) (hs : ∀ F0,stp F0 S = some (e,F',S') → S'.gl = gl ∧ (After K nx e F' S' → pstp F0 S))
    (h : gdE stp o.gd o.dst F S = some (e,F',S')) : S'.gl = gl ∧ (After K nx e F' S' → guardK o pstp nx F S) := by
  unfold gdE at h
  unfold guardK
  split at h
  · rename_i e1
    simp only [e1]
    exact hs F h
  · rename_i t want e1
    simp only [e1]
    rw [lkJ_eq] at h
    split at h
    · rename_i b e2
      simp only [e2]
      split at h
      · rename_i hb
        obtain ⟨h1,h2⟩ := hs _ h
        exact ⟨h1,fun hk => ⟨fun _ => h2 hk,fun hn => by subst hb; cases b <;> cases hn⟩⟩
      · rename_i hb
        simp only [Option.some.injEq,Prod.mk.injEq] at h
        obtain ⟨rfl,rfl,rfl⟩ := h
        exact ⟨hg,fun hk => ⟨fun hn => absurd hn hb,fun _ => hk⟩⟩
    · rename_i e2
      simp only [e2]
      simp only [Option.some.injEq,Prod.mk.injEq] at h
      obtain ⟨rfl,rfl,rfl⟩ := h
      exact ⟨hg,fun hk => hk⟩
    · cases h
def moE (call : CallE) : List MOp → Fr → St → Option (Option AV × Fr × St)
  | [],F,S => some (none,F,S)
  | o :: l,F,S => match gdE (opE call o.op o.dst) o.gd o.dst F S with
    | some (none,F',S') => moE call l F' S'
    | r => r
theorem moE_ok (hc : CallOK P gl call) : ∀ (l : List MOp) {F : Fr} {S : St},S.gl = gl → moE call l F S = some (e,F',S') → S'.gl = gl ∧ (K e F' S' → moK P l K F S)
  | [],F,S,hg,h => by
    simp only [moE,Option.some.injEq,Prod.mk.injEq] at h
    obtain ⟨rfl,rfl,rfl⟩ := h
    exact ⟨hg,fun hk => hk⟩
  | o :: l,F,S,hg,h => by
    simp only [moE] at h
    simp only [moK]
    split at h
    · rename_i F1 S1 h1
      have hs := gdE_ok (K := K) (nx := moK P l K) (pstp := stepK P o K (moK P l K)) hg (fun F0 h0 => opE_ok (P := P) (K := K) (nx := moK P l K) (ix := o.ix) (gd := o.gd) hc hg h0) h1
      obtain ⟨h2,h3⟩ := moE_ok hc l hs.1 h
      exact ⟨h2,fun hk => hs.2 (h3 hk)⟩
    · rename_i r hr
      have hs := gdE_ok (K := K) (nx := moK P l K) (pstp := stepK P o K (moK P l K)) hg (fun F0 h0 => opE_ok (P := P) (K := K) (nx := moK P l K) (ix := o.ix) (gd := o.gd) hc hg h0) h
      refine ⟨hs.1,fun hk => hs.2 ?_⟩
      cases e with
      | none => exact (hr _ _ h).elim
      | some v => exact hk
def objEqb : Option (List AV) → Option (List AV) → Bool
  | some a,some b => AV.eqbs a b
  | none,none => true
  | _,_ => false
theorem objEqb_ok {a b : Option (List AV)} (h : objEqb a b = true) : a = b := by
  cases a <;> cases b <;> simp_all [objEqb]
  exact AV.eqbs_ok h
def invB (S0 : St) (Ls : List Nat) (S : St) : Bool := Ls.all fun l => objEqb (S.get l) (S0.get l)
theorem invB_ok {S0 : St} {Ls : List Nat} (hg : S.gl = S0.gl) (h : invB S0 Ls S = true) : InvS S0 Ls S :=
  ⟨hg,fun l hl => objEqb_ok (List.all_eq_true.1 h l hl)⟩
def shelB (Ls : List Nat) (o : MOp) (F : Fr) : Bool :=
  match o.op with
  | .k (.load _ _ p) => match p.ev F with
    | .ptr l _ => Ls.contains l
    | _ => true
  | _ => true
theorem shelB_ok {Ls : List Nat} {o : MOp} {F : Fr} (h : shelB Ls o F = true) : Shel Ls o F := by
  unfold Shel
  split
  · rename_i e1
    simp only [shelB,e1] at h
    split
    · rename_i e2
      rw [e2] at h
      simpa using h
    · trivial
  · trivial
def ndE (nd : Bool) (S0 : St) (Ls : List Nat) (next : Fr → St → Option (Option AV × Fr × St)) : Option (Option AV × Fr × St) → Option (Option AV × Fr × St)
  | some (none,F',S') => if !nd || invB S0 Ls S' then next F' S' else none
  | r => r
def optEqb : Option AV → Option AV → Bool
  | some a,some b => AV.eqb a b
  | none,none => true
  | _,_ => false
theorem optEqb_ok {a b : Option AV} (h : optEqb a b = true) : a = b := by
  cases a <;> cases b <;> simp_all [optEqb]
  exact AV.eqb_ok h
def objsEqb : List (Nat × List AV) → List (Nat × List AV) → Bool
  | [],[] => true
  | (l,cs) :: a,(m,ds) :: b => l == m && (AV.eqbs cs ds && objsEqb a b)
  | _,_ => false
theorem objsEqb_ok : ∀ {a b : List (Nat × List AV)},objsEqb a b = true → a = b
  | [],[],_ => rfl
  | [],_ :: _,h => by simp [objsEqb] at h
  | (_,_) :: _,[],h => by simp [objsEqb] at h
  | (l,cs) :: a,(m,ds) :: b,h => by
    simp only [objsEqb,Bool.and_eq_true,beq_iff_eq] at h
    obtain ⟨rfl,h1,h2⟩ := h
    rw [AV.eqbs_ok h1,objsEqb_ok h2]
theorem keepK_same {F1 F2 : Fr} : ∀ {kp : List Nat},(∀ t ∈ kp,F1.lookup t = F2.lookup t) → keepK kp F1 = keepK kp F2
  | [],_ => rfl
  | t :: ts,h => by
    simp only [keepK,h t (by simp),keepK_same (kp := ts) fun u hu => h u (by simp [hu])]
def sameE (kp : List Nat) : Option (Option AV × Fr × St) → Option (Option AV × Fr × St) → Bool
  | some (none,F1,S1),some (none,F2,S2) => (kp.all fun t => optEqb (F1.lookup t) (F2.lookup t)) && (S1.n == S2.n && (S1.nt == S2.nt && (decide (S1.live = S2.live) && objsEqb S1.obj S2.obj)))
  | _,_ => false
theorem sameE_ok {kp : List Nat} {x y : Option (Option AV × Fr × St)} (h : sameE kp x y = true) : ∃ F1 S1 F2 S2,x = some (none,F1,S1) ∧ y = some (none,F2,S2) ∧ keepK kp F1 = keepK kp F2 ∧ (S1.gl = S2.gl → S1 = S2) := by
  unfold sameE at h
  split at h
  · rename_i F1 S1 F2 S2
    simp only [Bool.and_eq_true,beq_iff_eq,decide_eq_true_eq,List.all_eq_true] at h
    obtain ⟨h1,h2,h3,h4,h5⟩ := h
    refine ⟨F1,S1,F2,S2,rfl,rfl,keepK_same fun t ht => optEqb_ok (h1 t ht),fun hg => ?_⟩
    obtain ⟨n,ob,nt,li,g⟩ := S1
    obtain ⟨n',ob',nt',li',g'⟩ := S2
    simp only at h2 h3 h4 h5 hg
    subst h2 h3 h4 hg
    rw [objsEqb_ok h5]
  · cases h
def plE (call : CallE) (S0 : St) (Ls kp : List Nat) : MPl → Fr → St → Option (Option AV × Fr × St)
  | .done,F,S => some (none,F,S)
  | .one o lo nd r,F,S => ndE nd S0 Ls (plE call S0 Ls kp r) (gdE (fun F S => if !lo || (shelB Ls o F && invB S0 Ls S) then opE call o.op o.dst F S else none) o.gd o.dst F S)
  | .two o1 n1 r1 o2 n2 r2,F,S =>
    let x := ndE n1 S0 Ls (plE call S0 Ls kp r1) (gdE (opE call o1.op o1.dst) o1.gd o1.dst F S)
    let y := ndE n2 S0 Ls (plE call S0 Ls kp r2) (gdE (opE call o2.op o2.dst) o2.gd o2.dst F S)
    if sameE kp x y then x else none
def Mid (P : Program) (K : Option AV → Fr → St → Prop) (S0 : St) (Ls : List Nat) (nd : Bool) (r : MPl) (F : Fr) (S : St) : Prop := (nd = true → InvS S0 Ls S) ∧ plK P K S0 Ls r F S
theorem ndE_ok {nd : Bool} {S0 : St} {Ls : List Nat} {r : MPl} {next : Fr → St → Option (Option AV × Fr × St)} {x : Option (Option AV × Fr × St)} (h0 : S0.gl = gl) (hx : ∀ e1 F1 S1,x = some (e1,F1,S1) → S1.gl = gl)
    (hn : ∀ F1 S1,S1.gl = gl → next F1 S1 = some (e,F',S') → S'.gl = gl ∧ (K e F' S' → plK P K S0 Ls r F1 S1))
    (h : ndE nd S0 Ls next x = some (e,F',S')) : S'.gl = gl ∧ ∃ e1 F1 S1,x = some (e1,F1,S1) ∧ (K e F' S' → After K (Mid P K S0 Ls nd r) e1 F1 S1) := by
  unfold ndE at h
  split at h
  · rename_i F1 S1
    have hg := hx _ _ _ rfl
    split at h
    · rename_i hc
      obtain ⟨h1,h2⟩ := hn F1 S1 hg h
      refine ⟨h1,none,F1,S1,rfl,fun hk => ⟨fun hnd => ?_,h2 hk⟩⟩
      subst hnd
      exact invB_ok (hg.trans h0.symm) (by simpa using hc)
    · cases h
  · rename_i r' hr
    subst h
    cases e with
    | none => exact (hr _ _ rfl).elim
    | some v => exact ⟨hx _ _ _ rfl,some v,F',S',rfl,fun hk => hk⟩
theorem plE_ok (hc : CallOK P gl call) {S0 : St} {Ls kp : List Nat} (h0 : S0.gl = gl) (hK : ∀ F1 F2 S,keepK kp F1 = keepK kp F2 → K none F1 S → K none F2 S) : ∀ (pl : MPl) {e : Option AV} {F F' : Fr} {S S' : St},S.gl = gl → plE call S0 Ls kp pl F S = some (e,F',S') → S'.gl = gl ∧ (K e F' S' → plK P K S0 Ls pl F S)
  | .done,e,F,F',S,S',hg,h => by
    simp only [plE,Option.some.injEq,Prod.mk.injEq] at h
    obtain ⟨rfl,rfl,rfl⟩ := h
    exact ⟨hg,fun hk => hk⟩
  | .one o lo nd r,e,F,F',S,S',hg,h => by
    simp only [plE] at h
    have key : ∀ e1 F1 S1,gdE (fun F S => if !lo || (shelB Ls o F && invB S0 Ls S) then opE call o.op o.dst F S else none) o.gd o.dst F S = some (e1,F1,S1) → S1.gl = gl ∧ (After K (Mid P K S0 Ls nd r) e1 F1 S1 → plK P K S0 Ls (.one o lo nd r) F S) := by
      intro e1 F1 S1 h1
      have := gdE_ok (K := K) (nx := Mid P K S0 Ls nd r) (pstp := fun F S => (lo = true → Shel Ls o F ∧ InvS S0 Ls S) ∧ stepK P o K (Mid P K S0 Ls nd r) F S) (o := o) (gl := gl) hg (fun F0 hF => by
        split at hF
        · rename_i hcnd
          obtain ⟨g1,g2⟩ := opE_ok (P := P) (K := K) (nx := Mid P K S0 Ls nd r) (ix := o.ix) (gd := o.gd) hc hg hF
          refine ⟨g1,fun hk => ⟨fun hl => ?_,g2 hk⟩⟩
          subst hl
          simp only [Bool.not_true,Bool.false_or,Bool.and_eq_true] at hcnd
          exact ⟨shelB_ok hcnd.1,invB_ok (hg.trans h0.symm) hcnd.2⟩
        · cases hF) h1
      exact ⟨this.1,fun hk => this.2 hk⟩
    obtain ⟨h1,e1,F1,S1,h2,h3⟩ := ndE_ok (P := P) (K := K) h0 (fun e1 F1 S1 hx => (key e1 F1 S1 hx).1) (fun F1 S1 hg1 hn => plE_ok hc h0 hK r hg1 hn) h
    exact ⟨h1,fun hk => (key e1 F1 S1 h2).2 (h3 hk)⟩
  | .two o1 n1 r1 o2 n2 r2,e,F,F',S,S',hg,h => by
    simp only [plE] at h
    split at h
    · rename_i hsame
      have key : ∀ (o : MOp) (nd : Bool) (r : MPl) e1 F1 S1,gdE (opE call o.op o.dst) o.gd o.dst F S = some (e1,F1,S1) → S1.gl = gl ∧ (After K (Mid P K S0 Ls nd r) e1 F1 S1 →
          guardK o (stepK P o K (Mid P K S0 Ls nd r)) (Mid P K S0 Ls nd r) F S) := by
        intro o nd r e1 F1 S1 h1
        exact gdE_ok (K := K) (nx := Mid P K S0 Ls nd r) hg (fun F0 hF => opE_ok (P := P) (K := K) (nx := Mid P K S0 Ls nd r) (ix := o.ix) (gd := o.gd) hc hg hF) h1
      obtain ⟨Fa,Sa,Fb,Sb,ha,hb,hkk,hss⟩ := sameE_ok hsame
      obtain ⟨a1,e1,F1,S1,a2,a3⟩ := ndE_ok (P := P) (K := K) h0 (fun e1 F1 S1 hx => (key o1 n1 r1 e1 F1 S1 hx).1) (fun F1 S1 hg1 hn => plE_ok hc h0 hK r1 hg1 hn) ha
      obtain ⟨b1,e2,F2,S2,b2,b3⟩ := ndE_ok (P := P) (K := K) h0 (fun e1 F1 S1 hx => (key o2 n2 r2 e1 F1 S1 hx).1) (fun F1 S1 hg1 hn => plE_ok hc h0 hK r2 hg1 hn) hb
      rw [ha] at h
      simp only [Option.some.injEq,Prod.mk.injEq] at h
      obtain ⟨rfl,rfl,rfl⟩ := h
      obtain rfl := hss (a1.trans b1.symm)
      exact ⟨a1,fun hk => ⟨(key o1 n1 r1 e1 F1 S1 a2).2 (a3 hk),(key o2 n2 r2 e2 F2 S2 b2).2 (b3 (hK _ _ _ hkk hk))⟩⟩
    · cases h
def dropF (ds : List Nat) (F : Fr) : Fr := F.filter fun p => !ds.contains p.1
theorem lookup_dropF {ds : List Nat} {t : Nat} {v : AV} : ∀ {F : Fr},(dropF ds F).lookup t = some v → t ∉ ds ∧ F.lookup t = some v
  | [],h => by cases h
  | (u,x) :: F,h => by
    by_cases hu : ds.contains u = true
    · have h1 : dropF ds ((u,x) :: F) = dropF ds F := by
        simp only [dropF,List.filter_cons,hu,Bool.not_true,Bool.false_eq_true,if_false]
      rw [h1] at h
      obtain ⟨h2,h3⟩ := lookup_dropF h
      refine ⟨h2,?_⟩
      have hne : t ≠ u := fun e => h2 (by subst e; simpa using hu)
      rw [lookup_if,if_neg hne]
      exact h3
    · have h1 : dropF ds ((u,x) :: F) = (u,x) :: dropF ds F := by
        have hu' : ds.contains u = false := by simpa using hu
        simp only [dropF,List.filter_cons,hu',Bool.not_false,if_true]
      rw [h1,lookup_if] at h
      by_cases ht : t = u
      · subst ht
        rw [if_pos rfl] at h
        refine ⟨by simpa using hu,?_⟩
        rw [lookup_if,if_pos rfl]
        exact h
      · rw [if_neg ht] at h
        obtain ⟨h2,h3⟩ := lookup_dropF h
        refine ⟨h2,?_⟩
        rw [lookup_if,if_neg ht]
        exact h3
def mcE (call : CallE) : Nat → List MI → Dfs → Fr → St → Option (Option AV × Dfs × Fr × St)
  | 0,_,_,_,_ => none
  | fu + 1,k,D,F,S => match k with
    | [] => some (none,D,F,S)
    | .inBlock _ :: k => mcE call fu k D F S
    | .inLoop x :: k => mcE call fu (.code x :: .inLoop x :: k) D F S
    | .begin _ :: _ => none
    | .code c :: k => match c with
      | .skip => mcE call fu k D F S
      | .seq a b => mcE call fu (.code a :: .code b :: k) D F S
      | .block i a => mcE call fu (.code a :: .inBlock i :: k) D F S
      | .exit i => match mexit i k with
        | some k' => mcE call fu k' D F S
        | none => none
      | .ret => some (none,D,F,S)
      | .loop x => mcE call fu (.code x :: .inLoop x :: k) D F S
      | .named kp x => mcE call fu (.code x :: k) D (keepF F kp) S
      | .cond c a b => match c.evF F with
        | .bool true => mcE call fu (.code a :: k) D F S
        | .bool false => mcE call fu (.code b :: k) D F S
        | _ => none
      | .reg l kp => match moE call l F S with
        | some (none,F',S') => mcE call fu k D (keepF F' kp) S'
        | some (some v,F',S') => some (some v,D,F',S')
        | none => none
      | .any pl pr kp => match plE call S (protOf F pr) kp pl F S with
        | some (none,F',S') => mcE call fu k D (keepF F' kp) S'
        | some (some v,F',S') => some (some v,D,dropF pl.dsts F',S')
        | none => none
      | .dfr l c as kp => match moE call l F S with
        | some (none,F',S') => (match c.evF F' with
          | .fn f first caps => mcE call fu k ((f,first ++ evsF F' as,caps) :: D) (keepF F' kp) S'
          | _ => none)
        | some (some v,F',S') => some (some v,D,F',S')
        | none => none
      | .bad => none
      | .rcv _ _ _ => none
      | .rfn _ _ _ _ => none
def Qx (e : Option AV) (D : Dfs) (F : Fr) (S : St) : EndQ := fun e1 D1 F1 S1 => e1 = e ∧ D1 = D ∧ S1 = S ∧ ∀ t v,F.lookup t = some v → F1.lookup t = some v
theorem mcE_ok {n : Nat} (hc : CallOK P gl call) : ∀ (fu : Nat) {k : List MI} {D D' : Dfs} {e : Option AV} {F F' : Fr} {S S' : St},S.gl = gl → mcE call fu k D F S = some (e,D',F',S') → S'.gl = gl ∧ MRun P n k D F S (Qx e D' F' S')
  | 0,_,_,_,_,_,_,_,_,_,h => by cases h
  | fu + 1,k,D,D',e,F,F',S,S',hg,h => by
    simp only [mcE,keepF_eq,evF_eq,evsF_eq] at h
    split at h
    · simp only [Option.some.injEq,Prod.mk.injEq] at h
      obtain ⟨rfl,rfl,rfl,rfl⟩ := h
      exact ⟨hg,.done ⟨rfl,rfl,rfl,fun _ _ e => e⟩⟩
    · exact (mcE_ok hc fu hg h).imp id .inBlock
    · exact (mcE_ok hc fu hg h).imp id .inLoop
    · cases h
    · split at h
      · exact (mcE_ok hc fu hg h).imp id .skip
      · exact (mcE_ok hc fu hg h).imp id .seq
      · exact (mcE_ok hc fu hg h).imp id .block
      · split at h
        · exact (mcE_ok hc fu hg h).imp id (.exit ‹_›)
        · cases h
      · simp only [Option.some.injEq,Prod.mk.injEq] at h
        obtain ⟨rfl,rfl,rfl,rfl⟩ := h
        exact ⟨hg,.ret ⟨rfl,rfl,rfl,fun _ _ e => e⟩⟩
      · exact (mcE_ok hc fu hg h).imp id .loop1
      · exact (mcE_ok hc fu hg h).imp id .named
      · split at h
        · rename_i hb
          obtain ⟨h1,h2⟩ := mcE_ok (n := n) hc fu hg h
          exact ⟨h1,.cond hb (fun _ => h2) (fun e => by cases e)⟩
        · rename_i hb
          obtain ⟨h1,h2⟩ := mcE_ok (n := n) hc fu hg h
          exact ⟨h1,.cond hb (fun e => by cases e) (fun _ => h2)⟩
        · cases h
      · rename_i l kp
        split at h
        · rename_i F1 S1 h1
          have h2 := fun K => moE_ok (P := P) (K := K) hc l hg h1
          obtain ⟨h3,h4⟩ := mcE_ok (n := n) hc fu (h2 fun _ _ _ => True).1 h
          exact ⟨h3,.reg ((h2 _).2 h4)⟩
        · rename_i v F1 S1 h1
          have h2 := fun K => moE_ok (P := P) (K := K) hc l hg h1
          simp only [Option.some.injEq,Prod.mk.injEq] at h
          obtain ⟨rfl,rfl,rfl,rfl⟩ := h
          exact ⟨(h2 fun _ _ _ => True).1,.reg ((h2 _).2 ⟨rfl,rfl,rfl,fun _ _ e => e⟩)⟩
        · cases h
      · rename_i pl pr kp
        split at h
        · rename_i F1 S1 h1
          have h2 := fun K hK => plE_ok (P := P) (K := K) hc hg hK pl hg h1
          obtain ⟨h3,h4⟩ := mcE_ok (n := n) hc fu (h2 (fun _ _ _ => True) (fun _ _ _ _ _ => trivial)).1 h
          refine ⟨h3,.anyQ (Q1 := fun _ _ _ _ => False) (fun _ _ _ _ _ _ h => h) (fun _ _ _ h => h.elim) ((h2 _ ?_).2 h4)⟩
          intro Fa Fb T hab hk
          simp only at hk ⊢
          rw [← hab]
          exact hk
        · rename_i v F1 S1 h1
          have h2 := fun K hK => plE_ok (P := P) (K := K) hc hg hK pl hg h1
          simp only [Option.some.injEq,Prod.mk.injEq] at h
          obtain ⟨rfl,rfl,rfl,rfl⟩ := h
          refine ⟨(h2 (fun _ _ _ => True) (fun _ _ _ _ _ => trivial)).1,.anyQ (Q1 := Qx (some v) D (dropF pl.dsts F1) S1) ?_ (fun _ _ _ h => h) ((h2 _ ?_).2 ⟨rfl,rfl,rfl,fun _ _ e => (lookup_dropF e).2⟩)⟩
          · rintro v' D' F' F'' S' hF ⟨q1,q2,q3,q4⟩
            refine ⟨q1,q2,q3,fun t x e => ?_⟩
            rw [← hF t (lookup_dropF e).1]
            exact q4 t x e
          · intro Fa Fb T hab hk
            simp only at hk ⊢
            rw [← hab]
            exact hk
        · cases h
      · rename_i l c as kp
        split at h
        · rename_i F1 S1 h1
          have h2 := fun K => moE_ok (P := P) (K := K) hc l hg h1
          split at h
          · rename_i f first caps hf
            obtain ⟨h3,h4⟩ := mcE_ok (n := n) hc fu (h2 fun _ _ _ => True).1 h
            exact ⟨h3,.dfr ((h2 _).2 ⟨f,first,caps,hf,h4⟩)⟩
          · cases h
        · rename_i v F1 S1 h1
          have h2 := fun K => moE_ok (P := P) (K := K) hc l hg h1
          simp only [Option.some.injEq,Prod.mk.injEq] at h
          obtain ⟨rfl,rfl,rfl,rfl⟩ := h
          exact ⟨(h2 fun _ _ _ => True).1,.dfr ((h2 _).2 ⟨rfl,rfl,rfl,fun _ _ e => e⟩)⟩
        · cases h
      · cases h
      · cases h
      · cases h
structure Ent where
  n : Nat
  mc : MC
  rv : List RV
def slotsB (F : Fr) (rv : List RV) : Bool := rv.all fun r => (F.lookup r.slot).isSome
theorem slotsB_ok {F F' : Fr} {rv : List RV} (h : slotsB F rv = true) (hF : ∀ t v,F.lookup t = some v → F'.lookup t = some v) (S : St) : rvsEv F' S rv = rvsEv F S rv := by
  refine rvsEv_congr fun r hr => ?_
  have h1 := List.all_eq_true.1 h r hr
  obtain ⟨v,hv⟩ := Option.isSome_iff_exists.1 h1
  unfold Fr.get
  rw [hv,hF _ _ hv]
def end0 (rv : List RV) (e : Option AV) (F : Fr) (S : St) : Option (Out × St) :=
  match e with
  | none => if slotsB F rv then (match rvsEv F S rv with
    | some vs => some (.ok (resOf vs),S)
    | none => none) else none
  | some v => some (.pan v,S)
theorem end0_ok {rv : List RV} {o : Out} (h : end0 rv e F S = some (o,S')) {K : Out → St → Prop} (hK : K o S') {D1 : Dfs} {F1 : Fr} {S1 : St} {e1 : Option AV} (hq : Qx e [] F S e1 D1 F1 S1) : S' = S ∧ endQ rv K e1 D1 F1 S1 := by
  obtain ⟨rfl,rfl,rfl,h4⟩ := hq
  cases e1 with
  | none =>
    simp only [end0] at h
    split at h
    · rename_i hs
      split at h
      · rename_i vs hv
        simp only [Option.some.injEq,Prod.mk.injEq] at h
        obtain ⟨rfl,rfl⟩ := h
        refine ⟨rfl,rfl,?_⟩
        rw [slotsB_ok hs h4,hv]
        exact hK
      · cases h
    · cases h
  | some v =>
    simp only [end0,Option.some.injEq,Prod.mk.injEq] at h
    obtain ⟨rfl,rfl⟩ := h
    exact ⟨rfl,rfl,hK⟩
def toRcv : Nat → List MI → Fr → Option ((Option Nat × List MOp × List Nat) × List MI × Fr)
  | 0,_,_ => none
  | fu + 1,k,F => match k with
    | .code (.seq a b) :: k => toRcv fu (.code a :: .code b :: k) F
    | .code (.block i a) :: k => toRcv fu (.code a :: .inBlock i :: k) F
    | .code (.named kp a) :: k => toRcv fu (.code a :: k) (keepF F kp)
    | .code (.rcv d l kp) :: k => some ((d,l,kp),k,F)
    | _ => none
theorem toRcv_ok {n : Nat} {pv : Option AV} {Q : EndQ} {d : Option Nat} {l : List MOp} {kp : List Nat} {k' : List MI} : ∀ (fu : Nat) {k : List MI} {F F' : Fr},toRcv fu k F = some ((d,l,kp),k',F') →
    moK P l (fun o F1 S' => match o with
      | none => MRun P n k' [] (keepK kp F1) S' Q
      | some v => Q (some v) [] F1 S') (putF d (pv.getD .nili) F') S → MRunR P n k pv F S Q
  | 0,_,_,_,h,_ => by cases h
  | fu + 1,k,F,F',h,hm => by
    simp only [toRcv,keepF_eq] at h
    split at h
    · exact .seq (toRcv_ok fu h hm)
    · exact .block (toRcv_ok fu h hm)
    · exact .named (toRcv_ok fu h hm)
    · simp only [Option.some.injEq,Prod.mk.injEq] at h
      obtain ⟨⟨rfl,rfl,rfl⟩,rfl,rfl⟩ := h
      exact .rcv hm
    · cases h
def dfE (T : FuncId → Option Ent) (call : CallE) (fb : Nat) (g : FuncId) (as : List AV) (pv : Option AV) (S : St) : Option (Out × St) :=
  match T g with
  | none => none
  | some en => if as.length ≤ en.n then (match toRcv 100 [.code en.mc] (argF 0 as) with
    | some ((d,l,kp),k,F) => (match moE call l (putF d (pv.getD .nili) F) S with
      | some (none,F1,S1) => (match mcE call fb k [] (keepF F1 kp) S1 with
        | some (e,[],F2,S2) => end0 en.rv e F2 S2
        | _ => none)
      | some (some v,_,S1) => some (.pan v,S1)
      | none => none)
    | none => none) else none
theorem dfE_ok {T : FuncId → Option Ent} (hT : ∀ f en,T f = some en → FnIs P f en.n en.mc en.rv) (hc : CallOK P gl call) (hg : S.gl = gl) {fb : Nat} {g : FuncId} {as : List AV} {pv : Option AV} {o : Out} (h : dfE T call fb g as pv S = some (o,S')) :
    S'.gl = gl ∧ MCallsD P g as S pv fun o' T' => o' = o ∧ T' = S' := by
  unfold dfE at h
  simp only [keepF_eq] at h
  split at h
  · cases h
  · rename_i en hen
    have hf := hT _ _ hen
    split at h
    · rename_i hlen
      split at h
      · rename_i d l kp k F hr
        split at h
        · rename_i F1 S1 h1
          have h2 := fun K => moE_ok (P := P) (K := K) hc l hg h1
          split at h
          · rename_i e F2 S2 h3
            obtain ⟨h4,h5⟩ := mcE_ok (n := en.n) hc fb (h2 fun _ _ _ => True).1 h3
            have hS : S' = S2 := (end0_ok (K := fun _ _ => True) h trivial ⟨rfl,rfl,rfl,fun _ _ e => e⟩).1
            refine ⟨hS ▸ h4,.of_run hf hlen (toRcv_ok 100 hr ((h2 _).2 ?_))⟩
            exact MRun.post h5 fun e1 D1 F3 S3 hq => (end0_ok h ⟨rfl,rfl⟩ hq).2
          · cases h
        · rename_i v F1 S1 h1
          have h2 := fun K => moE_ok (P := P) (K := K) hc l hg h1
          simp only [Option.some.injEq,Prod.mk.injEq] at h
          obtain ⟨rfl,rfl⟩ := h
          exact ⟨(h2 fun _ _ _ => True).1,.of_run hf hlen (toRcv_ok 100 hr ((h2 _).2 ⟨rfl,rfl,rfl⟩))⟩
        · cases h
      · cases h
    · cases h
def bodyE (T : FuncId → Option Ent) (call : CallE) (fb : Nat) (en : Ent) (as : List AV) (S : St) : Option (Out × St) :=
  if as.length ≤ en.n then (match mcE call fb [.code en.mc] [] (argF 0 as) S with
    | some (e,[],F,S1) => end0 en.rv e F S1
    | some (e,[(.func g,as',caps)],F,S1) => if slotsB F en.rv then (match dfE T call fb g (as' ++ caps) e S1 with
      | some (.ok _,S2) => (match rvsEv F S2 en.rv with
        | some vs => some (.ok (resOf vs),S2)
        | none => none)
      | some (.pan v,S2) => if e.isNone then some (.pan v,S2) else none
      | none => none) else none
    | _ => none) else none
theorem bodyE_ok {T : FuncId → Option Ent} (hT : ∀ f en,T f = some en → FnIs P f en.n en.mc en.rv) (hc : CallOK P gl call) (hg : S.gl = gl) {fb : Nat} {f : FuncId} {en : Ent} (hen : T f = some en) {as : List AV} {o : Out} (h : bodyE T call fb en as S = some (o,S')) :
    S'.gl = gl ∧ MCalls P f as S fun o' T' => o' = o ∧ T' = S' := by
  have hf := hT _ _ hen
  unfold bodyE at h
  split at h
  · rename_i hlen
    split at h
    · rename_i e F S1 h1
      obtain ⟨h4,h5⟩ := mcE_ok (n := en.n) hc fb hg h1
      have hS : S' = S1 := (end0_ok (K := fun _ _ => True) h trivial ⟨rfl,rfl,rfl,fun _ _ e => e⟩).1
      exact ⟨hS ▸ h4,.of_run hf hlen (MRun.post h5 fun e1 D1 F3 S3 hq => (end0_ok h ⟨rfl,rfl⟩ hq).2)⟩
    · rename_i e g as' caps F S1 h1
      obtain ⟨h4,h5⟩ := mcE_ok (n := en.n) hc fb hg h1
      split at h
      · rename_i hs
        have key : ∀ o1 S2,dfE T call fb g (as' ++ caps) e S1 = some (o1,S2) → S2.gl = gl ∧ MCallsD P g (as' ++ caps) S1 e fun o' T' => o' = o1 ∧ T' = S2 := fun o1 S2 hd => dfE_ok hT hc h4 hd
        obtain ⟨eng,heng⟩ : ∃ eng,T g = some eng := by
          cases hTg : T g with
          | none => simp [dfE,hTg] at h
          | some eng => exact ⟨eng,rfl⟩
        split at h
        · rename_i r0 S2 hd
          obtain ⟨k1,k2⟩ := key _ _ hd
          split at h
          · rename_i vs hv
            simp only [Option.some.injEq,Prod.mk.injEq] at h
            obtain ⟨rfl,rfl⟩ := h
            refine ⟨k1,.of_runD hf hlen (MRun.post h5 ?_)⟩
            rintro e1 D1 F3 S3 ⟨rfl,rfl,rfl,h6⟩
            refine ⟨g,rfl,(hT _ _ heng).call,MCallsD.mono k2 ?_⟩
            rintro o' T' ⟨rfl,rfl⟩
            simp only [slotsB_ok hs h6,hv]
            first
              | exact ⟨rfl,rfl⟩
              | simp
          · cases h
        · rename_i v S2 hd
          obtain ⟨k1,k2⟩ := key _ _ hd
          split at h
          · rename_i he
            simp only [Option.some.injEq,Prod.mk.injEq] at h
            obtain ⟨rfl,rfl⟩ := h
            refine ⟨k1,.of_runD hf hlen (MRun.post h5 ?_)⟩
            rintro e1 D1 F3 S3 ⟨rfl,rfl,rfl,h6⟩
            refine ⟨g,rfl,(hT _ _ heng).call,MCallsD.mono k2 ?_⟩
            rintro o' T' ⟨rfl,rfl⟩
            exact ⟨by simpa using he,rfl,rfl⟩
          · cases h
        · cases h
      · cases h
    · cases h
  · cases h
def liftE (S : St) : Option (Out × St) → Option (Out × St)
  | some (o,S') => if o.nrB then some (o,S) else (match o with
    | .ok (.sl k ys (.tok t)) => if S'.live.contains t && AV.nrsB (flat ys) then some (.ok (.sl k ys (.tok S.nt)),S.own) else none
    | .ok r => if r.fg.nrB then some (.ok r.fg,S) else none
    | .pan r => if r.fg.nrB then some (.pan r.fg,S) else none)
  | none => none
theorem liftE_ok {f : FuncId} {as : List AV} (hgn : GlNR gl) (hg : S.gl = gl) (ha : AV.nrsB (as.map AV.fg) = true) {x : Option (Out × St)} (hx : ∀ o1 S1,x = some (o1,S1) → MCalls P f (as.map AV.fg) (.none gl) fun o' T' => o' = o1 ∧ T' = S1) {o : Out}
    (h : liftE S x = some (o,S')) : S'.gl = gl ∧ MCalls P f as S fun o' T' => o' = o ∧ T' = S' := by
  unfold liftE at h
  have hna : ∀ a ∈ as.map AV.fg,NoRef a := fun a hm => AV.nrB_ok (nrsB_mem ha a hm)
  split at h
  · rename_i o1 S1
    have h1 := hx _ _ rfl
    split at h
    · rename_i hn
      simp only [Option.some.injEq,Prod.mk.injEq] at h
      obtain ⟨rfl,rfl⟩ := h
      have hp : Pure P gl f as o1 := ⟨h1.mono fun o' T' h => h.1,hna,Out.nrB_ok hn⟩
      exact ⟨hg,(hp.at hg hgn).mono fun o' T' h => ⟨h.2,h.1⟩⟩
    · split at h
      · rename_i k ys t hn
        split at h
        · rename_i hc
          simp only [Option.some.injEq,Prod.mk.injEq] at h
          obtain ⟨rfl,rfl⟩ := h
          simp only [Bool.and_eq_true] at hc
          have hp : Toks P gl f as k ys := ⟨h1.mono fun o' T' h => ⟨t,h.1,by rw [h.2]; simpa using hc.1⟩,hna,fun x hx c hcx => AV.nrB_ok (nrsB_mem hc.2 c (by
            simp only [flat,List.mem_flatMap]
            exact ⟨x,hx,hcx⟩))⟩
          exact ⟨hg,(hp.at hg hgn).mono fun o' T' h => h⟩
        · cases h
      · rename_i r _ hn
        split at h
        · rename_i hr
          simp only [Option.some.injEq,Prod.mk.injEq] at h
          obtain ⟨rfl,rfl⟩ := h
          have hp : Pure P gl f as (.ok r.fg) := ⟨MCalls.fgRes h1 (fun r' S' h => by obtain ⟨h,_⟩ := h; injection h with h; rw [h]) (fun r' S' h => by obtain ⟨h,_⟩ := h; cases h),hna,AV.nrB_ok hr⟩
          exact ⟨hg,(hp.at hg hgn).mono fun o' T' h => ⟨h.2,h.1⟩⟩
        · cases h
      · rename_i r hn
        split at h
        · rename_i hr
          simp only [Option.some.injEq,Prod.mk.injEq] at h
          obtain ⟨rfl,rfl⟩ := h
          have hp : Pure P gl f as (.pan r.fg) := ⟨MCalls.fgRes h1 (fun r' S' h => by obtain ⟨h,_⟩ := h; cases h) (fun r' S' h => by obtain ⟨h,_⟩ := h; injection h with h; rw [h]),hna,AV.nrB_ok hr⟩
          exact ⟨hg,(hp.at hg hgn).mono fun o' T' h => ⟨h.2,h.1⟩⟩
        · cases h
  · cases h
def orE (x : Option (Out × St)) (y : Unit → Option (Out × St)) : Option (Out × St) :=
  match x with
  | some r => some r
  | none => y ()
def callE (T : FuncId → Option Ent) (ps : CallE) (fb : Nat) : Nat → CallE
  | 0 => fun _ _ _ => none
  | fu + 1 => fun f as S => orE (ps f as S) fun _ => match T f with
      | none => none
      | some en => orE (if AV.nrsB (as.map AV.fg) then liftE S (bodyE T (callE T ps fb fu) fb en (as.map AV.fg) (.none S.gl)) else none) fun _ => bodyE T (callE T ps fb fu) fb en as S
theorem callE_ok {T : FuncId → Option Ent} (hT : ∀ f en,T f = some en → FnIs P f en.n en.mc en.rv) {ps : CallE} (hp : CallOK P gl ps) (hgn : GlNR gl) (fb : Nat) : ∀ fu,CallOK P gl (callE T ps fb fu)
  | 0 => fun f as S o S' hg h => by cases h
  | fu + 1 => fun f as S o S' hg h => by
    have ih := callE_ok hT hp hgn fb fu
    simp only [callE] at h
    unfold orE at h
    split at h
    · rename_i r hr
      injection h with h
      subst h
      exact hp _ _ _ _ _ hg hr
    · split at h
      · cases h
      · rename_i en hen
        split at h
        · rename_i r hr
          injection h with h
          subst h
          split at hr
          · rename_i ha
            rw [hg] at hr
            exact liftE_ok hgn hg ha (fun o1 S1 hx => (bodyE_ok hT ih rfl hen hx).2) hr
          · cases hr
        · exact bodyE_ok hT ih hg hen h
theorem CallOK.pure {f : FuncId} {as : List AV} {o o' : Out} {S' : St} (hgn : GlNR gl) (hg : S.gl = gl) (hp : Pure P gl f as o) (h : some (o,S) = some (o',S')) : S'.gl = gl ∧ MCalls P f as S fun o1 T => o1 = o' ∧ T = S' := by
  injection h with h
  injection h with h1 h2
  subst h1 h2
  exact ⟨hg,(hp.at hg hgn).mono fun o' T' h => ⟨h.2,h.1⟩⟩
theorem lookup_ok {l : List (FuncId × Ent)} (h : ∀ p ∈ l,FnIs P p.1 p.2.n p.2.mc p.2.rv) {f : FuncId} {en : Ent} (e : l.lookup f = some en) : FnIs P f en.n en.mc en.rv := by
  induction l with
  | nil => cases e
  | cons p l ih =>
    obtain ⟨g,en'⟩ := p
    rw [List.lookup_cons] at e
    by_cases hfg : f = g
    · subst hfg
      simp at e
      subst e
      exact h (f,en') (by simp)
    · have hb : (f == g) = false := by simpa using hfg
      rw [hb] at e
      exact ih (fun p hp => h p (by simp [hp])) e
theorem Pure.ofE {T : FuncId → Option Ent} (hT : ∀ f en,T f = some en → FnIs P f en.n en.mc en.rv) {ps : CallE} (hp : CallOK P gl ps) (hgn : GlNR gl) {fb fu : Nat} {f : FuncId} {as : List AV} {o : Out}
    (ha : AV.nrsB (as.map AV.fg) = true) (ho : o.nrB = true) (h : ∃ S',callE T ps fb fu f (as.map AV.fg) (.none gl) = some (o,S')) : Pure P gl f as o := by
  obtain ⟨S',h⟩ := h
  exact ⟨((callE_ok hT hp hgn fb fu) _ _ _ _ _ rfl h).2.mono fun o' T' h => h.1,fun a hm => AV.nrB_ok (nrsB_mem ha a hm),Out.nrB_ok ho⟩
end exec
end Go.V
