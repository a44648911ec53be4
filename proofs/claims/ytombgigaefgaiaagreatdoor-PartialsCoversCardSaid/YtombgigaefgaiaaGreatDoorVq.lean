/- The by-value layer, part thirteen and a half: statements whose operations may come in more than one order. Over any program. -/
import Derived.Test.YtombgigaefgaiaaGreatDoorVm
import Derived.Orders
set_option linter.unusedSimpArgs false
set_option linter.unusedVariables false
namespace Go.V
open Go
def Opd.rd : Opd → List Nat
  | .t n | .mth n _ => [n]
  | _ => []
def optRd : Option Opd → List Nat
  | some x => x.rd
  | none => []
def MK.rd : MK → List Nat
  | .mov x | .box x | .nilChk x | .un _ x | .conv _ x | .s2s x | .b2s x | .fadr _ x | .fld _ _ _ x | .ifc _ x | .ext x _ | .len _ x | .s2y x | .mkCap _ _ x => x.rd
  | .pick c a b => c.rd ++ (a.rd ++ b.rd)
  | .alloc _ | .allocB | .bad => []
  | .tas _ _ x | .nn _ _ x | .clr _ _ x => x.rd
  | .appN _ _ x y | .appO _ _ x y | .appG _ _ x y => x.rd ++ y.rd
  | .build _ ps => ps.flatMap fun p => p.2.2.rd
  | .mkSl _ _ xs => xs.flatMap Opd.rd
  | .load _ _ p => p.rd
  | .store _ p x => p.rd ++ x.rd
  | .bin _ x y | .eqv _ _ x y | .min x y | .max x y | .iadr _ x y | .iadrA _ _ x y | .istr x y | .iarr _ _ _ x y | .app _ _ x y | .cmp _ _ x y => x.rd ++ y.rd
  | .slS x lo hi => x.rd ++ (optRd lo ++ optRd hi)
  | .slV _ x lo hi mx => x.rd ++ (optRd lo ++ (optRd hi ++ optRd mx))
  | .func _ fi ca => fi.flatMap Opd.rd ++ ca.flatMap Opd.rd
  | .mkMap => []
  | .zbox _ x | .zfadr _ x | .zload x => x.rd
  | .ins _ m x y => m.rd ++ (x.rd ++ y.rd)
  | .look _ _ _ m x | .insC _ _ m x => m.rd ++ x.rd
def MK.kd : MK → Nat
  | .load .. => 1
  | .alloc _ | .box _ | .store .. | .app .. | .mkCap .. | .allocB | .appN .. | .appO .. | .appG .. | .clr .. | .mkMap | .ins .. | .look .. | .insC .. | .zbox .. | .zfadr .. | .zload _ => 2
  | _ => 0
def MX.rd : MX → List Nat
  | .k m => m.rd
  | .call c as => c.rd ++ as.flatMap Opd.rd
  | .panic x => x.rd
def MX.kd : MX → Nat
  | .k m => m.kd
  | _ => 2
def MOp.rds (o : MOp) : List Nat := o.op.rd ++ (match o.gd with
  | some (t,_) => [t]
  | none => [])
section congr
variable {F F' : Fr} {S : St}
theorem Opd.congr {x : Opd} (h : ∀ t ∈ x.rd,F.get t = F'.get t) : x.ev F = x.ev F' := by
  cases x <;> first
    | rfl
    | exact h _ (by simp [Opd.rd])
    | (simp only [Opd.ev]; rw [h _ (by simp [Opd.rd])])
theorem optCongr {x : Option Opd} (h : ∀ t ∈ optRd x,F.get t = F'.get t) : x.map (Opd.ev F) = x.map (Opd.ev F') := by
  cases x with
  | none => rfl
  | some x => simp only [Option.map_some]; rw [Opd.congr (x := x) h]
theorem listCongr : ∀ {xs : List Opd},(∀ t ∈ xs.flatMap Opd.rd,F.get t = F'.get t) → xs.map (Opd.ev F) = xs.map (Opd.ev F')
  | [],_ => rfl
  | x :: xs,h => by
    simp only [List.flatMap_cons,List.mem_append] at h
    rw [List.map_cons,List.map_cons,Opd.congr (x := x) fun t ht => h t (.inl ht),listCongr fun t ht => h t (.inr ht)]
theorem partsCongr : ∀ {ps : List (Nat × Nat × Opd)} {cs : List AV},(∀ t ∈ ps.flatMap (fun p => p.2.2.rd),F.get t = F'.get t) → putParts F cs ps = putParts F' cs ps
  | [],_,_ => rfl
  | (o,n,x) :: ps,cs,h => by
    simp only [List.flatMap_cons,List.mem_append] at h
    have h1 : x.ev F = x.ev F' := Opd.congr fun t ht => h t (.inl ht)
    simp only [putParts,h1]
    split
    · exact partsCongr fun t ht => h t (.inr ht)
    · rfl
theorem MK.congr {m : MK} (h : ∀ t ∈ m.rd,F.get t = F'.get t) : m.ev F S = m.ev F' S ∧ m.ob F S = m.ob F' S := by
  cases m <;> simp only [MK.rd,List.mem_append] at h
  case alloc => exact ⟨rfl,rfl⟩
  case allocB => exact ⟨rfl,rfl⟩
  case bad => exact ⟨rfl,rfl⟩
  case mkMap => exact ⟨rfl,rfl⟩
  case ins =>
    have h1 := Opd.congr fun t ht => h t (.inl ht)
    have h2 := Opd.congr fun t ht => h t (.inr (.inl ht))
    have h3 := Opd.congr fun t ht => h t (.inr (.inr ht))
    simp only [MK.ev,MK.ob,h1,h2,h3]; exact ⟨trivial,trivial⟩
  case build => simp only [MK.ev,MK.ob,partsCongr h]; exact ⟨trivial,trivial⟩
  case mkSl => simp only [MK.ev,MK.ob,listCongr h]; exact ⟨trivial,trivial⟩
  case pick =>
    have h1 := Opd.congr fun t ht => h t (.inl ht)
    have h2 := Opd.congr fun t ht => h t (.inr (.inl ht))
    have h3 := Opd.congr fun t ht => h t (.inr (.inr ht))
    simp only [MK.ev,MK.ob,h1,h2,h3]; exact ⟨trivial,trivial⟩
  case slS =>
    have h1 := Opd.congr fun t ht => h t (.inl ht)
    have h2 := optCongr fun t ht => h t (.inr (.inl ht))
    have h3 := optCongr fun t ht => h t (.inr (.inr ht))
    simp only [MK.ev,MK.ob,h1,h2,h3]; exact ⟨trivial,trivial⟩
  case slV =>
    have h1 := Opd.congr fun t ht => h t (.inl ht)
    have h2 := optCongr fun t ht => h t (.inr (.inl ht))
    have h3 := optCongr fun t ht => h t (.inr (.inr (.inl ht)))
    have h4 := optCongr fun t ht => h t (.inr (.inr (.inr ht)))
    simp only [MK.ev,MK.ob,h1,h2,h3,h4]; exact ⟨trivial,trivial⟩
  case func =>
    have h1 := listCongr fun t ht => h t (.inl ht)
    have h2 := listCongr fun t ht => h t (.inr ht)
    simp only [MK.ev,MK.ob,h1,h2]; exact ⟨trivial,trivial⟩
  all_goals first
    | (have h1 := Opd.congr h
       simp only [MK.ev,MK.ob,h1]
       exact ⟨trivial,trivial⟩)
    | (have h1 := Opd.congr fun t ht => h t (.inl ht)
       have h2 := Opd.congr fun t ht => h t (.inr ht)
       simp only [MK.ev,MK.ob,h1,h2]
       exact ⟨trivial,trivial⟩)
end congr
theorem MK.pure {m : MK} {F : Fr} {S S1 : St} {v : AV} (hk : m.kd = 0) (h : m.ev F S = some (v,S1)) : S1 = S ∧ ∀ S',m.ev F S' = some (v,S') ∧ m.ob F S' = m.ob F S := by
  cases m <;> simp only [MK.kd] at hk <;> first
    | (cases hk; done)
    | skip
  case b2s x =>
    simp only [MK.ev,MK.ob] at h ⊢
    generalize x.ev F = y at h
    split at h
    · split at h
      · simp only [Option.map_eq_some_iff,Prod.mk.injEq] at h
        obtain ⟨a,h1,rfl,rfl⟩ := h
        refine ⟨rfl,fun S' => ⟨?_,trivial⟩⟩
        simp_all
      · cases h
    · cases h
  case len s x =>
    simp only [MK.ev,MK.ob] at h ⊢
    split at h
    · simp only [Option.map_eq_some_iff,Prod.mk.injEq] at h
      obtain ⟨a,h1,rfl,rfl⟩ := h
      refine ⟨rfl,fun S' => ⟨?_,trivial⟩⟩
      simp_all
    · cases h
  all_goals
    (simp only [MK.ev,MK.ob] at h ⊢
     first
       | (simp only [Option.map_eq_some_iff,Prod.mk.injEq] at h
          obtain ⟨a,h1,rfl,rfl⟩ := h
          refine ⟨rfl,fun S' => ⟨?_,trivial⟩⟩
          rw [h1]
          rfl)
       | (split at h <;> simp_all <;> done)
       | (split at h
          · (simp only [Option.map_eq_some_iff,Prod.mk.injEq] at h
             obtain ⟨a,h1,rfl,rfl⟩ := h
             refine ⟨rfl,fun S' => ⟨?_,trivial⟩⟩
             rw [h1]
             rfl)
          · cases h)
       | (split at h
          · split at h
            · (simp only [Option.map_eq_some_iff,Prod.mk.injEq] at h
               obtain ⟨a,h1,rfl,rfl⟩ := h
               refine ⟨rfl,fun S' => ⟨?_,trivial⟩⟩
               rw [h1]
               rfl)
            · cases h
          · cases h)
       | (simp_all; done))
def FEq (F F' : Fr) : Prop := ∀ t,F.lookup t = F'.lookup t
theorem FEq.symm {F F' : Fr} (h : FEq F F') : FEq F' F := fun t => (h t).symm
theorem FEq.get {F F' : Fr} (h : FEq F F') (t : Nat) : F.get t = F'.get t := by unfold Fr.get; rw [h t]
theorem lookup_put (d : Option Nat) (v : AV) (F : Fr) (t : Nat) : (putF d v F).lookup t = if d = some t then some v else F.lookup t := by
  cases d with
  | none => simp [putF]
  | some d =>
    simp only [putF,List.lookup_cons,Option.some.injEq]
    by_cases h : t = d
    · subst h; simp
    · have : (t == d) = false := by simpa using h
      simp [this,Ne.symm h]
theorem FEq.put {F F' : Fr} (h : FEq F F') (d : Option Nat) (v : AV) : FEq (putF d v F) (putF d v F') := fun t => by rw [lookup_put,lookup_put,h t]
theorem FEq.swap (F : Fr) {d e : Option Nat} (u v : AV) (h : ∀ x,d = some x → e ≠ some x) : FEq (putF d u (putF e v F)) (putF e v (putF d u F)) := fun t => by
  simp only [lookup_put]
  by_cases h1 : d = some t
  · simp [h1,h t h1]
  · simp [h1]
theorem get_put {d : Option Nat} {v : AV} {F : Fr} {t : Nat} (h : d ≠ some t) : (putF d v F).get t = F.get t := by
  unfold Fr.get; rw [lookup_put,if_neg h]
theorem get_lookup {F : Fr} {t : Nat} {b : AV} (h : F.get t = b) (hb : b ≠ .junk) : F.lookup t = some b := by
  unfold Fr.get at h
  cases e : F.lookup t with
  | none => rw [e] at h; exact absurd h.symm hb
  | some y => rw [e] at h; exact congrArg some h
theorem FEq.known {F : Fr} {t : Nat} {b : AV} (h : F.get t = b) (hb : b ≠ .junk) : FEq F ((t,b) :: F) := fun u => by
  have := lookup_put (some t) b F u
  simp only [putF] at this
  rw [this]
  by_cases hu : t = u
  · subst hu; simp [get_lookup h hb]
  · simp [hu]
def Rsp (nx : Fr → St → Prop) : Prop := ∀ F F' S,FEq F F' → nx F S → nx F' S
def mop (P : Program) (o : MOp) (K : Option AV → Fr → St → Prop) (nx : Fr → St → Prop) (F : Fr) (S : St) : Prop := guardK o (stepK P o K nx) nx F S
def MOp.want (o : MOp) (F : Fr) : Option Bool :=
  match o.gd with
  | none => some true
  | some (t,b) => match F.get t with
    | .bool c => some (c == b)
    | .tup [] => some false
    | _ => none
theorem step_congr {P : Program} {o : MOp} {K : Option AV → Fr → St → Prop} {nx nx' : Fr → St → Prop} {F F' : Fr} {S : St} (hr : ∀ t ∈ o.op.rd,F.get t = F'.get t)
    (hK : ∀ v S,K (some v) F S → K (some v) F' S) (hn : ∀ r S',(o.op.kd ≠ 2 → S' = S) → nx (putF o.dst r F) S' → nx' (putF o.dst r F') S') (h : stepK P o K nx F S) : stepK P o K nx' F' S := by
  obtain ⟨ix,dst,gd,op⟩ := o
  cases op with
  | k m =>
    obtain ⟨h1,h2⟩ := MK.congr (S := S) (m := m) hr
    simp only [stepK] at h ⊢
    rw [← h1,← h2]
    refine ⟨h.1,?_⟩
    have h3 := h.2
    cases he : m.ev F S with
    | none => rw [he] at h3; exact h3.elim
    | some rs =>
      obtain ⟨r,S1⟩ := rs
      rw [he] at h3
      refine hn r S1 (fun hk => ?_) h3
      simp only [MX.kd] at hk
      cases hm : m.kd with
      | zero => exact (MK.pure hm he).1
      | succ j =>
        cases m <;> simp only [MK.kd] at hm hk <;> first
          | (cases hm; done)
          | (exact absurd rfl hk)
          | (simp only [MK.ev,Option.bind_eq_some_iff,Option.map_eq_some_iff,Prod.mk.injEq] at he
             obtain ⟨_,_,_,_,_,e⟩ := he
             exact e.symm)
  | panic x =>
    have h1 : x.ev F = x.ev F' := Opd.congr hr
    simp only [stepK] at h ⊢
    rw [← h1]
    split at h
    · exact hK _ _ h
    · exact h.elim
  | call c as =>
    simp only [MX.rd,List.mem_append] at hr
    have h1 : c.ev F = c.ev F' := Opd.congr fun t ht => hr t (.inl ht)
    have h2 : as.map (Opd.ev F) = as.map (Opd.ev F') := listCongr fun t ht => hr t (.inr ht)
    simp only [stepK] at h ⊢
    rw [← h1,← h2]
    split at h
    · refine h.mono fun out S' ho => ?_
      cases out with
      | ok r => exact hn r S' (fun hk => absurd rfl hk) ho
      | pan v => exact hK _ _ ho
    · refine h.mono fun out S' ho => ?_
      cases out with
      | ok r => exact hn r S' (fun hk => absurd rfl hk) ho
      | pan v => exact hK _ _ ho
    · exact h.elim
theorem mop_to {P : Program} {o : MOp} {K : Option AV → Fr → St → Prop} {nx : Fr → St → Prop} {stp : Fr → St → Prop} (hst : Rsp stp) (hnr : Rsp nx) {F : Fr} {S : St} (h : guardK o stp nx F S) :
    (o.want F = some true ∧ stp F S) ∨ (o.want F = some false ∧ nx (putF o.dst (.tup []) F) S) := by
  unfold guardK at h
  unfold MOp.want
  cases hg : o.gd with
  | none => rw [hg] at h; exact .inl ⟨rfl,h⟩
  | some p =>
    obtain ⟨t,want⟩ := p
    rw [hg] at h
    simp only at h ⊢
    split at h
    · rename_i c hc
      by_cases e : c = want
      · exact .inl ⟨by simp [hc,e],hst _ _ _ (FEq.known (e ▸ hc) (by intro x; cases x)).symm (h.1 e)⟩
      · have e' : c = !want := by cases c <;> cases want <;> simp_all
        refine .inr ⟨by simp only [hc]; rw [e']; cases want <;> rfl,hnr _ _ _ (((FEq.known (e' ▸ hc) (by intro x; cases x)).put _ _).symm) (h.2 e')⟩
    · rename_i hc
      exact .inr ⟨by simp [hc],h⟩
    · exact h.elim
theorem guard_of {o : MOp} {stp nx : Fr → St → Prop} (hst : Rsp stp) (hnr : Rsp nx) {F : Fr} {S : St} (h : (o.want F = some true ∧ stp F S) ∨ (o.want F = some false ∧ nx (putF o.dst (.tup []) F) S)) : guardK o stp nx F S := by
  unfold guardK
  unfold MOp.want at h
  cases hg : o.gd with
  | none =>
    rw [hg] at h
    rcases h with ⟨_,h⟩ | ⟨h,_⟩
    · exact h
    · cases h
  | some p =>
    obtain ⟨t,want⟩ := p
    rw [hg] at h
    simp only at h ⊢
    split at h
    · rename_i c hc
      simp only [hc]
      simp only [Option.some.injEq] at h
      refine ⟨fun e => ?_,fun e => ?_⟩
      · rcases h with ⟨_,h⟩ | ⟨h,_⟩
        · exact hst _ _ _ (FEq.known (e ▸ hc) (by intro x; cases x)) h
        · subst e; simp at h
      · rcases h with ⟨h,_⟩ | ⟨_,h⟩
        · subst e; cases want <;> simp at h
        · exact hnr _ _ _ ((FEq.known (e ▸ hc) (by intro x; cases x)).put _ _) h
    · rename_i hc
      simp only [hc]
      rcases h with ⟨h,_⟩ | ⟨_,h⟩
      · cases h
      · exact h
    · rcases h with ⟨h,_⟩ | ⟨h,_⟩ <;> cases h
theorem step_rsp {P : Program} {o : MOp} {K : Option AV → Fr → St → Prop} {nx : Fr → St → Prop} (hKr : ∀ v,Rsp (K (some v))) (hnr : Rsp nx) : Rsp (stepK P o K nx) := fun F F' S e h =>
  step_congr (fun t _ => e.get t) (fun v S => hKr v _ _ S e) (fun r S' _ => hnr _ _ S' (e.put _ _)) h
theorem mop_of {P : Program} {o : MOp} {K : Option AV → Fr → St → Prop} {nx : Fr → St → Prop} (hKr : ∀ v,Rsp (K (some v))) (hnr : Rsp nx) {F : Fr} {S : St}
    (h : (o.want F = some true ∧ stepK P o K nx F S) ∨ (o.want F = some false ∧ nx (putF o.dst (.tup []) F) S)) : mop P o K nx F S := guard_of (step_rsp hKr hnr) hnr h
theorem want_congr {o : MOp} {F F' : Fr} (h : ∀ t ∈ o.rds,F.get t = F'.get t) : o.want F = o.want F' := by
  unfold MOp.want
  unfold MOp.rds at h
  cases hg : o.gd with
  | none => rfl
  | some p =>
    obtain ⟨t,b⟩ := p
    rw [hg] at h
    simp only
    rw [h t (by simp)]
def Yl (o : MOp) (v : AV) (Cl : St → Prop) (F : Fr) : Prop :=
  (o.want F = some true ∧ ∃ m,o.op = .k m ∧ ∀ S,Cl S → m.ob F S ∧ m.ev F S = some (v,S)) ∨ (o.want F = some false ∧ v = .tup [])
theorem Yl.congr {o : MOp} {v : AV} {Cl : St → Prop} {F F' : Fr} (hr : ∀ t ∈ o.rds,F.get t = F'.get t) (h : Yl o v Cl F) : Yl o v Cl F' := by
  unfold Yl at *
  rw [← want_congr hr]
  rcases h with ⟨h1,m,h2,h3⟩ | h
  · refine .inl ⟨h1,m,h2,fun S hS => ?_⟩
    obtain ⟨e1,e2⟩ := MK.congr (S := S) (m := m) (F := F) (F' := F') fun t ht => hr t (by simp [MOp.rds,h2,MX.rd,ht])
    rw [← e1,← e2]
    exact h3 S hS
  · exact .inr h
theorem Yl.mop {P : Program} {o : MOp} {K : Option AV → Fr → St → Prop} {nx : Fr → St → Prop} (hKr : ∀ v,Rsp (K (some v))) (hnr : Rsp nx) {v : AV} {Cl : St → Prop} {F : Fr} {S : St} (hy : Yl o v Cl F) (hc : Cl S) (h : nx (putF o.dst v F) S) : mop P o K nx F S := by
  refine mop_of hKr hnr ?_
  rcases hy with ⟨h1,m,h2,h3⟩ | ⟨h1,rfl⟩
  · refine .inl ⟨h1,?_⟩
    obtain ⟨h4,h5⟩ := h3 S hc
    unfold stepK
    rw [h2]
    simp only
    exact ⟨h4,by rw [h5]; exact h⟩
  · exact .inr ⟨h1,h⟩
def MOp.apart (x y : MOp) : Bool :=
  (match x.dst with
   | some d => !y.rds.contains d && y.dst != some d
   | none => true) &&
  (match y.dst with
   | some d => !x.rds.contains d
   | none => true)
theorem MOp.apart_spec {x y : MOp} (h : x.apart y = true) : (∀ d,x.dst = some d → d ∉ y.rds) ∧ (∀ d,x.dst = some d → y.dst ≠ some d) ∧ (∀ d,y.dst = some d → d ∉ x.rds) := by
  refine ⟨fun d hd => ?_,fun d hd => ?_,fun d hd => ?_⟩ <;> simp [MOp.apart,hd] at h
  · exact h.1.1
  · exact h.1.2
  · exact h.2
theorem mop_put {P : Program} {oi oj : MOp} {K : Option AV → Fr → St → Prop} {nx : Fr → St → Prop} (hKr : ∀ v,Rsp (K (some v))) (hnr : Rsp nx) (hap : oi.apart oj = true) {v : AV} {Cl : St → Prop}
    (hKp : ∀ x F S,K (some x) (putF oi.dst v F) S → K (some x) F S) {F : Fr} {S : St} (hy : Yl oi v Cl F) (h : mop P oj K nx (putF oi.dst v F) S) :
    mop P oj K (fun F' S' => Yl oi v Cl F' ∧ nx (putF oi.dst v F') S' ∧ (oj.op.kd ≠ 2 → S' = S)) F S := by
  obtain ⟨h1,h2,h3⟩ := MOp.apart_spec hap
  have hr : ∀ t ∈ oj.rds,(putF oi.dst v F).get t = F.get t := fun t ht => get_put fun e => h1 t e ht
  have hrx : ∀ t ∈ oj.op.rd,(putF oi.dst v F).get t = F.get t := fun t ht => hr t (by simp [MOp.rds,ht])
  have hnr' : Rsp fun F' S' => Yl oi v Cl F' ∧ nx (putF oi.dst v F') S' ∧ (oj.op.kd ≠ 2 → S' = S) := fun F F' S e h => ⟨h.1.congr fun t _ => e.get t,hnr _ _ _ (e.put _ _) h.2.1,h.2.2⟩
  have keep : ∀ u,Yl oi v Cl (putF oj.dst u F) := fun u => hy.congr fun t ht => (get_put fun e => h3 t e ht).symm
  refine mop_of hKr hnr' ?_
  have h' := mop_to (K := K) (P := P) (step_rsp hKr hnr) hnr h
  rw [want_congr hr] at h'
  rcases h' with ⟨hw,hs⟩ | ⟨hw,hs⟩
  · refine .inl ⟨hw,step_congr hrx (fun x S => hKp x F S) (fun r S' hk hn => ⟨keep r,hnr _ _ _ (FEq.swap F r v fun d e e' => h2 d e' e) hn,hk⟩) hs⟩
  · exact .inr ⟨hw,keep _,hnr _ _ _ (FEq.swap F _ v fun d e e' => h2 d e' e) hs,fun _ => rfl⟩
section any
variable (P : Program) (ops : Array Oper) (all : List MOp) (K : Option AV → Fr → St → Prop) (Inv : St → Prop) (nd : List Nat)
def mAny : Nat → Array Bool → Fr → St → Prop
  | 0,li,F,S => Region.ready .any ops li = [] ∧ K none F S
  | f + 1,li,F,S => (Region.ready .any ops li = [] → K none F S) ∧
    ∀ i ∈ Region.ready .any ops li,∃ o ∈ all,o.ix = i ∧ mop P o K (fun F' S' => (nd.contains i = true → Inv S') ∧ mAny f (li.setIfInBounds i true) F' S') F S
def edge (j i : Nat) : Bool :=
  match ops[j]? with
  | some o => o.after.any fun e => Region.binds .any e && e.on == i
  | none => false
end any
section any2
variable {P : Program} {ops : Array Oper} {all : List MOp} {K : Option AV → Fr → St → Prop} {Inv : St → Prop} {nd : List Nat}
theorem mAny_rsp (hK : ∀ o,Rsp (K o)) : ∀ f li,Rsp (mAny P ops all K Inv nd f li)
  | 0,li,F,F',S,e,h => ⟨h.1,hK _ _ _ _ e h.2⟩
  | f + 1,li,F,F',S,e,h => ⟨fun h0 => hK _ _ _ _ e (h.1 h0),fun i hi => by
      obtain ⟨o,ho,hix,hm⟩ := h.2 i hi
      have hn : Rsp fun F' S' => (nd.contains i = true → Inv S') ∧ mAny P ops all K Inv nd f (li.setIfInBounds i true) F' S' := fun F F' S e h => ⟨h.1,mAny_rsp hK f _ _ _ _ e h.2⟩
      refine ⟨o,ho,hix,mop_of (fun v => hK _) hn ?_⟩
      have := mop_to (K := K) (P := P) (step_rsp (fun v => hK _) hn) hn hm
      rw [want_congr (F' := F') fun t _ => e.get t] at this
      rcases this with ⟨h1,h2⟩ | ⟨h1,h2⟩
      · exact .inl ⟨h1,step_rsp (fun v => hK _) hn _ _ _ e h2⟩
      · exact .inr ⟨h1,hn _ _ _ (e.put _ _) h2⟩⟩
theorem mop_mono {o : MOp} {K : Option AV → Fr → St → Prop} {nx nx' : Fr → St → Prop} (hn : ∀ F S,nx F S → nx' F S) {F : Fr} {S : St} (h : mop P o K nx F S) : mop P o K nx' F S := by
  have st : ∀ F,stepK P o K nx F S → stepK P o K nx' F S := fun F hs => step_congr (fun _ _ => rfl) (fun _ _ x => x) (fun r S' _ => hn _ _) hs
  unfold mop guardK at *
  split at h
  · exact st _ h
  · split at h
    · exact ⟨fun e => st _ (h.1 e),fun e => hn _ _ (h.2 e)⟩
    · exact hn _ _ h
    · exact h.elim
theorem edge_false {j i : Nat} (h : edge ops j i = false) {o : Oper} (ho : ops[j]? = some o) : ∀ e ∈ o.after,Region.binds .any e = true → e.on ≠ i := by
  intro e he hb heq
  unfold edge at h
  rw [ho] at h
  simp only at h
  have : (o.after.any fun e => Region.binds .any e && e.on == i) = true := Array.any_eq_true'.2 ⟨e,he,by simp [hb,heq]⟩
  rw [this] at h
  cases h
theorem edge_of_ready {j i : Nat} {li : Array Bool} (hj : j ∈ Region.ready .any ops li) (hi : i ∈ Region.ready .any ops li) : edge ops j i = false := by
  obtain ⟨hjun,oj,hoj,hall⟩ := mem_ready.1 hj
  unfold edge
  rw [hoj]
  simp only
  cases h : (oj.after.any fun e => Region.binds .any e && e.on == i) with
  | false => rfl
  | true =>
    obtain ⟨e,he,hb⟩ := Array.any_eq_true'.1 h
    simp only [Bool.and_eq_true,beq_iff_eq] at hb
    have h1 := hall e he hb.1
    have h0 := (mem_ready.1 hi).1
    rw [hb.2] at h1
    rcases Nat.lt_or_ge i li.size with h' | h'
    · simp [h'] at h0 h1; rw [h0] at h1; cases h1
    · simp [Array.getElem?_eq_none h'] at h1
theorem mAny_first (hK : ∀ o,Rsp (K o)) {i : Nat} {oi : MOp} {v : AV} {Cl : St → Prop} (hi : oi ∈ all) (hix : oi.ix = i) (hni : nd.contains i = false) (hKp : ∀ x F S,K (some x) (putF oi.dst v F) S → K (some x) F S)
    : ∀ (f : Nat) (li : Array Bool) (F : Fr) (S : St),(∀ oj ∈ all,oj.ix ≠ i → li.getD oj.ix true = false → oj.op.kd = 2 → edge ops oj.ix i = false → (∀ S,Cl S) ∨ (nd.contains oj.ix = true ∧ ∀ S,Inv S → Cl S)) → (∀ oj ∈ all,oj.ix ≠ i → li.getD oj.ix true = false → edge ops oj.ix i = false → oi.apart oj = true) →
      i ∈ Region.ready .any ops li → Yl oi v Cl F → Cl S → mAny P ops all K Inv nd f (li.setIfInBounds i true) (putF oi.dst v F) S → mAny P ops all K Inv nd (f + 1) li F S
  | 0,li,F,S,hcl,hfree,hr,hy,hc,H => by
    refine ⟨fun h => (by rw [h] at hr; cases hr),fun j hj => ?_⟩
    have hn : Rsp fun F' S' => (nd.contains i = true → Inv S') ∧ mAny P ops all K Inv nd 0 (li.setIfInBounds i true) F' S' := fun F F' S e h => ⟨h.1,mAny_rsp hK _ _ _ _ _ e h.2⟩
    by_cases hji : j = i
    · subst hji; exact ⟨oi,hi,hix,hy.mop (fun v => hK _) hn hc ⟨fun h => (by rw [hni] at h; cases h),H⟩⟩
    · have := ready_mono hj hji
      rw [H.1] at this
      cases this
  | f + 1,li,F,S,hcl,hfree,hr,hy,hc,H => by
    refine ⟨fun h => (by rw [h] at hr; cases hr),fun j hj => ?_⟩
    have hn : Rsp fun F' S' => (nd.contains i = true → Inv S') ∧ mAny P ops all K Inv nd (f + 1) (li.setIfInBounds i true) F' S' := fun F F' S e h => ⟨h.1,mAny_rsp hK _ _ _ _ _ e h.2⟩
    by_cases hji : j = i
    · subst hji; exact ⟨oi,hi,hix,hy.mop (fun v => hK _) hn hc ⟨fun h => (by rw [hni] at h; cases h),H⟩⟩
    · obtain ⟨oj,hoj,hjx,h1⟩ := H.2 j (ready_mono hj hji)
      have he : edge ops oj.ix i = false := by rw [hjx]; exact edge_of_ready hj hr
      have hap := hfree oj hoj (by rw [hjx]; exact hji) (by rw [hjx]; exact (mem_ready.1 hj).1) he
      have hnj : Rsp fun F' S' => (nd.contains j = true → Inv S') ∧ mAny P ops all K Inv nd f ((li.setIfInBounds i true).setIfInBounds j true) F' S' := fun F F' S e h => ⟨h.1,mAny_rsp hK _ _ _ _ _ e h.2⟩
      have h2 := mop_put (fun v => hK _) hnj hap hKp hy h1
      refine ⟨oj,hoj,hjx,mop_mono (fun F' S' h3 => ⟨h3.2.1.1,?_⟩) h2⟩
      refine mAny_first hK hi hix hni hKp f (li.setIfInBounds j true) F' S' (fun k hk hki hun => hcl k hk hki ?_) (fun k hk hki hun hno => ?_) (ready_mono hr (Ne.symm hji)) h3.1 ?_ ?_
      · by_cases hjk : j = k.ix
        · rw [← hjk]; exact (mem_ready.1 hj).1
        · rw [getD_set_ne true hjk] at hun; exact hun
      · refine hfree k hk hki ?_ hno
        by_cases hjk : j = k.ix
        · rw [← hjk]; exact (mem_ready.1 hj).1
        · rw [getD_set_ne true hjk] at hun; exact hun
      · by_cases hkd : oj.op.kd = 2
        · rcases hcl oj hoj (by rw [hjx]; exact hji) (by rw [hjx]; exact (mem_ready.1 hj).1) hkd he with h4 | ⟨h4,h5⟩
          · exact h4 _
          · rw [hjx] at h4; exact h5 _ (h3.2.1.1 h4)
        · rw [h3.2.2 hkd]; exact hc
      · rw [Array.setIfInBounds_comm _ _ hji]
        exact h3.2.1.2
def MOp.isC (o : MOp) : Bool := o.gd.isNone && o.dst.isNone && (match o.op with
  | .k (.insC ..) => true
  | _ => false)
theorem isC_inv {o : MOp} (h : o.isC = true) : o.gd = none ∧ o.dst = none ∧ ∃ q a m y,o.op = .k (.insC q a m y) := by
  unfold MOp.isC at h
  simp only [Bool.and_eq_true,Option.isNone_iff_eq_none] at h
  obtain ⟨⟨h1,h2⟩,h3⟩ := h
  split at h3
  · rename_i q a m y e; exact ⟨h1,h2,q,a,m,y,e⟩
  · cases h3
theorem mAny_firstC (hK : ∀ o,Rsp (K o)) {i : Nat} {oi : MOp} {q : IntKind} {a : Int} {m y : Opd} (hi : oi ∈ all) (hix : oi.ix = i) (hni : nd.contains i = false) (hop : oi.op = .k (.insC q a m y)) (hgd : oi.gd = none) (hdst : oi.dst = none)
    : ∀ (f : Nat) (li : Array Bool) (F : Fr) (S S1 : St),(∀ oj ∈ all,oj.ix ≠ i → li.getD oj.ix true = false → edge ops oj.ix i = false → oi.apart oj = true ∧ (oj.op.kd = 0 ∨ oj.isC = true) ∧ nd.contains oj.ix = false) →
      i ∈ Region.ready .any ops li → insCEv q a S (m.ev F) (y.ev F) = some S1 → mAny P ops all K Inv nd f (li.setIfInBounds i true) F S1 → mAny P ops all K Inv nd (f + 1) li F S := by
  have own : ∀ (f : Nat) (li : Array Bool) (F : Fr) (S S1 : St),insCEv q a S (m.ev F) (y.ev F) = some S1 → mAny P ops all K Inv nd f (li.setIfInBounds i true) F S1 →
      mop P oi K (fun F' S' => (nd.contains i = true → Inv S') ∧ mAny P ops all K Inv nd f (li.setIfInBounds i true) F' S') F S := fun f li F S S1 hc H => by
    have hn : Rsp fun F' S' => (nd.contains i = true → Inv S') ∧ mAny P ops all K Inv nd f (li.setIfInBounds i true) F' S' := fun F F' S e h => ⟨h.1,mAny_rsp hK _ _ _ _ _ e h.2⟩
    refine mop_of (fun v => hK _) hn (.inl ⟨by simp [MOp.want,hgd],?_⟩)
    unfold stepK
    rw [hop]
    simp only [MK.ev,hc,Option.map_some,MK.ob,hdst]
    exact ⟨trivial,fun h => (by rw [hni] at h; cases h),H⟩
  intro f
  induction f with
  | zero =>
    intro li F S S1 hfree hr hc H
    refine ⟨fun h => (by rw [h] at hr; cases hr),fun j hj => ?_⟩
    by_cases hji : j = i
    · subst hji; exact ⟨oi,hi,hix,own 0 li F S S1 hc H⟩
    · have := ready_mono hj hji
      rw [H.1] at this
      cases this
  | succ f ih =>
    intro li F S S1 hfree hr hc H
    refine ⟨fun h => (by rw [h] at hr; cases hr),fun j hj => ?_⟩
    by_cases hji : j = i
    · subst hji; exact ⟨oi,hi,hix,own (f + 1) li F S S1 hc H⟩
    · obtain ⟨oj,hoj,hjx,h1⟩ := H.2 j (ready_mono hj hji)
      have he : edge ops oj.ix i = false := by rw [hjx]; exact edge_of_ready hj hr
      obtain ⟨hap,hkd,hnj⟩ := hfree oj hoj (by rw [hjx]; exact hji) (by rw [hjx]; exact (mem_ready.1 hj).1) he
      rw [hjx] at hnj
      obtain ⟨_,_,hrd⟩ := MOp.apart_spec hap
      have hnx : ∀ f li,Rsp fun F' S' => (nd.contains j = true → Inv S') ∧ mAny P ops all K Inv nd f li F' S' := fun f li F F' S e h => ⟨h.1,mAny_rsp hK _ _ _ _ _ e h.2⟩
      have hops : ∀ v,m.ev (putF oj.dst v F) = m.ev F ∧ y.ev (putF oj.dst v F) = y.ev F := fun v => by
        refine ⟨Opd.congr fun t ht => get_put fun e => ?_,Opd.congr fun t ht => get_put fun e => ?_⟩ <;>
          exact hrd t e (by simp [MOp.rds,hop,MX.rd,MK.rd,ht])
      have next : ∀ (v : AV) (T T1 : St),insCEv q a T (m.ev F) (y.ev F) = some T1 → mAny P ops all K Inv nd f ((li.setIfInBounds i true).setIfInBounds j true) (putF oj.dst v F) T1 → mAny P ops all K Inv nd (f + 1) (li.setIfInBounds j true) (putF oj.dst v F) T := fun v T T1 hcT HT => by
        refine ih (li.setIfInBounds j true) _ T T1 (fun k hk hki hun hno => hfree k hk hki ?_ hno) (ready_mono hr (Ne.symm hji)) (by rw [(hops v).1,(hops v).2]; exact hcT) ?_
        · by_cases hjk : j = k.ix
          · rw [← hjk]; exact (mem_ready.1 hj).1
          · rw [getD_set_ne true hjk] at hun; exact hun
        · rw [Array.setIfInBounds_comm _ _ hji]; exact HT
      refine ⟨oj,hoj,hjx,mop_of (fun v => hK _) (hnx _ _) ?_⟩
      have h2 := mop_to (K := K) (P := P) (step_rsp (fun v => hK _) (hnx _ _)) (hnx _ _) h1
      rcases h2 with ⟨hw,hs⟩ | ⟨hw,hs⟩
      · refine .inl ⟨hw,?_⟩
        rcases hkd with hkd | hkd
        · cases hoo : oj.op with
          | k m' =>
            unfold stepK at hs ⊢
            rw [hoo] at hs hkd ⊢
            simp only at hs ⊢
            obtain ⟨hob,hs⟩ := hs
            cases hev : m'.ev F S1 with
            | none => rw [hev] at hs; exact hs.elim
            | some rs =>
              obtain ⟨r,S1'⟩ := rs
              rw [hev] at hs
              obtain ⟨rfl,hp⟩ := MK.pure hkd hev
              rw [(hp S).1]
              exact ⟨by rw [(hp S).2]; exact hob,fun h => (by rw [hnj] at h; cases h),next r S S1' hc hs.2⟩
          | call c as => rw [hoo] at hkd; cases hkd
          | panic x => rw [hoo] at hkd; cases hkd
        · obtain ⟨_,hd2,q',b,m2,y2,hoo⟩ := isC_inv hkd
          unfold stepK at hs ⊢
          rw [hoo] at hs ⊢
          simp only [MK.ev,MK.ob] at hs ⊢
          obtain ⟨_,hs⟩ := hs
          cases hev : insCEv q' b S1 (m2.ev F) (y2.ev F) with
          | none => rw [hev] at hs; exact hs.elim
          | some S2 =>
            rw [hev] at hs
            obtain ⟨T,t1,t2⟩ := insC_comm hc hev
            rw [t1]
            exact ⟨trivial,fun h => (by rw [hnj] at h; cases h),next _ T S2 t2 hs.2⟩
      · exact .inr ⟨hw,fun h => (by rw [hnj] at h; cases h),next _ S S1 hc hs.2⟩
end any2
inductive MPl where
  | done
  | one (o : MOp) (lo nd : Bool) (r : MPl)
  | two (o1 : MOp) (n1 : Bool) (r1 : MPl) (o2 : MOp) (n2 : Bool) (r2 : MPl)
def MPl.ops : MPl → List MOp
  | .done => []
  | .one o _ _ r => o :: r.ops
  | .two o1 _ r1 o2 _ r2 => o1 :: o2 :: (r1.ops ++ r2.ops)
def MPl.nds : MPl → List Nat
  | .done => []
  | .one o _ nd r => (if nd then [o.ix] else []) ++ r.nds
  | .two o1 n1 r1 o2 n2 r2 => (if n1 then [o1.ix] else []) ++ ((if n2 then [o2.ix] else []) ++ (r1.nds ++ r2.nds))
def Shel (Ls : List Nat) (o : MOp) (F : Fr) : Prop :=
  match o.op with
  | .k (.load _ _ p) => match p.ev F with
    | .ptr l _ => l ∈ Ls
    | _ => True
  | _ => True
def InvS (S0 : St) (Ls : List Nat) (S : St) : Prop := S.gl = S0.gl ∧ ∀ l ∈ Ls,S.get l = S0.get l
def plK (P : Program) (K : Option AV → Fr → St → Prop) (S0 : St) (Ls : List Nat) : MPl → Fr → St → Prop
  | .done,F,S => K none F S
  | .one o lo nd r,F,S => guardK o (fun F S => (lo = true → Shel Ls o F ∧ InvS S0 Ls S) ∧ stepK P o K (fun F' S' => (nd = true → InvS S0 Ls S') ∧ plK P K S0 Ls r F' S') F S) (fun F' S' => (nd = true → InvS S0 Ls S') ∧ plK P K S0 Ls r F' S') F S
  | .two o1 n1 r1 o2 n2 r2,F,S =>
    guardK o1 (stepK P o1 K fun F' S' => (n1 = true → InvS S0 Ls S') ∧ plK P K S0 Ls r1 F' S') (fun F' S' => (n1 = true → InvS S0 Ls S') ∧ plK P K S0 Ls r1 F' S') F S ∧
    guardK o2 (stepK P o2 K fun F' S' => (n2 = true → InvS S0 Ls S') ∧ plK P K S0 Ls r2 F' S') (fun F' S' => (n2 = true → InvS S0 Ls S') ∧ plK P K S0 Ls r2 F' S') F S
def planChk (ops : Array Oper) (all : List MOp) (nds : List Nat) : Array Bool → MPl → Bool
  | li,.done => (Region.ready .any ops li).isEmpty
  | li,.one o lo nd r => ((o.isC && ((Region.ready .any ops li).contains o.ix && !nds.contains o.ix &&
        all.all (fun oj => oj.ix == o.ix || li.getD oj.ix true || edge ops oj.ix o.ix || (o.apart oj && (oj.op.kd == 0 || oj.isC) && !nds.contains oj.ix)))) ||
      if o.op.kd == 2 then decide (Region.ready .any ops li = [o.ix]) && (nd || !nds.contains o.ix)
      else (Region.ready .any ops li).contains o.ix && !nds.contains o.ix &&
        all.all (fun oj => oj.ix == o.ix || li.getD oj.ix true || edge ops oj.ix o.ix || o.apart oj) &&
        (o.op.kd == 0 || all.all (fun oj => oj.ix == o.ix || li.getD oj.ix true || oj.op.kd != 2 || edge ops oj.ix o.ix || (lo && nds.contains oj.ix)))) &&
      planChk ops all nds (li.setIfInBounds o.ix true) r
  | li,.two o1 n1 r1 o2 n2 r2 => decide (Region.ready .any ops li = [o1.ix,o2.ix]) && (n1 || !nds.contains o1.ix) && (n2 || !nds.contains o2.ix) &&
      planChk ops all nds (li.setIfInBounds o1.ix true) r1 && planChk ops all nds (li.setIfInBounds o2.ix true) r2
def MPl.depth : MPl → Nat
  | .done => 0
  | .one _ _ _ r => r.depth + 1
  | .two _ _ r1 _ _ r2 => Nat.max r1.depth r2.depth + 1
theorem shel_congr {Ls : List Nat} {o : MOp} {F F' : Fr} (e : FEq F F') (h : Shel Ls o F) : Shel Ls o F' := by
  unfold Shel at *
  split
  · rename_i n ag p ho
    rw [ho] at h
    simp only at h
    rw [← Opd.congr (x := p) (F := F) fun t _ => e.get t]
    exact h
  · trivial
section plan
variable {P : Program} {K : Option AV → Fr → St → Prop} {S0 : St} {Ls : List Nat}
theorem plK_rsp (hK : ∀ o,Rsp (K o)) : ∀ pl,Rsp (plK P K S0 Ls pl)
  | .done => fun F F' S e h => hK _ _ _ _ e h
  | .one o lo nd r => fun F F' S e h => by
    have hn : Rsp fun F' S' => (nd = true → InvS S0 Ls S') ∧ plK P K S0 Ls r F' S' := fun F F' S e h => ⟨h.1,plK_rsp hK r _ _ _ e h.2⟩
    have hs : Rsp fun F S => (lo = true → Shel Ls o F ∧ InvS S0 Ls S) ∧ stepK P o K (fun F' S' => (nd = true → InvS S0 Ls S') ∧ plK P K S0 Ls r F' S') F S := fun F F' S e h =>
      ⟨fun hl => ⟨shel_congr e (h.1 hl).1,(h.1 hl).2⟩,step_rsp (fun v => hK _) hn _ _ _ e h.2⟩
    have h1 := mop_to (K := K) (P := P) hs hn h
    rw [want_congr (F' := F') fun t _ => e.get t] at h1
    exact guard_of hs hn (h1.imp (fun h => ⟨h.1,hs _ _ _ e h.2⟩) fun h => ⟨h.1,hn _ _ _ (e.put _ _) h.2⟩)
  | .two o1 n1 r1 o2 n2 r2 => fun F F' S e h => by
    have key : ∀ (o : MOp) (nd : Bool) (r : MPl),Rsp (plK P K S0 Ls r) → guardK o (stepK P o K fun F' S' => (nd = true → InvS S0 Ls S') ∧ plK P K S0 Ls r F' S') (fun F' S' => (nd = true → InvS S0 Ls S') ∧ plK P K S0 Ls r F' S') F S →
        guardK o (stepK P o K fun F' S' => (nd = true → InvS S0 Ls S') ∧ plK P K S0 Ls r F' S') (fun F' S' => (nd = true → InvS S0 Ls S') ∧ plK P K S0 Ls r F' S') F' S := by
      intro o nd r hr h
      have hn : Rsp fun F' S' => (nd = true → InvS S0 Ls S') ∧ plK P K S0 Ls r F' S' := fun F F' S e h => ⟨h.1,hr _ _ _ e h.2⟩
      have hs := step_rsp (P := P) (o := o) (fun v => hK (some v)) hn
      have h1 := mop_to (K := K) (P := P) hs hn h
      rw [want_congr (F' := F') fun t _ => e.get t] at h1
      exact guard_of hs hn (h1.imp (fun h => ⟨h.1,hs _ _ _ e h.2⟩) fun h => ⟨h.1,hn _ _ _ (e.put _ _) h.2⟩)
    exact ⟨key o1 n1 r1 (plK_rsp hK r1) h.1,key o2 n2 r2 (plK_rsp hK r2) h.2⟩
theorem load_there {m : MK} {F : Fr} {S S1 : St} {v : AV} (hk : m.kd ≠ 2) (hk0 : m.kd ≠ 0) (h : m.ev F S = some (v,S1)) : S1 = S ∧ (∃ n ag p,m = .load n ag p) ∧ ∀ S',(∀ n ag p,m = .load n ag p → (p.ev F).there S' = (p.ev F).there S) → m.ev F S' = some (v,S') := by
  cases m <;> simp only [MK.kd] at hk hk0 <;> first
    | exact absurd rfl hk
    | exact absurd rfl hk0
    | skip
  rename_i n ag p
  simp only [MK.ev,Option.bind_eq_some_iff,Option.map_eq_some_iff,Prod.mk.injEq] at h
  obtain ⟨cs,h1,x,h2,rfl,rfl⟩ := h
  refine ⟨rfl,⟨n,ag,p,rfl⟩,fun S' hs => ?_⟩
  simp only [MK.ev,hs n ag p rfl,h1,Option.bind_some,h2,Option.map_some]
theorem there_inv {o : MOp} {n : Nat} {ag : Bool} {p : Opd} (ho : o.op = .k (.load n ag p)) {F : Fr} {S S' : St} (hs : Shel Ls o F) (h : InvS S0 Ls S) (h' : InvS S0 Ls S') : (p.ev F).there S' = (p.ev F).there S := by
  unfold Shel at hs
  rw [ho] at hs
  simp only at hs
  generalize p.ev F = x at hs ⊢
  cases x with
  | ptr l o => simp only at hs; simp only [AV.there]; rw [h.2 l hs,h'.2 l hs]
  | gp g o => simp only [AV.there]; rw [h.1,h'.1]
  | _ => rfl
theorem plan_any {ops : Array Oper} {all : List MOp} {nds : List Nat} (hK : ∀ o,Rsp (K o)) (hKp : ∀ o ∈ all,∀ v x F S,K (some x) (putF o.dst v F) S → K (some x) F S) :
    ∀ (pl : MPl) (li : Array Bool) (F : Fr) (S : St) (f : Nat),pl.depth ≤ f → (∀ o ∈ pl.ops,o ∈ all) → planChk ops all nds li pl = true → plK P K S0 Ls pl F S → mAny P ops all K (InvS S0 Ls) nds f li F S
  | .done,li,F,S,f,_,_,hc,h => by
    have hr : Region.ready .any ops li = [] := by simpa [planChk] using hc
    cases f with
    | zero => exact ⟨hr,h⟩
    | succ f => exact ⟨fun _ => h,by rw [hr]; simp⟩
  | .one o lo nd r,li,F,S,0,hd,_,_,_ => absurd hd (by simp [MPl.depth])
  | .one o lo nd r,li,F,S,f + 1,hd,hall,hc,h => by
    have hd' : r.depth ≤ f := by simp [MPl.depth] at hd; exact hd
    have ho : o ∈ all := hall o (by simp [MPl.ops])
    have hall' : ∀ o ∈ r.ops,o ∈ all := fun o ho => hall o (by simp [MPl.ops,ho])
    simp only [planChk,Bool.and_eq_true] at hc
    obtain ⟨hc1,hc2⟩ := hc
    have ih := fun F S => plan_any hK hKp r (li.setIfInBounds o.ix true) F S f hd' hall' hc2
    have hn : Rsp fun F' S' => (nd = true → InvS S0 Ls S') ∧ plK P K S0 Ls r F' S' := fun F F' S e h => ⟨h.1,plK_rsp hK r _ _ _ e h.2⟩
    have hs : Rsp fun F S => (lo = true → Shel Ls o F ∧ InvS S0 Ls S) ∧ stepK P o K (fun F' S' => (nd = true → InvS S0 Ls S') ∧ plK P K S0 Ls r F' S') F S := fun F F' S e h =>
      ⟨fun hl => ⟨shel_congr e (h.1 hl).1,(h.1 hl).2⟩,step_rsp (fun v => hK _) hn _ _ _ e h.2⟩
    have h1 := mop_to (K := K) (P := P) hs hn h
    rw [Bool.or_eq_true] at hc1
    rcases hc1 with hc1 | hc1
    · simp only [Bool.and_eq_true,Bool.not_eq_true',List.all_eq_true,Bool.or_eq_true,beq_iff_eq] at hc1
      obtain ⟨hC,⟨hr,hni⟩,hfree⟩ := hc1
      obtain ⟨hgd,hdst,q,a,m,y,hop⟩ := isC_inv hC
      have hr' : o.ix ∈ Region.ready .any ops li := by simpa using hr
      rcases h1 with ⟨hw,hl,hst⟩ | ⟨hw,_⟩
      · unfold stepK at hst
        rw [hop] at hst
        simp only [MK.ev,MK.ob] at hst
        obtain ⟨_,hst⟩ := hst
        cases hev : insCEv q a S (m.ev F) (y.ev F) with
        | none => rw [hev] at hst; exact hst.elim
        | some S1 =>
          rw [hev] at hst
          simp only [Option.map_some,hdst] at hst
          refine mAny_firstC hK ho rfl hni hop hgd hdst f li F S S1 (fun oj h1 h2 h3 h4 => ?_) hr' hev (ih _ _ hst.2)
          rcases hfree oj h1 with ((h | h) | h) | h
          · exact absurd h h2
          · rw [h3] at h; cases h
          · rw [h4] at h; cases h
          · exact ⟨h.1.1,h.1.2,h.2⟩
      · simp [MOp.want,hgd] at hw
    by_cases hk : o.op.kd = 2
    · simp only [hk,beq_self_eq_true,if_true,Bool.and_eq_true,Bool.or_eq_true,decide_eq_true_eq,Bool.not_eq_true'] at hc1
      obtain ⟨hr,hnd⟩ := hc1
      refine ⟨fun h0 => (by rw [hr] at h0; cases h0),fun i hi => ?_⟩
      rw [hr] at hi
      obtain rfl := List.mem_singleton.1 hi
      have hnx : Rsp fun F' S' => (nds.contains o.ix = true → InvS S0 Ls S') ∧ mAny P ops all K (InvS S0 Ls) nds f (li.setIfInBounds o.ix true) F' S' := fun F F' S e h => ⟨h.1,mAny_rsp hK _ _ _ _ _ e h.2⟩
      have hx : ∀ F' S',((nd = true → InvS S0 Ls S') ∧ plK P K S0 Ls r F' S') → (nds.contains o.ix = true → InvS S0 Ls S') ∧ mAny P ops all K (InvS S0 Ls) nds f (li.setIfInBounds o.ix true) F' S' := fun F' S' h =>
        ⟨fun e => h.1 (hnd.resolve_right (by rw [e]; simp)),ih _ _ h.2⟩
      exact ⟨o,ho,rfl,mop_of (fun v => hK _) hnx (h1.imp (fun h => ⟨h.1,step_congr (fun _ _ => rfl) (fun _ _ x => x) (fun r S' _ h => hx _ _ h) h.2.2⟩) fun h => ⟨h.1,hx _ _ h.2⟩)⟩
    · have hkb : (o.op.kd == 2) = false := by simpa using hk
      simp only [hkb,Bool.false_eq_true,if_false,Bool.and_eq_true,Bool.not_eq_true',List.all_eq_true,Bool.or_eq_true,beq_iff_eq,bne_iff_ne] at hc1
      obtain ⟨⟨⟨hr,hni⟩,hfree⟩,hlo⟩ := hc1
      have hr' : o.ix ∈ Region.ready .any ops li := by simpa using hr
      have hfree' : ∀ oj ∈ all,oj.ix ≠ o.ix → li.getD oj.ix true = false → edge ops oj.ix o.ix = false → o.apart oj = true := fun oj h1 h2 h3 h4 => by
        rcases hfree oj h1 with ((h | h) | h) | h
        · exact absurd h h2
        · rw [h3] at h; cases h
        · rw [h4] at h; cases h
        · exact h
      rcases h1 with ⟨hw,hl,hst⟩ | ⟨hw,hnx⟩
      · cases hop : o.op with
        | k m =>
          unfold stepK at hst
          rw [hop] at hst hk
          simp only at hst
          simp only [MX.kd] at hk
          obtain ⟨hob,hst⟩ := hst
          cases hev : m.ev F S with
          | none => rw [hev] at hst; exact hst.elim
          | some rs =>
            obtain ⟨v,S1⟩ := rs
            rw [hev] at hst
            by_cases hk0 : m.kd = 0
            · obtain ⟨rfl,hp⟩ := MK.pure hk0 hev
              exact mAny_first hK (v := v) (Cl := fun _ => True) ho rfl hni (hKp o ho v) f li F S1 (fun _ _ _ _ _ _ => .inl fun _ => trivial) hfree' hr'
                (.inl ⟨hw,m,hop,fun S' _ => ⟨by rw [(hp S').2]; exact hob,(hp S').1⟩⟩) trivial (ih _ _ hst.2)
            · obtain ⟨rfl,⟨n,ag,p,hm⟩,hth⟩ := load_there hk hk0 hev
              have hlo' := hlo.resolve_left (by rw [hop]; exact hk0)
              cases hlb : lo with
              | true =>
                obtain ⟨hsh,hin⟩ := hl hlb
                refine mAny_first hK (v := v) (Cl := InvS S0 Ls) ho rfl hni (hKp o ho v) f li F S1 (fun oj h1 h2 hun h3 h4 => .inr ⟨?_,fun _ h => h⟩) hfree' hr' (.inl ⟨hw,m,hop,fun S' hS' => ⟨?_,?_⟩⟩) hin (ih _ _ hst.2)
                · rcases hlo' oj h1 with (((h | h) | h) | h) | h
                  · exact absurd h h2
                  · rw [hun] at h; cases h
                  · exact absurd h3 h
                  · rw [h4] at h; cases h
                  · exact h.2
                · subst hm; trivial
                · refine hth S' fun n' ag' p' e => ?_
                  exact there_inv (hop.trans (by rw [e])) hsh hin hS'
              | false =>
                refine mAny_first hK (v := v) (Cl := fun S => S = S1) ho rfl hni (hKp o ho v) f li F S1 (fun oj h1 h2 hun h3 h4 => ?_) hfree' hr' (.inl ⟨hw,m,hop,fun S' hS' => ⟨?_,?_⟩⟩) rfl (ih _ _ hst.2)
                · rcases hlo' oj h1 with (((h | h) | h) | h) | h
                  · exact absurd h h2
                  · rw [hun] at h; cases h
                  · exact absurd h3 h
                  · rw [h4] at h; cases h
                  · rw [hlb] at h; cases h.1
                · subst hm; trivial
                · subst hS'; exact hev
        | call c as => exact absurd (by rw [hop]; rfl) hk
        | panic x => exact absurd (by rw [hop]; rfl) hk
      · exact mAny_first hK (v := .tup []) (Cl := fun _ => True) ho rfl hni (hKp o ho _) f li F S (fun _ _ _ _ _ _ => .inl fun _ => trivial) hfree' hr' (.inr ⟨hw,rfl⟩) trivial (ih _ _ hnx.2)
  | .two o1 n1 r1 o2 n2 r2,li,F,S,0,hd,_,_,_ => absurd hd (by simp [MPl.depth])
  | .two o1 n1 r1 o2 n2 r2,li,F,S,f + 1,hd,hall,hc,h => by
    have hd' : r1.depth ≤ f ∧ r2.depth ≤ f := by simp [MPl.depth] at hd; exact Nat.max_le.1 hd
    simp only [planChk,Bool.and_eq_true,decide_eq_true_eq,Bool.or_eq_true,Bool.not_eq_true'] at hc
    obtain ⟨⟨⟨⟨hr,hn1⟩,hn2⟩,hc1⟩,hc2⟩ := hc
    have key : ∀ (o : MOp) (nd : Bool) (r : MPl),o ∈ all → (nd = true ∨ nds.contains o.ix = false) → (∀ F S,plK P K S0 Ls r F S → mAny P ops all K (InvS S0 Ls) nds f (li.setIfInBounds o.ix true) F S) →
        guardK o (stepK P o K fun F' S' => (nd = true → InvS S0 Ls S') ∧ plK P K S0 Ls r F' S') (fun F' S' => (nd = true → InvS S0 Ls S') ∧ plK P K S0 Ls r F' S') F S →
        ∃ o' ∈ all,o'.ix = o.ix ∧ mop P o' K (fun F' S' => (nds.contains o.ix = true → InvS S0 Ls S') ∧ mAny P ops all K (InvS S0 Ls) nds f (li.setIfInBounds o.ix true) F' S') F S := by
      intro o nd r ho hnd ih h
      exact ⟨o,ho,rfl,mop_mono (fun F' S' h => ⟨fun e => h.1 (hnd.resolve_right (by rw [e]; simp)),ih _ _ h.2⟩) h⟩
    refine ⟨fun h0 => (by rw [hr] at h0; cases h0),fun i hi => ?_⟩
    rw [hr] at hi
    rcases List.mem_cons.1 hi with rfl | hi
    · exact key o1 n1 r1 (hall _ (by simp [MPl.ops])) hn1 (fun F S => plan_any hK hKp r1 _ F S f hd'.1 (fun o ho => hall o (by simp [MPl.ops,ho])) hc1) h.1
    · obtain rfl := List.mem_singleton.1 hi
      exact key o2 n2 r2 (hall _ (by simp [MPl.ops])) hn2 (fun F S => plan_any hK hKp r2 _ F S f hd'.2 (fun o ho => hall o (by simp [MPl.ops,ho])) hc2) h.2
theorem any_sound {wb : Base} {n : Nat} {ro : Option Nat} {G0 : Gh} {D : Dfs} {ops : Array Oper} {all : List MOp} {Inv : St → Prop} {nds : List Nat} (hfit : ∀ m ∈ all,m.fits P n ops = true) :
    ∀ (f : Nat) (li : Array Bool) {G : Gh} {S : St} {F : Fr} {w : World} {a : Act},G0.le G → Rel wb n G S F D w a → mAny P ops all K Inv nds f li F S → wpAnyIn (wideR ro) 0 P .any ops (QK wb n G0 D K) f li a w
  | 0,li,G,S,F,w,a,hle,hR,h => ⟨h.1,G,F,S,hle,hR,h.2⟩
  | f + 1,li,G,S,F,w,a,hle,hR,h => by
    refine ⟨fun h0 => ⟨G,F,S,hle,hR,h.1 h0⟩,fun i hi => ?_⟩
    obtain ⟨m,hm,rfl,hmop⟩ := h.2 i hi
    have hm := hfit m hm
    unfold MOp.fits at hm
    unfold wpOpIn
    cases ho : ops[m.ix]? with
    | none => rw [ho] at hm; cases hm
    | some o =>
      rw [ho] at hm
      simp only [Bool.and_eq_true,decide_eq_true_eq] at hm
      obtain ⟨⟨⟨h1,h2⟩,h3⟩,h4⟩ := hm
      simp only
      rcases guard_cases h4 hR hmop with ⟨hw,F',hR',hs⟩ | ⟨hw,F',hR',hs⟩
      · simp only [hw,if_true]
        exact oper_stepK h1 h2 h3 hle hR' hs fun G' S' F' a' w' hle' hR'' hn => any_sound (ro := ro) hfit f _ hle' hR'' hn.2
      · simp only [hw,Bool.false_eq_true,if_false]
        refine ⟨fun _ _ => trivial,any_sound hfit f _ hle ?_ hs.2⟩
        rw [h2]
        exact hR'.put h3 (.tup (vs := []) rfl (by simp))
end plan
end Go.V
