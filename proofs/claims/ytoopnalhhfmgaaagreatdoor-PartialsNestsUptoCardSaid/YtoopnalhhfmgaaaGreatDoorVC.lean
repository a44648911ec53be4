/- The by-value layer, part thirteen and a half: statements whose operations may come in more than one order. Over any program. -/
import Derived.Test.YtoopnalhhfmgaaaGreatDoorVB
import Derived.Orders
import Derived.Scope
import Derived.Recover
import Derived.Sort.Grow
import Derived.Deep.Draws
set_option linter.defProp false
set_option linter.unusedSimpArgs false
set_option linter.unusedVariables false
namespace Go.V
open Go
def aj.rd:aj->List Nat
 | .t n| .vb n _=>[n]
 |_=>[]
def uv:Option aj->List Nat
 |some x=>x.rd
 |none=>[]
def MK.rd:MK->List Nat
 | .oL x| .box x| .xN x| .un _ x| .conv _ x| .MY x| .DX x| .qK _ x| .Ha _ _ _ x| .cI _ x| .ext x _| .len _ x| .HJ x| .oJ _ _ x| .CG _ _ x=>x.rd
 | .pick c a b=>c.rd++(a.rd++b.rd)
 | .alloc _| .lO| .bad| .Fp ..=>[]
 | .tas _ _ x| .nn _ _ x| .Ef _ _ x| .IE _ x=>x.rd
 | .sk _ _ x y| .qB _ _ x y| .qA _ _ x y| .sj _ _ x y| .sr _ _ _ x y| .GO _ x y=>x.rd++y.rd
 | .build _ ps=>ps.flatMap fun p=>p.2.2.rd
 | .rj _ _ xs| .vV _ _ xs=>xs.flatMap aj.rd
 | .load _ _ p=>p.rd
 | .store _ p x=>p.rd++x.rd
 | .bin _ x y| .eqv _ _ x y| .min x y| .max x y| .qR _ x y| .mI _ _ x y| .sH x y| .vI _ _ _ x y| .app _ _ x y| .cmp _ _ x y=>x.rd++y.rd
 | .yq x lo hi=>x.rd++(uv lo++uv hi)
 | .yr _ x lo hi mx| .FX _ x lo hi mx=>x.rd++(uv lo++(uv hi++uv mx))
 | .func _ fi ca=>fi.flatMap aj.rd++ca.flatMap aj.rd
 | .mkMap=>[]
 | .zI _ x| .uK _ x| .uL x| .Ie _ x=>x.rd
 | .ins _ m x y=>m.rd++(x.rd++y.rd)
 | .look _ _ _ m x| .o9 _ _ m x=>m.rd++x.rd
def MK.kd:MK->Nat
 | .load ..=>1
 | .alloc _| .box _| .store ..| .app ..| .oJ ..| .CG ..| .lO| .sk ..| .qB ..| .qA ..| .vV ..| .sj ..| .sr ..| .GO ..| .Ef ..| .mkMap| .ins ..| .look ..| .o9 ..| .zI ..| .uK ..| .uL _| .Ie ..=>2
 |_=>0
def MX.rd:MX->List Nat
 | .k m=>m.rd
 | .call c as=>c.rd++as.flatMap aj.rd
 | .panic x=>x.rd
 | .it m=>m.x.rd
def MX.kd:MX->Nat
 | .k m=>m.kd
 |_=>2
def aV.sY (o:aV):List Nat:=o.op.rd++(match o.gd with
 |some (t,_)=>[t]
 |none=>[])
section congr
variable {F F':Fr} {S:St}
def aj.congr {x:aj} (h:∀ t∈x.rd,F.get t=F'.get t):x.ev F=x.ev F':=by
 cases x<;>first
  |rfl
  |exact h _ (by simp [aj.rd])
  |(simp only [aj.ev];rw [h _ (by simp [aj.rd])])
def iW {x:Option aj} (h:∀ t∈uv x,F.get t=F'.get t):x.map (aj.ev F)=x.map (aj.ev F'):=by
 cases x with
 |none=>rfl
 |some x=>simp only [Option.map_some];rw [aj.congr (x:=x) h]
def j6:∀ {xs:List aj},(∀ t∈xs.flatMap aj.rd,F.get t=F'.get t)->xs.map (aj.ev F)=xs.map (aj.ev F')
 |[],_=>rfl
 |x::xs,h=>by
  simp only [Cw,AA] at h;rw [List.map_cons,List.map_cons,aj.congr (x:=x) fun t ht=>h t (.inl ht),j6 fun t ht=>h t (.inr ht)]
def xV:∀ {ps:List (Nat×Nat×aj)} {cs:List AV},(∀ t∈ps.flatMap (fun p=>p.2.2.rd),F.get t=F'.get t)->dp F cs ps=dp F' cs ps
 |[],_,_=>rfl
 |(o,n,x)::ps,cs,h=>by
  simp only [Cw,AA] at h;have h1:x.ev F=x.ev F':=aj.congr fun t ht=>h t (.inl ht);simp only [dp,h1];split
  ·exact xV fun t ht=>h t (.inr ht)
  ·rfl
def MK.congr {m:MK} (h:∀ t∈m.rd,F.get t=F'.get t):m.ev F S=m.ev F' S/\m.ob F S=m.ob F' S:=by
 cases m<;>simp only [MK.rd,AA] at h
 case alloc=>exact ⟨rfl,rfl⟩
 case lO=>exact ⟨rfl,rfl⟩
 case bad=>exact ⟨rfl,rfl⟩
 case mkMap=>exact ⟨rfl,rfl⟩
 case Fp=>exact ⟨rfl,rfl⟩
 case ins=>
  have h1:=aj.congr fun t ht=>h t (.inl ht);have h2:=aj.congr fun t ht=>h t (.inr (.inl ht));have h3:=aj.congr fun t ht=>h t (.inr (.inr ht));simp only [MK.ev,MK.ob,h1,h2,h3];exact ⟨trivial,trivial⟩
 case build=>simp only [MK.ev,MK.ob,xV h];exact ⟨trivial,trivial⟩
 case rj=>simp only [MK.ev,MK.ob,j6 h];exact ⟨trivial,trivial⟩
 case vV=>simp only [MK.ev,MK.ob,j6 h];exact ⟨trivial,trivial⟩
 case pick=>
  have h1:=aj.congr fun t ht=>h t (.inl ht);have h2:=aj.congr fun t ht=>h t (.inr (.inl ht));have h3:=aj.congr fun t ht=>h t (.inr (.inr ht));simp only [MK.ev,MK.ob,h1,h2,h3];exact ⟨trivial,trivial⟩
 case yq=>
  have h1:=aj.congr fun t ht=>h t (.inl ht);have h2:=iW fun t ht=>h t (.inr (.inl ht));have h3:=iW fun t ht=>h t (.inr (.inr ht));simp only [MK.ev,MK.ob,h1,h2,h3];exact ⟨trivial,trivial⟩
 case yr=>
  have h1:=aj.congr fun t ht=>h t (.inl ht);have h2:=iW fun t ht=>h t (.inr (.inl ht));have h3:=iW fun t ht=>h t (.inr (.inr (.inl ht)));have h4:=iW fun t ht=>h t (.inr (.inr (.inr ht)));simp only [MK.ev,MK.ob,h1,h2,h3,h4];exact ⟨trivial,trivial⟩
 case FX=>
  have h1:=aj.congr fun t ht=>h t (.inl ht);have h2:=iW fun t ht=>h t (.inr (.inl ht));have h3:=iW fun t ht=>h t (.inr (.inr (.inl ht)));have h4:=iW fun t ht=>h t (.inr (.inr (.inr ht)));simp only [MK.ev,MK.ob,h1,h2,h3,h4];exact ⟨trivial,trivial⟩
 case func=>
  have h1:=j6 fun t ht=>h t (.inl ht);have h2:=j6 fun t ht=>h t (.inr ht);simp only [MK.ev,MK.ob,h1,h2];exact ⟨trivial,trivial⟩
 all_goals first
  |(have h1:=aj.congr h
    simp only [MK.ev,MK.ob,h1]
    exact ⟨trivial,trivial⟩)
  |(have h1:=aj.congr fun t ht=>h t (.inl ht)
    have h2:=aj.congr fun t ht=>h t (.inr ht);simp only [MK.ev,MK.ob,h1,h2]
    exact ⟨trivial,trivial⟩)
end congr
def MK.pure {m : MK} {F : Fr} {S S1 : St} {v : AV} (hk : m.kd = 0) (h : m.ev F S = some (v,S1)) : S1 = S /\ ∀ S',m.ev F S' = some (v,S') /\ m.ob F S' = m.ob F S := by
  cases m <;> simp only [MK.kd] at hk <;> first
    | (cases hk; done)
    | skip
  case DX x =>
    simp only [MK.ev,MK.ob] at h ⊢;generalize x.ev F = y at h;split at h
    · split at h
      · simp only [Ag,Ac] at h
        obtain ⟨a,h1,rfl,rfl⟩ := h;refine ⟨rfl,fun S' => ⟨?_,trivial⟩⟩
        simp_all
      · cases h
    · cases h
  case len s x =>
    simp only [MK.ev,MK.ob] at h ⊢;split at h
    · simp only [Ag,Ac] at h
      obtain ⟨a,h1,rfl,rfl⟩ := h;refine ⟨rfl,fun S' => ⟨?_,trivial⟩⟩
      simp_all
    · cases h
  all_goals
    (simp only [MK.ev,MK.ob] at h ⊢
     first
       | (simp only [Ag,Ac] at h
          obtain ⟨a,h1,rfl,rfl⟩ := h;refine ⟨rfl,fun S' => ⟨?_,trivial⟩⟩;rw [h1]
          rfl)
       | (split at h <;> simp_all <;> done)
       | (split at h
          · (simp only [Ag,Ac] at h
             obtain ⟨a,h1,rfl,rfl⟩ := h;refine ⟨rfl,fun S' => ⟨?_,trivial⟩⟩;rw [h1]
             rfl)
          · cases h)
       | (split at h
          · split at h
            · (simp only [Ag,Ac] at h
               obtain ⟨a,h1,rfl,rfl⟩ := h;refine ⟨rfl,fun S' => ⟨?_,trivial⟩⟩;rw [h1]
               rfl)
            · cases h
          · cases h)
       | (simp_all; done))
def im (F F':Fr):Prop:=∀ t,F.lookup t=F'.lookup t
def im.symm {F F':Fr} (h:im F F'):im F' F:=fun t=>(h t).symm
def im.get {F F':Fr} (h:im F F') (t:Nat):F.get t=F'.get t:=by unfold Fr.get;rw [h t]
def jf (d:Option Nat) (v:AV) (F:Fr) (t:Nat):(aS d v F).lookup t=if d=some t then some v else F.lookup t:=by
 cases d with
 |none=>simp [aS]
 |some d=>
  simp only [aS,List.lookup_cons,Ae]
  by_cases h:t=d
  ·subst h;simp
  ·have:(t==d)=false:=by simpa using h
   simp [this,AT h]
def im.put {F F':Fr} (h:im F F') (d:Option Nat) (v:AV):im (aS d v F) (aS d v F'):=fun t=>by rw [jf,jf,h t]
def im.swap (F:Fr) {d e:Option Nat} (u v:AV) (h:∀ x,d=some x->e≠some x):im (aS d u (aS e v F)) (aS e v (aS d u F)):=fun t=>by
 simp only [jf]
 by_cases h1:d=some t
 ·simp [h1,h t h1]
 ·simp [h1]
def ud {d:Option Nat} {v:AV} {F:Fr} {t:Nat} (h:d≠some t):(aS d v F).get t=F.get t:=by unfold Fr.get;rw [jf,if_neg h]
def IV {F:Fr} {t:Nat} {b:AV} (h:F.get t=b) (hb:b≠ .de):F.lookup t=some b:=by
 unfold Fr.get at h
 cases e:F.lookup t with
 |none=>rw [e] at h;exact absurd h.symm hb
 |some y=>rw [e] at h;exact congrArg some h
def im.known {F:Fr} {t:Nat} {b:AV} (h:F.get t=b) (hb:b≠ .de):im F ((t,b)::F):=fun u=>by
 have:=jf (some t) b F u;simp only [aS] at this;rw [this]
 by_cases hu:t=u
 ·subst hu;simp [IV h hb]
 ·simp [hu]
def eQ (nx:Fr->St->Prop):Prop:=∀ F F' S,im F F'->nx F S->nx F' S
def oK (P:Program) (o:aV) (K:Option AV->Fr->St->Prop) (nx:Fr->St->Prop) (F:Fr) (S:St):Prop:=bC o (bj P o K nx) nx F S
def aV.want (o:aV) (F:Fr):Option Bool:=
 match o.gd with
 |none=>some true
 |some (t,b)=>match F.get t with
  | .bool c=>some (c==b)
  | .aF []=>some false
  |_=>none
def mP {P:Program} {o:aV} {K:Option AV->Fr->St->Prop} {nx nx':Fr->St->Prop} {F F':Fr} {S:St} (hr:∀ t∈o.op.rd,F.get t=F'.get t)
  (hK:∀ v S,K (some v) F S->K (some v) F' S) (hn:∀ r S',(o.op.kd≠2->S'=S)->nx (aS o.dst r F) S'->nx' (aS o.dst r F') S') (h:bj P o K nx F S):bj P o K nx' F' S:=by
 obtain ⟨ix,dst,gd,op⟩:=o
 cases op with
 |k m=>
  obtain ⟨h1,h2⟩:=MK.congr (S:=S) (m:=m) hr;simp only [bj] at h ⊢;rw [<-h1,<-h2];refine ⟨h.1,?_⟩;have h3:=h.2
  cases he:m.ev F S with
  |none=>rw [he] at h3;exact h3.elim
  |some rs=>
   obtain ⟨r,S1⟩:=rs;rw [he] at h3;refine hn r S1 (fun hk=>?_) h3;simp only [MX.kd] at hk
   cases hm:m.kd with
   |zero=>exact (MK.pure hm he).1
   |succ j=>
    cases m<;>simp only [MK.kd] at hm hk<;>first
     |(cases hm;done)
     |(exact absurd rfl hk)
     |(simp only [MK.ev,Ar,Ag,Ac] at he
       obtain ⟨_,_,_,_,_,e⟩:=he
       exact e.symm)
 |it m=>
  have h1:m.x.ev F=m.x.ev F':=aj.congr hr;simp only [bj] at h ⊢;have h2:=EL (fun v S' h=>hn v S' (fun hk=>absurd rfl hk) h) h;unfold pY at h2 ⊢;rw [<-h1];exact h2
 |panic x=>
  have h1:x.ev F=x.ev F':=aj.congr hr;simp only [bj] at h ⊢;rw [<-h1];split at h
  ·exact hK _ _ h
  ·exact h.elim
 |call c as=>
  simp only [MX.rd,AA] at hr;have h1:c.ev F=c.ev F':=aj.congr fun t ht=>hr t (.inl ht);have h2:as.map (aj.ev F)=as.map (aj.ev F'):=j6 fun t ht=>hr t (.inr ht);simp only [bj] at h ⊢;rw [<-h1,<-h2];split at h
  ·refine h.mono fun out S' ho=>?_
   cases out with
   |ok r=>exact hn r S' (fun hk=>absurd rfl hk) ho
   |eH v=>exact hK _ _ ho
  ·refine h.mono fun out S' ho=>?_
   cases out with
   |ok r=>exact hn r S' (fun hk=>absurd rfl hk) ho
   |eH v=>exact hK _ _ ho
  ·exact h.elim
def nQ {P:Program} {o:aV} {K:Option AV->Fr->St->Prop} {nx:Fr->St->Prop} {stp:Fr->St->Prop} (hst:eQ stp) (hnr:eQ nx) {F:Fr} {S:St} (h:bC o stp nx F S):
  (o.want F=some true/\stp F S)∨(o.want F=some false/\nx (aS o.dst (.aF []) F) S):=by
 unfold bC at h;unfold aV.want
 cases hg:o.gd with
 |none=>rw [hg] at h;exact .inl ⟨rfl,h⟩
 |some p=>
  obtain ⟨t,want⟩:=p;rw [hg] at h;simp only at h ⊢;split at h
  ·rename_i c hc
   by_cases e:c=want
   ·exact .inl ⟨by simp [hc,e],hst _ _ _ (im.known (e▸hc) (by intro x;cases x)).symm (h.1 e)⟩
   ·have e':c= !want:=by cases c<;>cases want<;>simp_all
    refine .inr ⟨by simp only [hc];rw [e'];cases want<;>rfl,hnr _ _ _ (((im.known (e'▸hc) (by intro x;cases x)).put _ _).symm) (h.2 e')⟩
  ·rename_i hc;exact .inr ⟨by simp [hc],h⟩
  ·exact h.elim
def guard_of {o:aV} {stp nx:Fr->St->Prop} (hst:eQ stp) (hnr:eQ nx) {F:Fr} {S:St} (h:(o.want F=some true/\stp F S)∨(o.want F=some false/\nx (aS o.dst (.aF []) F) S)):bC o stp nx F S:=by
 unfold bC;unfold aV.want at h
 cases hg:o.gd with
 |none=>
  rw [hg] at h;rcases h with ⟨_,h⟩|⟨h,_⟩
  ·exact h
  ·cases h
 |some p=>
  obtain ⟨t,want⟩:=p;rw [hg] at h;simp only at h ⊢;split at h
  ·rename_i c hc;simp only [hc];simp only [Ae] at h;refine ⟨fun e=>?_,fun e=>?_⟩
   ·rcases h with ⟨_,h⟩|⟨h,_⟩
    ·exact hst _ _ _ (im.known (e▸hc) (by intro x;cases x)) h
    ·subst e;simp at h
   ·rcases h with ⟨h,_⟩|⟨_,h⟩
    ·subst e;cases want<;>simp at h
    ·exact hnr _ _ _ ((im.known (e▸hc) (by intro x;cases x)).put _ _) h
  ·rename_i hc;simp only [hc];rcases h with ⟨h,_⟩|⟨_,h⟩
   ·cases h
   ·exact h
  ·rcases h with ⟨h,_⟩|⟨h,_⟩<;>cases h
def ig {P:Program} {o:aV} {K:Option AV->Fr->St->Prop} {nx:Fr->St->Prop} (hKr:∀ v,eQ (K (some v))) (hnr:eQ nx):eQ (bj P o K nx):=fun F F' S e h=>mP (fun t _=>e.get t) (fun v S=>hKr v _ _ S e) (fun r S' _=>hnr _ _ S' (e.put _ _)) h
def qd {P:Program} {o:aV} {K:Option AV->Fr->St->Prop} {nx:Fr->St->Prop} (hKr:∀ v,eQ (K (some v))) (hnr:eQ nx) {F:Fr} {S:St}
  (h:(o.want F=some true/\bj P o K nx F S)∨(o.want F=some false/\nx (aS o.dst (.aF []) F) S)):oK P o K nx F S:=guard_of (ig hKr hnr) hnr h
def jl {o:aV} {F F':Fr} (h:∀ t∈o.sY,F.get t=F'.get t):o.want F=o.want F':=by
 unfold aV.want;unfold aV.sY at h
 cases hg:o.gd with
 |none=>rfl
 |some p=>
  obtain ⟨t,b⟩:=p;rw [hg] at h;simp only;rw [h t (by simp)]
def Yl (o:aV) (v:AV) (Cl:St->Prop) (F:Fr):Prop:=
 (o.want F=some true/\∃ m,o.op= .k m/\∀ S,Cl S->m.ob F S/\m.ev F S=some (v,S))∨(o.want F=some false/\v= .aF [])
def Yl.congr {o:aV} {v:AV} {Cl:St->Prop} {F F':Fr} (hr:∀ t∈o.sY,F.get t=F'.get t) (h:Yl o v Cl F):Yl o v Cl F':=by
 unfold Yl at*;rw [<-jl hr];rcases h with ⟨h1,m,h2,h3⟩|h
 ·refine .inl ⟨h1,m,h2,fun S hS=>?_⟩;obtain ⟨e1,e2⟩:=MK.congr (S:=S) (m:=m) (F:=F) (F':=F') fun t ht=>hr t (by simp [aV.sY,h2,MX.rd,ht]);rw [<-e1,<-e2];exact h3 S hS
 ·exact .inr h
def Yl.oK {P:Program} {o:aV} {K:Option AV->Fr->St->Prop} {nx:Fr->St->Prop} (hKr:∀ v,eQ (K (some v))) (hnr:eQ nx) {v:AV} {Cl:St->Prop} {F:Fr} {S:St} (hy:Yl o v Cl F) (hc:Cl S) (h:nx (aS o.dst v F) S):oK P o K nx F S:=by
 refine qd hKr hnr ?_;rcases hy with ⟨h1,m,h2,h3⟩|⟨h1,rfl⟩
 ·refine .inl ⟨h1,?_⟩;obtain ⟨h4,h5⟩:=h3 S hc;unfold bj;rw [h2];simp only;exact ⟨h4,by rw [h5];exact h⟩
 ·exact .inr ⟨h1,h⟩
def aV.apart (x y:aV):Bool:=
 (match x.dst with
  |some d=> !y.sY.contains d && y.dst !=some d
  |none=>true) &&
 (match y.dst with
  |some d=> !x.sY.contains d
  |none=>true)
def aV.apart_spec {x y:aV} (h:x.apart y=true):(∀ d,x.dst=some d->d ∉ y.sY)/\(∀ d,x.dst=some d->y.dst≠some d)/\(∀ d,y.dst=some d->d ∉ x.sY):=by
 refine ⟨fun d hd=>?_,fun d hd=>?_,fun d hd=>?_⟩<;>simp [aV.apart,hd] at h
 ·exact h.1.1
 ·exact h.1.2
 ·exact h.2
def UB {P:Program} {oi oj:aV} {K:Option AV->Fr->St->Prop} {nx:Fr->St->Prop} (hKr:∀ v,eQ (K (some v))) (hnr:eQ nx) (hap:oi.apart oj=true) {v:AV} {Cl:St->Prop}
  (hKp:∀ x F S,K (some x) (aS oi.dst v F) S->K (some x) F S) {F:Fr} {S:St} (hy:Yl oi v Cl F) (h:oK P oj K nx (aS oi.dst v F) S):
  oK P oj K (fun F' S'=>Yl oi v Cl F'/\nx (aS oi.dst v F') S'/\(oj.op.kd≠2->S'=S)) F S:=by
 obtain ⟨h1,h2,h3⟩:=aV.apart_spec hap;have hr:∀ t∈oj.sY,(aS oi.dst v F).get t=F.get t:=fun t ht=>ud fun e=>h1 t e ht;have hrx:∀ t∈oj.op.rd,(aS oi.dst v F).get t=F.get t:=fun t ht=>hr t (by simp [aV.sY,ht]);have hnr':eQ fun F' S'=>Yl oi v Cl F'/\nx (aS oi.dst v F') S'/\(oj.op.kd≠2->S'=S):=fun F F' S e h=>⟨h.1.congr fun t _=>e.get t,hnr _ _ _ (e.put _ _) h.2.1,h.2.2⟩;have cB:∀ u,Yl oi v Cl (aS oj.dst u F):=fun u=>hy.congr fun t ht=>(ud fun e=>h3 t e ht).symm;refine qd hKr hnr' ?_;have h':=nQ (K:=K) (P:=P) (ig hKr hnr) hnr h;rw [jl hr] at h';rcases h' with ⟨hw,hs⟩|⟨hw,hs⟩
 ·refine .inl ⟨hw,mP hrx (fun x S=>hKp x F S) (fun r S' hk hn=>⟨cB r,hnr _ _ _ (im.swap F r v fun d e e'=>h2 d e' e) hn,hk⟩) hs⟩
 ·exact .inr ⟨hw,cB _,hnr _ _ _ (im.swap F _ v fun d e e'=>h2 d e' e) hs,fun _=>rfl⟩
section any
variable (P:Program) (ops:Array Oper) (all:List aV) (K:Option AV->Fr->St->Prop) (Inv:St->Prop) (nd:List Nat)
def fO:Nat->Array Bool->Fr->St->Prop
 |0,li,F,S=>Region.ready .any ops li=[]/\K none F S
 |f+1,li,F,S=>(Region.ready .any ops li=[]->K none F S)/\
  ∀ i∈Region.ready .any ops li,∃ o∈all,o.ix=i/\oK P o K (fun F' S'=>(nd.contains i=true->Inv S')/\fO f (li.setIfInBounds i true) F' S') F S
def nC (j i:Nat):Bool:=
 match ops[j]? with
 |some o=>o.after.any fun e=>Region.binds .any e && e.on==i
 |none=>false
end any
section any2
variable {P:Program} {ops:Array Oper} {all:List aV} {K:Option AV->Fr->St->Prop} {Inv:St->Prop} {nd:List Nat}
def jN (hK:∀ o,eQ (K o)):∀ f li,eQ (fO P ops all K Inv nd f li)
 |0,li,F,F',S,e,h=>⟨h.1,hK _ _ _ _ e h.2⟩
 |f+1,li,F,F',S,e,h=>⟨fun h0=>hK _ _ _ _ e (h.1 h0),fun i hi=>by
   obtain ⟨o,ho,hix,hm⟩:=h.2 i hi;have hn:eQ fun F' S'=>(nd.contains i=true->Inv S')/\fO P ops all K Inv nd f (li.setIfInBounds i true) F' S':=fun F F' S e h=>⟨h.1,jN hK f _ _ _ _ e h.2⟩;refine ⟨o,ho,hix,qd (fun v=>hK _) hn ?_⟩;have:=nQ (K:=K) (P:=P) (ig (fun v=>hK _) hn) hn hm;rw [jl (F':=F') fun t _=>e.get t] at this;rcases this with ⟨h1,h2⟩|⟨h1,h2⟩
   ·exact .inl ⟨h1,ig (fun v=>hK _) hn _ _ _ e h2⟩
   ·exact .inr ⟨h1,hn _ _ _ (e.put _ _) h2⟩⟩
def vW {o:aV} {K:Option AV->Fr->St->Prop} {nx nx':Fr->St->Prop} (hn:∀ F S,nx F S->nx' F S) {F:Fr} {S:St} (h:oK P o K nx F S):oK P o K nx' F S:=by
 have st:∀ F,bj P o K nx F S->bj P o K nx' F S:=fun F hs=>mP (fun _ _=>rfl) (fun _ _ x=>x) (fun r S' _=>hn _ _) hs;unfold oK bC at*;split at h
 ·exact st _ h
 ·split at h
  ·exact ⟨fun e=>st _ (h.1 e),fun e=>hn _ _ (h.2 e)⟩
  ·exact hn _ _ h
  ·exact h.elim
def rV {j i:Nat} {li:Array Bool} (hj:j∈Region.ready .any ops li) (hi:i∈Region.ready .any ops li):nC ops j i=false:=by
 obtain ⟨hjun,oj,hoj,hall⟩:=mem_ready.1 hj;unfold nC;rw [hoj];simp only
 cases h:(oj.after.any fun e=>Region.binds .any e && e.on==i) with
 |false=>rfl
 |true=>
  obtain ⟨e,he,hb⟩:=Array.any_eq_true'.1 h;simp only [Aa,beq_iff_eq] at hb;have h1:=hall e he hb.1;have h0:=(mem_ready.1 hi).1;rw [hb.2] at h1;rcases Al i li.size with h'|h'
  ·simp [h'] at h0 h1;rw [h0] at h1;cases h1
  ·simp [Bf h'] at h1
def kF (hK:∀ o,eQ (K o)) {i:Nat} {oi:aV} {v:AV} {Cl:St->Prop} (hi:oi∈all) (hix:oi.ix=i) (hni:nd.contains i=false) (hKp:∀ x F S,K (some x) (aS oi.dst v F) S->K (some x) F S)
  :∀ (f:Nat) (li:Array Bool) (F:Fr) (S:St),(∀ oj∈all,oj.ix≠i->li.getD oj.ix true=false->oj.op.kd=2->nC ops oj.ix i=false->(∀ S,Cl S)∨(nd.contains oj.ix=true/\∀ S,Inv S->Cl S))->(∀ oj∈all,oj.ix≠i->li.getD oj.ix true=false->nC ops oj.ix i=false->oi.apart oj=true)->
   i∈Region.ready .any ops li->Yl oi v Cl F->Cl S->fO P ops all K Inv nd f (li.setIfInBounds i true) (aS oi.dst v F) S->fO P ops all K Inv nd (f+1) li F S
 |0,li,F,S,hcl,hfree,hr,hy,hc,H=>by
  refine ⟨fun h=>(by rw [h] at hr;cases hr),fun j hj=>?_⟩;have hn:eQ fun F' S'=>(nd.contains i=true->Inv S')/\fO P ops all K Inv nd 0 (li.setIfInBounds i true) F' S':=fun F F' S e h=>⟨h.1,jN hK _ _ _ _ _ e h.2⟩
  by_cases hji:j=i
  ·subst hji;exact ⟨oi,hi,hix,hy.oK (fun v=>hK _) hn hc ⟨fun h=>(by rw [hni] at h;cases h),H⟩⟩
  ·have:=ready_mono hj hji;rw [H.1] at this;cases this
 |f+1,li,F,S,hcl,hfree,hr,hy,hc,H=>by
  refine ⟨fun h=>(by rw [h] at hr;cases hr),fun j hj=>?_⟩;have hn:eQ fun F' S'=>(nd.contains i=true->Inv S')/\fO P ops all K Inv nd (f+1) (li.setIfInBounds i true) F' S':=fun F F' S e h=>⟨h.1,jN hK _ _ _ _ _ e h.2⟩
  by_cases hji:j=i
  ·subst hji;exact ⟨oi,hi,hix,hy.oK (fun v=>hK _) hn hc ⟨fun h=>(by rw [hni] at h;cases h),H⟩⟩
  ·obtain ⟨oj,hoj,hjx,h1⟩:=H.2 j (ready_mono hj hji);have he:nC ops oj.ix i=false:=by rw [hjx];exact rV hj hr
   have hap:=hfree oj hoj (by rw [hjx];exact hji) (by rw [hjx];exact (mem_ready.1 hj).1) he;have hnj:eQ fun F' S'=>(nd.contains j=true->Inv S')/\fO P ops all K Inv nd f ((li.setIfInBounds i true).setIfInBounds j true) F' S':=fun F F' S e h=>⟨h.1,jN hK _ _ _ _ _ e h.2⟩;have h2:=UB (fun v=>hK _) hnj hap hKp hy h1;refine ⟨oj,hoj,hjx,vW (fun F' S' h3=>⟨h3.2.1.1,?_⟩) h2⟩;refine kF hK hi hix hni hKp f (li.setIfInBounds j true) F' S' (fun k hk hki hun=>hcl k hk hki ?_) (fun k hk hki hun hno=>?_) (ready_mono hr (AT hji)) h3.1 ?_ ?_
   ·by_cases hjk:j=k.ix
    ·rw [<-hjk];exact (mem_ready.1 hj).1
    ·rw [getD_set_ne true hjk] at hun;exact hun
   ·refine hfree k hk hki ?_ hno
    by_cases hjk:j=k.ix
    ·rw [<-hjk];exact (mem_ready.1 hj).1
    ·rw [getD_set_ne true hjk] at hun;exact hun
   ·by_cases hkd:oj.op.kd=2
    ·rcases hcl oj hoj (by rw [hjx];exact hji) (by rw [hjx];exact (mem_ready.1 hj).1) hkd he with h4|⟨h4,h5⟩
     ·exact h4 _
     ·rw [hjx] at h4;exact h5 _ (h3.2.1.1 h4)
    ·rw [h3.2.2 hkd];exact hc
   ·rw [Array.setIfInBounds_comm _ _ hji];exact h3.2.1.2
def aV.jq (o:aV):Bool:=o.gd.isNone && o.dst.isNone && (match o.op with
 | .k (.o9 ..)=>true
 |_=>false)
def Hl {o:aV} (h:o.jq=true):o.gd=none/\o.dst=none/\∃ q a m y,o.op= .k (.o9 q a m y):=by
 unfold aV.jq at h;simp only [Aa,BF] at h;obtain ⟨⟨h1,h2⟩,h3⟩:=h;split at h3
 ·rename_i q a m y e;exact ⟨h1,h2,q,a,m,y,e⟩
 ·cases h3
def Gq (hK:∀ o,eQ (K o)) {i:Nat} {oi:aV} {q:IntKind} {a:Int} {m y:aj} (hi:oi∈all) (hix:oi.ix=i) (hni:nd.contains i=false) (hop:oi.op= .k (.o9 q a m y)) (hgd:oi.gd=none) (hdst:oi.dst=none)
  :∀ (f:Nat) (li:Array Bool) (F:Fr) (S S1:St),(∀ oj∈all,oj.ix≠i->li.getD oj.ix true=false->nC ops oj.ix i=false->oi.apart oj=true/\(oj.op.kd=0∨oj.jq=true)/\nd.contains oj.ix=false)->
   i∈Region.ready .any ops li->ew q a S (m.ev F) (y.ev F)=some S1->fO P ops all K Inv nd f (li.setIfInBounds i true) F S1->fO P ops all K Inv nd (f+1) li F S:=by
 have own:∀ (f:Nat) (li:Array Bool) (F:Fr) (S S1:St),ew q a S (m.ev F) (y.ev F)=some S1->fO P ops all K Inv nd f (li.setIfInBounds i true) F S1->
   oK P oi K (fun F' S'=>(nd.contains i=true->Inv S')/\fO P ops all K Inv nd f (li.setIfInBounds i true) F' S') F S:=fun f li F S S1 hc H=>by
  have hn:eQ fun F' S'=>(nd.contains i=true->Inv S')/\fO P ops all K Inv nd f (li.setIfInBounds i true) F' S':=fun F F' S e h=>⟨h.1,jN hK _ _ _ _ _ e h.2⟩;refine qd (fun v=>hK _) hn (.inl ⟨by simp [aV.want,hgd],?_⟩);unfold bj;rw [hop];simp only [MK.ev,hc,Option.map_some,MK.ob,hdst];exact ⟨trivial,fun h=>(by rw [hni] at h;cases h),H⟩
 intro f
 induction f with
 |zero=>
  intro li F S S1 hfree hr hc H;refine ⟨fun h=>(by rw [h] at hr;cases hr),fun j hj=>?_⟩
  by_cases hji:j=i
  ·subst hji;exact ⟨oi,hi,hix,own 0 li F S S1 hc H⟩
  ·have:=ready_mono hj hji;rw [H.1] at this;cases this
 |succ f ih=>
  intro li F S S1 hfree hr hc H;refine ⟨fun h=>(by rw [h] at hr;cases hr),fun j hj=>?_⟩
  by_cases hji:j=i
  ·subst hji;exact ⟨oi,hi,hix,own (f+1) li F S S1 hc H⟩
  ·obtain ⟨oj,hoj,hjx,h1⟩:=H.2 j (ready_mono hj hji);have he:nC ops oj.ix i=false:=by rw [hjx];exact rV hj hr
   obtain ⟨hap,hkd,hnj⟩:=hfree oj hoj (by rw [hjx];exact hji) (by rw [hjx];exact (mem_ready.1 hj).1) he;rw [hjx] at hnj;obtain ⟨_,_,hrd⟩:=aV.apart_spec hap;have hnx:∀ f li,eQ fun F' S'=>(nd.contains j=true->Inv S')/\fO P ops all K Inv nd f li F' S':=fun f li F F' S e h=>⟨h.1,jN hK _ _ _ _ _ e h.2⟩
   have hops:∀ v,m.ev (aS oj.dst v F)=m.ev F/\y.ev (aS oj.dst v F)=y.ev F:=fun v=>by
    refine ⟨aj.congr fun t ht=>ud fun e=>?_,aj.congr fun t ht=>ud fun e=>?_⟩<;>
     exact hrd t e (by simp [aV.sY,hop,MX.rd,MK.rd,ht])
   have next:∀ (v:AV) (T T1:St),ew q a T (m.ev F) (y.ev F)=some T1->fO P ops all K Inv nd f ((li.setIfInBounds i true).setIfInBounds j true) (aS oj.dst v F) T1->fO P ops all K Inv nd (f+1) (li.setIfInBounds j true) (aS oj.dst v F) T:=fun v T T1 hcT HT=>by
    refine ih (li.setIfInBounds j true) _ T T1 (fun k hk hki hun hno=>hfree k hk hki ?_ hno) (ready_mono hr (AT hji)) (by rw [(hops v).1,(hops v).2];exact hcT) ?_
    ·by_cases hjk:j=k.ix
     ·rw [<-hjk];exact (mem_ready.1 hj).1
     ·rw [getD_set_ne true hjk] at hun;exact hun
    ·rw [Array.setIfInBounds_comm _ _ hji];exact HT
   refine ⟨oj,hoj,hjx,qd (fun v=>hK _) (hnx _ _) ?_⟩;have h2:=nQ (K:=K) (P:=P) (ig (fun v=>hK _) (hnx _ _)) (hnx _ _) h1;rcases h2 with ⟨hw,hs⟩|⟨hw,hs⟩
   ·refine .inl ⟨hw,?_⟩;rcases hkd with hkd|hkd
    ·cases hoo:oj.op with
     |k m'=>
      unfold bj at hs ⊢;rw [hoo] at hs hkd ⊢;simp only at hs ⊢;obtain ⟨aL,hs⟩:=hs
      cases hev:m'.ev F S1 with
      |none=>rw [hev] at hs;exact hs.elim
      |some rs=>
       obtain ⟨r,S1'⟩:=rs;rw [hev] at hs;obtain ⟨rfl,hp⟩:=MK.pure hkd hev;rw [(hp S).1];exact ⟨by rw [(hp S).2];exact aL,fun h=>(by rw [hnj] at h;cases h),next r S S1' hc hs.2⟩
     |call c as=>rw [hoo] at hkd;cases hkd
     |panic x=>rw [hoo] at hkd;cases hkd
     |it m=>rw [hoo] at hkd;cases hkd
    ·obtain ⟨_,hd2,q',b,m2,y2,hoo⟩:=Hl hkd;unfold bj at hs ⊢;rw [hoo] at hs ⊢;simp only [MK.ev,MK.ob] at hs ⊢;obtain ⟨_,hs⟩:=hs
     cases hev:ew q' b S1 (m2.ev F) (y2.ev F) with
     |none=>rw [hev] at hs;exact hs.elim
     |some S2=>
      rw [hev] at hs;obtain ⟨T,t1,t2⟩:=Lj hc hev;rw [t1];exact ⟨trivial,fun h=>(by rw [hnj] at h;cases h),next _ T S2 t2 hs.2⟩
   ·exact .inr ⟨hw,fun h=>(by rw [hnj] at h;cases h),next _ S S1 hc hs.2⟩
end any2
inductive bD where
 |done
 |one (o:aV) (lo nd:Bool) (r:bD)
 |two (o1:aV) (n1:Bool) (r1:bD) (o2:aV) (n2:Bool) (r2:bD)
 |iI (o1:aV) (n1:Bool) (r1:bD) (o2:aV) (n2:Bool) (r2:bD) (o3:aV) (n3:Bool) (r3:bD)
def bD.ops:bD->List aV
 | .done=>[]
 | .one o _ _ r=>o::r.ops
 | .two o1 _ r1 o2 _ r2=>o1::o2::(r1.ops++r2.ops)
 | .iI o1 _ r1 o2 _ r2 o3 _ r3=>o1::o2::o3::(r1.ops++(r2.ops++r3.ops))
def bD.eA:bD->List Nat
 | .done=>[]
 | .one o _ nd r=>(if nd then [o.ix] else [])++r.eA
 | .two o1 n1 r1 o2 n2 r2=>(if n1 then [o1.ix] else [])++((if n2 then [o2.ix] else [])++(r1.eA++r2.eA))
 | .iI o1 n1 r1 o2 n2 r2 o3 n3 r3=>(if n1 then [o1.ix] else [])++((if n2 then [o2.ix] else [])++((if n3 then [o3.ix] else [])++(r1.eA++(r2.eA++r3.eA))))
def iB (Ls:List Nat) (o:aV) (F:Fr):Prop:=
 match o.op with
 | .k (.load _ _ p)=>match p.ev F with
  | .ptr l _=>l∈Ls
  |_=>True
 |_=>True
def aX (S0:St) (Ls:List Nat) (S:St):Prop:=S.gl=S0.gl/\∀ l∈Ls,S.get l=S0.get l
def bf (P:Program) (K:Option AV->Fr->St->Prop) (S0:St) (Ls:List Nat):bD->Fr->St->Prop
 | .done,F,S=>K none F S
 | .one o lo nd r,F,S=>bC o (fun F S=>(lo=true->iB Ls o F/\aX S0 Ls S)/\bj P o K (fun F' S'=>(nd=true->aX S0 Ls S')/\bf P K S0 Ls r F' S') F S) (fun F' S'=>(nd=true->aX S0 Ls S')/\bf P K S0 Ls r F' S') F S
 | .two o1 n1 r1 o2 n2 r2,F,S=>
  bC o1 (bj P o1 K fun F' S'=>(n1=true->aX S0 Ls S')/\bf P K S0 Ls r1 F' S') (fun F' S'=>(n1=true->aX S0 Ls S')/\bf P K S0 Ls r1 F' S') F S/\
  bC o2 (bj P o2 K fun F' S'=>(n2=true->aX S0 Ls S')/\bf P K S0 Ls r2 F' S') (fun F' S'=>(n2=true->aX S0 Ls S')/\bf P K S0 Ls r2 F' S') F S
 | .iI o1 n1 r1 o2 n2 r2 o3 n3 r3,F,S=>
  bC o1 (bj P o1 K fun F' S'=>(n1=true->aX S0 Ls S')/\bf P K S0 Ls r1 F' S') (fun F' S'=>(n1=true->aX S0 Ls S')/\bf P K S0 Ls r1 F' S') F S/\
  bC o2 (bj P o2 K fun F' S'=>(n2=true->aX S0 Ls S')/\bf P K S0 Ls r2 F' S') (fun F' S'=>(n2=true->aX S0 Ls S')/\bf P K S0 Ls r2 F' S') F S/\
  bC o3 (bj P o3 K fun F' S'=>(n3=true->aX S0 Ls S')/\bf P K S0 Ls r3 F' S') (fun F' S'=>(n3=true->aX S0 Ls S')/\bf P K S0 Ls r3 F' S') F S
def gi (ops:Array Oper) (all:List aV) (eA:List Nat):Array Bool->bD->Bool
 |li,.done=>(Region.ready .any ops li).isEmpty
 |li,.one o lo nd r=>((o.jq && ((Region.ready .any ops li).contains o.ix && !eA.contains o.ix &&
    all.all (fun oj=>oj.ix==o.ix||li.getD oj.ix true||nC ops oj.ix o.ix||(o.apart oj && (oj.op.kd==0||oj.jq) && !eA.contains oj.ix))))||
   if o.op.kd==2 then decide (Region.ready .any ops li=[o.ix]) && (nd|| !eA.contains o.ix)
   else (Region.ready .any ops li).contains o.ix && !eA.contains o.ix &&
    all.all (fun oj=>oj.ix==o.ix||li.getD oj.ix true||nC ops oj.ix o.ix||o.apart oj) &&
    (o.op.kd==0||all.all (fun oj=>oj.ix==o.ix||li.getD oj.ix true||oj.op.kd !=2||nC ops oj.ix o.ix||(lo && eA.contains oj.ix)))) &&
   gi ops all eA (li.setIfInBounds o.ix true) r
 |li,.two o1 n1 r1 o2 n2 r2=>decide (Region.ready .any ops li=[o1.ix,o2.ix]) && (n1|| !eA.contains o1.ix) && (n2|| !eA.contains o2.ix) &&
   gi ops all eA (li.setIfInBounds o1.ix true) r1 && gi ops all eA (li.setIfInBounds o2.ix true) r2
 |li,.iI o1 n1 r1 o2 n2 r2 o3 n3 r3=>decide (Region.ready .any ops li=[o1.ix,o2.ix,o3.ix]) && (n1|| !eA.contains o1.ix) && (n2|| !eA.contains o2.ix) && (n3|| !eA.contains o3.ix) &&
   gi ops all eA (li.setIfInBounds o1.ix true) r1 && gi ops all eA (li.setIfInBounds o2.ix true) r2 && gi ops all eA (li.setIfInBounds o3.ix true) r3
def bD.depth:bD->Nat
 | .done=>0
 | .one _ _ _ r=>r.depth+1
 | .two _ _ r1 _ _ r2=>Nat.max r1.depth r2.depth+1
 | .iI _ _ r1 _ _ r2 _ _ r3=>Nat.max r1.depth (Nat.max r2.depth r3.depth)+1
def yp {Ls:List Nat} {o:aV} {F F':Fr} (e:im F F') (h:iB Ls o F):iB Ls o F':=by
 unfold iB at*;split
 ·rename_i n ag p ho;rw [ho] at h;simp only at h;rw [<-aj.congr (x:=p) (F:=F) fun t _=>e.get t];exact h
 ·trivial
section plan
variable {P:Program} {K:Option AV->Fr->St->Prop} {S0:St} {Ls:List Nat}
def ke (hK:∀ o,eQ (K o)):∀ pl,eQ (bf P K S0 Ls pl)
 | .done=>fun F F' S e h=>hK _ _ _ _ e h
 | .one o lo nd r=>fun F F' S e h=>by
  have hn:eQ fun F' S'=>(nd=true->aX S0 Ls S')/\bf P K S0 Ls r F' S':=fun F F' S e h=>⟨h.1,ke hK r _ _ _ e h.2⟩;have hs:eQ fun F S=>(lo=true->iB Ls o F/\aX S0 Ls S)/\bj P o K (fun F' S'=>(nd=true->aX S0 Ls S')/\bf P K S0 Ls r F' S') F S:=fun F F' S e h=>⟨fun hl=>⟨yp e (h.1 hl).1,(h.1 hl).2⟩,ig (fun v=>hK _) hn _ _ _ e h.2⟩;have h1:=nQ (K:=K) (P:=P) hs hn h;rw [jl (F':=F') fun t _=>e.get t] at h1;exact guard_of hs hn (h1.imp (fun h=>⟨h.1,hs _ _ _ e h.2⟩) fun h=>⟨h.1,hn _ _ _ (e.put _ _) h.2⟩)
 | .two o1 n1 r1 o2 n2 r2=>fun F F' S e h=>by
  have key:∀ (o:aV) (nd:Bool) (r:bD),eQ (bf P K S0 Ls r)->bC o (bj P o K fun F' S'=>(nd=true->aX S0 Ls S')/\bf P K S0 Ls r F' S') (fun F' S'=>(nd=true->aX S0 Ls S')/\bf P K S0 Ls r F' S') F S->
    bC o (bj P o K fun F' S'=>(nd=true->aX S0 Ls S')/\bf P K S0 Ls r F' S') (fun F' S'=>(nd=true->aX S0 Ls S')/\bf P K S0 Ls r F' S') F' S:=by
   intro o nd r hr h;have hn:eQ fun F' S'=>(nd=true->aX S0 Ls S')/\bf P K S0 Ls r F' S':=fun F F' S e h=>⟨h.1,hr _ _ _ e h.2⟩;have hs:=ig (P:=P) (o:=o) (fun v=>hK (some v)) hn;have h1:=nQ (K:=K) (P:=P) hs hn h;rw [jl (F':=F') fun t _=>e.get t] at h1;exact guard_of hs hn (h1.imp (fun h=>⟨h.1,hs _ _ _ e h.2⟩) fun h=>⟨h.1,hn _ _ _ (e.put _ _) h.2⟩)
  exact ⟨key o1 n1 r1 (ke hK r1) h.1,key o2 n2 r2 (ke hK r2) h.2⟩
 | .iI o1 n1 r1 o2 n2 r2 o3 n3 r3=>fun F F' S e h=>by
  have key:∀ (o:aV) (nd:Bool) (r:bD),eQ (bf P K S0 Ls r)->bC o (bj P o K fun F' S'=>(nd=true->aX S0 Ls S')/\bf P K S0 Ls r F' S') (fun F' S'=>(nd=true->aX S0 Ls S')/\bf P K S0 Ls r F' S') F S->
    bC o (bj P o K fun F' S'=>(nd=true->aX S0 Ls S')/\bf P K S0 Ls r F' S') (fun F' S'=>(nd=true->aX S0 Ls S')/\bf P K S0 Ls r F' S') F' S:=by
   intro o nd r hr h;have hn:eQ fun F' S'=>(nd=true->aX S0 Ls S')/\bf P K S0 Ls r F' S':=fun F F' S e h=>⟨h.1,hr _ _ _ e h.2⟩;have hs:=ig (P:=P) (o:=o) (fun v=>hK (some v)) hn;have h1:=nQ (K:=K) (P:=P) hs hn h;rw [jl (F':=F') fun t _=>e.get t] at h1;exact guard_of hs hn (h1.imp (fun h=>⟨h.1,hs _ _ _ e h.2⟩) fun h=>⟨h.1,hn _ _ _ (e.put _ _) h.2⟩)
  exact ⟨key o1 n1 r1 (ke hK r1) h.1,key o2 n2 r2 (ke hK r2) h.2.1,key o3 n3 r3 (ke hK r3) h.2.2⟩
def Jg {m:MK} {F:Fr} {S S1:St} {v:AV} (hk:m.kd≠2) (hk0:m.kd≠0) (h:m.ev F S=some (v,S1)):S1=S/\(∃ n ag p,m= .load n ag p)/\∀ S',(∀ n ag p,m= .load n ag p->(p.ev F).there S'=(p.ev F).there S)->m.ev F S'=some (v,S'):=by
 cases m<;>simp only [MK.kd] at hk hk0<;>first
  |exact absurd rfl hk
  |exact absurd rfl hk0
  |skip
 rename_i n ag p;simp only [MK.ev,Ar,Ag,Ac] at h;obtain ⟨cs,h1,x,h2,rfl,rfl⟩:=h;refine ⟨rfl,⟨n,ag,p,rfl⟩,fun S' hs=>?_⟩;simp only [MK.ev,hs n ag p rfl,h1,Option.bind_some,h2,Option.map_some]
def Nf {o:aV} {n:Nat} {ag:Bool} {p:aj} (ho:o.op= .k (.load n ag p)) {F:Fr} {S S':St} (hs:iB Ls o F) (h:aX S0 Ls S) (h':aX S0 Ls S'):(p.ev F).there S'=(p.ev F).there S:=by
 unfold iB at hs;rw [ho] at hs;simp only at hs;generalize p.ev F=x at hs ⊢
 cases x with
 |ptr l o=>simp only at hs;simp only [AV.there];rw [h.2 l hs,h'.2 l hs]
 |gp g o=>simp only [AV.there];rw [h.1,h'.1]
 |_=>rfl
def jR {ops:Array Oper} {all:List aV} {eA:List Nat} (hK:∀ o,eQ (K o)) (hKp:∀ o∈all,∀ v x F S,K (some x) (aS o.dst v F) S->K (some x) F S):
  ∀ (pl:bD) (li:Array Bool) (F:Fr) (S:St) (f:Nat),pl.depth<=f->(∀ o∈pl.ops,o∈all)->gi ops all eA li pl=true->bf P K S0 Ls pl F S->fO P ops all K (aX S0 Ls) eA f li F S
 | .done,li,F,S,f,_,_,hc,h=>by
  have hr:Region.ready .any ops li=[]:=by simpa [gi] using hc
  cases f with
  |zero=>exact ⟨hr,h⟩
  |succ f=>exact ⟨fun _=>h,by rw [hr];simp⟩
 | .one o lo nd r,li,F,S,0,hd,_,_,_=>absurd hd (by simp [bD.depth])
 | .one o lo nd r,li,F,S,f+1,hd,hall,hc,h=>by
  have hd':r.depth<=f:=by simp [bD.depth] at hd;exact hd
  have ho:o∈all:=hall o (by simp [bD.ops]);have hall':∀ o∈r.ops,o∈all:=fun o ho=>hall o (by simp [bD.ops,ho]);simp only [gi,Aa] at hc;obtain ⟨hc1,hc2⟩:=hc;have ih:=fun F S=>jR hK hKp r (li.setIfInBounds o.ix true) F S f hd' hall' hc2;have hn:eQ fun F' S'=>(nd=true->aX S0 Ls S')/\bf P K S0 Ls r F' S':=fun F F' S e h=>⟨h.1,ke hK r _ _ _ e h.2⟩;have hs:eQ fun F S=>(lo=true->iB Ls o F/\aX S0 Ls S)/\bj P o K (fun F' S'=>(nd=true->aX S0 Ls S')/\bf P K S0 Ls r F' S') F S:=fun F F' S e h=>⟨fun hl=>⟨yp e (h.1 hl).1,(h.1 hl).2⟩,ig (fun v=>hK _) hn _ _ _ e h.2⟩;have h1:=nQ (K:=K) (P:=P) hs hn h;rw [AI] at hc1;rcases hc1 with hc1|hc1
  ·simp only [Aa,A7,AN,AI,beq_iff_eq] at hc1;obtain ⟨hC,⟨hr,hni⟩,hfree⟩:=hc1;obtain ⟨hgd,hdst,q,a,m,y,hop⟩:=Hl hC;have hr':o.ix∈Region.ready .any ops li:=by simpa using hr
   rcases h1 with ⟨hw,hl,hst⟩|⟨hw,_⟩
   ·unfold bj at hst;rw [hop] at hst;simp only [MK.ev,MK.ob] at hst;obtain ⟨_,hst⟩:=hst
    cases hev:ew q a S (m.ev F) (y.ev F) with
    |none=>rw [hev] at hst;exact hst.elim
    |some S1=>
     rw [hev] at hst;simp only [Option.map_some,hdst] at hst;refine Gq hK ho rfl hni hop hgd hdst f li F S S1 (fun oj h1 h2 h3 h4=>?_) hr' hev (ih _ _ hst.2);rcases hfree oj h1 with ((h|h)|h)|h
     ·exact absurd h h2
     ·rw [h3] at h;cases h
     ·rw [h4] at h;cases h
     ·exact ⟨h.1.1,h.1.2,h.2⟩
   ·simp [aV.want,hgd] at hw
  by_cases hk:o.op.kd=2
  ·simp only [hk,beq_self_eq_true,if_true,Aa,AI,decide_eq_true_eq,A7] at hc1;obtain ⟨hr,hnd⟩:=hc1;refine ⟨fun h0=>(by rw [hr] at h0;cases h0),fun i hi=>?_⟩;rw [hr] at hi;obtain rfl:=Ay.1 hi;have hnx:eQ fun F' S'=>(eA.contains o.ix=true->aX S0 Ls S')/\fO P ops all K (aX S0 Ls) eA f (li.setIfInBounds o.ix true) F' S':=fun F F' S e h=>⟨h.1,jN hK _ _ _ _ _ e h.2⟩;have hx:∀ F' S',((nd=true->aX S0 Ls S')/\bf P K S0 Ls r F' S')->(eA.contains o.ix=true->aX S0 Ls S')/\fO P ops all K (aX S0 Ls) eA f (li.setIfInBounds o.ix true) F' S':=fun F' S' h=>⟨fun e=>h.1 (hnd.resolve_right (by rw [e];simp)),ih _ _ h.2⟩;exact ⟨o,ho,rfl,qd (fun v=>hK _) hnx (h1.imp (fun h=>⟨h.1,mP (fun _ _=>rfl) (fun _ _ x=>x) (fun r S' _ h=>hx _ _ h) h.2.2⟩) fun h=>⟨h.1,hx _ _ h.2⟩)⟩
  ·have hkb:(o.op.kd==2)=false:=by simpa using hk
   simp only [hkb,Ah,if_false,Aa,A7,AN,AI,beq_iff_eq,bne_iff_ne] at hc1;obtain ⟨⟨⟨hr,hni⟩,hfree⟩,hlo⟩:=hc1;have hr':o.ix∈Region.ready .any ops li:=by simpa using hr
   have hfree':∀ oj∈all,oj.ix≠o.ix->li.getD oj.ix true=false->nC ops oj.ix o.ix=false->o.apart oj=true:=fun oj h1 h2 h3 h4=>by
    rcases hfree oj h1 with ((h|h)|h)|h
    ·exact absurd h h2
    ·rw [h3] at h;cases h
    ·rw [h4] at h;cases h
    ·exact h
   rcases h1 with ⟨hw,hl,hst⟩|⟨hw,hnx⟩
   ·cases hop:o.op with
    |k m=>
     unfold bj at hst;rw [hop] at hst hk;simp only at hst;simp only [MX.kd] at hk;obtain ⟨aL,hst⟩:=hst
     cases hev:m.ev F S with
     |none=>rw [hev] at hst;exact hst.elim
     |some rs=>
      obtain ⟨v,S1⟩:=rs;rw [hev] at hst
      by_cases hk0:m.kd=0
      ·obtain ⟨rfl,hp⟩:=MK.pure hk0 hev
       exact kF hK (v:=v) (Cl:=fun _=>True) ho rfl hni (hKp o ho v) f li F S1 (fun _ _ _ _ _ _=> .inl fun _=>trivial) hfree' hr'
        (.inl ⟨hw,m,hop,fun S' _=>⟨by rw [(hp S').2];exact aL,(hp S').1⟩⟩) trivial (ih _ _ hst.2)
      ·obtain ⟨rfl,⟨n,ag,p,hm⟩,hth⟩:=Jg hk hk0 hev;have hlo':=hlo.resolve_left (by rw [hop];exact hk0)
       cases hlb:lo with
       |true=>
        obtain ⟨hsh,hin⟩:=hl hlb;refine kF hK (v:=v) (Cl:=aX S0 Ls) ho rfl hni (hKp o ho v) f li F S1 (fun oj h1 h2 hun h3 h4=> .inr ⟨?_,fun _ h=>h⟩) hfree' hr' (.inl ⟨hw,m,hop,fun S' hS'=>⟨?_,?_⟩⟩) hin (ih _ _ hst.2)
        ·rcases hlo' oj h1 with (((h|h)|h)|h)|h
         ·exact absurd h h2
         ·rw [hun] at h;cases h
         ·exact absurd h3 h
         ·rw [h4] at h;cases h
         ·exact h.2
        ·subst hm;trivial
        ·refine hth S' fun n' ag' p' e=>?_;exact Nf (hop.trans (by rw [e])) hsh hin hS'
       |false=>
        refine kF hK (v:=v) (Cl:=fun S=>S=S1) ho rfl hni (hKp o ho v) f li F S1 (fun oj h1 h2 hun h3 h4=>?_) hfree' hr' (.inl ⟨hw,m,hop,fun S' hS'=>⟨?_,?_⟩⟩) rfl (ih _ _ hst.2)
        ·rcases hlo' oj h1 with (((h|h)|h)|h)|h
         ·exact absurd h h2
         ·rw [hun] at h;cases h
         ·exact absurd h3 h
         ·rw [h4] at h;cases h
         ·rw [hlb] at h;cases h.1
        ·subst hm;trivial
        ·subst hS';exact hev
    |call c as=>exact absurd (by rw [hop];rfl) hk
    |panic x=>exact absurd (by rw [hop];rfl) hk
    |it m=>exact absurd (by rw [hop];rfl) hk
   ·exact kF hK (v:= .aF []) (Cl:=fun _=>True) ho rfl hni (hKp o ho _) f li F S (fun _ _ _ _ _ _=> .inl fun _=>trivial) hfree' hr' (.inr ⟨hw,rfl⟩) trivial (ih _ _ hnx.2)
 | .two o1 n1 r1 o2 n2 r2,li,F,S,0,hd,_,_,_=>absurd hd (by simp [bD.depth])
 | .two o1 n1 r1 o2 n2 r2,li,F,S,f+1,hd,hall,hc,h=>by
  have hd':r1.depth<=f/\r2.depth<=f:=by simp [bD.depth] at hd;exact Nat.max_le.1 hd
  simp only [gi,Aa,decide_eq_true_eq,AI,A7] at hc;obtain ⟨⟨⟨⟨hr,hn1⟩,hn2⟩,hc1⟩,hc2⟩:=hc
  have key:∀ (o:aV) (nd:Bool) (r:bD),o∈all->(nd=true∨eA.contains o.ix=false)->(∀ F S,bf P K S0 Ls r F S->fO P ops all K (aX S0 Ls) eA f (li.setIfInBounds o.ix true) F S)->
    bC o (bj P o K fun F' S'=>(nd=true->aX S0 Ls S')/\bf P K S0 Ls r F' S') (fun F' S'=>(nd=true->aX S0 Ls S')/\bf P K S0 Ls r F' S') F S->
    ∃ o'∈all,o'.ix=o.ix/\oK P o' K (fun F' S'=>(eA.contains o.ix=true->aX S0 Ls S')/\fO P ops all K (aX S0 Ls) eA f (li.setIfInBounds o.ix true) F' S') F S:=by
   intro o nd r ho hnd ih h;exact ⟨o,ho,rfl,vW (fun F' S' h=>⟨fun e=>h.1 (hnd.resolve_right (by rw [e];simp)),ih _ _ h.2⟩) h⟩
  refine ⟨fun h0=>(by rw [hr] at h0;cases h0),fun i hi=>?_⟩;rw [hr] at hi;rcases Ab.1 hi with rfl|hi
  ·exact key o1 n1 r1 (hall _ (by simp [bD.ops])) hn1 (fun F S=>jR hK hKp r1 _ F S f hd'.1 (fun o ho=>hall o (by simp [bD.ops,ho])) hc1) h.1
  ·obtain rfl:=Ay.1 hi;exact key o2 n2 r2 (hall _ (by simp [bD.ops])) hn2 (fun F S=>jR hK hKp r2 _ F S f hd'.2 (fun o ho=>hall o (by simp [bD.ops,ho])) hc2) h.2
 | .iI o1 n1 r1 o2 n2 r2 o3 n3 r3,li,F,S,0,hd,_,_,_=>absurd hd (by simp [bD.depth])
 | .iI o1 n1 r1 o2 n2 r2 o3 n3 r3,li,F,S,f+1,hd,hall,hc,h=>by
  have hd':r1.depth<=f/\r2.depth<=f/\r3.depth<=f:=by simp [bD.depth] at hd;exact ⟨(Nat.max_le.1 hd).1,Nat.max_le.1 (Nat.max_le.1 hd).2⟩
  simp only [gi,Aa,decide_eq_true_eq,AI,A7] at hc;obtain ⟨⟨⟨⟨⟨⟨hr,hn1⟩,hn2⟩,hn3⟩,hc1⟩,hc2⟩,hc3⟩:=hc
  have key:∀ (o:aV) (nd:Bool) (r:bD),o∈all->(nd=true∨eA.contains o.ix=false)->(∀ F S,bf P K S0 Ls r F S->fO P ops all K (aX S0 Ls) eA f (li.setIfInBounds o.ix true) F S)->
    bC o (bj P o K fun F' S'=>(nd=true->aX S0 Ls S')/\bf P K S0 Ls r F' S') (fun F' S'=>(nd=true->aX S0 Ls S')/\bf P K S0 Ls r F' S') F S->
    ∃ o'∈all,o'.ix=o.ix/\oK P o' K (fun F' S'=>(eA.contains o.ix=true->aX S0 Ls S')/\fO P ops all K (aX S0 Ls) eA f (li.setIfInBounds o.ix true) F' S') F S:=by
   intro o nd r ho hnd ih h;exact ⟨o,ho,rfl,vW (fun F' S' h=>⟨fun e=>h.1 (hnd.resolve_right (by rw [e];simp)),ih _ _ h.2⟩) h⟩
  refine ⟨fun h0=>(by rw [hr] at h0;cases h0),fun i hi=>?_⟩;rw [hr] at hi;rcases Ab.1 hi with rfl|hi
  ·exact key o1 n1 r1 (hall _ (by simp [bD.ops])) hn1 (fun F S=>jR hK hKp r1 _ F S f hd'.1 (fun o ho=>hall o (by simp [bD.ops,ho])) hc1) h.1
  ·rcases Ab.1 hi with rfl|hi
   ·exact key o2 n2 r2 (hall _ (by simp [bD.ops])) hn2 (fun F S=>jR hK hKp r2 _ F S f hd'.2.1 (fun o ho=>hall o (by simp [bD.ops,ho])) hc2) h.2.1
   ·obtain rfl:=Ay.1 hi;exact key o3 n3 r3 (hall _ (by simp [bD.ops])) hn3 (fun F S=>jR hK hKp r3 _ F S f hd'.2.2 (fun o ho=>hall o (by simp [bD.ops,ho])) hc3) h.2.2
def si {wb:aT} {n:Nat} {ro:Option Nat} {G0:Gh} {D:ep} {ops:Array Oper} {all:List aV} {Inv:St->Prop} {eA:List Nat} (hfit:∀ m∈all,m.fits P n ops=true):
  ∀ (f:Nat) (li:Array Bool) {G:Gh} {S:St} {F:Fr} {w:World} {a:Act},G0.le G->Rel wb n G S F D w a->fO P ops all K Inv eA f li F S->wpAnyIn (gC ro) 0 P .any ops (QK wb n G0 D K) f li a w
 |0,li,G,S,F,w,a,hle,hR,h=>⟨h.1,G,F,S,hle,hR,h.2⟩
 |f+1,li,G,S,F,w,a,hle,hR,h=>by
  refine ⟨fun h0=>⟨G,F,S,hle,hR,h.1 h0⟩,fun i hi=>?_⟩;obtain ⟨m,hm,rfl,hmop⟩:=h.2 i hi;have hm:=hfit m hm;unfold aV.fits at hm;unfold wpOpIn
  cases ho:ops[m.ix]? with
  |none=>rw [ho] at hm;cases hm
  |some o=>
   rw [ho] at hm;simp only [Aa,decide_eq_true_eq] at hm;obtain ⟨⟨⟨h1,h2⟩,h3⟩,h4⟩:=hm;simp only;rcases uZ h4 hR hmop with ⟨hw,F',hR',hs⟩|⟨hw,F',hR',hs⟩
   ·simp only [hw,if_true];exact xS h1 h2 h3 hle hR' hs fun G' S' F' a' w' hle' hR'' hn=>si (ro:=ro) hfit f _ hle' hR'' hn.2
   ·simp only [hw,Ah,if_false];refine ⟨fun _ _=>trivial,si hfit f _ hle ?_ hs.2⟩;rw [h2];exact hR'.put h3 (.aF (vs:=[]) rfl (by simp))
end plan
end Go.V
namespace Go.V
open Go
def GB {P:Program} {b:Frame} {a:Act} {k:List Item} {cs:List Frame} {w:World} {c:Code}:step P (lone (b.atR a (.code (.scope c)::k)) cs w)= .next (lone (b.atR a (.code c:: .inScope c::k)) cs w):=step_lone_go (by simp [stepG,stepG.exec,Frame.atR])
def Db {P:Program} {b:Frame} {a:Act} {k:List Item} {cs:List Frame} {w:World} {c:Code}:step P (lone (b.atR a (.inScope c::k)) cs w)= .next (lone (b.atR a k) cs w):=step_lone_go (by simp [stepG,stepG.exec,Frame.atR])
inductive MC where
 |skip
 |iG (l:List aV) (kp:List Nat)
 |any (pl:bD) (pr kp:List Nat)
 |seq (a b:MC)
 |cond (c:aj) (a b:MC)
 |block (i:Nat) (a:MC)
 |loop (a:MC)
 |exit (i:Nat)
 |ret
 |named (kp:List Nat) (a:MC)
 |bad
 |yd (g:aj) (ps:List Nat) (a b:MC)
inductive MI where
 |code (c:MC)
 |inBlock (i:Nat)
 |inLoop (c:MC)
 |begin (l:Nat)
def MC.gN (ro:Option Nat):MC->Bool
 | .ret| .yd ..=>ro.isNone
 | .seq a b| .cond _ a b=>a.gN ro && b.gN ro
 | .block _ a| .loop a| .named _ a=>a.gN ro
 |_=>true
def MI.gN (ro:Option Nat):MI->Bool
 | .code c| .inLoop c=>c.gN ro
 | .inBlock _=>true
 | .begin l=>ro==some l
def ry (ro:Option Nat) (k:List MI):Bool:=k.all (MI.gN ro)
def eo (ro:Option Nat) (m:MI) (k:List MI):ry ro (m::k)=(m.gN ro && ry ro k):=rfl
def MC.ru:∀ m:MC,m.gN none=true
 | .ret| .yd ..| .skip| .iG ..| .any ..| .exit _| .bad=>rfl
 | .seq a b| .cond _ a b=>by simp only [MC.gN,a.ru,b.ru,BR]
 | .block _ a| .loop a| .named _ a=>by simp only [MC.gN,a.ru]
def cB (kp:List Nat) (F:Fr):Fr:=kp.map fun t=>(t,F.get t)
def cu (kp:List Nat) (F:Fr):Fr:=
 match kp with
 |[]=>[]
 |t::ts=>match F.lookup t with
  |some v=>(t,v)::cu ts F
  |none=>cu ts F
def nJ {F:Fr} {t:Nat} {v:AV}:∀ {kp:List Nat},(cu kp F).lookup t=some v->F.lookup t=some v
 |[],h=>by cases h
 |u::us,h=>by
  simp only [cu] at h;split at h
  ·rename_i x hx;simp only [List.lookup_cons] at h
   by_cases hu:t=u
   ·subst hu;simp at h;rw [hx,h]
   ·have hb:(t==u)=false:=by simpa using hu
    rw [hb] at h;exact nJ h
  ·exact nJ h
def Rel.cB {wb:aT} {n:Nat} {G:Gh} {S:St} {F:Fr} {D:ep} {w:World} {a:Act} (h:Rel wb n G S F D w a) (kp:List Nat):Rel wb n G S (cu kp F) D w a:=⟨h.st,⟨fun t v e=>h.fr.rel t v (nJ e)⟩,h.sz,h.df⟩
def zw (P:Program) (n:Nat) (l:List aV) (ops:Array Oper):Bool:=decide (l.map (·.ix)=List.range ops.size) && l.all fun m=>m.fits P n ops
def yP (P:Program) (n:Nat) (pl:bD) (ops:Array Oper):Bool:=pl.ops.all (fun m=>m.fits P n ops) && gi ops pl.ops pl.eA (Array.replicate ops.size false) pl && decide (pl.depth<=ops.size)
def MC.fits (P:Program) (n:Nat):MC->Code->Bool
 | .bad,_=>true
 | .skip,.skip=>true
 | .skip,.label _=>true
 | .iG l _,.region _ ops false=>zw P n l ops
 | .any pl _ _,.region _ ops true=>P.follows .mixedOrders && yP P n pl ops
 | .seq a b,.seq a' b'=>a.fits P n a' && b.fits P n b'
 | .cond c a b,.cond c' a' b'=>c.fits c' && a.fits P n a' && b.fits P n b'
 | .block i a,.block j b=>i==j && a.fits P n b
 | .block i a,.scope b=>decide (1000000<=i) && a.fits P n b
 | .loop a,.loop b=>a.fits P n b
 | .exit i,.exit j=>i==j && decide (i<1000000)
 | .ret,.ret=>true
 | .named _ a,c=>a.fits P n c
 | .yd g ps a b,.rangeFunc g' ps' a' b'=>g.fits g' && (decide (ps=ps'.toList) && ((ps.all fun p=>decide (p<n)) && (a.fits P n a' && b.fits P n b')))
 |_,_=>false
def MI.fits (P:Program) (n:Nat):MI->Item->Prop
 | .code m,.code c=>m.fits P n c=true
 | .inBlock i,.inBlock j=>i=j
 | .inBlock i,.inScope _=>1000000<=i
 | .inLoop m,.inLoop c=>m.fits P n c=true
 | .begin _,.beginRound=>True
 |_,_=>False
def jb (P:Program) (n:Nat):List MI->List Item->Prop
 |[],[]=>True
 |m::ms,i::is=>m.fits P n i/\jb P n ms is
 |_,_=>False
abbrev er:=Option AV->ep->Fr->St->Prop
def Ends (P:Program) (m:Machine) (b:Frame) (cs:List Frame) (e:Option Value) (a:Act) (w:World):Prop:=
 match e with
 |none=>(b.roundOf=none->∃ todo,Steps P m (lone {b.atR a todo with mode:= .returning} cs w))/\(b.roundOf.isSome=true->Steps P m (lone (b.atR a []) cs w))
 |some v=>∃ todo,Steps P m (lone {b.atR a todo with mode:= .panicking [{v,recovered:=false}]} cs w)
def Ends.of_steps {P:Program} {m m1:Machine} {b:Frame} {cs:List Frame} {e:Option Value} {a:Act} {w:World} (h:Steps P m m1) (h':Ends P m1 b cs e a w):Ends P m b cs e a w:=by
 cases e with
 |none=>exact ⟨fun hb=>let ⟨t,ht⟩:=h'.1 hb;⟨t,h.trans ht⟩,fun hb=>h.trans (h'.2 hb)⟩
 |some v=>obtain ⟨t,ht⟩:=h';exact ⟨t,h.trans ht⟩
def ah (P:Program) (n:Nat) (k:List MI) (D:ep) (F:Fr) (S:St) (Q:er):Prop:=
 ∀ (wb:aT) G w a (b:Frame) cs todo,ry b.roundOf k=true->jb P n k todo->Rel wb n G S F D w a->
  ∃ e a' w' G' F' S' D' av,G.le G'/\Rel wb n G' S' F' D' w' a'/\Ends P (lone (b.atR a todo) cs w) b cs e a' w'/\
   (match e,av with
    |none,none=>True
    |some v,some x=>af G' x v
    |_,_=>False)/\Q av D' F' S'
def ah.one {P:Program} {n:Nat} {k k':List MI} {D:ep} {F:Fr} {S:St} {Q:er} (h:ah P n k' D F S Q) (hk:∀ ro,ry ro k=true->ry ro k'=true)
  (hs:∀ (a:Act) (w:World) (b:Frame) (cs:List Frame) (todo:List Item) wb G,jb P n k todo->Rel wb n G S F D w a->∃ todo',jb P n k' todo'/\Steps P (lone (b.atR a todo) cs w) (lone (b.atR a todo') cs w)):ah P n k D F S Q:=by
 intro wb G w a b cs todo hb hf hR;obtain ⟨todo',hf',hst⟩:=hs a w b cs todo wb G hf hR;obtain ⟨e,a',w',G',F',S',D',av,h1,h2,h3,h4⟩:=h wb G w a b cs todo' (hk _ hb) hf' hR;exact ⟨e,a',w',G',F',S',D',av,h1,h2,h3.of_steps hst,h4⟩
def dw {P:Program} {n:Nat} {m:MI} {k:List MI} {todo:List Item} (h:jb P n (m::k) todo):∃ i is,todo=i::is/\m.fits P n i/\jb P n k is:=by
 cases todo with
 |nil=>exact h.elim
 |cons i is=>exact ⟨i,is,rfl,h.1,h.2⟩
def ft {P:Program} {n:Nat} {m:MC} {i:Item} (h:(MI.code m).fits P n i):∃ c,i= .code c/\m.fits P n c=true:=by
 cases i<;>first
  |exact h.elim
  |exact ⟨_,rfl,h⟩
def O1 {P:Program} {n:Nat} {l:List aV} {kp:List Nat} {c:Code} (h:(MC.iG l kp).fits P n c=true):∃ id ops,c= .region id ops false/\zw P n l ops=true:=by
 cases c with
 |region id ops dr=>
  cases dr
  ·exact ⟨id,ops,rfl,h⟩
  ·cases h
 |_=>cases h
def fF (i:Nat):List MI->Option (List MI)
 | .inBlock j::k=>if j=i then some k else fF i k
 |_::k=>fF i k
 |[]=>none
def jg {P:Program} {n:Nat} {i:Nat} (hi:i<1000000):∀ {k k':List MI} {todo:List Item},fF i k=some k'->jb P n k todo->∃ todo',exitTo i todo=some todo'/\jb P n k' todo'
 |[],_,_,h,_=>by cases h
 |m::k,k',todo,h,hf=>by
  obtain ⟨it,is,rfl,h1,h2⟩:=dw hf
  cases m with
  |inBlock j=>
   cases it<;>first
    |exact h1.elim
    |skip
   ·rename_i j';have:j=j':=h1;subst this;simp only [fF] at h
    by_cases hj:j=i
    ·rw [if_pos hj] at h;injection h with h
     subst h;exact ⟨is,by simp [exitTo,hj],h2⟩
    ·rw [if_neg hj] at h;obtain ⟨t,h3,h4⟩:=jg hi h h2;exact ⟨t,by simp [exitTo,hj,h3],h4⟩
   ·have h1:1000000<=j:=h1;simp only [fF] at h;rw [if_neg (by omega)] at h;obtain ⟨t,h3,h4⟩:=jg hi h h2;exact ⟨t,by simp [exitTo,h3],h4⟩
  |code c=>
   obtain ⟨t,h3,h4⟩:=jg hi (k:=k) h h2;refine ⟨t,?_,h4⟩
   cases it<;>first
    |exact h1.elim
    |simpa [exitTo] using h3
  |inLoop c=>
   obtain ⟨t,h3,h4⟩:=jg hi (k:=k) h h2;refine ⟨t,?_,h4⟩
   cases it<;>first
    |exact h1.elim
    |simpa [exitTo] using h3
  |begin l=>
   obtain ⟨t,h3,h4⟩:=jg hi (k:=k) h h2;refine ⟨t,?_,h4⟩
   cases it<;>first
    |exact h1.elim
    |simpa [exitTo] using h3
def akI (c:Frame) (cs:List Frame):Value×List Frame:=
 match c.mode with
 | .panicking ({v,recovered:=false,goexit:=false}::older)=>(v,{c with mode:= .panicking ({v,recovered:=true}::older)}::cs)
 |_=>(.nilIface,c::cs)
section rules
variable {P:Program} {n:Nat} {k:List MI} {D:ep} {F:Fr} {S:St} {Q:er}
def ah.skip (h:ah P n k D F S Q):ah P n (.code .skip::k) D F S Q:=
 h.one (by simp only [eo,MI.gN,MC.gN,Aa,and_assoc,true_and];exact fun _ h=>h) fun a w b cs todo wb G hf _=>by
  obtain ⟨i,is,rfl,h1,h2⟩:=dw hf;obtain ⟨c,rfl,h3⟩:=ft h1
  cases c<;>simp only [MC.fits] at h3<;>first
   |(cases h3;done)
   |exact ⟨is,h2,.one stepR_skip⟩
   |exact ⟨is,h2,.one stepR_label⟩
def ah.seq {x y:MC} (h:ah P n (.code x:: .code y::k) D F S Q):ah P n (.code (.seq x y)::k) D F S Q:=
 h.one (by simp only [eo,MI.gN,MC.gN,Aa,and_assoc,true_and];exact fun _ h=>h) fun a w b cs todo wb G hf _=>by
  obtain ⟨i,is,rfl,h1,h2⟩:=dw hf;obtain ⟨c,rfl,h3⟩:=ft h1
  cases c<;>simp only [MC.fits] at h3<;>first
   |(cases h3;done)
   |(simp only [Aa] at h3
     exact ⟨.code _:: .code _::is,⟨h3.1,h3.2,h2⟩,.one stepR_seq⟩)
def ah.block {j:Nat} {x:MC} (h:ah P n (.code x:: .inBlock j::k) D F S Q):ah P n (.code (.block j x)::k) D F S Q:=
 h.one (by simp only [eo,MI.gN,MC.gN,Aa,and_assoc,true_and];exact fun _ h=>h) fun a w b cs todo wb G hf _=>by
  obtain ⟨i,is,rfl,h1,h2⟩:=dw hf;obtain ⟨c,rfl,h3⟩:=ft h1
  cases c<;>simp only [MC.fits] at h3<;>first
   |(cases h3;done)
   |(simp only [Aa,beq_iff_eq] at h3
     obtain ⟨rfl,h3⟩:=h3
     exact ⟨.code _:: .inBlock _::is,⟨h3,rfl,h2⟩,.one stepR_block⟩)
   |(simp only [Aa,decide_eq_true_eq] at h3
     exact ⟨.code _:: .inScope _::is,⟨h3.2,h3.1,h2⟩,.one GB⟩)
def ah.inBlock {j:Nat} (h:ah P n k D F S Q):ah P n (.inBlock j::k) D F S Q:=
 h.one (by simp only [eo,MI.gN,MC.gN,Aa,and_assoc,true_and];exact fun _ h=>h) fun a w b cs todo wb G hf _=>by
  obtain ⟨i,is,rfl,h1,h2⟩:=dw hf
  cases i<;>first
   |exact h1.elim
   |exact ⟨is,h2,.one stepR_inBlock⟩
   |exact ⟨is,h2,.one Db⟩
def ah.named {kp:List Nat} {x:MC} (h:ah P n (.code x::k) D (cu kp F) S Q):ah P n (.code (.named kp x)::k) D F S Q:=by
 intro wb G w a b cs todo hb hf hR;refine h wb G w a b cs todo hb ?_ (hR.cB kp);obtain ⟨i,is,rfl,h1,h2⟩:=dw hf;obtain ⟨c,rfl,h3⟩:=ft h1;have h4:MC.fits P n x c=true:=by simpa [MC.fits] using h3
 exact ⟨h4,h2⟩
def lW {ro:Option Nat} {j:Nat}:∀ {k k':List MI},fF j k=some k'->ry ro k=true->ry ro k'=true
 |[],_,h,_=>by cases h
 |m::k,k',h,hn=>by
  rw [eo,Aa] at hn
  cases m with
  |inBlock i=>
   simp only [fF] at h;split at h
   ·injection h with h
    subst h;exact hn.2
   ·exact lW h hn.2
  |code c=>exact lW (k:=k) h hn.2
  |inLoop c=>exact lW (k:=k) h hn.2
  |begin l=>exact lW (k:=k) h hn.2
def ah.exit {j:Nat} {k':List MI} (he:fF j k=some k') (h:ah P n k' D F S Q):ah P n (.code (.exit j)::k) D F S Q:=
 h.one (fun _ hn=>lW he (by rw [eo,Aa] at hn;exact hn.2)) fun a w b cs todo wb G hf _=>by
  obtain ⟨i,is,rfl,h1,h2⟩:=dw hf;obtain ⟨c,rfl,h3⟩:=ft h1
  cases c<;>simp only [MC.fits] at h3<;>first
   |(cases h3;done)
   |(simp only [Aa,beq_iff_eq,decide_eq_true_eq] at h3
     obtain ⟨rfl,h3⟩:=h3;obtain ⟨t,h4,h5⟩:=jg h3 he h2
     exact ⟨t,h5,.one (stepR_exit h4)⟩)
def ah.cond {c:aj} {x y:MC} {t:Bool} (hc:c.ev F= .bool t) (h1:t=true->ah P n (.code x::k) D F S Q) (h2:t=false->ah P n (.code y::k) D F S Q):ah P n (.code (.cond c x y)::k) D F S Q:=by
 have key:∀ (z:MC),(if t then x else y)=z->ah P n (.code z::k) D F S Q->ah P n (.code (.cond c x y)::k) D F S Q:=by
  intro z hz h;refine h.one (fun _ hn=>?_) fun a w b cs todo wb G hf hR=>?_
  ·simp only [eo,MI.gN,MC.gN,Aa] at hn ⊢;subst hz;cases t
   ·exact ⟨hn.1.2,hn.2⟩
   ·exact ⟨hn.1.1,hn.2⟩
  obtain ⟨i,is,rfl,h1,h2⟩:=dw hf;obtain ⟨c0,rfl,h3⟩:=ft h1
  cases c0<;>simp only [MC.fits] at h3<;>first
   |(cases h3;done)
   |skip
  rename_i c' x' y';simp only [Aa] at h3;obtain ⟨⟨h4,h5⟩,h6⟩:=h3;have hcv:=aj.rel hR.fr h4;rw [hc] at hcv;generalize hcc:a.eval c'=cv at hcv;cases hcv;refine ⟨.code (if t then x' else y')::is,⟨?_,h2⟩,.one (stepR_cond hcc)⟩;subst hz;cases t
  ·exact h6
  ·exact h5
 cases t
 ·exact key y rfl (h2 rfl)
 ·exact key x rfl (h1 rfl)
def ah.ret (h:Q none D F S):ah P n (.code .ret::k) D F S Q:=by
 intro wb G w a b cs todo hb hf hR
 have hb:b.roundOf=none:=by
  cases e:b.roundOf with
  |none=>rfl
  |some l=>rw [e] at hb;cases hb
 obtain ⟨i,is,rfl,h1,h2⟩:=dw hf;obtain ⟨c,rfl,h3⟩:=ft h1
 cases c<;>simp only [MC.fits] at h3<;>first
  |(cases h3;done)
  |exact ⟨none,a,w,G,F,S,D,none,Gh.le_refl G,hR,⟨fun _=>⟨_,.one (stepR_ret hb)⟩,fun e=>by rw [hb] at e;cases e⟩,trivial,h⟩
def ah.done (h:Q none D F S):ah P n [] D F S Q:=by
 intro wb G w a b cs todo _ hf hR
 cases todo with
 |nil=>exact ⟨none,a,w,G,F,S,D,none,Gh.le_refl G,hR,⟨fun hb=>⟨_,.one (stepR_end hb)⟩,fun _=> .refl _ _⟩,trivial,h⟩
 |cons i is=>exact hf.elim
def ah.iG {l:List aV} {kp:List Nat} (h:cD P l (fun o F' S'=>match o with|none=>ah P n k D (cu kp F') S' Q|some v=>Q (some v) D F' S') F S):ah P n (.code (.iG l kp)::k) D F S Q:=by
 intro wb G w a b cs todo hb hf hR;have hb':ry b.roundOf k=true:=by rw [eo,Aa] at hb;exact hb.2
 obtain ⟨i,is,rfl,h1,h2⟩:=dw hf;obtain ⟨c,rfl,h3⟩:=ft h1;obtain ⟨id,ops,rfl,h3'⟩:=O1 h3;simp only [zw,Aa,decide_eq_true_eq,AN] at h3';obtain ⟨h4,h5⟩:=h3';have hw:=Hz (P:=P) (G0:=G) (ro:=b.roundOf) l h5 (Gh.le_refl G) hR h;rw [h4] at hw;obtain ⟨e,a',w',hq,harr⟩:=wpIn_region (id:=id) hw b is cs rfl trivial (yA _ _)
 cases e with
 |normal=>
  obtain ⟨G1,F1,S1,h6,h7,h8⟩:=hq;obtain ⟨e,a2,w2,G2,F2,S2,D2,av,h9,h10,h11,h12⟩:=h8 wb G1 w' a' b cs is hb' h2 (h7.cB kp);exact ⟨e,a2,w2,G2,F2,S2,D2,av,Gh.le_trans h6 h9,h10,h11.of_steps (StepsIn.steps harr),h12⟩
 |panic ch=>
  obtain ⟨G1,F1,S1,v,av,h6,h7,rfl,h8,h9⟩:=hq;exact ⟨some v,a',w',G1,F1,S1,D,some av,h6,h7,(let ⟨t,ht⟩:=harr;⟨t,ht.steps⟩),h8,h9⟩
 |exit _=>exact hq.elim
 |goto _=>exact hq.elim
 |ret=>exact hq.elim
 |outgrown=>exact hq.elim
def DB (Q:er) (ds:List Nat):Prop:=∀ v D F F' S,(∀ t,t ∉ ds->F.lookup t=F'.lookup t)->Q (some v) D F S->Q (some v) D F' S
def bD.y4 (pl:bD):List Nat:=pl.ops.filterMap (·.dst)
def fA (F:Fr):List Nat->List Nat
 |[]=>[]
 |t::ts=>match F.get t with
  | .ptr l _=>l::fA F ts
  | .aN _ _ l _=>l::fA F ts
  |_=>fA F ts
def u6 {F F':Fr} (e:im F F'):∀ kp,cu kp F=cu kp F'
 |[]=>rfl
 |t::ts=>by simp only [cu,e t,u6 e ts]
def NA {P:Program} {n:Nat} {pl:bD} {pr kp:List Nat} {c:Code} (h:(MC.any pl pr kp).fits P n c=true):∃ id ops,c= .region id ops true/\P.follows .mixedOrders=true/\yP P n pl ops=true:=by
 cases c with
 |region id ops dr=>
  cases dr
  ·cases h
  ·simp only [MC.fits,Aa] at h;exact ⟨id,ops,rfl,h.1,h.2⟩
 |_=>cases h
def ah.Iu {pl:bD} {pr kp:List Nat} {Q1:er} (hQ:DB Q1 pl.y4) (hQ1:∀ v F S,Q1 (some v) D F S->Q (some v) D F S) (h:bf P (fun o F' S'=>match o with|none=>ah P n k D (cu kp F') S' Q|some v=>Q1 (some v) D F' S') S (fA F pr) pl F S):ah P n (.code (.any pl pr kp)::k) D F S Q:=by
 intro wb G w a b cs todo hb hf hR;have hb':ry b.roundOf k=true:=by rw [eo,Aa] at hb;exact hb.2
 obtain ⟨i,is,rfl,h1,h2⟩:=dw hf;obtain ⟨c,rfl,h3⟩:=ft h1;obtain ⟨id,ops,rfl,hmix,h3'⟩:=NA h3;simp only [yP,Aa,decide_eq_true_eq,AN] at h3';obtain ⟨⟨h4,h5⟩,h6⟩:=h3'
 have hK:∀ o,eQ ((fun o F' S'=>match o with|none=>ah P n k D (cu kp F') S' Q|some v=>Q1 (some v) D F' S':Option AV->Fr->St->Prop) o):=by
  intro o F F' S e h
  cases o with
  |none=>simp only at h ⊢;rw [<-u6 e];exact h
  |some v=>exact hQ v D F F' S (fun t _=>e t) h
 have hany:=jR (ops:=ops) (all:=pl.ops) (eA:=pl.eA) hK (fun o ho v x F S h=>hQ x D _ F S (fun t ht=>by
  rw [jf]
  by_cases hd:o.dst=some t
  ·exact absurd (Cy.2 ⟨o,ho,hd⟩) ht
  ·rw [if_neg hd]) h) pl (Array.replicate ops.size false) F S ops.size h6 (fun _ h=>h) h5 h
 have hw:=si (P:=P) (ro:=b.roundOf) (G0:=G) (D:=D) (wb:=wb) h4 ops.size (Array.replicate ops.size false) (w:=w.drew) (Gh.le_refl G) ⟨hR.st.drew,hR.fr,hR.sz,hR.df⟩ hany;obtain ⟨e,a',w',hq,harr⟩:=wpIn_region_any (id:=id) hmix hw b is cs rfl trivial (yA _ _)
 cases e with
 |normal=>
  obtain ⟨G1,F1,S1,h6,h7,h8⟩:=hq;obtain ⟨e,a2,w2,G2,F2,S2,D2,av,h9,h10,h11,h12⟩:=h8 wb G1 w' a' b cs is hb' h2 (h7.cB kp);exact ⟨e,a2,w2,G2,F2,S2,D2,av,Gh.le_trans h6 h9,h10,h11.of_steps (StepsIn.steps harr),h12⟩
 |panic ch=>
  obtain ⟨G1,F1,S1,v,av,h6,h7,rfl,h8,h9⟩:=hq;exact ⟨some v,a',w',G1,F1,S1,D,some av,h6,h7,(let ⟨t,ht⟩:=harr;⟨t,ht.steps⟩),h8,hQ1 _ _ _ h9⟩
 |exit _=>exact hq.elim
 |goto _=>exact hq.elim
 |ret=>exact hq.elim
 |outgrown=>exact hq.elim
def ah.any {pl:bD} {pr kp:List Nat} (hQ:DB Q pl.y4) (h:bf P (fun o F' S'=>match o with|none=>ah P n k D (cu kp F') S' Q|some v=>Q (some v) D F' S') S (fA F pr) pl F S):ah P n (.code (.any pl pr kp)::k) D F S Q:=.Iu hQ (fun _ _ _ h=>h) h
def ah.inLoop {x:MC} (h:ah P n (.code x:: .inLoop x::k) D F S Q):ah P n (.inLoop x::k) D F S Q:=
 h.one (by simp only [eo,MI.gN,Aa];exact fun _ h=>⟨h.1,h⟩) fun a w b cs todo wb G hf _=>by
  obtain ⟨i,is,rfl,h1,h2⟩:=dw hf
  cases i<;>first
   |exact h1.elim
   |exact ⟨.code _:: .inLoop _::is,⟨h1,h1,h2⟩,.one stepR_inLoop⟩
def ah.ek {x:MC} (h:ah P n (.code x:: .inLoop x::k) D F S Q):ah P n (.code (.loop x)::k) D F S Q:=
 h.one (by simp only [eo,MI.gN,MC.gN,Aa];exact fun _ h=>⟨h.1,h⟩) fun a w b cs todo wb G hf _=>by
  obtain ⟨i,is,rfl,h1,h2⟩:=dw hf;obtain ⟨c,rfl,h3⟩:=ft h1
  cases c<;>simp only [MC.fits] at h3<;>first
   |(cases h3;done)
   |exact ⟨.code _:: .inLoop _::is,⟨h3,h3,h2⟩,.one stepR_loop⟩
def Vt {o:Oper} {a:Act} {w:World} {ro:Option Nat} {K K':Act->World->Prop} {R R':Exit->Act->World->Prop} (h:∀ a w,K a w->K' a w) (hq:∀ e a w,e≠ .normal->R e a w->R' e a w)
  (hh:o.wpIn (gC ro) 0 P a w K R):o.wpIn (gC ro) 0 P a w K' R':=by
 unfold Oper.wpIn at*;refine ⟨hh.1,?_⟩
 replace hh:=hh.2
 generalize (o.semAt (gC ro).round a.eval).run P w=r at*;have hl:LetsOut R->LetsOut R':=fun ⟨a,w,h⟩=>⟨a,w,hq _ _ _ (by simp) h⟩
 cases r with
 |ok n w'=>
  cases n<;>simp only [Oper.uponIn] at hh ⊢<;>
   first
    |exact h _ _ hh
    |exact ⟨hh.1,CallsIn.mono hh.2 (fun e w'' he=>by cases e<;>first|exact h _ _ he|exact hq _ _ _ (by simp) he|exact hl he)⟩
    |exact ⟨hh.1,RowsIn.mono hh.2 (fun _ _ he=>h _ _ he)⟩
    |exact ⟨hh.1,RoundIn.mono hh.2 (fun e w'' he=>by cases e<;>first|exact h _ _ he|exact hq _ _ _ (by simp) he|exact hl he)⟩
 |halt x w'=>cases x<;>simp only [Oper.uponIn] at hh ⊢<;>first
  |exact hh
  |exact hq _ _ _ (by simp) hh
def Gd {ops:Array Oper} {ro:Option Nat} {R R':Exit->Act->World->Prop} {rest:List Nat} (hn:∀ a w,R .normal a w->wpOpsIn (gC ro) 0 P ops R' rest a w) (hq:∀ e a w,e≠ .normal->R e a w->R' e a w):∀ (l:List Nat) {a:Act} {w:World},wpOpsIn (gC ro) 0 P ops R l a w->wpOpsIn (gC ro) 0 P ops R' (l++rest) a w
 |[],a,w,h=>hn a w h
 |i::l,a,w,h=>by
  have ih:=fun a w=>Gd hn hq l (a:=a) (w:=w);simp only [List.cons_append,wpOpsIn] at h ⊢
  cases ho:ops[i]? with
  |none=>simp only [ho] at h ⊢;exact ih _ _ h
  |some o=>
   simp only [ho] at h ⊢;split
   ·rename_i hw;rw [if_pos hw] at h;exact Vt ih hq h
   ·rename_i hw;rw [if_neg hw] at h;exact ⟨h.1,ih _ _ h.2⟩
def afN {a:Act} {o:Oper} {w:World} {fo:Operand} {args:Array Operand} {tys:Array TypeId} {f:Fn} {vs ws:Array Value} (ho:o.op= .defer ⟨.value fo,args,tys⟩) (hf:a.eval fo= .func f vs ws):
  (execOp a.eval o).run P w= .ok (.defer {target:= .fn f ws,args:=vs++args.map a.eval}) w:=by
 simp only [execOp,ho,resolve,hf,Deferred.ofValue];rfl
def Ii (G:Gh) (pv:Option AV) (u:FrameMode):Prop:=
 match pv with
 |none=>u= .returning
 |some p=>∃ v,u= .panicking [{v,recovered:=false}]/\af G p v
def akH:FrameMode->FrameMode
 | .panicking ({v,recovered:=_,goexit:=_}::older)=> .panicking ({v,recovered:=true}::older)
 |u=>u
def Ii.mono {G G':Gh} (h:G.le G') {pv:Option AV} {u:FrameMode} (hp:Ii G pv u):Ii G' pv u:=by
 cases pv with
 |none=>exact hp
 |some p=>obtain ⟨v,h1,h2⟩:=hp;exact ⟨v,h1,h2.mono h⟩
def ah.loop {x:MC} (I:Fr->St->Prop) (μ:Fr->St->Nat) (h0:I F S)
  (round:∀ F S,I F S->(∀ F' S',I F' S'->μ F' S'<μ F S->ah P n (.inLoop x::k) D F' S' Q)->ah P n (.code x:: .inLoop x::k) D F S Q):ah P n (.code (.loop x)::k) D F S Q:=by
 have key:∀ m F S,μ F S=m->I F S->ah P n (.inLoop x::k) D F S Q:=by
  intro m
  induction m using Nat.strongRecOn with
  |_ m ih=>
   intro F S hm hI;refine (round F S hI fun F' S' hI' hlt=>ih (μ F' S') (hm▸hlt) F' S' rfl hI').one (by simp only [eo,MI.gN,Aa];exact fun _ h=>⟨h.1,h⟩) fun a w b cs todo wb G hf _=>?_;obtain ⟨i,is,rfl,h1,h2⟩:=dw hf
   cases i<;>first
    |exact h1.elim
    |exact ⟨.code _:: .inLoop _::is,⟨h1,h1,h2⟩,.one stepR_inLoop⟩
 refine (round F S h0 fun F' S' hI' _=>key _ F' S' rfl hI').one (by simp only [eo,MI.gN,MC.gN,Aa];exact fun _ h=>⟨h.1,h⟩) fun a w b cs todo wb G hf _=>?_;obtain ⟨i,is,rfl,h1,h2⟩:=dw hf;obtain ⟨c,rfl,h3⟩:=ft h1
 cases c<;>simp only [MC.fits] at h3<;>first
  |(cases h3;done)
  |exact ⟨.code _:: .inLoop _::is,⟨h3,h3,h2⟩,.one stepR_loop⟩
def ah.tx {F':Fr} {S':St} (h:ah P n k D F' S' Q) (hF:∀ t v,F'.lookup t=some v->F.lookup t=some v) (hS:S.le S'):ah P n k D F S Q:=by
 intro wb G w a b cs todo hb hf hR;exact h wb G w a b cs todo hb hf ⟨hR.st.tx hS,⟨fun t v e=>hR.fr.rel t v (hF t v e)⟩,hR.sz,hR.df⟩
end rules
end Go.V
namespace Go.V
open Go
def jx:Nat->List AV->Fr
 |_,[]=>[]
 |i,a::as=>(i,a)::jx (i+1) as
inductive RV where
 |t (n:Nat)
 |c (a n:Nat) (ag:Bool)
def jS (F:Fr) (S:St):RV->Option AV
 | .t n=>some (F.get n)
 | .c a n ag=>((F.get a).there S).bind (cC n ag)
def fG (F:Fr) (S:St):List RV->Option (List AV)
 |[]=>some []
 |r::rs=>(jS F S r).bind fun v=>(fG F S rs).map fun vs=>v::vs
def dE:List AV->AV
 |[v]=>v
 |vs=> .aF vs
def RV.fits (P:Program):RV->ResultVar->Bool
 | .t n,.tmp m=>n==m
 | .c a n ag,.cell a' ty=>a==a' && known P ty && (eT P ty==ag) && cg P ty n
 |_,_=>false
def qm (P:Program):List RV->List ResultVar->Bool
 |[],[]=>true
 |r::rs,x::xs=>r.fits P x && qm P rs xs
 |_,_=>false
def yk (a:Act):ResultVar->Sem Value
 | .tmp t=>pure (a.tmps.getD t undef)
 | .cell b ty=>do loadVar ty (<-asAddr (a.tmps.getD b undef))
def HI {P:Program} {wb:aT} {n:Nat} {G:Gh} {S:St} {F:Fr} {D:ep} {w:World} {a:Act} (hR:Rel wb n G S F D w a):∀ {rs:List RV} {xs:List ResultVar} {vs:List AV},qm P rs xs=true->fG F S rs=some vs->
  ∃ us:List Value,(xs.mapM (yk a)).run P w= .ok us w/\da G vs us
 |[],[],vs,_,h=>by
  simp [fG] at h;subst h;exact ⟨[],by simp,rfl,by simp⟩
 |[],_::_,_,h,_=>by cases h
 |_::_,[],_,h,_=>by cases h
 |r::rs,x::xs,vs,h,he=>by
  simp only [qm,Aa] at h;simp only [fG,Ar,Ag] at he;obtain ⟨v,h1,vs',h2,rfl⟩:=he;obtain ⟨us,h3,h4,h5⟩:=HI hR h.2 h2
  have hx:∃ u,(yk a x).run P w= .ok u w/\af G v u:=by
   cases r<;>cases x<;>simp only [RV.fits] at h<;>first
    |(cases h.1;done)
    |skip
   ·simp only [beq_iff_eq] at h;obtain ⟨rfl,_⟩:=h;simp only [jS,Ae] at h1;subst h1;exact ⟨_,rfl,hR.fr.get _⟩
   ·simp only [Aa,beq_iff_eq] at h;obtain ⟨⟨⟨⟨rfl,q1⟩,q2⟩,q3⟩,_⟩:=h;simp only [jS,Ar] at h1;obtain ⟨cs,q4,q5⟩:=h1;obtain ⟨rr,oo,q6,q7⟩:=F9 hR.st q4 (hR.fr.get _);obtain ⟨u,q8,q9⟩:=pq (P:=P) q7 q1 q2 q3 q5;refine ⟨u,?_,q9⟩;simp only [yk,q6,asAddr,Sem.run_bind,Sem.run_pure,Result.andThen_ok];simpa [Instr.loadAt,Instr.sureAddr] using q8
  obtain ⟨u,h6,h7⟩:=hx;refine ⟨u::us,?_,by simp [h4],?_⟩
  ·rw [List.mapM_cons];simp only [Sem.run_bind];rw [h6];simp only [Result.andThen_ok];rw [h3];simp
  ·intro m c z hc hz
   cases m with
   |zero=>simp at hc hz;subst hc hz;exact h7
   |succ m=>exact h5 m c z (by simpa using hc) (by simpa using hz)
def Gw {P:Program} {wb:aT} {n:Nat} {G:Gh} {S:St} {F:Fr} {D:ep} {w:World} {a:Act} (hR:Rel wb n G S F D w a) {fn:Func} {rs:List RV} {vs:List AV} (hf:qm P rs fn.results.toList=true) (he:fG F S rs=some vs):
  ∃ u,(results fn a.tmps).run P w= .ok u w/\af G (dE vs) u:=by
 obtain ⟨us,h1,h2,h3⟩:=HI (P:=P) hR hf he
 have hm:(fn.results.mapM (yk a)).run P w= .ok us.toArray w:=by
  rw [<-Array.toArray_toList (xs:=fn.results),List.mapM_toArray];simp only [Sem.run_map];rw [h1];rfl
 refine ⟨if h:us.toArray.size=1 then us.toArray[0] else .tuple us.toArray,?_,?_⟩
 ·unfold results;change ((fn.results.mapM (yk a))>>=fun vs=>pure (if h:vs.size=1 then vs[0] else .tuple vs):Sem Value).run P w=_;simp only [Sem.run_bind,hm];rfl
 ·cases us with
  |nil=>
   have:vs=[]:=A2 h2;subst this;simpa [dE] using af.aF (G:=G) (cs:=[]) (vs:=[]) rfl (by simp)
  |cons u us=>
   cases us with
   |nil=>
    obtain ⟨v,rfl⟩:∃ v,vs=[v]:=by
     cases vs with
     |nil=>simp at h2
     |cons v vs=>cases vs with
      |nil=>exact ⟨v,rfl⟩
      |cons _ _=>simp at h2
    simpa [dE] using h3 0 v u rfl rfl
   |cons u' us=>
    have hr:dE vs= .aF vs:=by
     cases vs with
     |nil=>rfl
     |cons v vs=>cases vs with
      |nil=>simp at h2
      |cons _ _=>rfl
    rw [hr];simpa using af.aF (G:=G) h2 h3
def bI (rs:List RV) (K:Out->St->Prop):er:=fun e D F S=>
 match e with
 |none=>D=[]/\(match fG F S rs with
  |some vs=>K (.ok (dE vs)) S
  |none=>False)
 |some v=>D=[]/\K (.eH v) S
def oX {t:Nat} {v:AV}:∀ {as:List AV} {i:Nat},(jx i as).lookup t=some v->i<=t/\as[t-i]? =some v
 |[],_,h=>by cases h
 |a::as,i,h=>by
  simp only [jx,List.lookup_cons] at h
  by_cases ht:t=i
  ·subst ht;simp at h;exact ⟨Af _,by simp [h]⟩
  ·have hb:(t==i)=false:=by simpa using ht
   rw [hb] at h;obtain ⟨h1,h2⟩:=oX h;refine ⟨by omega,?_⟩;rw [show t-i=(t-(i+1))+1 from by omega,List.getElem?_cons_succ];exact h2
def xm (P:Program) (n:Nat) (m:MC) (rs:List RV) (fn:Func):Bool:=
 (match fn.body with
  |some c=>m.fits P n c
  |none=>false) && fn.ntmps==n && qm P rs fn.results.toList
structure aD (P:Program) (f:FuncId) (n:Nat) (m:MC) (rs:List RV):Prop where
 call:∀ (args:Array Value) (w:World),(callFunc f args).run P w= .ok (.enter f args) w
 is:∃ fn c,P.funcs[f]? =some fn/\fn.body=some c/\fn.ntmps=n/\m.fits P n c=true/\qm P rs fn.results.toList=true
def aD.of {P:Program} {f:FuncId} {n:Nat} {m:MC} {rs:List RV} {fn:Func} (hc:∀ (args:Array Value) (w:World),(callFunc f args).run P w= .ok (.enter f args) w) (hf:P.funcs[f]? =some fn) (h:xm P n m rs fn=true):aD P f n m rs:=by
 unfold xm at h;simp only [Aa,beq_iff_eq] at h;obtain ⟨⟨h1,h2⟩,h3⟩:=h;split at h1
 ·rename_i c hb;exact ⟨hc,fn,c,hf,hb,h2,h1,h3⟩
 ·cases h1
def aD.o2 {P : Program} {f : FuncId} {n : Nat} {m : MC} {rs : List RV} {fn : Func} (hf : P.funcs[f]? = some fn) (h : (fn.name != "runtime.NumGoroutine" && xm P n m rs fn) = true) : aD P f n m rs := by
 simp only [Aa,bne_iff_ne,ne_eq] at h;refine .of (fun args w=>?_) hf h.2;have h2:=h.2;unfold xm at h2
 cases hb:fn.body with
 |none=>simp [hb] at h2
 |some c=>simp [callFunc,hf,h.1,hb]
def ao.aC {P:Program} {f:FuncId} {n:Nat} {m:MC} {rs:List RV} (hf:aD P f n m rs) {as:List AV} (hlen:as.length<=n) {S:St} {K:Out->St->Prop} (h:ah P n [.code m] [] (jx 0 as) S (bI rs K)):ao P f as S K:=by
 intro wb G w vs hS hv;obtain ⟨fn,c,h1,h3,h4,h5,h6⟩:=hf.is;unfold km;rw [hf.call];intro cs
 let b:Frame:={(default:Frame) with fn:=f,kind:= .normal,roundOf:=none}
 let a:Act:={tmps:=vs.toArray++Array.replicate (n-vs.toArray.size) undef,defers:=[]}
 have henter:Frame.enter P f vs.toArray .normal=b.atR a [.code c]:=by simp [Frame.enter,Frame.atR,h1,h3,h4,b,a]
 have hvl:=hv.len
 have hR:Rel wb n G S (jx 0 as) [] w a:=by
  refine ⟨hS,⟨fun t v e=>?_⟩,by simp [a];omega,trivial⟩;obtain ⟨_,h7⟩:=oX e;rw [Nat.sub_zero] at h7
  have ht:t<as.length:=by
   rcases Al t as.length with h'|h'
   ·exact h'
   ·rw [As h'] at h7;cases h7
  have htv:t<vs.length:=by omega
  refine ⟨by simp [a];omega,?_⟩
  have:a.tmps.getD t undef=vs[t]:=by
   simp only [a,Array.getD];have hsz:t<(vs.toArray++Array.replicate (n-vs.toArray.size) undef).size:=by simp;omega
   rw [dif_pos hsz];simp [htv]
  rw [this];exact hv.rel t v _ h7 (by simp [htv])
 obtain ⟨e,a',w',G',F',S',D',av,g1,g2,g3,g4,g5⟩:=h wb G w a b cs [.code c] (by rw [eo];simp only [MI.gN,b,MC.ru];rfl) ⟨h5,trivial⟩ hR;rw [<-henter] at g3
 cases e with
 |none=>
  cases av with
  |some _=>exact g4.elim
  |none=>
   simp only [bI] at g5;obtain ⟨rfl,g5⟩:=g5;split at g5
   ·rename_i us hus;obtain ⟨u,g6,g7⟩:=Gw (P:=P) g2 h6 hus;obtain ⟨todo,g8⟩:=g3.1 rfl
    have hdf:a'.defers=[]:=by
     have:=g2.df
     cases e2:a'.defers with
     |nil=>rfl
     |cons d ds=>rw [e2] at this;exact this.elim
    exact ⟨.returned u,w',_,⟨G',S',g1,g2.st,_,g7,g5⟩,g8,rfl,rfl,hdf,rfl,fn,h1,g6⟩
   ·exact g5.elim
 |some v=>
  cases av with
  |none=>exact g4.elim
  |some x=>
   simp only [bI] at g5;obtain ⟨rfl,g5⟩:=g5;obtain ⟨todo,g8⟩:=g3
   have hdf:a'.defers=[]:=by
    have:=g2.df
    cases e2:a'.defers with
    |nil=>rfl
    |cons d ds=>rw [e2] at this;exact this.elim
   exact ⟨.panicked [{v,recovered:=false}],w',_,⟨G',S',g1,g2.st,v,x,rfl,g4,g5⟩,g8,rfl,rfl,hdf,fn,h1⟩
def ah.post {P:Program} {n:Nat} {k:List MI} {D:ep} {F:Fr} {S:St} {Q Q':er} (h:ah P n k D F S Q) (hq:∀ e D F S,Q e D F S->Q' e D F S):ah P n k D F S Q':=by
 intro wb G w a b cs todo hb hf hR;obtain ⟨e,a',w',G',F',S',D',av,h1,h2,h3,h4,h5⟩:=h wb G w a b cs todo hb hf hR;exact ⟨e,a',w',G',F',S',D',av,h1,h2,h3,h4,hq _ _ _ _ h5⟩
def afM {wb:aT} {n:Nat} {G:Gh} {S:St} {w:World} {as:List AV} {vs:List Value} (hS:ax wb G S w) (hv:da G as vs) (hlen:as.length<=n):
  Rel wb n G S (jx 0 as) [] w {tmps:=vs.toArray++Array.replicate (n-vs.toArray.size) undef,defers:=[]}:=by
 have hvl:=hv.len;refine ⟨hS,⟨fun t v e=>?_⟩,by simp;omega,trivial⟩;obtain ⟨_,h7⟩:=oX e;rw [Nat.sub_zero] at h7
 have ht:t<as.length:=by
  rcases Al t as.length with h'|h'
  ·exact h'
  ·rw [As h'] at h7;cases h7
 have htv:t<vs.length:=by omega
 refine ⟨by simp;omega,?_⟩
 have:(vs.toArray++Array.replicate (n-vs.toArray.size) undef).getD t undef=vs[t]:=by
  simp only [Array.getD];have hsz:t<(vs.toArray++Array.replicate (n-vs.toArray.size) undef).size:=by simp;omega
  rw [dif_pos hsz];simp [htv]
 rw [this];exact hv.rel t v _ h7 (by simp [htv])
def abB {G:Gh} {pv:Option AV} {u:FrameMode} (h:Ii G pv u):settle (akH u)= .returning:=by
 cases pv with
 |none=>have:u= .returning:=h;subst this;rfl
 |some p=>obtain ⟨v,rfl,_⟩:=h;rfl
def RV.slot:RV->Nat
 | .t n=>n
 | .c a _ _=>a
def vi {F F':Fr} {S:St}:∀ {rs:List RV},(∀ r∈rs,F.get r.slot=F'.get r.slot)->fG F S rs=fG F' S rs
 |[],_=>rfl
 |r::rs,h=>by
  have h1:jS F S r=jS F' S r:=by
   have:=h r (by simp);cases r<;>simp only [jS,RV.slot] at this ⊢<;>rw [this]
  simp only [fG,h1,vi (rs:=rs) fun r hr=>h r (by simp [hr])]
def al (r:AV):Prop:=∀ (G G':Gh) (v:Value),(∀ a o x,G.φ a o=some x->G'.φ a o=some x)->af G r v->af G' r v
def al.bool (b:Bool):al (.bool b):=fun G G' v _ h=>by cases h;exact .bool _
def al.int (k:IntKind) (n:Int):al (.int k n):=fun G G' v _ h=>by cases h;exact .int _ _
def al.str (s:List UInt8):al (.str s):=fun G G' v _ h=>by cases h;exact .str _
def al.cV:al .cV:=fun G G' v _ h=>by cases h;exact .cV
def al.cY:al .cY:=fun G G' v _ h=>by cases h;exact .cY
def al.fw:al .fw:=fun G G' v _ h=>by cases h;exact .fw
def al.de:al .de:=fun _ _ _ _ _=> .de _
def al.gp (g o:Nat):al (.gp g o):=fun G G' v _ h=>by cases h;exact .gp _ _
def al.cI {t:TypeId} {c:AV} (hc:al c):al (.cI t c):=fun G G' v hp h=>by cases h;exact .cI t (hc G G' _ hp ‹_›)
def al.agg {cs:List AV} (hc:∀ c∈cs,al c):al (.agg cs):=fun G G' v hp h=>by
 cases h;rename_i vs ho hl hv;exact .agg hl ho fun m c v h1 h2=>hc c (Aj h1) G G' v hp (hv m c v h1 h2)
def al.aF {cs:List AV} (hc:∀ c∈cs,al c):al (.aF cs):=fun G G' v hp h=>by
 cases h;rename_i vs hl hv;exact .aF hl fun m c v h1 h2=>hc c (Aj h1) G G' v hp (hv m c v h1 h2)
def Oy {xs:List AV} {c:AV} (h:c∈flat xs):∃ x∈xs,c∈x.cells:=by simpa [flat,List.mem_flatMap] using h
def al.sl {k:Nat} {xs:List AV} {t:bE} (hx:∀ x∈xs,∀ c∈x.cells,al c) (ht:t= .ai∨t= .exact):al (.sl k xs t):=fun G G' v hp h=>by
 cases h with
 |slnil=>exact .slnil _ _ _
 |sl f hk hf ho hv hc htk=>
  refine .sl f hk (fun m c e=>hp _ _ _ (hf m c e)) ho (fun m c e=>?_) hc ?_
  ·obtain ⟨x,h1,h2⟩:=Oy (Aj e);exact hx x h1 c h2 G G' _ hp (hv m c e)
  ·cases t with
   |ai=>trivial
   |exact=>exact htk
   |tok n=>simp at ht
   |new n=>simp at ht
def al.func {f:Fn} {as cs:List AV} (ha:∀ c∈as,al c) (hc:∀ c∈cs,al c):al (.fn f as cs):=fun G G' v hp h=>by
 cases h;rename_i vs ws h1 hv h2 hw;exact .fn f h1 h2 (fun m c v e1 e2=>ha c (Aj e1) G G' v hp (hv m c v e1 e2)) (fun m c v e1 e2=>hc c (Aj e1) G G' v hp (hw m c v e1 e2))
def St.none (gl:List (Nat×List AV)):St:=⟨0,[],0,[],gl⟩
def ax.start {wb:aT} {G:Gh} {S:St} {w:World} (h:ax wb G S w) (hg:∀ g cs,S.gl.lookup g=some cs->∀ c∈cs,al c):
  ax {toWorld:=w,φ:=G.φ,vG:=h.vG} ⟨G.φ,fun _=>Option.none,fun _=>Option.none,w.heap.size,G.κ⟩ (.none S.gl) w where
 prom:=h.prom
 apart:=fun l cs r o e=>by cases e
 room:=fun l cs r e=>by cases e
 obj:=fun l cs e=>by cases e
 beta:=rfl
 bu:=fun l s e=>by cases e
 dy:=fun l l' s s' e=>by cases e
 inj:=fun l l' r cs cs' e=>by cases e
 bT:=fun l r e=>by cases e
 tok:=fun t ht=>by cases ht
 bQ:=fun t x e=>by cases e
 cP:=fun t ht=>by cases ht
 base:=⟨Af _,fun _ _=>rfl⟩
 cH:=fun r o v _ e=>e
 still:=⟨rfl,rfl,rfl⟩
 cF:=fun g cs e m c hm=>by
  obtain ⟨v,h1,h2,h3⟩:=h.cF g cs e m c hm;exact ⟨v,h1,hg g cs e c (Aj hm) G _ _ (fun _ _ _ e=>e) h2,h3⟩
def ax.frame {wb:aT} {G G':Gh} {S S':St} {w w':World} (h:ax wb G S w) (h':ax {toWorld:=w,φ:=G.φ,vG:=h.vG} G' S' w') (hφ:∀ r o v,G.φ r o=some v->G'.φ r o=some v):
  ax wb ⟨G'.φ,G.σ,G.τ,G.β,G.κ⟩ S w':=by
 have hle:G.le ⟨G'.φ,G.σ,G.τ,G.β,G.κ⟩:=⟨hφ,fun _ _ e=>e,fun _ _ e=>e,rfl,fun _ _ _=>rfl⟩
 have hcell:∀ r o,r<w.heap.size->w'.cell? ⟨r,o,Option.none⟩=w.cell? ⟨r,o,Option.none⟩:=fun r o hr=>by
  have:w'.heap[r]? =w.heap[r]? :=h'.base.2 r hr;simp only [World.cell?,this]
 have hfroz:∀ r o,r<w.heap.size->w'.frozen? ⟨r,o,Option.none⟩=w.frozen? ⟨r,o,Option.none⟩:=fun r o hr=>by
  have:w'.heap[r]? =w.heap[r]? :=h'.base.2 r hr;simp only [World.frozen?,this]
 have hsz:w.heap.size<=w'.heap.size:=h'.base.1;have hold:∀ r o v,r<w.heap.size->G'.φ r o=some v->G.φ r o=some v:=fun r o v hr e=>h'.cH r o v hr e
 refine {prom:=h'.prom,room:=fun l cs r hl hnb e=>by
           obtain ⟨q1,q2⟩:=h.room l cs r hl hnb e;have hlt:=(h.bT l r e).2.2
           exact ⟨⟨q1.1,q1.2.to (by
            have:w'.heap[r]? =w.heap[r]? :=h'.base.2 r hlt
            simp only [World.shape?,this]) (hfroz _ _ hlt)⟩,fun m hm=>by rw [hcell _ _ hlt,hfroz _ _ hlt];exact q2 m hm⟩,apart:=?_,obj:=?_,inj:=h.inj,bT:=?_,tok:=?_,bQ:=?_,cP:=h.cP,base:=?_,cH:=?_,still:=?_,beta:=h.beta,cF:=?_,bu:=?_,dy:=h.dy}
 rotate_right
 ·intro l s hl hsp0;obtain ⟨r,hr,hb⟩:=h.bu l s hl hsp0;refine ⟨r,hr,hb.to hle (fun hlt=>h'.base.2 r hlt) fun g hg _ _ hal=>⟨h'.base.2 g hg,fun o=>?_,hal.2.1,hal.2.2⟩⟩
  cases e2:G'.φ g o with
  |none=>rfl
  |some v=>have:=hold g o v hg e2;rw [hal.1 o] at this;cases this
 ·intro l cs r o hl hd e;have hr:=(h.bT l r e).2.2
  cases e2:G'.φ r o with
  |none=>rfl
  |some v=>have:=hold r o v hr e2;rw [h.apart l cs r o hl hd e] at this;cases this
 ·intro l cs hl hnb;obtain ⟨r,hr,hm⟩:=h.obj l cs hl hnb;have hlt:=(h.bT l r hr).2.2;refine ⟨r,hr,fun m c hmc=>?_⟩;obtain ⟨v,h1,h2,h3,h4⟩:=hm m c hmc;exact ⟨v,by rw [hcell _ _ hlt];exact h1,h2.mono hle,h3,by rw [hfroz _ _ hlt];exact h4⟩
 ·intro l r e;have:=h.bT l r e;omega
 ·intro t ht;obtain ⟨r,e,z,h1,h2⟩:=h.tok t ht;refine ⟨r,e,z,h1,fun o h3 h4=>?_⟩;have hlt:=(h.bQ t _ h1).2 (by show e<z;omega);obtain ⟨h5,h6,h7,h8,h9⟩:=h2 o h3 h4;refine ⟨h5,h6,by rw [hcell _ _ hlt];exact h7,by rw [hfroz _ _ hlt];exact h8,?_⟩
  cases e2:G'.φ r o with
  |none=>rfl
  |some v=>have:=hold r o v hlt e2;rw [h9] at this;cases this
 ·intro t x e;have:=h.bQ t x e;exact ⟨this.1,fun h'=>by have:=this.2 h';omega⟩
 ·refine ⟨by have:=h.base.1;omega,fun r hr=>?_⟩;rw [show w'.heap[r]? =w.heap[r]? from h'.base.2 r (by have:=h.base.1;show r<w.heap.size;omega)];exact h.base.2 r hr
 ·intro r o v hr e;exact h.cH r o v hr (hold r o v (by have:=h.base.1;omega) e)
 ·obtain ⟨h1,h2,h3⟩:=h'.still;obtain ⟨h4,h5,h6⟩:=h.still;exact ⟨h1.trans h4,h2.trans h5,h3.trans h6⟩
 ·intro g cs hg m c hmc;obtain ⟨v,h1,h2,h3⟩:=h.cF g cs hg m c hmc;exact ⟨v,hφ _ _ _ h1,h2.mono hle,h3⟩
def ao.lift {P:Program} {f:FuncId} {as:List AV} {S:St} {K:Out->Prop} (h:ao P f as (.none S.gl) fun o _=>K o) (ha:∀ a∈as,al a) (hg:∀ g cs,S.gl.lookup g=some cs->∀ c∈cs,al c)
  (hK:∀ r,K (.ok r)->al r) (hK':∀ r,K (.eH r)->al r):ao P f as S fun o S'=>S'=S/\K o:=by
 intro wb G w vs hS hv;have hst:=hS.start hg;have hv0:da ⟨G.φ,fun _=>Option.none,fun _=>Option.none,w.heap.size,G.κ⟩ as vs:=⟨hv.len,fun m c v e1 e2=>ha c (Aj e1) G _ v (fun _ _ _ e=>e) (hv.rel m c v e1 e2)⟩;refine (h _ _ w vs hst hv0).mono fun e w' ⟨G',S',h1,h2,h3⟩=>?_;have hφ:∀ r o v,G.φ r o=some v->G'.φ r o=some v:=fun r o v e=>h1.φ r o v e;refine ⟨⟨G'.φ,G.σ,G.τ,G.β,G.κ⟩,S,⟨hφ,fun _ _ e=>e,fun _ _ e=>e,rfl,fun _ _ _=>rfl⟩,hS.frame h2 hφ,?_⟩
 cases e with
 |returned v=>obtain ⟨r,h4,h5⟩:=h3;exact ⟨r,hK r h5 G' _ v (fun _ _ _ e=>e) h4,rfl,h5⟩
 |panicked ch=>obtain ⟨v,av,h4,h5,h6⟩:=h3;exact ⟨v,av,h4,hK' av h6 G' _ v (fun _ _ _ e=>e) h5,rfl,h6⟩
 |outgrown=>exact h3
end Go.V
namespace Go.V
open Go
def mw (P:Program) (n:Nat) (Q:er):Nat->List MI->ep->Fr->St->Prop
 |0,k,D,F,S=>ah P n k D F S Q
 |fu+1,k,D,F,S=>match k with
  |[]=>Q none D F S
  | .inBlock _::k=>mw P n Q fu k D F S
  | .inLoop x::k=>ah P n (.inLoop x::k) D F S Q
  | .begin l::k=>ah P n (.begin l::k) D F S Q
  | .code c::k=>match c with
   | .skip=>mw P n Q fu k D F S
   | .seq a b=>mw P n Q fu (.code a:: .code b::k) D F S
   | .block i a=>mw P n Q fu (.code a:: .inBlock i::k) D F S
   | .exit i=>match fF i k with
    |some k'=>mw P n Q fu k' D F S
    |none=>False
   | .ret=>Q none D F S
   | .loop x=>ah P n (.code (.loop x)::k) D F S Q
   | .named kp x=>ah P n (.code x::k) D (cu kp F) S Q
   | .cond c a b=>match c.ev F with
    | .bool t=>(t=true->mw P n Q fu (.code a::k) D F S)/\(t=false->mw P n Q fu (.code b::k) D F S)
    |_=>False
   | .iG l kp=>cD P l (fun o F' S'=>match o with
    |none=>mw P n Q fu k D (cu kp F') S'
    |some v=>Q (some v) D F' S') F S
   | .any pl pr kp=>DB Q pl.y4/\bf P (fun o F' S'=>match o with
    |none=>mw P n Q fu k D (cu kp F') S'
    |some v=>Q (some v) D F' S') S (fA F pr) pl F S
   | .bad=>False
   | .yd g ps a b=>ah P n (.code (.yd g ps a b)::k) D F S Q
def KW (P:Program) (n:Nat) (Q:er) (fu:Nat) (k:List MI) (kp:List Nat) (D:ep):Option AV->Fr->St->Prop:=fun o F' S'=>match o with
 |none=>mw P n Q fu k D (cu kp F') S'
 |some v=>Q (some v) D F' S'
def mO {P:Program} {o:aV} {K K':Option AV->Fr->St->Prop} {nx nx':Fr->St->Prop} (hK:∀ v F S,K (some v) F S->K' (some v) F S) (hn:∀ F S,nx F S->nx' F S) {F:Fr} {S:St} (h:bj P o K nx F S):bj P o K' nx' F S:=by
 obtain ⟨ix,dst,gd,op⟩:=o
 cases op with
 |k m=>
  simp only [bj] at h ⊢;refine ⟨h.1,?_⟩;have:=h.2;split at this
  ·exact hn _ _ this
  ·exact this.elim
 |panic x=>
  simp only [bj] at h ⊢;split at h
  ·exact hK _ _ _ h
  ·exact h.elim
 |it m=>
  simp only [bj] at h ⊢;exact EL (fun v S h=>hn _ _ h) h
 |call c as=>
  simp only [bj] at h ⊢;split at h
  ·refine h.mono fun out S' ho=>?_
   cases out with
   |ok r=>exact hn _ _ ho
   |eH v=>exact hK _ _ _ ho
  ·refine h.mono fun out S' ho=>?_
   cases out with
   |ok r=>exact hn _ _ ho
   |eH v=>exact hK _ _ _ ho
  ·exact h.elim
def Ft {P:Program} {K K':Option AV->Fr->St->Prop} (hK:∀ o F S,K o F S->K' o F S):∀ (l:List aV) {F:Fr} {S:St},cD P l K F S->cD P l K' F S
 |[],_,_,h=>hK _ _ _ h
 |o::l,F,S,h=>by
  have ih:=fun F S=>Ft (P:=P) hK l (F:=F) (S:=S);have hs:=fun F S=>mO (P:=P) (o:=o) (fun v F S=>hK (some v) F S) ih (F:=F) (S:=S);simp only [cD] at h ⊢;unfold bC at h ⊢;split at h
  ·exact hs _ _ h
  ·split at h
   ·exact ⟨fun e=>hs _ _ (h.1 e),fun e=>ih _ _ (h.2 e)⟩
   ·exact ih _ _ h
   ·exact h.elim
def jQ {P:Program} {K K':Option AV->Fr->St->Prop} (hK:∀ o F S,K o F S->K' o F S) {S0:St} {Ls:List Nat}:∀ (pl:bD) {F:Fr} {S:St},bf P K S0 Ls pl F S->bf P K' S0 Ls pl F S
 | .done,_,_,h=>hK _ _ _ h
 | .one o lo nd r,F,S,h=>by
  have hx:∀ F' S',((nd=true->aX S0 Ls S')/\bf P K S0 Ls r F' S')->((nd=true->aX S0 Ls S')/\bf P K' S0 Ls r F' S'):=fun F' S' h=>⟨h.1,jQ hK r h.2⟩;have hs:=fun F S=>mO (P:=P) (o:=o) (fun v F S=>hK (some v) F S) hx (F:=F) (S:=S);simp only [bf] at h ⊢;unfold bC at h ⊢;split at h
  ·exact ⟨h.1,hs _ _ h.2⟩
  ·split at h
   ·exact ⟨fun e=>⟨(h.1 e).1,hs _ _ (h.1 e).2⟩,fun e=>hx _ _ (h.2 e)⟩
   ·exact hx _ _ h
   ·exact h.elim
 | .two o1 n1 r1 o2 n2 r2,F,S,h=>by
  have key:∀ (o:aV) (nd:Bool) (r:bD),(∀ F S,bf P K S0 Ls r F S->bf P K' S0 Ls r F S)->bC o (bj P o K fun F' S'=>(nd=true->aX S0 Ls S')/\bf P K S0 Ls r F' S') (fun F' S'=>(nd=true->aX S0 Ls S')/\bf P K S0 Ls r F' S') F S->
    bC o (bj P o K' fun F' S'=>(nd=true->aX S0 Ls S')/\bf P K' S0 Ls r F' S') (fun F' S'=>(nd=true->aX S0 Ls S')/\bf P K' S0 Ls r F' S') F S:=by
   intro o nd r ih h;have hx:∀ F' S',((nd=true->aX S0 Ls S')/\bf P K S0 Ls r F' S')->((nd=true->aX S0 Ls S')/\bf P K' S0 Ls r F' S'):=fun F' S' h=>⟨h.1,ih _ _ h.2⟩;have hs:=fun F S=>mO (P:=P) (o:=o) (fun v F S=>hK (some v) F S) hx (F:=F) (S:=S);unfold bC at h ⊢;split at h
   ·exact hs _ _ h
   ·split at h
    ·exact ⟨fun e=>hs _ _ (h.1 e),fun e=>hx _ _ (h.2 e)⟩
    ·exact hx _ _ h
    ·exact h.elim
  exact ⟨key o1 n1 r1 (fun F S=>jQ hK r1) h.1,key o2 n2 r2 (fun F S=>jQ hK r2) h.2⟩
 | .iI o1 n1 r1 o2 n2 r2 o3 n3 r3,F,S,h=>by
  have key:∀ (o:aV) (nd:Bool) (r:bD),(∀ F S,bf P K S0 Ls r F S->bf P K' S0 Ls r F S)->bC o (bj P o K fun F' S'=>(nd=true->aX S0 Ls S')/\bf P K S0 Ls r F' S') (fun F' S'=>(nd=true->aX S0 Ls S')/\bf P K S0 Ls r F' S') F S->
    bC o (bj P o K' fun F' S'=>(nd=true->aX S0 Ls S')/\bf P K' S0 Ls r F' S') (fun F' S'=>(nd=true->aX S0 Ls S')/\bf P K' S0 Ls r F' S') F S:=by
   intro o nd r ih h;have hx:∀ F' S',((nd=true->aX S0 Ls S')/\bf P K S0 Ls r F' S')->((nd=true->aX S0 Ls S')/\bf P K' S0 Ls r F' S'):=fun F' S' h=>⟨h.1,ih _ _ h.2⟩;have hs:=fun F S=>mO (P:=P) (o:=o) (fun v F S=>hK (some v) F S) hx (F:=F) (S:=S);unfold bC at h ⊢;split at h
   ·exact hs _ _ h
   ·split at h
    ·exact ⟨fun e=>hs _ _ (h.1 e),fun e=>hx _ _ (h.2 e)⟩
    ·exact hx _ _ h
    ·exact h.elim
  exact ⟨key o1 n1 r1 (fun F S=>jQ hK r1) h.1,key o2 n2 r2 (fun F S=>jQ hK r2) h.2.1,key o3 n3 r3 (fun F S=>jQ hK r3) h.2.2⟩
def ab {P:Program} {n:Nat} {Q:er}:∀ (fu:Nat) {k:List MI} {D:ep} {F:Fr} {S:St},mw P n Q fu k D F S->ah P n k D F S Q
 |0,_,_,_,_,h=>h
 |fu+1,k,D,F,S,h=>by
  simp only [mw] at h;split at h
  ·exact .done h
  ·exact .inBlock (ab fu h)
  ·exact h
  ·exact h
  ·split at h
   ·exact .skip (ab fu h)
   ·exact .seq (ab fu h)
   ·exact .block (ab fu h)
   ·split at h
    ·exact .exit ‹_› (ab fu h)
    ·exact h.elim
   ·exact .ret h
   ·exact h
   ·exact .named h
   ·split at h
    ·exact .cond ‹_› (fun e=>ab fu (h.1 e)) (fun e=>ab fu (h.2 e))
    ·exact h.elim
   ·refine .iG (Ft (fun o F' S' hk=>?_) _ h)
    cases o with
    |none=>exact ab fu hk
    |some v=>exact hk
   ·refine .any h.1 (jQ (fun o F' S' hk=>?_) _ h.2)
    cases o with
    |none=>exact ab fu hk
    |some v=>exact hk
   ·exact h.elim
   ·exact h
def exK (P:Program) (n:Nat) (Q:er) (fu:Nat) (D:ep) (F:Fr) (S:St):Option (List MI)->Prop
 |some k'=>mw P n Q fu k' D F S
 |none=>False
def Ec (P:Program) (n:Nat) (Q:er) (fu:Nat) (a b:MC) (k:List MI) (D:ep) (F:Fr) (S:St):AV->Prop
 | .bool t=>(t=true->mw P n Q fu (.code a::k) D F S)/\(t=false->mw P n Q fu (.code b::k) D F S)
 |_=>False
section eqs
variable {P:Program} {n:Nat} {Q:er} {fu:Nat} {k:List MI} {D:ep} {F:Fr} {S:St}
def aah:mw P n Q (fu+1) [] D F S=Q none D F S:=rfl
def OC (l:Nat):mw P n Q (fu+1) (.begin l::k) D F S=ah P n (.begin l::k) D F S Q:=rfl
def aak (g:aj) (ps:List Nat) (a b:MC):mw P n Q (fu+1) (.code (.yd g ps a b)::k) D F S=ah P n (.code (.yd g ps a b)::k) D F S Q:=rfl
def JB (i:Nat):mw P n Q (fu+1) (.inBlock i::k) D F S=mw P n Q fu k D F S:=rfl
def L7 (x:MC):mw P n Q (fu+1) (.inLoop x::k) D F S=ah P n (.inLoop x::k) D F S Q:=rfl
def UF:mw P n Q (fu+1) (.code .skip::k) D F S=mw P n Q fu k D F S:=rfl
def aal (a b:MC):mw P n Q (fu+1) (.code (.seq a b)::k) D F S=mw P n Q fu (.code a:: .code b::k) D F S:=rfl
def OD (i:Nat) (a:MC):mw P n Q (fu+1) (.code (.block i a)::k) D F S=mw P n Q fu (.code a:: .inBlock i::k) D F S:=rfl
def UD (i:Nat):mw P n Q (fu+1) (.code (.exit i)::k) D F S=exK P n Q fu D F S (fF i k):=rfl
def NR:exK P n Q fu D F S (some k)=mw P n Q fu k D F S:=rfl
def aaj:mw P n Q (fu+1) (.code .ret::k) D F S=Q none D F S:=rfl
def UE (x:MC):mw P n Q (fu+1) (.code (.loop x)::k) D F S=ah P n (.code (.loop x)::k) D F S Q:=rfl
def OE (kp:List Nat) (x:MC):mw P n Q (fu+1) (.code (.named kp x)::k) D F S=ah P n (.code x::k) D (cu kp F) S Q:=rfl
def UC (c:aj) (a b:MC):mw P n Q (fu+1) (.code (.cond c a b)::k) D F S=Ec P n Q fu a b k D F S (c.ev F):=by simp only [mw,Ec]
def NI (a b:MC) (t:Bool):Ec P n Q fu a b k D F S (.bool t)=((t=true->mw P n Q fu (.code a::k) D F S)/\(t=false->mw P n Q fu (.code b::k) D F S)):=rfl
def NJ (a b:MC):Ec P n Q fu a b k D F S (.bool true)=mw P n Q fu (.code a::k) D F S:=by simp [Ec]
def KE (a b:MC):Ec P n Q fu a b k D F S (.bool false)=mw P n Q fu (.code b::k) D F S:=by simp [Ec]
def aai (l:List aV) (kp:List Nat):mw P n Q (fu+1) (.code (.iG l kp)::k) D F S=cD P l (KW P n Q fu k kp D) F S:=rfl
def aag (pl:bD) (pr kp:List Nat):mw P n Q (fu+1) (.code (.any pl pr kp)::k) D F S=(DB Q pl.y4/\bf P (KW P n Q fu k kp D) S (fA F pr) pl F S):=rfl
def Q6 (kp:List Nat):KW P n Q fu k kp D none F S=mw P n Q fu k D (cu kp F) S:=rfl
def Q7 (kp:List Nat) (v:AV):KW P n Q fu k kp D (some v) F S=Q (some v) D F S:=rfl
def rZ (i j:Nat):fF i (.inBlock j::k)=if j=i then some k else fF i k:=rfl
def Jx (i:Nat) (c:MC):fF i (.code c::k)=fF i k:=rfl
def sQ (i:Nat) (c:MC):fF i (.inLoop c::k)=fF i k:=rfl
end eqs
def bt (P:Program) (f:FuncId) (as:List AV) (d:Option Nat) (l:List aV) (K:Option AV->Fr->St->Prop) (F:Fr) (S:St):Prop:=
 ao P f as S (fun out S'=>match out with
  | .ok r=>cD P l K (aS d r F) S'
  | .eH v=>K (some v) F S')
def wE (P:Program) (y:Nat) (as:List AV) (d:Option Nat) (l:List aV) (K:Option AV->Fr->St->Prop) (F:Fr) (S:St):Prop:=
 lM P y as S (fun out S'=>match out with
  | .ok r=>cD P l K (aS d r F) S'
  | .eH v=>K (some v) F S')
def mu (P:Program) (m:MT) (d:Option Nat) (l:List aV) (K:Option AV->Fr->St->Prop) (F:Fr) (S:St):Prop:=pY m (fun r S'=>cD P l K (aS d r F) S') F S
def evK (P:Program) (l:List aV) (d:Option Nat) (K:Option AV->Fr->St->Prop) (F:Fr):Option (AV×St)->Prop
 |some (r,S')=>cD P l K (aS d r F) S'
 |none=>False
def pnK (K:Option AV->Fr->St->Prop) (F:Fr) (S:St):AV->Prop
 | .cI t v=>K (some (.cI t v)) F S
 |_=>False
def V7 (P:Program) (as:List aj) (d:Option Nat) (l:List aV) (K:Option AV->Fr->St->Prop) (F:Fr) (S:St):AV->Prop
 | .fn (.func f) first caps=>bt P f (first++as.map (aj.ev F)++caps) d l K F S
 | .fn (.yield y) [] []=>wE P y (as.map (aj.ev F)) d l K F S
 |_=>False
def sA (P:Program) (ix:Nat) (d:Option Nat) (op:MX) (t:Nat) (b:Bool) (l:List aV) (K:Option AV->Fr->St->Prop) (F:Fr) (S:St):AV->Prop
 | .bool c=>(c=b->cD P (⟨ix,d,none,op⟩::l) K ((t,.bool b)::F) S)/\(c= !b->cD P l K (aS d (.aF []) ((t,.bool (!b))::F)) S)
 | .aF []=>cD P l K (aS d (.aF []) F) S
 |_=>False
section eqs2
variable {P:Program} {K:Option AV->Fr->St->Prop} {F:Fr} {S:St} {l:List aV} {ix:Nat} {d:Option Nat}
def UA:cD P [] K F S=K none F S:=rfl
def aeJ (m:MK):cD P (⟨ix,d,none,.k m⟩::l) K F S=(m.ob F S/\evK P l d K F (m.ev F S)):=by
 show (m.ob F S/\_)=_
 congr 1
def NQ (r:AV) (S':St):evK P l d K F (some (r,S'))=cD P l K (aS d r F) S':=rfl
def LW (x:aj):cD P (⟨ix,d,none,.panic x⟩::l) K F S=pnK K F S (x.ev F):=rfl
def aab (m:MT):cD P (⟨ix,d,none,.it m⟩::l) K F S=mu P m d l K F S:=rfl
def mu.FJ {x:aj} {k bm clock:Nat} {es:Array MapEntry} (hx:x.ev F= .mp k) (hk:S.get k=some [.aL bm (.map es clock) [] []]) (h:∀ ri,cD P l K (aS d (.ptr S.n 0) F) {S with n:=S.n+1,obj:=(S.n,[.aL ri (.mapIter (some bm) clock #[] clock) [] []])::S.obj}):mu P (.FJ x) d l K F S:=by
 unfold mu pY;simp only [MT.x,hx];exact ⟨bm,es,clock,hk,h⟩
def mu.Fx {x:aj} {i ri bm since c0 k clock:Nat} {seen:Array Nat} {es:Array MapEntry} (hx:x.ev F= .ptr i 0) (hi:S.get i=some [.aL ri (.mapIter (some bm) since seen c0) [] []]) (hk:S.get k=some [.aL bm (.map es clock) [] []]) (h1:∀ e∈es.toList,e.born<since) (h2:since<=c0)
  (h3:(leftOf es seen).size=0->cD P l K (aS d (.aF [.bool false]) F) S) (h4:∀ e∈(leftOf es seen).toList,cD P l K (aS d (.aF [.bool true,.de,.de]) F) (S.cK i [.aL ri (.mapIter (some bm) since (seen.push e.born) clock) [] []])):mu P (.Fx x) d l K F S:=by
 unfold mu pY;simp only [MT.x,hx];exact ⟨ri,bm,since,seen,c0,k,es,clock,hi,hk,h1,h2,h3,h4⟩
def mu.lR {x:aj} {i ri bm since c0 k:Nat} {seen:Array Nat} {es:Array MapEntry} {e:MapEntry} {kk vv:AV} (hx:x.ev F= .ptr i 0) (hi:S.get i=some [.aL ri (.mapIter (some bm) since (seen.push e.born) c0) [] []]) (hk:S.get k=some [.aL bm (.map es c0) [] []]) (he:e∈es.toList) (hn:(es.toList.map (·.born)).Nodup)
  (h1:∀ G,af G kk e.key) (h2:∀ G,af G vv e.val) (h:cD P l K (aS d (.aF [kk,vv]) F) S):mu P (.lR x) d l K F S:=by
 unfold mu pY;simp only [MT.x,hx];exact ⟨ri,bm,since,seen,c0,k,es,e,kk,vv,hi,hk,he,hn,h1,h2,h⟩
def mu.vP {x:aj} {k:Nat} {ks vs:List AV} (hx:x.ev F= .mp k) (hk:S.get k=some [.eX ks vs]) (h:cD P l K (aS d (.int .i64 (ks.length:Nat)) F) S):mu P (.vP x) d l K F S:=by
 unfold mu pY;simp only [MT.x,hx];exact ⟨ks,vs,hk,h⟩
def mu.Fq {x:aj} {bytes:Nat} {z:AV} {q:IntKind} {n:Nat} (hx:x.ev F= .int q (n:Int)) (hb:bytes*n<=281474976710656) (h63:n<=9223372036854775807) (h:cD P l K (aS d (.b9 1 0 S.n 0 n) F) {S with n:=S.n+1,obj:=(S.n,List.replicate n z)::S.obj}):mu P (.Fq bytes z x) d l K F S:=by
 unfold mu pY;simp only [MT.x,hx];exact ⟨by omega,by rw [<-Int.natCast_mul];omega,by omega,h⟩
def U2 (t:TypeId) (v:AV):pnK K F S (.cI t v)=K (some (.cI t v)) F S:=rfl
def OA (c:aj) (as:List aj):cD P (⟨ix,d,none,.call c as⟩::l) K F S=V7 P as d l K F S (c.ev F):=rfl
def V8 (f:FuncId) (first caps:List AV) (as:List aj):V7 P as d l K F S (.fn (.func f) first caps)=bt P f (first++as.map (aj.ev F)++caps) d l K F S:=rfl
def Re (y:Nat) (as:List aj):V7 P as d l K F S (.fn (.yield y) [] [])=wE P y (as.map (aj.ev F)) d l K F S:=rfl
def LV (t:Nat) (b:Bool) (op:MX):cD P (⟨ix,d,some (t,b),op⟩::l) K F S=sA P ix d op t b l K F S (F.get t):=by cases op<;>rfl
def N7 (t:Nat) (b c:Bool) (op:MX):sA P ix d op t b l K F S (.bool c)=((c=b->cD P (⟨ix,d,none,op⟩::l) K ((t,.bool b)::F) S)/\(c= !b->cD P l K (aS d (.aF []) ((t,.bool (!b))::F)) S)):=rfl
def EC (t:Nat) (b:Bool) (op:MX):sA P ix d op t b l K F S (.bool b)=cD P (⟨ix,d,none,op⟩::l) K ((t,.bool b)::F) S:=by simp [sA]
def Xi (t:Nat) (op:MX):sA P ix d op t true l K F S (.bool true)=cD P (⟨ix,d,none,op⟩::l) K ((t,.bool true)::F) S:=EC t true op
def Xf (t:Nat) (op:MX):sA P ix d op t false l K F S (.bool false)=cD P (⟨ix,d,none,op⟩::l) K ((t,.bool false)::F) S:=EC t false op
def Xh (t:Nat) (op:MX):sA P ix d op t true l K F S (.bool false)=cD P l K (aS d (.aF []) ((t,.bool false)::F)) S:=by simp [sA]
def Xg (t:Nat) (op:MX):sA P ix d op t false l K F S (.bool true)=cD P l K (aS d (.aF []) ((t,.bool true)::F)) S:=by simp [sA]
def TO (t:Nat) (b:Bool) (op:MX):sA P ix d op t b l K F S (.aF [])=cD P l K (aS d (.aF []) F) S:=rfl
def ME (t:Nat) (v:AV):aS (some t) v F=(t,v)::F:=rfl
def MD (v:AV):aS none v F=F:=rfl
def gV (t u:Nat) (v:AV) (F:Fr):List.lookup t ((u,v)::F)=if t=u then some v else List.lookup t F:=by
 rw [List.lookup_cons]
 by_cases h:t=u
 ·subst h;simp
 ·have:(t==u)=false:=by simpa using h
  simp [this,h]
def eS (l m n nt:Nat) (cs:List AV) (ob:List (Nat×List AV)) (live:List Nat) (gl:List (Nat×List AV)):St.get ⟨n,(m,cs)::ob,nt,live,gl⟩ l=if l=m then some cs else St.get ⟨n,ob,nt,live,gl⟩ l:=by
 simp only [St.get,List.lookup_cons]
 by_cases h:l=m
 ·subst h;simp
 ·have:(l==m)=false:=by simpa using h
  simp [this,h]
def abh (l n nt:Nat) (cs:List AV) (ob:List (Nat×List AV)) (live:List Nat) (gl:List (Nat×List AV)):St.set ⟨n,ob,nt,live,gl⟩ l cs=⟨n,(l,cs)::ob,nt,live,gl⟩:=rfl
end eqs2
def dg (P:Program) (f:FuncId) (as:List AV) (d:Option Nat) (nd:Bool) (r:bD) (K:Option AV->Fr->St->Prop) (S0:St) (Ls:List Nat) (F:Fr) (S:St):Prop:=
 ao P f as S (fun out S'=>match out with
  | .ok v=>(nd=true->aX S0 Ls S')/\bf P K S0 Ls r (aS d v F) S'
  | .eH v=>K (some v) F S')
def tG (P:Program) (y:Nat) (as:List AV) (d:Option Nat) (nd:Bool) (r:bD) (K:Option AV->Fr->St->Prop) (S0:St) (Ls:List Nat) (F:Fr) (S:St):Prop:=
 lM P y as S (fun out S'=>match out with
  | .ok v=>(nd=true->aX S0 Ls S')/\bf P K S0 Ls r (aS d v F) S'
  | .eH v=>K (some v) F S')
def aaE (P:Program) (d:Option Nat) (nd:Bool) (r:bD) (K:Option AV->Fr->St->Prop) (S0:St) (Ls:List Nat) (F:Fr):Option (AV×St)->Prop
 |some (v,S')=>(nd=true->aX S0 Ls S')/\bf P K S0 Ls r (aS d v F) S'
 |none=>False
def OR (P:Program) (as:List aj) (d:Option Nat) (nd:Bool) (r:bD) (K:Option AV->Fr->St->Prop) (S0:St) (Ls:List Nat) (F:Fr) (S:St):AV->Prop
 | .fn (.func f) first caps=>dg P f (first++as.map (aj.ev F)++caps) d nd r K S0 Ls F S
 | .fn (.yield y) [] []=>tG P y (as.map (aj.ev F)) d nd r K S0 Ls F S
 |_=>False
def nU (P:Program) (ix:Nat) (d:Option Nat) (op:MX) (t:Nat) (b lo nd:Bool) (r:bD) (K:Option AV->Fr->St->Prop) (S0:St) (Ls:List Nat) (F:Fr) (S:St):AV->Prop
 | .bool c=>(c=b->bf P K S0 Ls (.one ⟨ix,d,none,op⟩ lo nd r) ((t,.bool b)::F) S)/\(c= !b->(nd=true->aX S0 Ls S)/\bf P K S0 Ls r (aS d (.aF []) ((t,.bool (!b))::F)) S)
 | .aF []=>(nd=true->aX S0 Ls S)/\bf P K S0 Ls r (aS d (.aF []) F) S
 |_=>False
section eqs3
variable {P:Program} {K:Option AV->Fr->St->Prop} {F:Fr} {S S0:St} {Ls:List Nat} {ix:Nat} {d:Option Nat} {lo nd:Bool} {r:bD}
def OW:bf P K S0 Ls .done F S=K none F S:=rfl
def aeU (m:MK):bf P K S0 Ls (.one ⟨ix,d,none,.k m⟩ lo nd r) F S=((lo=true->iB Ls ⟨ix,d,none,.k m⟩ F/\aX S0 Ls S)/\m.ob F S/\aaE P d nd r K S0 Ls F (m.ev F S)):=by
 show (_/\m.ob F S/\_)=_
 congr 1
def Ms (v:AV) (S':St):aaE P d nd r K S0 Ls F (some (v,S'))=((nd=true->aX S0 Ls S')/\bf P K S0 Ls r (aS d v F) S'):=rfl
def OV (c:aj) (as:List aj):bf P K S0 Ls (.one ⟨ix,d,none,.call c as⟩ lo nd r) F S=((lo=true->iB Ls ⟨ix,d,none,.call c as⟩ F/\aX S0 Ls S)/\OR P as d nd r K S0 Ls F S (c.ev F)):=rfl
def UU (f:FuncId) (first caps:List AV) (as:List aj):OR P as d nd r K S0 Ls F S (.fn (.func f) first caps)=dg P f (first++as.map (aj.ev F)++caps) d nd r K S0 Ls F S:=rfl
def OS (y:Nat) (as:List aj):OR P as d nd r K S0 Ls F S (.fn (.yield y) [] [])=tG P y (as.map (aj.ev F)) d nd r K S0 Ls F S:=rfl
def Mv (t:Nat) (b:Bool) (op:MX):bf P K S0 Ls (.one ⟨ix,d,some (t,b),op⟩ lo nd r) F S=nU P ix d op t b lo nd r K S0 Ls F S (F.get t):=by cases op<;>rfl
def Mu (t:Nat) (b c:Bool) (op:MX):nU P ix d op t b lo nd r K S0 Ls F S (.bool c)=((c=b->bf P K S0 Ls (.one ⟨ix,d,none,op⟩ lo nd r) ((t,.bool b)::F) S)/\(c= !b->(nd=true->aX S0 Ls S)/\bf P K S0 Ls r (aS d (.aF []) ((t,.bool (!b))::F)) S)):=rfl
def UZ (t:Nat) (op:MX):nU P ix d op t true lo nd r K S0 Ls F S (.bool true)=bf P K S0 Ls (.one ⟨ix,d,none,op⟩ lo nd r) ((t,.bool true)::F) S:=by simp [nU]
def UW (t:Nat) (op:MX):nU P ix d op t false lo nd r K S0 Ls F S (.bool false)=bf P K S0 Ls (.one ⟨ix,d,none,op⟩ lo nd r) ((t,.bool false)::F) S:=by simp [nU]
def UY (t:Nat) (op:MX):nU P ix d op t true lo nd r K S0 Ls F S (.bool false)=((nd=true->aX S0 Ls S)/\bf P K S0 Ls r (aS d (.aF []) ((t,.bool false)::F)) S):=by simp [nU]
def UX (t:Nat) (op:MX):nU P ix d op t false lo nd r K S0 Ls F S (.bool true)=((nd=true->aX S0 Ls S)/\bf P K S0 Ls r (aS d (.aF []) ((t,.bool true)::F)) S):=by simp [nU]
def OU (t:Nat) (b:Bool) (op:MX):nU P ix d op t b lo nd r K S0 Ls F S (.aF [])=((nd=true->aX S0 Ls S)/\bf P K S0 Ls r (aS d (.aF []) F) S):=rfl
def U1 (o1:aV) (n1:Bool) (r1:bD) (o2:aV) (n2:Bool) (r2:bD):bf P K S0 Ls (.two o1 n1 r1 o2 n2 r2) F S=(bf P K S0 Ls (.one o1 false n1 r1) F S/\bf P K S0 Ls (.one o2 false n2 r2) F S):=by
 have key:∀ (o:aV) (nd:Bool) (r:bD),bf P K S0 Ls (.one o false nd r) F S=bC o (bj P o K fun F' S'=>(nd=true->aX S0 Ls S')/\bf P K S0 Ls r F' S') (fun F' S'=>(nd=true->aX S0 Ls S')/\bf P K S0 Ls r F' S') F S:=by
  intro o nd r;simp only [bf,Ah,false_implies,true_and]
 rw [key,key];rfl
def U0 (o1:aV) (n1:Bool) (r1:bD) (o2:aV) (n2:Bool) (r2:bD) (o3:aV) (n3:Bool) (r3:bD):bf P K S0 Ls (.iI o1 n1 r1 o2 n2 r2 o3 n3 r3) F S=(bf P K S0 Ls (.one o1 false n1 r1) F S/\bf P K S0 Ls (.one o2 false n2 r2) F S/\bf P K S0 Ls (.one o3 false n3 r3) F S):=by
 have key:∀ (o:aV) (nd:Bool) (r:bD),bf P K S0 Ls (.one o false nd r) F S=bC o (bj P o K fun F' S'=>(nd=true->aX S0 Ls S')/\bf P K S0 Ls r F' S') (fun F' S'=>(nd=true->aX S0 Ls S')/\bf P K S0 Ls r F' S') F S:=by
  intro o nd r;simp only [bf,Ah,false_implies,true_and]
 rw [key,key,key];rfl
def M8 (n:Nat) (ag:Bool) (p:aj) (F:Fr):iB Ls ⟨ix,d,none,.k (.load n ag p)⟩ F=(match p.ev F with
  | .ptr l _=>l∈Ls
  |_=>True):=rfl
def bh:aX S Ls S=True:=eq_true ⟨rfl,fun _ _=>rfl⟩
def cT:aX S0 [] S=(S.gl=S0.gl):=by simp [aX]
def cA (l:Nat):aX S0 (l::Ls) S=(S.get l=S0.get l/\aX S0 Ls S):=by
 simp only [aX,List.forall_mem_cons,eq_iff_iff];exact ⟨fun h=>⟨h.2.1,h.1,h.2.2⟩,fun h=>⟨h.2.1,h.1,h.2.2⟩⟩
def x9:fA F []=[]:=rfl
def pk (t:Nat) (ts:List Nat):fA F (t::ts)=(match F.get t with
  | .ptr l _=>l::fA F ts
  | .aN _ _ l _=>l::fA F ts
  |_=>fA F ts):=rfl
def aM (rs:List RV) (K:Out->St->Prop) (ds:List Nat):DB (bI rs K) ds=True:=eq_true fun v D F F' S _ h=>h
end eqs3
def dg.of {P:Program} {f:FuncId} {as:List AV} {d:Option Nat} {nd:Bool} {r:bD} {K:Option AV->Fr->St->Prop} {S0:St} {Ls:List Nat} {F:Fr} {S:St} {R:Out->St->Prop} (h:ao P f as S R)
  (hk:∀ v S',R (.ok v) S'->(nd=true->aX S0 Ls S')/\bf P K S0 Ls r (aS d v F) S') (hp:∀ v S',R (.eH v) S'->K (some v) F S'):dg P f as d nd r K S0 Ls F S:=
 h.mono fun o S' hr=>by
  cases o with
  |ok r=>exact hk r S' hr
  |eH v=>exact hp v S' hr
def tG.of {P:Program} {y:Nat} {as:List AV} {d:Option Nat} {nd:Bool} {r:bD} {K:Option AV->Fr->St->Prop} {S0:St} {Ls:List Nat} {F:Fr} {S:St} {R:Out->St->Prop} (h:lM P y as S R)
  (hk:∀ o S',R o S'->∃ v,o= .ok v/\(nd=true->aX S0 Ls S')/\bf P K S0 Ls r (aS d v F) S'):tG P y as d nd r K S0 Ls F S:=
 h.mono fun o S' hr=>by
  obtain ⟨v,rfl,h⟩:=hk o S' hr;exact h
def wE.of {P:Program} {y:Nat} {as:List AV} {d:Option Nat} {l:List aV} {K:Option AV->Fr->St->Prop} {F:Fr} {S:St} {R:Out->St->Prop} (h:lM P y as S R)
  (hk:∀ o S',R o S'->∃ v,o= .ok v/\cD P l K (aS d v F) S'):wE P y as d l K F S:=
 h.mono fun o S' hr=>by
  obtain ⟨v,rfl,h⟩:=hk o S' hr;exact h
def bt.of {P:Program} {f:FuncId} {as:List AV} {d:Option Nat} {l:List aV} {K:Option AV->Fr->St->Prop} {F:Fr} {S:St} {R:Out->St->Prop} (h:ao P f as S R) (hk:∀ r S',R (.ok r) S'->cD P l K (aS d r F) S')
  (hp:∀ v S',R (.eH v) S'->K (some v) F S'):bt P f as d l K F S:=
 h.mono fun o S' hr=>by
  cases o with
  |ok r=>exact hk r S' hr
  |eH v=>exact hp v S' hr
def St.own (S:St):St:={S with nt:=S.nt+1,live:=S.nt::S.live}
def ao.TU {P:Program} {f:FuncId} {as:List AV} {S:St} {k:Nat} {ys:List AV} (h:ao P f as (.none S.gl) fun o S'=>∃ t,o= .ok (.sl k ys (.tok t))/\t∈S'.live) (ha:∀ a∈as,al a) (hg:∀ g cs,S.gl.lookup g=some cs->∀ c∈cs,al c)
  (hys:∀ x∈ys,∀ c∈x.cells,al c):ao P f as S fun o S'=>o= .ok (.sl k ys (.tok S.nt))/\S'=S.own:=by
 intro wb G w vs hS hv;have hst:=hS.start hg;have hv0:da ⟨G.φ,fun _=>Option.none,fun _=>Option.none,w.heap.size,G.κ⟩ as vs:=⟨hv.len,fun m c v e1 e2=>ha c (Aj e1) G _ v (fun _ _ _ e=>e) (hv.rel m c v e1 e2)⟩;refine (h _ _ w vs hst hv0).mono fun e w' ⟨G',S',h1,h2,h3⟩=>?_;have hφ:∀ r o v,G.φ r o=some v->G'.φ r o=some v:=fun r o v e=>h1.φ r o v e;have hfr:=hS.frame h2 hφ
 have hnone:G.τ S.nt=none:=by
  cases e':G.τ S.nt with
  |none=>rfl
  |some x=>have:=(hS.bQ _ _ e').1;omega
 cases e with
 |panicked ch=>obtain ⟨v,av,_,_,t,h6,_⟩:=h3;cases h6
 |outgrown=>exact h3.elim
 |returned v=>
  obtain ⟨r,h4,t,h5,ht⟩:=h3;injection h5 with h5
  subst h5;obtain ⟨r,e,z,hτ,hreg⟩:=h2.tok t ht
  let G2:Gh:=⟨G'.φ,G.σ,eE G.τ S.nt (some (r,e,z)),G.β,G.κ⟩
  have hle2:(⟨G'.φ,G.σ,G.τ,G.β,G.κ⟩:Gh).le G2:=⟨fun _ _ _ e=>e,fun _ _ e=>e,fun t' x e'=>by
   have:t'≠S.nt:=fun e2=>by subst e2;simp only at e';rw [hnone] at e';cases e'
   simp [G2,eE,this];exact e',rfl,fun _ _ _=>rfl⟩
  have hG2:∀ t',t'≠S.nt->G2.τ t'=G.τ t':=fun t' hne=>by simp [G2,eE,hne]
  have hblk:e<z->w.heap.size<=r:=fun hez=>(hreg e (Af _) hez).1;refine ⟨G2,S.own,⟨hφ,fun _ _ e=>e,fun t' x e'=>hle2.τ _ _ e',rfl,fun _ _ _=>rfl⟩,?_,_,?_,rfl,rfl⟩
  ·refine {prom:=hfr.prom,room:=hfr.room,apart:=hfr.apart,obj:=?_,inj:=hfr.inj,bT:=hfr.bT,tok:=?_,bQ:=?_,cP:=?_,base:=hfr.base,cH:=hfr.cH,still:=hfr.still,beta:=hfr.beta,cF:=?_,bu:=?_,dy:=hfr.dy};rotate_right
   ·intro l s hl hsp0;obtain ⟨rb,hrb,hbb⟩:=hS.bu l s hl hsp0;refine ⟨rb,hrb,hbb.to ⟨hφ,fun _ _ e=>e,fun t' x e'=>hle2.τ _ _ e',rfl,fun _ _ _=>rfl⟩ (fun hlt=>h2.base.2 rb hlt) fun g hg _ _ hal=>⟨h2.base.2 g hg,fun o=>?_,hal.2.1,fun t' hm' e' z' et=>?_⟩⟩
    ·cases e2:G'.φ g o with
     |none=>first|rfl|exact e2
     |some v=>have:=h2.cH g o v hg e2;simp only at this;rw [hal.1 o] at this;cases this
    ·by_cases hts:t'=S.nt
     ·subst hts;simp [G2] at et;obtain ⟨e1,e2,e3⟩:=et;subst e1 e2 e3;rcases Al e z with hez|hez
      ·have:=hblk hez;omega
      ·exact hez
     ·rw [hG2 t' hts] at et;have hm2:t'∈S.live:=by rcases Ab.1 hm' with e1|e1;exact absurd e1 hts;exact e1
      exact hal.2.2 t' hm2 e' z' et
   ·intro l cs hl hnb;obtain ⟨r',hr',hm⟩:=hfr.obj l cs hl hnb;exact ⟨r',hr',fun m c hmc=>by obtain ⟨v,a,b,c',d⟩:=hm m c hmc;exact ⟨v,a,b.mono hle2,c',d⟩⟩
   ·intro t' hm
    by_cases et:t'=S.nt
    ·subst et;refine ⟨r,e,z,by simp [G2],fun o q1 q2=>?_⟩;obtain ⟨q3,_,q5,q6,q7⟩:=hreg o q1 q2;refine ⟨by have:=hS.base.1;have:w.heap.size<=r:=q3;omega,fun l e'=>?_,q5,q6,q7⟩;have:=(hS.bT l r e').2.2;have:w.heap.size<=r:=q3;omega
    ·have hm':t'∈S.live:=by rcases Ab.1 hm with e1|e1;exact absurd e1 et;exact e1
     obtain ⟨r',a,z',q1,q2⟩:=hfr.tok t' hm';exact ⟨r',a,z',hle2.τ _ _ q1,q2⟩
   ·intro t' x e'
    by_cases et:t'=S.nt
    ·subst et;simp [G2] at e';subst e';refine ⟨by simp [St.own],fun hez=>?_⟩;have:=(h2.bQ t _ hτ).2 hez;exact this
    ·rw [hG2 t' et] at e';have:=hfr.bQ t' x e';exact ⟨by simp [St.own];omega,this.2⟩
   ·intro t1 m1 t2 m2 hne r1 a1 z1 a2 z2 e1 e2 o q1 q2 q3 q4
    by_cases et1:t1=S.nt<;>by_cases et2:t2=S.nt
    ·exact hne (et1.trans et2.symm)
    ·subst et1;simp [G2] at e1;obtain ⟨rfl,rfl,rfl⟩:=e1;rw [hG2 t2 et2] at e2;have h7:=(hS.bQ t2 _ e2).2 (by show a2<z2;omega);have h8:=hblk (by omega);simp only at h7;omega
    ·subst et2;simp [G2] at e2;obtain ⟨rfl,rfl,rfl⟩:=e2;rw [hG2 t1 et1] at e1;have h7:=(hS.bQ t1 _ e1).2 (by show a1<z1;omega);have h8:=hblk (by omega);simp only at h7;omega
    ·have m1':t1∈S.live:=by rcases Ab.1 m1 with e3|e3;exact absurd e3 et1;exact e3
     have m2':t2∈S.live:=by rcases Ab.1 m2 with e3|e3;exact absurd e3 et2;exact e3
     rw [hG2 t1 et1] at e1;rw [hG2 t2 et2] at e2;exact hS.cP t1 m1' t2 m2' hne r1 a1 z1 a2 z2 e1 e2 o q1 q2 q3 q4
   ·intro g cs hgl m c hmc;obtain ⟨v,a,b,d⟩:=hfr.cF g cs hgl m c hmc;exact ⟨v,a,b.mono hle2,d⟩
  ·have hu:=h4.ai;have hn:=(al.sl (t:= .ai) hys (.inl rfl)) G' G2 v (fun _ _ _ e=>e) hu
   cases h4 with
   |slnil=>exact .slnil _ _ _
   |sl f hk hp ho hv' hc htk=>
    cases hn with
    |slnil=>exact .slnil _ _ _
    |sl f' hk' hp' ho' hv2 hc' _=>
     refine .sl f' hk' hp' ho' hv2 hc' ?_;have e1:G'.τ t=some _:=htk;rw [hτ] at e1;injection e1 with e1
     show G2.τ S.nt=_;simp only [G2,cM];rw [<-e1]
abbrev oo (i d:Nat) (x:MK):aV:=⟨i,some d,none,.k x⟩
abbrev og (i d g:Nat) (b:Bool) (x:MK):aV:=⟨i,some d,some (g,b),.k x⟩
abbrev ld (i d n:Nat) (b:Bool) (t:Nat):aV:=⟨i,some d,none,.k (.load n b (.t t))⟩
abbrev fa (i d n t:Nat):aV:=⟨i,some d,none,.k (.qK n (.t t))⟩
abbrev bi (i d:Nat) (o:BinOp) (t u:Nat):aV:=⟨i,some d,none,.k (.bin o (.t t) (.t u))⟩
abbrev bc (i d:Nat) (o:BinOp) (t:Nat) (c:AV):aV:=⟨i,some d,none,.k (.bin o (.t t) (.c c))⟩
abbrev mc (i d:Nat) (c:AV):aV:=⟨i,some d,none,.k (.oL (.c c))⟩
abbrev gm (i d g:Nat) (b:Bool) (t:Nat):aV:=⟨i,some d,some (g,b),.k (.oL (.t t))⟩
abbrev mv (i d t:Nat):aV:=⟨i,some d,none,.k (.oL (.t t))⟩
abbrev oc (i d f:Nat) (l:List aj):aV:=⟨i,some d,none,.call (.f f) l⟩
abbrev on1 (o:aV) (r:bD):bD:= .one o false false r
end Go.V
namespace Go.V
open Go
mutual
def AV.fg:AV->AV
 | .sl k xs _=> .sl k (AV.bz xs) .ai
 | .agg cs=> .agg (AV.bz cs)
 | .aF vs=> .aF (AV.bz vs)
 | .cI t v=> .cI t v.fg
 |a=>a
def AV.bz:List AV->List AV
 |[]=>[]
 |x::xs=>x.fg::AV.bz xs
end
def di:∀ xs:List AV,AV.bz xs=xs.map AV.fg
 |[]=>rfl
 |x::xs=>by rw [AV.bz,List.map_cons,di xs]
def kV (x:AV):x.fg.cells=x.cells.map AV.fg:=by cases x<;>simp [AV.fg,AV.cells,di]
def G9 (xs:List AV):flat (xs.map AV.fg)=(flat xs).map AV.fg:=by
 induction xs with
 |nil=>rfl
 |cons x xs ih=>simp [ih,kV]
def af.fg {G:Gh} {a:AV} {v:Value} (h:af G a v):af G a.fg v:=by
 induction h with
 |de v=>exact .de v
 |bool b=>exact .bool b
 |int k n=>exact .int k n
 |str s=>exact .str s
 |cV=>exact .cV
 |ptr e=>exact .ptr e
 |gp g o=>exact .gp g o
 |eZ f hk hp ho hv ih=>exact .eZ f hk hp ho hv
 |slnil k t a=>exact .slnil k .ai a
 | @sl k xs t r b cap f hk hp ho hv hc ht ih=>
  have hx:AV.fg (.sl k xs t)= .sl k (xs.map AV.fg) .ai:=by simp [AV.fg,di]
  have hfl:∀ (m:Nat) (c:AV),(flat (xs.map AV.fg))[m]? =some c->∃ c',(flat xs)[m]? =some c'/\c=c'.fg:=fun m c e=>by
   rw [G9,Ap] at e;obtain ⟨c',h1,h2⟩:=Ag.1 e;exact ⟨c',h1,h2.symm⟩
  rw [hx]
  have:=af.sl (G:=G) (k:=k) (xs:=xs.map AV.fg) (t:= .ai) (r:=r) (b:=b) (cap:=cap) f (fun x hx=>by
    obtain ⟨y,hy,rfl⟩:=Ai.1 hx
    rw [kV];simpa using hk y hy) (fun m c e=>by obtain ⟨c',h1,_⟩:=hfl m c e;exact hp m c' h1) (fun m c e=>by obtain ⟨c',h1,_⟩:=hfl m c e;exact ho m c' h1)
   (fun m c e=>by obtain ⟨c',h1,rfl⟩:=hfl m c e;exact ih m c' h1) (by simpa using hc) trivial
  simpa using this
 |aN k e hc hz=>exact .aN k e hc hz
 |b9 k e hc hz=>exact .b9 k e hc hz
 |mp e=>exact .mp e
 |gM=>exact .gM
 |fn f h1 h2 hv hw=>exact .fn f h1 h2 hv hw
 |fw=>exact .fw
 |cI t h ih=>exact .cI t ih
 |cY=>exact .cY
 |agg hl ho hv ih=>
  simp only [AV.fg,di];refine .agg (by simpa using hl) ho fun m c v e1 e2=>?_;rw [Ap] at e1;obtain ⟨c',h1,rfl⟩:=Ag.1 e1;exact ih m c' v h1 e2
 |aF hl hv ih=>
  simp only [AV.fg,di];refine .aF (by simpa using hl) fun m c v e1 e2=>?_;rw [Ap] at e1;obtain ⟨c',h1,rfl⟩:=Ag.1 e1;exact ih m c' v h1 e2
def da.fg {G:Gh} {as:List AV} {vs:List Value} (h:da G as vs):da G (as.map AV.fg) vs:=
 ⟨by simpa using h.len,fun m c v e1 e2=>by
  rw [Ap] at e1;obtain ⟨c',h1,rfl⟩:=Ag.1 e1
  exact (h.rel m c' v h1 e2).fg⟩
def AV.Le (a a':AV):Prop:=∀ G v,af G a v->af G a' v
def AV.Le.refl (a:AV):a.Le a:=fun _ _ h=>h
def AV.Le.fg (a:AV):a.Le a.fg:=fun _ _ h=>h.fg
def AV.Le.sl {k:Nat} {xs ys:List AV} (t:bE) (h:ys=xs.map AV.fg):(AV.sl k xs t).Le (.sl k ys t):=fun G v hv=>by
 subst h
 cases hv with
 |slnil=>exact .slnil _ _ _
 |sl f hk hp ho hv hc ht=>
  have hfl:∀ (m:Nat) (c:AV),(flat (xs.map AV.fg))[m]? =some c->∃ c',(flat xs)[m]? =some c'/\c=c'.fg:=fun m c e=>by
   rw [G9,Ap] at e;obtain ⟨c',h1,h2⟩:=Ag.1 e;exact ⟨c',h1,h2.symm⟩
  rename_i r b cap
  have:=af.sl (G:=G) (k:=k) (xs:=xs.map AV.fg) (t:=t) (r:=r) (b:=b) (cap:=cap) f (fun x hx=>by
    obtain ⟨y,hy,rfl⟩:=Ai.1 hx
    rw [kV];simpa using hk y hy) (fun m c e=>by obtain ⟨c',h1,_⟩:=hfl m c e;exact hp m c' h1) (fun m c e=>by obtain ⟨c',h1,_⟩:=hfl m c e;exact ho m c' h1)
   (fun m c e=>by obtain ⟨c',h1,rfl⟩:=hfl m c e;exact (hv m c' h1).fg) (by simpa using hc) (by simpa using ht)
  simpa using this
def ah.imp {P:Program} {n:Nat} {k:List MI} {D:ep} {F F':Fr} {S:St} {Q:er} (h:ah P n k D F' S Q) (hF:∀ t v',F'.lookup t=some v'->∃ v,F.lookup t=some v/\v.Le v'):ah P n k D F S Q:=by
 intro wb G w a b cs todo hb hf hR;refine h wb G w a b cs todo hb hf ⟨hR.st,⟨fun t v e=>?_⟩,hR.sz,hR.df⟩;obtain ⟨v0,h1,h2⟩:=hF t v e;exact ⟨(hR.fr.rel t v0 h1).1,h2 G _ (hR.fr.rel t v0 h1).2⟩
def ao.Ey {P:Program} {f:FuncId} {as:List AV} {S:St} {K:Out->St->Prop} (h:ao P f (as.map AV.fg) S K):ao P f as S K:=fun wb G w vs hS hv=>h wb G w vs hS hv.fg
def ao.oD {P:Program} {f:FuncId} {as:List AV} {S:St} {K K':Out->St->Prop} (h:ao P f as S K') (hk:∀ r S',K' (.ok r) S'->K (.ok r.fg) S') (hp:∀ r S',K' (.eH r) S'->K (.eH r.fg) S'):ao P f as S K:=by
 intro wb G w vs hS hv;refine (h wb G w vs hS hv).mono fun e w' ⟨G',S',h1,h2,h3⟩=>⟨G',S',h1,h2,?_⟩
 cases e with
 |returned v=>obtain ⟨r,h4,h5⟩:=h3;exact ⟨_,h4.fg,hk _ _ h5⟩
 |panicked ch=>obtain ⟨v,av,h4,h5,h6⟩:=h3;exact ⟨v,_,h4,h5.fg,hp _ _ h6⟩
 |outgrown=>exact h3
def ae (gl:List (Nat×List AV)):Prop:=∀ g cs,gl.lookup g=some cs->∀ c∈cs,al c
def Out.Ds:Out->Prop
 | .ok r=>al r
 | .eH r=>al r
def OI (r:AV):Out.Ds (.ok r)=al r:=rfl
def Mc (r:AV):Out.Ds (.eH r)=al r:=rfl
structure Pure (P:Program) (gl:List (Nat×List AV)) (f:FuncId) (args:List AV) (o:Out):Prop where
 call:ao P f (args.map AV.fg) (.none gl) fun o' _=>o'=o
 na:∀ a∈args.map AV.fg,al a
 nr:o.Ds
structure kO (P:Program) (gl:List (Nat×List AV)) (f:FuncId) (args:List AV) (k:Nat) (ys:List AV):Prop where
 call:ao P f (args.map AV.fg) (.none gl) fun o S'=>∃ t,o= .ok (.sl k ys (.tok t))/\t∈S'.live
 na:∀ a∈args.map AV.fg,al a
 nr:∀ x∈ys,∀ c∈x.cells,al c
def Pure.conv {P:Program} {gl:List (Nat×List AV)} {f:FuncId} {as as':List AV} {o:Out} (h:Pure P gl f as o) (he:as'.map AV.fg=as.map AV.fg):Pure P gl f as' o:=⟨by rw [he];exact h.call,by rw [he];exact h.na,h.nr⟩
def kO.conv {P:Program} {gl:List (Nat×List AV)} {f:FuncId} {as as':List AV} {k:Nat} {ys:List AV} (h:kO P gl f as k ys) (he:as'.map AV.fg=as.map AV.fg):kO P gl f as' k ys:=⟨by rw [he];exact h.call,by rw [he];exact h.na,h.nr⟩
def Pure.at {P:Program} {gl:List (Nat×List AV)} {f:FuncId} {as:List AV} {o:Out} (h:Pure P gl f as o) {S:St} (hgl:S.gl=gl) (hg:ae gl):ao P f as S fun o' S'=>S'=S/\o'=o:=by
 subst hgl;refine ao.Ey (ao.lift (K:=fun o'=>o'=o) h.call h.na hg (fun r e=>?_) (fun r e=>?_))
 ·subst e;exact h.nr
 ·subst e;exact h.nr
def kO.at {P:Program} {gl:List (Nat×List AV)} {f:FuncId} {as:List AV} {k:Nat} {ys:List AV} (h:kO P gl f as k ys) {S:St} (hgl:S.gl=gl) (hg:ae gl):ao P f as S fun o S'=>o= .ok (.sl k ys (.tok S.nt))/\S'=S.own:=by
 subst hgl;exact ao.Ey (ao.TU h.call h.na hg h.nr)
def kO.pure {P:Program} {gl:List (Nat×List AV)} {f:FuncId} {as:List AV} {k:Nat} {ys:List AV} (h:kO P gl f as k ys) (hy:ys.map AV.fg=ys):Pure P gl f as (.ok (.sl k ys .ai)) where
 call:=h.call.oD (fun r S' ⟨t,e,_⟩=>by injection e with e;subst e;simp [AV.fg,di,hy]) (fun r S' ⟨t,e,_⟩=>by cases e)
 na:=h.na
 nr:= .sl h.nr (.inl rfl)
section use
variable {P:Program} {gl:List (Nat×List AV)} {f:FuncId} {as:List AV} {d:Option Nat} {l:List aV} {K:Option AV->Fr->St->Prop} {F:Fr} {S S0:St} {Ls:List Nat} {nd:Bool} {p:bD}
def bt.pure {r:AV} (h:Pure P gl f as (.ok r)) (hg:ae gl) (hgl:S.gl=gl) (k:cD P l K (aS d r F) S):bt P f as d l K F S:=bt.of (h.at hgl hg) (fun r' S' ⟨e1,e2⟩=>by subst e1;injection e2 with e2;subst e2;exact k) (fun v S' ⟨_,e2⟩=>by cases e2)
def bt.eH {r:AV} (h:Pure P gl f as (.eH r)) (hg:ae gl) (hgl:S.gl=gl) (k:K (some r) F S):bt P f as d l K F S:=bt.of (h.at hgl hg) (fun r' S' ⟨_,e2⟩=>by cases e2) (fun v S' ⟨e1,e2⟩=>by subst e1;injection e2 with e2;subst e2;exact k)
def bt.Py {k:Nat} {ys:List AV} (h:kO P gl f as k ys) (hg:ae gl) (hgl:S.gl=gl) (hk:cD P l K (aS d (.sl k ys (.tok S.nt)) F) S.own):bt P f as d l K F S:=bt.of (h.at hgl hg) (fun r' S' ⟨e1,e2⟩=>by subst e2;injection e1 with e1;subst e1;exact hk) (fun v S' ⟨e1,_⟩=>by cases e1)
def dg.pure {r:AV} (h:Pure P gl f as (.ok r)) (hg:ae gl) (hgl:S.gl=gl) (hi:nd=true->aX S0 Ls S) (k:bf P K S0 Ls p (aS d r F) S):dg P f as d nd p K S0 Ls F S:=dg.of (h.at hgl hg) (fun r' S' ⟨e1,e2⟩=>by subst e1;injection e2 with e2;subst e2;exact ⟨hi,k⟩) (fun v S' ⟨_,e2⟩=>by cases e2)
def dg.eH {r:AV} (h:Pure P gl f as (.eH r)) (hg:ae gl) (hgl:S.gl=gl) (k:K (some r) F S):dg P f as d nd p K S0 Ls F S:=dg.of (h.at hgl hg) (fun r' S' ⟨_,e2⟩=>by cases e2) (fun v S' ⟨e1,e2⟩=>by subst e1;injection e2 with e2;subst e2;exact k)
def dg.Py {k:Nat} {ys:List AV} (h:kO P gl f as k ys) (hg:ae gl) (hgl:S.gl=gl) (hi:nd=true->aX S0 Ls S) (hk:bf P K S0 Ls p (aS d (.sl k ys (.tok S.nt)) F) S.own):dg P f as d nd p K S0 Ls F S:=dg.of (h.at hgl hg) (fun r' S' ⟨e1,e2⟩=>by subst e2;injection e1 with e1;subst e1;exact ⟨fun e=>hi e,hk⟩) (fun v S' ⟨e1,_⟩=>by cases e1)
end use
def da.iz {G:Gh} {vs:List Value} (h:da G [] vs):vs=[]:=A2 h.len.symm
def da.cons_inv {G:Gh} {a:AV} {as:List AV} {vs:List Value} (h:da G (a::as) vs):∃ v vs',vs=v::vs'/\af G a v/\da G as vs':=by
 cases vs with
 |nil=>have:=h.len;simp at this
 |cons v vs=>exact ⟨v,vs,rfl,h.rel 0 a v rfl rfl,by have:=h.len;simpa using this,fun m c u e1 e2=>h.rel (m+1) c u (by simpa using e1) (by simpa using e2)⟩
def af.uF {G:Gh} {s:List UInt8} {v:Value} (h:af G (.str s) v):v= .string ⟨s.toArray⟩:=by cases h;rfl
def af.gI {G:Gh} {k:IntKind} {n:Int} {v:Value} (h:af G (.int k n) v):v= .int k n:=by cases h;rfl
def af.NC {G:Gh} {b:Bool} {v:Value} (h:af G (.bool b) v):v= .bool b:=by cases h;rfl
def ax.grow {wb:aT} {G:Gh} {S:St} {w:World} (h:ax wb G S w) (os:Array Obj):ax wb G S (Go.Sort.grow w os):=by
 have key:∀ (l:List Obj) (w:World),ax wb G S w->ax wb G S (Go.Sort.grow w l.toArray):=by
  intro l
  induction l with
  |nil=>intro w h;simpa [Go.Sort.grow] using h
  |cons o l ih=>
   intro w h;have:=ih (w.alloc o) (h.alloc o);rw [Go.Sort.alloc_eq_grow,Go.Sort.grow_grow] at this;simpa using this
 simpa using key os.toList w h
def ax.drewN {wb:aT} {G:Gh} {S:St} {w:World} (h:ax wb G S w) (k:Nat):ax wb G S (w.drewN k):={h with still:=h.still}
def ao.aax {P:Program} {f:FuncId} {as:List AV} {S:St} {r:AV} (hc:∀ (args:Array Value) (w:World),(callFunc f args).run P w= .ok (.enter f args) w)
  (h:∀ wb G w vs,ax wb G S w->da G as vs->∃ v,af G r v/\Calls P f vs.toArray w fun e w'=>e= .returned v/\∃ k os,w'=Go.Sort.grow (w.drewN k) os):ao P f as S fun o S'=>S'=S/\o= .ok r:=by
 intro wb G w vs hS hv;obtain ⟨v,h1,h2⟩:=h wb G w vs hS hv;unfold km;rw [hc];refine h2.mono fun e w' ⟨he,k,os,hw⟩=>?_;subst he hw;exact ⟨G,S,Gh.le_refl G,(hS.drewN k).grow os,r,h1,rfl,rfl⟩
def ao.FA {P:Program} {f:FuncId} {as:List AV} {S:St} {r:AV} (hc:∀ (args:Array Value) (w:World),(callFunc f args).run P w= .ok (.enter f args) w)
  (h:∀ wb G w vs,ax wb G S w->da G as vs->∃ v,af G r v/\Calls P f vs.toArray w fun e w'=>e= .returned v/\w'=w):ao P f as S fun o S'=>S'=S/\o= .ok r:=
 .aax hc fun wb G w vs hS hv=>by
  obtain ⟨v,h1,h2⟩:=h wb G w vs hS hv;exact ⟨v,h1,h2.mono fun e w' ⟨he,hw⟩=>⟨he,0,#[],by rw [hw];simp [Go.Sort.grow,World.drewN]⟩⟩
def al.tO (b:Bool):al (.bool b)=True:=eq_true (.bool b)
def al.int_eq (k:IntKind) (n:Int):al (.int k n)=True:=eq_true (.int k n)
def al.fC (s:List UInt8):al (.str s)=True:=eq_true (.str s)
def al.UI:al .cV=True:=eq_true .cV
def al.UH:al .cY=True:=eq_true .cY
def al.UG:al .fw=True:=eq_true .fw
def al.nq {cs:List AV} (h:∀ c∈cs,al c):al (.agg cs)=True:=eq_true (.agg h)
def al.abo {cs:List AV} (h:∀ c∈cs,al c):al (.aF cs)=True:=eq_true (.aF h)
def al.Xl {t:TypeId} {c:AV} (h:al c):al (.cI t c)=True:=eq_true (.cI h)
def al.FY {k:Nat} {xs:List AV} (h:∀ x∈xs,∀ c∈x.cells,al c):al (.sl k xs .ai)=True:=eq_true (.sl h (by simp))
def al.W9 (f:Fn):al (.fn f [] [])=True:=eq_true (.func (by simp) (by simp))
def al.acW {f:Fn} {as cs:List AV} (ha:∀ c∈as,al c) (hc:∀ c∈cs,al c):al (.fn f as cs)=True:=eq_true (.func ha hc)
def akB (m:Nat):(m=m+1)=False:=eq_false (by omega)
def akC (m:Nat):(m=m+1+1)=False:=eq_false (by omega)
def akD (m:Nat):(m=m+1+1+1)=False:=eq_false (by omega)
def akE (m:Nat):(m=m+1+1+1+1)=False:=eq_false (by omega)
def aeL (m:Nat):(m+1=m)=False:=eq_false (by omega)
def aeM (m:Nat):(m+1+1=m)=False:=eq_false (by omega)
def aeN (m:Nat):(m+1+1+1=m)=False:=eq_false (by omega)
def aeO (m:Nat):(m+1+1+1+1=m)=False:=eq_false (by omega)
section loops
variable {P:Program} {n:Nat} {k:List MI} {D:ep} {F:Fr} {S:St} {Q:er} {x:MC}
open Classical in
def ah.ga (I:Nat->Fr->St->Prop) (m:Nat) (h0:I m F S)
  (round:∀ m F S,I m F S->(∀ m' F' S',m'<m->I m' F' S'->ah P n (.inLoop x::k) D F' S' Q)->ah P n (.code x:: .inLoop x::k) D F S Q):ah P n (.code (.loop x)::k) D F S Q:=by
 have key:∀ F S,(∃ m,I m F S)->∃ m,I m F S/\∀ m',I m' F S->m<=m':=by
  intro F S h;obtain ⟨m,hm⟩:=h
  induction m using Nat.strongRecOn with
  |_ m ih=>
   by_cases h:∃ m',m'<m/\I m' F S
   ·obtain ⟨m',h1,h2⟩:=h;exact ih m' h1 h2
   ·exact ⟨m,hm,fun m' h'=>Am fun h2=>h ⟨m',h2,h'⟩⟩
 refine ah.loop (fun F S=>∃ m,I m F S) (fun F S=>if h:∃ m,I m F S then (key F S h).choose else 0) ⟨m,h0⟩ ?_;intro F S hI ih;have h1:=(key F S hI).choose_spec;refine round _ F S h1.1 fun m' F' S' hlt hI'=>ih F' S' ⟨m',hI'⟩ ?_;have hI2:∃ m,I m F' S':=⟨m',hI'⟩;rw [dif_pos hI,dif_pos hI2];exact Nat.lt_of_le_of_lt ((key F' S' hI2).choose_spec.2 m' hI') hlt
def ah.dD (N:Nat) (I:Nat->Fr->St->Prop) (h0:I 0 F S)
  (round:∀ i F S,i<=N->I i F S->(i<N->∀ F' S',I (i+1) F' S'->ah P n (.inLoop x::k) D F' S' Q)->ah P n (.code x:: .inLoop x::k) D F S Q):ah P n (.code (.loop x)::k) D F S Q:=by
 refine .ga (fun m F S=>∃ i,i+m=N/\I i F S) N ⟨0,by omega,h0⟩ ?_;rintro m F S ⟨i,hi,hI⟩ ih;exact round i F S (by omega) hI fun hlt F' S' hI'=>ih (m-1) F' S' (by omega) ⟨i+1,by omega,hI'⟩
def ah.forget {m t:Nat} {ob:List (Nat×List AV)} {live:List Nat} {gl:List (Nat×List AV)} (h:ah P n k D F ⟨m,[],t,[],gl⟩ Q):ah P n k D F ⟨m,ob,t,live,gl⟩ Q:=h.tx (fun _ _ e=>e) ⟨rfl,rfl,rfl,fun l cs e=>(by cases e),fun t ht=>(by cases ht)⟩
def ah.cB {m t:Nat} {ob ob':List (Nat×List AV)} {live live':List Nat} {gl:List (Nat×List AV)} (h:ah P n k D F ⟨m,ob',t,live',gl⟩ Q) (ho:∀ l cs,List.lookup l ob'=some cs->List.lookup l ob=some cs) (hl:∀ x∈live',x∈live):ah P n k D F ⟨m,ob,t,live,gl⟩ Q:=h.tx (fun _ _ e=>e) ⟨rfl,rfl,rfl,ho,hl⟩
end loops
def bM {P:Program} {n:Nat} {Q:er} {c c':MC} (h:c=c') {fu:Nat} {k:List MI} {D:ep} {F:Fr} {S:St} (hm:mw P n Q fu (.code c'::k) D F S):mw P n Q fu (.code c::k) D F S:=h▸hm
section merge
variable {P:Program} {n:Nat} {k:List MI} {D:ep} {F:Fr} {S:St} {Q:er} {a:Nat} {p q r:Bool}
def Rj (p q:Bool):cond p p q=(p||q):=by cases p<;>rfl
def NN (p q:Bool):cond p q p=(p && q):=by cases p<;>rfl
def Rk (p q:Bool):cond p true q=(p||q):=by cases p<;>rfl
def Ri (p q:Bool):cond p q false=(p && q):=by cases p<;>rfl
def Rh (p q:Bool):cond p false q=(!p && q):=by cases p<;>rfl
def Rl (p q:Bool):cond p q true=(!p||q):=by cases p<;>rfl
def Gs (X:Prop):((p=true->X)/\(p=false->X))=X:=by cases p<;>simp
def Gr (X:Prop):((p=false->X)/\(p=true->X))=X:=by cases p<;>simp
def T9:((p=true->ah P n k D ((a,.bool q)::F) S Q)/\(p=false->ah P n k D ((a,.bool r)::F) S Q))=ah P n k D ((a,.bool (cond p q r))::F) S Q:=by cases p<;>simp
def TW:((p=false->ah P n k D ((a,.bool r)::F) S Q)/\(p=true->ah P n k D ((a,.bool q)::F) S Q))=ah P n k D ((a,.bool (cond p q r))::F) S Q:=by cases p<;>simp
def Uq (x0:Nat×AV):((p=true->ah P n k D (x0::(a,.bool q)::F) S Q)/\(p=false->ah P n k D (x0::(a,.bool r)::F) S Q))=ah P n k D (x0::(a,.bool (cond p q r))::F) S Q:=by cases p<;>simp
def TY (x0:Nat×AV):((p=false->ah P n k D (x0::(a,.bool r)::F) S Q)/\(p=true->ah P n k D (x0::(a,.bool q)::F) S Q))=ah P n k D (x0::(a,.bool (cond p q r))::F) S Q:=by cases p<;>simp
def Ur (x0 x1:Nat×AV):((p=true->ah P n k D (x0::x1::(a,.bool q)::F) S Q)/\(p=false->ah P n k D (x0::x1::(a,.bool r)::F) S Q))=ah P n k D (x0::x1::(a,.bool (cond p q r))::F) S Q:=by cases p<;>simp
def TZ (x0 x1:Nat×AV):((p=false->ah P n k D (x0::x1::(a,.bool r)::F) S Q)/\(p=true->ah P n k D (x0::x1::(a,.bool q)::F) S Q))=ah P n k D (x0::x1::(a,.bool (cond p q r))::F) S Q:=by cases p<;>simp
def Us (x0 x1 x2:Nat×AV):((p=true->ah P n k D (x0::x1::x2::(a,.bool q)::F) S Q)/\(p=false->ah P n k D (x0::x1::x2::(a,.bool r)::F) S Q))=ah P n k D (x0::x1::x2::(a,.bool (cond p q r))::F) S Q:=by cases p<;>simp
def T0 (x0 x1 x2:Nat×AV):((p=false->ah P n k D (x0::x1::x2::(a,.bool r)::F) S Q)/\(p=true->ah P n k D (x0::x1::x2::(a,.bool q)::F) S Q))=ah P n k D (x0::x1::x2::(a,.bool (cond p q r))::F) S Q:=by cases p<;>simp
def Ut (x0 x1 x2 x3:Nat×AV):((p=true->ah P n k D (x0::x1::x2::x3::(a,.bool q)::F) S Q)/\(p=false->ah P n k D (x0::x1::x2::x3::(a,.bool r)::F) S Q))=ah P n k D (x0::x1::x2::x3::(a,.bool (cond p q r))::F) S Q:=by cases p<;>simp
def T3 (x0 x1 x2 x3:Nat×AV):((p=false->ah P n k D (x0::x1::x2::x3::(a,.bool r)::F) S Q)/\(p=true->ah P n k D (x0::x1::x2::x3::(a,.bool q)::F) S Q))=ah P n k D (x0::x1::x2::x3::(a,.bool (cond p q r))::F) S Q:=by cases p<;>simp
def Uu (x0 x1 x2 x3 x4:Nat×AV):((p=true->ah P n k D (x0::x1::x2::x3::x4::(a,.bool q)::F) S Q)/\(p=false->ah P n k D (x0::x1::x2::x3::x4::(a,.bool r)::F) S Q))=ah P n k D (x0::x1::x2::x3::x4::(a,.bool (cond p q r))::F) S Q:=by cases p<;>simp
def T4 (x0 x1 x2 x3 x4:Nat×AV):((p=false->ah P n k D (x0::x1::x2::x3::x4::(a,.bool r)::F) S Q)/\(p=true->ah P n k D (x0::x1::x2::x3::x4::(a,.bool q)::F) S Q))=ah P n k D (x0::x1::x2::x3::x4::(a,.bool (cond p q r))::F) S Q:=by cases p<;>simp
def Uv (x0 x1 x2 x3 x4 x5:Nat×AV):((p=true->ah P n k D (x0::x1::x2::x3::x4::x5::(a,.bool q)::F) S Q)/\(p=false->ah P n k D (x0::x1::x2::x3::x4::x5::(a,.bool r)::F) S Q))=ah P n k D (x0::x1::x2::x3::x4::x5::(a,.bool (cond p q r))::F) S Q:=by cases p<;>simp
def T5 (x0 x1 x2 x3 x4 x5:Nat×AV):((p=false->ah P n k D (x0::x1::x2::x3::x4::x5::(a,.bool r)::F) S Q)/\(p=true->ah P n k D (x0::x1::x2::x3::x4::x5::(a,.bool q)::F) S Q))=ah P n k D (x0::x1::x2::x3::x4::x5::(a,.bool (cond p q r))::F) S Q:=by cases p<;>simp
def Uw (x0 x1 x2 x3 x4 x5 x6:Nat×AV):((p=true->ah P n k D (x0::x1::x2::x3::x4::x5::x6::(a,.bool q)::F) S Q)/\(p=false->ah P n k D (x0::x1::x2::x3::x4::x5::x6::(a,.bool r)::F) S Q))=ah P n k D (x0::x1::x2::x3::x4::x5::x6::(a,.bool (cond p q r))::F) S Q:=by cases p<;>simp
def T6 (x0 x1 x2 x3 x4 x5 x6:Nat×AV):((p=false->ah P n k D (x0::x1::x2::x3::x4::x5::x6::(a,.bool r)::F) S Q)/\(p=true->ah P n k D (x0::x1::x2::x3::x4::x5::x6::(a,.bool q)::F) S Q))=ah P n k D (x0::x1::x2::x3::x4::x5::x6::(a,.bool (cond p q r))::F) S Q:=by cases p<;>simp
def Ux (x0 x1 x2 x3 x4 x5 x6 x7:Nat×AV):((p=true->ah P n k D (x0::x1::x2::x3::x4::x5::x6::x7::(a,.bool q)::F) S Q)/\(p=false->ah P n k D (x0::x1::x2::x3::x4::x5::x6::x7::(a,.bool r)::F) S Q))=ah P n k D (x0::x1::x2::x3::x4::x5::x6::x7::(a,.bool (cond p q r))::F) S Q:=by cases p<;>simp
def T7 (x0 x1 x2 x3 x4 x5 x6 x7:Nat×AV):((p=false->ah P n k D (x0::x1::x2::x3::x4::x5::x6::x7::(a,.bool r)::F) S Q)/\(p=true->ah P n k D (x0::x1::x2::x3::x4::x5::x6::x7::(a,.bool q)::F) S Q))=ah P n k D (x0::x1::x2::x3::x4::x5::x6::x7::(a,.bool (cond p q r))::F) S Q:=by cases p<;>simp
def Uy (x0 x1 x2 x3 x4 x5 x6 x7 x8:Nat×AV):((p=true->ah P n k D (x0::x1::x2::x3::x4::x5::x6::x7::x8::(a,.bool q)::F) S Q)/\(p=false->ah P n k D (x0::x1::x2::x3::x4::x5::x6::x7::x8::(a,.bool r)::F) S Q))=ah P n k D (x0::x1::x2::x3::x4::x5::x6::x7::x8::(a,.bool (cond p q r))::F) S Q:=by cases p<;>simp
def T8 (x0 x1 x2 x3 x4 x5 x6 x7 x8:Nat×AV):((p=false->ah P n k D (x0::x1::x2::x3::x4::x5::x6::x7::x8::(a,.bool r)::F) S Q)/\(p=true->ah P n k D (x0::x1::x2::x3::x4::x5::x6::x7::x8::(a,.bool q)::F) S Q))=ah P n k D (x0::x1::x2::x3::x4::x5::x6::x7::x8::(a,.bool (cond p q r))::F) S Q:=by cases p<;>simp
end merge
end Go.V
namespace Go.V
open Go
def wrap_u8 (x:Int):IntKind.u8.wrap x=x%256:=by simp [IntKind.wrap,IntKind.bits,IntKind.signed]
def wrap_u64 (x:Int):IntKind.u64.wrap x=x%18446744073709551616:=by simp [IntKind.wrap,IntKind.bits,IntKind.signed]
def vm {x:Int} (h0:0<=x) (h1:x<18446744073709551616):IntKind.u64.wrap x=x:=by rw [wrap_u64];omega
def rN {x:Int} (h0:0<=x) (h1:x<256):IntKind.u8.wrap x=x:=by rw [wrap_u8];omega
def aR {x:Int} (h0: -9223372036854775808<=x) (h1:x<9223372036854775808):IntKind.i64.wrap x=x:=by
 simp only [IntKind.wrap,IntKind.bits,IntKind.signed];simp;omega
def D6 (n:Nat):ck (UInt8.ofNat n)= .int .u8 ((n%256:Nat):Int):=by simp [ck]
def EJ (k:IntKind) (m:Nat) (s:Int) (h:s.toNat<=k.bits):mh k (m:Int) s=((m/2^s.toNat:Nat):Int):=by
 unfold mh;rw [BP h,B9 _ (Int.pow_nonneg (by decide))];simp
def bY {α:Type} {s:List α} {i:Nat} {c:α} (h:s[i]? =some c):s.drop i=c::s.drop (i+1):=by
 obtain ⟨h1,h2⟩:=Bz.1 h;rw [List.drop_eq_getElem_cons h1,h2]
def aK {α:Type} {s:List α} {i:Nat} (h:i<s.length):∃ c,s[i]? =some c:=⟨s[i],by simp [h]⟩
def fk {i n:Nat} (h:i<n):decide ((i:Int)<(n:Int))=true:=by simpa using h
def fE {i n:Nat} (h:n<=i):decide ((i:Int)<(n:Int))=false:=by simpa using h
def eD {i n:Nat} (h:i<n):((i:Int)<(n:Int))=True:=eq_true (by omega)
def ba {i:Nat} (h:i<9223372036854775807):IntKind.i64.wrap ((i:Int)+1)=((i+1:Nat):Int):=by rw [aR (by omega) (by omega)];rfl
end Go.V
namespace Go.V
open Go
abbrev Bytes:=List UInt8
structure jm where
 k:Bytes
 e:Int
 n:Int
 deriving DecidableEq
structure bX where
 kd:Int
 n:Int
 s:Bytes
 deriving DecidableEq
structure jB where
 XM:jm
 vs:List bX
 deriving DecidableEq
structure lZ where
 lR:Bytes
 fs:List Bytes
 xs:List jB
 deriving DecidableEq
structure rU where
 lR:Bytes
 fs:List Bytes
 ajO:List jm
 ama:Int
 pm:Int
 deriving DecidableEq
abbrev jm.av (x:jm):AV:= .agg [.str x.k,.int .i64 x.e,.int .i64 x.n]
abbrev bX.av (x:bX):AV:= .agg [.int .i64 x.kd,.int .i64 x.n,.str x.s]
abbrev jB.av (x:jB):AV:= .agg [.str x.XM.k,.int .i64 x.XM.e,.int .i64 x.XM.n,.sl 3 (x.vs.map bX.av) .ai]
abbrev lZ.av (d:lZ):AV:= .agg [.str d.lR,.sl 1 (d.fs.map AV.str) .ai,.sl 4 (d.xs.map jB.av) .ai]
abbrev rU.av (r:rU):AV:= .agg [.str r.lR,.sl 1 (r.fs.map AV.str) .ai,.sl 3 (r.ajO.map jm.av) .ai,.int .i64 r.ama,.int .i64 r.pm]
def nF (k:IntKind) (n:Int):AV.fg (.int k n)= .int k n:=rfl
def lT (s:Bytes):AV.fg (.str s)= .str s:=rfl
def Rq (b:Bool):AV.fg (.bool b)= .bool b:=rfl
def Rx:AV.fg .cV= .cV:=rfl
def Rv:AV.fg .cY= .cY:=rfl
def abL (f:Fn) (a b:List AV):AV.fg (.fn f a b)= .fn f a b:=rfl
def fp (k:Nat) (xs:List AV) (t:bE):AV.fg (.sl k xs t)= .sl k (xs.map AV.fg) .ai:=by simp [AV.fg,di]
def db (xs:List AV):AV.fg (.agg xs)= .agg (xs.map AV.fg):=by simp [AV.fg,di]
def xi (xs:List AV):AV.fg (.aF xs)= .aF (xs.map AV.fg):=by simp [AV.fg,di]
def Rr (b:UInt8):AV.fg (ck b)=ck b:=rfl
def K6 (x:jm):AV.fg x.av=x.av:=by simp [jm.av,db,nF,lT]
def K7 (x:bX):AV.fg x.av=x.av:=by simp [bX.av,db,nF,lT]
def pP {α:Type} (f:α->AV) (h:∀ a,AV.fg (f a)=f a) (l:List α):(l.map f).map AV.fg=l.map f:=by rw [AY];exact Bi fun a _=>h a
def NU (l:Bytes):(l.map ck).map AV.fg=l.map ck:=pP _ Rr l
def Ru (k:IntKind) (l:List Int):(l.map (AV.int k)).map AV.fg=l.map (AV.int k):=pP _ (nF k) l
def y7 (l:List Bytes):(l.map AV.str).map AV.fg=l.map AV.str:=pP _ lT l
def G8 (l:List bX):(l.map bX.av).map AV.fg=l.map bX.av:=pP _ K7 l
def G7 (l:List jm):(l.map jm.av).map AV.fg=l.map jm.av:=pP _ K6 l
def K5 (x:jB):AV.fg x.av=x.av:=by simp [jB.av,db,nF,lT,fp,G8,-List.map_map]
def G6 (l:List jB):(l.map jB.av).map AV.fg=l.map jB.av:=pP _ K5 l
def Rt (d:lZ):AV.fg d.av=d.av:=by simp [lZ.av,db,lT,fp,y7,G6,-List.map_map]
def Wd (d:rU):AV.fg d.av=d.av:=by simp [rU.av,db,lT,nF,fp,y7,G7,-List.map_map]
def aas (x:jm):al x.av=True:=by simp [jm.av,al.nq,al.fC,al.int_eq]
def aau (x:bX):al x.av=True:=by simp [bX.av,al.nq,al.fC,al.int_eq]
def UJ (x:UInt8):al (ck x)=True:=al.int_eq _ _
def UO (x:jm):(∀ c∈x.av.cells,al c)=True:=by simp [jm.av,AV.cells,al.fC,al.int_eq]
def UQ (x:bX):(∀ c∈x.av.cells,al c)=True:=by simp [bX.av,AV.cells,al.fC,al.int_eq]
def OK (x:UInt8):(∀ c∈(ck x).cells,al c)=True:=by simp [ck,AV.cells,al.int_eq]
def UP (x:Bytes):(∀ c∈(AV.str x).cells,al c)=True:=by simp [AV.cells,al.fC]
def UN (k:IntKind) (x:Int):(∀ c∈(AV.int k x).cells,al c)=True:=by simp [AV.cells,al.int_eq]
def ur {α:Type} {f:α->AV} (h:∀ a,∀ c∈(f a).cells,al c) (k:Nat) (l:List α):al (.sl k (l.map f) .ai)=True:=al.FY fun x hx=>by
 obtain ⟨a,_,rfl⟩:=Ai.1 hx;exact h a
def OJ (k:Nat) (l:Bytes):al (.sl k (l.map ck) .ai)=True:=ur (fun a=>of_eq_true (OK a)) k l
def uu (k:Nat) (l:List Bytes):al (.sl k (l.map AV.str) .ai)=True:=ur (fun a=>of_eq_true (UP a)) k l
def zl (k:Nat) (l:List bX):al (.sl k (l.map bX.av) .ai)=True:=ur (fun a=>of_eq_true (UQ a)) k l
def Hu (k:Nat) (l:List jm):al (.sl k (l.map jm.av) .ai)=True:=ur (fun a=>of_eq_true (UO a)) k l
def UL (k:Nat) (l:List Int):al (.sl k (l.map (AV.int .i64)) .ai)=True:=ur (fun a=>of_eq_true (UN _ a)) k l
def UM (x:jB):(∀ c∈x.av.cells,al c)=True:=by simp [jB.av,AV.cells,al.fC,al.int_eq,zl]
def aar (x:jB):al x.av=True:=by simp [jB.av,al.nq,al.fC,al.int_eq,zl]
def Ht (k:Nat) (l:List jB):al (.sl k (l.map jB.av) .ai)=True:=ur (fun a=>of_eq_true (UM a)) k l
def UK (x:lZ):al x.av=True:=by simp [lZ.av,al.nq,al.fC,uu,Ht]
def aat (x:rU):al x.av=True:=by simp [rU.av,al.nq,al.fC,al.int_eq,uu,Hu]
def Hc:=And.intro @aah (And.intro @JB (And.intro @L7 (And.intro @UF (And.intro @aal (And.intro @OD (And.intro @UD (And.intro @aaj (And.intro @OE (And.intro @UE (And.intro @UC (And.intro @aai (And.intro @aag (And.intro @Q6 (And.intro @Q7 (And.intro @rZ (And.intro @Jx (And.intro @sQ (And.intro @UA (And.intro @aeJ (And.intro @LW (And.intro @OA (And.intro @aab (And.intro @LV (And.intro @OW (And.intro @aeU (And.intro @OV (And.intro @Mv (And.intro @U1 (And.intro @U0 (And.intro @OC (And.intro @aak (And.intro @M8 (And.intro @x9 (And.intro @pk (And.intro @ME (And.intro @MD (And.intro @gV (And.intro @eS (And.intro @abh (@Fr.kY))))))))))))))))))))))))))))))))))))))))
def Hd:=And.intro @NJ (And.intro @KE (And.intro @Xi (And.intro @Xf (And.intro @Xh (And.intro @Xg (And.intro @TO (And.intro @UZ (And.intro @UW (And.intro @UY (And.intro @UX (And.intro @OU (And.intro @NQ (And.intro @Ms (And.intro @V8 (And.intro @UU (And.intro @Re (And.intro @OS (And.intro @U2 (@NR)))))))))))))))))))
def He:=And.intro @bh (And.intro @cT (And.intro @cA (And.intro @aM (And.intro @Ab.{0} (And.intro @AD.{0} (And.intro @or_true (And.intro @true_or (And.intro @or_false (And.intro @false_or (And.intro @List.lookup_nil.{0,0} (And.intro @List.map_cons.{0,0} (And.intro @Az.{0,0} (And.intro @Option.map_some.{0,0} (And.intro @Option.map_none.{0,0} (And.intro @Option.bind_some.{0,0} (And.intro @Option.bind_none.{0,0} (And.intro @List.nil_append.{0} (And.intro @AB.{0} (And.intro @List.cons_append.{0} (And.intro @Lo (And.intro @fS (And.intro @I3 (And.intro @Ln (And.intro @Lr (And.intro @I7 (And.intro @Lq (And.intro @Oh (And.intro @I4 (And.intro @Oi (And.intro @Og (And.intro @I5 (And.intro @Lm (And.intro @I6 (And.intro @Lk (And.intro @Ll (And.intro @wF (And.intro @DD (And.intro @akB (And.intro @akC (And.intro @akD (And.intro @akE (And.intro @aeL (And.intro @aeM (And.intro @aeN (And.intro @aeO (And.intro @Ap.{0,0} (And.intro @List.length_cons.{0} (And.intro @List.length_nil.{0} (And.intro @List.take_succ_cons.{0} (And.intro @List.take_zero.{0} (And.intro @Cf.{0} (And.intro @BJ.{0} (And.intro @List.getElem?_cons_zero.{0} (And.intro @List.getElem?_cons_succ.{0} (And.intro @List.all_cons.{0} (And.intro @List.all_nil.{0} (And.intro @decide_true (And.intro @decide_false (And.intro @BS (And.intro @Bool.true_and (And.intro @Bool.and_false (And.intro @Bool.false_and (And.intro @B7 (And.intro @Bool.not_false (And.intro @beq_self_eq_true.{0} (And.intro @bne_self_eq_false.{0} (And.intro @Aw (And.intro @Nat.add_zero (And.intro @Ah (And.intro @Bool.true_eq_false (And.intro @not_true_eq_false (And.intro @not_false_eq_true (And.intro @true_and (And.intro @and_true (And.intro @and_self (And.intro @false_and (And.intro @and_false (And.intro @true_implies (And.intro @false_implies (And.intro @Au (And.intro @Af (And.intro @Option.isNone_none.{0} (And.intro @Option.isNone_some.{0} (And.intro @Option.isSome_some.{0} (And.intro @Option.isSome_none.{0} (And.intro @Nat.succ_ne_self (And.intro @Int.toNat_natCast (And.intro @Int.toNat_zero (And.intro @Ad.{0,0} (And.intro @CD.{0} (And.intro @Out.ok.injEq (And.intro @AV.int.injEq (And.intro @AV.bool.injEq (And.intro @AV.str.injEq (And.intro @AV.aF.injEq (And.intro @AV.agg.injEq (And.intro @BV.{0} (And.intro @ge_iff_le.{0} (And.intro @gt_iff_lt.{0} (And.intro @Int.natCast_nonneg (And.intro @Bool.not_eq_true (And.intro @Bool.not_eq_false (And.intro @Rj (And.intro @NN (And.intro @Rk (And.intro @Ri (And.intro @Rh (And.intro @Rl (And.intro @Gs (And.intro @Gr (And.intro @T9 (And.intro @TW (And.intro @Uq (And.intro @TY (And.intro @Ur (And.intro @TZ (And.intro @Us (And.intro @T0 (And.intro @Ut (And.intro @T3 (And.intro @Uu (And.intro @T4 (And.intro @Uv (And.intro @T5 (And.intro @Uw (And.intro @T6 (And.intro @Ux (And.intro @T7 (And.intro @Uy (And.intro @T8 (And.intro @NI (And.intro @N7 (@Mu)))))))))))))))))))))))))))))))))))))))))))))))))))))))))))))))))))))))))))))))))))))))))))))))))))))))))))))))))))))))))))))))))))))
def bz:=And.intro @List.map_cons.{0,0} (And.intro @Az.{0,0} (And.intro @nF (And.intro @lT (And.intro @Rq (And.intro @Rx (And.intro @Rv (And.intro @abL (And.intro @fp (And.intro @db (And.intro @xi (And.intro @K6 (And.intro @K7 (And.intro @K5 (And.intro @Rt (And.intro @Wd (And.intro @NU (And.intro @Ru (And.intro @y7 (And.intro @G8 (And.intro @G7 (@G6)))))))))))))))))))))
def cz:=And.intro @OI (And.intro @Mc (And.intro @Ab.{0} (And.intro @AD.{0} (And.intro @or_false (And.intro @and_self (And.intro @and_true (And.intro @true_and (And.intro @al.tO (And.intro @al.int_eq (And.intro @al.fC (And.intro @al.UI (And.intro @al.UH (And.intro @al.UG (And.intro @al.nq (And.intro @al.abo (And.intro @al.Xl (And.intro @al.W9 (And.intro @al.acW (And.intro @aas (And.intro @aau (And.intro @aar (And.intro @UK (And.intro @aat (And.intro @UJ (And.intro @OJ (And.intro @uu (And.intro @zl (And.intro @Hu (And.intro @Ht (@UL))))))))))))))))))))))))))))))
section
variable {P:Program} {gl:List (Nat×List AV)} {f:FuncId} {as:List AV} {d:Option Nat} {K:Option AV->Fr->St->Prop} {F:Fr} {S S0:St} {Ls:List Nat} {nd:Bool} {p:bD}
def dg.pu {r:AV} (h:Pure P gl f as (.ok r)) (hg:ae gl) (hgl:S.gl=gl) (k:aX S0 Ls S/\bf P K S0 Ls p (aS d r F) S):dg P f as d nd p K S0 Ls F S:= .pure h hg hgl (fun _=>k.1) k.2
def dg.tk {k:Nat} {ys:List AV} (h:kO P gl f as k ys) (hg:ae gl) (hgl:S.gl=gl) (hk:aX S0 Ls S/\bf P K S0 Ls p (aS d (.sl k ys (.tok S.nt)) F) S.own):dg P f as d nd p K S0 Ls F S:= .Py h hg hgl (fun _=>hk.1) hk.2
def dg.pn {r:AV} (h:Pure P gl f as (.eH r)) (hg:ae gl) (hgl:S.gl=gl) (k:K (some r) F S):dg P f as d nd p K S0 Ls F S:= .eH h hg hgl k
def bt.pu {l:List aV} {r:AV} (h:Pure P gl f as (.ok r)) (hg:ae gl) (hgl:S.gl=gl) (k:cD P l K (aS d r F) S):bt P f as d l K F S:= .pure h hg hgl k
def bt.tk {l:List aV} {k:Nat} {ys:List AV} (h:kO P gl f as k ys) (hg:ae gl) (hgl:S.gl=gl) (hk:cD P l K (aS d (.sl k ys (.tok S.nt)) F) S.own):bt P f as d l K F S:= .Py h hg hgl hk
def bt.pn {l:List aV} {r:AV} (h:Pure P gl f as (.eH r)) (hg:ae gl) (hgl:S.gl=gl) (k:K (some r) F S):bt P f as d l K F S:= .eH h hg hgl k
end
def bp {P:Program} {n:Nat} {Q:er} {c c':MC} (h:c=c') {k:List MI} {D:ep} {F:Fr} {S:St} (hm:mw P n Q 60 (.code c'::k) D F S):ah P n (.code c::k) D F S Q:=ab 60 (bM h hm)
end Go.V
namespace Go.V
open Go
section
variable {β:Type}
def dS (K:Nat) (k:Nat->Nat->β) (N:Nat):β:=k (N%K) (N/K)
def dB (k:Bool->Nat->β) (N:Nat):β:=k (Nat.beq (N%2) 1) (N/2)
def dN:Nat->(Nat->Nat->β)->Nat->β
 |0,k,N=>k 0 N
 |f+1,k,N=>bif Nat.ble 8 (N%16) then dN f (fun r=>k (N%16-8+8*r)) (N/16) else k (N%16) (N/16)
def dL {α:Type} (d:(α->Nat->β)->Nat->β):Nat->(List α->Nat->β)->Nat->β
 |0,k,N=>k [] N
 |f+1,k,N=>bif Nat.beq (N%2) 1 then d (fun x=>dL d f (fun xs=>k (x::xs))) (N/2) else k [] (N/2)
def dZ {α:Type} (d:(α->Nat->β)->Nat->β) (k:Option α->Nat->β) (N:Nat):β:=bif Nat.beq (N%2) 1 then d (fun x=>k (some x)) (N/2) else k none (N/2)
def Xm (x:Nat):List Nat->List Nat
 |[]=>[x]
 |y::l=>bif Nat.ble x y then x::y::l else y::Xm x l
def dW:List Nat->(List Nat->Nat->β)->Nat->β
 |[],k,N=>k [] N
 |y::p,k,N=>bif Nat.beq (N%2) 1 then dW p (fun l=>k (y::l)) (N/2) else dW p k (N/2)
def dk (K d:Nat) (p:List Nat) (k:List Nat->Nat->β) (N:Nat):β:=bif Nat.beq (N%2) 1 then dW p (fun l=>dL (fun k N=>bif Nat.beq (N%2) 1 then dS K k (N/2) else k d (N/2)) 300 fun a=>k (a.foldr Xm l)) (N/2) else k p (N/2)
def dY (k:List UInt8->Nat->β):Nat->β:=dL (dS 256) 900 fun l=>k (l.map UInt8.ofNat)
def dI (k:Int->Nat->β) (N:Nat):β:=bif Nat.beq (N%2) 1 then dN 30 (fun n=>k (-(n:Int))) (N/2) else dN 30 (fun n=>k (n:Int)) (N/2)
def dJ {α:Type} (l:List α) (z:α) (k:α->Nat->β) (N:Nat):β:=k (l.getD (N%l.length) z) (N/l.length)
def dr (k:Nat×Nat->Nat->β):Nat->β:=dN 30 fun a=>dN 30 fun b=>k (a,b)
def dF (k:Fn->Nat->β):Nat->β:=dN 30 fun a=>k (.func a)
def dV1 (k:AV->Nat->β) (N:Nat):β:=bif Nat.beq (N%7) 0 then dJ [.i64,.u64,.u8,.i32,.u32,.i16,.u16,.i8] .i64 (fun x0=>dI (fun x1=>k (.int x0 x1))) (N/7) else bif Nat.beq (N%7) 1 then dY (fun x0=>k (.str x0)) (N/7) else bif Nat.beq (N%7) 2 then dN 30 (fun x0=>k (.sl x0 [] .exact)) (N/7) else bif Nat.beq (N%7) 3 then k (.cV) (N/7) else bif Nat.beq (N%7) 4 then k (.cY) (N/7) else bif Nat.beq (N%7) 5 then k (.fw) (N/7) else k (.gM) (N/7)
variable (C:Option (List AV)) (K d:Nat)
def dV (k:AV->Nat->β) (N:Nat):β:=match C with
 |some C=>dN 30 (fun i=>k (C.getD i .de)) N
 |none=>bif Nat.beq (N%4) 0 then dN 30 (fun n=>k (.int .i64 n)) (N/4) else bif Nat.beq (N%4) 1 then k (.bool false) (N/4) else bif Nat.beq (N%4) 2 then k (.bool true) (N/4) else dV1 k (N/4)
def dO (k:aj->Nat->β) (N:Nat):β:=bif Nat.beq (N%2) 0 then k (.t d) (N/2) else bif Nat.beq (N/2%4) 0 then dS K (fun n=>k (.t n)) (N/8) else bif Nat.beq (N/2%4) 1 then dV C (fun v=>k (.c v)) (N/8) else bif Nat.beq (N/2%4) 2 then dN 30 (fun n=>k (.f n)) (N/8) else bif Nat.beq (N/8%2) 0 then dN 30 (fun n=>k (.g n)) (N/16) else dN 30 (fun n=>dL dr 900 (fun r=>k (.vb n r))) (N/16)
def dq (k:Nat×Nat×aj->Nat->β):Nat->β:=dN 30 fun a=>dN 30 fun b=>dO C K d fun c=>k (a,b,c)
def dT (k:MX->Nat->β) (N:Nat):β:=bif Nat.beq (N%5) 0 then dO C K d (fun x0=>k (.it (.FJ x0))) (N/5) else bif Nat.beq (N%5) 1 then dO C K d (fun x0=>k (.it (.Fx x0))) (N/5) else bif Nat.beq (N%5) 2 then dO C K d (fun x0=>k (.it (.lR x0))) (N/5) else bif Nat.beq (N%5) 3 then dO C K d (fun x0=>k (.it (.vP x0))) (N/5) else dN 30 (fun x0=>dV C (fun x1=>dO C K d (fun x2=>k (.it (.Fq x0 x1 x2))))) (N/5)
def dX1 (k:MX->Nat->β) (N:Nat):β:=bif Nat.beq (N%53) 0 then dN 30 (fun x0=>dO C K d (fun x1=>k (.k (.qK x0 x1)))) (N/53) else bif Nat.beq (N%53) 1 then dO C K d (fun x0=>dL (dO C K d) 900 (fun x1=>k (.call x0 x1))) (N/53) else bif Nat.beq (N%53) 2 then dN 30 (fun x0=>dO C K d (fun x1=>dO C K d (fun x2=>k (.k (.store x0 x1 x2))))) (N/53) else bif Nat.beq (N%53) 3 then dN 30 (fun x0=>dO C K d (fun x1=>dO C K d (fun x2=>k (.k (.qR x0 x1 x2))))) (N/53) else bif Nat.beq (N%53) 4 then dB (fun x0=>dO C K d (fun x1=>k (.k (.len x0 x1)))) (N/53) else bif Nat.beq (N%53) 5 then dL (dV C) 900 (fun x0=>k (.k (.alloc x0))) (N/53) else bif Nat.beq (N%53) 6 then dL (dV C) 900 (fun x0=>dL (dq C K d) 900 (fun x1=>k (.k (.build x0 x1)))) (N/53) else bif Nat.beq (N%53) 7 then dN 30 (fun x0=>dN 30 (fun x1=>dB (fun x2=>dO C K d (fun x3=>k (.k (.Ha x0 x1 x2 x3)))))) (N/53) else bif Nat.beq (N%53) 8 then dO C K d (fun x0=>dN 30 (fun x1=>k (.k (.ext x0 x1)))) (N/53) else bif Nat.beq (N%53) 9 then dJ [.neg,.xor,.not,.plus] .neg (fun x0=>dO C K d (fun x1=>k (.k (.un x0 x1)))) (N/53) else bif Nat.beq (N%53) 10 then dN 30 (fun x0=>dN 30 (fun x1=>dO C K d (fun x2=>dO C K d (fun x3=>k (.k (.app x0 x1 x2 x3)))))) (N/53) else bif Nat.beq (N%53) 11 then dO C K d (fun x0=>dO C K d (fun x1=>k (.k (.sH x0 x1)))) (N/53) else bif Nat.beq (N%53) 12 then dJ [.i64,.u64,.u8,.i32,.u32,.i16,.u16,.i8] .i64 (fun x0=>dO C K d (fun x1=>k (.k (.conv x0 x1)))) (N/53) else bif Nat.beq (N%53) 13 then dL (dJ [.i,.s,.b] .i) 300 (fun x0=>dB (fun x1=>dO C K d (fun x2=>dO C K d (fun x3=>k (.k (.eqv x0 x1 x2 x3)))))) (N/53) else bif Nat.beq (N%53) 14 then dN 30 (fun x0=>dL (dV C) 900 (fun x1=>dL (dO C K d) 900 (fun x2=>k (.k (.rj x0 x1 x2))))) (N/53) else bif Nat.beq (N%53) 15 then dO C K d (fun x0=>dZ (dO C K d) (fun x1=>dZ (dO C K d) (fun x2=>k (.k (.yq x0 x1 x2))))) (N/53) else bif Nat.beq (N%53) 16 then dN 30 (fun x0=>dO C K d (fun x1=>dZ (dO C K d) (fun x2=>dZ (dO C K d) (fun x3=>dZ (dO C K d) (fun x4=>k (.k (.yr x0 x1 x2 x3 x4))))))) (N/53) else bif Nat.beq (N%53) 17 then dO C K d (fun x0=>k (.k (.xN x0))) (N/53) else bif Nat.beq (N%53) 18 then dO C K d (fun x0=>k (.k (.box x0))) (N/53) else bif Nat.beq (N%53) 19 then dO C K d (fun x0=>dO C K d (fun x1=>dO C K d (fun x2=>k (.k (.pick x0 x1 x2))))) (N/53) else bif Nat.beq (N%53) 20 then dO C K d (fun x0=>dO C K d (fun x1=>k (.k (.min x0 x1)))) (N/53) else bif Nat.beq (N%53) 21 then dN 30 (fun x0=>dN 30 (fun x1=>dO C K d (fun x2=>k (.k (.oJ x0 x1 x2))))) (N/53) else bif Nat.beq (N%53) 22 then dN 30 (fun x0=>dB (fun x1=>dO C K d (fun x2=>dO C K d (fun x3=>k (.k (.cmp x0 x1 x2 x3)))))) (N/53) else bif Nat.beq (N%53) 23 then dO C K d (fun x0=>k (.k (.DX x0))) (N/53) else bif Nat.beq (N%53) 24 then dO C K d (fun x0=>k (.k (.HJ x0))) (N/53) else bif Nat.beq (N%53) 25 then dN 30 (fun x0=>dO C K d (fun x1=>k (.k (.cI x0 x1)))) (N/53) else bif Nat.beq (N%53) 26 then dN 30 (fun x0=>dN 30 (fun x1=>dO C K d (fun x2=>dO C K d (fun x3=>k (.k (.mI x0 x1 x2 x3)))))) (N/53) else bif Nat.beq (N%53) 27 then dN 30 (fun x0=>dN 30 (fun x1=>dB (fun x2=>dO C K d (fun x3=>dO C K d (fun x4=>k (.k (.vI x0 x1 x2 x3 x4))))))) (N/53) else bif Nat.beq (N%53) 28 then dN 30 (fun x0=>dB (fun x1=>dO C K d (fun x2=>k (.k (.nn x0 x1 x2))))) (N/53) else bif Nat.beq (N%53) 29 then dN 30 (fun x0=>dN 30 (fun x1=>dO C K d (fun x2=>dO C K d (fun x3=>k (.k (.qA x0 x1 x2 x3)))))) (N/53) else bif Nat.beq (N%53) 30 then dN 30 (fun x0=>dN 30 (fun x1=>dO C K d (fun x2=>dO C K d (fun x3=>k (.k (.qB x0 x1 x2 x3)))))) (N/53) else bif Nat.beq (N%53) 31 then dN 30 (fun x0=>dV C (fun x1=>dO C K d (fun x2=>k (.k (.CG x0 x1 x2))))) (N/53) else bif Nat.beq (N%53) 32 then dN 30 (fun x0=>dJ [.i64,.u64,.u8,.i32,.u32,.i16,.u16,.i8] .i64 (fun x1=>dI (fun x2=>dN 30 (fun x3=>k (.k (.Fp x0 x1 x2 x3)))))) (N/53) else bif Nat.beq (N%53) 33 then dO C K d (fun x0=>k (.panic x0)) (N/53) else bif Nat.beq (N%53) 34 then dF (fun x0=>dL (dO C K d) 900 (fun x1=>dL (dO C K d) 900 (fun x2=>k (.k (.func x0 x1 x2))))) (N/53) else bif Nat.beq (N%53) 35 then k (.k (.mkMap)) (N/53) else bif Nat.beq (N%53) 36 then dB (fun x0=>dB (fun x1=>dV C (fun x2=>dO C K d (fun x3=>dO C K d (fun x4=>k (.k (.look x0 x1 x2 x3 x4))))))) (N/53) else bif Nat.beq (N%53) 37 then dB (fun x0=>dO C K d (fun x1=>dO C K d (fun x2=>dO C K d (fun x3=>k (.k (.ins x0 x1 x2 x3)))))) (N/53) else bif Nat.beq (N%53) 38 then dJ [.i64,.u64,.u8,.i32,.u32,.i16,.u16,.i8] .i64 (fun x0=>dI (fun x1=>dO C K d (fun x2=>dO C K d (fun x3=>k (.k (.o9 x0 x1 x2 x3)))))) (N/53) else bif Nat.beq (N%53) 39 then dO C K d (fun x0=>dO C K d (fun x1=>k (.k (.max x0 x1)))) (N/53) else bif Nat.beq (N%53) 40 then dN 30 (fun x0=>dO C K d (fun x1=>k (.k (.zI x0 x1)))) (N/53) else bif Nat.beq (N%53) 41 then dN 30 (fun x0=>dO C K d (fun x1=>k (.k (.uK x0 x1)))) (N/53) else bif Nat.beq (N%53) 42 then dO C K d (fun x0=>k (.k (.uL x0))) (N/53) else bif Nat.beq (N%53) 43 then dB (fun x0=>dO C K d (fun x1=>k (.k (.Ie x0 x1)))) (N/53) else bif Nat.beq (N%53) 44 then dN 30 (fun x0=>dL (dV C) 900 (fun x1=>dO C K d (fun x2=>k (.k (.Ef x0 x1 x2))))) (N/53) else bif Nat.beq (N%53) 45 then dN 30 (fun x0=>dL (dV C) 900 (fun x1=>dL (dO C K d) 900 (fun x2=>k (.k (.vV x0 x1 x2))))) (N/53) else bif Nat.beq (N%53) 46 then dN 30 (fun x0=>dO C K d (fun x1=>k (.k (.IE x0 x1)))) (N/53) else bif Nat.beq (N%53) 47 then dN 30 (fun x0=>dO C K d (fun x1=>dZ (dO C K d) (fun x2=>dZ (dO C K d) (fun x3=>dZ (dO C K d) (fun x4=>k (.k (.FX x0 x1 x2 x3 x4))))))) (N/53) else bif Nat.beq (N%53) 48 then dN 30 (fun x0=>dO C K d (fun x1=>dO C K d (fun x2=>k (.k (.GO x0 x1 x2))))) (N/53) else bif Nat.beq (N%53) 49 then dN 30 (fun x0=>dN 30 (fun x1=>dO C K d (fun x2=>dO C K d (fun x3=>k (.k (.sj x0 x1 x2 x3)))))) (N/53) else bif Nat.beq (N%53) 50 then dN 30 (fun x0=>dN 30 (fun x1=>dL (dV C) 900 (fun x2=>dO C K d (fun x3=>dO C K d (fun x4=>k (.k (.sr x0 x1 x2 x3 x4))))))) (N/53) else bif Nat.beq (N%53) 51 then k (.k .bad) (N/53) else dT C K d k (N/53)
def dX (k:MX->Nat->β) (N:Nat):β:=bif Nat.beq (N%4) 0 then dO C K d (fun x0=>k (.k (.oL x0))) (N/4) else bif Nat.beq (N%4) 1 then dN 30 (fun x0=>dB (fun x1=>dO C K d (fun x2=>k (.k (.load x0 x1 x2))))) (N/4) else bif Nat.beq (N%4) 2 then dJ [.add,.sub,.mul,.quo,.rem,.and,.or,.xor,.shl,.shr,.andNot,.eql,.neq,.lss,.leq,.gtr,.geq] .add (fun x0=>dO C K d (fun x1=>dO C K d (fun x2=>k (.k (.bin x0 x1 x2))))) (N/4) else dX1 C K d k (N/4)
def dU (f:Nat×Bool->Nat->β) (g:Nat×Bool) (N:Nat):β:=bif Nat.beq (N%2) 0 then f g (N/2) else dS K (fun x=>dB fun y=>f (x,y)) (N/2)
def dP (m i:Nat) (g:Nat×Bool) (k:aV->Nat->Nat->Nat->Nat×Bool->Nat->β) (N:Nat):β:=
 bif Nat.beq (N%2) 0 then dX C K d (fun x=>k ⟨i,some (d+1),none,x⟩ (i+1) (d+1) (bif Nat.ble m (d+1) then d+1 else m) g) (N/2)
 else bif Nat.beq (N/2%7) 0 then dX C K d (fun x=>k ⟨i,none,none,x⟩ (i+1) d m g) (N/14)
 else bif Nat.beq (N/2%7) 1 then dX C K d (fun x=>k ⟨i,some (m+1),none,x⟩ (i+1) (m+1) (m+1) g) (N/14)
 else bif Nat.beq (N/2%7) 2 then dS K (fun e=>dX C K d (fun x=>k ⟨i,some e,none,x⟩ (i+1) e (bif Nat.ble m e then e else m) g)) (N/14)
 else bif Nat.beq (N/2%7) 3 then dU K (fun g=>dX C K d (fun x=>k ⟨i,none,some g,x⟩ (i+1) d m g)) g (N/14)
 else bif Nat.beq (N/2%7) 4 then dU K (fun g=>dX C K d (fun x=>k ⟨i,some (d+1),some g,x⟩ (i+1) (d+1) (bif Nat.ble m (d+1) then d+1 else m) g)) g (N/14)
 else dS K (fun e=>dU K (fun g=>dX C K d (fun x=>k ⟨i,some e,some g,x⟩ (i+1) e (bif Nat.ble m e then e else m) g)) g) (N/14)
def dm (m i:Nat) (g:Nat×Bool) (k:aV->Nat->Nat->Nat->Nat×Bool->Nat->β) (N:Nat):β:=bif Nat.beq (N%2) 1 && Nat.beq (N/2%7) 6 then dN 30 (fun i=>dP C K d m i g k) (N/14) else dP C K d m i g k N
end
section
variable {β:Type} (C:Option (List AV)) (K:Nat)
def dR:Nat->Nat->Nat->Nat->Nat×Bool->(List aV->Nat->Nat->Nat×Bool->Nat->β)->Nat->β
 |0,d,m,_,g,k,N=>k [] d m g N
 |f+1,d,m,i,g,k,N=>bif Nat.beq (N%2) 1 then dm C K d m i g (fun x i d m g=>dR f d m i g (fun xs=>k (x::xs))) (N/2) else k [] d m g (N/2)
def dQ:Nat->Nat->Nat->Nat->Nat×Bool->(bD->Nat->Nat->Nat->Nat×Bool->Nat->β)->Nat->β
 |0,d,m,i,g,k,N=>k .done i d m g N
 |f+1,d,m,i,g,k,N=>bif Nat.beq (N%4) 0 then dm C K d m i g (fun o i d m g=>dB fun a=>dB fun b=>dQ f d m i g (fun r=>k (.one o a b r))) (N/4)
  else bif Nat.beq (N%4) 1 then k .done i d m g (N/4)
  else bif Nat.beq (N%4) 2 then dm C K d m i g (fun o i d m g=>dB fun a=>dQ f d m i g (fun r i d m g=>dm C K d m i g (fun o' i d m g=>dB fun a'=>dQ f d m i g (fun r'=>k (.two o a r o' a' r'))))) (N/4)
  else dm C K d m i g (fun o i d m g=>dB fun a=>dQ f d m i g (fun r i d m g=>dm C K d m i g (fun o' i d m g=>dB fun a'=>dQ f d m i g (fun r' i d m g=>dm C K d m i g (fun o2 i d m g=>dB fun a2=>dQ f d m i g (fun r2=>k (.iI o a r o' a' r' o2 a2 r2))))))) (N/4)
variable (P:List MC)
def wV:Nat->Nat->Nat->Nat×Bool->List Nat->(MC->Nat->Nat->Nat×Bool->List Nat->Nat->β)->Nat->β
 |0,d,m,g,p,k,N=>k .bad d m g p N
 |f+1,d,m,g,p,k,N=>bif Nat.beq (N%4) 0 then wV f d m g p (fun a d m g p=>wV f d m g p (fun b=>k (.seq a b))) (N/4)
  else bif Nat.beq (N%4) 1 then dR C K 900 d m 0 g (fun l d m g=>dk K d p (fun p=>k (.iG l p) d m g p)) (N/4)
  else bif Nat.beq (N%4) 2 then dO C K d (fun c=>wV f d m g p (fun a d m g p=>wV f d m g p (fun b=>k (.cond c a b)))) (N/4)
  else bif Nat.beq (N/4%9) 0 then dQ C K 900 d m 0 g (fun l _ d m g=>dL (dN 30) 900 (fun q=>dk K d p (fun p=>k (.any l q p) d m g p))) (N/36)
  else bif Nat.beq (N/4%9) 1 then dk K d p (fun q=>wV f d m g q (fun a=>k (.named q a))) (N/36)
  else bif Nat.beq (N/4%9) 2 then k .ret d m g p (N/36)
  else bif Nat.beq (N/4%9) 3 then dN 30 (fun i=>wV f d m g p (fun a=>k (.block i a))) (N/36)
  else bif Nat.beq (N/4%9) 4 then dN 30 (fun i=>k (.exit i) d m g p) (N/36)
  else bif Nat.beq (N/4%9) 5 then wV f d m g p (fun a=>k (.loop a)) (N/36)
  else bif Nat.beq (N/4%9) 6 then k .skip d m g p (N/36)
  else bif Nat.beq (N/4%9) 7 then k .bad d m g p (N/36)
  else dN 30 (fun i=>k (P.getD i .bad) d m g p) (N/36)
end
def dM:Nat->MC:=dN 30 fun K=>wV none K [] 900 0 0 (0,false) [] fun m _ _ _ _ _=>m
def dC (C:List AV) (P:List MC):Nat->MC:=dN 30 fun K=>wV (some C) K P 900 0 0 (0,false) [] fun m _ _ _ _ _=>m
def rO {a b:MC} (_:a=b):MC:=b
def rP {a b:MC} (_:a=b):MC:=b
def ar {P:Program} {n f:Nat} {Q:er} {a b:MC} {h:a=b} {k:List MI} {D:ep} {F:Fr} {S:St} (hm:mw P n Q f (.code b::k) D F S):mw P n Q f (.code (rP h)::k) D F S:=hm
def au {P:Program} {n:Nat} {Q:er} {a b:MC} {h:a=b} {k:List MI} {D:ep} {F:Fr} {S:St} (hm:mw P n Q 60 (.code b::k) D F S):ah P n (.code (rP h)::k) D F S Q:=ab 60 hm
end Go.V
