/- The by-value layer, part thirteen and a half: statements whose operations may come in more than one order. Over any program. -/
import Derived.Test.YtoopnalhhfmgaaaGreatDoorVB
import Derived.Orders
import Derived.Scope
import Derived.Recover
import Derived.Sort.Grow
import Derived.Deep.Draws
set_option linter.defProp false
set_option linter.unusedSimpArgs false
set_option linter.unusedVariables false
namespace Go.V
open Go
def aj.rd:aj->List Nat
 | .t n| .uX n _=>[n]
 |_=>[]
def um:Option aj->List Nat
 |some x=>x.rd
 |none=>[]
def MK.rd:MK->List Nat
 | .ou x| .box x| .wo x| .un _ x| .conv _ x| .K5 x| .Fw x| .rB _ x| .H7 _ _ _ x| .cH _ x| .ext x _| .len _ x| .HL x| .om _ _ x| .z6 _ _ x=>x.rd
 | .pick c a b=>c.rd++(a.rd++b.rd)
 | .alloc _| .lU| .bad| .DS ..=>[]
 | .Xa _ _ x| .nn _ _ x| .DY _ _ x| .IM _ x=>x.rd
 | .sy _ _ x y| .rG _ _ x y| .qS _ _ x y| .th _ _ x y| .sI _ _ _ x y| .HR _ x y=>x.rd++y.rd
 | .build _ ps=>ps.flatMap fun p=>p.2.2.rd
 | .rF _ _ xs| .vG _ _ xs=>xs.flatMap aj.rd
 | .load _ _ p=>p.rd
 | .store _ p x=>p.rd++x.rd
 | .bin _ x y| .eqv _ _ x y| .min x y| .max x y| .rI _ x y| .mM _ _ x y| .sW x y| .vH _ _ _ x y| .app _ _ x y| .cmp _ _ x y=>x.rd++y.rd
 | .xO x lo hi=>x.rd++(um lo++um hi)
 | .xC _ x lo hi mx| .EJ _ x lo hi mx=>x.rd++(um lo++(um hi++um mx))
 | .func _ fi ca=>fi.flatMap aj.rd++ca.flatMap aj.rd
 | .mkMap=>[]
 | .zb _ x| .uD _ x| .uo x| .HD _ x=>x.rd
 | .ins _ m x y=>m.rd++(x.rd++y.rd)
 | .look _ _ _ m x| .pq _ _ m x=>m.rd++x.rd
def MK.kd:MK->Nat
 | .load ..=>1
 | .alloc _| .box _| .store ..| .app ..| .om ..| .z6 ..| .lU| .sy ..| .rG ..| .qS ..| .vG ..| .th ..| .sI ..| .HR ..| .DY ..| .mkMap| .ins ..| .look ..| .pq ..| .zb ..| .uD ..| .uo _| .HD ..=>2
 |_=>0
def MX.rd:MX->List Nat
 | .k m=>m.rd
 | .call c as=>c.rd++as.flatMap aj.rd
 | .panic x=>x.rd
 | .it m=>m.x.rd
def MX.kd:MX->Nat
 | .k m=>m.kd
 |_=>2
def aX.sV (o:aX):List Nat:=o.op.rd++(match o.gd with
 |some (t,_)=>[t]
 |none=>[])
section congr
variable {F F':Fr} {S:St}
def aj.congr {x:aj} (h:∀ t∈x.rd,F.get t=F'.get t):x.ev F=x.ev F':=by
 cases x<;>first
  |rfl
  |exact h _ (by simp [aj.rd])
  |(simp only [aj.ev];rw [h _ (by simp [aj.rd])])
def iK {x:Option aj} (h:∀ t∈um x,F.get t=F'.get t):x.map (aj.ev F)=x.map (aj.ev F'):=by
 cases x with
 |none=>rfl
 |some x=>simp only [Option.map_some];rw [aj.congr (x:=x) h]
def j9:∀ {xs:List aj},(∀ t∈xs.flatMap aj.rd,F.get t=F'.get t)->xs.map (aj.ev F)=xs.map (aj.ev F')
 |[],_=>rfl
 |x::xs,h=>by
  simp only [Ct,AA] at h;rw [List.map_cons,List.map_cons,aj.congr (x:=x) fun t ht=>h t (.inl ht),j9 fun t ht=>h t (.inr ht)]
def xj:∀ {ps:List (Nat×Nat×aj)} {cs:List AV},(∀ t∈ps.flatMap (fun p=>p.2.2.rd),F.get t=F'.get t)->dp F cs ps=dp F' cs ps
 |[],_,_=>rfl
 |(o,n,x)::ps,cs,h=>by
  simp only [Ct,AA] at h;have h1:x.ev F=x.ev F':=aj.congr fun t ht=>h t (.inl ht);simp only [dp,h1];split
  ·exact xj fun t ht=>h t (.inr ht)
  ·rfl
def MK.congr {m:MK} (h:∀ t∈m.rd,F.get t=F'.get t):m.ev F S=m.ev F' S/\m.ob F S=m.ob F' S:=by
 cases m<;>simp only [MK.rd,AA] at h
 case alloc=>exact ⟨rfl,rfl⟩
 case lU=>exact ⟨rfl,rfl⟩
 case bad=>exact ⟨rfl,rfl⟩
 case mkMap=>exact ⟨rfl,rfl⟩
 case DS=>exact ⟨rfl,rfl⟩
 case ins=>
  have h1:=aj.congr fun t ht=>h t (.inl ht);have h2:=aj.congr fun t ht=>h t (.inr (.inl ht));have h3:=aj.congr fun t ht=>h t (.inr (.inr ht));simp only [MK.ev,MK.ob,h1,h2,h3];exact ⟨trivial,trivial⟩
 case build=>simp only [MK.ev,MK.ob,xj h];exact ⟨trivial,trivial⟩
 case rF=>simp only [MK.ev,MK.ob,j9 h];exact ⟨trivial,trivial⟩
 case vG=>simp only [MK.ev,MK.ob,j9 h];exact ⟨trivial,trivial⟩
 case pick=>
  have h1:=aj.congr fun t ht=>h t (.inl ht);have h2:=aj.congr fun t ht=>h t (.inr (.inl ht));have h3:=aj.congr fun t ht=>h t (.inr (.inr ht));simp only [MK.ev,MK.ob,h1,h2,h3];exact ⟨trivial,trivial⟩
 case xO=>
  have h1:=aj.congr fun t ht=>h t (.inl ht);have h2:=iK fun t ht=>h t (.inr (.inl ht));have h3:=iK fun t ht=>h t (.inr (.inr ht));simp only [MK.ev,MK.ob,h1,h2,h3];exact ⟨trivial,trivial⟩
 case xC=>
  have h1:=aj.congr fun t ht=>h t (.inl ht);have h2:=iK fun t ht=>h t (.inr (.inl ht));have h3:=iK fun t ht=>h t (.inr (.inr (.inl ht)));have h4:=iK fun t ht=>h t (.inr (.inr (.inr ht)));simp only [MK.ev,MK.ob,h1,h2,h3,h4];exact ⟨trivial,trivial⟩
 case EJ=>
  have h1:=aj.congr fun t ht=>h t (.inl ht);have h2:=iK fun t ht=>h t (.inr (.inl ht));have h3:=iK fun t ht=>h t (.inr (.inr (.inl ht)));have h4:=iK fun t ht=>h t (.inr (.inr (.inr ht)));simp only [MK.ev,MK.ob,h1,h2,h3,h4];exact ⟨trivial,trivial⟩
 case func=>
  have h1:=j9 fun t ht=>h t (.inl ht);have h2:=j9 fun t ht=>h t (.inr ht);simp only [MK.ev,MK.ob,h1,h2];exact ⟨trivial,trivial⟩
 all_goals first
  |(have h1:=aj.congr h
    simp only [MK.ev,MK.ob,h1]
    exact ⟨trivial,trivial⟩)
  |(have h1:=aj.congr fun t ht=>h t (.inl ht)
    have h2:=aj.congr fun t ht=>h t (.inr ht);simp only [MK.ev,MK.ob,h1,h2]
    exact ⟨trivial,trivial⟩)
end congr
def MK.pure {m : MK} {F : Fr} {S S1 : St} {v : AV} (hk : m.kd = 0) (h : m.ev F S = some (v,S1)) : S1 = S /\ ∀ S',m.ev F S' = some (v,S') /\ m.ob F S' = m.ob F S := by
  cases m <;> simp only [MK.kd] at hk <;> first
    | (cases hk; done)
    | skip
  case Fw x =>
    simp only [MK.ev,MK.ob] at h ⊢;generalize x.ev F = y at h;split at h
    · split at h
      · simp only [Ag,Ac] at h
        obtain ⟨a,h1,rfl,rfl⟩ := h;refine ⟨rfl,fun S' => ⟨?_,trivial⟩⟩
        simp_all
      · cases h
    · cases h
  case len s x =>
    simp only [MK.ev,MK.ob] at h ⊢;split at h
    · simp only [Ag,Ac] at h
      obtain ⟨a,h1,rfl,rfl⟩ := h;refine ⟨rfl,fun S' => ⟨?_,trivial⟩⟩
      simp_all
    · cases h
  all_goals
    (simp only [MK.ev,MK.ob] at h ⊢
     first
       | (simp only [Ag,Ac] at h
          obtain ⟨a,h1,rfl,rfl⟩ := h;refine ⟨rfl,fun S' => ⟨?_,trivial⟩⟩;rw [h1]
          rfl)
       | (split at h <;> simp_all <;> done)
       | (split at h
          · (simp only [Ag,Ac] at h
             obtain ⟨a,h1,rfl,rfl⟩ := h;refine ⟨rfl,fun S' => ⟨?_,trivial⟩⟩;rw [h1]
             rfl)
          · cases h)
       | (split at h
          · split at h
            · (simp only [Ag,Ac] at h
               obtain ⟨a,h1,rfl,rfl⟩ := h;refine ⟨rfl,fun S' => ⟨?_,trivial⟩⟩;rw [h1]
               rfl)
            · cases h
          · cases h)
       | (simp_all; done))
def iq (F F':Fr):Prop:=∀ t,F.lookup t=F'.lookup t
def iq.symm {F F':Fr} (h:iq F F'):iq F' F:=fun t=>(h t).symm
def iq.get {F F':Fr} (h:iq F F') (t:Nat):F.get t=F'.get t:=by unfold Fr.get;rw [h t]
def jf (d:Option Nat) (v:AV) (F:Fr) (t:Nat):(aT d v F).lookup t=if d=some t then some v else F.lookup t:=by
 cases d with
 |none=>simp [aT]
 |some d=>
  simp only [aT,List.lookup_cons,Ae]
  by_cases h:t=d
  ·subst h;simp
  ·have:(t==d)=false:=by simpa using h
   simp [this,AQ h]
def iq.put {F F':Fr} (h:iq F F') (d:Option Nat) (v:AV):iq (aT d v F) (aT d v F'):=fun t=>by rw [jf,jf,h t]
def iq.swap (F:Fr) {d e:Option Nat} (u v:AV) (h:∀ x,d=some x->e≠some x):iq (aT d u (aT e v F)) (aT e v (aT d u F)):=fun t=>by
 simp only [jf]
 by_cases h1:d=some t
 ·simp [h1,h t h1]
 ·simp [h1]
def ud {d:Option Nat} {v:AV} {F:Fr} {t:Nat} (h:d≠some t):(aT d v F).get t=F.get t:=by unfold Fr.get;rw [jf,if_neg h]
def JC {F:Fr} {t:Nat} {b:AV} (h:F.get t=b) (hb:b≠ .dd):F.lookup t=some b:=by
 unfold Fr.get at h
 cases e:F.lookup t with
 |none=>rw [e] at h;exact absurd h.symm hb
 |some y=>rw [e] at h;exact congrArg some h
def iq.known {F:Fr} {t:Nat} {b:AV} (h:F.get t=b) (hb:b≠ .dd):iq F ((t,b)::F):=fun u=>by
 have:=jf (some t) b F u;simp only [aT] at this;rw [this]
 by_cases hu:t=u
 ·subst hu;simp [JC h hb]
 ·simp [hu]
def eS (nx:Fr->St->Prop):Prop:=∀ F F' S,iq F F'->nx F S->nx F' S
def oK (P:Program) (o:aX) (K:Option AV->Fr->St->Prop) (nx:Fr->St->Prop) (F:Fr) (S:St):Prop:=bA o (bl P o K nx) nx F S
def aX.want (o:aX) (F:Fr):Option Bool:=
 match o.gd with
 |none=>some true
 |some (t,b)=>match F.get t with
  | .bool c=>some (c==b)
  | .aF []=>some false
  |_=>none
def my {P:Program} {o:aX} {K:Option AV->Fr->St->Prop} {nx nx':Fr->St->Prop} {F F':Fr} {S:St} (hr:∀ t∈o.op.rd,F.get t=F'.get t)
  (hK:∀ v S,K (some v) F S->K (some v) F' S) (hn:∀ r S',(o.op.kd≠2->S'=S)->nx (aT o.dst r F) S'->nx' (aT o.dst r F') S') (h:bl P o K nx F S):bl P o K nx' F' S:=by
 obtain ⟨ix,dst,gd,op⟩:=o
 cases op with
 |k m=>
  obtain ⟨h1,h2⟩:=MK.congr (S:=S) (m:=m) hr;simp only [bl] at h ⊢;rw [<-h1,<-h2];refine ⟨h.1,?_⟩;have h3:=h.2
  cases he:m.ev F S with
  |none=>rw [he] at h3;exact h3.elim
  |some rs=>
   obtain ⟨r,S1⟩:=rs;rw [he] at h3;refine hn r S1 (fun hk=>?_) h3;simp only [MX.kd] at hk
   cases hm:m.kd with
   |zero=>exact (MK.pure hm he).1
   |succ j=>
    cases m<;>simp only [MK.kd] at hm hk<;>first
     |(cases hm;done)
     |(exact absurd rfl hk)
     |(simp only [MK.ev,Aq,Ag,Ac] at he
       obtain ⟨_,_,_,_,_,e⟩:=he
       exact e.symm)
 |it m=>
  have h1:m.x.ev F=m.x.ev F':=aj.congr hr;simp only [bl] at h ⊢;have h2:=EX (fun v S' h=>hn v S' (fun hk=>absurd rfl hk) h) h;unfold pO at h2 ⊢;rw [<-h1];exact h2
 |panic x=>
  have h1:x.ev F=x.ev F':=aj.congr hr;simp only [bl] at h ⊢;rw [<-h1];split at h
  ·exact hK _ _ h
  ·exact h.elim
 |call c as=>
  simp only [MX.rd,AA] at hr;have h1:c.ev F=c.ev F':=aj.congr fun t ht=>hr t (.inl ht);have h2:as.map (aj.ev F)=as.map (aj.ev F'):=j9 fun t ht=>hr t (.inr ht);simp only [bl] at h ⊢;rw [<-h1,<-h2];split at h
  ·refine h.mono fun out S' ho=>?_
   cases out with
   |ok r=>exact hn r S' (fun hk=>absurd rfl hk) ho
   |eF v=>exact hK _ _ ho
  ·refine h.mono fun out S' ho=>?_
   cases out with
   |ok r=>exact hn r S' (fun hk=>absurd rfl hk) ho
   |eF v=>exact hK _ _ ho
  ·exact h.elim
def nB {P:Program} {o:aX} {K:Option AV->Fr->St->Prop} {nx:Fr->St->Prop} {stp:Fr->St->Prop} (hst:eS stp) (hnr:eS nx) {F:Fr} {S:St} (h:bA o stp nx F S):
  (o.want F=some true/\stp F S)∨(o.want F=some false/\nx (aT o.dst (.aF []) F) S):=by
 unfold bA at h;unfold aX.want
 cases hg:o.gd with
 |none=>rw [hg] at h;exact .inl ⟨rfl,h⟩
 |some p=>
  obtain ⟨t,want⟩:=p;rw [hg] at h;simp only at h ⊢;split at h
  ·rename_i c hc
   by_cases e:c=want
   ·exact .inl ⟨by simp [hc,e],hst _ _ _ (iq.known (e▸hc) (by intro x;cases x)).symm (h.1 e)⟩
   ·have e':c= !want:=by cases c<;>cases want<;>simp_all
    refine .inr ⟨by simp only [hc];rw [e'];cases want<;>rfl,hnr _ _ _ (((iq.known (e'▸hc) (by intro x;cases x)).put _ _).symm) (h.2 e')⟩
  ·rename_i hc;exact .inr ⟨by simp [hc],h⟩
  ·exact h.elim
def guard_of {o:aX} {stp nx:Fr->St->Prop} (hst:eS stp) (hnr:eS nx) {F:Fr} {S:St} (h:(o.want F=some true/\stp F S)∨(o.want F=some false/\nx (aT o.dst (.aF []) F) S)):bA o stp nx F S:=by
 unfold bA;unfold aX.want at h
 cases hg:o.gd with
 |none=>
  rw [hg] at h;rcases h with ⟨_,h⟩|⟨h,_⟩
  ·exact h
  ·cases h
 |some p=>
  obtain ⟨t,want⟩:=p;rw [hg] at h;simp only at h ⊢;split at h
  ·rename_i c hc;simp only [hc];simp only [Ae] at h;refine ⟨fun e=>?_,fun e=>?_⟩
   ·rcases h with ⟨_,h⟩|⟨h,_⟩
    ·exact hst _ _ _ (iq.known (e▸hc) (by intro x;cases x)) h
    ·subst e;simp at h
   ·rcases h with ⟨h,_⟩|⟨_,h⟩
    ·subst e;cases want<;>simp at h
    ·exact hnr _ _ _ ((iq.known (e▸hc) (by intro x;cases x)).put _ _) h
  ·rename_i hc;simp only [hc];rcases h with ⟨h,_⟩|⟨_,h⟩
   ·cases h
   ·exact h
  ·rcases h with ⟨h,_⟩|⟨h,_⟩<;>cases h
def gZ {P:Program} {o:aX} {K:Option AV->Fr->St->Prop} {nx:Fr->St->Prop} (hKr:∀ v,eS (K (some v))) (hnr:eS nx):eS (bl P o K nx):=fun F F' S e h=>my (fun t _=>e.get t) (fun v S=>hKr v _ _ S e) (fun r S' _=>hnr _ _ S' (e.put _ _)) h
def qm {P:Program} {o:aX} {K:Option AV->Fr->St->Prop} {nx:Fr->St->Prop} (hKr:∀ v,eS (K (some v))) (hnr:eS nx) {F:Fr} {S:St}
  (h:(o.want F=some true/\bl P o K nx F S)∨(o.want F=some false/\nx (aT o.dst (.aF []) F) S)):oK P o K nx F S:=guard_of (gZ hKr hnr) hnr h
def ja {o:aX} {F F':Fr} (h:∀ t∈o.sV,F.get t=F'.get t):o.want F=o.want F':=by
 unfold aX.want;unfold aX.sV at h
 cases hg:o.gd with
 |none=>rfl
 |some p=>
  obtain ⟨t,b⟩:=p;rw [hg] at h;simp only;rw [h t (by simp)]
def Yl (o:aX) (v:AV) (Cl:St->Prop) (F:Fr):Prop:=
 (o.want F=some true/\∃ m,o.op= .k m/\∀ S,Cl S->m.ob F S/\m.ev F S=some (v,S))∨(o.want F=some false/\v= .aF [])
def Yl.congr {o:aX} {v:AV} {Cl:St->Prop} {F F':Fr} (hr:∀ t∈o.sV,F.get t=F'.get t) (h:Yl o v Cl F):Yl o v Cl F':=by
 unfold Yl at*;rw [<-ja hr];rcases h with ⟨h1,m,h2,h3⟩|h
 ·refine .inl ⟨h1,m,h2,fun S hS=>?_⟩;obtain ⟨e1,e2⟩:=MK.congr (S:=S) (m:=m) (F:=F) (F':=F') fun t ht=>hr t (by simp [aX.sV,h2,MX.rd,ht]);rw [<-e1,<-e2];exact h3 S hS
 ·exact .inr h
def Yl.oK {P:Program} {o:aX} {K:Option AV->Fr->St->Prop} {nx:Fr->St->Prop} (hKr:∀ v,eS (K (some v))) (hnr:eS nx) {v:AV} {Cl:St->Prop} {F:Fr} {S:St} (hy:Yl o v Cl F) (hc:Cl S) (h:nx (aT o.dst v F) S):oK P o K nx F S:=by
 refine qm hKr hnr ?_;rcases hy with ⟨h1,m,h2,h3⟩|⟨h1,rfl⟩
 ·refine .inl ⟨h1,?_⟩;obtain ⟨h4,h5⟩:=h3 S hc;unfold bl;rw [h2];simp only;exact ⟨h4,by rw [h5];exact h⟩
 ·exact .inr ⟨h1,h⟩
def aX.apart (x y:aX):Bool:=
 (match x.dst with
  |some d=> !y.sV.contains d && y.dst !=some d
  |none=>true) &&
 (match y.dst with
  |some d=> !x.sV.contains d
  |none=>true)
def aX.apart_spec {x y:aX} (h:x.apart y=true):(∀ d,x.dst=some d->d ∉ y.sV)/\(∀ d,x.dst=some d->y.dst≠some d)/\(∀ d,y.dst=some d->d ∉ x.sV):=by
 refine ⟨fun d hd=>?_,fun d hd=>?_,fun d hd=>?_⟩<;>simp [aX.apart,hd] at h
 ·exact h.1.1
 ·exact h.1.2
 ·exact h.2
def Ss {P:Program} {oi oj:aX} {K:Option AV->Fr->St->Prop} {nx:Fr->St->Prop} (hKr:∀ v,eS (K (some v))) (hnr:eS nx) (hap:oi.apart oj=true) {v:AV} {Cl:St->Prop}
  (hKp:∀ x F S,K (some x) (aT oi.dst v F) S->K (some x) F S) {F:Fr} {S:St} (hy:Yl oi v Cl F) (h:oK P oj K nx (aT oi.dst v F) S):
  oK P oj K (fun F' S'=>Yl oi v Cl F'/\nx (aT oi.dst v F') S'/\(oj.op.kd≠2->S'=S)) F S:=by
 obtain ⟨h1,h2,h3⟩:=aX.apart_spec hap;have hr:∀ t∈oj.sV,(aT oi.dst v F).get t=F.get t:=fun t ht=>ud fun e=>h1 t e ht;have hrx:∀ t∈oj.op.rd,(aT oi.dst v F).get t=F.get t:=fun t ht=>hr t (by simp [aX.sV,ht]);have hnr':eS fun F' S'=>Yl oi v Cl F'/\nx (aT oi.dst v F') S'/\(oj.op.kd≠2->S'=S):=fun F F' S e h=>⟨h.1.congr fun t _=>e.get t,hnr _ _ _ (e.put _ _) h.2.1,h.2.2⟩;have cz:∀ u,Yl oi v Cl (aT oj.dst u F):=fun u=>hy.congr fun t ht=>(ud fun e=>h3 t e ht).symm;refine qm hKr hnr' ?_;have h':=nB (K:=K) (P:=P) (gZ hKr hnr) hnr h;rw [ja hr] at h';rcases h' with ⟨hw,hs⟩|⟨hw,hs⟩
 ·refine .inl ⟨hw,my hrx (fun x S=>hKp x F S) (fun r S' hk hn=>⟨cz r,hnr _ _ _ (iq.swap F r v fun d e e'=>h2 d e' e) hn,hk⟩) hs⟩
 ·exact .inr ⟨hw,cz _,hnr _ _ _ (iq.swap F _ v fun d e e'=>h2 d e' e) hs,fun _=>rfl⟩
section any
variable (P:Program) (ops:Array Oper) (all:List aX) (K:Option AV->Fr->St->Prop) (Inv:St->Prop) (nd:List Nat)
def fL:Nat->Array Bool->Fr->St->Prop
 |0,li,F,S=>Region.ready .any ops li=[]/\K none F S
 |f+1,li,F,S=>(Region.ready .any ops li=[]->K none F S)/\
  ∀ i∈Region.ready .any ops li,∃ o∈all,o.ix=i/\oK P o K (fun F' S'=>(nd.contains i=true->Inv S')/\fL f (li.setIfInBounds i true) F' S') F S
def ny (j i:Nat):Bool:=
 match ops[j]? with
 |some o=>o.after.any fun e=>Region.binds .any e && e.on==i
 |none=>false
end any
section any2
variable {P:Program} {ops:Array Oper} {all:List aX} {K:Option AV->Fr->St->Prop} {Inv:St->Prop} {nd:List Nat}
def jO (hK:∀ o,eS (K o)):∀ f li,eS (fL P ops all K Inv nd f li)
 |0,li,F,F',S,e,h=>⟨h.1,hK _ _ _ _ e h.2⟩
 |f+1,li,F,F',S,e,h=>⟨fun h0=>hK _ _ _ _ e (h.1 h0),fun i hi=>by
   obtain ⟨o,ho,hix,hm⟩:=h.2 i hi;have hn:eS fun F' S'=>(nd.contains i=true->Inv S')/\fL P ops all K Inv nd f (li.setIfInBounds i true) F' S':=fun F F' S e h=>⟨h.1,jO hK f _ _ _ _ e h.2⟩;refine ⟨o,ho,hix,qm (fun v=>hK _) hn ?_⟩;have:=nB (K:=K) (P:=P) (gZ (fun v=>hK _) hn) hn hm;rw [ja (F':=F') fun t _=>e.get t] at this;rcases this with ⟨h1,h2⟩|⟨h1,h2⟩
   ·exact .inl ⟨h1,gZ (fun v=>hK _) hn _ _ _ e h2⟩
   ·exact .inr ⟨h1,hn _ _ _ (e.put _ _) h2⟩⟩
def vX {o:aX} {K:Option AV->Fr->St->Prop} {nx nx':Fr->St->Prop} (hn:∀ F S,nx F S->nx' F S) {F:Fr} {S:St} (h:oK P o K nx F S):oK P o K nx' F S:=by
 have st:∀ F,bl P o K nx F S->bl P o K nx' F S:=fun F hs=>my (fun _ _=>rfl) (fun _ _ x=>x) (fun r S' _=>hn _ _) hs;unfold oK bA at*;split at h
 ·exact st _ h
 ·split at h
  ·exact ⟨fun e=>st _ (h.1 e),fun e=>hn _ _ (h.2 e)⟩
  ·exact hn _ _ h
  ·exact h.elim
def rW {j i:Nat} {li:Array Bool} (hj:j∈Region.ready .any ops li) (hi:i∈Region.ready .any ops li):ny ops j i=false:=by
 obtain ⟨hjun,oj,hoj,hall⟩:=mem_ready.1 hj;unfold ny;rw [hoj];simp only
 cases h:(oj.after.any fun e=>Region.binds .any e && e.on==i) with
 |false=>rfl
 |true=>
  obtain ⟨e,he,hb⟩:=Array.any_eq_true'.1 h;simp only [Aa,beq_iff_eq] at hb;have h1:=hall e he hb.1;have h0:=(mem_ready.1 hi).1;rw [hb.2] at h1;rcases Al i li.size with h'|h'
  ·simp [h'] at h0 h1;rw [h0] at h1;cases h1
  ·simp [Bi h'] at h1
def km (hK:∀ o,eS (K o)) {i:Nat} {oi:aX} {v:AV} {Cl:St->Prop} (hi:oi∈all) (hix:oi.ix=i) (hni:nd.contains i=false) (hKp:∀ x F S,K (some x) (aT oi.dst v F) S->K (some x) F S)
  :∀ (f:Nat) (li:Array Bool) (F:Fr) (S:St),(∀ oj∈all,oj.ix≠i->li.getD oj.ix true=false->oj.op.kd=2->ny ops oj.ix i=false->(∀ S,Cl S)∨(nd.contains oj.ix=true/\∀ S,Inv S->Cl S))->(∀ oj∈all,oj.ix≠i->li.getD oj.ix true=false->ny ops oj.ix i=false->oi.apart oj=true)->
   i∈Region.ready .any ops li->Yl oi v Cl F->Cl S->fL P ops all K Inv nd f (li.setIfInBounds i true) (aT oi.dst v F) S->fL P ops all K Inv nd (f+1) li F S
 |0,li,F,S,hcl,hfree,hr,hy,hc,H=>by
  refine ⟨fun h=>(by rw [h] at hr;cases hr),fun j hj=>?_⟩;have hn:eS fun F' S'=>(nd.contains i=true->Inv S')/\fL P ops all K Inv nd 0 (li.setIfInBounds i true) F' S':=fun F F' S e h=>⟨h.1,jO hK _ _ _ _ _ e h.2⟩
  by_cases hji:j=i
  ·subst hji;exact ⟨oi,hi,hix,hy.oK (fun v=>hK _) hn hc ⟨fun h=>(by rw [hni] at h;cases h),H⟩⟩
  ·have:=ready_mono hj hji;rw [H.1] at this;cases this
 |f+1,li,F,S,hcl,hfree,hr,hy,hc,H=>by
  refine ⟨fun h=>(by rw [h] at hr;cases hr),fun j hj=>?_⟩;have hn:eS fun F' S'=>(nd.contains i=true->Inv S')/\fL P ops all K Inv nd (f+1) (li.setIfInBounds i true) F' S':=fun F F' S e h=>⟨h.1,jO hK _ _ _ _ _ e h.2⟩
  by_cases hji:j=i
  ·subst hji;exact ⟨oi,hi,hix,hy.oK (fun v=>hK _) hn hc ⟨fun h=>(by rw [hni] at h;cases h),H⟩⟩
  ·obtain ⟨oj,hoj,hjx,h1⟩:=H.2 j (ready_mono hj hji);have he:ny ops oj.ix i=false:=by rw [hjx];exact rW hj hr
   have hap:=hfree oj hoj (by rw [hjx];exact hji) (by rw [hjx];exact (mem_ready.1 hj).1) he;have hnj:eS fun F' S'=>(nd.contains j=true->Inv S')/\fL P ops all K Inv nd f ((li.setIfInBounds i true).setIfInBounds j true) F' S':=fun F F' S e h=>⟨h.1,jO hK _ _ _ _ _ e h.2⟩;have h2:=Ss (fun v=>hK _) hnj hap hKp hy h1;refine ⟨oj,hoj,hjx,vX (fun F' S' h3=>⟨h3.2.1.1,?_⟩) h2⟩;refine km hK hi hix hni hKp f (li.setIfInBounds j true) F' S' (fun k hk hki hun=>hcl k hk hki ?_) (fun k hk hki hun hno=>?_) (ready_mono hr (AQ hji)) h3.1 ?_ ?_
   ·by_cases hjk:j=k.ix
    ·rw [<-hjk];exact (mem_ready.1 hj).1
    ·rw [getD_set_ne true hjk] at hun;exact hun
   ·refine hfree k hk hki ?_ hno
    by_cases hjk:j=k.ix
    ·rw [<-hjk];exact (mem_ready.1 hj).1
    ·rw [getD_set_ne true hjk] at hun;exact hun
   ·by_cases hkd:oj.op.kd=2
    ·rcases hcl oj hoj (by rw [hjx];exact hji) (by rw [hjx];exact (mem_ready.1 hj).1) hkd he with h4|⟨h4,h5⟩
     ·exact h4 _
     ·rw [hjx] at h4;exact h5 _ (h3.2.1.1 h4)
    ·rw [h3.2.2 hkd];exact hc
   ·rw [Array.setIfInBounds_comm _ _ hji];exact h3.2.1.2
def aX.jk (o:aX):Bool:=o.gd.isNone && o.dst.isNone && (match o.op with
 | .k (.pq ..)=>true
 |_=>false)
def GP {o:aX} (h:o.jk=true):o.gd=none/\o.dst=none/\∃ q a m y,o.op= .k (.pq q a m y):=by
 unfold aX.jk at h;simp only [Aa,BD] at h;obtain ⟨⟨h1,h2⟩,h3⟩:=h;split at h3
 ·rename_i q a m y e;exact ⟨h1,h2,q,a,m,y,e⟩
 ·cases h3
def Gj (hK:∀ o,eS (K o)) {i:Nat} {oi:aX} {q:IntKind} {a:Int} {m y:aj} (hi:oi∈all) (hix:oi.ix=i) (hni:nd.contains i=false) (hop:oi.op= .k (.pq q a m y)) (hgd:oi.gd=none) (hdst:oi.dst=none)
  :∀ (f:Nat) (li:Array Bool) (F:Fr) (S S1:St),(∀ oj∈all,oj.ix≠i->li.getD oj.ix true=false->ny ops oj.ix i=false->oi.apart oj=true/\(oj.op.kd=0∨oj.jk=true)/\nd.contains oj.ix=false)->
   i∈Region.ready .any ops li->eo q a S (m.ev F) (y.ev F)=some S1->fL P ops all K Inv nd f (li.setIfInBounds i true) F S1->fL P ops all K Inv nd (f+1) li F S:=by
 have own:∀ (f:Nat) (li:Array Bool) (F:Fr) (S S1:St),eo q a S (m.ev F) (y.ev F)=some S1->fL P ops all K Inv nd f (li.setIfInBounds i true) F S1->
   oK P oi K (fun F' S'=>(nd.contains i=true->Inv S')/\fL P ops all K Inv nd f (li.setIfInBounds i true) F' S') F S:=fun f li F S S1 hc H=>by
  have hn:eS fun F' S'=>(nd.contains i=true->Inv S')/\fL P ops all K Inv nd f (li.setIfInBounds i true) F' S':=fun F F' S e h=>⟨h.1,jO hK _ _ _ _ _ e h.2⟩;refine qm (fun v=>hK _) hn (.inl ⟨by simp [aX.want,hgd],?_⟩);unfold bl;rw [hop];simp only [MK.ev,hc,Option.map_some,MK.ob,hdst];exact ⟨trivial,fun h=>(by rw [hni] at h;cases h),H⟩
 intro f
 induction f with
 |zero=>
  intro li F S S1 hfree hr hc H;refine ⟨fun h=>(by rw [h] at hr;cases hr),fun j hj=>?_⟩
  by_cases hji:j=i
  ·subst hji;exact ⟨oi,hi,hix,own 0 li F S S1 hc H⟩
  ·have:=ready_mono hj hji;rw [H.1] at this;cases this
 |succ f ih=>
  intro li F S S1 hfree hr hc H;refine ⟨fun h=>(by rw [h] at hr;cases hr),fun j hj=>?_⟩
  by_cases hji:j=i
  ·subst hji;exact ⟨oi,hi,hix,own (f+1) li F S S1 hc H⟩
  ·obtain ⟨oj,hoj,hjx,h1⟩:=H.2 j (ready_mono hj hji);have he:ny ops oj.ix i=false:=by rw [hjx];exact rW hj hr
   obtain ⟨hap,hkd,hnj⟩:=hfree oj hoj (by rw [hjx];exact hji) (by rw [hjx];exact (mem_ready.1 hj).1) he;rw [hjx] at hnj;obtain ⟨_,_,hrd⟩:=aX.apart_spec hap;have hnx:∀ f li,eS fun F' S'=>(nd.contains j=true->Inv S')/\fL P ops all K Inv nd f li F' S':=fun f li F F' S e h=>⟨h.1,jO hK _ _ _ _ _ e h.2⟩
   have hops:∀ v,m.ev (aT oj.dst v F)=m.ev F/\y.ev (aT oj.dst v F)=y.ev F:=fun v=>by
    refine ⟨aj.congr fun t ht=>ud fun e=>?_,aj.congr fun t ht=>ud fun e=>?_⟩<;>
     exact hrd t e (by simp [aX.sV,hop,MX.rd,MK.rd,ht])
   have next:∀ (v:AV) (T T1:St),eo q a T (m.ev F) (y.ev F)=some T1->fL P ops all K Inv nd f ((li.setIfInBounds i true).setIfInBounds j true) (aT oj.dst v F) T1->fL P ops all K Inv nd (f+1) (li.setIfInBounds j true) (aT oj.dst v F) T:=fun v T T1 hcT HT=>by
    refine ih (li.setIfInBounds j true) _ T T1 (fun k hk hki hun hno=>hfree k hk hki ?_ hno) (ready_mono hr (AQ hji)) (by rw [(hops v).1,(hops v).2];exact hcT) ?_
    ·by_cases hjk:j=k.ix
     ·rw [<-hjk];exact (mem_ready.1 hj).1
     ·rw [getD_set_ne true hjk] at hun;exact hun
    ·rw [Array.setIfInBounds_comm _ _ hji];exact HT
   refine ⟨oj,hoj,hjx,qm (fun v=>hK _) (hnx _ _) ?_⟩;have h2:=nB (K:=K) (P:=P) (gZ (fun v=>hK _) (hnx _ _)) (hnx _ _) h1;rcases h2 with ⟨hw,hs⟩|⟨hw,hs⟩
   ·refine .inl ⟨hw,?_⟩;rcases hkd with hkd|hkd
    ·cases hoo:oj.op with
     |k m'=>
      unfold bl at hs ⊢;rw [hoo] at hs hkd ⊢;simp only at hs ⊢;obtain ⟨aL,hs⟩:=hs
      cases hev:m'.ev F S1 with
      |none=>rw [hev] at hs;exact hs.elim
      |some rs=>
       obtain ⟨r,S1'⟩:=rs;rw [hev] at hs;obtain ⟨rfl,hp⟩:=MK.pure hkd hev;rw [(hp S).1];exact ⟨by rw [(hp S).2];exact aL,fun h=>(by rw [hnj] at h;cases h),next r S S1' hc hs.2⟩
     |call c as=>rw [hoo] at hkd;cases hkd
     |panic x=>rw [hoo] at hkd;cases hkd
     |it m=>rw [hoo] at hkd;cases hkd
    ·obtain ⟨_,hd2,q',b,m2,y2,hoo⟩:=GP hkd;unfold bl at hs ⊢;rw [hoo] at hs ⊢;simp only [MK.ev,MK.ob] at hs ⊢;obtain ⟨_,hs⟩:=hs
     cases hev:eo q' b S1 (m2.ev F) (y2.ev F) with
     |none=>rw [hev] at hs;exact hs.elim
     |some S2=>
      rw [hev] at hs;obtain ⟨T,t1,t2⟩:=K0 hc hev;rw [t1];exact ⟨trivial,fun h=>(by rw [hnj] at h;cases h),next _ T S2 t2 hs.2⟩
   ·exact .inr ⟨hw,fun h=>(by rw [hnj] at h;cases h),next _ S S1 hc hs.2⟩
end any2
inductive bC where
 |done
 |one (o:aX) (lo nd:Bool) (r:bC)
 |two (o1:aX) (n1:Bool) (r1:bC) (o2:aX) (n2:Bool) (r2:bC)
 |iB (o1:aX) (n1:Bool) (r1:bC) (o2:aX) (n2:Bool) (r2:bC) (o3:aX) (n3:Bool) (r3:bC)
def bC.ops:bC->List aX
 | .done=>[]
 | .one o _ _ r=>o::r.ops
 | .two o1 _ r1 o2 _ r2=>o1::o2::(r1.ops++r2.ops)
 | .iB o1 _ r1 o2 _ r2 o3 _ r3=>o1::o2::o3::(r1.ops++(r2.ops++r3.ops))
def bC.eu:bC->List Nat
 | .done=>[]
 | .one o _ nd r=>(if nd then [o.ix] else [])++r.eu
 | .two o1 n1 r1 o2 n2 r2=>(if n1 then [o1.ix] else [])++((if n2 then [o2.ix] else [])++(r1.eu++r2.eu))
 | .iB o1 n1 r1 o2 n2 r2 o3 n3 r3=>(if n1 then [o1.ix] else [])++((if n2 then [o2.ix] else [])++((if n3 then [o3.ix] else [])++(r1.eu++(r2.eu++r3.eu))))
def iy (Ls:List Nat) (o:aX) (F:Fr):Prop:=
 match o.op with
 | .k (.load _ _ p)=>match p.ev F with
  | .ptr l _=>l∈Ls
  |_=>True
 |_=>True
def aY (S0:St) (Ls:List Nat) (S:St):Prop:=S.gl=S0.gl/\∀ l∈Ls,S.get l=S0.get l
def bg (P:Program) (K:Option AV->Fr->St->Prop) (S0:St) (Ls:List Nat):bC->Fr->St->Prop
 | .done,F,S=>K none F S
 | .one o lo nd r,F,S=>bA o (fun F S=>(lo=true->iy Ls o F/\aY S0 Ls S)/\bl P o K (fun F' S'=>(nd=true->aY S0 Ls S')/\bg P K S0 Ls r F' S') F S) (fun F' S'=>(nd=true->aY S0 Ls S')/\bg P K S0 Ls r F' S') F S
 | .two o1 n1 r1 o2 n2 r2,F,S=>
  bA o1 (bl P o1 K fun F' S'=>(n1=true->aY S0 Ls S')/\bg P K S0 Ls r1 F' S') (fun F' S'=>(n1=true->aY S0 Ls S')/\bg P K S0 Ls r1 F' S') F S/\
  bA o2 (bl P o2 K fun F' S'=>(n2=true->aY S0 Ls S')/\bg P K S0 Ls r2 F' S') (fun F' S'=>(n2=true->aY S0 Ls S')/\bg P K S0 Ls r2 F' S') F S
 | .iB o1 n1 r1 o2 n2 r2 o3 n3 r3,F,S=>
  bA o1 (bl P o1 K fun F' S'=>(n1=true->aY S0 Ls S')/\bg P K S0 Ls r1 F' S') (fun F' S'=>(n1=true->aY S0 Ls S')/\bg P K S0 Ls r1 F' S') F S/\
  bA o2 (bl P o2 K fun F' S'=>(n2=true->aY S0 Ls S')/\bg P K S0 Ls r2 F' S') (fun F' S'=>(n2=true->aY S0 Ls S')/\bg P K S0 Ls r2 F' S') F S/\
  bA o3 (bl P o3 K fun F' S'=>(n3=true->aY S0 Ls S')/\bg P K S0 Ls r3 F' S') (fun F' S'=>(n3=true->aY S0 Ls S')/\bg P K S0 Ls r3 F' S') F S
def gh (ops:Array Oper) (all:List aX) (eu:List Nat):Array Bool->bC->Bool
 |li,.done=>(Region.ready .any ops li).isEmpty
 |li,.one o lo nd r=>((o.jk && ((Region.ready .any ops li).contains o.ix && !eu.contains o.ix &&
    all.all (fun oj=>oj.ix==o.ix||li.getD oj.ix true||ny ops oj.ix o.ix||(o.apart oj && (oj.op.kd==0||oj.jk) && !eu.contains oj.ix))))||
   if o.op.kd==2 then decide (Region.ready .any ops li=[o.ix]) && (nd|| !eu.contains o.ix)
   else (Region.ready .any ops li).contains o.ix && !eu.contains o.ix &&
    all.all (fun oj=>oj.ix==o.ix||li.getD oj.ix true||ny ops oj.ix o.ix||o.apart oj) &&
    (o.op.kd==0||all.all (fun oj=>oj.ix==o.ix||li.getD oj.ix true||oj.op.kd !=2||ny ops oj.ix o.ix||(lo && eu.contains oj.ix)))) &&
   gh ops all eu (li.setIfInBounds o.ix true) r
 |li,.two o1 n1 r1 o2 n2 r2=>decide (Region.ready .any ops li=[o1.ix,o2.ix]) && (n1|| !eu.contains o1.ix) && (n2|| !eu.contains o2.ix) &&
   gh ops all eu (li.setIfInBounds o1.ix true) r1 && gh ops all eu (li.setIfInBounds o2.ix true) r2
 |li,.iB o1 n1 r1 o2 n2 r2 o3 n3 r3=>decide (Region.ready .any ops li=[o1.ix,o2.ix,o3.ix]) && (n1|| !eu.contains o1.ix) && (n2|| !eu.contains o2.ix) && (n3|| !eu.contains o3.ix) &&
   gh ops all eu (li.setIfInBounds o1.ix true) r1 && gh ops all eu (li.setIfInBounds o2.ix true) r2 && gh ops all eu (li.setIfInBounds o3.ix true) r3
def bC.depth:bC->Nat
 | .done=>0
 | .one _ _ _ r=>r.depth+1
 | .two _ _ r1 _ _ r2=>Nat.max r1.depth r2.depth+1
 | .iB _ _ r1 _ _ r2 _ _ r3=>Nat.max r1.depth (Nat.max r2.depth r3.depth)+1
def xw {Ls:List Nat} {o:aX} {F F':Fr} (e:iq F F') (h:iy Ls o F):iy Ls o F':=by
 unfold iy at*;split
 ·rename_i n ag p ho;rw [ho] at h;simp only at h;rw [<-aj.congr (x:=p) (F:=F) fun t _=>e.get t];exact h
 ·trivial
section plan
variable {P:Program} {K:Option AV->Fr->St->Prop} {S0:St} {Ls:List Nat}
def j5 (hK:∀ o,eS (K o)):∀ pl,eS (bg P K S0 Ls pl)
 | .done=>fun F F' S e h=>hK _ _ _ _ e h
 | .one o lo nd r=>fun F F' S e h=>by
  have hn:eS fun F' S'=>(nd=true->aY S0 Ls S')/\bg P K S0 Ls r F' S':=fun F F' S e h=>⟨h.1,j5 hK r _ _ _ e h.2⟩;have hs:eS fun F S=>(lo=true->iy Ls o F/\aY S0 Ls S)/\bl P o K (fun F' S'=>(nd=true->aY S0 Ls S')/\bg P K S0 Ls r F' S') F S:=fun F F' S e h=>⟨fun hl=>⟨xw e (h.1 hl).1,(h.1 hl).2⟩,gZ (fun v=>hK _) hn _ _ _ e h.2⟩;have h1:=nB (K:=K) (P:=P) hs hn h;rw [ja (F':=F') fun t _=>e.get t] at h1;exact guard_of hs hn (h1.imp (fun h=>⟨h.1,hs _ _ _ e h.2⟩) fun h=>⟨h.1,hn _ _ _ (e.put _ _) h.2⟩)
 | .two o1 n1 r1 o2 n2 r2=>fun F F' S e h=>by
  have key:∀ (o:aX) (nd:Bool) (r:bC),eS (bg P K S0 Ls r)->bA o (bl P o K fun F' S'=>(nd=true->aY S0 Ls S')/\bg P K S0 Ls r F' S') (fun F' S'=>(nd=true->aY S0 Ls S')/\bg P K S0 Ls r F' S') F S->
    bA o (bl P o K fun F' S'=>(nd=true->aY S0 Ls S')/\bg P K S0 Ls r F' S') (fun F' S'=>(nd=true->aY S0 Ls S')/\bg P K S0 Ls r F' S') F' S:=by
   intro o nd r hr h;have hn:eS fun F' S'=>(nd=true->aY S0 Ls S')/\bg P K S0 Ls r F' S':=fun F F' S e h=>⟨h.1,hr _ _ _ e h.2⟩;have hs:=gZ (P:=P) (o:=o) (fun v=>hK (some v)) hn;have h1:=nB (K:=K) (P:=P) hs hn h;rw [ja (F':=F') fun t _=>e.get t] at h1;exact guard_of hs hn (h1.imp (fun h=>⟨h.1,hs _ _ _ e h.2⟩) fun h=>⟨h.1,hn _ _ _ (e.put _ _) h.2⟩)
  exact ⟨key o1 n1 r1 (j5 hK r1) h.1,key o2 n2 r2 (j5 hK r2) h.2⟩
 | .iB o1 n1 r1 o2 n2 r2 o3 n3 r3=>fun F F' S e h=>by
  have key:∀ (o:aX) (nd:Bool) (r:bC),eS (bg P K S0 Ls r)->bA o (bl P o K fun F' S'=>(nd=true->aY S0 Ls S')/\bg P K S0 Ls r F' S') (fun F' S'=>(nd=true->aY S0 Ls S')/\bg P K S0 Ls r F' S') F S->
    bA o (bl P o K fun F' S'=>(nd=true->aY S0 Ls S')/\bg P K S0 Ls r F' S') (fun F' S'=>(nd=true->aY S0 Ls S')/\bg P K S0 Ls r F' S') F' S:=by
   intro o nd r hr h;have hn:eS fun F' S'=>(nd=true->aY S0 Ls S')/\bg P K S0 Ls r F' S':=fun F F' S e h=>⟨h.1,hr _ _ _ e h.2⟩;have hs:=gZ (P:=P) (o:=o) (fun v=>hK (some v)) hn;have h1:=nB (K:=K) (P:=P) hs hn h;rw [ja (F':=F') fun t _=>e.get t] at h1;exact guard_of hs hn (h1.imp (fun h=>⟨h.1,hs _ _ _ e h.2⟩) fun h=>⟨h.1,hn _ _ _ (e.put _ _) h.2⟩)
  exact ⟨key o1 n1 r1 (j5 hK r1) h.1,key o2 n2 r2 (j5 hK r2) h.2.1,key o3 n3 r3 (j5 hK r3) h.2.2⟩
def JO {m:MK} {F:Fr} {S S1:St} {v:AV} (hk:m.kd≠2) (hk0:m.kd≠0) (h:m.ev F S=some (v,S1)):S1=S/\(∃ n ag p,m= .load n ag p)/\∀ S',(∀ n ag p,m= .load n ag p->(p.ev F).there S'=(p.ev F).there S)->m.ev F S'=some (v,S'):=by
 cases m<;>simp only [MK.kd] at hk hk0<;>first
  |exact absurd rfl hk
  |exact absurd rfl hk0
  |skip
 rename_i n ag p;simp only [MK.ev,Aq,Ag,Ac] at h;obtain ⟨cs,h1,x,h2,rfl,rfl⟩:=h;refine ⟨rfl,⟨n,ag,p,rfl⟩,fun S' hs=>?_⟩;simp only [MK.ev,hs n ag p rfl,h1,Option.bind_some,h2,Option.map_some]
def Mf {o:aX} {n:Nat} {ag:Bool} {p:aj} (ho:o.op= .k (.load n ag p)) {F:Fr} {S S':St} (hs:iy Ls o F) (h:aY S0 Ls S) (h':aY S0 Ls S'):(p.ev F).there S'=(p.ev F).there S:=by
 unfold iy at hs;rw [ho] at hs;simp only at hs;generalize p.ev F=x at hs ⊢
 cases x with
 |ptr l o=>simp only at hs;simp only [AV.there];rw [h.2 l hs,h'.2 l hs]
 |gp g o=>simp only [AV.there];rw [h.1,h'.1]
 |_=>rfl
def jK {ops:Array Oper} {all:List aX} {eu:List Nat} (hK:∀ o,eS (K o)) (hKp:∀ o∈all,∀ v x F S,K (some x) (aT o.dst v F) S->K (some x) F S):
  ∀ (pl:bC) (li:Array Bool) (F:Fr) (S:St) (f:Nat),pl.depth<=f->(∀ o∈pl.ops,o∈all)->gh ops all eu li pl=true->bg P K S0 Ls pl F S->fL P ops all K (aY S0 Ls) eu f li F S
 | .done,li,F,S,f,_,_,hc,h=>by
  have hr:Region.ready .any ops li=[]:=by simpa [gh] using hc
  cases f with
  |zero=>exact ⟨hr,h⟩
  |succ f=>exact ⟨fun _=>h,by rw [hr];simp⟩
 | .one o lo nd r,li,F,S,0,hd,_,_,_=>absurd hd (by simp [bC.depth])
 | .one o lo nd r,li,F,S,f+1,hd,hall,hc,h=>by
  have hd':r.depth<=f:=by simp [bC.depth] at hd;exact hd
  have ho:o∈all:=hall o (by simp [bC.ops]);have hall':∀ o∈r.ops,o∈all:=fun o ho=>hall o (by simp [bC.ops,ho]);simp only [gh,Aa] at hc;obtain ⟨hc1,hc2⟩:=hc;have ih:=fun F S=>jK hK hKp r (li.setIfInBounds o.ix true) F S f hd' hall' hc2;have hn:eS fun F' S'=>(nd=true->aY S0 Ls S')/\bg P K S0 Ls r F' S':=fun F F' S e h=>⟨h.1,j5 hK r _ _ _ e h.2⟩;have hs:eS fun F S=>(lo=true->iy Ls o F/\aY S0 Ls S)/\bl P o K (fun F' S'=>(nd=true->aY S0 Ls S')/\bg P K S0 Ls r F' S') F S:=fun F F' S e h=>⟨fun hl=>⟨xw e (h.1 hl).1,(h.1 hl).2⟩,gZ (fun v=>hK _) hn _ _ _ e h.2⟩;have h1:=nB (K:=K) (P:=P) hs hn h;rw [AI] at hc1;rcases hc1 with hc1|hc1
  ·simp only [Aa,Bb,AO,AI,beq_iff_eq] at hc1;obtain ⟨hC,⟨hr,hni⟩,hfree⟩:=hc1;obtain ⟨hgd,hdst,q,a,m,y,hop⟩:=GP hC;have hr':o.ix∈Region.ready .any ops li:=by simpa using hr
   rcases h1 with ⟨hw,hl,hst⟩|⟨hw,_⟩
   ·unfold bl at hst;rw [hop] at hst;simp only [MK.ev,MK.ob] at hst;obtain ⟨_,hst⟩:=hst
    cases hev:eo q a S (m.ev F) (y.ev F) with
    |none=>rw [hev] at hst;exact hst.elim
    |some S1=>
     rw [hev] at hst;simp only [Option.map_some,hdst] at hst;refine Gj hK ho rfl hni hop hgd hdst f li F S S1 (fun oj h1 h2 h3 h4=>?_) hr' hev (ih _ _ hst.2);rcases hfree oj h1 with ((h|h)|h)|h
     ·exact absurd h h2
     ·rw [h3] at h;cases h
     ·rw [h4] at h;cases h
     ·exact ⟨h.1.1,h.1.2,h.2⟩
   ·simp [aX.want,hgd] at hw
  by_cases hk:o.op.kd=2
  ·simp only [hk,beq_self_eq_true,if_true,Aa,AI,decide_eq_true_eq,Bb] at hc1;obtain ⟨hr,hnd⟩:=hc1;refine ⟨fun h0=>(by rw [hr] at h0;cases h0),fun i hi=>?_⟩;rw [hr] at hi;obtain rfl:=Ax.1 hi;have hnx:eS fun F' S'=>(eu.contains o.ix=true->aY S0 Ls S')/\fL P ops all K (aY S0 Ls) eu f (li.setIfInBounds o.ix true) F' S':=fun F F' S e h=>⟨h.1,jO hK _ _ _ _ _ e h.2⟩;have hx:∀ F' S',((nd=true->aY S0 Ls S')/\bg P K S0 Ls r F' S')->(eu.contains o.ix=true->aY S0 Ls S')/\fL P ops all K (aY S0 Ls) eu f (li.setIfInBounds o.ix true) F' S':=fun F' S' h=>⟨fun e=>h.1 (hnd.resolve_right (by rw [e];simp)),ih _ _ h.2⟩;exact ⟨o,ho,rfl,qm (fun v=>hK _) hnx (h1.imp (fun h=>⟨h.1,my (fun _ _=>rfl) (fun _ _ x=>x) (fun r S' _ h=>hx _ _ h) h.2.2⟩) fun h=>⟨h.1,hx _ _ h.2⟩)⟩
  ·have hkb:(o.op.kd==2)=false:=by simpa using hk
   simp only [hkb,Ah,if_false,Aa,Bb,AO,AI,beq_iff_eq,bne_iff_ne] at hc1;obtain ⟨⟨⟨hr,hni⟩,hfree⟩,hlo⟩:=hc1;have hr':o.ix∈Region.ready .any ops li:=by simpa using hr
   have hfree':∀ oj∈all,oj.ix≠o.ix->li.getD oj.ix true=false->ny ops oj.ix o.ix=false->o.apart oj=true:=fun oj h1 h2 h3 h4=>by
    rcases hfree oj h1 with ((h|h)|h)|h
    ·exact absurd h h2
    ·rw [h3] at h;cases h
    ·rw [h4] at h;cases h
    ·exact h
   rcases h1 with ⟨hw,hl,hst⟩|⟨hw,hnx⟩
   ·cases hop:o.op with
    |k m=>
     unfold bl at hst;rw [hop] at hst hk;simp only at hst;simp only [MX.kd] at hk;obtain ⟨aL,hst⟩:=hst
     cases hev:m.ev F S with
     |none=>rw [hev] at hst;exact hst.elim
     |some rs=>
      obtain ⟨v,S1⟩:=rs;rw [hev] at hst
      by_cases hk0:m.kd=0
      ·obtain ⟨rfl,hp⟩:=MK.pure hk0 hev
       exact km hK (v:=v) (Cl:=fun _=>True) ho rfl hni (hKp o ho v) f li F S1 (fun _ _ _ _ _ _=> .inl fun _=>trivial) hfree' hr'
        (.inl ⟨hw,m,hop,fun S' _=>⟨by rw [(hp S').2];exact aL,(hp S').1⟩⟩) trivial (ih _ _ hst.2)
      ·obtain ⟨rfl,⟨n,ag,p,hm⟩,hth⟩:=JO hk hk0 hev;have hlo':=hlo.resolve_left (by rw [hop];exact hk0)
       cases hlb:lo with
       |true=>
        obtain ⟨hsh,hin⟩:=hl hlb;refine km hK (v:=v) (Cl:=aY S0 Ls) ho rfl hni (hKp o ho v) f li F S1 (fun oj h1 h2 hun h3 h4=> .inr ⟨?_,fun _ h=>h⟩) hfree' hr' (.inl ⟨hw,m,hop,fun S' hS'=>⟨?_,?_⟩⟩) hin (ih _ _ hst.2)
        ·rcases hlo' oj h1 with (((h|h)|h)|h)|h
         ·exact absurd h h2
         ·rw [hun] at h;cases h
         ·exact absurd h3 h
         ·rw [h4] at h;cases h
         ·exact h.2
        ·subst hm;trivial
        ·refine hth S' fun n' ag' p' e=>?_;exact Mf (hop.trans (by rw [e])) hsh hin hS'
       |false=>
        refine km hK (v:=v) (Cl:=fun S=>S=S1) ho rfl hni (hKp o ho v) f li F S1 (fun oj h1 h2 hun h3 h4=>?_) hfree' hr' (.inl ⟨hw,m,hop,fun S' hS'=>⟨?_,?_⟩⟩) rfl (ih _ _ hst.2)
        ·rcases hlo' oj h1 with (((h|h)|h)|h)|h
         ·exact absurd h h2
         ·rw [hun] at h;cases h
         ·exact absurd h3 h
         ·rw [h4] at h;cases h
         ·rw [hlb] at h;cases h.1
        ·subst hm;trivial
        ·subst hS';exact hev
    |call c as=>exact absurd (by rw [hop];rfl) hk
    |panic x=>exact absurd (by rw [hop];rfl) hk
    |it m=>exact absurd (by rw [hop];rfl) hk
   ·exact km hK (v:= .aF []) (Cl:=fun _=>True) ho rfl hni (hKp o ho _) f li F S (fun _ _ _ _ _ _=> .inl fun _=>trivial) hfree' hr' (.inr ⟨hw,rfl⟩) trivial (ih _ _ hnx.2)
 | .two o1 n1 r1 o2 n2 r2,li,F,S,0,hd,_,_,_=>absurd hd (by simp [bC.depth])
 | .two o1 n1 r1 o2 n2 r2,li,F,S,f+1,hd,hall,hc,h=>by
  have hd':r1.depth<=f/\r2.depth<=f:=by simp [bC.depth] at hd;exact Nat.max_le.1 hd
  simp only [gh,Aa,decide_eq_true_eq,AI,Bb] at hc;obtain ⟨⟨⟨⟨hr,hn1⟩,hn2⟩,hc1⟩,hc2⟩:=hc
  have key:∀ (o:aX) (nd:Bool) (r:bC),o∈all->(nd=true∨eu.contains o.ix=false)->(∀ F S,bg P K S0 Ls r F S->fL P ops all K (aY S0 Ls) eu f (li.setIfInBounds o.ix true) F S)->
    bA o (bl P o K fun F' S'=>(nd=true->aY S0 Ls S')/\bg P K S0 Ls r F' S') (fun F' S'=>(nd=true->aY S0 Ls S')/\bg P K S0 Ls r F' S') F S->
    ∃ o'∈all,o'.ix=o.ix/\oK P o' K (fun F' S'=>(eu.contains o.ix=true->aY S0 Ls S')/\fL P ops all K (aY S0 Ls) eu f (li.setIfInBounds o.ix true) F' S') F S:=by
   intro o nd r ho hnd ih h;exact ⟨o,ho,rfl,vX (fun F' S' h=>⟨fun e=>h.1 (hnd.resolve_right (by rw [e];simp)),ih _ _ h.2⟩) h⟩
  refine ⟨fun h0=>(by rw [hr] at h0;cases h0),fun i hi=>?_⟩;rw [hr] at hi;rcases Ab.1 hi with rfl|hi
  ·exact key o1 n1 r1 (hall _ (by simp [bC.ops])) hn1 (fun F S=>jK hK hKp r1 _ F S f hd'.1 (fun o ho=>hall o (by simp [bC.ops,ho])) hc1) h.1
  ·obtain rfl:=Ax.1 hi;exact key o2 n2 r2 (hall _ (by simp [bC.ops])) hn2 (fun F S=>jK hK hKp r2 _ F S f hd'.2 (fun o ho=>hall o (by simp [bC.ops,ho])) hc2) h.2
 | .iB o1 n1 r1 o2 n2 r2 o3 n3 r3,li,F,S,0,hd,_,_,_=>absurd hd (by simp [bC.depth])
 | .iB o1 n1 r1 o2 n2 r2 o3 n3 r3,li,F,S,f+1,hd,hall,hc,h=>by
  have hd':r1.depth<=f/\r2.depth<=f/\r3.depth<=f:=by simp [bC.depth] at hd;exact ⟨(Nat.max_le.1 hd).1,Nat.max_le.1 (Nat.max_le.1 hd).2⟩
  simp only [gh,Aa,decide_eq_true_eq,AI,Bb] at hc;obtain ⟨⟨⟨⟨⟨⟨hr,hn1⟩,hn2⟩,hn3⟩,hc1⟩,hc2⟩,hc3⟩:=hc
  have key:∀ (o:aX) (nd:Bool) (r:bC),o∈all->(nd=true∨eu.contains o.ix=false)->(∀ F S,bg P K S0 Ls r F S->fL P ops all K (aY S0 Ls) eu f (li.setIfInBounds o.ix true) F S)->
    bA o (bl P o K fun F' S'=>(nd=true->aY S0 Ls S')/\bg P K S0 Ls r F' S') (fun F' S'=>(nd=true->aY S0 Ls S')/\bg P K S0 Ls r F' S') F S->
    ∃ o'∈all,o'.ix=o.ix/\oK P o' K (fun F' S'=>(eu.contains o.ix=true->aY S0 Ls S')/\fL P ops all K (aY S0 Ls) eu f (li.setIfInBounds o.ix true) F' S') F S:=by
   intro o nd r ho hnd ih h;exact ⟨o,ho,rfl,vX (fun F' S' h=>⟨fun e=>h.1 (hnd.resolve_right (by rw [e];simp)),ih _ _ h.2⟩) h⟩
  refine ⟨fun h0=>(by rw [hr] at h0;cases h0),fun i hi=>?_⟩;rw [hr] at hi;rcases Ab.1 hi with rfl|hi
  ·exact key o1 n1 r1 (hall _ (by simp [bC.ops])) hn1 (fun F S=>jK hK hKp r1 _ F S f hd'.1 (fun o ho=>hall o (by simp [bC.ops,ho])) hc1) h.1
  ·rcases Ab.1 hi with rfl|hi
   ·exact key o2 n2 r2 (hall _ (by simp [bC.ops])) hn2 (fun F S=>jK hK hKp r2 _ F S f hd'.2.1 (fun o ho=>hall o (by simp [bC.ops,ho])) hc2) h.2.1
   ·obtain rfl:=Ax.1 hi;exact key o3 n3 r3 (hall _ (by simp [bC.ops])) hn3 (fun F S=>jK hK hKp r3 _ F S f hd'.2.2 (fun o ho=>hall o (by simp [bC.ops,ho])) hc3) h.2.2
def r9 {wb:aU} {n:Nat} {ro:Option Nat} {G0:Gh} {D:ep} {ops:Array Oper} {all:List aX} {Inv:St->Prop} {eu:List Nat} (hfit:∀ m∈all,m.fits P n ops=true):
  ∀ (f:Nat) (li:Array Bool) {G:Gh} {S:St} {F:Fr} {w:World} {a:Act},G0.le G->Rel wb n G S F D w a->fL P ops all K Inv eu f li F S->wpAnyIn (gw ro) 0 P .any ops (QK wb n G0 D K) f li a w
 |0,li,G,S,F,w,a,hle,hR,h=>⟨h.1,G,F,S,hle,hR,h.2⟩
 |f+1,li,G,S,F,w,a,hle,hR,h=>by
  refine ⟨fun h0=>⟨G,F,S,hle,hR,h.1 h0⟩,fun i hi=>?_⟩;obtain ⟨m,hm,rfl,hmop⟩:=h.2 i hi;have hm:=hfit m hm;unfold aX.fits at hm;unfold wpOpIn
  cases ho:ops[m.ix]? with
  |none=>rw [ho] at hm;cases hm
  |some o=>
   rw [ho] at hm;simp only [Aa,decide_eq_true_eq] at hm;obtain ⟨⟨⟨h1,h2⟩,h3⟩,h4⟩:=hm;simp only;rcases va h4 hR hmop with ⟨hw,F',hR',hs⟩|⟨hw,F',hR',hs⟩
   ·simp only [hw,if_true];exact wO h1 h2 h3 hle hR' hs fun G' S' F' a' w' hle' hR'' hn=>r9 (ro:=ro) hfit f _ hle' hR'' hn.2
   ·simp only [hw,Ah,if_false];refine ⟨fun _ _=>trivial,r9 hfit f _ hle ?_ hs.2⟩;rw [h2];exact hR'.put h3 (.aF (vs:=[]) rfl (by simp))
end plan
end Go.V
namespace Go.V
open Go
def F8 {P:Program} {b:Frame} {a:Act} {k:List Item} {cs:List Frame} {w:World} {c:Code}:step P (lone (b.atR a (.code (.scope c)::k)) cs w)= .next (lone (b.atR a (.code c:: .inScope c::k)) cs w):=step_lone_go (by simp [stepG,stepG.exec,Frame.atR])
def CZ {P:Program} {b:Frame} {a:Act} {k:List Item} {cs:List Frame} {w:World} {c:Code}:step P (lone (b.atR a (.inScope c::k)) cs w)= .next (lone (b.atR a k) cs w):=step_lone_go (by simp [stepG,stepG.exec,Frame.atR])
inductive MC where
 |skip
 |iF (l:List aX) (kp:List Nat)
 |any (pl:bC) (pr kp:List Nat)
 |seq (a b:MC)
 |cond (c:aj) (a b:MC)
 |block (i:Nat) (a:MC)
 |loop (a:MC)
 |exit (i:Nat)
 |ret
 |named (kp:List Nat) (a:MC)
 |bad
 |yg (g:aj) (ps:List Nat) (a b:MC)
inductive MI where
 |code (c:MC)
 |inBlock (i:Nat)
 |inLoop (c:MC)
 |begin (l:Nat)
def MC.gE (ro:Option Nat):MC->Bool
 | .ret| .yg ..=>ro.isNone
 | .seq a b| .cond _ a b=>a.gE ro && b.gE ro
 | .block _ a| .loop a| .named _ a=>a.gE ro
 |_=>true
def MI.gE (ro:Option Nat):MI->Bool
 | .code c| .inLoop c=>c.gE ro
 | .inBlock _=>true
 | .begin l=>ro==some l
def qv (ro:Option Nat) (k:List MI):Bool:=k.all (MI.gE ro)
def dG (ro:Option Nat) (m:MI) (k:List MI):qv ro (m::k)=(m.gE ro && qv ro k):=rfl
def MC.qX:∀ m:MC,m.gE none=true
 | .ret| .yg ..| .skip| .iF ..| .any ..| .exit _| .bad=>rfl
 | .seq a b| .cond _ a b=>by simp only [MC.gE,a.qX,b.qX,BU]
 | .block _ a| .loop a| .named _ a=>by simp only [MC.gE,a.qX]
def cz (kp:List Nat) (F:Fr):Fr:=kp.map fun t=>(t,F.get t)
def cu (kp:List Nat) (F:Fr):Fr:=
 match kp with
 |[]=>[]
 |t::ts=>match F.lookup t with
  |some v=>(t,v)::cu ts F
  |none=>cu ts F
def np {F:Fr} {t:Nat} {v:AV}:∀ {kp:List Nat},(cu kp F).lookup t=some v->F.lookup t=some v
 |[],h=>by cases h
 |u::us,h=>by
  simp only [cu] at h;split at h
  ·rename_i x hx;simp only [List.lookup_cons] at h
   by_cases hu:t=u
   ·subst hu;simp at h;rw [hx,h]
   ·have hb:(t==u)=false:=by simpa using hu
    rw [hb] at h;exact np h
  ·exact np h
def Rel.cz {wb:aU} {n:Nat} {G:Gh} {S:St} {F:Fr} {D:ep} {w:World} {a:Act} (h:Rel wb n G S F D w a) (kp:List Nat):Rel wb n G S (cu kp F) D w a:=⟨h.st,⟨fun t v e=>h.fr.rel t v (np e)⟩,h.sz,h.df⟩
def y8 (P:Program) (n:Nat) (l:List aX) (ops:Array Oper):Bool:=decide (l.map (·.ix)=List.range ops.size) && l.all fun m=>m.fits P n ops
def yN (P:Program) (n:Nat) (pl:bC) (ops:Array Oper):Bool:=pl.ops.all (fun m=>m.fits P n ops) && gh ops pl.ops pl.eu (Array.replicate ops.size false) pl && decide (pl.depth<=ops.size)
def MC.fits (P:Program) (n:Nat):MC->Code->Bool
 | .bad,_=>true
 | .skip,.skip=>true
 | .skip,.label _=>true
 | .iF l _,.region _ ops false=>y8 P n l ops
 | .any pl _ _,.region _ ops true=>P.follows .mixedOrders && yN P n pl ops
 | .seq a b,.seq a' b'=>a.fits P n a' && b.fits P n b'
 | .cond c a b,.cond c' a' b'=>c.fits c' && a.fits P n a' && b.fits P n b'
 | .block i a,.block j b=>i==j && a.fits P n b
 | .block i a,.scope b=>decide (1000000<=i) && a.fits P n b
 | .loop a,.loop b=>a.fits P n b
 | .exit i,.exit j=>i==j && decide (i<1000000)
 | .ret,.ret=>true
 | .named _ a,c=>a.fits P n c
 | .yg g ps a b,.rangeFunc g' ps' a' b'=>g.fits g' && (decide (ps=ps'.toList) && ((ps.all fun p=>decide (p<n)) && (a.fits P n a' && b.fits P n b')))
 |_,_=>false
def MI.fits (P:Program) (n:Nat):MI->Item->Prop
 | .code m,.code c=>m.fits P n c=true
 | .inBlock i,.inBlock j=>i=j
 | .inBlock i,.inScope _=>1000000<=i
 | .inLoop m,.inLoop c=>m.fits P n c=true
 | .begin _,.beginRound=>True
 |_,_=>False
def iO (P:Program) (n:Nat):List MI->List Item->Prop
 |[],[]=>True
 |m::ms,i::is=>m.fits P n i/\iO P n ms is
 |_,_=>False
abbrev er:=Option AV->ep->Fr->St->Prop
def Ends (P:Program) (m:Machine) (b:Frame) (cs:List Frame) (e:Option Value) (a:Act) (w:World):Prop:=
 match e with
 |none=>(b.roundOf=none->∃ todo,Steps P m (lone {b.atR a todo with mode:= .returning} cs w))/\(b.roundOf.isSome=true->Steps P m (lone (b.atR a []) cs w))
 |some v=>∃ todo,Steps P m (lone {b.atR a todo with mode:= .panicking [{v,recovered:=false}]} cs w)
def Ends.of_steps {P:Program} {m m1:Machine} {b:Frame} {cs:List Frame} {e:Option Value} {a:Act} {w:World} (h:Steps P m m1) (h':Ends P m1 b cs e a w):Ends P m b cs e a w:=by
 cases e with
 |none=>exact ⟨fun hb=>let ⟨t,ht⟩:=h'.1 hb;⟨t,h.trans ht⟩,fun hb=>h.trans (h'.2 hb)⟩
 |some v=>obtain ⟨t,ht⟩:=h';exact ⟨t,h.trans ht⟩
def af (P:Program) (n:Nat) (k:List MI) (D:ep) (F:Fr) (S:St) (Q:er):Prop:=
 ∀ (wb:aU) G w a (b:Frame) cs todo,qv b.roundOf k=true->iO P n k todo->Rel wb n G S F D w a->
  ∃ e a' w' G' F' S' D' av,G.le G'/\Rel wb n G' S' F' D' w' a'/\Ends P (lone (b.atR a todo) cs w) b cs e a' w'/\
   (match e,av with
    |none,none=>True
    |some v,some x=>ah G' x v
    |_,_=>False)/\Q av D' F' S'
def af.one {P:Program} {n:Nat} {k k':List MI} {D:ep} {F:Fr} {S:St} {Q:er} (h:af P n k' D F S Q) (hk:∀ ro,qv ro k=true->qv ro k'=true)
  (hs:∀ (a:Act) (w:World) (b:Frame) (cs:List Frame) (todo:List Item) wb G,iO P n k todo->Rel wb n G S F D w a->∃ todo',iO P n k' todo'/\Steps P (lone (b.atR a todo) cs w) (lone (b.atR a todo') cs w)):af P n k D F S Q:=by
 intro wb G w a b cs todo hb hf hR;obtain ⟨todo',hf',hst⟩:=hs a w b cs todo wb G hf hR;obtain ⟨e,a',w',G',F',S',D',av,h1,h2,h3,h4⟩:=h wb G w a b cs todo' (hk _ hb) hf' hR;exact ⟨e,a',w',G',F',S',D',av,h1,h2,h3.of_steps hst,h4⟩
def dh {P:Program} {n:Nat} {m:MI} {k:List MI} {todo:List Item} (h:iO P n (m::k) todo):∃ i is,todo=i::is/\m.fits P n i/\iO P n k is:=by
 cases todo with
 |nil=>exact h.elim
 |cons i is=>exact ⟨i,is,rfl,h.1,h.2⟩
def fp {P:Program} {n:Nat} {m:MC} {i:Item} (h:(MI.code m).fits P n i):∃ c,i= .code c/\m.fits P n c=true:=by
 cases i<;>first
  |exact h.elim
  |exact ⟨_,rfl,h⟩
def Pd {P:Program} {n:Nat} {l:List aX} {kp:List Nat} {c:Code} (h:(MC.iF l kp).fits P n c=true):∃ id ops,c= .region id ops false/\y8 P n l ops=true:=by
 cases c with
 |region id ops dr=>
  cases dr
  ·exact ⟨id,ops,rfl,h⟩
  ·cases h
 |_=>cases h
def fC (i:Nat):List MI->Option (List MI)
 | .inBlock j::k=>if j=i then some k else fC i k
 |_::k=>fC i k
 |[]=>none
def jc {P:Program} {n:Nat} {i:Nat} (hi:i<1000000):∀ {k k':List MI} {todo:List Item},fC i k=some k'->iO P n k todo->∃ todo',exitTo i todo=some todo'/\iO P n k' todo'
 |[],_,_,h,_=>by cases h
 |m::k,k',todo,h,hf=>by
  obtain ⟨it,is,rfl,h1,h2⟩:=dh hf
  cases m with
  |inBlock j=>
   cases it<;>first
    |exact h1.elim
    |skip
   ·rename_i j';have:j=j':=h1;subst this;simp only [fC] at h
    by_cases hj:j=i
    ·rw [if_pos hj] at h;injection h with h
     subst h;exact ⟨is,by simp [exitTo,hj],h2⟩
    ·rw [if_neg hj] at h;obtain ⟨t,h3,h4⟩:=jc hi h h2;exact ⟨t,by simp [exitTo,hj,h3],h4⟩
   ·have h1:1000000<=j:=h1;simp only [fC] at h;rw [if_neg (by omega)] at h;obtain ⟨t,h3,h4⟩:=jc hi h h2;exact ⟨t,by simp [exitTo,h3],h4⟩
  |code c=>
   obtain ⟨t,h3,h4⟩:=jc hi (k:=k) h h2;refine ⟨t,?_,h4⟩
   cases it<;>first
    |exact h1.elim
    |simpa [exitTo] using h3
  |inLoop c=>
   obtain ⟨t,h3,h4⟩:=jc hi (k:=k) h h2;refine ⟨t,?_,h4⟩
   cases it<;>first
    |exact h1.elim
    |simpa [exitTo] using h3
  |begin l=>
   obtain ⟨t,h3,h4⟩:=jc hi (k:=k) h h2;refine ⟨t,?_,h4⟩
   cases it<;>first
    |exact h1.elim
    |simpa [exitTo] using h3
def aiE (c:Frame) (cs:List Frame):Value×List Frame:=
 match c.mode with
 | .panicking ({v,recovered:=false,goexit:=false}::older)=>(v,{c with mode:= .panicking ({v,recovered:=true}::older)}::cs)
 |_=>(.nilIface,c::cs)
section rules
variable {P:Program} {n:Nat} {k:List MI} {D:ep} {F:Fr} {S:St} {Q:er}
def af.skip (h:af P n k D F S Q):af P n (.code .skip::k) D F S Q:=
 h.one (by simp only [dG,MI.gE,MC.gE,Aa,and_assoc,true_and];exact fun _ h=>h) fun a w b cs todo wb G hf _=>by
  obtain ⟨i,is,rfl,h1,h2⟩:=dh hf;obtain ⟨c,rfl,h3⟩:=fp h1
  cases c<;>simp only [MC.fits] at h3<;>first
   |(cases h3;done)
   |exact ⟨is,h2,.one stepR_skip⟩
   |exact ⟨is,h2,.one stepR_label⟩
def af.seq {x y:MC} (h:af P n (.code x:: .code y::k) D F S Q):af P n (.code (.seq x y)::k) D F S Q:=
 h.one (by simp only [dG,MI.gE,MC.gE,Aa,and_assoc,true_and];exact fun _ h=>h) fun a w b cs todo wb G hf _=>by
  obtain ⟨i,is,rfl,h1,h2⟩:=dh hf;obtain ⟨c,rfl,h3⟩:=fp h1
  cases c<;>simp only [MC.fits] at h3<;>first
   |(cases h3;done)
   |(simp only [Aa] at h3
     exact ⟨.code _:: .code _::is,⟨h3.1,h3.2,h2⟩,.one stepR_seq⟩)
def af.block {j:Nat} {x:MC} (h:af P n (.code x:: .inBlock j::k) D F S Q):af P n (.code (.block j x)::k) D F S Q:=
 h.one (by simp only [dG,MI.gE,MC.gE,Aa,and_assoc,true_and];exact fun _ h=>h) fun a w b cs todo wb G hf _=>by
  obtain ⟨i,is,rfl,h1,h2⟩:=dh hf;obtain ⟨c,rfl,h3⟩:=fp h1
  cases c<;>simp only [MC.fits] at h3<;>first
   |(cases h3;done)
   |(simp only [Aa,beq_iff_eq] at h3
     obtain ⟨rfl,h3⟩:=h3
     exact ⟨.code _:: .inBlock _::is,⟨h3,rfl,h2⟩,.one stepR_block⟩)
   |(simp only [Aa,decide_eq_true_eq] at h3
     exact ⟨.code _:: .inScope _::is,⟨h3.2,h3.1,h2⟩,.one F8⟩)
def af.inBlock {j:Nat} (h:af P n k D F S Q):af P n (.inBlock j::k) D F S Q:=
 h.one (by simp only [dG,MI.gE,MC.gE,Aa,and_assoc,true_and];exact fun _ h=>h) fun a w b cs todo wb G hf _=>by
  obtain ⟨i,is,rfl,h1,h2⟩:=dh hf
  cases i<;>first
   |exact h1.elim
   |exact ⟨is,h2,.one stepR_inBlock⟩
   |exact ⟨is,h2,.one CZ⟩
def af.named {kp:List Nat} {x:MC} (h:af P n (.code x::k) D (cu kp F) S Q):af P n (.code (.named kp x)::k) D F S Q:=by
 intro wb G w a b cs todo hb hf hR;refine h wb G w a b cs todo hb ?_ (hR.cz kp);obtain ⟨i,is,rfl,h1,h2⟩:=dh hf;obtain ⟨c,rfl,h3⟩:=fp h1;have h4:MC.fits P n x c=true:=by simpa [MC.fits] using h3
 exact ⟨h4,h2⟩
def lQ {ro:Option Nat} {j:Nat}:∀ {k k':List MI},fC j k=some k'->qv ro k=true->qv ro k'=true
 |[],_,h,_=>by cases h
 |m::k,k',h,hn=>by
  rw [dG,Aa] at hn
  cases m with
  |inBlock i=>
   simp only [fC] at h;split at h
   ·injection h with h
    subst h;exact hn.2
   ·exact lQ h hn.2
  |code c=>exact lQ (k:=k) h hn.2
  |inLoop c=>exact lQ (k:=k) h hn.2
  |begin l=>exact lQ (k:=k) h hn.2
def af.exit {j:Nat} {k':List MI} (he:fC j k=some k') (h:af P n k' D F S Q):af P n (.code (.exit j)::k) D F S Q:=
 h.one (fun _ hn=>lQ he (by rw [dG,Aa] at hn;exact hn.2)) fun a w b cs todo wb G hf _=>by
  obtain ⟨i,is,rfl,h1,h2⟩:=dh hf;obtain ⟨c,rfl,h3⟩:=fp h1
  cases c<;>simp only [MC.fits] at h3<;>first
   |(cases h3;done)
   |(simp only [Aa,beq_iff_eq,decide_eq_true_eq] at h3
     obtain ⟨rfl,h3⟩:=h3;obtain ⟨t,h4,h5⟩:=jc h3 he h2
     exact ⟨t,h5,.one (stepR_exit h4)⟩)
def af.cond {c:aj} {x y:MC} {t:Bool} (hc:c.ev F= .bool t) (h1:t=true->af P n (.code x::k) D F S Q) (h2:t=false->af P n (.code y::k) D F S Q):af P n (.code (.cond c x y)::k) D F S Q:=by
 have key:∀ (z:MC),(if t then x else y)=z->af P n (.code z::k) D F S Q->af P n (.code (.cond c x y)::k) D F S Q:=by
  intro z hz h;refine h.one (fun _ hn=>?_) fun a w b cs todo wb G hf hR=>?_
  ·simp only [dG,MI.gE,MC.gE,Aa] at hn ⊢;subst hz;cases t
   ·exact ⟨hn.1.2,hn.2⟩
   ·exact ⟨hn.1.1,hn.2⟩
  obtain ⟨i,is,rfl,h1,h2⟩:=dh hf;obtain ⟨c0,rfl,h3⟩:=fp h1
  cases c0<;>simp only [MC.fits] at h3<;>first
   |(cases h3;done)
   |skip
  rename_i c' x' y';simp only [Aa] at h3;obtain ⟨⟨h4,h5⟩,h6⟩:=h3;have hcv:=aj.rel hR.fr h4;rw [hc] at hcv;generalize hcc:a.eval c'=cv at hcv;cases hcv;refine ⟨.code (if t then x' else y')::is,⟨?_,h2⟩,.one (stepR_cond hcc)⟩;subst hz;cases t
  ·exact h6
  ·exact h5
 cases t
 ·exact key y rfl (h2 rfl)
 ·exact key x rfl (h1 rfl)
def af.ret (h:Q none D F S):af P n (.code .ret::k) D F S Q:=by
 intro wb G w a b cs todo hb hf hR
 have hb:b.roundOf=none:=by
  cases e:b.roundOf with
  |none=>rfl
  |some l=>rw [e] at hb;cases hb
 obtain ⟨i,is,rfl,h1,h2⟩:=dh hf;obtain ⟨c,rfl,h3⟩:=fp h1
 cases c<;>simp only [MC.fits] at h3<;>first
  |(cases h3;done)
  |exact ⟨none,a,w,G,F,S,D,none,Gh.le_refl G,hR,⟨fun _=>⟨_,.one (stepR_ret hb)⟩,fun e=>by rw [hb] at e;cases e⟩,trivial,h⟩
def af.done (h:Q none D F S):af P n [] D F S Q:=by
 intro wb G w a b cs todo _ hf hR
 cases todo with
 |nil=>exact ⟨none,a,w,G,F,S,D,none,Gh.le_refl G,hR,⟨fun hb=>⟨_,.one (stepR_end hb)⟩,fun _=> .refl _ _⟩,trivial,h⟩
 |cons i is=>exact hf.elim
def af.iF {l:List aX} {kp:List Nat} (h:cB P l (fun o F' S'=>match o with|none=>af P n k D (cu kp F') S' Q|some v=>Q (some v) D F' S') F S):af P n (.code (.iF l kp)::k) D F S Q:=by
 intro wb G w a b cs todo hb hf hR;have hb':qv b.roundOf k=true:=by rw [dG,Aa] at hb;exact hb.2
 obtain ⟨i,is,rfl,h1,h2⟩:=dh hf;obtain ⟨c,rfl,h3⟩:=fp h1;obtain ⟨id,ops,rfl,h3'⟩:=Pd h3;simp only [y8,Aa,decide_eq_true_eq,AO] at h3';obtain ⟨h4,h5⟩:=h3';have hw:=Hv (P:=P) (G0:=G) (ro:=b.roundOf) l h5 (Gh.le_refl G) hR h;rw [h4] at hw;obtain ⟨e,a',w',hq,harr⟩:=wpIn_region (id:=id) hw b is cs rfl trivial (yr _ _)
 cases e with
 |normal=>
  obtain ⟨G1,F1,S1,h6,h7,h8⟩:=hq;obtain ⟨e,a2,w2,G2,F2,S2,D2,av,h9,h10,h11,h12⟩:=h8 wb G1 w' a' b cs is hb' h2 (h7.cz kp);exact ⟨e,a2,w2,G2,F2,S2,D2,av,Gh.le_trans h6 h9,h10,h11.of_steps (StepsIn.steps harr),h12⟩
 |panic ch=>
  obtain ⟨G1,F1,S1,v,av,h6,h7,rfl,h8,h9⟩:=hq;exact ⟨some v,a',w',G1,F1,S1,D,some av,h6,h7,(let ⟨t,ht⟩:=harr;⟨t,ht.steps⟩),h8,h9⟩
 |exit _=>exact hq.elim
 |goto _=>exact hq.elim
 |ret=>exact hq.elim
 |outgrown=>exact hq.elim
def Dz (Q:er) (ds:List Nat):Prop:=∀ v D F F' S,(∀ t,t ∉ ds->F.lookup t=F'.lookup t)->Q (some v) D F S->Q (some v) D F' S
def bC.yH (pl:bC):List Nat:=pl.ops.filterMap (·.dst)
def ft (F:Fr):List Nat->List Nat
 |[]=>[]
 |t::ts=>match F.get t with
  | .ptr l _=>l::ft F ts
  | .aM _ _ l _=>l::ft F ts
  |_=>ft F ts
def u6 {F F':Fr} (e:iq F F'):∀ kp,cu kp F=cu kp F'
 |[]=>rfl
 |t::ts=>by simp only [cu,e t,u6 e ts]
def NP {P:Program} {n:Nat} {pl:bC} {pr kp:List Nat} {c:Code} (h:(MC.any pl pr kp).fits P n c=true):∃ id ops,c= .region id ops true/\P.follows .mixedOrders=true/\yN P n pl ops=true:=by
 cases c with
 |region id ops dr=>
  cases dr
  ·cases h
  ·simp only [MC.fits,Aa] at h;exact ⟨id,ops,rfl,h.1,h.2⟩
 |_=>cases h
def af.Is {pl:bC} {pr kp:List Nat} {Q1:er} (hQ:Dz Q1 pl.yH) (hQ1:∀ v F S,Q1 (some v) D F S->Q (some v) D F S) (h:bg P (fun o F' S'=>match o with|none=>af P n k D (cu kp F') S' Q|some v=>Q1 (some v) D F' S') S (ft F pr) pl F S):af P n (.code (.any pl pr kp)::k) D F S Q:=by
 intro wb G w a b cs todo hb hf hR;have hb':qv b.roundOf k=true:=by rw [dG,Aa] at hb;exact hb.2
 obtain ⟨i,is,rfl,h1,h2⟩:=dh hf;obtain ⟨c,rfl,h3⟩:=fp h1;obtain ⟨id,ops,rfl,hmix,h3'⟩:=NP h3;simp only [yN,Aa,decide_eq_true_eq,AO] at h3';obtain ⟨⟨h4,h5⟩,h6⟩:=h3'
 have hK:∀ o,eS ((fun o F' S'=>match o with|none=>af P n k D (cu kp F') S' Q|some v=>Q1 (some v) D F' S':Option AV->Fr->St->Prop) o):=by
  intro o F F' S e h
  cases o with
  |none=>simp only at h ⊢;rw [<-u6 e];exact h
  |some v=>exact hQ v D F F' S (fun t _=>e t) h
 have hany:=jK (ops:=ops) (all:=pl.ops) (eu:=pl.eu) hK (fun o ho v x F S h=>hQ x D _ F S (fun t ht=>by
  rw [jf]
  by_cases hd:o.dst=some t
  ·exact absurd (Cw.2 ⟨o,ho,hd⟩) ht
  ·rw [if_neg hd]) h) pl (Array.replicate ops.size false) F S ops.size h6 (fun _ h=>h) h5 h
 have hw:=r9 (P:=P) (ro:=b.roundOf) (G0:=G) (D:=D) (wb:=wb) h4 ops.size (Array.replicate ops.size false) (w:=w.drew) (Gh.le_refl G) ⟨hR.st.drew,hR.fr,hR.sz,hR.df⟩ hany;obtain ⟨e,a',w',hq,harr⟩:=wpIn_region_any (id:=id) hmix hw b is cs rfl trivial (yr _ _)
 cases e with
 |normal=>
  obtain ⟨G1,F1,S1,h6,h7,h8⟩:=hq;obtain ⟨e,a2,w2,G2,F2,S2,D2,av,h9,h10,h11,h12⟩:=h8 wb G1 w' a' b cs is hb' h2 (h7.cz kp);exact ⟨e,a2,w2,G2,F2,S2,D2,av,Gh.le_trans h6 h9,h10,h11.of_steps (StepsIn.steps harr),h12⟩
 |panic ch=>
  obtain ⟨G1,F1,S1,v,av,h6,h7,rfl,h8,h9⟩:=hq;exact ⟨some v,a',w',G1,F1,S1,D,some av,h6,h7,(let ⟨t,ht⟩:=harr;⟨t,ht.steps⟩),h8,hQ1 _ _ _ h9⟩
 |exit _=>exact hq.elim
 |goto _=>exact hq.elim
 |ret=>exact hq.elim
 |outgrown=>exact hq.elim
def af.any {pl:bC} {pr kp:List Nat} (hQ:Dz Q pl.yH) (h:bg P (fun o F' S'=>match o with|none=>af P n k D (cu kp F') S' Q|some v=>Q (some v) D F' S') S (ft F pr) pl F S):af P n (.code (.any pl pr kp)::k) D F S Q:=.Is hQ (fun _ _ _ h=>h) h
def af.inLoop {x:MC} (h:af P n (.code x:: .inLoop x::k) D F S Q):af P n (.inLoop x::k) D F S Q:=
 h.one (by simp only [dG,MI.gE,Aa];exact fun _ h=>⟨h.1,h⟩) fun a w b cs todo wb G hf _=>by
  obtain ⟨i,is,rfl,h1,h2⟩:=dh hf
  cases i<;>first
   |exact h1.elim
   |exact ⟨.code _:: .inLoop _::is,⟨h1,h1,h2⟩,.one stepR_inLoop⟩
def af.ej {x:MC} (h:af P n (.code x:: .inLoop x::k) D F S Q):af P n (.code (.loop x)::k) D F S Q:=
 h.one (by simp only [dG,MI.gE,MC.gE,Aa];exact fun _ h=>⟨h.1,h⟩) fun a w b cs todo wb G hf _=>by
  obtain ⟨i,is,rfl,h1,h2⟩:=dh hf;obtain ⟨c,rfl,h3⟩:=fp h1
  cases c<;>simp only [MC.fits] at h3<;>first
   |(cases h3;done)
   |exact ⟨.code _:: .inLoop _::is,⟨h3,h3,h2⟩,.one stepR_loop⟩
def T6 {o:Oper} {a:Act} {w:World} {ro:Option Nat} {K K':Act->World->Prop} {R R':Exit->Act->World->Prop} (h:∀ a w,K a w->K' a w) (hq:∀ e a w,e≠ .normal->R e a w->R' e a w)
  (hh:o.wpIn (gw ro) 0 P a w K R):o.wpIn (gw ro) 0 P a w K' R':=by
 unfold Oper.wpIn at*;refine ⟨hh.1,?_⟩
 replace hh:=hh.2
 generalize (o.semAt (gw ro).round a.eval).run P w=r at*;have hl:LetsOut R->LetsOut R':=fun ⟨a,w,h⟩=>⟨a,w,hq _ _ _ (by simp) h⟩
 cases r with
 |ok n w'=>
  cases n<;>simp only [Oper.uponIn] at hh ⊢<;>
   first
    |exact h _ _ hh
    |exact ⟨hh.1,CallsIn.mono hh.2 (fun e w'' he=>by cases e<;>first|exact h _ _ he|exact hq _ _ _ (by simp) he|exact hl he)⟩
    |exact ⟨hh.1,RowsIn.mono hh.2 (fun _ _ he=>h _ _ he)⟩
    |exact ⟨hh.1,RoundIn.mono hh.2 (fun e w'' he=>by cases e<;>first|exact h _ _ he|exact hq _ _ _ (by simp) he|exact hl he)⟩
 |halt x w'=>cases x<;>simp only [Oper.uponIn] at hh ⊢<;>first
  |exact hh
  |exact hq _ _ _ (by simp) hh
def Dy {ops:Array Oper} {ro:Option Nat} {R R':Exit->Act->World->Prop} {rest:List Nat} (hn:∀ a w,R .normal a w->wpOpsIn (gw ro) 0 P ops R' rest a w) (hq:∀ e a w,e≠ .normal->R e a w->R' e a w):∀ (l:List Nat) {a:Act} {w:World},wpOpsIn (gw ro) 0 P ops R l a w->wpOpsIn (gw ro) 0 P ops R' (l++rest) a w
 |[],a,w,h=>hn a w h
 |i::l,a,w,h=>by
  have ih:=fun a w=>Dy hn hq l (a:=a) (w:=w);simp only [List.cons_append,wpOpsIn] at h ⊢
  cases ho:ops[i]? with
  |none=>simp only [ho] at h ⊢;exact ih _ _ h
  |some o=>
   simp only [ho] at h ⊢;split
   ·rename_i hw;rw [if_pos hw] at h;exact T6 ih hq h
   ·rename_i hw;rw [if_neg hw] at h;exact ⟨h.1,ih _ _ h.2⟩
def ae2 {a:Act} {o:Oper} {w:World} {fo:Operand} {args:Array Operand} {tys:Array TypeId} {f:Fn} {vs ws:Array Value} (ho:o.op= .defer ⟨.value fo,args,tys⟩) (hf:a.eval fo= .func f vs ws):
  (execOp a.eval o).run P w= .ok (.defer {target:= .fn f ws,args:=vs++args.map a.eval}) w:=by
 simp only [execOp,ho,resolve,hf,Deferred.ofValue];rfl
def Iq (G:Gh) (pv:Option AV) (u:FrameMode):Prop:=
 match pv with
 |none=>u= .returning
 |some p=>∃ v,u= .panicking [{v,recovered:=false}]/\ah G p v
def ak9:FrameMode->FrameMode
 | .panicking ({v,recovered:=_,goexit:=_}::older)=> .panicking ({v,recovered:=true}::older)
 |u=>u
def Iq.mono {G G':Gh} (h:G.le G') {pv:Option AV} {u:FrameMode} (hp:Iq G pv u):Iq G' pv u:=by
 cases pv with
 |none=>exact hp
 |some p=>obtain ⟨v,h1,h2⟩:=hp;exact ⟨v,h1,h2.mono h⟩
def af.loop {x:MC} (I:Fr->St->Prop) (μ:Fr->St->Nat) (h0:I F S)
  (round:∀ F S,I F S->(∀ F' S',I F' S'->μ F' S'<μ F S->af P n (.inLoop x::k) D F' S' Q)->af P n (.code x:: .inLoop x::k) D F S Q):af P n (.code (.loop x)::k) D F S Q:=by
 have key:∀ m F S,μ F S=m->I F S->af P n (.inLoop x::k) D F S Q:=by
  intro m
  induction m using Nat.strongRecOn with
  |_ m ih=>
   intro F S hm hI;refine (round F S hI fun F' S' hI' hlt=>ih (μ F' S') (hm▸hlt) F' S' rfl hI').one (by simp only [dG,MI.gE,Aa];exact fun _ h=>⟨h.1,h⟩) fun a w b cs todo wb G hf _=>?_;obtain ⟨i,is,rfl,h1,h2⟩:=dh hf
   cases i<;>first
    |exact h1.elim
    |exact ⟨.code _:: .inLoop _::is,⟨h1,h1,h2⟩,.one stepR_inLoop⟩
 refine (round F S h0 fun F' S' hI' _=>key _ F' S' rfl hI').one (by simp only [dG,MI.gE,MC.gE,Aa];exact fun _ h=>⟨h.1,h⟩) fun a w b cs todo wb G hf _=>?_;obtain ⟨i,is,rfl,h1,h2⟩:=dh hf;obtain ⟨c,rfl,h3⟩:=fp h1
 cases c<;>simp only [MC.fits] at h3<;>first
  |(cases h3;done)
  |exact ⟨.code _:: .inLoop _::is,⟨h3,h3,h2⟩,.one stepR_loop⟩
def af.sK {F':Fr} {S':St} (h:af P n k D F' S' Q) (hF:∀ t v,F'.lookup t=some v->F.lookup t=some v) (hS:S.le S'):af P n k D F S Q:=by
 intro wb G w a b cs todo hb hf hR;exact h wb G w a b cs todo hb hf ⟨hR.st.sK hS,⟨fun t v e=>hR.fr.rel t v (hF t v e)⟩,hR.sz,hR.df⟩
end rules
end Go.V
namespace Go.V
open Go
def jr:Nat->List AV->Fr
 |_,[]=>[]
 |i,a::as=>(i,a)::jr (i+1) as
inductive RV where
 |t (n:Nat)
 |c (a n:Nat) (ag:Bool)
def jJ (F:Fr) (S:St):RV->Option AV
 | .t n=>some (F.get n)
 | .c a n ag=>((F.get a).there S).bind (cA n ag)
def fB (F:Fr) (S:St):List RV->Option (List AV)
 |[]=>some []
 |r::rs=>(jJ F S r).bind fun v=>(fB F S rs).map fun vs=>v::vs
def dw:List AV->AV
 |[v]=>v
 |vs=> .aF vs
def RV.fits (P:Program):RV->ResultVar->Bool
 | .t n,.tmp m=>n==m
 | .c a n ag,.cell a' ty=>a==a' && known P ty && (eN P ty==ag) && cf P ty n
 |_,_=>false
def pY (P:Program):List RV->List ResultVar->Bool
 |[],[]=>true
 |r::rs,x::xs=>r.fits P x && pY P rs xs
 |_,_=>false
def wH (a:Act):ResultVar->Sem Value
 | .tmp t=>pure (a.tmps.getD t undef)
 | .cell b ty=>do loadVar ty (<-asAddr (a.tmps.getD b undef))
def GJ {P:Program} {wb:aU} {n:Nat} {G:Gh} {S:St} {F:Fr} {D:ep} {w:World} {a:Act} (hR:Rel wb n G S F D w a):∀ {rs:List RV} {xs:List ResultVar} {vs:List AV},pY P rs xs=true->fB F S rs=some vs->
  ∃ us:List Value,(xs.mapM (wH a)).run P w= .ok us w/\cZ G vs us
 |[],[],vs,_,h=>by
  simp [fB] at h;subst h;exact ⟨[],by simp,rfl,by simp⟩
 |[],_::_,_,h,_=>by cases h
 |_::_,[],_,h,_=>by cases h
 |r::rs,x::xs,vs,h,he=>by
  simp only [pY,Aa] at h;simp only [fB,Aq,Ag] at he;obtain ⟨v,h1,vs',h2,rfl⟩:=he;obtain ⟨us,h3,h4,h5⟩:=GJ hR h.2 h2
  have hx:∃ u,(wH a x).run P w= .ok u w/\ah G v u:=by
   cases r<;>cases x<;>simp only [RV.fits] at h<;>first
    |(cases h.1;done)
    |skip
   ·simp only [beq_iff_eq] at h;obtain ⟨rfl,_⟩:=h;simp only [jJ,Ae] at h1;subst h1;exact ⟨_,rfl,hR.fr.get _⟩
   ·simp only [Aa,beq_iff_eq] at h;obtain ⟨⟨⟨⟨rfl,q1⟩,q2⟩,q3⟩,_⟩:=h;simp only [jJ,Aq] at h1;obtain ⟨cs,q4,q5⟩:=h1;obtain ⟨rr,oo,q6,q7⟩:=ED hR.st q4 (hR.fr.get _);obtain ⟨u,q8,q9⟩:=o8 (P:=P) q7 q1 q2 q3 q5;refine ⟨u,?_,q9⟩;simp only [wH,q6,asAddr,Sem.run_bind,Sem.run_pure,Result.andThen_ok];simpa [Instr.loadAt,Instr.sureAddr] using q8
  obtain ⟨u,h6,h7⟩:=hx;refine ⟨u::us,?_,by simp [h4],?_⟩
  ·rw [List.mapM_cons];simp only [Sem.run_bind];rw [h6];simp only [Result.andThen_ok];rw [h3];simp
  ·intro m c z hc hz
   cases m with
   |zero=>simp at hc hz;subst hc hz;exact h7
   |succ m=>exact h5 m c z (by simpa using hc) (by simpa using hz)
def Gu {P:Program} {wb:aU} {n:Nat} {G:Gh} {S:St} {F:Fr} {D:ep} {w:World} {a:Act} (hR:Rel wb n G S F D w a) {fn:Func} {rs:List RV} {vs:List AV} (hf:pY P rs fn.results.toList=true) (he:fB F S rs=some vs):
  ∃ u,(results fn a.tmps).run P w= .ok u w/\ah G (dw vs) u:=by
 obtain ⟨us,h1,h2,h3⟩:=GJ (P:=P) hR hf he
 have hm:(fn.results.mapM (wH a)).run P w= .ok us.toArray w:=by
  rw [<-Array.toArray_toList (xs:=fn.results),List.mapM_toArray];simp only [Sem.run_map];rw [h1];rfl
 refine ⟨if h:us.toArray.size=1 then us.toArray[0] else .tuple us.toArray,?_,?_⟩
 ·unfold results;change ((fn.results.mapM (wH a))>>=fun vs=>pure (if h:vs.size=1 then vs[0] else .tuple vs):Sem Value).run P w=_;simp only [Sem.run_bind,hm];rfl
 ·cases us with
  |nil=>
   have:vs=[]:=A3 h2;subst this;simpa [dw] using ah.aF (G:=G) (cs:=[]) (vs:=[]) rfl (by simp)
  |cons u us=>
   cases us with
   |nil=>
    obtain ⟨v,rfl⟩:∃ v,vs=[v]:=by
     cases vs with
     |nil=>simp at h2
     |cons v vs=>cases vs with
      |nil=>exact ⟨v,rfl⟩
      |cons _ _=>simp at h2
    simpa [dw] using h3 0 v u rfl rfl
   |cons u' us=>
    have hr:dw vs= .aF vs:=by
     cases vs with
     |nil=>rfl
     |cons v vs=>cases vs with
      |nil=>simp at h2
      |cons _ _=>rfl
    rw [hr];simpa using ah.aF (G:=G) h2 h3
def bI (rs:List RV) (K:Out->St->Prop):er:=fun e D F S=>
 match e with
 |none=>D=[]/\(match fB F S rs with
  |some vs=>K (.ok (dw vs)) S
  |none=>False)
 |some v=>D=[]/\K (.eF v) S
def o9 {t:Nat} {v:AV}:∀ {as:List AV} {i:Nat},(jr i as).lookup t=some v->i<=t/\as[t-i]? =some v
 |[],_,h=>by cases h
 |a::as,i,h=>by
  simp only [jr,List.lookup_cons] at h
  by_cases ht:t=i
  ·subst ht;simp at h;exact ⟨Af _,by simp [h]⟩
  ·have hb:(t==i)=false:=by simpa using ht
   rw [hb] at h;obtain ⟨h1,h2⟩:=o9 h;refine ⟨by omega,?_⟩;rw [show t-i=(t-(i+1))+1 from by omega,List.getElem?_cons_succ];exact h2
def xS (P:Program) (n:Nat) (m:MC) (rs:List RV) (fn:Func):Bool:=
 (match fn.body with
  |some c=>m.fits P n c
  |none=>false) && fn.ntmps==n && pY P rs fn.results.toList
structure aD (P:Program) (f:FuncId) (n:Nat) (m:MC) (rs:List RV):Prop where
 call:∀ (args:Array Value) (w:World),(callFunc f args).run P w= .ok (.enter f args) w
 is:∃ fn c,P.funcs[f]? =some fn/\fn.body=some c/\fn.ntmps=n/\m.fits P n c=true/\pY P rs fn.results.toList=true
def aD.of {P:Program} {f:FuncId} {n:Nat} {m:MC} {rs:List RV} {fn:Func} (hc:∀ (args:Array Value) (w:World),(callFunc f args).run P w= .ok (.enter f args) w) (hf:P.funcs[f]? =some fn) (h:xS P n m rs fn=true):aD P f n m rs:=by
 unfold xS at h;simp only [Aa,beq_iff_eq] at h;obtain ⟨⟨h1,h2⟩,h3⟩:=h;split at h1
 ·rename_i c hb;exact ⟨hc,fn,c,hf,hb,h2,h1,h3⟩
 ·cases h1
def aD.o2 {P : Program} {f : FuncId} {n : Nat} {m : MC} {rs : List RV} {fn : Func} (hf : P.funcs[f]? = some fn) (h : (fn.name != "runtime.NumGoroutine" && xS P n m rs fn) = true) : aD P f n m rs := by
 simp only [Aa,bne_iff_ne,ne_eq] at h;refine .of (fun args w=>?_) hf h.2;have h2:=h.2;unfold xS at h2
 cases hb:fn.body with
 |none=>simp [hb] at h2
 |some c=>simp [callFunc,hf,h.1,hb]
def ao.aC {P:Program} {f:FuncId} {n:Nat} {m:MC} {rs:List RV} (hf:aD P f n m rs) {as:List AV} (hlen:as.length<=n) {S:St} {K:Out->St->Prop} (h:af P n [.code m] [] (jr 0 as) S (bI rs K)):ao P f as S K:=by
 intro wb G w vs hS hv;obtain ⟨fn,c,h1,h3,h4,h5,h6⟩:=hf.is;unfold kf;rw [hf.call];intro cs
 let b:Frame:={(default:Frame) with fn:=f,kind:= .normal,roundOf:=none}
 let a:Act:={tmps:=vs.toArray++Array.replicate (n-vs.toArray.size) undef,defers:=[]}
 have henter:Frame.enter P f vs.toArray .normal=b.atR a [.code c]:=by simp [Frame.enter,Frame.atR,h1,h3,h4,b,a]
 have hvl:=hv.len
 have hR:Rel wb n G S (jr 0 as) [] w a:=by
  refine ⟨hS,⟨fun t v e=>?_⟩,by simp [a];omega,trivial⟩;obtain ⟨_,h7⟩:=o9 e;rw [Nat.sub_zero] at h7
  have ht:t<as.length:=by
   rcases Al t as.length with h'|h'
   ·exact h'
   ·rw [As h'] at h7;cases h7
  have htv:t<vs.length:=by omega
  refine ⟨by simp [a];omega,?_⟩
  have:a.tmps.getD t undef=vs[t]:=by
   simp only [a,Array.getD];have hsz:t<(vs.toArray++Array.replicate (n-vs.toArray.size) undef).size:=by simp;omega
   rw [dif_pos hsz];simp [htv]
  rw [this];exact hv.rel t v _ h7 (by simp [htv])
 obtain ⟨e,a',w',G',F',S',D',av,g1,g2,g3,g4,g5⟩:=h wb G w a b cs [.code c] (by rw [dG];simp only [MI.gE,b,MC.qX];rfl) ⟨h5,trivial⟩ hR;rw [<-henter] at g3
 cases e with
 |none=>
  cases av with
  |some _=>exact g4.elim
  |none=>
   simp only [bI] at g5;obtain ⟨rfl,g5⟩:=g5;split at g5
   ·rename_i us hus;obtain ⟨u,g6,g7⟩:=Gu (P:=P) g2 h6 hus;obtain ⟨todo,g8⟩:=g3.1 rfl
    have hdf:a'.defers=[]:=by
     have:=g2.df
     cases e2:a'.defers with
     |nil=>rfl
     |cons d ds=>rw [e2] at this;exact this.elim
    exact ⟨.returned u,w',_,⟨G',S',g1,g2.st,_,g7,g5⟩,g8,rfl,rfl,hdf,rfl,fn,h1,g6⟩
   ·exact g5.elim
 |some v=>
  cases av with
  |none=>exact g4.elim
  |some x=>
   simp only [bI] at g5;obtain ⟨rfl,g5⟩:=g5;obtain ⟨todo,g8⟩:=g3
   have hdf:a'.defers=[]:=by
    have:=g2.df
    cases e2:a'.defers with
    |nil=>rfl
    |cons d ds=>rw [e2] at this;exact this.elim
   exact ⟨.panicked [{v,recovered:=false}],w',_,⟨G',S',g1,g2.st,v,x,rfl,g4,g5⟩,g8,rfl,rfl,hdf,fn,h1⟩
def af.post {P:Program} {n:Nat} {k:List MI} {D:ep} {F:Fr} {S:St} {Q Q':er} (h:af P n k D F S Q) (hq:∀ e D F S,Q e D F S->Q' e D F S):af P n k D F S Q':=by
 intro wb G w a b cs todo hb hf hR;obtain ⟨e,a',w',G',F',S',D',av,h1,h2,h3,h4,h5⟩:=h wb G w a b cs todo hb hf hR;exact ⟨e,a',w',G',F',S',D',av,h1,h2,h3,h4,hq _ _ _ _ h5⟩
def afw {wb:aU} {n:Nat} {G:Gh} {S:St} {w:World} {as:List AV} {vs:List Value} (hS:aw wb G S w) (hv:cZ G as vs) (hlen:as.length<=n):
  Rel wb n G S (jr 0 as) [] w {tmps:=vs.toArray++Array.replicate (n-vs.toArray.size) undef,defers:=[]}:=by
 have hvl:=hv.len;refine ⟨hS,⟨fun t v e=>?_⟩,by simp;omega,trivial⟩;obtain ⟨_,h7⟩:=o9 e;rw [Nat.sub_zero] at h7
 have ht:t<as.length:=by
  rcases Al t as.length with h'|h'
  ·exact h'
  ·rw [As h'] at h7;cases h7
 have htv:t<vs.length:=by omega
 refine ⟨by simp;omega,?_⟩
 have:(vs.toArray++Array.replicate (n-vs.toArray.size) undef).getD t undef=vs[t]:=by
  simp only [Array.getD];have hsz:t<(vs.toArray++Array.replicate (n-vs.toArray.size) undef).size:=by simp;omega
  rw [dif_pos hsz];simp [htv]
 rw [this];exact hv.rel t v _ h7 (by simp [htv])
def abq {G:Gh} {pv:Option AV} {u:FrameMode} (h:Iq G pv u):settle (ak9 u)= .returning:=by
 cases pv with
 |none=>have:u= .returning:=h;subst this;rfl
 |some p=>obtain ⟨v,rfl,_⟩:=h;rfl
def RV.slot:RV->Nat
 | .t n=>n
 | .c a _ _=>a
def uL {F F':Fr} {S:St}:∀ {rs:List RV},(∀ r∈rs,F.get r.slot=F'.get r.slot)->fB F S rs=fB F' S rs
 |[],_=>rfl
 |r::rs,h=>by
  have h1:jJ F S r=jJ F' S r:=by
   have:=h r (by simp);cases r<;>simp only [jJ,RV.slot] at this ⊢<;>rw [this]
  simp only [fB,h1,uL (rs:=rs) fun r hr=>h r (by simp [hr])]
def al (r:AV):Prop:=∀ (G G':Gh) (v:Value),(∀ a o x,G.φ a o=some x->G'.φ a o=some x)->ah G r v->ah G' r v
def al.bool (b:Bool):al (.bool b):=fun G G' v _ h=>by cases h;exact .bool _
def al.int (k:IntKind) (n:Int):al (.int k n):=fun G G' v _ h=>by cases h;exact .int _ _
def al.str (s:List UInt8):al (.str s):=fun G G' v _ h=>by cases h;exact .str _
def al.cS:al .cS:=fun G G' v _ h=>by cases h;exact .cS
def al.cV:al .cV:=fun G G' v _ h=>by cases h;exact .cV
def al.fw:al .fw:=fun G G' v _ h=>by cases h;exact .fw
def al.dd:al .dd:=fun _ _ _ _ _=> .dd _
def al.gp (g o:Nat):al (.gp g o):=fun G G' v _ h=>by cases h;exact .gp _ _
def al.cH {t:TypeId} {c:AV} (hc:al c):al (.cH t c):=fun G G' v hp h=>by cases h;exact .cH t (hc G G' _ hp ‹_›)
def al.agg {cs:List AV} (hc:∀ c∈cs,al c):al (.agg cs):=fun G G' v hp h=>by
 cases h;rename_i vs ho hl hv;exact .agg hl ho fun m c v h1 h2=>hc c (Aj h1) G G' v hp (hv m c v h1 h2)
def al.aF {cs:List AV} (hc:∀ c∈cs,al c):al (.aF cs):=fun G G' v hp h=>by
 cases h;rename_i vs hl hv;exact .aF hl fun m c v h1 h2=>hc c (Aj h1) G G' v hp (hv m c v h1 h2)
def Ow {xs:List AV} {c:AV} (h:c∈flat xs):∃ x∈xs,c∈x.cells:=by simpa [flat,List.mem_flatMap] using h
def al.sl {k:Nat} {xs:List AV} {t:bD} (hx:∀ x∈xs,∀ c∈x.cells,al c) (ht:t= .ai∨t= .exact):al (.sl k xs t):=fun G G' v hp h=>by
 cases h with
 |slnil=>exact .slnil _ _ _
 |sl f hk hf ho hv hc htk=>
  refine .sl f hk (fun m c e=>hp _ _ _ (hf m c e)) ho (fun m c e=>?_) hc ?_
  ·obtain ⟨x,h1,h2⟩:=Ow (Aj e);exact hx x h1 c h2 G G' _ hp (hv m c e)
  ·cases t with
   |ai=>trivial
   |exact=>exact htk
   |tok n=>simp at ht
   |new n=>simp at ht
def al.func {f:Fn} {as cs:List AV} (ha:∀ c∈as,al c) (hc:∀ c∈cs,al c):al (.fn f as cs):=fun G G' v hp h=>by
 cases h;rename_i vs ws h1 hv h2 hw;exact .fn f h1 h2 (fun m c v e1 e2=>ha c (Aj e1) G G' v hp (hv m c v e1 e2)) (fun m c v e1 e2=>hc c (Aj e1) G G' v hp (hw m c v e1 e2))
def St.none (gl:List (Nat×List AV)):St:=⟨0,[],0,[],gl⟩
def aw.start {wb:aU} {G:Gh} {S:St} {w:World} (h:aw wb G S w) (hg:∀ g cs,S.gl.lookup g=some cs->∀ c∈cs,al c):
  aw {toWorld:=w,φ:=G.φ,vx:=h.vx} ⟨G.φ,fun _=>Option.none,fun _=>Option.none,w.heap.size,G.κ⟩ (.none S.gl) w where
 prom:=h.prom
 apart:=fun l cs r o e=>by cases e
 room:=fun l cs r e=>by cases e
 obj:=fun l cs e=>by cases e
 beta:=rfl
 bu:=fun l s e=>by cases e
 dz:=fun l l' s s' e=>by cases e
 inj:=fun l l' r cs cs' e=>by cases e
 bS:=fun l r e=>by cases e
 tok:=fun t ht=>by cases ht
 bQ:=fun t x e=>by cases e
 cN:=fun t ht=>by cases ht
 base:=⟨Af _,fun _ _=>rfl⟩
 cF:=fun r o v _ e=>e
 still:=⟨rfl,rfl,rfl⟩
 cC:=fun g cs e m c hm=>by
  obtain ⟨v,h1,h2,h3⟩:=h.cC g cs e m c hm;exact ⟨v,h1,hg g cs e c (Aj hm) G _ _ (fun _ _ _ e=>e) h2,h3⟩
def aw.frame {wb:aU} {G G':Gh} {S S':St} {w w':World} (h:aw wb G S w) (h':aw {toWorld:=w,φ:=G.φ,vx:=h.vx} G' S' w') (hφ:∀ r o v,G.φ r o=some v->G'.φ r o=some v):
  aw wb ⟨G'.φ,G.σ,G.τ,G.β,G.κ⟩ S w':=by
 have hle:G.le ⟨G'.φ,G.σ,G.τ,G.β,G.κ⟩:=⟨hφ,fun _ _ e=>e,fun _ _ e=>e,rfl,fun _ _ _=>rfl⟩
 have hcell:∀ r o,r<w.heap.size->w'.cell? ⟨r,o,Option.none⟩=w.cell? ⟨r,o,Option.none⟩:=fun r o hr=>by
  have:w'.heap[r]? =w.heap[r]? :=h'.base.2 r hr;simp only [World.cell?,this]
 have hfroz:∀ r o,r<w.heap.size->w'.frozen? ⟨r,o,Option.none⟩=w.frozen? ⟨r,o,Option.none⟩:=fun r o hr=>by
  have:w'.heap[r]? =w.heap[r]? :=h'.base.2 r hr;simp only [World.frozen?,this]
 have hsz:w.heap.size<=w'.heap.size:=h'.base.1;have hold:∀ r o v,r<w.heap.size->G'.φ r o=some v->G.φ r o=some v:=fun r o v hr e=>h'.cF r o v hr e
 refine {prom:=h'.prom,room:=fun l cs r hl hnb e=>by
           obtain ⟨q1,q2⟩:=h.room l cs r hl hnb e;have hlt:=(h.bS l r e).2.2
           exact ⟨⟨q1.1,q1.2.to (by
            have:w'.heap[r]? =w.heap[r]? :=h'.base.2 r hlt
            simp only [World.shape?,this]) (hfroz _ _ hlt)⟩,fun m hm=>by rw [hcell _ _ hlt,hfroz _ _ hlt];exact q2 m hm⟩,apart:=?_,obj:=?_,inj:=h.inj,bS:=?_,tok:=?_,bQ:=?_,cN:=h.cN,base:=?_,cF:=?_,still:=?_,beta:=h.beta,cC:=?_,bu:=?_,dz:=h.dz}
 rotate_right
 ·intro l s hl hsp0;obtain ⟨r,hr,hb⟩:=h.bu l s hl hsp0;refine ⟨r,hr,hb.to hle (fun hlt=>h'.base.2 r hlt) fun g hg _ _ hal=>⟨h'.base.2 g hg,fun o=>?_,hal.2.1,hal.2.2⟩⟩
  cases e2:G'.φ g o with
  |none=>rfl
  |some v=>have:=hold g o v hg e2;rw [hal.1 o] at this;cases this
 ·intro l cs r o hl hd e;have hr:=(h.bS l r e).2.2
  cases e2:G'.φ r o with
  |none=>rfl
  |some v=>have:=hold r o v hr e2;rw [h.apart l cs r o hl hd e] at this;cases this
 ·intro l cs hl hnb;obtain ⟨r,hr,hm⟩:=h.obj l cs hl hnb;have hlt:=(h.bS l r hr).2.2;refine ⟨r,hr,fun m c hmc=>?_⟩;obtain ⟨v,h1,h2,h3,h4⟩:=hm m c hmc;exact ⟨v,by rw [hcell _ _ hlt];exact h1,h2.mono hle,h3,by rw [hfroz _ _ hlt];exact h4⟩
 ·intro l r e;have:=h.bS l r e;omega
 ·intro t ht;obtain ⟨r,e,z,h1,h2⟩:=h.tok t ht;refine ⟨r,e,z,h1,fun o h3 h4=>?_⟩;have hlt:=(h.bQ t _ h1).2 (by show e<z;omega);obtain ⟨h5,h6,h7,h8,h9⟩:=h2 o h3 h4;refine ⟨h5,h6,by rw [hcell _ _ hlt];exact h7,by rw [hfroz _ _ hlt];exact h8,?_⟩
  cases e2:G'.φ r o with
  |none=>rfl
  |some v=>have:=hold r o v hlt e2;rw [h9] at this;cases this
 ·intro t x e;have:=h.bQ t x e;exact ⟨this.1,fun h'=>by have:=this.2 h';omega⟩
 ·refine ⟨by have:=h.base.1;omega,fun r hr=>?_⟩;rw [show w'.heap[r]? =w.heap[r]? from h'.base.2 r (by have:=h.base.1;show r<w.heap.size;omega)];exact h.base.2 r hr
 ·intro r o v hr e;exact h.cF r o v hr (hold r o v (by have:=h.base.1;omega) e)
 ·obtain ⟨h1,h2,h3⟩:=h'.still;obtain ⟨h4,h5,h6⟩:=h.still;exact ⟨h1.trans h4,h2.trans h5,h3.trans h6⟩
 ·intro g cs hg m c hmc;obtain ⟨v,h1,h2,h3⟩:=h.cC g cs hg m c hmc;exact ⟨v,hφ _ _ _ h1,h2.mono hle,h3⟩
def ao.lift {P:Program} {f:FuncId} {as:List AV} {S:St} {K:Out->Prop} (h:ao P f as (.none S.gl) fun o _=>K o) (ha:∀ a∈as,al a) (hg:∀ g cs,S.gl.lookup g=some cs->∀ c∈cs,al c)
  (hK:∀ r,K (.ok r)->al r) (hK':∀ r,K (.eF r)->al r):ao P f as S fun o S'=>S'=S/\K o:=by
 intro wb G w vs hS hv;have hst:=hS.start hg;have hv0:cZ ⟨G.φ,fun _=>Option.none,fun _=>Option.none,w.heap.size,G.κ⟩ as vs:=⟨hv.len,fun m c v e1 e2=>ha c (Aj e1) G _ v (fun _ _ _ e=>e) (hv.rel m c v e1 e2)⟩;refine (h _ _ w vs hst hv0).mono fun e w' ⟨G',S',h1,h2,h3⟩=>?_;have hφ:∀ r o v,G.φ r o=some v->G'.φ r o=some v:=fun r o v e=>h1.φ r o v e;refine ⟨⟨G'.φ,G.σ,G.τ,G.β,G.κ⟩,S,⟨hφ,fun _ _ e=>e,fun _ _ e=>e,rfl,fun _ _ _=>rfl⟩,hS.frame h2 hφ,?_⟩
 cases e with
 |returned v=>obtain ⟨r,h4,h5⟩:=h3;exact ⟨r,hK r h5 G' _ v (fun _ _ _ e=>e) h4,rfl,h5⟩
 |panicked ch=>obtain ⟨v,av,h4,h5,h6⟩:=h3;exact ⟨v,av,h4,hK' av h6 G' _ v (fun _ _ _ e=>e) h5,rfl,h6⟩
 |outgrown=>exact h3
end Go.V
namespace Go.V
open Go
def mw (P:Program) (n:Nat) (Q:er):Nat->List MI->ep->Fr->St->Prop
 |0,k,D,F,S=>af P n k D F S Q
 |fu+1,k,D,F,S=>match k with
  |[]=>Q none D F S
  | .inBlock _::k=>mw P n Q fu k D F S
  | .inLoop x::k=>af P n (.inLoop x::k) D F S Q
  | .begin l::k=>af P n (.begin l::k) D F S Q
  | .code c::k=>match c with
   | .skip=>mw P n Q fu k D F S
   | .seq a b=>mw P n Q fu (.code a:: .code b::k) D F S
   | .block i a=>mw P n Q fu (.code a:: .inBlock i::k) D F S
   | .exit i=>match fC i k with
    |some k'=>mw P n Q fu k' D F S
    |none=>False
   | .ret=>Q none D F S
   | .loop x=>af P n (.code (.loop x)::k) D F S Q
   | .named kp x=>af P n (.code x::k) D (cu kp F) S Q
   | .cond c a b=>match c.ev F with
    | .bool t=>(t=true->mw P n Q fu (.code a::k) D F S)/\(t=false->mw P n Q fu (.code b::k) D F S)
    |_=>False
   | .iF l kp=>cB P l (fun o F' S'=>match o with
    |none=>mw P n Q fu k D (cu kp F') S'
    |some v=>Q (some v) D F' S') F S
   | .any pl pr kp=>Dz Q pl.yH/\bg P (fun o F' S'=>match o with
    |none=>mw P n Q fu k D (cu kp F') S'
    |some v=>Q (some v) D F' S') S (ft F pr) pl F S
   | .bad=>False
   | .yg g ps a b=>af P n (.code (.yg g ps a b)::k) D F S Q
def KW (P:Program) (n:Nat) (Q:er) (fu:Nat) (k:List MI) (kp:List Nat) (D:ep):Option AV->Fr->St->Prop:=fun o F' S'=>match o with
 |none=>mw P n Q fu k D (cu kp F') S'
 |some v=>Q (some v) D F' S'
def mA {P:Program} {o:aX} {K K':Option AV->Fr->St->Prop} {nx nx':Fr->St->Prop} (hK:∀ v F S,K (some v) F S->K' (some v) F S) (hn:∀ F S,nx F S->nx' F S) {F:Fr} {S:St} (h:bl P o K nx F S):bl P o K' nx' F S:=by
 obtain ⟨ix,dst,gd,op⟩:=o
 cases op with
 |k m=>
  simp only [bl] at h ⊢;refine ⟨h.1,?_⟩;have:=h.2;split at this
  ·exact hn _ _ this
  ·exact this.elim
 |panic x=>
  simp only [bl] at h ⊢;split at h
  ·exact hK _ _ _ h
  ·exact h.elim
 |it m=>
  simp only [bl] at h ⊢;exact EX (fun v S h=>hn _ _ h) h
 |call c as=>
  simp only [bl] at h ⊢;split at h
  ·refine h.mono fun out S' ho=>?_
   cases out with
   |ok r=>exact hn _ _ ho
   |eF v=>exact hK _ _ _ ho
  ·refine h.mono fun out S' ho=>?_
   cases out with
   |ok r=>exact hn _ _ ho
   |eF v=>exact hK _ _ _ ho
  ·exact h.elim
def Fx {P:Program} {K K':Option AV->Fr->St->Prop} (hK:∀ o F S,K o F S->K' o F S):∀ (l:List aX) {F:Fr} {S:St},cB P l K F S->cB P l K' F S
 |[],_,_,h=>hK _ _ _ h
 |o::l,F,S,h=>by
  have ih:=fun F S=>Fx (P:=P) hK l (F:=F) (S:=S);have hs:=fun F S=>mA (P:=P) (o:=o) (fun v F S=>hK (some v) F S) ih (F:=F) (S:=S);simp only [cB] at h ⊢;unfold bA at h ⊢;split at h
  ·exact hs _ _ h
  ·split at h
   ·exact ⟨fun e=>hs _ _ (h.1 e),fun e=>ih _ _ (h.2 e)⟩
   ·exact ih _ _ h
   ·exact h.elim
def jH {P:Program} {K K':Option AV->Fr->St->Prop} (hK:∀ o F S,K o F S->K' o F S) {S0:St} {Ls:List Nat}:∀ (pl:bC) {F:Fr} {S:St},bg P K S0 Ls pl F S->bg P K' S0 Ls pl F S
 | .done,_,_,h=>hK _ _ _ h
 | .one o lo nd r,F,S,h=>by
  have hx:∀ F' S',((nd=true->aY S0 Ls S')/\bg P K S0 Ls r F' S')->((nd=true->aY S0 Ls S')/\bg P K' S0 Ls r F' S'):=fun F' S' h=>⟨h.1,jH hK r h.2⟩;have hs:=fun F S=>mA (P:=P) (o:=o) (fun v F S=>hK (some v) F S) hx (F:=F) (S:=S);simp only [bg] at h ⊢;unfold bA at h ⊢;split at h
  ·exact ⟨h.1,hs _ _ h.2⟩
  ·split at h
   ·exact ⟨fun e=>⟨(h.1 e).1,hs _ _ (h.1 e).2⟩,fun e=>hx _ _ (h.2 e)⟩
   ·exact hx _ _ h
   ·exact h.elim
 | .two o1 n1 r1 o2 n2 r2,F,S,h=>by
  have key:∀ (o:aX) (nd:Bool) (r:bC),(∀ F S,bg P K S0 Ls r F S->bg P K' S0 Ls r F S)->bA o (bl P o K fun F' S'=>(nd=true->aY S0 Ls S')/\bg P K S0 Ls r F' S') (fun F' S'=>(nd=true->aY S0 Ls S')/\bg P K S0 Ls r F' S') F S->
    bA o (bl P o K' fun F' S'=>(nd=true->aY S0 Ls S')/\bg P K' S0 Ls r F' S') (fun F' S'=>(nd=true->aY S0 Ls S')/\bg P K' S0 Ls r F' S') F S:=by
   intro o nd r ih h;have hx:∀ F' S',((nd=true->aY S0 Ls S')/\bg P K S0 Ls r F' S')->((nd=true->aY S0 Ls S')/\bg P K' S0 Ls r F' S'):=fun F' S' h=>⟨h.1,ih _ _ h.2⟩;have hs:=fun F S=>mA (P:=P) (o:=o) (fun v F S=>hK (some v) F S) hx (F:=F) (S:=S);unfold bA at h ⊢;split at h
   ·exact hs _ _ h
   ·split at h
    ·exact ⟨fun e=>hs _ _ (h.1 e),fun e=>hx _ _ (h.2 e)⟩
    ·exact hx _ _ h
    ·exact h.elim
  exact ⟨key o1 n1 r1 (fun F S=>jH hK r1) h.1,key o2 n2 r2 (fun F S=>jH hK r2) h.2⟩
 | .iB o1 n1 r1 o2 n2 r2 o3 n3 r3,F,S,h=>by
  have key:∀ (o:aX) (nd:Bool) (r:bC),(∀ F S,bg P K S0 Ls r F S->bg P K' S0 Ls r F S)->bA o (bl P o K fun F' S'=>(nd=true->aY S0 Ls S')/\bg P K S0 Ls r F' S') (fun F' S'=>(nd=true->aY S0 Ls S')/\bg P K S0 Ls r F' S') F S->
    bA o (bl P o K' fun F' S'=>(nd=true->aY S0 Ls S')/\bg P K' S0 Ls r F' S') (fun F' S'=>(nd=true->aY S0 Ls S')/\bg P K' S0 Ls r F' S') F S:=by
   intro o nd r ih h;have hx:∀ F' S',((nd=true->aY S0 Ls S')/\bg P K S0 Ls r F' S')->((nd=true->aY S0 Ls S')/\bg P K' S0 Ls r F' S'):=fun F' S' h=>⟨h.1,ih _ _ h.2⟩;have hs:=fun F S=>mA (P:=P) (o:=o) (fun v F S=>hK (some v) F S) hx (F:=F) (S:=S);unfold bA at h ⊢;split at h
   ·exact hs _ _ h
   ·split at h
    ·exact ⟨fun e=>hs _ _ (h.1 e),fun e=>hx _ _ (h.2 e)⟩
    ·exact hx _ _ h
    ·exact h.elim
  exact ⟨key o1 n1 r1 (fun F S=>jH hK r1) h.1,key o2 n2 r2 (fun F S=>jH hK r2) h.2.1,key o3 n3 r3 (fun F S=>jH hK r3) h.2.2⟩
def ab {P:Program} {n:Nat} {Q:er}:∀ (fu:Nat) {k:List MI} {D:ep} {F:Fr} {S:St},mw P n Q fu k D F S->af P n k D F S Q
 |0,_,_,_,_,h=>h
 |fu+1,k,D,F,S,h=>by
  simp only [mw] at h;split at h
  ·exact .done h
  ·exact .inBlock (ab fu h)
  ·exact h
  ·exact h
  ·split at h
   ·exact .skip (ab fu h)
   ·exact .seq (ab fu h)
   ·exact .block (ab fu h)
   ·split at h
    ·exact .exit ‹_› (ab fu h)
    ·exact h.elim
   ·exact .ret h
   ·exact h
   ·exact .named h
   ·split at h
    ·exact .cond ‹_› (fun e=>ab fu (h.1 e)) (fun e=>ab fu (h.2 e))
    ·exact h.elim
   ·refine .iF (Fx (fun o F' S' hk=>?_) _ h)
    cases o with
    |none=>exact ab fu hk
    |some v=>exact hk
   ·refine .any h.1 (jH (fun o F' S' hk=>?_) _ h.2)
    cases o with
    |none=>exact ab fu hk
    |some v=>exact hk
   ·exact h.elim
   ·exact h
def exK (P:Program) (n:Nat) (Q:er) (fu:Nat) (D:ep) (F:Fr) (S:St):Option (List MI)->Prop
 |some k'=>mw P n Q fu k' D F S
 |none=>False
def DT (P:Program) (n:Nat) (Q:er) (fu:Nat) (a b:MC) (k:List MI) (D:ep) (F:Fr) (S:St):AV->Prop
 | .bool t=>(t=true->mw P n Q fu (.code a::k) D F S)/\(t=false->mw P n Q fu (.code b::k) D F S)
 |_=>False
section eqs
variable {P:Program} {n:Nat} {Q:er} {fu:Nat} {k:List MI} {D:ep} {F:Fr} {S:St}
def V2:mw P n Q (fu+1) [] D F S=Q none D F S:=rfl
def OT (l:Nat):mw P n Q (fu+1) (.begin l::k) D F S=af P n (.begin l::k) D F S Q:=rfl
def Y6 (g:aj) (ps:List Nat) (a b:MC):mw P n Q (fu+1) (.code (.yg g ps a b)::k) D F S=af P n (.code (.yg g ps a b)::k) D F S Q:=rfl
def JI (i:Nat):mw P n Q (fu+1) (.inBlock i::k) D F S=mw P n Q fu k D F S:=rfl
def KJ (x:MC):mw P n Q (fu+1) (.inLoop x::k) D F S=af P n (.inLoop x::k) D F S Q:=rfl
def UI:mw P n Q (fu+1) (.code .skip::k) D F S=mw P n Q fu k D F S:=rfl
def Z0 (a b:MC):mw P n Q (fu+1) (.code (.seq a b)::k) D F S=mw P n Q fu (.code a:: .code b::k) D F S:=rfl
def O0 (i:Nat) (a:MC):mw P n Q (fu+1) (.code (.block i a)::k) D F S=mw P n Q fu (.code a:: .inBlock i::k) D F S:=rfl
def Ry (i:Nat):mw P n Q (fu+1) (.code (.exit i)::k) D F S=exK P n Q fu D F S (fC i k):=rfl
def Ph:exK P n Q fu D F S (some k)=mw P n Q fu k D F S:=rfl
def Xq:mw P n Q (fu+1) (.code .ret::k) D F S=Q none D F S:=rfl
def SQ (x:MC):mw P n Q (fu+1) (.code (.loop x)::k) D F S=af P n (.code (.loop x)::k) D F S Q:=rfl
def Pm (kp:List Nat) (x:MC):mw P n Q (fu+1) (.code (.named kp x)::k) D F S=af P n (.code x::k) D (cu kp F) S Q:=rfl
def Tk (c:aj) (a b:MC):mw P n Q (fu+1) (.code (.cond c a b)::k) D F S=DT P n Q fu a b k D F S (c.ev F):=by simp only [mw,DT]
def NK (a b:MC) (t:Bool):DT P n Q fu a b k D F S (.bool t)=((t=true->mw P n Q fu (.code a::k) D F S)/\(t=false->mw P n Q fu (.code b::k) D F S)):=rfl
def OL (a b:MC):DT P n Q fu a b k D F S (.bool true)=mw P n Q fu (.code a::k) D F S:=by simp [DT]
def Kz (a b:MC):DT P n Q fu a b k D F S (.bool false)=mw P n Q fu (.code b::k) D F S:=by simp [DT]
def Zl (l:List aX) (kp:List Nat):mw P n Q (fu+1) (.code (.iF l kp)::k) D F S=cB P l (KW P n Q fu k kp D) F S:=rfl
def Wa (pl:bC) (pr kp:List Nat):mw P n Q (fu+1) (.code (.any pl pr kp)::k) D F S=(Dz Q pl.yH/\bg P (KW P n Q fu k kp D) S (ft F pr) pl F S):=rfl
def Q3 (kp:List Nat):KW P n Q fu k kp D none F S=mw P n Q fu k D (cu kp F) S:=rfl
def UZ (kp:List Nat) (v:AV):KW P n Q fu k kp D (some v) F S=Q (some v) D F S:=rfl
def rV (i j:Nat):fC i (.inBlock j::k)=if j=i then some k else fC i k:=rfl
def IC (i:Nat) (c:MC):fC i (.code c::k)=fC i k:=rfl
def sS (i:Nat) (c:MC):fC i (.inLoop c::k)=fC i k:=rfl
end eqs
def aS (P:Program) (f:FuncId) (as:List AV) (d:Option Nat) (l:List aX) (K:Option AV->Fr->St->Prop) (F:Fr) (S:St):Prop:=
 ao P f as S (fun out S'=>match out with
  | .ok r=>cB P l K (aT d r F) S'
  | .eF v=>K (some v) F S')
def xZ (P:Program) (y:Nat) (as:List AV) (d:Option Nat) (l:List aX) (K:Option AV->Fr->St->Prop) (F:Fr) (S:St):Prop:=
 lI P y as S (fun out S'=>match out with
  | .ok r=>cB P l K (aT d r F) S'
  | .eF v=>K (some v) F S')
def mu (P:Program) (m:MT) (d:Option Nat) (l:List aX) (K:Option AV->Fr->St->Prop) (F:Fr) (S:St):Prop:=pO m (fun r S'=>cB P l K (aT d r F) S') F S
def evK (P:Program) (l:List aX) (d:Option Nat) (K:Option AV->Fr->St->Prop) (F:Fr):Option (AV×St)->Prop
 |some (r,S')=>cB P l K (aT d r F) S'
 |none=>False
def pnK (K:Option AV->Fr->St->Prop) (F:Fr) (S:St):AV->Prop
 | .cH t v=>K (some (.cH t v)) F S
 |_=>False
def clK (P:Program) (as:List aj) (d:Option Nat) (l:List aX) (K:Option AV->Fr->St->Prop) (F:Fr) (S:St):AV->Prop
 | .fn (.func f) first caps=>aS P f (first++as.map (aj.ev F)++caps) d l K F S
 | .fn (.yield y) [] []=>xZ P y (as.map (aj.ev F)) d l K F S
 |_=>False
def se (P:Program) (ix:Nat) (d:Option Nat) (op:MX) (t:Nat) (b:Bool) (l:List aX) (K:Option AV->Fr->St->Prop) (F:Fr) (S:St):AV->Prop
 | .bool c=>(c=b->cB P (⟨ix,d,none,op⟩::l) K ((t,.bool b)::F) S)/\(c= !b->cB P l K (aT d (.aF []) ((t,.bool (!b))::F)) S)
 | .aF []=>cB P l K (aT d (.aF []) F) S
 |_=>False
section eqs2
variable {P:Program} {K:Option AV->Fr->St->Prop} {F:Fr} {S:St} {l:List aX} {ix:Nat} {d:Option Nat}
def UY:cB P [] K F S=K none F S:=rfl
def abv (m:MK):cB P (⟨ix,d,none,.k m⟩::l) K F S=(m.ob F S/\evK P l d K F (m.ev F S)):=by
 show (m.ob F S/\_)=_
 congr 1
def Pq (r:AV) (S':St):evK P l d K F (some (r,S'))=cB P l K (aT d r F) S':=rfl
def KT (x:aj):cB P (⟨ix,d,none,.panic x⟩::l) K F S=pnK K F S (x.ev F):=rfl
def abl (m:MT):cB P (⟨ix,d,none,.it m⟩::l) K F S=mu P m d l K F S:=rfl
def mu.Dp {x:aj} {k bm clock:Nat} {es:Array MapEntry} (hx:x.ev F= .mp k) (hk:S.get k=some [.aL bm (.map es clock) [] []]) (h:∀ ri,cB P l K (aT d (.ptr S.n 0) F) {S with n:=S.n+1,obj:=(S.n,[.aL ri (.mapIter (some bm) clock #[] clock) [] []])::S.obj}):mu P (.Dp x) d l K F S:=by
 unfold mu pO;simp only [MT.x,hx];exact ⟨bm,es,clock,hk,h⟩
def mu.Ey {x:aj} {i ri bm since c0 k clock:Nat} {seen:Array Nat} {es:Array MapEntry} (hx:x.ev F= .ptr i 0) (hi:S.get i=some [.aL ri (.mapIter (some bm) since seen c0) [] []]) (hk:S.get k=some [.aL bm (.map es clock) [] []]) (h1:∀ e∈es.toList,e.born<since) (h2:since<=c0)
  (h3:(leftOf es seen).size=0->cB P l K (aT d (.aF [.bool false]) F) S) (h4:∀ e∈(leftOf es seen).toList,cB P l K (aT d (.aF [.bool true,.dd,.dd]) F) (S.cK i [.aL ri (.mapIter (some bm) since (seen.push e.born) clock) [] []])):mu P (.Ey x) d l K F S:=by
 unfold mu pO;simp only [MT.x,hx];exact ⟨ri,bm,since,seen,c0,k,es,clock,hi,hk,h1,h2,h3,h4⟩
def mu.lO {x:aj} {i ri bm since c0 k:Nat} {seen:Array Nat} {es:Array MapEntry} {e:MapEntry} {kk vv:AV} (hx:x.ev F= .ptr i 0) (hi:S.get i=some [.aL ri (.mapIter (some bm) since (seen.push e.born) c0) [] []]) (hk:S.get k=some [.aL bm (.map es c0) [] []]) (he:e∈es.toList) (hn:(es.toList.map (·.born)).Nodup)
  (h1:∀ G,ah G kk e.key) (h2:∀ G,ah G vv e.val) (h:cB P l K (aT d (.aF [kk,vv]) F) S):mu P (.lO x) d l K F S:=by
 unfold mu pO;simp only [MT.x,hx];exact ⟨ri,bm,since,seen,c0,k,es,e,kk,vv,hi,hk,he,hn,h1,h2,h⟩
def mu.vZ {x:aj} {k:Nat} {ks vs:List AV} (hx:x.ev F= .mp k) (hk:S.get k=some [.eV ks vs]) (h:cB P l K (aT d (.int .i64 (ks.length:Nat)) F) S):mu P (.vZ x) d l K F S:=by
 unfold mu pO;simp only [MT.x,hx];exact ⟨ks,vs,hk,h⟩
def mu.Ek {x:aj} {bytes:Nat} {z:AV} {q:IntKind} {n:Nat} (hx:x.ev F= .int q (n:Int)) (hb:bytes*n<=281474976710656) (h63:n<=9223372036854775807) (h:cB P l K (aT d (.bZ 1 0 S.n 0 n) F) {S with n:=S.n+1,obj:=(S.n,List.replicate n z)::S.obj}):mu P (.Ek bytes z x) d l K F S:=by
 unfold mu pO;simp only [MT.x,hx];exact ⟨by omega,by rw [<-Int.natCast_mul];omega,by omega,h⟩
def U7 (t:TypeId) (v:AV):pnK K F S (.cH t v)=K (some (.cH t v)) F S:=rfl
def Nw (c:aj) (as:List aj):cB P (⟨ix,d,none,.call c as⟩::l) K F S=clK P as d l K F S (c.ev F):=rfl
def X2 (f:FuncId) (first caps:List AV) (as:List aj):clK P as d l K F S (.fn (.func f) first caps)=aS P f (first++as.map (aj.ev F)++caps) d l K F S:=rfl
def R2 (y:Nat) (as:List aj):clK P as d l K F S (.fn (.yield y) [] [])=xZ P y (as.map (aj.ev F)) d l K F S:=rfl
def Lz (t:Nat) (b:Bool) (op:MX):cB P (⟨ix,d,some (t,b),op⟩::l) K F S=se P ix d op t b l K F S (F.get t):=by cases op<;>rfl
def Ns (t:Nat) (b c:Bool) (op:MX):se P ix d op t b l K F S (.bool c)=((c=b->cB P (⟨ix,d,none,op⟩::l) K ((t,.bool b)::F) S)/\(c= !b->cB P l K (aT d (.aF []) ((t,.bool (!b))::F)) S)):=rfl
def FL (t:Nat) (b:Bool) (op:MX):se P ix d op t b l K F S (.bool b)=cB P (⟨ix,d,none,op⟩::l) K ((t,.bool b)::F) S:=by simp [se]
def XI (t:Nat) (op:MX):se P ix d op t true l K F S (.bool true)=cB P (⟨ix,d,none,op⟩::l) K ((t,.bool true)::F) S:=FL t true op
def Yn (t:Nat) (op:MX):se P ix d op t false l K F S (.bool false)=cB P (⟨ix,d,none,op⟩::l) K ((t,.bool false)::F) S:=FL t false op
def WT (t:Nat) (op:MX):se P ix d op t true l K F S (.bool false)=cB P l K (aT d (.aF []) ((t,.bool false)::F)) S:=by simp [se]
def aa5 (t:Nat) (op:MX):se P ix d op t false l K F S (.bool true)=cB P l K (aT d (.aF []) ((t,.bool true)::F)) S:=by simp [se]
def UT (t:Nat) (b:Bool) (op:MX):se P ix d op t b l K F S (.aF [])=cB P l K (aT d (.aF []) F) S:=rfl
def Ka (t:Nat) (v:AV):aT (some t) v F=(t,v)::F:=rfl
def LV (v:AV):aT none v F=F:=rfl
def gS (t u:Nat) (v:AV) (F:Fr):List.lookup t ((u,v)::F)=if t=u then some v else List.lookup t F:=by
 rw [List.lookup_cons]
 by_cases h:t=u
 ·subst h;simp
 ·have:(t==u)=false:=by simpa using h
  simp [this,h]
def eT (l m n nt:Nat) (cs:List AV) (ob:List (Nat×List AV)) (live:List Nat) (gl:List (Nat×List AV)):St.get ⟨n,(m,cs)::ob,nt,live,gl⟩ l=if l=m then some cs else St.get ⟨n,ob,nt,live,gl⟩ l:=by
 simp only [St.get,List.lookup_cons]
 by_cases h:l=m
 ·subst h;simp
 ·have:(l==m)=false:=by simpa using h
  simp [this,h]
def aba (l n nt:Nat) (cs:List AV) (ob:List (Nat×List AV)) (live:List Nat) (gl:List (Nat×List AV)):St.set ⟨n,ob,nt,live,gl⟩ l cs=⟨n,(l,cs)::ob,nt,live,gl⟩:=rfl
end eqs2
def bE (P:Program) (f:FuncId) (as:List AV) (d:Option Nat) (nd:Bool) (r:bC) (K:Option AV->Fr->St->Prop) (S0:St) (Ls:List Nat) (F:Fr) (S:St):Prop:=
 ao P f as S (fun out S'=>match out with
  | .ok v=>(nd=true->aY S0 Ls S')/\bg P K S0 Ls r (aT d v F) S'
  | .eF v=>K (some v) F S')
def tN (P:Program) (y:Nat) (as:List AV) (d:Option Nat) (nd:Bool) (r:bC) (K:Option AV->Fr->St->Prop) (S0:St) (Ls:List Nat) (F:Fr) (S:St):Prop:=
 lI P y as S (fun out S'=>match out with
  | .ok v=>(nd=true->aY S0 Ls S')/\bg P K S0 Ls r (aT d v F) S'
  | .eF v=>K (some v) F S')
def aat (P:Program) (d:Option Nat) (nd:Bool) (r:bC) (K:Option AV->Fr->St->Prop) (S0:St) (Ls:List Nat) (F:Fr):Option (AV×St)->Prop
 |some (v,S')=>(nd=true->aY S0 Ls S')/\bg P K S0 Ls r (aT d v F) S'
 |none=>False
def Of (P:Program) (as:List aj) (d:Option Nat) (nd:Bool) (r:bC) (K:Option AV->Fr->St->Prop) (S0:St) (Ls:List Nat) (F:Fr) (S:St):AV->Prop
 | .fn (.func f) first caps=>bE P f (first++as.map (aj.ev F)++caps) d nd r K S0 Ls F S
 | .fn (.yield y) [] []=>tN P y (as.map (aj.ev F)) d nd r K S0 Ls F S
 |_=>False
def nK (P:Program) (ix:Nat) (d:Option Nat) (op:MX) (t:Nat) (b lo nd:Bool) (r:bC) (K:Option AV->Fr->St->Prop) (S0:St) (Ls:List Nat) (F:Fr) (S:St):AV->Prop
 | .bool c=>(c=b->bg P K S0 Ls (.one ⟨ix,d,none,op⟩ lo nd r) ((t,.bool b)::F) S)/\(c= !b->(nd=true->aY S0 Ls S)/\bg P K S0 Ls r (aT d (.aF []) ((t,.bool (!b))::F)) S)
 | .aF []=>(nd=true->aY S0 Ls S)/\bg P K S0 Ls r (aT d (.aF []) F) S
 |_=>False
section eqs3
variable {P:Program} {K:Option AV->Fr->St->Prop} {F:Fr} {S S0:St} {Ls:List Nat} {ix:Nat} {d:Option Nat} {lo nd:Bool} {r:bC}
def ND:bg P K S0 Ls .done F S=K none F S:=rfl
def ady (m:MK):bg P K S0 Ls (.one ⟨ix,d,none,.k m⟩ lo nd r) F S=((lo=true->iy Ls ⟨ix,d,none,.k m⟩ F/\aY S0 Ls S)/\m.ob F S/\aat P d nd r K S0 Ls F (m.ev F S)):=by
 show (_/\m.ob F S/\_)=_
 congr 1
def Lo (v:AV) (S':St):aat P d nd r K S0 Ls F (some (v,S'))=((nd=true->aY S0 Ls S')/\bg P K S0 Ls r (aT d v F) S'):=rfl
def Nu (c:aj) (as:List aj):bg P K S0 Ls (.one ⟨ix,d,none,.call c as⟩ lo nd r) F S=((lo=true->iy Ls ⟨ix,d,none,.call c as⟩ F/\aY S0 Ls S)/\Of P as d nd r K S0 Ls F S (c.ev F)):=rfl
def TA (f:FuncId) (first caps:List AV) (as:List aj):Of P as d nd r K S0 Ls F S (.fn (.func f) first caps)=bE P f (first++as.map (aj.ev F)++caps) d nd r K S0 Ls F S:=rfl
def Ni (y:Nat) (as:List aj):Of P as d nd r K S0 Ls F S (.fn (.yield y) [] [])=tN P y (as.map (aj.ev F)) d nd r K S0 Ls F S:=rfl
def J3 (t:Nat) (b:Bool) (op:MX):bg P K S0 Ls (.one ⟨ix,d,some (t,b),op⟩ lo nd r) F S=nK P ix d op t b lo nd r K S0 Ls F S (F.get t):=by cases op<;>rfl
def Lm (t:Nat) (b c:Bool) (op:MX):nK P ix d op t b lo nd r K S0 Ls F S (.bool c)=((c=b->bg P K S0 Ls (.one ⟨ix,d,none,op⟩ lo nd r) ((t,.bool b)::F) S)/\(c= !b->(nd=true->aY S0 Ls S)/\bg P K S0 Ls r (aT d (.aF []) ((t,.bool (!b))::F)) S)):=rfl
def Us (t:Nat) (op:MX):nK P ix d op t true lo nd r K S0 Ls F S (.bool true)=bg P K S0 Ls (.one ⟨ix,d,none,op⟩ lo nd r) ((t,.bool true)::F) S:=by simp [nK]
def Rq (t:Nat) (op:MX):nK P ix d op t false lo nd r K S0 Ls F S (.bool false)=bg P K S0 Ls (.one ⟨ix,d,none,op⟩ lo nd r) ((t,.bool false)::F) S:=by simp [nK]
def SD (t:Nat) (op:MX):nK P ix d op t true lo nd r K S0 Ls F S (.bool false)=((nd=true->aY S0 Ls S)/\bg P K S0 Ls r (aT d (.aF []) ((t,.bool false)::F)) S):=by simp [nK]
def Ri (t:Nat) (op:MX):nK P ix d op t false lo nd r K S0 Ls F S (.bool true)=((nd=true->aY S0 Ls S)/\bg P K S0 Ls r (aT d (.aF []) ((t,.bool true)::F)) S):=by simp [nK]
def NW (t:Nat) (b:Bool) (op:MX):nK P ix d op t b lo nd r K S0 Ls F S (.aF [])=((nd=true->aY S0 Ls S)/\bg P K S0 Ls r (aT d (.aF []) F) S):=rfl
def QX (o1:aX) (n1:Bool) (r1:bC) (o2:aX) (n2:Bool) (r2:bC):bg P K S0 Ls (.two o1 n1 r1 o2 n2 r2) F S=(bg P K S0 Ls (.one o1 false n1 r1) F S/\bg P K S0 Ls (.one o2 false n2 r2) F S):=by
 have key:∀ (o:aX) (nd:Bool) (r:bC),bg P K S0 Ls (.one o false nd r) F S=bA o (bl P o K fun F' S'=>(nd=true->aY S0 Ls S')/\bg P K S0 Ls r F' S') (fun F' S'=>(nd=true->aY S0 Ls S')/\bg P K S0 Ls r F' S') F S:=by
  intro o nd r;simp only [bg,Ah,false_implies,true_and]
 rw [key,key];rfl
def Tg (o1:aX) (n1:Bool) (r1:bC) (o2:aX) (n2:Bool) (r2:bC) (o3:aX) (n3:Bool) (r3:bC):bg P K S0 Ls (.iB o1 n1 r1 o2 n2 r2 o3 n3 r3) F S=(bg P K S0 Ls (.one o1 false n1 r1) F S/\bg P K S0 Ls (.one o2 false n2 r2) F S/\bg P K S0 Ls (.one o3 false n3 r3) F S):=by
 have key:∀ (o:aX) (nd:Bool) (r:bC),bg P K S0 Ls (.one o false nd r) F S=bA o (bl P o K fun F' S'=>(nd=true->aY S0 Ls S')/\bg P K S0 Ls r F' S') (fun F' S'=>(nd=true->aY S0 Ls S')/\bg P K S0 Ls r F' S') F S:=by
  intro o nd r;simp only [bg,Ah,false_implies,true_and]
 rw [key,key,key];rfl
def Mn (n:Nat) (ag:Bool) (p:aj) (F:Fr):iy Ls ⟨ix,d,none,.k (.load n ag p)⟩ F=(match p.ev F with
  | .ptr l _=>l∈Ls
  |_=>True):=rfl
def bj:aY S Ls S=True:=eq_true ⟨rfl,fun _ _=>rfl⟩
def cR:aY S0 [] S=(S.gl=S0.gl):=by simp [aY]
def cy (l:Nat):aY S0 (l::Ls) S=(S.get l=S0.get l/\aY S0 Ls S):=by
 simp only [aY,List.forall_mem_cons,eq_iff_iff];exact ⟨fun h=>⟨h.2.1,h.1,h.2.2⟩,fun h=>⟨h.2.1,h.1,h.2.2⟩⟩
def xP:ft F []=[]:=rfl
def oX (t:Nat) (ts:List Nat):ft F (t::ts)=(match F.get t with
  | .ptr l _=>l::ft F ts
  | .aM _ _ l _=>l::ft F ts
  |_=>ft F ts):=rfl
def aN (rs:List RV) (K:Out->St->Prop) (ds:List Nat):Dz (bI rs K) ds=True:=eq_true fun v D F F' S _ h=>h
end eqs3
def bE.of {P:Program} {f:FuncId} {as:List AV} {d:Option Nat} {nd:Bool} {r:bC} {K:Option AV->Fr->St->Prop} {S0:St} {Ls:List Nat} {F:Fr} {S:St} {R:Out->St->Prop} (h:ao P f as S R)
  (hk:∀ v S',R (.ok v) S'->(nd=true->aY S0 Ls S')/\bg P K S0 Ls r (aT d v F) S') (hp:∀ v S',R (.eF v) S'->K (some v) F S'):bE P f as d nd r K S0 Ls F S:=
 h.mono fun o S' hr=>by
  cases o with
  |ok r=>exact hk r S' hr
  |eF v=>exact hp v S' hr
def tN.of {P:Program} {y:Nat} {as:List AV} {d:Option Nat} {nd:Bool} {r:bC} {K:Option AV->Fr->St->Prop} {S0:St} {Ls:List Nat} {F:Fr} {S:St} {R:Out->St->Prop} (h:lI P y as S R)
  (hk:∀ o S',R o S'->∃ v,o= .ok v/\(nd=true->aY S0 Ls S')/\bg P K S0 Ls r (aT d v F) S'):tN P y as d nd r K S0 Ls F S:=
 h.mono fun o S' hr=>by
  obtain ⟨v,rfl,h⟩:=hk o S' hr;exact h
def xZ.of {P:Program} {y:Nat} {as:List AV} {d:Option Nat} {l:List aX} {K:Option AV->Fr->St->Prop} {F:Fr} {S:St} {R:Out->St->Prop} (h:lI P y as S R)
  (hk:∀ o S',R o S'->∃ v,o= .ok v/\cB P l K (aT d v F) S'):xZ P y as d l K F S:=
 h.mono fun o S' hr=>by
  obtain ⟨v,rfl,h⟩:=hk o S' hr;exact h
def aS.of {P:Program} {f:FuncId} {as:List AV} {d:Option Nat} {l:List aX} {K:Option AV->Fr->St->Prop} {F:Fr} {S:St} {R:Out->St->Prop} (h:ao P f as S R) (hk:∀ r S',R (.ok r) S'->cB P l K (aT d r F) S')
  (hp:∀ v S',R (.eF v) S'->K (some v) F S'):aS P f as d l K F S:=
 h.mono fun o S' hr=>by
  cases o with
  |ok r=>exact hk r S' hr
  |eF v=>exact hp v S' hr
def St.own (S:St):St:={S with nt:=S.nt+1,live:=S.nt::S.live}
def ao.RM {P:Program} {f:FuncId} {as:List AV} {S:St} {k:Nat} {ys:List AV} (h:ao P f as (.none S.gl) fun o S'=>∃ t,o= .ok (.sl k ys (.tok t))/\t∈S'.live) (ha:∀ a∈as,al a) (hg:∀ g cs,S.gl.lookup g=some cs->∀ c∈cs,al c)
  (hys:∀ x∈ys,∀ c∈x.cells,al c):ao P f as S fun o S'=>o= .ok (.sl k ys (.tok S.nt))/\S'=S.own:=by
 intro wb G w vs hS hv;have hst:=hS.start hg;have hv0:cZ ⟨G.φ,fun _=>Option.none,fun _=>Option.none,w.heap.size,G.κ⟩ as vs:=⟨hv.len,fun m c v e1 e2=>ha c (Aj e1) G _ v (fun _ _ _ e=>e) (hv.rel m c v e1 e2)⟩;refine (h _ _ w vs hst hv0).mono fun e w' ⟨G',S',h1,h2,h3⟩=>?_;have hφ:∀ r o v,G.φ r o=some v->G'.φ r o=some v:=fun r o v e=>h1.φ r o v e;have hfr:=hS.frame h2 hφ
 have hnone:G.τ S.nt=none:=by
  cases e':G.τ S.nt with
  |none=>rfl
  |some x=>have:=(hS.bQ _ _ e').1;omega
 cases e with
 |panicked ch=>obtain ⟨v,av,_,_,t,h6,_⟩:=h3;cases h6
 |outgrown=>exact h3.elim
 |returned v=>
  obtain ⟨r,h4,t,h5,ht⟩:=h3;injection h5 with h5
  subst h5;obtain ⟨r,e,z,hτ,hreg⟩:=h2.tok t ht
  let G2:Gh:=⟨G'.φ,G.σ,eA G.τ S.nt (some (r,e,z)),G.β,G.κ⟩
  have hle2:(⟨G'.φ,G.σ,G.τ,G.β,G.κ⟩:Gh).le G2:=⟨fun _ _ _ e=>e,fun _ _ e=>e,fun t' x e'=>by
   have:t'≠S.nt:=fun e2=>by subst e2;simp only at e';rw [hnone] at e';cases e'
   simp [G2,eA,this];exact e',rfl,fun _ _ _=>rfl⟩
  have hG2:∀ t',t'≠S.nt->G2.τ t'=G.τ t':=fun t' hne=>by simp [G2,eA,hne]
  have hblk:e<z->w.heap.size<=r:=fun hez=>(hreg e (Af _) hez).1;refine ⟨G2,S.own,⟨hφ,fun _ _ e=>e,fun t' x e'=>hle2.τ _ _ e',rfl,fun _ _ _=>rfl⟩,?_,_,?_,rfl,rfl⟩
  ·refine {prom:=hfr.prom,room:=hfr.room,apart:=hfr.apart,obj:=?_,inj:=hfr.inj,bS:=hfr.bS,tok:=?_,bQ:=?_,cN:=?_,base:=hfr.base,cF:=hfr.cF,still:=hfr.still,beta:=hfr.beta,cC:=?_,bu:=?_,dz:=hfr.dz};rotate_right
   ·intro l s hl hsp0;obtain ⟨rb,hrb,hbb⟩:=hS.bu l s hl hsp0;refine ⟨rb,hrb,hbb.to ⟨hφ,fun _ _ e=>e,fun t' x e'=>hle2.τ _ _ e',rfl,fun _ _ _=>rfl⟩ (fun hlt=>h2.base.2 rb hlt) fun g hg _ _ hal=>⟨h2.base.2 g hg,fun o=>?_,hal.2.1,fun t' hm' e' z' et=>?_⟩⟩
    ·cases e2:G'.φ g o with
     |none=>first|rfl|exact e2
     |some v=>have:=h2.cF g o v hg e2;simp only at this;rw [hal.1 o] at this;cases this
    ·by_cases hts:t'=S.nt
     ·subst hts;simp [G2] at et;obtain ⟨e1,e2,e3⟩:=et;subst e1 e2 e3;rcases Al e z with hez|hez
      ·have:=hblk hez;omega
      ·exact hez
     ·rw [hG2 t' hts] at et;have hm2:t'∈S.live:=by rcases Ab.1 hm' with e1|e1;exact absurd e1 hts;exact e1
      exact hal.2.2 t' hm2 e' z' et
   ·intro l cs hl hnb;obtain ⟨r',hr',hm⟩:=hfr.obj l cs hl hnb;exact ⟨r',hr',fun m c hmc=>by obtain ⟨v,a,b,c',d⟩:=hm m c hmc;exact ⟨v,a,b.mono hle2,c',d⟩⟩
   ·intro t' hm
    by_cases et:t'=S.nt
    ·subst et;refine ⟨r,e,z,by simp [G2],fun o q1 q2=>?_⟩;obtain ⟨q3,_,q5,q6,q7⟩:=hreg o q1 q2;refine ⟨by have:=hS.base.1;have:w.heap.size<=r:=q3;omega,fun l e'=>?_,q5,q6,q7⟩;have:=(hS.bS l r e').2.2;have:w.heap.size<=r:=q3;omega
    ·have hm':t'∈S.live:=by rcases Ab.1 hm with e1|e1;exact absurd e1 et;exact e1
     obtain ⟨r',a,z',q1,q2⟩:=hfr.tok t' hm';exact ⟨r',a,z',hle2.τ _ _ q1,q2⟩
   ·intro t' x e'
    by_cases et:t'=S.nt
    ·subst et;simp [G2] at e';subst e';refine ⟨by simp [St.own],fun hez=>?_⟩;have:=(h2.bQ t _ hτ).2 hez;exact this
    ·rw [hG2 t' et] at e';have:=hfr.bQ t' x e';exact ⟨by simp [St.own];omega,this.2⟩
   ·intro t1 m1 t2 m2 hne r1 a1 z1 a2 z2 e1 e2 o q1 q2 q3 q4
    by_cases et1:t1=S.nt<;>by_cases et2:t2=S.nt
    ·exact hne (et1.trans et2.symm)
    ·subst et1;simp [G2] at e1;obtain ⟨rfl,rfl,rfl⟩:=e1;rw [hG2 t2 et2] at e2;have h7:=(hS.bQ t2 _ e2).2 (by show a2<z2;omega);have h8:=hblk (by omega);simp only at h7;omega
    ·subst et2;simp [G2] at e2;obtain ⟨rfl,rfl,rfl⟩:=e2;rw [hG2 t1 et1] at e1;have h7:=(hS.bQ t1 _ e1).2 (by show a1<z1;omega);have h8:=hblk (by omega);simp only at h7;omega
    ·have m1':t1∈S.live:=by rcases Ab.1 m1 with e3|e3;exact absurd e3 et1;exact e3
     have m2':t2∈S.live:=by rcases Ab.1 m2 with e3|e3;exact absurd e3 et2;exact e3
     rw [hG2 t1 et1] at e1;rw [hG2 t2 et2] at e2;exact hS.cN t1 m1' t2 m2' hne r1 a1 z1 a2 z2 e1 e2 o q1 q2 q3 q4
   ·intro g cs hgl m c hmc;obtain ⟨v,a,b,d⟩:=hfr.cC g cs hgl m c hmc;exact ⟨v,a,b.mono hle2,d⟩
  ·have hu:=h4.ai;have hn:=(al.sl (t:= .ai) hys (.inl rfl)) G' G2 v (fun _ _ _ e=>e) hu
   cases h4 with
   |slnil=>exact .slnil _ _ _
   |sl f hk hp ho hv' hc htk=>
    cases hn with
    |slnil=>exact .slnil _ _ _
    |sl f' hk' hp' ho' hv2 hc' _=>
     refine .sl f' hk' hp' ho' hv2 hc' ?_;have e1:G'.τ t=some _:=htk;rw [hτ] at e1;injection e1 with e1
     show G2.τ S.nt=_;simp only [G2,cI];rw [<-e1]
abbrev oo (i d:Nat) (x:MK):aX:=⟨i,some d,none,.k x⟩
abbrev og (i d g:Nat) (b:Bool) (x:MK):aX:=⟨i,some d,some (g,b),.k x⟩
abbrev ld (i d n:Nat) (b:Bool) (t:Nat):aX:=⟨i,some d,none,.k (.load n b (.t t))⟩
abbrev fa (i d n t:Nat):aX:=⟨i,some d,none,.k (.rB n (.t t))⟩
abbrev bi (i d:Nat) (o:BinOp) (t u:Nat):aX:=⟨i,some d,none,.k (.bin o (.t t) (.t u))⟩
abbrev bc (i d:Nat) (o:BinOp) (t:Nat) (c:AV):aX:=⟨i,some d,none,.k (.bin o (.t t) (.c c))⟩
abbrev mc (i d:Nat) (c:AV):aX:=⟨i,some d,none,.k (.ou (.c c))⟩
abbrev gm (i d g:Nat) (b:Bool) (t:Nat):aX:=⟨i,some d,some (g,b),.k (.ou (.t t))⟩
abbrev mv (i d t:Nat):aX:=⟨i,some d,none,.k (.ou (.t t))⟩
abbrev oc (i d f:Nat) (l:List aj):aX:=⟨i,some d,none,.call (.f f) l⟩
abbrev on1 (o:aX) (r:bC):bC:= .one o false false r
end Go.V
namespace Go.V
open Go
mutual
def AV.fg:AV->AV
 | .sl k xs _=> .sl k (AV.bx xs) .ai
 | .agg cs=> .agg (AV.bx cs)
 | .aF vs=> .aF (AV.bx vs)
 | .cH t v=> .cH t v.fg
 |a=>a
def AV.bx:List AV->List AV
 |[]=>[]
 |x::xs=>x.fg::AV.bx xs
end
def di:∀ xs:List AV,AV.bx xs=xs.map AV.fg
 |[]=>rfl
 |x::xs=>by rw [AV.bx,List.map_cons,di xs]
def kL (x:AV):x.fg.cells=x.cells.map AV.fg:=by cases x<;>simp [AV.fg,AV.cells,di]
def HV (xs:List AV):flat (xs.map AV.fg)=(flat xs).map AV.fg:=by
 induction xs with
 |nil=>rfl
 |cons x xs ih=>simp [ih,kL]
def ah.fg {G:Gh} {a:AV} {v:Value} (h:ah G a v):ah G a.fg v:=by
 induction h with
 |dd v=>exact .dd v
 |bool b=>exact .bool b
 |int k n=>exact .int k n
 |str s=>exact .str s
 |cS=>exact .cS
 |ptr e=>exact .ptr e
 |gp g o=>exact .gp g o
 |eX f hk hp ho hv ih=>exact .eX f hk hp ho hv
 |slnil k t a=>exact .slnil k .ai a
 | @sl k xs t r b cap f hk hp ho hv hc ht ih=>
  have hx:AV.fg (.sl k xs t)= .sl k (xs.map AV.fg) .ai:=by simp [AV.fg,di]
  have hfl:∀ (m:Nat) (c:AV),(flat (xs.map AV.fg))[m]? =some c->∃ c',(flat xs)[m]? =some c'/\c=c'.fg:=fun m c e=>by
   rw [HV,Ap] at e;obtain ⟨c',h1,h2⟩:=Ag.1 e;exact ⟨c',h1,h2.symm⟩
  rw [hx]
  have:=ah.sl (G:=G) (k:=k) (xs:=xs.map AV.fg) (t:= .ai) (r:=r) (b:=b) (cap:=cap) f (fun x hx=>by
    obtain ⟨y,hy,rfl⟩:=Ai.1 hx
    rw [kL];simpa using hk y hy) (fun m c e=>by obtain ⟨c',h1,_⟩:=hfl m c e;exact hp m c' h1) (fun m c e=>by obtain ⟨c',h1,_⟩:=hfl m c e;exact ho m c' h1)
   (fun m c e=>by obtain ⟨c',h1,rfl⟩:=hfl m c e;exact ih m c' h1) (by simpa using hc) trivial
  simpa using this
 |aM k e hc hz=>exact .aM k e hc hz
 |bZ k e hc hz=>exact .bZ k e hc hz
 |mp e=>exact .mp e
 |gL=>exact .gL
 |fn f h1 h2 hv hw=>exact .fn f h1 h2 hv hw
 |fw=>exact .fw
 |cH t h ih=>exact .cH t ih
 |cV=>exact .cV
 |agg hl ho hv ih=>
  simp only [AV.fg,di];refine .agg (by simpa using hl) ho fun m c v e1 e2=>?_;rw [Ap] at e1;obtain ⟨c',h1,rfl⟩:=Ag.1 e1;exact ih m c' v h1 e2
 |aF hl hv ih=>
  simp only [AV.fg,di];refine .aF (by simpa using hl) fun m c v e1 e2=>?_;rw [Ap] at e1;obtain ⟨c',h1,rfl⟩:=Ag.1 e1;exact ih m c' v h1 e2
def cZ.fg {G:Gh} {as:List AV} {vs:List Value} (h:cZ G as vs):cZ G (as.map AV.fg) vs:=
 ⟨by simpa using h.len,fun m c v e1 e2=>by
  rw [Ap] at e1;obtain ⟨c',h1,rfl⟩:=Ag.1 e1
  exact (h.rel m c' v h1 e2).fg⟩
def AV.Le (a a':AV):Prop:=∀ G v,ah G a v->ah G a' v
def AV.Le.refl (a:AV):a.Le a:=fun _ _ h=>h
def AV.Le.fg (a:AV):a.Le a.fg:=fun _ _ h=>h.fg
def AV.Le.sl {k:Nat} {xs ys:List AV} (t:bD) (h:ys=xs.map AV.fg):(AV.sl k xs t).Le (.sl k ys t):=fun G v hv=>by
 subst h
 cases hv with
 |slnil=>exact .slnil _ _ _
 |sl f hk hp ho hv hc ht=>
  have hfl:∀ (m:Nat) (c:AV),(flat (xs.map AV.fg))[m]? =some c->∃ c',(flat xs)[m]? =some c'/\c=c'.fg:=fun m c e=>by
   rw [HV,Ap] at e;obtain ⟨c',h1,h2⟩:=Ag.1 e;exact ⟨c',h1,h2.symm⟩
  rename_i r b cap
  have:=ah.sl (G:=G) (k:=k) (xs:=xs.map AV.fg) (t:=t) (r:=r) (b:=b) (cap:=cap) f (fun x hx=>by
    obtain ⟨y,hy,rfl⟩:=Ai.1 hx
    rw [kL];simpa using hk y hy) (fun m c e=>by obtain ⟨c',h1,_⟩:=hfl m c e;exact hp m c' h1) (fun m c e=>by obtain ⟨c',h1,_⟩:=hfl m c e;exact ho m c' h1)
   (fun m c e=>by obtain ⟨c',h1,rfl⟩:=hfl m c e;exact (hv m c' h1).fg) (by simpa using hc) (by simpa using ht)
  simpa using this
def af.imp {P:Program} {n:Nat} {k:List MI} {D:ep} {F F':Fr} {S:St} {Q:er} (h:af P n k D F' S Q) (hF:∀ t v',F'.lookup t=some v'->∃ v,F.lookup t=some v/\v.Le v'):af P n k D F S Q:=by
 intro wb G w a b cs todo hb hf hR;refine h wb G w a b cs todo hb hf ⟨hR.st,⟨fun t v e=>?_⟩,hR.sz,hR.df⟩;obtain ⟨v0,h1,h2⟩:=hF t v e;exact ⟨(hR.fr.rel t v0 h1).1,h2 G _ (hR.fr.rel t v0 h1).2⟩
def ao.Dr {P:Program} {f:FuncId} {as:List AV} {S:St} {K:Out->St->Prop} (h:ao P f (as.map AV.fg) S K):ao P f as S K:=fun wb G w vs hS hv=>h wb G w vs hS hv.fg
def ao.oz {P:Program} {f:FuncId} {as:List AV} {S:St} {K K':Out->St->Prop} (h:ao P f as S K') (hk:∀ r S',K' (.ok r) S'->K (.ok r.fg) S') (hp:∀ r S',K' (.eF r) S'->K (.eF r.fg) S'):ao P f as S K:=by
 intro wb G w vs hS hv;refine (h wb G w vs hS hv).mono fun e w' ⟨G',S',h1,h2,h3⟩=>⟨G',S',h1,h2,?_⟩
 cases e with
 |returned v=>obtain ⟨r,h4,h5⟩:=h3;exact ⟨_,h4.fg,hk _ _ h5⟩
 |panicked ch=>obtain ⟨v,av,h4,h5,h6⟩:=h3;exact ⟨v,_,h4,h5.fg,hp _ _ h6⟩
 |outgrown=>exact h3
def ae (gl:List (Nat×List AV)):Prop:=∀ g cs,gl.lookup g=some cs->∀ c∈cs,al c
def Out.Dh:Out->Prop
 | .ok r=>al r
 | .eF r=>al r
def Oe (r:AV):Out.Dh (.ok r)=al r:=rfl
def Nc (r:AV):Out.Dh (.eF r)=al r:=rfl
structure Pure (P:Program) (gl:List (Nat×List AV)) (f:FuncId) (args:List AV) (o:Out):Prop where
 call:ao P f (args.map AV.fg) (.none gl) fun o' _=>o'=o
 na:∀ a∈args.map AV.fg,al a
 nr:o.Dh
structure kP (P:Program) (gl:List (Nat×List AV)) (f:FuncId) (args:List AV) (k:Nat) (ys:List AV):Prop where
 call:ao P f (args.map AV.fg) (.none gl) fun o S'=>∃ t,o= .ok (.sl k ys (.tok t))/\t∈S'.live
 na:∀ a∈args.map AV.fg,al a
 nr:∀ x∈ys,∀ c∈x.cells,al c
def Pure.conv {P:Program} {gl:List (Nat×List AV)} {f:FuncId} {as as':List AV} {o:Out} (h:Pure P gl f as o) (he:as'.map AV.fg=as.map AV.fg):Pure P gl f as' o:=⟨by rw [he];exact h.call,by rw [he];exact h.na,h.nr⟩
def kP.conv {P:Program} {gl:List (Nat×List AV)} {f:FuncId} {as as':List AV} {k:Nat} {ys:List AV} (h:kP P gl f as k ys) (he:as'.map AV.fg=as.map AV.fg):kP P gl f as' k ys:=⟨by rw [he];exact h.call,by rw [he];exact h.na,h.nr⟩
def Pure.at {P:Program} {gl:List (Nat×List AV)} {f:FuncId} {as:List AV} {o:Out} (h:Pure P gl f as o) {S:St} (hgl:S.gl=gl) (hg:ae gl):ao P f as S fun o' S'=>S'=S/\o'=o:=by
 subst hgl;refine ao.Dr (ao.lift (K:=fun o'=>o'=o) h.call h.na hg (fun r e=>?_) (fun r e=>?_))
 ·subst e;exact h.nr
 ·subst e;exact h.nr
def kP.at {P:Program} {gl:List (Nat×List AV)} {f:FuncId} {as:List AV} {k:Nat} {ys:List AV} (h:kP P gl f as k ys) {S:St} (hgl:S.gl=gl) (hg:ae gl):ao P f as S fun o S'=>o= .ok (.sl k ys (.tok S.nt))/\S'=S.own:=by
 subst hgl;exact ao.Dr (ao.RM h.call h.na hg h.nr)
def kP.pure {P:Program} {gl:List (Nat×List AV)} {f:FuncId} {as:List AV} {k:Nat} {ys:List AV} (h:kP P gl f as k ys) (hy:ys.map AV.fg=ys):Pure P gl f as (.ok (.sl k ys .ai)) where
 call:=h.call.oz (fun r S' ⟨t,e,_⟩=>by injection e with e;subst e;simp [AV.fg,di,hy]) (fun r S' ⟨t,e,_⟩=>by cases e)
 na:=h.na
 nr:= .sl h.nr (.inl rfl)
section use
variable {P:Program} {gl:List (Nat×List AV)} {f:FuncId} {as:List AV} {d:Option Nat} {l:List aX} {K:Option AV->Fr->St->Prop} {F:Fr} {S S0:St} {Ls:List Nat} {nd:Bool} {p:bC}
def aS.pure {r:AV} (h:Pure P gl f as (.ok r)) (hg:ae gl) (hgl:S.gl=gl) (k:cB P l K (aT d r F) S):aS P f as d l K F S:=aS.of (h.at hgl hg) (fun r' S' ⟨e1,e2⟩=>by subst e1;injection e2 with e2;subst e2;exact k) (fun v S' ⟨_,e2⟩=>by cases e2)
def aS.eF {r:AV} (h:Pure P gl f as (.eF r)) (hg:ae gl) (hgl:S.gl=gl) (k:K (some r) F S):aS P f as d l K F S:=aS.of (h.at hgl hg) (fun r' S' ⟨_,e2⟩=>by cases e2) (fun v S' ⟨e1,e2⟩=>by subst e1;injection e2 with e2;subst e2;exact k)
def aS.O7 {k:Nat} {ys:List AV} (h:kP P gl f as k ys) (hg:ae gl) (hgl:S.gl=gl) (hk:cB P l K (aT d (.sl k ys (.tok S.nt)) F) S.own):aS P f as d l K F S:=aS.of (h.at hgl hg) (fun r' S' ⟨e1,e2⟩=>by subst e2;injection e1 with e1;subst e1;exact hk) (fun v S' ⟨e1,_⟩=>by cases e1)
def bE.pure {r:AV} (h:Pure P gl f as (.ok r)) (hg:ae gl) (hgl:S.gl=gl) (hi:nd=true->aY S0 Ls S) (k:bg P K S0 Ls p (aT d r F) S):bE P f as d nd p K S0 Ls F S:=bE.of (h.at hgl hg) (fun r' S' ⟨e1,e2⟩=>by subst e1;injection e2 with e2;subst e2;exact ⟨hi,k⟩) (fun v S' ⟨_,e2⟩=>by cases e2)
def bE.eF {r:AV} (h:Pure P gl f as (.eF r)) (hg:ae gl) (hgl:S.gl=gl) (k:K (some r) F S):bE P f as d nd p K S0 Ls F S:=bE.of (h.at hgl hg) (fun r' S' ⟨_,e2⟩=>by cases e2) (fun v S' ⟨e1,e2⟩=>by subst e1;injection e2 with e2;subst e2;exact k)
def bE.O7 {k:Nat} {ys:List AV} (h:kP P gl f as k ys) (hg:ae gl) (hgl:S.gl=gl) (hi:nd=true->aY S0 Ls S) (hk:bg P K S0 Ls p (aT d (.sl k ys (.tok S.nt)) F) S.own):bE P f as d nd p K S0 Ls F S:=bE.of (h.at hgl hg) (fun r' S' ⟨e1,e2⟩=>by subst e2;injection e1 with e1;subst e1;exact ⟨fun e=>hi e,hk⟩) (fun v S' ⟨e1,_⟩=>by cases e1)
end use
def cZ.ir {G:Gh} {vs:List Value} (h:cZ G [] vs):vs=[]:=A3 h.len.symm
def cZ.cons_inv {G:Gh} {a:AV} {as:List AV} {vs:List Value} (h:cZ G (a::as) vs):∃ v vs',vs=v::vs'/\ah G a v/\cZ G as vs':=by
 cases vs with
 |nil=>have:=h.len;simp at this
 |cons v vs=>exact ⟨v,vs,rfl,h.rel 0 a v rfl rfl,by have:=h.len;simpa using this,fun m c u e1 e2=>h.rel (m+1) c u (by simpa using e1) (by simpa using e2)⟩
def ah.uh {G:Gh} {s:List UInt8} {v:Value} (h:ah G (.str s) v):v= .string ⟨s.toArray⟩:=by cases h;rfl
def ah.gK {G:Gh} {k:IntKind} {n:Int} {v:Value} (h:ah G (.int k n) v):v= .int k n:=by cases h;rfl
def ah.NI {G:Gh} {b:Bool} {v:Value} (h:ah G (.bool b) v):v= .bool b:=by cases h;rfl
def aw.grow {wb:aU} {G:Gh} {S:St} {w:World} (h:aw wb G S w) (os:Array Obj):aw wb G S (Go.Sort.grow w os):=by
 have key:∀ (l:List Obj) (w:World),aw wb G S w->aw wb G S (Go.Sort.grow w l.toArray):=by
  intro l
  induction l with
  |nil=>intro w h;simpa [Go.Sort.grow] using h
  |cons o l ih=>
   intro w h;have:=ih (w.alloc o) (h.alloc o);rw [Go.Sort.alloc_eq_grow,Go.Sort.grow_grow] at this;simpa using this
 simpa using key os.toList w h
def aw.drewN {wb:aU} {G:Gh} {S:St} {w:World} (h:aw wb G S w) (k:Nat):aw wb G S (w.drewN k):={h with still:=h.still}
def ao.WG {P:Program} {f:FuncId} {as:List AV} {S:St} {r:AV} (hc:∀ (args:Array Value) (w:World),(callFunc f args).run P w= .ok (.enter f args) w)
  (h:∀ wb G w vs,aw wb G S w->cZ G as vs->∃ v,ah G r v/\Calls P f vs.toArray w fun e w'=>e= .returned v/\∃ k os,w'=Go.Sort.grow (w.drewN k) os):ao P f as S fun o S'=>S'=S/\o= .ok r:=by
 intro wb G w vs hS hv;obtain ⟨v,h1,h2⟩:=h wb G w vs hS hv;unfold kf;rw [hc];refine h2.mono fun e w' ⟨he,k,os,hw⟩=>?_;subst he hw;exact ⟨G,S,Gh.le_refl G,(hS.drewN k).grow os,r,h1,rfl,rfl⟩
def ao.Fv {P:Program} {f:FuncId} {as:List AV} {S:St} {r:AV} (hc:∀ (args:Array Value) (w:World),(callFunc f args).run P w= .ok (.enter f args) w)
  (h:∀ wb G w vs,aw wb G S w->cZ G as vs->∃ v,ah G r v/\Calls P f vs.toArray w fun e w'=>e= .returned v/\w'=w):ao P f as S fun o S'=>S'=S/\o= .ok r:=
 .WG hc fun wb G w vs hS hv=>by
  obtain ⟨v,h1,h2⟩:=h wb G w vs hS hv;exact ⟨v,h1,h2.mono fun e w' ⟨he,hw⟩=>⟨he,0,#[],by rw [hw];simp [Go.Sort.grow,World.drewN]⟩⟩
def al.uC (b:Bool):al (.bool b)=True:=eq_true (.bool b)
def al.int_eq (k:IntKind) (n:Int):al (.int k n)=True:=eq_true (.int k n)
def al.fA (s:List UInt8):al (.str s)=True:=eq_true (.str s)
def al.SB:al .cS=True:=eq_true .cS
def al.RE:al .cV=True:=eq_true .cV
def al.Te:al .fw=True:=eq_true .fw
def al.nE {cs:List AV} (h:∀ c∈cs,al c):al (.agg cs)=True:=eq_true (.agg h)
def al.ZI {cs:List AV} (h:∀ c∈cs,al c):al (.aF cs)=True:=eq_true (.aF h)
def al.Xl {t:TypeId} {c:AV} (h:al c):al (.cH t c)=True:=eq_true (.cH h)
def al.ER {k:Nat} {xs:List AV} (h:∀ x∈xs,∀ c∈x.cells,al c):al (.sl k xs .ai)=True:=eq_true (.sl h (by simp))
def al.Xe (f:Fn):al (.fn f [] [])=True:=eq_true (.func (by simp) (by simp))
def al.acg {f:Fn} {as cs:List AV} (ha:∀ c∈as,al c) (hc:∀ c∈cs,al c):al (.fn f as cs)=True:=eq_true (.func ha hc)
def ala (m:Nat):(m=m+1)=False:=eq_false (by omega)
def ah1 (m:Nat):(m=m+1+1)=False:=eq_false (by omega)
def agS (m:Nat):(m=m+1+1+1)=False:=eq_false (by omega)
def aic (m:Nat):(m=m+1+1+1+1)=False:=eq_false (by omega)
def ab5 (m:Nat):(m+1=m)=False:=eq_false (by omega)
def adW (m:Nat):(m+1+1=m)=False:=eq_false (by omega)
def acG (m:Nat):(m+1+1+1=m)=False:=eq_false (by omega)
def ac4 (m:Nat):(m+1+1+1+1=m)=False:=eq_false (by omega)
section loops
variable {P:Program} {n:Nat} {k:List MI} {D:ep} {F:Fr} {S:St} {Q:er} {x:MC}
open Classical in
def af.fY (I:Nat->Fr->St->Prop) (m:Nat) (h0:I m F S)
  (round:∀ m F S,I m F S->(∀ m' F' S',m'<m->I m' F' S'->af P n (.inLoop x::k) D F' S' Q)->af P n (.code x:: .inLoop x::k) D F S Q):af P n (.code (.loop x)::k) D F S Q:=by
 have key:∀ F S,(∃ m,I m F S)->∃ m,I m F S/\∀ m',I m' F S->m<=m':=by
  intro F S h;obtain ⟨m,hm⟩:=h
  induction m using Nat.strongRecOn with
  |_ m ih=>
   by_cases h:∃ m',m'<m/\I m' F S
   ·obtain ⟨m',h1,h2⟩:=h;exact ih m' h1 h2
   ·exact ⟨m,hm,fun m' h'=>Am fun h2=>h ⟨m',h2,h'⟩⟩
 refine af.loop (fun F S=>∃ m,I m F S) (fun F S=>if h:∃ m,I m F S then (key F S h).choose else 0) ⟨m,h0⟩ ?_;intro F S hI ih;have h1:=(key F S hI).choose_spec;refine round _ F S h1.1 fun m' F' S' hlt hI'=>ih F' S' ⟨m',hI'⟩ ?_;have hI2:∃ m,I m F' S':=⟨m',hI'⟩;rw [dif_pos hI,dif_pos hI2];exact Nat.lt_of_le_of_lt ((key F' S' hI2).choose_spec.2 m' hI') hlt
def af.dA (N:Nat) (I:Nat->Fr->St->Prop) (h0:I 0 F S)
  (round:∀ i F S,i<=N->I i F S->(i<N->∀ F' S',I (i+1) F' S'->af P n (.inLoop x::k) D F' S' Q)->af P n (.code x:: .inLoop x::k) D F S Q):af P n (.code (.loop x)::k) D F S Q:=by
 refine .fY (fun m F S=>∃ i,i+m=N/\I i F S) N ⟨0,by omega,h0⟩ ?_;rintro m F S ⟨i,hi,hI⟩ ih;exact round i F S (by omega) hI fun hlt F' S' hI'=>ih (m-1) F' S' (by omega) ⟨i+1,by omega,hI'⟩
def af.forget {m t:Nat} {ob:List (Nat×List AV)} {live:List Nat} {gl:List (Nat×List AV)} (h:af P n k D F ⟨m,[],t,[],gl⟩ Q):af P n k D F ⟨m,ob,t,live,gl⟩ Q:=h.sK (fun _ _ e=>e) ⟨rfl,rfl,rfl,fun l cs e=>(by cases e),fun t ht=>(by cases ht)⟩
def af.cz {m t:Nat} {ob ob':List (Nat×List AV)} {live live':List Nat} {gl:List (Nat×List AV)} (h:af P n k D F ⟨m,ob',t,live',gl⟩ Q) (ho:∀ l cs,List.lookup l ob'=some cs->List.lookup l ob=some cs) (hl:∀ x∈live',x∈live):af P n k D F ⟨m,ob,t,live,gl⟩ Q:=h.sK (fun _ _ e=>e) ⟨rfl,rfl,rfl,ho,hl⟩
end loops
def bM {P:Program} {n:Nat} {Q:er} {c c':MC} (h:c=c') {fu:Nat} {k:List MI} {D:ep} {F:Fr} {S:St} (hm:mw P n Q fu (.code c'::k) D F S):mw P n Q fu (.code c::k) D F S:=h▸hm
section merge
variable {P:Program} {n:Nat} {k:List MI} {D:ep} {F:Fr} {S:St} {Q:er} {a:Nat} {p q r:Bool}
def UO (p q:Bool):cond p p q=(p||q):=by cases p<;>rfl
def NO (p q:Bool):cond p q p=(p && q):=by cases p<;>rfl
def T9 (p q:Bool):cond p true q=(p||q):=by cases p<;>rfl
def Sy (p q:Bool):cond p q false=(p && q):=by cases p<;>rfl
def S7 (p q:Bool):cond p false q=(!p && q):=by cases p<;>rfl
def Q6 (p q:Bool):cond p q true=(!p||q):=by cases p<;>rfl
def Ge (X:Prop):((p=true->X)/\(p=false->X))=X:=by cases p<;>simp
def Gn (X:Prop):((p=false->X)/\(p=true->X))=X:=by cases p<;>simp
def Tw:((p=true->af P n k D ((a,.bool q)::F) S Q)/\(p=false->af P n k D ((a,.bool r)::F) S Q))=af P n k D ((a,.bool (cond p q r))::F) S Q:=by cases p<;>simp
def RB:((p=false->af P n k D ((a,.bool r)::F) S Q)/\(p=true->af P n k D ((a,.bool q)::F) S Q))=af P n k D ((a,.bool (cond p q r))::F) S Q:=by cases p<;>simp
def S6 (x0:Nat×AV):((p=true->af P n k D (x0::(a,.bool q)::F) S Q)/\(p=false->af P n k D (x0::(a,.bool r)::F) S Q))=af P n k D (x0::(a,.bool (cond p q r))::F) S Q:=by cases p<;>simp
def Vi (x0:Nat×AV):((p=false->af P n k D (x0::(a,.bool r)::F) S Q)/\(p=true->af P n k D (x0::(a,.bool q)::F) S Q))=af P n k D (x0::(a,.bool (cond p q r))::F) S Q:=by cases p<;>simp
def TR (x0 x1:Nat×AV):((p=true->af P n k D (x0::x1::(a,.bool q)::F) S Q)/\(p=false->af P n k D (x0::x1::(a,.bool r)::F) S Q))=af P n k D (x0::x1::(a,.bool (cond p q r))::F) S Q:=by cases p<;>simp
def SM (x0 x1:Nat×AV):((p=false->af P n k D (x0::x1::(a,.bool r)::F) S Q)/\(p=true->af P n k D (x0::x1::(a,.bool q)::F) S Q))=af P n k D (x0::x1::(a,.bool (cond p q r))::F) S Q:=by cases p<;>simp
def UX (x0 x1 x2:Nat×AV):((p=true->af P n k D (x0::x1::x2::(a,.bool q)::F) S Q)/\(p=false->af P n k D (x0::x1::x2::(a,.bool r)::F) S Q))=af P n k D (x0::x1::x2::(a,.bool (cond p q r))::F) S Q:=by cases p<;>simp
def Rh (x0 x1 x2:Nat×AV):((p=false->af P n k D (x0::x1::x2::(a,.bool r)::F) S Q)/\(p=true->af P n k D (x0::x1::x2::(a,.bool q)::F) S Q))=af P n k D (x0::x1::x2::(a,.bool (cond p q r))::F) S Q:=by cases p<;>simp
def RZ (x0 x1 x2 x3:Nat×AV):((p=true->af P n k D (x0::x1::x2::x3::(a,.bool q)::F) S Q)/\(p=false->af P n k D (x0::x1::x2::x3::(a,.bool r)::F) S Q))=af P n k D (x0::x1::x2::x3::(a,.bool (cond p q r))::F) S Q:=by cases p<;>simp
def TV (x0 x1 x2 x3:Nat×AV):((p=false->af P n k D (x0::x1::x2::x3::(a,.bool r)::F) S Q)/\(p=true->af P n k D (x0::x1::x2::x3::(a,.bool q)::F) S Q))=af P n k D (x0::x1::x2::x3::(a,.bool (cond p q r))::F) S Q:=by cases p<;>simp
def TH (x0 x1 x2 x3 x4:Nat×AV):((p=true->af P n k D (x0::x1::x2::x3::x4::(a,.bool q)::F) S Q)/\(p=false->af P n k D (x0::x1::x2::x3::x4::(a,.bool r)::F) S Q))=af P n k D (x0::x1::x2::x3::x4::(a,.bool (cond p q r))::F) S Q:=by cases p<;>simp
def U0 (x0 x1 x2 x3 x4:Nat×AV):((p=false->af P n k D (x0::x1::x2::x3::x4::(a,.bool r)::F) S Q)/\(p=true->af P n k D (x0::x1::x2::x3::x4::(a,.bool q)::F) S Q))=af P n k D (x0::x1::x2::x3::x4::(a,.bool (cond p q r))::F) S Q:=by cases p<;>simp
def SH (x0 x1 x2 x3 x4 x5:Nat×AV):((p=true->af P n k D (x0::x1::x2::x3::x4::x5::(a,.bool q)::F) S Q)/\(p=false->af P n k D (x0::x1::x2::x3::x4::x5::(a,.bool r)::F) S Q))=af P n k D (x0::x1::x2::x3::x4::x5::(a,.bool (cond p q r))::F) S Q:=by cases p<;>simp
def UK (x0 x1 x2 x3 x4 x5:Nat×AV):((p=false->af P n k D (x0::x1::x2::x3::x4::x5::(a,.bool r)::F) S Q)/\(p=true->af P n k D (x0::x1::x2::x3::x4::x5::(a,.bool q)::F) S Q))=af P n k D (x0::x1::x2::x3::x4::x5::(a,.bool (cond p q r))::F) S Q:=by cases p<;>simp
def Tc (x0 x1 x2 x3 x4 x5 x6:Nat×AV):((p=true->af P n k D (x0::x1::x2::x3::x4::x5::x6::(a,.bool q)::F) S Q)/\(p=false->af P n k D (x0::x1::x2::x3::x4::x5::x6::(a,.bool r)::F) S Q))=af P n k D (x0::x1::x2::x3::x4::x5::x6::(a,.bool (cond p q r))::F) S Q:=by cases p<;>simp
def TQ (x0 x1 x2 x3 x4 x5 x6:Nat×AV):((p=false->af P n k D (x0::x1::x2::x3::x4::x5::x6::(a,.bool r)::F) S Q)/\(p=true->af P n k D (x0::x1::x2::x3::x4::x5::x6::(a,.bool q)::F) S Q))=af P n k D (x0::x1::x2::x3::x4::x5::x6::(a,.bool (cond p q r))::F) S Q:=by cases p<;>simp
def R0 (x0 x1 x2 x3 x4 x5 x6 x7:Nat×AV):((p=true->af P n k D (x0::x1::x2::x3::x4::x5::x6::x7::(a,.bool q)::F) S Q)/\(p=false->af P n k D (x0::x1::x2::x3::x4::x5::x6::x7::(a,.bool r)::F) S Q))=af P n k D (x0::x1::x2::x3::x4::x5::x6::x7::(a,.bool (cond p q r))::F) S Q:=by cases p<;>simp
def T3 (x0 x1 x2 x3 x4 x5 x6 x7:Nat×AV):((p=false->af P n k D (x0::x1::x2::x3::x4::x5::x6::x7::(a,.bool r)::F) S Q)/\(p=true->af P n k D (x0::x1::x2::x3::x4::x5::x6::x7::(a,.bool q)::F) S Q))=af P n k D (x0::x1::x2::x3::x4::x5::x6::x7::(a,.bool (cond p q r))::F) S Q:=by cases p<;>simp
def Su (x0 x1 x2 x3 x4 x5 x6 x7 x8:Nat×AV):((p=true->af P n k D (x0::x1::x2::x3::x4::x5::x6::x7::x8::(a,.bool q)::F) S Q)/\(p=false->af P n k D (x0::x1::x2::x3::x4::x5::x6::x7::x8::(a,.bool r)::F) S Q))=af P n k D (x0::x1::x2::x3::x4::x5::x6::x7::x8::(a,.bool (cond p q r))::F) S Q:=by cases p<;>simp
def Re (x0 x1 x2 x3 x4 x5 x6 x7 x8:Nat×AV):((p=false->af P n k D (x0::x1::x2::x3::x4::x5::x6::x7::x8::(a,.bool r)::F) S Q)/\(p=true->af P n k D (x0::x1::x2::x3::x4::x5::x6::x7::x8::(a,.bool q)::F) S Q))=af P n k D (x0::x1::x2::x3::x4::x5::x6::x7::x8::(a,.bool (cond p q r))::F) S Q:=by cases p<;>simp
end merge
end Go.V
namespace Go.V
open Go
def wrap_u8 (x:Int):IntKind.u8.wrap x=x%256:=by simp [IntKind.wrap,IntKind.bits,IntKind.signed]
def wrap_u64 (x:Int):IntKind.u64.wrap x=x%18446744073709551616:=by simp [IntKind.wrap,IntKind.bits,IntKind.signed]
def uQ {x:Int} (h0:0<=x) (h1:x<18446744073709551616):IntKind.u64.wrap x=x:=by rw [wrap_u64];omega
def qt {x:Int} (h0:0<=x) (h1:x<256):IntKind.u8.wrap x=x:=by rw [wrap_u8];omega
def aR {x:Int} (h0: -9223372036854775808<=x) (h1:x<9223372036854775808):IntKind.i64.wrap x=x:=by
 simp only [IntKind.wrap,IntKind.bits,IntKind.signed];simp;omega
def Dt (n:Nat):cj (UInt8.ofNat n)= .int .u8 ((n%256:Nat):Int):=by simp [cj]
def E9 (k:IntKind) (m:Nat) (s:Int) (h:s.toNat<=k.bits):mj k (m:Int) s=((m/2^s.toNat:Nat):Int):=by
 unfold mj;rw [BK h,B6 _ (Int.pow_nonneg (by decide))];simp
def bY {α:Type} {s:List α} {i:Nat} {c:α} (h:s[i]? =some c):s.drop i=c::s.drop (i+1):=by
 obtain ⟨h1,h2⟩:=By.1 h;rw [List.drop_eq_getElem_cons h1,h2]
def aK {α:Type} {s:List α} {i:Nat} (h:i<s.length):∃ c,s[i]? =some c:=⟨s[i],by simp [h]⟩
def fh {i n:Nat} (h:i<n):decide ((i:Int)<(n:Int))=true:=by simpa using h
def fD {i n:Nat} (h:n<=i):decide ((i:Int)<(n:Int))=false:=by simpa using h
def eC {i n:Nat} (h:i<n):((i:Int)<(n:Int))=True:=eq_true (by omega)
def bb {i:Nat} (h:i<9223372036854775807):IntKind.i64.wrap ((i:Int)+1)=((i+1:Nat):Int):=by rw [aR (by omega) (by omega)];rfl
end Go.V
namespace Go.V
open Go
abbrev Bytes:=List UInt8
structure jm where
 k:Bytes
 e:Int
 n:Int
 deriving DecidableEq
structure bW where
 kd:Int
 n:Int
 s:Bytes
 deriving DecidableEq
structure jC where
 VK:jm
 vs:List bW
 deriving DecidableEq
structure l5 where
 lO:Bytes
 fs:List Bytes
 xs:List jC
 deriving DecidableEq
structure rN where
 lO:Bytes
 fs:List Bytes
 akV:List jm
 akZ:Int
 pm:Int
 deriving DecidableEq
abbrev jm.av (x:jm):AV:= .agg [.str x.k,.int .i64 x.e,.int .i64 x.n]
abbrev bW.av (x:bW):AV:= .agg [.int .i64 x.kd,.int .i64 x.n,.str x.s]
abbrev jC.av (x:jC):AV:= .agg [.str x.VK.k,.int .i64 x.VK.e,.int .i64 x.VK.n,.sl 3 (x.vs.map bW.av) .ai]
abbrev l5.av (d:l5):AV:= .agg [.str d.lO,.sl 1 (d.fs.map AV.str) .ai,.sl 4 (d.xs.map jC.av) .ai]
abbrev rN.av (r:rN):AV:= .agg [.str r.lO,.sl 1 (r.fs.map AV.str) .ai,.sl 3 (r.akV.map jm.av) .ai,.int .i64 r.akZ,.int .i64 r.pm]
def nM (k:IntKind) (n:Int):AV.fg (.int k n)= .int k n:=rfl
def lS (s:Bytes):AV.fg (.str s)= .str s:=rfl
def RI (b:Bool):AV.fg (.bool b)= .bool b:=rfl
def QW:AV.fg .cS= .cS:=rfl
def UH:AV.fg .cV= .cV:=rfl
def acD (f:Fn) (a b:List AV):AV.fg (.fn f a b)= .fn f a b:=rfl
def fj (k:Nat) (xs:List AV) (t:bD):AV.fg (.sl k xs t)= .sl k (xs.map AV.fg) .ai:=by simp [AV.fg,di]
def cY (xs:List AV):AV.fg (.agg xs)= .agg (xs.map AV.fg):=by simp [AV.fg,di]
def yf (xs:List AV):AV.fg (.aF xs)= .aF (xs.map AV.fg):=by simp [AV.fg,di]
def Sx (b:UInt8):AV.fg (cj b)=cj b:=rfl
def Km (x:jm):AV.fg x.av=x.av:=by simp [jm.av,cY,nM,lS]
def L8 (x:bW):AV.fg x.av=x.av:=by simp [bW.av,cY,nM,lS]
def p8 {α:Type} (f:α->AV) (h:∀ a,AV.fg (f a)=f a) (l:List α):(l.map f).map AV.fg=l.map f:=by rw [AY];exact Bh fun a _=>h a
def Oz (l:Bytes):(l.map cj).map AV.fg=l.map cj:=p8 _ Sx l
def Rf (k:IntKind) (l:List Int):(l.map (AV.int k)).map AV.fg=l.map (AV.int k):=p8 _ (nM k) l
def y5 (l:List Bytes):(l.map AV.str).map AV.fg=l.map AV.str:=p8 _ lS l
def GD (l:List bW):(l.map bW.av).map AV.fg=l.map bW.av:=p8 _ L8 l
def HG (l:List jm):(l.map jm.av).map AV.fg=l.map jm.av:=p8 _ Km l
def KF (x:jC):AV.fg x.av=x.av:=by simp [jC.av,cY,nM,lS,fj,GD,-List.map_map]
def Hl (l:List jC):(l.map jC.av).map AV.fg=l.map jC.av:=p8 _ KF l
def SZ (d:l5):AV.fg d.av=d.av:=by simp [l5.av,cY,lS,fj,y5,Hl,-List.map_map]
def VB (d:rN):AV.fg d.av=d.av:=by simp [rN.av,cY,lS,nM,fj,y5,HG,-List.map_map]
def Wj (x:jm):al x.av=True:=by simp [jm.av,al.nE,al.fA,al.int_eq]
def Zj (x:bW):al x.av=True:=by simp [bW.av,al.nE,al.fA,al.int_eq]
def U6 (x:UInt8):al (cj x)=True:=al.int_eq _ _
def RN (x:jm):(∀ c∈x.av.cells,al c)=True:=by simp [jm.av,AV.cells,al.fA,al.int_eq]
def Tt (x:bW):(∀ c∈x.av.cells,al c)=True:=by simp [bW.av,AV.cells,al.fA,al.int_eq]
def Pg (x:UInt8):(∀ c∈(cj x).cells,al c)=True:=by simp [cj,AV.cells,al.int_eq]
def UA (x:Bytes):(∀ c∈(AV.str x).cells,al c)=True:=by simp [AV.cells,al.fA]
def SG (k:IntKind) (x:Int):(∀ c∈(AV.int k x).cells,al c)=True:=by simp [AV.cells,al.int_eq]
def uB {α:Type} {f:α->AV} (h:∀ a,∀ c∈(f a).cells,al c) (k:Nat) (l:List α):al (.sl k (l.map f) .ai)=True:=al.ER fun x hx=>by
 obtain ⟨a,_,rfl⟩:=Ai.1 hx;exact h a
def OK (k:Nat) (l:Bytes):al (.sl k (l.map cj) .ai)=True:=uB (fun a=>of_eq_true (Pg a)) k l
def tK (k:Nat) (l:List Bytes):al (.sl k (l.map AV.str) .ai)=True:=uB (fun a=>of_eq_true (UA a)) k l
def zk (k:Nat) (l:List bW):al (.sl k (l.map bW.av) .ai)=True:=uB (fun a=>of_eq_true (Tt a)) k l
def GR (k:Nat) (l:List jm):al (.sl k (l.map jm.av) .ai)=True:=uB (fun a=>of_eq_true (RN a)) k l
def Rt (k:Nat) (l:List Int):al (.sl k (l.map (AV.int .i64)) .ai)=True:=uB (fun a=>of_eq_true (SG _ a)) k l
def SN (x:jC):(∀ c∈x.av.cells,al c)=True:=by simp [jC.av,AV.cells,al.fA,al.int_eq,zk]
def Xc (x:jC):al x.av=True:=by simp [jC.av,al.nE,al.fA,al.int_eq,zk]
def GS (k:Nat) (l:List jC):al (.sl k (l.map jC.av) .ai)=True:=uB (fun a=>of_eq_true (SN a)) k l
def SO (x:l5):al x.av=True:=by simp [l5.av,al.nE,al.fA,tK,GS]
def Z5 (x:rN):al x.av=True:=by simp [rN.av,al.nE,al.fA,al.int_eq,tK,GR]
def HK:=And.intro @V2 (And.intro @JI (And.intro @KJ (And.intro @UI (And.intro @Z0 (And.intro @O0 (And.intro @Ry (And.intro @Xq (And.intro @Pm (And.intro @SQ (And.intro @Tk (And.intro @Zl (And.intro @Wa (And.intro @Q3 (And.intro @UZ (And.intro @rV (And.intro @IC (And.intro @sS (And.intro @UY (And.intro @abv (And.intro @KT (And.intro @Nw (And.intro @abl (And.intro @Lz (And.intro @ND (And.intro @ady (And.intro @Nu (And.intro @J3 (And.intro @QX (And.intro @Tg (And.intro @OT (And.intro @Y6 (And.intro @Mn (And.intro @xP (And.intro @oX (And.intro @Ka (And.intro @LV (And.intro @gS (And.intro @eT (And.intro @aba (@Fr.kS))))))))))))))))))))))))))))))))))))))))
def Hw:=And.intro @OL (And.intro @Kz (And.intro @XI (And.intro @Yn (And.intro @WT (And.intro @aa5 (And.intro @UT (And.intro @Us (And.intro @Rq (And.intro @SD (And.intro @Ri (And.intro @NW (And.intro @Pq (And.intro @Lo (And.intro @X2 (And.intro @TA (And.intro @R2 (And.intro @Ni (And.intro @U7 (@Ph)))))))))))))))))))
def Hg:=And.intro @bj (And.intro @cR (And.intro @cy (And.intro @aN (And.intro @Ab.{0} (And.intro @AD.{0} (And.intro @or_true (And.intro @true_or (And.intro @or_false (And.intro @false_or (And.intro @List.lookup_nil.{0,0} (And.intro @List.map_cons.{0,0} (And.intro @Az.{0,0} (And.intro @Option.map_some.{0,0} (And.intro @Option.map_none.{0,0} (And.intro @Option.bind_some.{0,0} (And.intro @Option.bind_none.{0,0} (And.intro @List.nil_append.{0} (And.intro @AB.{0} (And.intro @List.cons_append.{0} (And.intro @Kw (And.intro @fP (And.intro @IB (And.intro @LS (And.intro @K1 (And.intro @IZ (And.intro @ML (And.intro @Np (And.intro @J1 (And.intro @Ob (And.intro @Oi (And.intro @JH (And.intro @Lx (And.intro @Js (And.intro @KA (And.intro @J5 (And.intro @yw (And.intro @DQ (And.intro @ala (And.intro @ah1 (And.intro @agS (And.intro @aic (And.intro @ab5 (And.intro @adW (And.intro @acG (And.intro @ac4 (And.intro @Ap.{0,0} (And.intro @List.length_cons.{0} (And.intro @List.length_nil.{0} (And.intro @List.take_succ_cons.{0} (And.intro @List.take_zero.{0} (And.intro @Cg.{0} (And.intro @BJ.{0} (And.intro @List.getElem?_cons_zero.{0} (And.intro @List.getElem?_cons_succ.{0} (And.intro @List.all_cons.{0} (And.intro @List.all_nil.{0} (And.intro @decide_true (And.intro @decide_false (And.intro @BS (And.intro @Bool.true_and (And.intro @Bool.and_false (And.intro @Bool.false_and (And.intro @Ca (And.intro @Bool.not_false (And.intro @beq_self_eq_true.{0} (And.intro @bne_self_eq_false.{0} (And.intro @Aw (And.intro @Nat.add_zero (And.intro @Ah (And.intro @Bool.true_eq_false (And.intro @not_true_eq_false (And.intro @not_false_eq_true (And.intro @true_and (And.intro @and_true (And.intro @and_self (And.intro @false_and (And.intro @and_false (And.intro @true_implies (And.intro @false_implies (And.intro @Au (And.intro @Af (And.intro @Option.isNone_none.{0} (And.intro @Option.isNone_some.{0} (And.intro @Option.isSome_some.{0} (And.intro @Option.isSome_none.{0} (And.intro @Nat.succ_ne_self (And.intro @Int.toNat_natCast (And.intro @Int.toNat_zero (And.intro @Ad.{0,0} (And.intro @Cv.{0} (And.intro @Out.ok.injEq (And.intro @AV.int.injEq (And.intro @AV.bool.injEq (And.intro @AV.str.injEq (And.intro @AV.aF.injEq (And.intro @AV.agg.injEq (And.intro @BW.{0} (And.intro @ge_iff_le.{0} (And.intro @gt_iff_lt.{0} (And.intro @Int.natCast_nonneg (And.intro @Bool.not_eq_true (And.intro @Bool.not_eq_false (And.intro @UO (And.intro @NO (And.intro @T9 (And.intro @Sy (And.intro @S7 (And.intro @Q6 (And.intro @Ge (And.intro @Gn (And.intro @Tw (And.intro @RB (And.intro @S6 (And.intro @Vi (And.intro @TR (And.intro @SM (And.intro @UX (And.intro @Rh (And.intro @RZ (And.intro @TV (And.intro @TH (And.intro @U0 (And.intro @SH (And.intro @UK (And.intro @Tc (And.intro @TQ (And.intro @R0 (And.intro @T3 (And.intro @Su (And.intro @Re (And.intro @NK (And.intro @Ns (@Lm)))))))))))))))))))))))))))))))))))))))))))))))))))))))))))))))))))))))))))))))))))))))))))))))))))))))))))))))))))))))))))))))))))))
def bx:=And.intro @List.map_cons.{0,0} (And.intro @Az.{0,0} (And.intro @nM (And.intro @lS (And.intro @RI (And.intro @QW (And.intro @UH (And.intro @acD (And.intro @fj (And.intro @cY (And.intro @yf (And.intro @Km (And.intro @L8 (And.intro @KF (And.intro @SZ (And.intro @VB (And.intro @Oz (And.intro @Rf (And.intro @y5 (And.intro @GD (And.intro @HG (@Hl)))))))))))))))))))))
def cx:=And.intro @Oe (And.intro @Nc (And.intro @Ab.{0} (And.intro @AD.{0} (And.intro @or_false (And.intro @and_self (And.intro @and_true (And.intro @true_and (And.intro @al.uC (And.intro @al.int_eq (And.intro @al.fA (And.intro @al.SB (And.intro @al.RE (And.intro @al.Te (And.intro @al.nE (And.intro @al.ZI (And.intro @al.Xl (And.intro @al.Xe (And.intro @al.acg (And.intro @Wj (And.intro @Zj (And.intro @Xc (And.intro @SO (And.intro @Z5 (And.intro @U6 (And.intro @OK (And.intro @tK (And.intro @zk (And.intro @GR (And.intro @GS (@Rt))))))))))))))))))))))))))))))
section
variable {P:Program} {gl:List (Nat×List AV)} {f:FuncId} {as:List AV} {d:Option Nat} {K:Option AV->Fr->St->Prop} {F:Fr} {S S0:St} {Ls:List Nat} {nd:Bool} {p:bC}
def bE.pu {r:AV} (h:Pure P gl f as (.ok r)) (hg:ae gl) (hgl:S.gl=gl) (k:aY S0 Ls S/\bg P K S0 Ls p (aT d r F) S):bE P f as d nd p K S0 Ls F S:= .pure h hg hgl (fun _=>k.1) k.2
def bE.tk {k:Nat} {ys:List AV} (h:kP P gl f as k ys) (hg:ae gl) (hgl:S.gl=gl) (hk:aY S0 Ls S/\bg P K S0 Ls p (aT d (.sl k ys (.tok S.nt)) F) S.own):bE P f as d nd p K S0 Ls F S:= .O7 h hg hgl (fun _=>hk.1) hk.2
def bE.pn {r:AV} (h:Pure P gl f as (.eF r)) (hg:ae gl) (hgl:S.gl=gl) (k:K (some r) F S):bE P f as d nd p K S0 Ls F S:= .eF h hg hgl k
def aS.pu {l:List aX} {r:AV} (h:Pure P gl f as (.ok r)) (hg:ae gl) (hgl:S.gl=gl) (k:cB P l K (aT d r F) S):aS P f as d l K F S:= .pure h hg hgl k
def aS.tk {l:List aX} {k:Nat} {ys:List AV} (h:kP P gl f as k ys) (hg:ae gl) (hgl:S.gl=gl) (hk:cB P l K (aT d (.sl k ys (.tok S.nt)) F) S.own):aS P f as d l K F S:= .O7 h hg hgl hk
def aS.pn {l:List aX} {r:AV} (h:Pure P gl f as (.eF r)) (hg:ae gl) (hgl:S.gl=gl) (k:K (some r) F S):aS P f as d l K F S:= .eF h hg hgl k
end
def bp {P:Program} {n:Nat} {Q:er} {c c':MC} (h:c=c') {k:List MI} {D:ep} {F:Fr} {S:St} (hm:mw P n Q 60 (.code c'::k) D F S):af P n (.code c::k) D F S Q:=ab 60 (bM h hm)
end Go.V
namespace Go.V
open Go
section
variable {β:Type}
def dS (K:Nat) (k:Nat->Nat->β) (N:Nat):β:=k (N%K) (N/K)
def dB (k:Bool->Nat->β) (N:Nat):β:=k (Nat.beq (N%2) 1) (N/2)
def dN:Nat->(Nat->Nat->β)->Nat->β
 |0,k,N=>k 0 N
 |f+1,k,N=>bif Nat.ble 8 (N%16) then dN f (fun r=>k (N%16-8+8*r)) (N/16) else k (N%16) (N/16)
def dL {α:Type} (d:(α->Nat->β)->Nat->β):Nat->(List α->Nat->β)->Nat->β
 |0,k,N=>k [] N
 |f+1,k,N=>bif Nat.beq (N%2) 1 then d (fun x=>dL d f (fun xs=>k (x::xs))) (N/2) else k [] (N/2)
def dZ {α:Type} (d:(α->Nat->β)->Nat->β) (k:Option α->Nat->β) (N:Nat):β:=bif Nat.beq (N%2) 1 then d (fun x=>k (some x)) (N/2) else k none (N/2)
def YV (x:Nat):List Nat->List Nat
 |[]=>[x]
 |y::l=>bif Nat.ble x y then x::y::l else y::YV x l
def dW:List Nat->(List Nat->Nat->β)->Nat->β
 |[],k,N=>k [] N
 |y::p,k,N=>bif Nat.beq (N%2) 1 then dW p (fun l=>k (y::l)) (N/2) else dW p k (N/2)
def dk (K d:Nat) (p:List Nat) (k:List Nat->Nat->β) (N:Nat):β:=bif Nat.beq (N%2) 1 then dW p (fun l=>dL (fun k N=>bif Nat.beq (N%2) 1 then dS K k (N/2) else k d (N/2)) 300 fun a=>k (a.foldr YV l)) (N/2) else k p (N/2)
def dY (k:List UInt8->Nat->β):Nat->β:=dL (dS 256) 900 fun l=>k (l.map UInt8.ofNat)
def dI (k:Int->Nat->β) (N:Nat):β:=bif Nat.beq (N%2) 1 then dN 30 (fun n=>k (-(n:Int))) (N/2) else dN 30 (fun n=>k (n:Int)) (N/2)
def dJ {α:Type} (l:List α) (z:α) (k:α->Nat->β) (N:Nat):β:=k (l.getD (N%l.length) z) (N/l.length)
def dr (k:Nat×Nat->Nat->β):Nat->β:=dN 30 fun a=>dN 30 fun b=>k (a,b)
def dF (k:Fn->Nat->β):Nat->β:=dN 30 fun a=>k (.func a)
def dV1 (k:AV->Nat->β) (N:Nat):β:=bif Nat.beq (N%7) 0 then dJ [.i64,.u64,.u8,.i32,.u32,.i16,.u16,.i8] .i64 (fun x0=>dI (fun x1=>k (.int x0 x1))) (N/7) else bif Nat.beq (N%7) 1 then dY (fun x0=>k (.str x0)) (N/7) else bif Nat.beq (N%7) 2 then dN 30 (fun x0=>k (.sl x0 [] .exact)) (N/7) else bif Nat.beq (N%7) 3 then k (.cS) (N/7) else bif Nat.beq (N%7) 4 then k (.cV) (N/7) else bif Nat.beq (N%7) 5 then k (.fw) (N/7) else k (.gL) (N/7)
variable (C:Option (List AV)) (K d:Nat)
def dV (k:AV->Nat->β) (N:Nat):β:=match C with
 |some C=>dN 30 (fun i=>k (C.getD i .dd)) N
 |none=>bif Nat.beq (N%4) 0 then dN 30 (fun n=>k (.int .i64 n)) (N/4) else bif Nat.beq (N%4) 1 then k (.bool false) (N/4) else bif Nat.beq (N%4) 2 then k (.bool true) (N/4) else dV1 k (N/4)
def dO (k:aj->Nat->β) (N:Nat):β:=bif Nat.beq (N%2) 0 then k (.t d) (N/2) else bif Nat.beq (N/2%4) 0 then dS K (fun n=>k (.t n)) (N/8) else bif Nat.beq (N/2%4) 1 then dV C (fun v=>k (.c v)) (N/8) else bif Nat.beq (N/2%4) 2 then dN 30 (fun n=>k (.f n)) (N/8) else bif Nat.beq (N/8%2) 0 then dN 30 (fun n=>k (.g n)) (N/16) else dN 30 (fun n=>dL dr 900 (fun r=>k (.uX n r))) (N/16)
def dq (k:Nat×Nat×aj->Nat->β):Nat->β:=dN 30 fun a=>dN 30 fun b=>dO C K d fun c=>k (a,b,c)
def dT (k:MX->Nat->β) (N:Nat):β:=bif Nat.beq (N%5) 0 then dO C K d (fun x0=>k (.it (.Dp x0))) (N/5) else bif Nat.beq (N%5) 1 then dO C K d (fun x0=>k (.it (.Ey x0))) (N/5) else bif Nat.beq (N%5) 2 then dO C K d (fun x0=>k (.it (.lO x0))) (N/5) else bif Nat.beq (N%5) 3 then dO C K d (fun x0=>k (.it (.vZ x0))) (N/5) else dN 30 (fun x0=>dV C (fun x1=>dO C K d (fun x2=>k (.it (.Ek x0 x1 x2))))) (N/5)
def dX1 (k:MX->Nat->β) (N:Nat):β:=bif Nat.beq (N%53) 0 then dN 30 (fun x0=>dO C K d (fun x1=>k (.k (.rB x0 x1)))) (N/53) else bif Nat.beq (N%53) 1 then dO C K d (fun x0=>dL (dO C K d) 900 (fun x1=>k (.call x0 x1))) (N/53) else bif Nat.beq (N%53) 2 then dN 30 (fun x0=>dO C K d (fun x1=>dO C K d (fun x2=>k (.k (.store x0 x1 x2))))) (N/53) else bif Nat.beq (N%53) 3 then dN 30 (fun x0=>dO C K d (fun x1=>dO C K d (fun x2=>k (.k (.rI x0 x1 x2))))) (N/53) else bif Nat.beq (N%53) 4 then dB (fun x0=>dO C K d (fun x1=>k (.k (.len x0 x1)))) (N/53) else bif Nat.beq (N%53) 5 then dL (dV C) 900 (fun x0=>k (.k (.alloc x0))) (N/53) else bif Nat.beq (N%53) 6 then dL (dV C) 900 (fun x0=>dL (dq C K d) 900 (fun x1=>k (.k (.build x0 x1)))) (N/53) else bif Nat.beq (N%53) 7 then dN 30 (fun x0=>dN 30 (fun x1=>dB (fun x2=>dO C K d (fun x3=>k (.k (.H7 x0 x1 x2 x3)))))) (N/53) else bif Nat.beq (N%53) 8 then dO C K d (fun x0=>dN 30 (fun x1=>k (.k (.ext x0 x1)))) (N/53) else bif Nat.beq (N%53) 9 then dJ [.neg,.xor,.not,.plus] .neg (fun x0=>dO C K d (fun x1=>k (.k (.un x0 x1)))) (N/53) else bif Nat.beq (N%53) 10 then dN 30 (fun x0=>dN 30 (fun x1=>dO C K d (fun x2=>dO C K d (fun x3=>k (.k (.app x0 x1 x2 x3)))))) (N/53) else bif Nat.beq (N%53) 11 then dO C K d (fun x0=>dO C K d (fun x1=>k (.k (.sW x0 x1)))) (N/53) else bif Nat.beq (N%53) 12 then dJ [.i64,.u64,.u8,.i32,.u32,.i16,.u16,.i8] .i64 (fun x0=>dO C K d (fun x1=>k (.k (.conv x0 x1)))) (N/53) else bif Nat.beq (N%53) 13 then dL (dJ [.i,.s,.b] .i) 300 (fun x0=>dB (fun x1=>dO C K d (fun x2=>dO C K d (fun x3=>k (.k (.eqv x0 x1 x2 x3)))))) (N/53) else bif Nat.beq (N%53) 14 then dN 30 (fun x0=>dL (dV C) 900 (fun x1=>dL (dO C K d) 900 (fun x2=>k (.k (.rF x0 x1 x2))))) (N/53) else bif Nat.beq (N%53) 15 then dO C K d (fun x0=>dZ (dO C K d) (fun x1=>dZ (dO C K d) (fun x2=>k (.k (.xO x0 x1 x2))))) (N/53) else bif Nat.beq (N%53) 16 then dN 30 (fun x0=>dO C K d (fun x1=>dZ (dO C K d) (fun x2=>dZ (dO C K d) (fun x3=>dZ (dO C K d) (fun x4=>k (.k (.xC x0 x1 x2 x3 x4))))))) (N/53) else bif Nat.beq (N%53) 17 then dO C K d (fun x0=>k (.k (.wo x0))) (N/53) else bif Nat.beq (N%53) 18 then dO C K d (fun x0=>k (.k (.box x0))) (N/53) else bif Nat.beq (N%53) 19 then dO C K d (fun x0=>dO C K d (fun x1=>dO C K d (fun x2=>k (.k (.pick x0 x1 x2))))) (N/53) else bif Nat.beq (N%53) 20 then dO C K d (fun x0=>dO C K d (fun x1=>k (.k (.min x0 x1)))) (N/53) else bif Nat.beq (N%53) 21 then dN 30 (fun x0=>dN 30 (fun x1=>dO C K d (fun x2=>k (.k (.om x0 x1 x2))))) (N/53) else bif Nat.beq (N%53) 22 then dN 30 (fun x0=>dB (fun x1=>dO C K d (fun x2=>dO C K d (fun x3=>k (.k (.cmp x0 x1 x2 x3)))))) (N/53) else bif Nat.beq (N%53) 23 then dO C K d (fun x0=>k (.k (.Fw x0))) (N/53) else bif Nat.beq (N%53) 24 then dO C K d (fun x0=>k (.k (.HL x0))) (N/53) else bif Nat.beq (N%53) 25 then dN 30 (fun x0=>dO C K d (fun x1=>k (.k (.cH x0 x1)))) (N/53) else bif Nat.beq (N%53) 26 then dN 30 (fun x0=>dN 30 (fun x1=>dO C K d (fun x2=>dO C K d (fun x3=>k (.k (.mM x0 x1 x2 x3)))))) (N/53) else bif Nat.beq (N%53) 27 then dN 30 (fun x0=>dN 30 (fun x1=>dB (fun x2=>dO C K d (fun x3=>dO C K d (fun x4=>k (.k (.vH x0 x1 x2 x3 x4))))))) (N/53) else bif Nat.beq (N%53) 28 then dN 30 (fun x0=>dB (fun x1=>dO C K d (fun x2=>k (.k (.nn x0 x1 x2))))) (N/53) else bif Nat.beq (N%53) 29 then dN 30 (fun x0=>dN 30 (fun x1=>dO C K d (fun x2=>dO C K d (fun x3=>k (.k (.qS x0 x1 x2 x3)))))) (N/53) else bif Nat.beq (N%53) 30 then dN 30 (fun x0=>dN 30 (fun x1=>dO C K d (fun x2=>dO C K d (fun x3=>k (.k (.rG x0 x1 x2 x3)))))) (N/53) else bif Nat.beq (N%53) 31 then dN 30 (fun x0=>dV C (fun x1=>dO C K d (fun x2=>k (.k (.z6 x0 x1 x2))))) (N/53) else bif Nat.beq (N%53) 32 then dN 30 (fun x0=>dJ [.i64,.u64,.u8,.i32,.u32,.i16,.u16,.i8] .i64 (fun x1=>dI (fun x2=>dN 30 (fun x3=>k (.k (.DS x0 x1 x2 x3)))))) (N/53) else bif Nat.beq (N%53) 33 then dO C K d (fun x0=>k (.panic x0)) (N/53) else bif Nat.beq (N%53) 34 then dF (fun x0=>dL (dO C K d) 900 (fun x1=>dL (dO C K d) 900 (fun x2=>k (.k (.func x0 x1 x2))))) (N/53) else bif Nat.beq (N%53) 35 then k (.k (.mkMap)) (N/53) else bif Nat.beq (N%53) 36 then dB (fun x0=>dB (fun x1=>dV C (fun x2=>dO C K d (fun x3=>dO C K d (fun x4=>k (.k (.look x0 x1 x2 x3 x4))))))) (N/53) else bif Nat.beq (N%53) 37 then dB (fun x0=>dO C K d (fun x1=>dO C K d (fun x2=>dO C K d (fun x3=>k (.k (.ins x0 x1 x2 x3)))))) (N/53) else bif Nat.beq (N%53) 38 then dJ [.i64,.u64,.u8,.i32,.u32,.i16,.u16,.i8] .i64 (fun x0=>dI (fun x1=>dO C K d (fun x2=>dO C K d (fun x3=>k (.k (.pq x0 x1 x2 x3)))))) (N/53) else bif Nat.beq (N%53) 39 then dO C K d (fun x0=>dO C K d (fun x1=>k (.k (.max x0 x1)))) (N/53) else bif Nat.beq (N%53) 40 then dN 30 (fun x0=>dO C K d (fun x1=>k (.k (.zb x0 x1)))) (N/53) else bif Nat.beq (N%53) 41 then dN 30 (fun x0=>dO C K d (fun x1=>k (.k (.uD x0 x1)))) (N/53) else bif Nat.beq (N%53) 42 then dO C K d (fun x0=>k (.k (.uo x0))) (N/53) else bif Nat.beq (N%53) 43 then dB (fun x0=>dO C K d (fun x1=>k (.k (.HD x0 x1)))) (N/53) else bif Nat.beq (N%53) 44 then dN 30 (fun x0=>dL (dV C) 900 (fun x1=>dO C K d (fun x2=>k (.k (.DY x0 x1 x2))))) (N/53) else bif Nat.beq (N%53) 45 then dN 30 (fun x0=>dL (dV C) 900 (fun x1=>dL (dO C K d) 900 (fun x2=>k (.k (.vG x0 x1 x2))))) (N/53) else bif Nat.beq (N%53) 46 then dN 30 (fun x0=>dO C K d (fun x1=>k (.k (.IM x0 x1)))) (N/53) else bif Nat.beq (N%53) 47 then dN 30 (fun x0=>dO C K d (fun x1=>dZ (dO C K d) (fun x2=>dZ (dO C K d) (fun x3=>dZ (dO C K d) (fun x4=>k (.k (.EJ x0 x1 x2 x3 x4))))))) (N/53) else bif Nat.beq (N%53) 48 then dN 30 (fun x0=>dO C K d (fun x1=>dO C K d (fun x2=>k (.k (.HR x0 x1 x2))))) (N/53) else bif Nat.beq (N%53) 49 then dN 30 (fun x0=>dN 30 (fun x1=>dO C K d (fun x2=>dO C K d (fun x3=>k (.k (.th x0 x1 x2 x3)))))) (N/53) else bif Nat.beq (N%53) 50 then dN 30 (fun x0=>dN 30 (fun x1=>dL (dV C) 900 (fun x2=>dO C K d (fun x3=>dO C K d (fun x4=>k (.k (.sI x0 x1 x2 x3 x4))))))) (N/53) else bif Nat.beq (N%53) 51 then k (.k .bad) (N/53) else dT C K d k (N/53)
def dX (k:MX->Nat->β) (N:Nat):β:=bif Nat.beq (N%4) 0 then dO C K d (fun x0=>k (.k (.ou x0))) (N/4) else bif Nat.beq (N%4) 1 then dN 30 (fun x0=>dB (fun x1=>dO C K d (fun x2=>k (.k (.load x0 x1 x2))))) (N/4) else bif Nat.beq (N%4) 2 then dJ [.add,.sub,.mul,.quo,.rem,.and,.or,.xor,.shl,.shr,.andNot,.eql,.neq,.lss,.leq,.gtr,.geq] .add (fun x0=>dO C K d (fun x1=>dO C K d (fun x2=>k (.k (.bin x0 x1 x2))))) (N/4) else dX1 C K d k (N/4)
def dU (f:Nat×Bool->Nat->β) (g:Nat×Bool) (N:Nat):β:=bif Nat.beq (N%2) 0 then f g (N/2) else dS K (fun x=>dB fun y=>f (x,y)) (N/2)
def dP (m i:Nat) (g:Nat×Bool) (k:aX->Nat->Nat->Nat->Nat×Bool->Nat->β) (N:Nat):β:=
 bif Nat.beq (N%2) 0 then dX C K d (fun x=>k ⟨i,some (d+1),none,x⟩ (i+1) (d+1) (bif Nat.ble m (d+1) then d+1 else m) g) (N/2)
 else bif Nat.beq (N/2%7) 0 then dX C K d (fun x=>k ⟨i,none,none,x⟩ (i+1) d m g) (N/14)
 else bif Nat.beq (N/2%7) 1 then dX C K d (fun x=>k ⟨i,some (m+1),none,x⟩ (i+1) (m+1) (m+1) g) (N/14)
 else bif Nat.beq (N/2%7) 2 then dS K (fun e=>dX C K d (fun x=>k ⟨i,some e,none,x⟩ (i+1) e (bif Nat.ble m e then e else m) g)) (N/14)
 else bif Nat.beq (N/2%7) 3 then dU K (fun g=>dX C K d (fun x=>k ⟨i,none,some g,x⟩ (i+1) d m g)) g (N/14)
 else bif Nat.beq (N/2%7) 4 then dU K (fun g=>dX C K d (fun x=>k ⟨i,some (d+1),some g,x⟩ (i+1) (d+1) (bif Nat.ble m (d+1) then d+1 else m) g)) g (N/14)
 else dS K (fun e=>dU K (fun g=>dX C K d (fun x=>k ⟨i,some e,some g,x⟩ (i+1) e (bif Nat.ble m e then e else m) g)) g) (N/14)
def dm (m i:Nat) (g:Nat×Bool) (k:aX->Nat->Nat->Nat->Nat×Bool->Nat->β) (N:Nat):β:=bif Nat.beq (N%2) 1 && Nat.beq (N/2%7) 6 then dN 30 (fun i=>dP C K d m i g k) (N/14) else dP C K d m i g k N
end
section
variable {β:Type} (C:Option (List AV)) (K:Nat)
def dR:Nat->Nat->Nat->Nat->Nat×Bool->(List aX->Nat->Nat->Nat×Bool->Nat->β)->Nat->β
 |0,d,m,_,g,k,N=>k [] d m g N
 |f+1,d,m,i,g,k,N=>bif Nat.beq (N%2) 1 then dm C K d m i g (fun x i d m g=>dR f d m i g (fun xs=>k (x::xs))) (N/2) else k [] d m g (N/2)
def dQ:Nat->Nat->Nat->Nat->Nat×Bool->(bC->Nat->Nat->Nat->Nat×Bool->Nat->β)->Nat->β
 |0,d,m,i,g,k,N=>k .done i d m g N
 |f+1,d,m,i,g,k,N=>bif Nat.beq (N%4) 0 then dm C K d m i g (fun o i d m g=>dB fun a=>dB fun b=>dQ f d m i g (fun r=>k (.one o a b r))) (N/4)
  else bif Nat.beq (N%4) 1 then k .done i d m g (N/4)
  else bif Nat.beq (N%4) 2 then dm C K d m i g (fun o i d m g=>dB fun a=>dQ f d m i g (fun r i d m g=>dm C K d m i g (fun o' i d m g=>dB fun a'=>dQ f d m i g (fun r'=>k (.two o a r o' a' r'))))) (N/4)
  else dm C K d m i g (fun o i d m g=>dB fun a=>dQ f d m i g (fun r i d m g=>dm C K d m i g (fun o' i d m g=>dB fun a'=>dQ f d m i g (fun r' i d m g=>dm C K d m i g (fun o2 i d m g=>dB fun a2=>dQ f d m i g (fun r2=>k (.iB o a r o' a' r' o2 a2 r2))))))) (N/4)
variable (P:List MC)
def x9:Nat->Nat->Nat->Nat×Bool->List Nat->(MC->Nat->Nat->Nat×Bool->List Nat->Nat->β)->Nat->β
 |0,d,m,g,p,k,N=>k .bad d m g p N
 |f+1,d,m,g,p,k,N=>bif Nat.beq (N%4) 0 then x9 f d m g p (fun a d m g p=>x9 f d m g p (fun b=>k (.seq a b))) (N/4)
  else bif Nat.beq (N%4) 1 then dR C K 900 d m 0 g (fun l d m g=>dk K d p (fun p=>k (.iF l p) d m g p)) (N/4)
  else bif Nat.beq (N%4) 2 then dO C K d (fun c=>x9 f d m g p (fun a d m g p=>x9 f d m g p (fun b=>k (.cond c a b)))) (N/4)
  else bif Nat.beq (N/4%9) 0 then dQ C K 900 d m 0 g (fun l _ d m g=>dL (dN 30) 900 (fun q=>dk K d p (fun p=>k (.any l q p) d m g p))) (N/36)
  else bif Nat.beq (N/4%9) 1 then dk K d p (fun q=>x9 f d m g q (fun a=>k (.named q a))) (N/36)
  else bif Nat.beq (N/4%9) 2 then k .ret d m g p (N/36)
  else bif Nat.beq (N/4%9) 3 then dN 30 (fun i=>x9 f d m g p (fun a=>k (.block i a))) (N/36)
  else bif Nat.beq (N/4%9) 4 then dN 30 (fun i=>k (.exit i) d m g p) (N/36)
  else bif Nat.beq (N/4%9) 5 then x9 f d m g p (fun a=>k (.loop a)) (N/36)
  else bif Nat.beq (N/4%9) 6 then k .skip d m g p (N/36)
  else bif Nat.beq (N/4%9) 7 then k .bad d m g p (N/36)
  else dN 30 (fun i=>k (P.getD i .bad) d m g p) (N/36)
end
def dM:Nat->MC:=dN 30 fun K=>x9 none K [] 900 0 0 (0,false) [] fun m _ _ _ _ _=>m
def dC (C:List AV) (P:List MC):Nat->MC:=dN 30 fun K=>x9 (some C) K P 900 0 0 (0,false) [] fun m _ _ _ _ _=>m
def rO {a b:MC} (_:a=b):MC:=b
def rP {a b:MC} (_:a=b):MC:=b
def au {P:Program} {n f:Nat} {Q:er} {a b:MC} {h:a=b} {k:List MI} {D:ep} {F:Fr} {S:St} (hm:mw P n Q f (.code b::k) D F S):mw P n Q f (.code (rP h)::k) D F S:=hm
def ar {P:Program} {n:Nat} {Q:er} {a b:MC} {h:a=b} {k:List MI} {D:ep} {F:Fr} {S:St} (hm:mw P n Q 60 (.code b::k) D F S):af P n (.code (rP h)::k) D F S Q:=ab 60 hm
end Go.V
