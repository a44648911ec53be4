/- Contracts by hand: printed numbers are short. -/
import Derived.Test.YtoopnalhhfmgaaaGreatDoorEC
import Derived.Test.YtoopnalhhfmgaaaGreatDoorVC
import Derived.Test.YtoopnalhhfmgaaaGreatDoorQA
set_option linter.defProp false
set_option linter.unusedSimpArgs false
set_option linter.unusedVariables false
namespace Go.Proofs.YtoopnalhhfmgaaaGreatDoor
open Go Go.V
set_option maxRecDepth 100000
variable {gl:List (Nat×List AV)}
variable (Ua Ub Uc Ud Ue Uf Ug Uh Ui Uj Uk Ul Um Un Uo Up:AV) (Ya Yb Yc Yd Ye Yf Yg Yh:MC)
attribute [local go_sem ↓] cu aj.ev MK.ev MK.ob Hc
attribute [local go_sem high] Hd
attribute [local go_sem] rO gn fZ lC oT py kq bU gG lF mQ AV.there AV.plus cC fV AV.gB AV.cells cn dp iH lx jE kr lE nS eg isStr fm fN appArg cS cG gQ fU cU jx bI fG jS dE St.none if_true if_false ite_self eq_self ne_eq implies_true forall_const jm.av bX.av jB.av lZ.av rU.av He
def pH (m:Int):UInt8:=UInt8.ofNat (48+m.natAbs%10)
def lQ (a:Nat) (p:Bool):Nat->Nat->Int->Bytes->Bytes
 |0,_,_,s=>s
 |k+1,i,m,s=>if i<a∨m≠0 then lQ a p k (i+1) (IntKind.i64.wrap (m.tdiv 10)) (pH m::(if p=true/\i=6 then 46::s else s)) else s
def yX (a:Nat) (p:Bool):∀ (k i:Nat) (m:Int) (s:Bytes),(lQ a p k i m s).length<=k+s.length+(if p=true/\i<=6 then 1 else 0)
 |0,_,_,_=>by simp [lQ]
 |k+1,i,m,s=>by
  rw [lQ]
  by_cases h:i<a∨m≠0
  ·rw [if_pos h];have:=yX a p k (i+1) (IntKind.i64.wrap (m.tdiv 10)) (pH m::(if p=true/\i=6 then 46::s else s))
   by_cases h1:p=true/\i=6
   ·rw [if_pos h1] at this ⊢;rw [if_neg (by omega)] at this;rw [if_pos ⟨h1.1,by omega⟩];simp only [List.length_cons] at this;omega
   ·rw [if_neg h1] at this ⊢
    by_cases h2:p=true/\i+1<=6
    ·rw [if_pos h2] at this;rw [if_pos ⟨h2.1,by omega⟩];simp only [List.length_cons] at this;omega
    ·rw [if_neg h2] at this;simp only [List.length_cons] at this;omega
  ·rw [if_neg h];omega
def zH (x:Int):(IntKind.i64.wrap x).natAbs<=9223372036854775808:=by
 rw [IntKind.wrap_i64];omega
def J3 (m:Int):(m.tmod 10=((m.natAbs%10:Nat):Int)/\decide (((m.natAbs%10:Nat):Int)<0)=false/\IntKind.i64.wrap (0- -((m.natAbs%10:Nat):Int))=((m.natAbs%10:Nat):Int))∨
  (m.tmod 10= -((m.natAbs%10:Nat):Int)/\decide (-((m.natAbs%10:Nat):Int)<0)=true/\IntKind.i64.wrap (0- -((m.natAbs%10:Nat):Int))=((m.natAbs%10:Nat):Int)):=by
 have h1:IntKind.i64.wrap (0- -((m.natAbs%10:Nat):Int))=((m.natAbs%10:Nat):Int):=by rw [aR (by omega) (by omega)];omega
 rcases Int.natAbs_eq m with h|h
 ·left;refine ⟨?_,decide_eq_false (by omega),h1⟩;rw [h];simp [Int.natAbs_natCast];rfl
 ·by_cases h0:m.natAbs%10=0
  ·left;refine ⟨?_,decide_eq_false (by omega),h1⟩;rw [h0];have h2:m.tmod 10= -((m.natAbs:Int).tmod 10):=by rw [h,Int.neg_tmod];simp
   have h3:(m.natAbs:Int).tmod 10=((m.natAbs%10:Nat):Int):=rfl;rw [h2,h3,h0];rfl
  ·right;refine ⟨?_,decide_eq_true (by omega),h1⟩;have h2:m.tmod 10= -((m.natAbs:Int).tmod 10):=by rw [h,Int.neg_tmod];simp
   have h3:(m.natAbs:Int).tmod 10=((m.natAbs%10:Nat):Int):=rfl;rw [h2,h3]
def QW (m:Int):(m.tdiv 10).natAbs=m.natAbs/10:=by rw [Int.natAbs_tdiv];rfl
def Ia (u:Nat):IntKind.i64.wrap (48+((u%10:Nat):Int))=((48+u%10:Nat):Int):=by rw [aR (by omega) (by omega)];omega
def HZ (u:Nat):IntKind.u8.wrap ((48+u%10:Nat):Int)=((48+u%10:Nat):Int):=by rw [rN (by omega) (by omega)]
def tj (m:Int):strOf [AV.int .u8 ((48+m.natAbs%10:Nat):Int)]=some [pH m]:=by
 have h:AV.int .u8 ((48+m.natAbs%10:Nat):Int)=ck (UInt8.ofNat (48+m.natAbs%10)):=by
  have h:(48+m.natAbs%10)%256=48+m.natAbs%10:=Nat.mod_eq_of_lt (by omega);rw [D6,h]
 rw [h];exact GC [_]
def KP {i:Nat} {m:Int} (hi:i<20) (h:i=0∨m.natAbs<10^(20-i)):(IntKind.i64.wrap (m.tdiv 10)).natAbs<10^(20-(i+1)):=by
 rcases Bq i with h0|h0
 ·subst h0;have:=zH (m.tdiv 10);have e:10^(20-(0+1))=10000000000000000000:=by decide
  omega
 ·have h1:m.natAbs<10^(20-i):=h.resolve_left (by omega);have e:10^(20-i)=10^(20-(i+1))*10:=by rw [<-Nat.pow_succ];congr 1;omega
  have hd:=QW m;have h2:m.natAbs/10<10^(20-(i+1)):=by rw [CF (by omega)];omega
  have h3:10^(20-(i+1))<=10^18:=Nat.pow_le_pow_right (by omega) (by omega);have e3:10^18=1000000000000000000:=by decide
  rw [aR (by omega) (by omega)];omega
def KN (a:Nat) (p:Bool) {i:Nat} {m:Int} (s:Bytes) (hi:i<20) (h:i<a∨m≠0):lQ a p (21-i) i m s=lQ a p (21-(i+1)) (i+1) (IntKind.i64.wrap (m.tdiv 10)) (pH m::(if p=true/\i=6 then 46::s else s)):=by
 have e:21-i=(21-(i+1))+1:=by omega
 rw [e,lQ,if_pos h]
def PN (a:Nat) (p:Bool) (k:Nat) {i:Nat} {m:Int} (s:Bytes) (h: ¬(i<a∨m≠0)):lQ a p k i m s=s:=by
 cases k with
 |zero=>rfl
 |succ k=>rw [lQ,if_neg h]
def KO {a i:Nat} {m:Int} (ha:a<20) (hi:i<=20) (h:i=0∨m.natAbs<10^(20-i)) (hA:i<a∨m≠0):i<20:=by
 by_cases h1:i=20
 ·subst h1;have:=h.resolve_left (by omega);simp at this;omega
 ·omega
def agc (n:Int):Pure pg gl 214 [.int .i64 n] (.ok (.str (if n<0 then 45::lQ 1 false 21 0 n [] else lQ 1 false 21 0 n []))):=by
 refine ⟨?_,by simp only [bz,cz,forall_eq_or_imp,forall_eq,implies_true],by simp only [cz,forall_eq_or_imp,forall_eq,implies_true]⟩;simp only [bz];refine .aC adF (by simp) (ab 200 ?_)
 repeat' with_reducible first|refine ar ?_|refine au ?_|refine ⟨?_,?_⟩|intro _|simp only [go_sem,seval]
 refine .ga (fun mm F S=>∃ (i:Nat) (m:Int) (s:Bytes),mm=21-i/\i<=20/\s.length=i/\(i=0∨m.natAbs<10^(20-i))/\F=[(0,AV.int .i64 n),(3,AV.str s),(4,AV.int .i64 m),(5,AV.int .i64 i)]/\S= .none gl/\lQ 1 false 21 0 n []=lQ 1 false (21-i) i m s) 21 ⟨0,n,[],rfl,by omega,rfl,.inl rfl,rfl,rfl,rfl⟩ ?_;rintro mm F S ⟨i,m,s,rfl,hi20,hs,hm,rfl,rfl,he⟩ ih
 by_cases hA:i<1∨m≠0
 ·have hi2:=KO (by omega) hi20 hm hA;have hn:=KN 1 false s hi2 hA;rw [if_neg (by simp)] at hn;have hb:=KP hi2 hm
  have H1:(decide ((i:Int)<1)=true/\True)∨(decide ((i:Int)<1)=false/\(m !=0)=true):=by
   by_cases hz:i=0
   ·exact .inl ⟨decide_eq_true (by omega),trivial⟩
   ·exact .inr ⟨decide_eq_false (by omega),by simp;omega⟩
  rcases H1 with ⟨hi,hmz⟩|⟨hi,hmz⟩<;>rcases J3 m with ⟨hq,hq1,hq2⟩|⟨hq,hq1,hq2⟩
  all_goals
   refine bp E7.eq_1 ?_
   repeat' first
    |with_reducible first|refine ar ?_|refine au ?_|refine ⟨?_,?_⟩|intro _
    |simp only [go_sem,seval,hi,hmz,hq,hq1,hq2,Ia,HZ,tj,ba (show i<9223372036854775807 by omega)]
   all_goals first
    |(intro h;cases h;done)
    |omega
    |exact ih _ _ _ (by omega) ⟨i+1,IntKind.i64.wrap (m.tdiv 10),pH m::s,rfl,by omega,by simp [hs],.inr hb,rfl,rfl,he.trans hn⟩
 ·have hi:decide ((i:Int)<1)=false:=decide_eq_false (by omega);have hmz:m=0:=by omega
  have hend:=he.trans (PN 1 false _ s hA);subst hmz;refine bp E7.eq_1 ?_
  repeat' with_reducible first|refine ar ?_|refine au ?_|refine ⟨?_,?_⟩|intro _|simp only [go_sem,seval,hi]
  ·omega
  ·rename_i h;rw [if_pos (of_decide_eq_true h),hend]
  ·rename_i h;rw [if_neg (of_decide_eq_false h),hend]
def age (n:Int):Pure pg gl 263 [.int .i64 n] (.ok (.str (if n<0 then 45::lQ 7 true 21 0 n [] else lQ 7 true 21 0 n []))):=by
 refine ⟨?_,by simp only [bz,cz,forall_eq_or_imp,forall_eq,implies_true],by simp only [cz,forall_eq_or_imp,forall_eq,implies_true]⟩;simp only [bz];refine .aC adM (by simp) (ab 200 ?_)
 repeat' with_reducible first|refine ar ?_|refine au ?_|refine ⟨?_,?_⟩|intro _|simp only [go_sem,seval]
 refine .ga (fun mm F S=>∃ (i:Nat) (m:Int) (s:Bytes),mm=21-i/\i<=20/\s.length<=i+1/\(i=0∨m.natAbs<10^(20-i))/\(i<=6->s.length<=i)/\F=[(0,AV.int .i64 n),(3,AV.str s),(4,AV.int .i64 m),(5,AV.int .i64 i)]/\S= .none gl/\lQ 7 true 21 0 n []=lQ 7 true (21-i) i m s) 21 ⟨0,n,[],rfl,by omega,by simp,.inl rfl,by simp,rfl,rfl,rfl⟩ ?_;rintro mm F S ⟨i,m,s,rfl,hi20,hs,hm,hs6,rfl,rfl,he⟩ ih
 by_cases hA:i<7∨m≠0
 ·have hi2:=KO (by omega) hi20 hm hA;have hn:=KN 7 true s hi2 hA;have hb:=KP hi2 hm
  have H1:(decide ((i:Int)<7)=true/\True)∨(decide ((i:Int)<7)=false/\(m !=0)=true):=by
   by_cases hz:i<7
   ·exact .inl ⟨decide_eq_true (by omega),trivial⟩
   ·exact .inr ⟨decide_eq_false (by omega),by simp;omega⟩
  have H2:(((i:Int)==6)=true/\i=6)∨(((i:Int)==6)=false/\i≠6):=by
   by_cases hz:i=6
   ·subst hz;exact .inl ⟨rfl,rfl⟩
   ·exact .inr ⟨by simp;omega,hz⟩
  rcases H1 with ⟨hi,hmz⟩|⟨hi,hmz⟩<;>rcases J3 m with ⟨hq,hq1,hq2⟩|⟨hq,hq1,hq2⟩<;>rcases H2 with ⟨h6,h6'⟩|⟨h6,h6'⟩
  all_goals
   refine bp E8.eq_1 ?_
   repeat' first
    |with_reducible first|refine ar ?_|refine au ?_|refine ⟨?_,?_⟩|intro _
    |simp only [go_sem,seval,hi,hmz,hq,hq1,hq2,h6,Ia,HZ,tj,ba (show i<9223372036854775807 by omega)]
   all_goals first
    |(intro h;cases h;done)
    |omega
    |(rw [if_pos ⟨rfl,h6'⟩] at hn
      have:=hs6 (by omega)
      exact ih _ _ _ (by omega) ⟨i+1,IntKind.i64.wrap (m.tdiv 10),pH m::46::s,rfl,by omega,by simp only [List.length_cons];omega,.inr hb,fun h=>by omega,rfl,rfl,he.trans hn⟩)
    |(rw [if_neg (fun h=>h6' h.2)] at hn
      exact ih _ _ _ (by omega) ⟨i+1,IntKind.i64.wrap (m.tdiv 10),pH m::s,rfl,by omega,by simp only [List.length_cons];omega,.inr hb,fun h=>by have:=hs6 (by omega);simp only [List.length_cons];omega,rfl,rfl,he.trans hn⟩)
 ·have hi:decide ((i:Int)<7)=false:=decide_eq_false (by omega);have hmz:m=0:=by omega
  have hend:=he.trans (PN 7 true _ s hA);subst hmz;refine bp E8.eq_1 ?_
  repeat' with_reducible first|refine ar ?_|refine au ?_|refine ⟨?_,?_⟩|intro _|simp only [go_sem,seval,hi]
  ·omega
  ·rename_i h;rw [if_pos (of_decide_eq_true h),hend]
  ·rename_i h;rw [if_neg (of_decide_eq_false h),hend]
def d7:Nat->Int->Bytes
 |0,_=>[]
 |k+1,n=>if-10<n/\n<10 then (if n<0 then [45,pH n] else [pH n]) else d7 k (IntKind.i64.wrap (n.tdiv 10))++[pH n]
def wU:∀ (k:Nat) (n:Int),(d7 k n).length<=k+1
 |0,_=>by simp [d7]
 |k+1,n=>by
  rw [d7];split
  ·split<;>simp
  ·have:=wU k (IntKind.i64.wrap (n.tdiv 10));rw [Ak];simp;omega
def b48 {n:Int} (h0:0<=n) (h1:n<10):IntKind.u8.wrap (IntKind.i64.wrap (48+n))=((48+n.natAbs%10:Nat):Int):=by
 rw [aR (by omega) (by omega),rN (by omega) (by omega)];omega
def afW {n:Int} (h0:n<0) (h1: -10<n):IntKind.u8.wrap (IntKind.i64.wrap (48-n))=((48+n.natAbs%10:Nat):Int):=by
 rw [aR (by omega) (by omega),rN (by omega) (by omega)];omega
def IC (n:Int) (h0: -10<n) (h1:n<10):Pure pg gl 299 [.int .i64 n] (.ok (.str (if n<0 then [45,pH n] else [pH n]))):=by
 have e1:decide (-10<n)=true:=decide_eq_true h0;have e2:decide (n<10)=true:=decide_eq_true h1;refine ⟨?_,by simp only [bz,cz,forall_eq_or_imp,forall_eq,implies_true],by simp only [cz,forall_eq_or_imp,forall_eq,implies_true]⟩;simp only [bz];refine .aC Qg (by simp) (ab 200 ?_)
 by_cases h:n<0
 ·have e3:decide (n<0)=true:=decide_eq_true h;rw [if_pos h]
  repeat' with_reducible first|refine ar ?_|refine au ?_|refine ⟨?_,?_⟩|intro _|simp only [go_sem,seval,e1,e2,e3,afW h h0,tj]
  all_goals first|omega|rfl
 ·have e3:decide (n<0)=false:=decide_eq_false h;rw [if_neg h]
  repeat' first
   |with_reducible first|refine ar ?_|refine au ?_|refine ⟨?_,?_⟩|intro _
   |simp only [go_sem,seval,e1,e2,e3,b48 (show 0<=n by omega) h1,tj]
  all_goals first|omega|rfl
def PI (hg:ae gl) (n:Int) (s:Bytes) (hs:s.length<=22) (h: ¬(-10<n/\n<10)) (ih:Pure pg gl 299 [.int .i64 (IntKind.i64.wrap (n.tdiv 10))] (.ok (.str s))):Pure pg gl 299 [.int .i64 n] (.ok (.str (s++[pH n]))):=by
 have H:decide (-10<n)=false∨(decide (-10<n)=true/\decide (n<10)=false):=by
  by_cases h1: -10<n
  ·exact .inr ⟨decide_eq_true h1,decide_eq_false (by omega)⟩
  ·exact .inl (decide_eq_false h1)
 refine ⟨?_,by simp only [bz,cz,forall_eq_or_imp,forall_eq,implies_true],by simp only [cz,forall_eq_or_imp,forall_eq,implies_true]⟩;simp only [bz];refine .aC Qg (by simp) (ab 200 ?_);rcases H with e1|⟨e1,e2⟩<;>rcases J3 n with ⟨hq,hq1,hq2⟩|⟨hq,hq1,hq2⟩
 ·skip
  repeat' with_reducible first|refine ar ?_|refine au ?_|refine .pu (ih) hg rfl ?_|refine ⟨?_,?_⟩|intro _|simp only [go_sem,seval,e1,hq,hq1,hq2,Ia,HZ,tj]
  all_goals first|omega|rfl
 ·skip
  repeat' with_reducible first|refine ar ?_|refine au ?_|refine .pu (ih) hg rfl ?_|refine ⟨?_,?_⟩|intro _|simp only [go_sem,seval,e1,hq,hq1,hq2,Ia,HZ,tj]
  all_goals first|omega|rfl
 ·skip
  repeat' with_reducible first|refine ar ?_|refine au ?_|refine .pu (ih) hg rfl ?_|refine ⟨?_,?_⟩|intro _|simp only [go_sem,seval,e1,e2,hq,hq1,hq2,Ia,HZ,tj]
  all_goals first|omega|rfl
 ·skip
  repeat' with_reducible first|refine ar ?_|refine au ?_|refine .pu (ih) hg rfl ?_|refine ⟨?_,?_⟩|intro _|simp only [go_sem,seval,e1,e2,hq,hq1,hq2,Ia,HZ,tj]
  all_goals first|omega|rfl
def PJ (hg:ae gl):∀ (k:Nat) (n:Int),k<=19->n.natAbs<10^(k+1)->Pure pg gl 299 [.int .i64 n] (.ok (.str (d7 (k+1) n)))
 |0,n,_,h=>by
  have h1: -10<n/\n<10:=by simp at h;omega
  rw [d7,if_pos h1];exact IC n h1.1 h1.2
 |k+1,n,hk,h=>by
  rw [d7]
  by_cases h1: -10<n/\n<10
  ·rw [if_pos h1];exact IC n h1.1 h1.2
  ·rw [if_neg h1];have hl:=wU (k+1) (IntKind.i64.wrap (n.tdiv 10));refine PI hg n _ (by omega) h1 (PJ hg k _ (by omega) ?_);have e:10^(k+1+1)=10^(k+1)*10:=Nat.pow_succ ..;have hd:=QW n
   by_cases h9:n.natAbs/10<9223372036854775808
   ·rw [aR (by omega) (by omega),hd,CF (by omega)];omega
   ·have:=zH (n.tdiv 10);have h3:n.natAbs/10<10^(k+1):=by rw [CF (by omega)];omega
    omega
def agi (hg:ae gl) (n:Int):Pure pg gl 299 [.int .i64 n] (.ok (.str (d7 20 n))):=by
 rw [d7]
 by_cases h1: -10<n/\n<10
 ·rw [if_pos h1];exact IC n h1.1 h1.2
 ·rw [if_neg h1];have hl:=wU 19 (IntKind.i64.wrap (n.tdiv 10));have:=zH (n.tdiv 10)
  exact PI hg n _ (by omega) h1 (PJ hg 18 _ (by omega) (by
   have e:10^(18+1)=10000000000000000000:=by decide
   omega))
def zb {P:Program} {gl:List (Nat×List AV)} {f:FuncId} {out:Int} {F:Int->Bytes} (h:∀ n,Pure P gl f [.int .i64 n] (.ok (.str (F n)))) (hl:∀ n,((F n).length:Int)<=out):Spec P gl f (bx [.c (.i .i64)] [.c .s] 1048576 out (.aY 0) [] []) (fun _=>True):=
 gR (fun ρ vs hv _ _ _=>by
  obtain ⟨w,ws,rfl,⟨n,rfl,_⟩,rfl⟩:=hv
  exact ⟨[.str (F n)],h n,⟨_,_,rfl,⟨_,rfl,hl n⟩,rfl⟩,aH.nil _⟩) fun _ _ _=>rE
def NZ:az:=bx [.c (.i .i64)] [.c .s] 1048576 22 (.aY 0) [] []
def Pd (hg:ae gl):Spec pg gl 214 NZ (fun _=>True):=zb agc fun n=>by
 have:=yX 1 false 21 0 n [];simp at this;split<;>simp<;>omega
def aiL:az:=bx [.c (.i .i64)] [.c .s] 1048576 22 (⟨0,[]⟩) [] []
def alL (hg:ae gl):Spec pg gl 299 aiL (fun _=>True):=zb (agi hg) fun n=>by
 have:=wU 20 n;omega
def aio:az:=bx [.c (.i .i64)] [.c .s] 1048576 30 (.aY 0) [] []
def als (hg:ae gl):Spec pg gl 263 aio (fun _=>True):=zb age fun n=>by
 have:=yX 7 true 21 0 n [];simp at this;split<;>simp<;>omega
abbrev Sp (gl:List (Nat×List AV)) (f:FuncId) (sg:az):Prop:=Spec pg gl f sg (fun _=>True)
def ahc:az:=bx [tE,.c (.i .i64)] [.c (.i .i64)] 1048576 1048576 (⟨1,[(13,1)]⟩) [] []
def aaR (hg:ae gl):Sp gl 114 ahc:=ay hg (aJ [⟨114,[5],[],[],[],[],[⟨0,[(1,.v 5 0),(-1,.v0 5 0)]⟩],⟨0,[(1,.o 0 7),(-1,.v 5 0)]⟩,[],[]⟩,⟨938,[1,6],[],[],[],[],[⟨0,[(1,.v 6 0),(-1,.v0 6 0)]⟩],⟨0,[(1,.o 0 11),(-1,.v 6 0)]⟩,[],[]⟩] []) xn 76 (dM 0x1cd43412d58d576aa71769c9805f84520fd1b3b196f4ff8fa38aeab2b1223c8b4cf390f4070596e534a211609248a549fd983938d38812cc5fd2e7a21c853faf9b0e3e08c47590e08c4693da1a15711c525b0b634e291852fc243fa7c17bbee56a58fb33e01a20fae016dde27aeef4297aa9f75318643c53a1fffc914517448ed8a2c2fcad5a0eb79c5943b286082176fa4c59707253677216d621cfe6a01fd42f91f52bdf3a292ccbe092efb7553038f434a5e7929e305a8ed625fe289762ddf816b9890c28f8cdc5111710fcdd2fc68e453e9e4e7bfef000778639918c18a18c4bfde9e49b8570b933419c) [.t 4] Tryz.func114 (by kernel_rfl)
def ahb:az:=bA [tT] [.c .b]
def aaQ (hg:ae gl):Sp gl 113 ahb:=ay hg (aJ [] []) (xc (aaR hg) xn) 10 (dM 0x5886ada3d24243f3a958d28a65dca068968468f7062bd1b79e91857f0aa17453efe58d215cd41a) [.t 2] Tryz.func113 (by kernel_rfl)
def g74:az:=bA [.a [.s,.s,.l 4 103,.i .i64]] [.c .b]
def s74 (hg:ae gl):Sp gl 74 g74:=ay hg (aJ [⟨26,[3],[],[],[],[],[⟨0,[(1,.v 3 0),(-1,.v0 3 0)]⟩],⟨0,[(1,.o 0 2),(-1,.v 3 0)]⟩,[],[]⟩] []) (xc (aaQ hg) xn) 43 (dM 0x19a55b567145635a0e2a659d63a117e2317343872d74a11ab1ffba8237c027ce719a774d36163d7704a77a9e12fa98cf0746cf0beafc141509cae01f1c6e6b6b3664aa2b49bb55e939d1fe8a4eb365c092f134bf2f4edfc5a21ed5941a7bf580df3c959212d011bab9769a250abe3af7c69bbbece31215cd45b) [.t 2] Tryz.func74 (by kernel_rfl)
def g75:az:=bA [tF] [.c .b]
def s75 (hg:ae gl):Sp gl 75 g75:=ay hg (aJ [] []) (xc (aaQ hg) (xc (aaR hg) xn)) 22 (dM 0x997aed50fcd94e5a584013a7ab4ccd594e58ed852797b9dc14ed0bc536094c0e65dc81d45255cb402015684e373b84a8616b92e5215cd42e) [.t 2] Tryz.func75 (by kernel_rfl)
def g47:az:=bA [tH] [.c .b]
def s47 (hg:ae gl):Sp gl 47 g47:=ay hg (aJ [] []) (xc (s74 hg) (xc (s75 hg) xn)) 17 (dM 0x14999557b2087f545f98e0a8afbbcc60e7a50facba4f0675eb8a3d28502d4cf6daf8d147f8d8481ab215cd429) [.t 2] Tryz.func47 (by kernel_rfl)
def g20:az:=bA [.c (.l 40 88)] [.c .b]
def s20 (hg:ae gl):Sp gl 20 g20:=ay hg (aJ [⟨26,[3],[],[],[],[],[⟨0,[(1,.v 3 0),(-1,.v0 3 0)]⟩],⟨0,[(1,.v 0 0),(-1,.v 3 0)]⟩,[],[]⟩,⟨26906,[5],[],[],[],[],[⟨0,[(1,.v 5 0),(-1,.v0 5 0)]⟩],⟨0,[(1,.o 0 7),(-1,.v 5 0)]⟩,[],[]⟩] []) (xc (s47 hg) xn) 94 (dM 0x2662e2295f895c7e10db89f851747b6d660a8b73c3cabc05f580f437540986f8e30aa9d4b722095c358bcba937ecd9bdf8a3475e50f28521efbdc0fa88de589bbd0b2c5156505257ad30588deb9de62ba9caff9bb08f2c034a8c51243d54ba592a37d21ae94bd9c547cead704068146d7afb9b17218180c52b62735aeb6976fc7b8a7512b9f5915b3d057308dfa9e9ee76169eea466f80a4e8ff57144faf105ab0e677a057bb2c2592316954fafb8240c6759d413d5de95370c2c401707e6046e77d74b9e5bd6a0b405fc458455583695959165f982921623e833a58f17879668bc8d639085a6d33e0cbd526fabf6cedf85eb1a22d8b65db7592cd1ef8078247c43a3ebf0fea45f28dab2fd936220a17341f64b90aea940d92e82c833390eb4c892815a683da2e9611ce7ab03301f7b479bca341be) [.t 2] Tryz.func20 (by kernel_rfl)
def ah1:az:=bA [.c (.l 2 252),.c (.l 2 252)] [.c .b]
def aa1 (hg:ae gl):Sp gl 217 ah1:=ay hg (aJ [⟨58,[5],[],[],[],[],[⟨0,[(1,.v 5 0),(-1,.v0 5 0)]⟩],⟨0,[(1,.v 0 0),(-1,.v 5 0)]⟩,[],[]⟩] []) xn 26 (dM 0x2850f63de7672c777ba08b9f35217896910572d2f5d0a2969af09d98c1d126e4883913f4a2c261eac7510ea5146d003b30e446b690070e5fe68df57839ac1d76bf4f50778aa76418db3d2f1e74ebc0e59b43a) [.t 4] Tryz.func217 (by kernel_rfl)
def ahJ:az:=bA [tT,tT] [.c .b]
def aaY (hg:ae gl):Sp gl 177 ahJ:=ay hg (aJ [] []) (xc (aa1 hg) xn) 24 (dM 0x7592c189d481dad4f2eb7f4544f34d7ef8ca4147c42016f3cead30aa50630a8cac6ffb99a9ca0889c54b15b51b4d99a8df5c7231a6716ba23438) [.t 4] Tryz.func177 (by kernel_rfl)
def ahl:az:=bA [.a [.s,.s,.l 4 103,.i .i64],.a [.s,.s,.l 4 103,.i .i64]] [.c .b]
def aaS (hg:ae gl):Sp gl 124 ahl:=ay hg (aJ [⟨114,[5],[],[],[],[],[⟨0,[(1,.v 5 0),(-1,.v0 5 0)]⟩],⟨0,[(1,.o 0 2),(-1,.v 5 0)]⟩,[],[]⟩] []) (xc (aaY hg) xn) 72 (dM 0x53c2c96a12541dbd1e0db74f5b397dacbd401f639e4c10559a069e9e3685b02896a6a2ce2a8bb5e54248bed60806676d0f3393e75ec584ace933c044fe04c8c46c8c23db3392478b8533afbafce5f1edb1e2a7dddbc557a50c0b396bbb6dc0eda343701731e5c5724ccceedd5acf1795d679e8fc3835035e1f5574bb1d0d84cad9c2cd40d70204a50c35ac573e7375c8d703a7d48677f505cf91b9989742dda3edc5ad008a13cee45a6df6cc27d94f1b490f59688de0792338a794b8386687934c59e20c5372b1d1176406efbcf6684388def91da82776c2de34198) [.t 4] Tryz.func124 (by kernel_rfl)
def ahK:az:=bx [tE,tE] [.c .b] 1048576 1048576 (⟨1,[(27,1)]⟩) [] []
def akZ (hg:ae gl):Sp gl 178 ahK:=ay hg (aJ [⟨114,[5],[],[],[],[],[⟨0,[(1,.v 5 0),(-1,.v0 5 0)]⟩],⟨0,[(1,.o 0 11),(-1,.v 5 0)]⟩,[],[]⟩] []) (xc (aa1 hg) xn) 89 (dM 0x2564e037f4542aefbd44a6631e3d8252188b1e15e079f711c409a25f5165c206b4f68199f896960b7cf62eda3a5a83c17501be2084db09cd7935afe7fa6d803c489acd7d4ecad9ff18a12ba79c34521cd29484a9888b1f0917f054d3f2b971ca2798874120bf11870c8325a77ae2fc45c7c752ef0f1337a8d30dec8774b5f0efac836a50d8be53af4e09b18f0b800d4777535703dc2c8100f6512415c69ce5676e95c0e993bac59bcb9b8be7d6119c9930046532d492f603eb9f4b22c7223325f0ac0d2bfd02e36d1d9304f358f957b0c19ba84c0e0cc4aa205d31210f86df4345ab082a74b3b129b94cb5292c6249ed4e6d0b231585b3e65c891c42c0662622bb7920844557e8a820c3741b9) [.t 4] Tryz.func178 (by kernel_rfl)
def ahm:az:=bA [tF,tF] [.c .b]
def aaT (hg:ae gl):Sp gl 125 ahm:=ay hg (aJ [] []) (xc (aaY hg) (xc (akZ hg) xn)) 42 (dM 0x147d6757df216236f0d3167299ac8d3eeefe8baca7e042079f6954ac874721bd22a48955b4af42dcd059f8ee463897ea336eebcfb550fd4bd6c05fdefa698b039c7a1688eabcf1b5841396f6be60df3a5c12effe5b8600bb66562b3199b3b2afb49d8f0d125c63ae0858b45a) [.t 4] Tryz.func125 (by kernel_rfl)
def g82:az:=bA [tH,tH] [.c .b]
def s82 (hg:ae gl):Sp gl 82 g82:=ay hg (aJ [] []) (xc (aaS hg) (xc (aaT hg) xn)) 31 (dM 0x977cdec15883a50ddf6734db2083fed0c57d28a0fdedf48c6a4a7e2e8c0e05157ccfabdb28f0c583e51ba80b57c75bbcff5376f3c752968aa255491eb93a082e3257484561b8140570eb6af3c75af43f) [.t 4] Tryz.func82 (by kernel_rfl)
def g51:az:=bA [tH] [.c .b]
def s51 (hg:ae gl):Sp gl 51 g51:=ay hg (aJ [] []) (xc (s82 hg) xn) 29 (dM 0x63fe98a021124ca3c682ea548a5642d66b12b9428d3828b78685288d457a8f95cc470240ed7253edc5bc2ee381f66baae24403d0a55287d37c975b4cb60c6a9f2a76198b1a8046bfb496ef82cfc714e47ff807f6cea059b03a704d8b572d2ae459807144a2546a616e905757d0d9b0702f042b84aa88e0cad15cb67628ad9cbbcfac261aa12cc2a45e3fbf768bab0d2fda38620d5ce08f96c7cb612eba928ad1abe413215cd43d) [.t 2] Tryz.func51 (by kernel_rfl)
def g54:az:=bA [tC,.c .s] [.a [.s,.s,.l 4 103,.i .i64],.c .b]
def QR (hg:ae gl):Sp gl 54 g54:=ay hg (aJ [⟨26,[6],[],[],[],[],[⟨0,[(1,.v 6 0),(-1,.v0 6 0)]⟩],⟨0,[(1,.o 0 0),(-1,.v 6 0)]⟩,[],[]⟩] []) xn 28 (dM 0xf6c09307e3b9674ac66959a9f59eb098cb20a89801c574164830d3f45c08789982d7d92ea311d279c5ba5b6fa08f2dbb25088a78b217672085868e161ab0da0ce6acf115dddc63e48f7516c0e86fb92cfc7febd204c38e20c17343c) [.c 4 4 true,.t 5] Tryz.func54 (by kernel_rfl)
def g83:az:=bx [tC,.a [.s,.s,.l 4 103,.i .i64]] [tC,.c (.i .i64)] 1048576 1048580 (.aY 0) [] [⟨1,[(0,1),(13,-1)]⟩,⟨1,[(2,1),(15,-1)]⟩,⟨1,[(4,1),(17,-1)]⟩,⟨1,[(6,1),(19,-1)]⟩,⟨0,[(21,1)]⟩]
def s83 (hg:ae gl):Sp gl 83 g83:=ay hg (aJ [⟨124,[8],[],[],[],[],[⟨0,[(1,.v 8 0),(-1,.v0 8 0)]⟩,⟨0,[(1,.o 0 0),(-1,.v 8 0)]⟩],⟨0,[(1,.o 0 0),(-1,.v 8 0)]⟩,[],[]⟩] []) (xc (QR hg) xn) 54 (dM 0x1f9b62d37e617473ee0eb0fab973eb80fabdfcc296674fbe06817722cec8fc6ba199a48f95e8c68b2e9f4a30ea04a59c226a46b9316276091c70f95068f7f89f39755a49c6990f838d0decfb40a2394bb3a8fb7fe1db4502905b60cbf3116d21dd7a53da5e36a30c96d997ee2602ac1a97a6e20be9b7d1a804ece7725bc898224a5b802c2b4923de386b10a283579ad9994efbc34111e8f7a9057fe44e29d02f88bc49d01526d6318aa791aa4c2cab398501f486d4e1d0fd9c0c1f9b6f3897cc8eac6fb0e072bf8645e491bb0b20dc355ca73ae46e27b46e) [.c 4 4 true,.t 5] Tryz.func83 (by kernel_rfl)
def ahW:az:=bA [.c (.i .u8)] [.c .b]
def ak6 (hg:ae gl):Sp gl 209 ahW:=ay hg (aJ [] []) xn 9 (dM 0x155a1bd70d4d00b74cb0f59a79234dadaab6a6da0f93419) [.t 2] Tryz.func209 (by kernel_rfl)
def ahX:az:=bA [.c (.i .u8)] [.c .b]
def ak7 (hg:ae gl):Sp gl 210 ahX:=ay hg (aJ [] []) xn 9 (dM 0x155a1bd70d4e764253861fb79392eeee36a6da0f93419) [.t 2] Tryz.func210 (by kernel_rfl)
def ahz:az:=bx [.c (.l 1 5),.c (.i .i64)] [.c (.i .i64)] 1048576 1048576 (.aY 0) [⟨0,[(2,1)]⟩,⟨-1,[(0,1),(2,-1)]⟩] []
def akT (hg:ae gl):Sp gl 166 ahz:=ay hg (aJ [⟨60,[5],[],[],[],[],[⟨-1,[(1,.v 5 0)]⟩,⟨0,[(1,.v 0 0),(-1,.v 5 0)]⟩],⟨0,[(1,.v 0 0),(-1,.v 5 0)]⟩,[],[]⟩] []) (xc (ak6 hg) (xc (ak7 hg) xn)) 48 (dM 0x4722e37b9cd69baed6031b23062a4a3a7e1b05560a426469b4c639af6f55a855a7793f04b46a724eb6e051e959beacbfaacf20d5f173161db17a475c1d2ab36cf5ae375c3896c13463a3ec1d4e7ef6c4532d8d0f707b4e3ba49c9e1b2195eb81ff0a85f0a5240291408f5fd97e5df0512029a010e99207a7101da95745c00a615593744c3f7b468) [.t 4] Tryz.func166 (by kernel_rfl)
def ahA:az:=bA [.c .s] [.c .b]
def akU (hg:ae gl):Sp gl 167 ahA:=ay hg (aJ [] [⟨26,[4],[],[],[],[],[],⟨0,[(1,.v 4 0)]⟩,[],[]⟩,⟨213,[24],[],[3],[],[],[],⟨0,[(1,.v 24 0)]⟩,[],[]⟩]) xn 40 (dM 0x2311f40c82e0bb5e7e5e44c573c9cfcad78d52ca9340a4605f828c9c27b908ff38bc80a59680f48e3630e0f596ab71451abebafa59051fc33d496695da722219f9ce5b2ff9113201d0e9984d8741f21629339e049cabfa24230f2c2e373d8e81012f9e28a481f3d8b2ca2f8159be7ddbdbd1c2675e698758843d19329f06344109df6200d09816e0760c9e76faedc73ad641ed1a99ebb9674f0bc350258fb9a8bf4b7158e2da8ff7c52bff694ee536c9bc058a28fadbdd6209267529e6af5bcafbb35516580fa8056853350fb48b1b0b1b11169e9f0cfe346d80bb478d081cfc9aa1f848121768aad2ad39a591d998bdff839ff9b56731718b7e3858f6a545cd40140fba248f013563450d90ca70f9fa60880d41efc11e1c3a524bbc9960876517c0153ca152d8b2d9052928ec1ab54f19d5fbd2bb94a50707570d482a755e2f96cbbe68371ef1581c4cd66f64e66cc8032c08be73586f35578b1c2fe2f6a38a8dd4ab97337049d61c6f1befa27ecd2779cf5fbcd34a7bcb62d812f838b033863609fb7e7de10d6c7c6d5b2e2cec8d75de4e1e22ae9c78e18cbb650b8290a40e779974fd5fede3f370f2b1f60c3458) [.t 2] Tryz.func167 (by kernel_rfl)
def ahh:az:=bA [.c .s] [.c .b]
def s9 (hg:ae gl):Sp gl 119 ahh:=ay hg (aJ [] []) (xc (akT hg) (xc (akU hg) xn)) 23 (dM 0x263ef20aae321cf6d2f905e3280b6acb6e464cff407e977a09d7df994b9aafadf6efb214b3f0c5fc6d141b956310aa59f4098250af342f) [.t 2] Tryz.func119 (by kernel_rfl)
def ahL:az:=bA [tT] [.c .b]
def JQ (hg:ae gl):Sp gl 179 ahL:=ay hg (aJ [] []) xn 11 (dM 0x177718f3ad04e735198767e79c9f32da4de2a554897f215cd41b) [.t 2] Tryz.func179 (by kernel_rfl)
def ah2:az:=bA [.c .s] [.c .b]
def aa2 (hg:ae gl):Sp gl 218 ah2:=ay hg (aJ [⟨114,[3],[],[],[],[],[⟨0,[(1,.v 3 0),(-1,.v0 3 0)]⟩],⟨0,[(1,.v 0 0),(-1,.v 3 0)]⟩,[],[]⟩] [⟨457,[61],[],[],[],[],[],⟨0,[(1,.v 61 0)]⟩,[],[]⟩]) xn 62 (dM 0xa12099020b03ee38489affd62d3545951b3e3819c925048653e7e1deb6b0f6b825009ba71ae64a292ca3e9b3d0442758a18d02e67a2751a134574a42202980a37f358ff7418e4e0759c8f54271b43c50516324f0d6ac7a5dc3e73ddf233572ad72df70fafd2a02942debc5fd2c4e9c91d71233694d17c2a194c21276f3a226127c969fbf2c12833579434d8f946740dec1cce67c8c0eed228abfbd18baa7f4a2e9f9797147cd118e760276158ed4cd24e83ac907b266abfb185e0a2a347e) [.t 2] Tryz.func218 (by kernel_rfl)
def ah3:az:=bA [.c (.i .i64)] [.c .b]
def aa3 (hg:ae gl):Sp gl 219 ah3:=ay hg (aJ [] []) xn 9 (dM 0x30cdf6632b7a2f2f23fd92d9d4af442ec6da0f93419) [.t 2] Tryz.func219 (by kernel_rfl)
def ahM:az:=bx [.c (.l 2 252)] [.c (.i .i64)] 1048576 1048576 (.aY 0) [] [⟨0,[(2,1)]⟩]
def Pb (hg:ae gl):Sp gl 180 ahM:=ay hg (aJ [⟨58,[3],[],[],[],[],[⟨0,[(1,.v 3 0),(-1,.v0 3 0)]⟩],⟨0,[(1,.v 0 0),(-1,.v 3 0)]⟩,[],[]⟩] []) (xc (aa2 hg) (xc (aa3 hg) xn)) 52 (dM 0x4792ec9d2e8e8b1517d3ece52fa167226dd17417169e1408c83c5e30c1f4d1c81afdfe60aad965169c3e4aedceebd9a62efadf54b78c40347044fc4c9691ced469fc8561600efcd97ab5ab9f3d527f07f18b77735fbbc2f4ac0618b2e432775a1c5b35013a04c676634974b79e1aa10074cb034efb277472a096ab54ab2d077093b81289039f52c09b9cf9df65aa2c353d802c15b1ecb8dbeac5e08cd43ead0beb9497c73da53b7cd5264430e7d448346c) [.t 2] Tryz.func180 (by kernel_rfl)
def aht:az:=bx [tT] [.c (.i .i64)] 1048576 1048576 (.aY 0) [] [⟨0,[(4,1)]⟩]
def JO (hg:ae gl):Sp gl 132 aht:=ay hg (aJ [⟨938,[3],[],[],[],[],[⟨0,[(1,.v 3 0),(-1,.v0 3 0)]⟩],⟨0,[(1,.o 0 1),(-1,.v 3 0)]⟩,[],[]⟩] []) (xc (s9 hg) (xc (JQ hg) (xc (Pb hg) xn))) 61 (dM 0x1857134348c81116dd32415c9e1fce337c83b2fe45287f8872ac21ddca95cd4e8ccc8a83222421d8a0c6dcffe5da6a9616504510388d294e0af0d64f97d7b93877ddf25f6bf43f3e4312a8611927825d298f8088db07a74abd23517900d44b9c4cf66af61cbc643e0f0a87953b1422c993481b49c7db8c6f66b6d29e35d051cab1d4f269af0548061e8430d86825465be40178adf83e291582273ca475075f4b577c62b4a3d282000972706e9a5a2500c97cb0280bb1ae98c45c4eac92d3d10d4b973b6824100d945cd47d) [.t 2] Tryz.func132 (by kernel_rfl)
def ahB:az:=bx [tE] [.c (.i .i64)] 1048576 1048576 (⟨1,[(13,1)]⟩) [] []
def akV (hg:ae gl):Sp gl 168 ahB:=ay hg (aJ [⟨58,[3,4],[],[],[],[],[⟨0,[(1,.v 4 0),(-1,.v0 4 0)]⟩],⟨0,[(1,.o 0 11),(-1,.v 4 0)]⟩,[],[]⟩] []) xn 21 (dM 0x1d00ed7692b28ff572537a3f02432af8a92c6bcdaab516697c4a12247234f8b3f5f3b7e107efaddd2cd2379a37abc5897160ffbe962312a4112d945cd42d) [.t 2] Tryz.func168 (by kernel_rfl)
def ahC:az:=bx [tE] [.c (.i .i64)] 1048576 1048576 (⟨1,[(13,1)]⟩) [] []
def akW (hg:ae gl):Sp gl 169 ahC:=ay hg (aJ [⟨58,[3,4],[],[],[],[],[⟨0,[(1,.v 4 0),(-1,.v0 4 0)]⟩],⟨0,[(1,.o 0 11),(-1,.v 4 0)]⟩,[],[]⟩] []) xn 22 (dM 0x3042e11620829a672f9f8d1b500c4b0e2cf71e1160be1a41bdade38140b42f43508a5a36ea6aa00e0289c5453f75ef5d2ec285e659e3560557cb02a4d945cd42e) [.t 2] Tryz.func169 (by kernel_rfl)
def Xc:az:=bA [] [tE]
def s36 (hg:ae gl):Sp gl 36 Xc:=mG hg (aJ [] []) xn Xy (by kernel_rfl)
def ahI:az:=bA [.c (.l 2 252),.c (.l 2 252)] [.c .b]
def JP (hg:ae gl):Sp gl 176 ahI:=ay hg (aJ [⟨58,[5],[],[],[],[],[⟨0,[(1,.v 5 0),(-1,.v0 5 0)]⟩],⟨0,[(1,.v 0 0),(-1,.v 5 0)]⟩,[],[]⟩] []) xn 26 (dM 0x2850f63de7672c777ba08b9f35217896910572d2f5d0a2969af09d98c1d126e4883913f4a2c261eac7510ea5146d003b30e446b690070e5fe68df57839ac1d76bf4f50778aa76418db3d2f1e74ebc0e59b43a) [.t 4] Tryz.func176 (by kernel_rfl)
def ahk:az:=bA [tE,tE] [.c .b]
def JM (hg:ae gl):Sp gl 123 ahk:=ay hg (aJ [] [⟨3,[4],[],[],[],[],[],⟨0,[(1,.v 4 0)]⟩,[],[]⟩]) (xc (JP hg) xn) 59 (dM 0x1088f5317d2e84b0d1e8c1bbf1ef3ea4065a1e1c8bb519adca960a0b0f6c5066faf92e94c122417c341e5374613f97641a8d0846a2a0bf7d32db94adcc30fa573b5bea945ddc851c3a8caa4b9bf20497ce4a2360617bd34a37cb655134b46f8d23af5ec364aa9b81ebfd438f98626e0c323613a4e877bde60c5fdbbf6437ae7463446b41d0e6bf7c42052af7e989123945c2c8c9fe23df47b) [.t 4] Tryz.func123 (by kernel_rfl)
def Xd:az:=bx [tE,tE] [.c .b] 1048576 1048576 (⟨1,[(27,1)]⟩) [] []
def s81 (hg:ae gl):Sp gl 81 Xd:=ay hg (aJ [⟨114,[5],[],[],[],[],[⟨0,[(1,.v 5 0),(-1,.v0 5 0)]⟩],⟨0,[(1,.o 0 11),(-1,.v 5 0)]⟩,[],[]⟩] []) (xc (JM hg) xn) 38 (dM 0xaca1dab7c99046f11ee9fac4bbdab66b9b7cfab1bdebe334c240177060fd0bc721fe48f2eefc43b2e9027a94f9877d5f18361e08f97bdb753683356c19b9b2577d637ae363b2e0a229c7d1a3ff1707f83158655b28bedbc8c21704764a262b58e5c4ff8417e32a741f4d0939c397fd2868aa1bf1c1346632a0f6eea625a1600113b44e) [.t 4] Tryz.func81 (by kernel_rfl)
def ahU:az:=bA [.c .s,.c (.i .u8)] [.c .b]
def aaZ (hg:ae gl):Sp gl 207 ahU:=ay hg (aJ [⟨26,[5],[],[],[],[],[⟨0,[(1,.v 5 0),(-1,.v0 5 0)]⟩],⟨0,[(1,.v 0 0),(-1,.v 5 0)]⟩,[],[]⟩] []) xn 35 (dM 0x1d856a3a9803789c344ca30e099502e98e140b71ec92e4d59150fb2d6a2ebc43b98e230b9386504214a5133cee0978fb6506a85c409606703c8de99776df91c5a237b41ff2bdc9ebba71381eda5aaa7f29402839c15e1d2cf09b6c3b1a76841b92d67a94eb44b) [.t 4] Tryz.func207 (by kernel_rfl)
def ahx:az:=bA [.c .s] [.c .b]
def aaW (hg:ae gl):Sp gl 164 ahx:=ay hg (aJ [] []) (xc (aaZ hg) xn) 14 (dM 0x3bf8613674e44cbf4fc7c76f7433a7604e64f83c1b07a09f6d945ad0f6a01d6fba341e) [.t 2] Tryz.func164 (by kernel_rfl)
def aih:az:=bA [tV] [.c .b]
def alm (hg:ae gl):Sp gl 256 aih:=ay hg (aJ [] []) xn 42 (dM 0x7bff573cc967719d02c46b64852b8dcb1d36a15b43bdd3920548164851e4370109d3f46733ffdff6e99968f05abe8d9ea388943257034e268b1ebf16c05c58e85969e61997923c5165c9a058391d935f347f075e6eecbcb8ac50ed1b3dcb5aa22a270de839a9264b2db5e7b365ad2921a4dca681503ffae0dd57f0ac365d6a20b7b6b76197ded3f344c4ad97a6e9215cd45a) [.t 2] Tryz.func256 (by kernel_rfl)
def aii:az:=bA [.c (.i .i64)] [.c .b]
def aln (hg:ae gl):Sp gl 257 aii:=ay hg (aJ [] []) xn 9 (dM 0x30cdf67dd542070bf7fe433333333332f226269f2d222263b33333333333333314c2e6a6da0f93419) [.t 2] Tryz.func257 (by kernel_rfl)
def aij:az:=bA [.c .s] [.c .b]
def alo (hg:ae gl):Sp gl 258 aij:=ay hg (aJ [] []) (xc (aaZ hg) xn) 10 (dM 0x41dc3a95c4b9760d3eb8aadf1fd2c092585932a16acb3d86341a) [.t 2] Tryz.func258 (by kernel_rfl)
def ahV:az:=bx [tV] [.c (.i .i64)] 1048576 1048576 (.aY 0) [] [⟨0,[(3,1)]⟩]
def aa0 (hg:ae gl):Sp gl 208 ahV:=ay hg (aJ [] []) (xc (alm hg) (xc (aln hg) (xc (alo hg) (xc (aaW hg) xn)))) 52 (dM 0x2119d8ceb0f75cdbc471871ff7b78a632ab76fe6d263c754c68fee845ba7ed315d6ffccc332c22ea197f5266cd4dab616782e62338ae9e575afb81ad837082162621319cf75582c1533872883f4ee21b6353879650f841b13a3a3a27d2b120892e0809d7cfbf83333ff404acce48199d4938cad5ca0fea491d300f53754fc7261c1d7970fc46991a44df7e9204aba49a017d3c70f11dd14fc04bc6738f928b8d945cd46c) [.t 2] Tryz.func208 (by kernel_rfl)
def aik:az:=bA [tE] [.c .b]
def alp (hg:ae gl):Sp gl 259 aik:=ay hg (aJ [] []) (xc (aa0 hg) (xc (JO hg) (xc (JM hg) xn))) 36 (dM 0x15cfd23b6e6957eb90d1e6f32fa066a4390db648c58e6f7eeaa80403a029265a1a9561b55f37d29325e12390e3f963860eb2d67da4897785f52cafb4fdd99a716260e6f581796624f27b58b564a1edd836b43fa3530b84b07db60f634bfdbff90fdabf510e755131d5515bbe692cd7bc0284d53765baeda0c38cd4ec3a3cde19b39215cd44c) [.t 2] Tryz.func259 (by kernel_rfl)
def aim:az:=bA [.c .s,.c (.l 1 9)] [.c .b]
def Ph (hg:ae gl):Sp gl 261 aim:=ay hg (aJ [⟨26,[5],[],[],[],[],[⟨0,[(1,.v 5 0),(-1,.v0 5 0)]⟩],⟨0,[(1,.v 1 0),(-1,.v 5 0)]⟩,[],[]⟩] []) xn 18 (dM 0x2c3065b69a130ee7669d0c8ee7454bfd905312414d3043565de8a0776a4fa9aaa4b49ff825dbe918d25f2a24dfda82b7d4e9f1b42a) [.t 4] Tryz.func261 (by kernel_rfl)
def aiJ:az:=bA [] [.c (.l 1 9)]
def alJ (hg:ae gl):Sp gl 297 aiJ:=ay hg (aJ [] []) xn 2 (dM 0xb6e2f4d1319e3915331167bc5c3fa6abbe27adba5e2906901900c085d7656691bb835778d111c1796c6cf3e308b749291cf40799c0d90d12dfd5867dc9a2d6a78f6d250c0b7d9ab9513ab42) [.t 0] Tryz.func297 (by kernel_rfl)
def aiK:az:=bA [.a [.i .i64,.i .i64]] [.c .b]
def alK (hg:ae gl):Sp gl 298 aiK:=ay hg (aJ [] []) xn 27 (dM 0x3104430f63d050c9a295e7e0bf00b03cab63480e255a7564feebec2ec554c570fc2dc15b1a6938b15cd5a23a0b77fd17aaad1ad01f01b48feb029fcfc54a64eca046d201db9a231215cd43b) [.t 2] Tryz.func298 (by kernel_rfl)
def ail:az:=bA [tE] [.c .b]
def alq (hg:ae gl):Sp gl 260 ail:=ay hg (aJ [] []) (xc (alJ hg) (xc (Ph hg) (xc (s9 hg) (xc (alK hg) (xc (JM hg) xn))))) 51 (dM 0xc992320561af313dcaaf3f979b9112d90c5e9c854248056899b5dbab1182822da1854a8965411100ab5eb97e5de5a821f7508572fe43ffe0c1c67b126b72206f2449b4cc42a14715418492168716dc6cfd336d77c764a56b9ec33dc1e2e16b4ff36c4ef46dfa2c011a3451ae36b8764a25433be931715596f39c395228b18a91392d9ad43b028cbf8205115fb0243efe18d4dfdf0b6b9fd141144bdb20b216220fb8767ea300bd435c3837668cc52f01c41d8e250f197053d85ce8a36abfd2ad27ea0162b369c3ba09ffe2402f215cd46b) [.t 2] Tryz.func260 (by kernel_rfl)
def ain:az:=bA [] [.c (.l 1 9)]
def alr (hg:ae gl):Sp gl 262 ain:=ay hg (aJ [] []) xn 2 (dM 0xb6e2f44eeea7d95a23635514ef217150221335a55910b82a832234170ab6916bf1fd9ab9513ab42) [.t 0] Tryz.func262 (by kernel_rfl)
def ahY:az:={bA [tE,.c .b] [.c (.i .i64),.c .b] with alts:=[⟨15,[],.aF [.i .i64 (.aY 0),.b (.k true)],[⟨-1,[(0,1)]⟩,⟨1,[(0,-1)]⟩],[],[]⟩,⟨15,[],.aF [.i .i64 (.aY 0),.b (.k true)],[⟨-2,[(0,1)]⟩,⟨2,[(0,-1)]⟩],[],[]⟩,⟨15,[],.aF [.i .i64 (.aY 0),.b (.k true)],[⟨-3,[(0,1)]⟩,⟨3,[(0,-1)]⟩],[],[]⟩,⟨15,[],.aF [.i .i64 (.aY 1),.b (.k true)],[⟨-4,[(0,1)]⟩,⟨4,[(0,-1)]⟩],[],[]⟩,⟨15,[],.aF [.i .i64 (.aY 2),.b (.k true)],[⟨-5,[(0,1)]⟩,⟨5,[(0,-1)]⟩],[],[]⟩,⟨15,[],.aF [.i .i64 (.aY 1),.b (.k true)],[⟨-6,[(0,1)]⟩,⟨6,[(0,-1)]⟩],[],[]⟩,⟨15,[],.aF [.i .i64 (.aY 2),.b (.k true)],[⟨-7,[(0,1)]⟩,⟨7,[(0,-1)]⟩],[],[]⟩,⟨15,[],.aF [.i .i64 (.aY 3),.b (.k true)],[⟨-8,[(0,1)]⟩,⟨8,[(0,-1)]⟩],[],[]⟩,⟨15,[],.aF [.i .i64 (.aY 2),.b (.k true)],[⟨-9,[(0,1)]⟩,⟨9,[(0,-1)]⟩],[],[]⟩,⟨16,[],.aF [.i .i64 (.var 15),.b (.k false)],[],[],[]⟩]}
def ak8 (hg:ae gl):Sp gl 211 ahY:=ay hg (aJ [] []) (xc (s9 hg) (xc (JM hg) (xc (alp hg) (xc (alq hg) (xc (Ph hg) (xc (alr hg) xn)))))) 95 (dM 0x2f1c818f837c48e6808590e1a4f3414c0c5d161e6cc449982073a0df887dbbd16804a4dbfb75e8f4076dfed723406041463fa5525f0cc262392c044010b8281b5b071594c7e434f00c31c7743a1c56745bec5f4d3dafdec54684257f5553e934d5c10c5fd14bd270db6b98eb654b47b1dc82ddae4cf222b69e43f6f7b46cfd7a4a88a947b816c52549cf29944f1720e2b98df3142e75df6b2f860954ae91a77362cf7125cb1d9dee809c2e240db5f4ec38e7fa0f8683af74affc0306f139fb08d565eb5507b315124c4bd7572bd33ef2a0ce44279b98c2c83322627febca67d19d3824efd98ae5cf71f5286edf52fa6e0b16c0305217efcb8286c0ecf9c8ca61c2eefe016307ea286a89342ef579ac3416b2c039085c6246cd319b5689e5c82123f334b036ff77aaa935509a9cf1d61721a65a617e3882a7bf68372d0ebf26180bcfae666bfb7eaed06ba207e23d47286f6f3a05d2197c27f5e7ad35e29f1aa2780f4521a0426af14227f2c4600bc2b9c960081178978afee1838cee5bd5db5370ca34b04cfe18a5106446d93ff71697e6f42007b0eccbd2e6857f51164e7e41c0e03b148fe121806f677d39f8773f90b96a2d6f41bf) [.t 4,.t 5] Tryz.func211 (by kernel_rfl)
def ahD:az:={bx [tE,.c .b] [.c .b] 1048576 1048576 (⟨1,[(13,1)]⟩) [] [] with alts:=[⟨15,[],.b (.k true),[⟨-1,[(0,1)]⟩,⟨1,[(0,-1)]⟩,⟨0,[(12,1)]⟩,⟨0,[(12,-1)]⟩],[(1,1032)],[]⟩,⟨15,[],.b (.k true),[⟨-2,[(0,1)]⟩,⟨2,[(0,-1)]⟩,⟨0,[(12,1)]⟩,⟨0,[(12,-1)]⟩],[(1,1032)],[]⟩,⟨15,[],.b (.k true),[⟨-3,[(0,1)]⟩,⟨3,[(0,-1)]⟩,⟨0,[(12,1)]⟩,⟨0,[(12,-1)]⟩],[(1,1032)],[]⟩,⟨15,[],.b (.k true),[⟨-4,[(0,1)]⟩,⟨4,[(0,-1)]⟩,⟨-1,[(12,1)]⟩,⟨1,[(12,-1)]⟩],[(1,1032)],[]⟩,⟨15,[],.b (.k true),[⟨-5,[(0,1)]⟩,⟨5,[(0,-1)]⟩,⟨-2,[(12,1)]⟩,⟨2,[(12,-1)]⟩],[(1,1032)],[]⟩,⟨15,[],.b (.k true),[⟨-6,[(0,1)]⟩,⟨6,[(0,-1)]⟩,⟨-1,[(12,1)]⟩,⟨1,[(12,-1)]⟩],[(1,1032)],[]⟩,⟨15,[],.b (.k true),[⟨-7,[(0,1)]⟩,⟨7,[(0,-1)]⟩,⟨-2,[(12,1)]⟩,⟨2,[(12,-1)]⟩],[(1,1032)],[]⟩,⟨15,[],.b (.k true),[⟨-8,[(0,1)]⟩,⟨8,[(0,-1)]⟩,⟨-3,[(12,1)]⟩,⟨3,[(12,-1)]⟩],[(1,1032)],[]⟩,⟨15,[],.b (.k true),[⟨-9,[(0,1)]⟩,⟨9,[(0,-1)]⟩,⟨-2,[(12,1)]⟩,⟨2,[(12,-1)]⟩],[(1,1032)],[]⟩,⟨15,[],.b (.k false),[],[],[]⟩]}
def akX (hg:ae gl):Sp gl 170 ahD:=ay hg (aJ [⟨242,[7],[],[],[],[],[⟨0,[(1,.v 7 0),(-1,.v0 7 0)]⟩],⟨0,[(1,.o 0 0),(-1,.v 7 0)]⟩,[(.o 0 11,1032,⟨0,[(1,.v 7 0)]⟩)],[]⟩] []) (xc (ak8 hg) (xc (s36 hg) (xc (s81 hg) xn))) 57 (dM 0x1699be9da84816c7ba2d211e20a6a29d7e52988b82eedd1b5ff59c78d9c553b01535446638d709806e257d0f42a1a50f7ee7e7ffe430d7da3d8076c2f12551b97c9f9afd0e4e98a994ee0daab399fb8075766c3bfbfa7232bfc60ec24578eeed3974935a094fec633587927b6e1d800acf7dba797b14201af3b19557c47c03db8662664923781df88af816b8fb967812c63602b5ed9b1728653e0afc80534d4c3bda91c2a5cfbd40653c1de25d8d11b8285207fc002847deeb12e32aacbfaee8fbb7d39ba8830f7479) [.t 4] Tryz.func170 (by kernel_rfl)
def ahj:az:={bA [tE] [.c (.i .i64)] with alts:=[⟨14,[],.i .i64 (.aY 0),[⟨-1,[(0,1)]⟩,⟨1,[(0,-1)]⟩,⟨0,[(12,1)]⟩,⟨0,[(12,-1)]⟩],[(1,1032)],[]⟩,⟨14,[],.i .i64 (.aY 0),[⟨-2,[(0,1)]⟩,⟨2,[(0,-1)]⟩,⟨0,[(12,1)]⟩,⟨0,[(12,-1)]⟩],[(1,1032)],[]⟩,⟨14,[],.i .i64 (.aY 0),[⟨-3,[(0,1)]⟩,⟨3,[(0,-1)]⟩,⟨0,[(12,1)]⟩,⟨0,[(12,-1)]⟩],[(1,1032)],[]⟩,⟨14,[],.i .i64 (.aY 0),[⟨-4,[(0,1)]⟩,⟨4,[(0,-1)]⟩,⟨-1,[(12,1)]⟩,⟨1,[(12,-1)]⟩],[(1,1032)],[]⟩,⟨14,[],.i .i64 (.aY 0),[⟨-5,[(0,1)]⟩,⟨5,[(0,-1)]⟩,⟨-2,[(12,1)]⟩,⟨2,[(12,-1)]⟩],[(1,1032)],[]⟩,⟨14,[],.i .i64 (.aY 0),[⟨-6,[(0,1)]⟩,⟨6,[(0,-1)]⟩,⟨-1,[(12,1)]⟩,⟨1,[(12,-1)]⟩],[(1,1032)],[]⟩,⟨14,[],.i .i64 (.aY 0),[⟨-7,[(0,1)]⟩,⟨7,[(0,-1)]⟩,⟨-2,[(12,1)]⟩,⟨2,[(12,-1)]⟩],[(1,1032)],[]⟩,⟨14,[],.i .i64 (.aY 0),[⟨-8,[(0,1)]⟩,⟨8,[(0,-1)]⟩,⟨-3,[(12,1)]⟩,⟨3,[(12,-1)]⟩],[(1,1032)],[]⟩,⟨14,[],.i .i64 (.aY 0),[⟨-9,[(0,1)]⟩,⟨9,[(0,-1)]⟩,⟨-2,[(12,1)]⟩,⟨2,[(12,-1)]⟩],[(1,1032)],[]⟩,⟨15,[],.i .i64 (.var 14),[⟨-1,[(14,1)]⟩],[],[]⟩]}
def O8 (hg:ae gl):Sp gl 121 ahj:=ay hg (aJ [] []) (xc (akV hg) (xc (akW hg) (xc (akX hg) xn))) 14 (dM 0x1ad8afe775b03faf15dc26b759135f12fbc833d9993f4df9345c496aa8cead8da6fbca905f0215b4c0d01f560b17f3d56bbef483708d945cd41e) [.t 2] Tryz.func121 (by kernel_rfl)
def ah4:az:=bx [.a [.l 4 80,.l 18 84,.l 18 84,.l 18 84,.s,.s,.s,.l 4 103,.i .i64],.c .s] [.a [.l 4 80,.l 18 84,.l 18 84,.l 18 84,.s,.s,.s,.l 4 103,.i .i64],.c (.i .i64)] 1048576 1048576 (.aY 0) [] [⟨0,[(29,1)]⟩]
def ald (hg:ae gl):Sp gl 220 ah4:=ay hg (aJ [⟨26,[6],[],[],[],[],[⟨0,[(1,.v 6 0),(-1,.v0 6 0)]⟩],⟨0,[(1,.o 0 0),(-1,.v 6 0)]⟩,[],[]⟩] []) xn 37 (dM 0x4784414ae25bfb7707022fcfe600eb325fece2a9b0dd535ff5ae7c1d091dd749a0944d5f651e667d649013d231652ef143888afe19bbebb9a2f0e3db7c0775d7dc7505ba60efca389060121db310c7e7f526f86a2a0c32b5075381720b93c2fb2b797d0f782c4ea23e3d0b6bd855b6319d90f4c63601be69143005c4a977adb78f10b6c70b872831e18305ec3129c281894487692d7b135ebb9ead910f99503251166c5fb56535bd4de204d77e744d) [.c 4 9 true,.t 5] Tryz.func220 (by kernel_rfl)
def ahv:az:=bx [tT,tT] [.c (.i .i64)] 1048576 1048576 (.aY 0) [] [⟨0,[(8,1)]⟩]
def aaU (hg:ae gl):Sp gl 134 ahv:=ay hg (aJ [] []) (xc (JP hg) xn) 23 (dM 0x49d2ea5a65713061e657017febca9c5572ac875ccdae26e37cf68f83c6c4f4ecf27b5ad4f67f1f68008f8e038d740b0330e3fad9576f4bbd89b612ee825ccd6b9ef13ac17d68d0f42f) [.t 4] Tryz.func134 (by kernel_rfl)
def air:az:=bx [.a [.l 4 80,.l 18 84,.l 18 84,.l 18 84,.s,.s,.s,.l 4 103,.i .i64],.c .s] [tT,.c (.i .i64)] 1048576 1048576 (.aY 0) [] [⟨0,[(19,1)]⟩]
def alw (hg:ae gl):Sp gl 266 air:=ay hg (aJ [⟨26,[6],[],[],[],[],[⟨0,[(1,.v 6 0),(-1,.v0 6 0)]⟩],⟨0,[(1,.o 0 7),(-1,.v 6 0)]⟩,[],[]⟩] []) xn 32 (dM 0x42b5da2d08208a2941eaff460bef3e885d3203b3b3766c02128ff08d1d3e24b8334838de376e456bcfec0c64340da42230206d7b0598c6d06062552fd10fc278af61f08566a3a5059fe644bd73cf5553059fe449c63c86202dc4e1d7fd151eb80ac3448) [.c 4 3 true,.t 5] Tryz.func266 (by kernel_rfl)
def ais:az:=bx [.a [.l 4 80,.l 18 84,.l 18 84,.l 18 84,.s,.s,.s,.l 4 103,.i .i64],.c .s,.c .s] [tT,.c (.i .i64)] 1048576 1048576 (.aY 0) [] [⟨0,[(20,1)]⟩]
def alx (hg:ae gl):Sp gl 267 ais:=ay hg (aJ [⟨26,[8],[],[],[],[],[⟨0,[(1,.v 8 0),(-1,.v0 8 0)]⟩],⟨0,[(1,.o 0 1),(-1,.v 8 0)]⟩,[],[]⟩] []) xn 36 (dM 0x10ae7dbba274a8d93297abbae56c2b707e23375adfd9b2da2d80051a3bc7f1b64327bb5140dd2145faf84f581b310624c6eb5b537645f6200b33996c5d3b00f5032c03059dbde7f02066336438cad7a4958c8a17e2f6f76b52b5fc5ba50b2104c5c04c327c8ace16ceb9c81f1aced79c9935e98af291a367241714876d60eae0ca429d92a605375beb76d5c4ebbe9b82f44c) [.c 6 3 true,.t 7] Tryz.func267 (by kernel_rfl)
def ait:az:=bx [tX,tT,tT] [tT,.c (.i .i64)] 1048576 1048576 (.aY 0) [] [⟨0,[(26,1)]⟩]
def aly (hg:ae gl):Sp gl 268 ait:=ay hg (aJ [] [⟨62,[40],[],[],[],[],[],⟨0,[(1,.v 40 0)]⟩,[],[]⟩]) (xc (Ph hg) (xc (JQ hg) xn)) 55 (dM 0x341a8d5da785ebe54787760a317f327a888434278fe28dc5af98c6f2e1e2e257415c8aaf42737bb5b24e4a9f06d9ea7a70523c7d2bef5b5fbcf88ead989b0e448233637c4c31a288347fe0058fac947b248bea6bab37713b4edb17848dbbb6e516459d2f86c93d05d628e66c4741a44b5108cd1057317174eaefa84e6d7d999913da84384397e20d6f6ef4141a1b1e7e0c67c6c5a9eb92f7025f69d701d37885d9f7e98441384b458c778ab63c99dfd376339646ada9f1f3384bf0c0e57d465d6982ab463efa53b0cb3e7c2a703e38af99b25237b081f1b4950077f14b230f6179223ffb770de2fb38729737b26ff4111cf8865de95cc4371222a276a0e146101ed53105c735aa6526ade537909ee1834ac2696315faf32778d91fa21023780303b0d116fab46f) [.c 6 3 true,.t 7] Tryz.func268 (by kernel_rfl)
def aiM:az:=bA [tT,tT] [.c .b]
def alM (hg:ae gl):Sp gl 300 aiM:=ay hg (aJ [] []) (xc (JP hg) xn) 24 (dM 0x7592c189d4822369b2fdd9b8c9aae0b579764d4925a37133b058a85e020baf67083ef30989bf904e4c4115b51b4d99a8df5c7231a6716ba23438) [.t 4] Tryz.func300 (by kernel_rfl)
def ai0:az:=bx [.c (.l 2 252)] [.c (.l 1 9)] 4194304 4194304 (.aY 0) [] [⟨0,[(0,1),(2,-1)]⟩]
def alV (hg:ae gl):Sp gl 324 ai0:=ay hg (aJ [⟨58,[3,4],[],[],[(192,9)],[],[⟨0,[(1,.v 0 0),(-1,.v 4 0)]⟩,⟨0,[(1,.v 4 0),(-1,.v 3 0)]⟩],⟨0,[(1,.v 0 0),(-1,.v 4 0)]⟩,[],[]⟩,⟨7460,[5],[],[],[],[],[⟨0,[(1,.v 5 0),(-1,.v0 5 0)]⟩,⟨0,[(1,.v 3 0),(-1,.v 5 0)]⟩],⟨0,[(1,.v 0 0),(-1,.v 5 0)]⟩,[],[]⟩] []) xn 66 (dM 0x1de0a5d3a32dd52a2a20b2bb57b217cac24464636721e1cb6dac48e00914eedb6e7a055ae932a8529a52144a7773304d0365a714f4dd376b6286a6b012f46e59b45be064d8888ca45164d71a5be762c1bef149af780667284eb85005156aa55caf626bd5ae980d0839be686a7a5c68ac8a49ea77ef23cd1dc302d0e75ac428eb40edcba7c35984133a3538e1e9d556b13125a118f2e2d26815ed93c96947f995dd71df14b261510d48863d6f6fcd141dc1f86b21b50088fcdfc01a26f7bf302dfb2d547df262f0f5537f07e3418a) [.t 2] Tryz.func324 (by kernel_rfl)
def ai3:az:=bA [.c (.i .i64)] [tW]
def Pj (hg:ae gl):Sp gl 334 ai3:=ay hg (aJ [] []) xn 11 (dM 0x1ce5cd2fae704aff9a2cbf378a98c66720a821fad7c92df4b955b4a1acd5338e468210cc42d286392ff41b) [.c 2 2 true] Tryz.func334 (by kernel_rfl)
def ajb:az:=bx [.c (.l 1 3),.c (.l 1 3)] [.c .b] 1048576 1048576 (.aY 0) [⟨-8,[(0,1)]⟩,⟨8,[(0,-1)]⟩,⟨-8,[(2,1)]⟩,⟨8,[(2,-1)]⟩] []
def al4 (hg:ae gl):Sp gl 345 ajb:=ay hg (aJ [⟨26,[5],[],[],[],[],[⟨7,[(-1,.v 5 0)]⟩],⟨1,[(1,.v 5 0)]⟩,[],[]⟩] []) xn 28 (dM 0xb1c9005a1c4a51c4648b29322323289cf52bf1a3c5aea98efbc88dcb1531092e199064994ee4ff543b66990c011c4b2692370883ce497cc99c29040fba75e735729865bb96864153aaa0dbea6d7f73b43c) [.t 4] Tryz.func345 (by kernel_rfl)
def ai8:az:=bx [.c (.l 1 3)] [.c (.l 1 3)] 1048576 1048576 (.aY 0) [⟨-8,[(0,1)]⟩,⟨8,[(0,-1)]⟩] [⟨-8,[(2,1)]⟩,⟨8,[(2,-1)]⟩]
def abd (hg:ae gl):Sp gl 342 ai8:=ay hg (aJ [⟨122,[3,4,5],[],[],[(192,3)],[],[⟨0,[(1,.v 0 0),(-1,.v 5 0)]⟩,⟨0,[(1,.v 3 0),(-1,.v 5 0)]⟩,⟨0,[(1,.v 5 0),(-1,.v 3 0)]⟩],⟨0,[(1,.v 0 0),(-1,.v 3 0)]⟩,[],[]⟩] []) xn 32 (dM 0x8391eb51b3af43580c514115b7637a82eaddff71891e1fa1ce6dfafa53ad8417355fdfb23d6842ddf0944e45479e29d49d018ce766b24bd6e983ae65e85f778d68ca33b2beb6c73af43ca4860895f3d88ee1e3e2ed4c006c4af1bdcd81606ab0503fc034100bc04ed4ac93a43448) [.t 2] Tryz.func342 (by kernel_rfl)
def ajc:az:=bx [.c (.l 1 3),.c (.l 1 3)] [.c (.l 1 3)] 1048576 1048576 (.aY 0) [⟨-8,[(0,1)]⟩,⟨8,[(0,-1)]⟩,⟨-8,[(2,1)]⟩,⟨8,[(2,-1)]⟩] [⟨-8,[(4,1)]⟩,⟨8,[(4,-1)]⟩]
def al5 (hg:ae gl):Sp gl 346 ajc:=ay hg (aJ [⟨58,[5,6],[],[],[(320,3)],[],[⟨0,[(1,.v 1 0),(-1,.v 6 0)]⟩,⟨0,[(1,.v 5 0),(-1,.v 6 0)]⟩,⟨0,[(1,.v 6 0),(-1,.v 5 0)]⟩],⟨0,[(1,.v 0 0),(-1,.v 5 0)]⟩,[],[]⟩] []) (xc (abd hg) xn) 25 (dM 0x10cde1edb85bd1254c30c8ed3f387e6ba1b827dfb29aa46783d2e98576ed741e8d207a63a20b2b44346188cb95a64fb587c103b5240daba2617664bedfdfb86a40621b86bb2a7b35cb439) [.t 4] Tryz.func346 (by kernel_rfl)
def aiV:az:=bA [.c (.l 2 252)] [.c (.l 2 252)]
def alS (hg:ae gl):Sp gl 316 aiV:=ay hg (aJ [⟨58,[3,4],[],[],[(192,252)],[],[⟨0,[(1,.v 0 0),(-1,.v 4 0)]⟩,⟨0,[(1,.v 4 0),(-1,.v 3 0)]⟩],⟨0,[(1,.v 0 0),(-1,.v 3 0)]⟩,[],[]⟩] []) xn 27 (dM 0x52f2c81cd302ec47f490ec6249937952e3789f1588980c5e531d66e9fdaf76f758a5590462cc9ef564e9b3231a25f14a80fb3315d05dc9f9a4c614f42f4dc2598a037711e0b5c43b634c160f4ae16ff41f3343b) [.t 2] Tryz.func316 (by kernel_rfl)
def ahn:az:={bx [.c (.l 18 84),.c .s,.c (.i .i64)] [.c (.i .i64)] 1048580 1048580 (.aY 0) [⟨0,[(3,1)]⟩] [] with alts:=[⟨4,[],.i .i64 (.aY (-1)),[],[],[]⟩,⟨5,[],.i .i64 (.var 4),[ge 4,⟨-1,[(0,1),(4,-1)]⟩],[],[]⟩]}
def JN (hg:ae gl):Sp gl 126 ahn:=ay hg (aJ [⟨26,[7],[],[],[],[],[⟨0,[(1,.v 7 0),(-1,.v0 7 0)]⟩],⟨0,[(1,.v 0 0),(-1,.v 7 0)]⟩,[],[]⟩] []) xn 23 (dM 0x2a60964b8d9d6ee500d221dfc695d2bc0838793e757ca87ba140830533baf552e929da13ad126401dba60207d46a45fd88a5bb94045b2525829473dee342f) [.t 6] Tryz.func126 (by kernel_rfl)
def aho:az:=bA [tC,.c .s] [.c (.i .i64)]
def akP (hg:ae gl):Sp gl 127 aho:=ay hg (aJ [⟨122,[6,7],[],[],[],[],[⟨0,[(1,.v 7 0),(-1,.v0 7 0)]⟩],⟨0,[(1,.v 5 0),(-1,.v 7 0)]⟩,[],[]⟩] []) xn 39 (dM 0xd980c0e1adec35db03ff3882a8d83943287dbaa67138b07e28376499c37151cdf5dc235e46b674f87873ddf3c7be643c52478d54992ff68e49b64ac8c90417a962a821c01b8b0fad53b7c0847bbbb5742a3fd26eff470c42cb33c302e3157be269a511c85746fb501087eee334e55751cc124cbd942378992e7518e3e4a0e7beb6fb5b2623f3070651f9d213b0f44f) [.t 4] Tryz.func127 (by kernel_rfl)
def ahp:az:=bx [.c (.l 18 84),tF] [.c (.l 18 84)] 1073741824 1073741900 (.aY 0) [⟨1048576,[(2,-1)]⟩,⟨1048576,[(3,-1)]⟩,⟨1048576,[(5,-1)]⟩,⟨1048576,[(7,-1)]⟩,⟨1048576,[(9,-1)]⟩,⟨1048576,[(10,-1)]⟩,⟨1048576,[(11,-1)]⟩,⟨1048576,[(14,-1)]⟩,⟨1048576,[(15,-1)]⟩,⟨1048576,[(20,-1)]⟩] [⟨1,[(0,1),(23,-1)]⟩]
def O9 (hg:ae gl):Sp gl 128 ahp:=ay hg (aJ [⟨28,[5],[],[],[],[],[⟨0,[(1,.v 5 0),(-1,.v0 5 0)]⟩,⟨0,[(1,.v 0 0),(-1,.v 5 0)]⟩],⟨0,[(1,.v 0 0),(-1,.v 5 0)]⟩,[],[]⟩] []) xn 36 (dM 0x10e2001b3376ca9f63cdeb48aef1d6235e201e16b60848bfa2a21d642720500bb25d0e33b2ed431efe8d56546edef60fa72e745a715dd1ee18d25080f3fcc74ab3ead13fbeeb371f51e2a08be1fcc0c2538d93bd003656d065d8b37f0398a6d7980f6be7de0055bc1f8c921619afae77a79726274efb3251b3fc8042ed1a4cd370d94deade60c3ae5cbf5f87f427e90af2421e534c3c02186f44c) [.t 4] Tryz.func128 (by kernel_rfl)
def ahq:az:=bx [.c (.l 18 84),.c (.i .i64)] [.c (.l 18 84)] 1073741824 1073741900 (.aY 0) [⟨0,[(2,1)]⟩,⟨-1,[(0,1),(2,-1)]⟩] [⟨0,[(0,1),(3,-1)]⟩]
def Pa (hg:ae gl):Sp gl 129 ahq:=ay hg (aJ [] []) xn 17 (dM 0xa2b0c4ecc6bbbdf72ebc36a79c8ffaa33ba2c162aec0c1f0305a209451a30ee217e24d68b4c441f6a3b0b1ec5d925f5cd41c5f7a670b70ff94b429) [.t 4] Tryz.func129 (by kernel_rfl)
def g85:az:=bx [tC,.c .s] [tC,.c (.i .i64)] 1048576 1048580 (.aY 0) [] [⟨1,[(0,1),(9,-1)]⟩,⟨1,[(2,1),(11,-1)]⟩,⟨1,[(4,1),(13,-1)]⟩,⟨1,[(6,1),(15,-1)]⟩,⟨0,[(17,1)]⟩]
def s85 (hg:ae gl):Sp gl 85 g85:=ay hg (aJ [] []) (xc (JN hg) (xc (Pa hg) (xc (O9 hg) xn))) 52 (dM 0x13499d2ec42cbf55378fc2b24932649d05fcd8b4e52141fbe956f3d7ba8b7f4ba9111986b91b73d59ea58c9dceaa14b3cb88210f7f624367484b3fb65dd9c2a0108a0d964ef2a88725aee75000fc8b1bfbdb8a88025368cfa2b1832c6210fef9b22e5b1ade61bce90162c849574caf077f7ec7d070d99915a119762fb187ad6d40b79b6107c53cab85f6efd417d784f7b50bae6cc8a37004ba2bd9ef8c66f2f2d0337c7ddcfb92e8db6e1bf8a01b1c3e282ee7556bea59235db451341d97d2477cf07e582ac5d4a0c7a7189a1f221922a053895346c) [.c 4 4 true,.t 5] Tryz.func85 (by kernel_rfl)
def ahr:az:=bx [.c (.l 18 84),.c .s] [.c (.i .i64)] 1048580 1048580 (.aY 0) [] [⟨1,[(3,1)]⟩,⟨-1,[(0,1),(3,-1)]⟩]
def akQ (hg:ae gl):Sp gl 130 ahr:=ay hg (aJ [⟨58,[5,6],[],[],[],[],[⟨0,[(1,.v 5 0),(-1,.v0 5 0)]⟩,⟨0,[(1,.v 0 0),(-1,.v 6 0)]⟩,⟨0,[(1,.v 6 0),(-1,.v0 6 0),(-1,.v 5 0),(1,.v0 5 0)]⟩],⟨0,[(1,.v 0 0),(-1,.v 6 0)]⟩,[],[]⟩] []) xn 22 (dM 0x1027e90d58de2e526d843313557b0ac512b8a73259db9a8bca20b4c5686e844285dc328553b71b6f42d84a1075c00d3c1987087e6adb1402c559d5b42e) [.t 4] Tryz.func130 (by kernel_rfl)
def g86:az:=bx [tC,.c .s] [tC,.c (.i .i64)] 1048576 1048580 (.aY 0) [] [⟨1,[(0,1),(9,-1)]⟩,⟨1,[(2,1),(11,-1)]⟩,⟨1,[(4,1),(13,-1)]⟩,⟨1,[(6,1),(15,-1)]⟩,⟨0,[(17,1)]⟩]
def s86 (hg:ae gl):Sp gl 86 g86:=ay hg (aJ [] []) (xc (JN hg) (xc (akQ hg) (xc (O9 hg) (xc (Pa hg) xn)))) 57 (dM 0xe96701da831f3b62c297cab82b0a66c2713572932ca106cecf40f554ed9d3c1f3e9273482748576a1d399dce084f5d76b21c0cb38a5055619e792965f30ccdb6e3c958a0d6355d55cfc6468c4152b901470fbbd9c1d6f26bbf43b372596a26534e2a3d7ca10c9b0801a368bb1f421189585a88163b70e861f5beb40bd9692918fe867848242db11e2799aa8b06329771f8a46c0b6aeaff083c7302c497bba65bd41b7ed95772adf925e32fff275c7f99aa65fa8350b4e9cb3bb07de91010af23eb426c6b56d74966b7fa8462f894150e1b313f20e1e0f0c40aaf43a89688238c3278d840cb24142803eb479e4efa6c931b1faf641e2fbf0d42a749cd277479) [.c 4 4 true,.t 5] Tryz.func86 (by kernel_rfl)
def g87:az:=bx [tC,.c .s] [tC,.c (.i .i64)] 1048576 1048580 (.aY 0) [] [⟨1,[(0,1),(9,-1)]⟩,⟨1,[(2,1),(11,-1)]⟩,⟨1,[(4,1),(13,-1)]⟩,⟨1,[(6,1),(15,-1)]⟩,⟨0,[(17,1)]⟩]
def s87 (hg:ae gl):Sp gl 87 g87:=ay hg (aJ [] []) (xc (JN hg) (xc (Pa hg) xn)) 20 (dM 0x40ea8c3807ba57419236c28ae170a0460a903aed9b2450fcd3060634981482b0125fbd01123f96c978a9cc391bc8691c712d26376e96310fa958894d63fa0ae9b86b56c8c17efa9bbe53bc3fd85fed342c) [.c 4 4 true,.t 5] Tryz.func87 (by kernel_rfl)
def ahs:az:=bx [.a [.s,.s,.l 4 103,.i .i64]] [.c (.i .i64)] 1048576 1048576 (.aY 0) [] [⟨0,[(5,1)]⟩]
def akR (hg:ae gl):Sp gl 131 ahs:=ay hg (aJ [⟨234,[3],[],[],[],[],[⟨0,[(1,.v 3 0),(-1,.v0 3 0)]⟩],⟨0,[(1,.o 0 2),(-1,.v 3 0)]⟩,[],[]⟩,⟨59978,[4],[],[],[],[],[⟨0,[(1,.v 4 0),(-1,.v0 4 0)]⟩],⟨0,[(1,.v 3 0),(-1,.v 4 0)]⟩,[],[]⟩] []) (xc (s9 hg) (xc (JO hg) xn)) 73 (dM 0x3c5cdfb954f929fc5185f338fa030c1c92d6ba143cd18269cfd4c4541394295d48bd6ef653fecd331605fb7bd133ed689de7669875218120bfa7586ea35e5ee43a0d1592df1e53c386b9958dc90c55100e63d18353806749f73864f3af1e6e6eb22cd550c01d4e5467a581c771f33b0e065c8f33bef74c521ff70e77036e9e8339bd6b2fc734985a0d855ddb0f6c2ed012d1e1f6e895de2bad973b9b80ebc4f0b4bc82b6be5451bef034e286edae60c86e2f4159938f85b98669646a06274fd2e95ef8f67610f94e91f35d1fa94d7d425e2c5eed1282dc286a769f2f45dbb3b3c778fe85714ed1344b71113ad68e00af4bfb538eeb4d660d945cd4199) [.t 2] Tryz.func131 (by kernel_rfl)
def g88:az:=bx [tC] [.c (.i .i64)] 1048580 1048580 (.aY 0) [] [⟨0,[(8,1)]⟩]
def s88 (hg:ae gl):Sp gl 88 g88:=ay hg (aJ [⟨26,[3],[],[],[],[],[⟨0,[(1,.v 3 0),(-1,.v0 3 0)]⟩],⟨0,[(1,.o 0 0),(-1,.v 3 0)]⟩,[],[]⟩] []) (xc (akR hg) xn) 39 (dM 0x312708a77c1c968853d32477ca101da65e0ce4da216e3c8c8fd8384b540dc60a16083df282c436b325ae13ea2dbb25658b3967a58a0c124afc15d02f5dd592c2f7958c0d04f141f60067f01644ffa5e390b1b7503bb9bfd7b1a3b6f9ff00d263fd716f7820a9ffba733e2f1c3f6c41966e9fced49b6102bc22159b510d945cd44f) [.t 2] Tryz.func88 (by kernel_rfl)
def g89:az:=bx [tC] [.c (.l 18 84)] 1048580 4194304 (.aY 0) [] [⟨0,[(2,1),(4,1),(6,1),(8,-1)]⟩]
def s89 (hg:ae gl):Sp gl 89 g89:=ay hg (aJ [] []) xn 16 (dM 0x412bf71f40368c7d14068a69acf3a2d8e5b018ca897776cf21f1f0371aaad6228dd006df3e2f34bbf2e4b5090e95d853e9523340048be1872f8eddd35cd428) [.t 2] Tryz.func89 (by kernel_rfl)
def g90:az:=bx [tF] [.c (.i .i64)] 1048576 1048576 (.aY 0) [] [⟨0,[(21,1)]⟩]
def s90 (hg:ae gl):Sp gl 90 g90:=ay hg (aJ [] [⟨235,[2],[],[],[],[],[⟨0,[(1,.v 2 0)]⟩],⟨0,[(1,.v 2 0)]⟩,[],[]⟩]) (xc (s9 hg) (xc (JO hg) (xc (O8 hg) xn))) 34 (dM 0x101381977bd5c77e3b406d743da16abbb73baa511828d3c2a642ab907daabb2ef51f86356ab018c76d15495a014ed88b52d516358c6e9abc8b95c2a84621fbdb65c4eee73b34776ddd72d3a1ff9b305582ee4825bb590f010811569a4ad9ab4ffef08527e11061dcd945cd44a) [.t 2] Tryz.func90 (by kernel_rfl)
def ahd:az:={bA [.a [.s,.i .i64,.i .i64,.i .i64,.s,.s,.i .i64,.l 3 26]] [.c .b] with alts:=[⟨9,[],.b (.k true),[⟨0,[(6,1)]⟩,⟨0,[(6,-1)]⟩],[],[]⟩,⟨9,[],.b (.k false),[],[],[]⟩]}
def akJ (hg:ae gl):Sp gl 115 ahd:=ay hg (aJ [] []) xn 38 (dM 0xbe607bb89fe1a5fed664a915dc482c71fe7563bfe4bd2fc8e7b24922995bbd883bc186f42e760abbdd5046ecc5836bff40f83e94f68f2c29d05be723885f7ba7285b50cbe243868b696da4e0726565340461f5c99ad0c0d7205215cd44e) [.t 2] Tryz.func115 (by kernel_rfl)
def ahe:az:=bA [tH] [.c .b]
def akK (hg:ae gl):Sp gl 116 ahe:=ay hg (aJ [] []) (xc (aaS hg) (xc (aaT hg) xn)) 27 (dM 0xb896a42b97ce82869b2e4125f250d7ca368d3e5b56f478645dadddf538ca0d0e98f10dfb0f7cbaadd63a01fc6f9f782129af79f4990516e9874e68d019b5d02428de9d2cf6d4cc1ceea71be82f28fee66e6bbad0d6f215cd43b) [.t 2] Tryz.func116 (by kernel_rfl)
def g76:az:={bA [.a [.i .i64,.i .i64,.i .i64,.s,.i .i64,.i .i64,.i .i64,.s,.s,.i .i64,.l 3 26,.i .i64,.s,.s,.s,.i .i64,.i .i64,.s,.s,.l 4 103,.i .i64,.s,.s,.i .i64,.l 2 252,.s,.i .i64,.s,.s,.s,.i .i64,.i .i64,.s,.l 2 252,.i .i64,.i .i64,.i .i64,.l 12 32,.i .i64,.s]] [.c .b] with alts:=[⟨45,[],.b (.k true),[⟨-1,[(2,1)]⟩,⟨1,[(2,-1)]⟩],[],[]⟩,⟨45,[],.b (.k true),[⟨0,[(9,1)]⟩,⟨0,[(9,-1)]⟩],[],[]⟩,⟨45,[],.b (.k false),[],[],[]⟩]}
def s76 (hg:ae gl):Sp gl 76 g76:=ay hg (aJ [] []) (xc (akJ hg) (xc (akK hg) xn)) 47 (dM 0x470e848d2e529c86807901485c4234cece941b9abdd822dcf0e94f8ea6a3a4b3aa6fec511e973f9d2600d3e4d74f9d67be9691e364795a57cebec7b83a5913048d5846db3c78ecf966791b10d71f8a80543450002b0cda1b2c1f73fbc01250897952b5a2141a049e6f49fd021508ebbe77a6150daf45a7f6c9a76bf37215cd45f) [.t 2] Tryz.func76 (by kernel_rfl)
def ahf:az:={bA [.a [.s,.i .i64,.i .i64,.i .i64,.s,.s,.i .i64,.l 3 26]] [.c .b] with alts:=[⟨9,[],.b (.k true),[⟨0,[(6,1)]⟩,⟨1099511627776,[(6,-1)]⟩],[],[]⟩,⟨9,[],.b (.k false),[],[],[]⟩]}
def akL (hg:ae gl):Sp gl 117 ahf:=ay hg (aJ [] []) (xc (s9 hg) (xc (aaW hg) xn)) 76 (dM 0x3493d65c0ee861fa1393ff4d484547d10393b85f2a1dc0a427c51b9c71d7602614a8835fece15a1a0cd26cd69256ca06d8886622c0d0ffcfce0fa179788ee9aa902527207102ea8057a054698192720b856a743599075d94a08d129159a2bae7a53df9699e2e3960d42c7aee33dd2d1c84052ad9ef774ee0541416548f7d1b2e99c8c516ce5451393446e6c9e4e9e5d8a40f0f4086baf2b34d6329f3da398c7501a82e7a4f5aa33490521e1371e6d544f145f02998826458123a7ed7a419105f1a52ba9451683ea30daf2ce7e83bdd87d63c8ff26df8877d785c472115b19a873693782b2a258ccc38ea281aebdd19f92535138f79215cd419c) [.t 2] Tryz.func117 (by kernel_rfl)
def ahy:az:=bA [tV] [.c .b]
def aaX (hg:ae gl):Sp gl 165 ahy:=ay hg (aJ [] []) (xc (aa0 hg) xn) 6 (dM 0xc00fd5704dd81dfcd70e145215cd46) [.t 2] Tryz.func165 (by kernel_rfl)
def ahg:az:=bA [tV,tT] [.c .b]
def akM (hg:ae gl):Sp gl 118 ahg:=ay hg (aJ [] []) (xc (aaX hg) xn) 19 (dM 0x760caefeb9290b78d292bef14654fcc1950d25fa6cb2e8b8df7b2abc7ab4b858b9925918351f6e3f391d24d498bf42b) [.t 4] Tryz.func118 (by kernel_rfl)
def g77:az:=okx (bx [tC,.a [.s,.i .i64,.i .i64,.i .i64,.s,.s,.i .i64,.l 3 26]] [.c (.i .i64)] 1048576 1048576 (.aY 0) [] [⟨0,[(17,1)]⟩]) 17 [⟨0,[(14,1)]⟩,⟨1099511627776,[(14,-1)]⟩] [] []
def s77 (hg:ae gl):Sp gl 77 g77:=ay hg (aJ [⟨1018,[7],[],[],[],[],[⟨0,[(1,.v 7 0),(-1,.v0 7 0)]⟩],⟨0,[(1,.o 1 7),(-1,.v 7 0)]⟩,[],[]⟩] []) (xc (akL hg) (xc (QR hg) (xc (akM hg) xn))) 50 (dM 0x39842ba8e2339a3aab9089b18546036eafc61af2ebe63a8a35a2aeceb70677ffa0843f674a7c8204a4cd5a4b81ae88b99e1b6b586c37c5c00acc2e024c63186fbd06464c89380d1e34596f2769035468e040bcaba472d8035838c6cdeb629edbe2bfe2bb98d3781b3e591c7f36dc55adeb87feccbb01612f8181c25a5b6af136d44f474e941a774eee41f9e484052fe8653c05fd0996cc379603fc977e943d66a341c639f5af63745e04dbcc68104db06a4501f9099dbca7b6e2b46a) [.t 4] Tryz.func77 (by kernel_rfl)
def g78:az:=bx [.c (.l 40 88),.c (.i .i64)] [.c .b] 1048576 1048576 (.aY 0) [⟨0,[(2,1)]⟩,⟨-1,[(0,1),(2,-1)]⟩] []
def s78 (hg:ae gl):Sp gl 78 g78:=ay hg (aJ [⟨26,[5],[],[],[],[],[⟨0,[(1,.v 5 0),(-1,.v0 5 0)]⟩],⟨0,[(1,.v 0 0),(-1,.v 5 0)]⟩,[],[]⟩] []) xn 32 (dM 0x1531e12c40bdc80d2f1086ee4c3167f72c597ef2ef12fc265633db7799656fedef67efb1e4580458caeb6f1c9afbb4811153915decf3cdc6dd761c89d7bb6f5ffca10392ddce7918a0ea3f27e275f889b6263bb3f15f03702313d53555482b1818991a7b448) [.t 4] Tryz.func78 (by kernel_rfl)
def ahi:az:=bA [.c .s] [.c .b]
def akN (hg:ae gl):Sp gl 120 ahi:=ay hg (aJ [⟨26,[3],[],[],[],[],[⟨0,[(1,.v 3 0),(-1,.v0 3 0)]⟩],⟨0,[(1,.v 0 0),(-1,.v 3 0)]⟩,[],[]⟩] []) xn 40 (dM 0x3898dbfc43cb4fd25c185c5e786a4bb0508c376f13b2854fba7503e26e13300336c3f4d5bfde2d37ddc22d17c80adfae09dd02769504a21cfb9e97d1e0a3d6bc39b082d911ac861fbbdf6452d8a217f81b071a8c49ffb12a9f8ce9c4bc4f7d0710296a35424bc9d65e9feb7d2354e986ab1f60c3458) [.t 2] Tryz.func120 (by kernel_rfl)
def g79:az:=bA [.a [.i .i64,.s,.s,.s,.i .i64]] [.c .b]
def s79 (hg:ae gl):Sp gl 79 g79:=ay hg (aJ [] []) (xc (s9 hg) (xc (akN hg) xn)) 57 (dM 0x217987c00de2f1d77a5e75aa2768fc7a04e188ccc49e60bbb920d52609a5d0f955b147647860716ca8342c7cebc59da060984d6ee6270ff27766a626ebc18fc42edb831340ca7607d614ff10a11be39af76629c0b3fc49e1c9161b6d8c0d772bb5368a546e1c91d91533beade070e7dda5efc8010a6b2f8ec394f8b10599724fcb5a6bdd91dfa16a617280fe22831ab9d1f471ddaa975950de1215cd479) [.t 2] Tryz.func79 (by kernel_rfl)
def g49:az:=Md [15] (bx [tE] [.c (.l 12 32)] 1048576 16777217 (⟨1,[(13,1)]⟩) [] [⟨13,[(1,1),(2,1),(3,1),(6,1),(8,1),(13,1),(15,-1)]⟩,⟨13,[(1,1),(2,1),(3,1),(6,1),(8,1),(13,1),(14,-13)]⟩])
def s49 (hg:ae gl):Sp gl 49 g49:=ay hg (aJ [⟨122,[3,4],[],[],[(192,32)],[],[⟨0,[(1,.v 4 0),(-1,.v0 4 0)]⟩,⟨0,[(1,.z 0),(-1,.s 3 0),(1,.s0 3 0)]⟩,⟨0,[(1,.z 0),(-13,.v 3 0),(13,.v0 3 0)]⟩],⟨0,[(1,.o 0 11),(-1,.v 4 0)]⟩,[],[(.o 0 11,⟨0,[(1,.v 4 0)]⟩)]⟩] []) xn 26 (dM 0xa758fd8fbb1bd25101170408e7852ec894752f06100dc4433e15020a7af9cde8eb477b3a77b030bc04a2f6bd2fd75dd999c6fffa32919d780f2cf2b2853aac27fcd19c79b22e7296a26405553237fa68b676f3c0ee2b859345a8b705e8cab5cd43a) [.t 2] Tryz.func49 (by kernel_rfl)
def ahZ:az:=bx [tV] [.c .s] 1048576 1152921504606846976 (.aY 0) [] [⟨44,[(2,1),(3,-1)]⟩]
def ak9 (hg:ae gl):Sp gl 212 ahZ:=ay hg (aJ [] []) (xc (aaX hg) (xc (Pd hg) (xc (als hg) xn))) 34 (dM 0x4e2eea4bc743880f496f61170e855a35022ebabef536704dfa85dfcd5bad62bd294fc17b11d087caac7345463071ab8b268f6335b463215047bc9766acbe6ff3960c33458a897439c27a174e7c78405a325dfe708eba9b218706d32e2198c6ddc1a65293806365902ec58eed1eb5ebdc769bc5d9fe6bbacccb04d14611e08f20f4451a142f948b3cf2946fe25553d5c7914b62edd8e0c753d575cd44a) [.t 2] Tryz.func212 (by kernel_rfl)
def aip:az:=Md [2] (bx [.c (.l 2 252)] [.c .s] 1048576 16777216 (.aY 0) [⟨4398046511104,[(1,-1)]⟩] [⟨1,[(1,10),(2,-1)]⟩])
def alu (hg:ae gl):Sp gl 264 aip:=ay hg (aJ [⟨58,[3,4],[],[],[(192,5)],[],[⟨0,[(1,.v 4 0),(-1,.v0 4 0)]⟩,⟨0,[(10,.z 0),(-1,.v 3 0),(1,.v0 3 0)]⟩],⟨0,[(1,.v 0 0),(-1,.v 4 0)]⟩,[],[(.v 0 0,⟨0,[(1,.v 4 0)]⟩)]⟩] []) (xc (alL hg) xn) 42 (dM 0x5e27bc2f589022d432291b4a134e3795b9cf46100f542c38cac4bfe54a6e57dd753c0220a392dd68a438659cc3929c4005c7c44f20120991120e6fa8ace4a575c8cc9a1ce74734829f88a80bbb7a0d884481cbd26a837553bbf10b6cf57791bbcd7bfe4e8c0ad1c895c4fecab5f31bec6131fe5b7517b9bc08f982e6c6345a) [.t 2] Tryz.func264 (by kernel_rfl)
def ah0:az:=Md [2] (bx [.c (.l 2 252)] [.c .s] 1048576 16777216 (.aY 0) [⟨4398046511104,[(1,-1)]⟩] [⟨5,[(1,10),(2,-1)]⟩])
def ala (hg:ae gl):Sp gl 213 ah0:=ay hg (aJ [] []) (xc (alu hg) xn) 10 (dM 0x782adc75991cae51644ec9adc1f57d4aea48ec599220bb677d2e6dc60c326341a) [.t 2] Tryz.func213 (by kernel_rfl)
def NY:az:=bx [tE] [.c .s] 1048576 140737488355324 (.aY 0) [⟨4398046511104,[(8,-1)]⟩] [⟨129,[(1,10),(2,10),(3,10),(6,10),(8,10),(13,10),(14,-1)]⟩]
def akY (hg:ae gl):Sp gl 171 NY:=ay hg (aJ [] []) (xc (ak9 hg) (xc (ala hg) xn)) 23 (dM 0x1848f92647ea75f4b2761431363bdfda8f86671bcf2a6dd34b0dfaa1afa24263f8da8b82ffffb1c48cf8d72905cd7f16ee04d5c29694762b62dfa9a796dc12274cd43b163aed575cd42f) [.t 2] Tryz.func171 (by kernel_rfl)
def N0:az:=bx [.a [.i .i64,.i .i64]] [.c .s] 1048576 40 (.aY 0) [] []
def alb (hg:ae gl):Sp gl 215 N0:=ay hg (aJ [] []) (xc (Pd hg) xn) 23 (dM 0x196af85e0f28ae14fa6e03869a24a2e2c7d1b4bd09671904f31ea454992de58b96d766f105a627d6b406c804d8115789885cd419465c152b98fc8bffc39ad138ee309bdbad7b89068b20552e3cc18aafe23b14dbe5d4be4014fd8e756b4e297284262b17e1d1b68df3c9caaed575cd42f) [.t 2] Tryz.func215 (by kernel_rfl)
def aiq:az:=bA [.c (.i .i64),.c .s] [.c (.i .i64)]
def alv (hg:ae gl):Sp gl 265 aiq:=ay hg (aJ [] []) xn 24 (dM 0x679d4e7ca46cf658257fb1ff65102c4fb7c416f9a8551d81ac163edc66333b1b2dc900bbf57d1baca9941cfa4612eb8a260a4f014155a82e7bc492a2be69beb3c9e551d63deaf3cc03822996589dda75d3a8aefb93b0727f1d69232a0bec542bd818df931ac0edfedda753e0a25fd7af377cc5f7f600d73c0901a6ec20a1b740b175bee13821128b014357a4e1f417e096fc1db1e149aa99e2dda61ffb438) [.t 4] Tryz.func265 (by kernel_rfl)
def N5:az:=bA [tE] [.c (.i .i64)]
def alc (hg:ae gl):Sp gl 216 N5:=ay hg (aJ [] []) (xc (alv hg) xn) 17 (dM 0xa20d9ed7f1c02024fdad08d9b7b34fe89928b427320d06f0df0669695ebdb8dbf2c31d82df06b329ca4423f645b2bbce8c1e04849c31ab3db64421735799aa42dce52296aecf460d945cd429) [.t 2] Tryz.func216 (by kernel_rfl)
def g24:az:=bx [tC,.c (.l 8 1106),.c (.i .i64)] [.c (.l 8 1106)] 1048576 1048576 (.aY 0) [] [⟨0,[(8,1),(11,-1)]⟩]
def s24 (hg:ae gl):Sp gl 24 g24:=ay hg (aJ [⟨58,[7,8],[],[],[(448,1106)],[],[⟨0,[(1,.v 1 0),(-1,.v 8 0)]⟩,⟨0,[(1,.v 8 0),(-1,.v 7 0)]⟩],⟨0,[(1,.v 1 0),(-1,.v 8 0)]⟩,[],[]⟩] []) (xc (QR hg) xn) 50 (dM 0x1f4d5876a8d8a6fe5199915215de42bd4f5a90a79d52c8e59c16ea197c5b3e86a7d83775b3de89758d95f4512dc4b311e402c56b142b2b3d03aa7ec6bf6d0fafd08625b7ff7da1e107f399c676b8d1d25250daaffe23ead1dac4bca9de581a447f27f2de0771ad55a05b81e611e396e8794df81cb38c66114f4fed9e1cbcb2742735c89519e0b725ddd6902a8c97c63c425d16a32ab778e95465af286909c092aeb30c1a33b2d1464510e3e0e29de5d703a2788e607ff57689cf6af363a3472670a2c746a) [.t 6] Tryz.func24 (by kernel_rfl)
def ahw:az:=bA [.c (.i .i64),.c (.i .i64)] [.c (.i .i64)]
def aaV (hg:ae gl):Sp gl 137 ahw:=ay hg (aJ [] []) xn 11 (dM 0x197c1b734ccf25b06c9eed4a7c4ab8a0aae2b0f5aa08bb4c0ff3c115d67d8ceeb41b) [.t 4] Tryz.func137 (by kernel_rfl)
def g94:az:=bA [.a [.s,.i .i64],.a [.s,.i .i64]] [.c (.i .i64)]
def s94 (hg:ae gl):Sp gl 94 g94:=ay hg (aJ [] []) (xc (aaV hg) xn) 20 (dM 0x27bcd3ed8e16ab20b32fb4a7c2f407d9f83ab56f75abb4e8fe555a537bc61050300d26177867aff2a94f806b528e576cd44d660f82a4a53943acd45d342c) [.t 4] Tryz.func94 (by kernel_rfl)
def g56:az:=bx [.c (.l 2 72),.a [.s,.i .i64]] [.c (.l 2 72)] 2199023255552 2199023255553 (.aY 0) [⟨1048576,[(2,-1)]⟩] [⟨1,[(0,1),(4,-1)]⟩]
def s56 (hg:ae gl):Sp gl 56 g56:=ay hg (aJ [⟨28,[5],[],[],[],[],[⟨0,[(1,.v 5 0),(-1,.v0 5 0)]⟩,⟨0,[(1,.v 0 0),(-1,.v 5 0)]⟩],⟨0,[(1,.v 0 0),(-1,.v 5 0)]⟩,[],[]⟩] []) (xc (s94 hg) xn) 49 (dM 0x13122fcb3fdda8bffcf3ecb38d7928d72fd0a79816f8791c8c8c2061360a1aecb0cc3d6e9f8b277519d6ab8fb50fdaff3adc16e117d6c154656bdc47c5f7e6f642855a7922102ee013faf401ce4dfa731cd838594ef423366f109fd1ac17fe53f74ce5e37a2f8946af9940ef3607de83b3cf8bda37169eb1f6eee86539fd9899ef21fdb148a73e7f4d5184ddbcadeb86744c6f9dec1d55d7695583469) [.t 4] Tryz.func56 (by kernel_rfl)
def g57:az:=bA [.a [.s,.i .i64,.i .i64,.i .i64,.s,.s,.i .i64,.l 3 26]] [.a [.s,.i .i64]]
def s57 (hg:ae gl):Sp gl 57 g57:=ay hg (aJ [] []) xn 14 (dM 0x73e5e9caeeb3d89e60859ff4b8fcb9fd28ae0dccf28d54dff40ffdda6d8774a15e6f8231bd14e80b725774d41e) [.c 2 2 true] Tryz.func57 (by kernel_rfl)
def g93:az:=bx [.c (.l 40 88),tC,.a [.i .i64,.s,.s,.s,.i .i64],.c (.l 2 72)] [.c (.l 2 72)] 2199021158400 2199023255552 (.aY 0) [⟨1048576,[(0,-1)]⟩,⟨1048576,[(2,-1)]⟩,⟨1048576,[(4,-1)]⟩,⟨1048576,[(6,-1)]⟩,⟨1048576,[(8,-1)]⟩,⟨1048576,[(11,-1)]⟩,⟨1048576,[(12,-1)]⟩,⟨1048576,[(13,-1)]⟩] [⟨0,[(0,1),(15,1),(17,-1)]⟩]
def s93 (hg:ae gl):Sp gl 93 g93:=ay hg (aJ [⟨26,[9,3],[],[],[(192,72)],[],[⟨0,[(1,.v 9 0),(-1,.v0 9 0)]⟩,⟨0,[(1,.v 0 0),(-1,.v 9 0)]⟩,⟨0,[(1,.v 9 0),(-1,.v0 9 0),(-1,.v 3 0),(1,.v0 3 0)]⟩],⟨0,[(1,.v 0 0),(-1,.v 9 0)]⟩,[],[]⟩] []) (xc (QR hg) (xc (s57 hg) (xc (s56 hg) xn))) 62 (dM 0x2dc7f18808030556b2fe32bde162319a4a5e1cee7168fdb4ec9307541798a32d9729bdc23d3c8055ff4f51f62e77001686297766b2e0f4a7bef04f998d67527728cb7a31d1d6d873e0ee7bb86dc5016516d58a8573697a7a429ff800f0062c60b3153f6787c8d793560e5847d78bd92f8890b567e316eb69042e7de5b225b6ec88b39812164172c79f5c83c53320e5b04d7cf875df67e104b89e8358785019b27b9116cdbf02d62a5b64851dbc905f4c6d65639b0da5855f6ab4c7cdc6f55cf47e) [.t 8] Tryz.func93 (by kernel_rfl)
def g95:az:=bx [.c (.l 40 1088),.a [.s,.i .i64],.c (.i .i64)] [.a [.i .i64,.i .i64,.i .i64,.s,.i .i64,.i .i64,.i .i64,.s,.s,.i .i64,.l 3 26,.i .i64,.s,.s,.s,.i .i64,.i .i64,.s,.s,.l 4 103,.i .i64,.s,.s,.i .i64,.l 2 252,.s,.i .i64,.s,.s,.s,.i .i64,.i .i64,.s,.l 2 252,.i .i64,.i .i64,.i .i64,.l 12 32,.i .i64,.s],.c .b] 1048576 1048576 (.aY 0) [] [⟨0,[(14,1)]⟩,⟨1099511627776,[(14,-1)]⟩]
def s95 (hg:ae gl):Sp gl 95 g95:=ay hg (aJ [⟨122,[10,9],[(2,[0,1,2,3,4,5,6,7,8,9,10,11,12,13,14,15,16,17,18,19,20,21,22,23,24,25,26,27,28,29,30,31,32,33,34,35,36,37,38,39])],[],[(64074,26),(64083,103),(64088,252),(64097,252),(64101,32),(64138,26),(64147,103),(64152,252),(64161,252),(64165,32)],[64165,64161,64152,64147,64138],[⟨1048576,[(-1,.o 2 2)]⟩,⟨0,[(1,.o 2 2)]⟩,⟨1048576,[(-1,.o 2 3)]⟩,⟨0,[(1,.o 2 4)]⟩,⟨1048576,[(-1,.o 2 7)]⟩,⟨1048576,[(-1,.o 2 8)]⟩,⟨0,[(1,.o 2 9)]⟩,⟨1099511627776,[(-1,.o 2 9)]⟩,⟨1048576,[(-1,.o 2 10)]⟩,⟨1048576,[(-1,.o 2 12)]⟩,⟨1048576,[(-1,.o 2 13)]⟩,⟨1048576,[(-1,.o 2 14)]⟩,⟨1048576,[(-1,.o 2 17)]⟩,⟨1048576,[(-1,.o 2 18)]⟩,⟨1048576,[(-1,.o 2 19)]⟩,⟨16777216,[(-1,.so 2 19)]⟩,⟨1048576,[(-1,.o 2 21)]⟩,⟨1048576,[(-1,.o 2 22)]⟩,⟨1048576,[(-1,.o 2 24)]⟩,⟨1048576,[(-1,.o 2 25)]⟩,⟨1048576,[(-1,.o 2 27)]⟩,⟨1048576,[(-1,.o 2 28)]⟩,⟨1048576,[(-1,.o 2 29)]⟩,⟨1048576,[(-1,.o 2 32)]⟩,⟨1048576,[(-1,.o 2 33)]⟩,⟨1048576,[(-1,.o 2 37)]⟩,⟨16777216,[(-1,.so 2 37)]⟩,⟨1048576,[(-1,.o 2 39)]⟩,⟨0,[(1,.v 10 0),(-1,.v 9 0)]⟩],⟨0,[(1,.v 0 0),(-1,.v 10 0)]⟩,[],[]⟩] [⟨489,[43,9],[(2,[0,1,2,3,4,5,6,7,8,9,10,11,12,13,14,15,16,17,18,19,20,21,22,23,24,25,26,27,28,29,30,31,32,33,34,35,36,37,38,39])],[43,11],[(64074,26),(64083,103),(64088,252),(64097,252),(64101,32),(64138,26),(64147,103),(64152,252),(64161,252),(64165,32),(64199,26)],[],[⟨1048576,[(-1,.o 2 2)]⟩,⟨0,[(1,.o 2 2)]⟩,⟨1048576,[(-1,.o 2 3)]⟩,⟨0,[(1,.o 2 4)]⟩,⟨1048576,[(-1,.o 2 7)]⟩,⟨1048576,[(-1,.o 2 8)]⟩,⟨0,[(1,.o 2 9)]⟩,⟨1099511627776,[(-1,.o 2 9)]⟩,⟨1048576,[(-1,.o 2 10)]⟩,⟨1048576,[(-1,.o 2 12)]⟩,⟨1048576,[(-1,.o 2 13)]⟩,⟨1048576,[(-1,.o 2 14)]⟩,⟨1048576,[(-1,.o 2 17)]⟩,⟨1048576,[(-1,.o 2 18)]⟩,⟨1048576,[(-1,.o 2 19)]⟩,⟨16777216,[(-1,.so 2 19)]⟩,⟨1048576,[(-1,.o 2 21)]⟩,⟨1048576,[(-1,.o 2 22)]⟩,⟨1048576,[(-1,.o 2 24)]⟩,⟨1048576,[(-1,.o 2 25)]⟩,⟨1048576,[(-1,.o 2 27)]⟩,⟨1048576,[(-1,.o 2 28)]⟩,⟨1048576,[(-1,.o 2 29)]⟩,⟨1048576,[(-1,.o 2 32)]⟩,⟨1048576,[(-1,.o 2 33)]⟩,⟨1048576,[(-1,.o 2 37)]⟩,⟨16777216,[(-1,.so 2 37)]⟩,⟨1048576,[(-1,.o 2 39)]⟩],⟨0,[(1,.v 9 0)]⟩,[],[]⟩]) (xc (s57 hg) xn) 64 (dM 0x15e33ca20d82a7493f0c5053ef60fe6e8a885f6186a0bab9165d769cb31a723062d33baa92d2ad1ea55fe7dba1a09a72078b38f99edbabb3317390c0ed86dbe3ec0a8c5e849eece4cebe6ac6381cdf63666b5abef810e5e1cbb276b7174a9db7b9745b642a903ffcd662af6d085413dfedbae7bf8e8775d3a44ea367ff514eba5b7d44c960891a0d4778936ad914c121b89441629877b2086bb6cce45b8855447b6a13e731e7344c1f892683301f91aaa4dbdbe95e0c179bb2c435a0eaf79f3602280809d7439db0f4046f390a04395f57fcb4dd09b4e6a4f28ddcd610aa41ed5c5d38956097a77920494dd90971373f6e44a7b342a3e8b3ab8485db73bfc1339859baf8c3b9119d0b20b96f84e53ec63e7670ab31c8edc4b2d17d37e397b4188) [.c 6 40 true,.t 7] Tryz.func95 (by kernel_rfl)
def g96:az:=bx [.c (.l 2 72),.a [.s,.i .i64]] [.c .b] 2199023255552 2199023255552 (.aY 0) [⟨1048576,[(2,-1)]⟩] []
def s96 (hg:ae gl):Sp gl 96 g96:=ay hg (aJ [⟨26,[5],[],[],[],[],[⟨0,[(1,.v 5 0),(-1,.v0 5 0)]⟩],⟨0,[(1,.v 0 0),(-1,.v 5 0)]⟩,[],[]⟩] []) xn 18 (dM 0xa270d7b064e3338487d3f4c4beab1b2f1080e3f69b7859dc7ab9a7b9bd461f88a1ab3188bafda2da71c14c152e1f75f6eb51a25918fd6a8a266742a) [.t 4] Tryz.func96 (by kernel_rfl)
def g97:az:=bx [.a [.i .i64,.i .i64,.i .i64,.s,.i .i64,.i .i64,.i .i64,.s,.s,.i .i64,.l 3 26,.i .i64,.s,.s,.s,.i .i64,.i .i64,.s,.s,.l 4 103,.i .i64,.s,.s,.i .i64,.l 2 252,.s,.i .i64,.s,.s,.s,.i .i64,.i .i64,.s,.l 2 252,.i .i64,.i .i64,.i .i64,.l 12 32,.i .i64,.s],.a [.s,.i .i64]] [.a [.s,.i .i64,.s,.s,.i .i64,.l 3 26,.i .i64,.i .i64]] 1048576 1048576 (.aY 0) [⟨0,[(9,1)]⟩,⟨1099511627776,[(9,-1)]⟩] [⟨0,[(51,1)]⟩,⟨1099511627776,[(51,-1)]⟩]
def s97 (hg:ae gl):Sp gl 97 g97:=ay hg (aJ [] []) xn 23 (dM 0x7877cdbc322a5912ea3d7f41ffb1e5bfceefbf04c72c1d51d4f4cfd80a9986d268f45156d7a274c9198d067573a923dbbedebfca232c5475a12e882372fb20e2a0f656f454e083cee018cd0f42f) [.c 4 8 true] Tryz.func97 (by kernel_rfl)
def g58:az:=bx [.c (.l 40 1088),.c (.l 2 72),.a [.s,.i .i64],.c (.i .i64)] [.a [.s,.i .i64,.s,.s,.i .i64,.l 3 26,.i .i64,.i .i64],.c .b] 2199023255552 1048576 (.aY 0) [⟨1048576,[(0,-1)]⟩,⟨1048576,[(4,-1)]⟩] [⟨0,[(11,1)]⟩,⟨1099511627776,[(11,-1)]⟩]
def s58 (hg:ae gl):Sp gl 58 g58:=ay hg (aJ [] []) (xc (s95 hg) (xc (s96 hg) (xc (s97 hg) xn))) 36 (dM 0x162b71d8e9637528dce6d6723f24905ff2deb0abd191250f3128039b0b5ba3d6a21ea34eb1d741ae344af9bcecbf50a62ba525fa102c42c17889d5ff0b1d7baa8b151afd3cd3515235bd531521f4f6c2427a9e3ab7b006e6df347e01d75a37077b8929580a9200057eaf47aea07a6e3d7c7edc90789f6706963daec32f4eee097af98ea45c03618891cd4b4a5e295b06f5e62d5cf92cdb9a4541731ec344c) [.c 8 8 true,.t 9] Tryz.func58 (by kernel_rfl)
def g98:az:=bA [.a [.s,.i .i64,.s,.s,.i .i64,.l 3 26,.i .i64,.i .i64],.a [.s,.i .i64,.s,.s,.i .i64,.l 3 26,.i .i64,.i .i64]] [.c (.i .i64)]
def s98 (hg:ae gl):Sp gl 98 g98:=ay hg (aJ [] []) (xc (aaV hg) (xc (s94 hg) xn)) 19 (dM 0x876f4c9736e834ec7d78b7586382e39ac33669e96f9c8839ada8d0e92a29caa71bf801735d70bac818dcb91ac1094835c98bf42b) [.t 4] Tryz.func98 (by kernel_rfl)
def g59:az:=bx [.c (.l 8 1106),.a [.s,.i .i64,.s,.s,.i .i64,.l 3 26,.i .i64,.i .i64]] [.c (.l 8 1106)] 1073741824 1073741900 (.aY 0) [⟨0,[(6,1)]⟩,⟨1099511627776,[(6,-1)]⟩,⟨1048576,[(2,-1)]⟩,⟨1048576,[(4,-1)]⟩,⟨1048576,[(5,-1)]⟩,⟨1048576,[(7,-1)]⟩] [⟨1,[(0,1),(11,-1)]⟩]
def s59 (hg:ae gl):Sp gl 59 g59:=ay hg (aJ [⟨28,[5],[],[],[],[],[⟨0,[(1,.v 5 0)]⟩,⟨0,[(1,.v 0 0),(-1,.v 5 0)]⟩],⟨0,[(1,.v 5 0)]⟩,[],[]⟩] []) (xc (s98 hg) xn) 37 (dM 0xda6f63c79c22c11ecfc673b352b7118cf403c3a18631f0e04344643e223865d4b9f0d1fb9673beb9d606f330edb025f897641bb69df277a1ecfa373296a0c864562a0815ee338763cf1b33c8e1aaa89b6966a5d01c30e1dff226b5634069e39deb0f8a4bfc1abd8ed6f6a811383d3eb12695d1864c793e02b11fb4fb4aee10a91ed344d) [.t 4] Tryz.func59 (by kernel_rfl)
abbrev g38:az:=bA [tC,.c .s] [.a [.s,.s,.l 4 103,.i .i64],.c .b]
def s38 (hg:ae gl):Sp gl 38 g38:=mG hg (aJ [⟨26,[11],[],[],[],[],[⟨0,[(1,.v 11 0),(-1,.v0 11 0)]⟩],⟨0,[(1,.v 9 0),(-1,.v 11 0)]⟩,[],[]⟩] []) xn Xz (by kernel_rfl)
def ah6:az:=bx [.c (.l 1 9),.c .s] [.c (.l 1 9)] 25165828 25165832 (.aY 0) [⟨1048576,[(2,-1)]⟩] [⟨1,[(0,1),(3,-1)]⟩]
def aa4 (hg:ae gl):Sp gl 222 ah6:=ay hg (aJ [⟨28,[5],[],[],[],[],[⟨0,[(1,.v 5 0),(-1,.v0 5 0)]⟩,⟨0,[(1,.v 0 0),(-1,.v 5 0)]⟩],⟨0,[(1,.v 0 0),(-1,.v 5 0)]⟩,[],[]⟩] []) xn 48 (dM 0xfbbd31a871c5e9512509a0ece3231971f4b7ca4280075e18a7f699dc60cf8bdc87c00e878471d0bd988fe8045f2e89530f455d4d7c5d6a89aa426b64177a95f233116d41d38406a80d2724f69cf01f9a67c45265cf89063f6fd1b307610ee09d68e4d0c570385748b6415b95f78d530b2d08b566073fdc6e7362abc4a23e8742e2dd77b468) [.t 4] Tryz.func222 (by kernel_rfl)
def ahO:az:=bx [tC] [.c (.l 1 9)] 1048580 1048580 (.aY 0) [] []
def ak1 (hg:ae gl):Sp gl 182 ahO:=ay hg (aJ [⟨58,[3,4],[],[],[(192,9)],[192],[⟨0,[(1,.o 0 1),(-1,.v 4 0)]⟩,⟨0,[(1,.v 4 0),(-1,.v 3 0)]⟩],⟨0,[(1,.o 0 1),(-1,.v 4 0)]⟩,[],[]⟩] []) (xc (aa4 hg) xn) 21 (dM 0x229d75c2565fb2a276ae376d512bb148489d06c32af5f5b130cce72276619016aca9a612f8adb3bd5943ca484a32e834a390f37abcb6d387b846a75cd42d) [.t 2] Tryz.func182 (by kernel_rfl)
def aiv:az:=bx [.c (.l 18 84),.c .s] [tF,.c .b] 1048580 1048576 (.aY 0) [] []
def alA (hg:ae gl):Sp gl 270 aiv:=ay hg (aJ [⟨26,[6],[],[],[],[],[⟨0,[(1,.v 6 0),(-1,.v0 6 0)]⟩],⟨0,[(1,.v 0 0),(-1,.v 6 0)]⟩,[],[]⟩] []) xn 25 (dM 0xdec9b76daec9971b7c0ef3d6f89a5eb913ee5da28ab3b311c5ca653aaf22cd56aa1f87f459e5c0e4d5b6827c5ec3d352d796d6e0c01a740e751dc1d3071dbab11df36b18f0bd9ea5f0b74b99ad8b0da6f9924f176933380b5a5ba3043753994a529eea519b45d8c1cfce5b19af439) [.c 4 18 true,.t 5] Tryz.func270 (by kernel_rfl)
def ah7:az:=bx [tC,.c .s] [tF,.c .b] 1048580 1048576 (.aY 0) [] []
def alf (hg:ae gl):Sp gl 223 ah7:=ay hg (aJ [] []) (xc (alA hg) xn) 12 (dM 0xef529c6b8e08ea8e9fd5d12f9123e05348a00246eba53d2d2a543d2f109f33a975460d126bcccf8f3500a1980fc3341c) [.c 4 18 true,.t 5] Tryz.func223 (by kernel_rfl)
def ah8:az:=bx [tE,.c (.l 1 9),.c (.l 1 9)] [.c (.l 1 9),.c (.l 1 9)] 25165827 25165827 (⟨1,[(13,1)]⟩) [⟨25165824,[(13,-1),(14,-1)]⟩,⟨25165824,[(13,-1),(16,-1)]⟩,⟨1048576,[(1,-1)]⟩,⟨1048576,[(2,-1)]⟩,⟨1048576,[(3,-1)]⟩,⟨1048576,[(6,-1)]⟩,⟨1048576,[(7,-1)]⟩,⟨1048576,[(12,-1)]⟩] [⟨1,[(13,1),(14,1),(18,-1)]⟩,⟨1,[(13,1),(16,1),(20,-1)]⟩]
def alg (hg:ae gl):Sp gl 224 ah8:=ay hg (aJ [⟨466,[1,2,8],[],[],[(64,9),(128,9)],[],[⟨0,[(1,.v 8 0),(-1,.v0 8 0)]⟩,⟨0,[(1,.z 0),(-1,.v 1 0),(1,.v0 1 0)]⟩,⟨0,[(1,.z 0),(-1,.v 2 0),(1,.v0 2 0)]⟩],⟨0,[(1,.o 0 11),(-1,.v 8 0)]⟩,[],[(.o 0 11,⟨0,[(1,.v 8 0)]⟩)]⟩] []) (xc (aa4 hg) xn) 48 (dM 0x116fc4f50a8de1580d63af91383c9f2742885a63d64b17cce3570db6bd4f16fd895fea661c43bba93a4ef611c26ccbe38737a221277a1e8d984957be2f854f68d119de2cfeb49082f71fe03a12a5c64d337b63f0e56318a4de939f362239854db4526feb014db183a4a8ea8f81652c1ff033fda0686bd3043e25f563034af3425224b0b0e63a4ce1ab4f5376b6194001f468) [.t 6,.t 7] Tryz.func224 (by kernel_rfl)
def ahP:az:=bx [tC,.c .s] [.c (.l 1 9)] 1048580 25165827 (.aY 0) [] []
def ak2 (hg:ae gl):Sp gl 183 ahP:=ay hg (aJ [⟨250,[9,10],[],[],[(576,9)],[],[⟨0,[(1,.v 7 0),(-1,.v 10 0)]⟩,⟨0,[(1,.v 10 0),(-1,.v 9 0)]⟩],⟨0,[(1,.v 7 0),(-1,.v 10 0)]⟩,[],[]⟩] []) (xc (alf hg) (xc (alg hg) xn)) 49 (dM 0x774fe3114d1e59eb4a3a612fb3b6b2797643ecdd25ce2eb0cbc9d5da95410fb3a7ee15a40daf6de4c296f03e52b6aa2ec559e53dd52d242d313d904040e62a4e708bc26c429aa7759bd6a930e77c68ce6322118445f329b4c7c43386f8f59fb069fb5a990e65f56d3c22b9af6697a10b2e52f126efbb9d3c97f8135836e9c0df17c61a2a0ad0590f8b1b30670ede55fedba267620724280bbaee26f5928fdeaefded30cf3ec143ce0869be6cc29154934e552377892d402e13f3c7df7a31e553aa8f7db6557f335af26230863fed9149e608818f965bdd76b2b9198f084d5782d4debb9cfa560607ae57469) [.t 4] Tryz.func183 (by kernel_rfl)
def ahQ:az:=bx [.c (.l 1 9),.c .s] [.c .b] 25165828 25165828 (.aY 0) [⟨1048576,[(2,-1)]⟩] []
def ak3 (hg:ae gl):Sp gl 184 ahQ:=ay hg (aJ [⟨26,[5],[],[],[],[],[⟨0,[(1,.v 5 0),(-1,.v0 5 0)]⟩],⟨0,[(1,.v 0 0),(-1,.v 5 0)]⟩,[],[]⟩] []) xn 18 (dM 0x2c3065b69a130ee7669d0c8ee7454bfd905312414d3049241abb4a91b1c7cb74dc1be24425dbe9189fea3224dfda82b7d4e9f1b42a) [.t 4] Tryz.func184 (by kernel_rfl)
abbrev ahT:az:=bA [tV] [.c .b]
def Pc (hg:ae gl):Sp gl 189 ahT:=ay hg (aJ [] []) xn 6 (dM 0x14b8d3d0366c5090f07032b477b1ff10e145215cd46) [.t 2] Tryz.func189 (by kernel_rfl)
def ah9:az:=bA [.c .b] [tV]
def Pe (hg:ae gl):Sp gl 226 ah9:=ay hg (aJ [] []) xn 6 (dM 0x4a37a7406788b4ede0bdb4e028851cd2b95328368ed05d9acdbbba74925bbfe2a7b46) [.c 2 3 true] Tryz.func226 (by kernel_rfl)
def aia:az:=bA [tV] [.c .b]
def Pf (hg:ae gl):Sp gl 227 aia:=ay hg (aJ [] []) xn 11 (dM 0x177718f3ad04e735198767e79c9f32da4de2a554897f215cd41b) [.t 2] Tryz.func227 (by kernel_rfl)
abbrev ahR:az:=bA [.c .s,tV] [tV]
def ak4 (hg:ae gl):Sp gl 187 ahR:=ay hg (aJ [] []) (xc (Pe hg) (xc (Pc hg) (xc (Pf hg) xn))) 38 (dM 0x337b266c43272359e64432be731e532d248bdeb2da287e0219e80494286dabd41fd8de902e627b7faba004e2ce5d1fb774db3177d6347fdc296e15e70fb701398db4c8256b07ab30ab61613209e45f341c9dea734a67fcdc939350d0828fdb264a00e2eeb7c697ffd1f60c7dad3980d25eda6eaa2e1646dfd1e21cd14c490c9fb9a321564caa503744e) [.c 4 3 true] Tryz.func187 (by kernel_rfl)
def aib:az:=bA [tV] [.c .b]
def alh (hg:ae gl):Sp gl 228 aib:=ay hg (aJ [] []) xn 6 (dM 0x52e34f40d9b142436b477b1ff10e145215cd46) [.t 2] Tryz.func228 (by kernel_rfl)
abbrev aic:az:=bA [.c (.i .i64),.c (.i .i64),.c .b] [tV]
def Pg (hg:ae gl):Sp gl 229 aic:=ay hg (aJ [] []) xn 13 (dM 0x208404ef43872dec95cedd8e02eb00695c6cbd4518b6bca749e852971940f6573e49fc06d741d) [.c 6 3 true] Tryz.func229 (by kernel_rfl)
def aiw:az:=bA [tW,tW] [.c (.i .i64)]
def alB (hg:ae gl):Sp gl 272 aiw:=ay hg (aJ [] []) xn 29 (dM 0x3c96f8523be56651fe3c298df80ee30905d651ff5056b451f9928e2d6a6a6441d9270a5bf43c453a0111e4ce6856c7495a867c5c28aeba87f688cc9ac22d9ef6b5f172bf780e8ee37867238e0e27fcf058e09f88821bb8743d) [.t 4] Tryz.func272 (by kernel_rfl)
abbrev aiz:az:=bA [.c (.i .i64)] [tW]
def JR (hg:ae gl):Sp gl 275 aiz:=mG hg (aJ [] []) xn Qd (by kernel_rfl)
def aiY:az:=bA [.c (.i .u64),.c (.i .u64)] [.c (.i .u64),.c (.i .u64)]
def abc (hg:ae gl):Sp gl 320 aiY:=mG hg (aJ [] []) xn Qk (by kernel_rfl)
def aiR:az:=bA [tW,.c (.i .i64)] [tW]
def alQ (hg:ae gl):Sp gl 308 aiR:=mG hg (aJ [] []) (xc (abc hg) xn) Qi (by kernel_rfl)
abbrev aiD:az:=bA [.c (.i .i64),.c (.i .i64)] [tW]
def aa7 (hg:ae gl):Sp gl 279 aiD:=mG hg (aJ [] []) (xc (JR hg) (xc (alQ hg) xn)) Qf (by kernel_rfl)
abbrev aix:az:=bA [tV] [tW]
def aa5 (hg:ae gl):Sp gl 273 aix:=ay hg (aJ [] []) (xc (aa7 hg) (xc (JR hg) xn)) 12 (dM 0x296f738140a0e9f4ceb2d84061a7d6406efce076f734e57b32100d39329b981fbe958c6d7354bbad35f5b4d41c) [.c 2 2 true] Tryz.func273 (by kernel_rfl)
def aif:az:=bA [.c (.i .u64)] [.c (.i .i64)]
def alk (hg:ae gl):Sp gl 255 aif:=ay hg (aJ [] []) xn 25 (dM 0x1d41ee7e2ff74c8ab98f22782b303170b220c5b23a9f07c710a7f487583ee002d96cb65b2d96cb65b2d96cb65b2d96cb65b2d96cb65b2d96cb65b2d96cb65b2d96cb65b2d96cb65b2d96cb65b2d96cb65b2d96cb65b2d96cb65b2d96cb65b2d96cb65b2d96cb65b2d96cb65b2d96cb65b2d96cb65b2d96cb65b2d96cb65b2d96cb65b2d96cb65b2d96cb65b2d96cb65b2d96cb65b2d96cb5aab757ba961706bed05ecaf18beaf8dbbc970d4c6c550e7dcee773b9dcee773b9dcee773b9dcee773b9dcee773b9dcee773b9dcee773b9dcee773b9dcee773b9dcee773b9dcee7730966af666c01fc398dbd7a4937c0e3d137546bfbc400e468c46231188c46231188c462306816071241ecf1b44b1c29a0e396cec6b2111a34dc9beab7e72f07ca62b97e921682cad082786fae3b97ee4019a75108542ec2b9af3455687da3ee6dbe0b21004386e707eac77957cba461e01285b0aaaedb93205380aa5d60bfcc06655d4413f2f0b42d680fbb7028d49b96f3555527572d524956606113439) [.t 2] Tryz.func255 (by kernel_rfl)
abbrev aiE:az:=bA [.c (.i .i64)] [.c (.i .i64),.c .b]
def alF (hg:ae gl):Sp gl 280 aiE:=ay hg (aJ [] []) xn 16 (dM 0xb8918b1060bc3d442d1dbdb1f9f9e4e0a90f3cbbe2ca38a7bdefa2488de9084136ee91867333b878d8c799478ddf840cab18191ae1543428) [.t 2,.t 3] Tryz.func280 (by kernel_rfl)
def aiS:az:=bA [.c (.i .i64)] [.c .b]
def JS (hg:ae gl):Sp gl 309 aiS:=ay hg (aJ [] []) xn 9 (dM 0x30cdf67dd542070bf7fe433333333332f226269f2d1e9515d9999999999999998a711a46da0f93419) [.t 2] Tryz.func309 (by kernel_rfl)
abbrev aiF:az:=bA [.c (.i .i64),.c (.i .i64)] [.c (.i .i64),.c .b]
def aa8 (hg:ae gl):Sp gl 281 aiF:=ay hg (aJ [] []) (xc (JS hg) xn) 24 (dM 0x118071f26418317745cfef236059480b3f73c83016c31daf2136d2dfcf7e36d8d0ac4ab0b120cd86576f3b507890d3f3d94b295ac9e1048650ab8bc5bb5a851ffb438) [.t 4,.t 5] Tryz.func281 (by kernel_rfl)
abbrev aiG:az:=bA [.c (.i .i64),.c (.i .i64)] [.c (.i .i64),.c .b]
def alG (hg:ae gl):Sp gl 282 aiG:=ay hg (aJ [] []) (xc (JS hg) (xc (aa8 hg) xn)) 20 (dM 0xb25e5ce09a31ee9dc9b4e5991aed7867a36cbb8690396121e54c3aee140bbcc0295a9c25b911cd8f2e80ec058ca6fc0eff00a1ecb436199abb42c) [.t 4,.t 5] Tryz.func282 (by kernel_rfl)
def aiZ:az:=bA [.c (.i .i64)] [.c (.i .u64),.c .b]
def alU (hg:ae gl):Sp gl 321 aiZ:=ay hg (aJ [] []) xn 11 (dM 0xddf0a40380cac4c078cb5adfc54c4b7267f83399e2918a0e0d15ab83341b) [.t 2,.t 3] Tryz.func321 (by kernel_rfl)
def ai7:az:=bx [.c (.l 1 3)] [tW] 1048576 1048576 (.aY 0) [⟨-8,[(0,1)]⟩,⟨8,[(0,-1)]⟩] []
def al1 (hg:ae gl):Sp gl 341 ai7:=ay hg (aJ [⟨122,[3,4,5],[],[],[],[],[⟨3,[(-1,.v 5 0)]⟩],⟨1,[(1,.v 5 0)]⟩,[],[]⟩] []) xn 31 (dM 0x20a979586ed58dd8d32fddc1b97cc040db9f7df5fbf8054d9a6ecc94fa627cd53c33cb399231a847f34b5f13f16ffb1a2bb6f7ff470e11b30ef0556817eda243fd843e9e84cebd9225dce05147f7f24e819e0635e3a8b15894e66b652ec379dd75b50f43f) [.c 2 2 true] Tryz.func341 (by kernel_rfl)
def ajg:az:=bA [.c (.i .u64)] [.c (.i .i64)]
def al9 (hg:ae gl):Sp gl 401 ajg:=ay hg (aJ [] []) (xc (alk hg) xn) 15 (dM 0x22b47b333d7b386be61fa216f09b156cb0cf1723680120fa4fa0ac7812e67d3f341f) [.t 2] Tryz.func401 (by kernel_rfl)
abbrev ajf:az:=bA [.c (.i .i64)] [.c (.i .i64)]
def al8 (hg:ae gl):Sp gl 396 ajf:=ay hg (aJ [] []) (xc (al9 hg) xn) 13 (dM 0x53b8a0a56827d34300c48ae2a2d8f427bb4461a843fc708dfdf3e32ed375f515341d) [.t 2] Tryz.func396 (by kernel_rfl)
end Go.Proofs.YtoopnalhhfmgaaaGreatDoor
