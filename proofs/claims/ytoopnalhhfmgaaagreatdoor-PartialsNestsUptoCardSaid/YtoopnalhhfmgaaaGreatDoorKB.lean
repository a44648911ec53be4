/- Contracts by hand: symMerge leaves cells that ascend. -/
import Derived.Test.YtoopnalhhfmgaaaGreatDoorKA
set_option linter.defProp false
set_option linter.unusedSimpArgs false
set_option linter.unusedVariables false
set_option maxHeartbeats 16000000
namespace Go.Proofs.YtoopnalhhfmgaaaGreatDoor
open Go Go.V
set_option maxRecDepth 100000
variable {gl:List (Nat×List AV)}
variable (Ua Ub Uc Ud Ue Uf Ug Uh Ui Uj Uk Ul Um Un Uo Up:AV) (Ya Yb Yc Yd Ye Yf Yg Yh:MC)
attribute [local go_sem ↓] cu aj.ev MK.ev MK.ob Hc
attribute [local go_sem high] Hd
attribute [local go_sem] rO gn fZ lC oT py kq bU gG lF mQ AV.there AV.plus cC fV AV.gB AV.cells cn dp iH lx jE kr lE nS eg isStr fm fN appArg cS cG gQ fU cU jx bI fG jS dE St.none if_true if_false ite_self eq_self ne_eq implies_true forall_const jm.av bX.av jB.av lZ.av rU.av He
def ue {x y:Nat} (h:x+y<9223372036854775808):IntKind.i64.wrap (mh .u64 (IntKind.u64.wrap ((x+y:Nat):Int)) 1)=(((x+y)/2:Nat):Int):=by rw [vm (by omega) (by omega),EJ _ _ _ (by decide),show (x+y)/2^Int.toNat 1=(x+y)/2 from rfl,aR (by omega) (by omega)]
def Sx:=(by conv=>lhs;reduce:dC [Ua,Ub,Uc] [] 0x1fa5b07ea39210a601b7a694d15837346514121b200ae8eeda651ac8fcb6b3961c8fcad07e463343ffe783b5343bb527d4a2d982ffaee309c17a3971497db17e7cfc7db0ec3d06e=_)
def E5:=rO (Sx (.int .u64 1) (.int .i64 0) (.int .i64 1))
def Sy:=(by conv=>lhs;reduce:dC [Ua] [] 0x2030f93a9715712efa056e85ae64072dc793b61c6d4da59db8c0c387bd7ebe43debda3724e5ec93d069a28b01baaf54899bb44e8cce78fd313282ed1e45119ac30451943925f307afd019d=_)
def LH:=rO (Sy (.int .i64 1))
def Sk:=(by conv=>lhs;reduce:dC [] [Ya] 0x169bd5d6cf4d1c57f41c0d06f=_)
abbrev YK:=rP (Sk LH)
def Sz:=(by conv=>lhs;reduce:dC [Ua,Ub,Uc] [] 0x381aa7c6522116ac4e49b7ec7462f5fb4d0d68ff247a59341186c2397162155e037148800cf1ba39826ab702793d3aab5aa13fb64fbe4d2a128e20680721f0dab6db9bdb7569ca4014c9bd01db=_)
def E6:=rO (Sz (.int .u64 1) (.int .i64 0) (.int .i64 1))
def SA:=(by conv=>lhs;reduce:dC [Ua] [] 0x192b65ad35af7c90a08d54e39d2ad3f4995cac515d5ce06c31a5cbdbe10fa0b227e9c2c47d0d08971ba65259873dabd1cc8392117babdcb786d387444930a079c71716a806e7808ed2d0289=_)
def LJ:=rO (SA (.int .i64 1))
def Sl:=(by conv=>lhs;reduce:dC [] [Ya] 0x2940ecf7ff8e3286e21dbfd01dc=_)
abbrev YL:=rP (Sl LJ)
def SB:=(by conv=>lhs;reduce:dC [Ua,Ub,Uc] [] 0x4d66625680aa319ebeee7a9d82fc5fae899d08ec03de2ae6845144be0572424c7c000595f37b55be33f0627c5dc003fc8c54551cc0bd64dc92a11ba6188088e731494076e24c812ebb990991310f452f9933e34e095d75eb7c899d02df=_)
def xG:=rO (SB (.int .u64 1) (.int .i64 0) (.int .i64 1))
def Sm:=(by conv=>lhs;reduce:dC [] [] 0x25bd14d98632cfa28c164fd535fb09c56486c6df0de566b5341a36a54f26388=_)
abbrev YM:=rP Sm
def Sn:=(by conv=>lhs;reduce:dC [] [] 0xc0ca05b35524e05607b941c70a99bcbfab50e5723685dbc30d37fa639e=_)
abbrev YN:=rP Sn
def Sq:=(by conv=>lhs;reduce:dC [] [] 0x89dc858b72c8c0171dc0152ca2dae077c16b93aa0263bc=_)
abbrev YO:=rP Sq
def Sr:=(by conv=>lhs;reduce:dC [Ua] [Ya] 0xe15c61c16c20732f27ff4cae3fb339d9826d38ace38596f030ecb1c3343ae=_)
abbrev YP:=rP (Sr (.bool false) YO)
def Ss:=(by conv=>lhs;reduce:dC [Ua] [Ya,Yb] 0x223aecd6a9c0faf1485b2361eff288187de615e5a98e9236ea32faca69f3cb250222d0398=_)
abbrev YQ:=rP (Ss (.bool false) YN YP)
def Su:=(by conv=>lhs;reduce:dC [Ua] [Ya,Yb] 0x1374a8981270db99cc8363ec3c8f20b2737bda154176ef34d74c45e1a91707744b7246c446c1bbc646cfbb938f42fa=_)
abbrev LG:=rP (Su (.bool false) YM YQ)
def Sv:=(by conv=>lhs;reduce:dC [Ua] [Ya,Yb] 0x11edac67b9426c9d7f5f708382d0afb979f09a6e683f33114f42ad=_)
abbrev YR:=rP (Sv (.int .i64 1) xG LG)
def Sw:=(by conv=>lhs;reduce:dC [Ua,Ub] [Ya] 0x86f265e821c3f999bd531b2243fa4cf7df24962b4ee92961b41f9641db17389e331674f397d929627f5ca9673ed9f9dda713eb03e4ef91d89676bdc4725e3c85751e43f5739387742ab=_)
abbrev YS:=rP (Sw (.int .u64 1) (.int .i64 0) YR)
def NX:=(by conv=>lhs;reduce:dC [Ua] [Ya,Yb,Yc] 0x50cd1befbb6fc4967195df6bf4550f0df8ebe76c32121735d95dc981e8b87803cb7c0d25ef1d01ab=_)
abbrev TV:=rP (NX (.int .i64 1) E6 YL YS)
def ab6:=(by conv=>lhs;reduce:dC [Ua] [Ya,Yb,Yc] 0x184f50a452f36c59088ab8be8edfd57d010296b39a30bfb17eb28bd01e572e44cc9135d03f=_)
abbrev ajV:=rP (ab6 (.int .i64 1) E5 YK TV)
def adk:aD pg 151 220 ajV []:= .o2 Tryz.func151 (by kernel_rfl)
def VM (hg:ae gl) (f:FuncId) (hf:Dz gl f) (l N nt:Nat) (cs:List AV) (C:List Cl) (ob:List (Nat×List AV)) (lv:List Nat) (hl:List.lookup l ob=some cs) (h:Row cs (dh C)) (hs:iE C) (hn:C.length<=1000000000):
  ∀ (w a m b:Nat),b-a<=w->a<m->m<b->b<=C.length->ao pg 151 [.aN 6 C.length l 0,.int .i64 (a:Int),.int .i64 (m:Int),.int .i64 (b:Int),.fn (.func f) [] []] ⟨N,ob,nt,lv,gl⟩ fun o S'=>o= .ok (.aF [])/\S'=⟨N,ob,nt,lv,gl⟩
 |0,a,m,b,hw,ham,hmb,hb=>by omega
 |w+1,a,m,b,hw,ham,hmb,hb=>by
  have ih:=VM hg f hf l N nt cs C ob lv hl h hs hn w;have hgl:∀ M,St.get ⟨M,ob,nt,lv,gl⟩ l=some cs:=fun _=>hl;have hbl:=h.bu (by rw [gg];omega)
  have cmp:∀ i j,i<C.length->j<=i->∃ c d:Cl,(List.take 6 (cs.drop (i*6))= .int .i64 c.1::c.2/\(6<=(cs.drop (i*6)).length)=True)/\(List.take 6 (cs.drop (j*6))= .int .i64 d.1::d.2/\(6<=(cs.drop (j*6)).length)=True)/\Pure pg gl f [.agg (.int .i64 c.1::c.2),.agg (.int .i64 d.1::d.2)] (.ok (.int .i64 (bP c.1 d.1)))/\decide (bP c.1 d.1<0)=false:=fun i j hi hj=>by
   obtain ⟨c,hc⟩:∃ c,C[i]? =some c:=aK hi;obtain ⟨d,hd⟩:∃ d,C[j]? =some d:=aK (by omega);refine ⟨c,d,h.at (gF hc),h.at (gF hd),hf c d (h.r6.cl (Aj hc)).2 (h.r6.cl (Aj hd)).2,decide_eq_false fun h=>?_⟩;have:=tQ.1 h;have:=hs.le hd hc hj;omega
  have w1:IntKind.i64.wrap ((m:Int)-(a:Int))=((m-a:Nat):Int):=by rw [aR (by omega) (by omega)];omega
  have w2:IntKind.i64.wrap ((b:Int)-(m:Int))=((b-m:Nat):Int):=by rw [aR (by omega) (by omega)];omega
  refine .aC adk (by simp) (ab 200 ?_);generalize hK:bI _ _=Q
  by_cases h1:m-a=1
  ·have q1:(((m-a:Nat):Int)==1)=true:=by rw [h1];rfl
   repeat' with_reducible first|refine ar ?_|refine au ?_|refine ⟨?_,?_⟩|intro _|simp only [go_sem,seval,w1,q1]
   refine .ga (fun k F S=>∃ j:Nat,F=[(0,.aN 6 C.length l 0),(1,.int .i64 (a:Int)),(4,.fn (.func f) [] []),(10,.int .i64 (m:Int)),(11,.int .i64 (j:Int))]/\S=⟨N,ob,nt,lv,gl⟩/\m<=j/\j<=b/\k=j-m) (b-m) ⟨b,rfl,rfl,by omega,Af _,rfl⟩ ?_;rintro k F S ⟨j,rfl,rfl,hj1,hj2,rfl⟩ ih2
   by_cases hj:m<j
   ·have hww:IntKind.i64.wrap ((m:Int)+(j:Int))=((m+j:Nat):Int):=by rw [aR (by omega) (by omega)];omega
    have hh:=ue (x:=m) (y:=j) (by omega);obtain ⟨c,d,⟨e1,e2⟩,⟨e3,e4⟩,hcmp,hlt⟩:=cmp ((m+j)/2) a (by omega) (by omega);refine bp E5.eq_1 ?_
    repeat' with_reducible first|refine ar ?_|refine au ?_|refine .pu (hcmp) hg rfl ?_|refine ⟨?_,?_⟩|intro _|simp only [go_sem,seval,fk hj,hww,hh,hgl,hbl,e1,e2,e3,e4,hlt]
    all_goals first
     |omega
     |(rw [<-hK];simp only [aM];done)
     |skip
    exact ih2 _ _ _ (by omega) ⟨(m+j)/2,rfl,rfl,by omega,by omega,rfl⟩
   ·refine bp E5.eq_1 ?_
    repeat' first
     |with_reducible first|refine ar ?_|refine au ?_|refine ⟨?_,?_⟩|intro _
     |simp only [go_sem,seval,fE (Am hj)]
    have w3:IntKind.i64.wrap ((m:Int)-1)=(a:Int):=by rw [aR (by omega) (by omega)];omega
    have q3:decide ((a:Int)<(a:Int))=false:=decide_eq_false (by omega);refine ah.ek (ab 60 (bM LH.eq_1 ?_))
    repeat' with_reducible first|refine ar ?_|refine au ?_|refine ⟨?_,?_⟩|intro _|simp only [go_sem,seval,w3,q3]
    rw [<-hK];simp only [go_sem,seval]
  ·have q1:(((m-a:Nat):Int)==1)=false:=by simp;omega
   by_cases h2:b-m=1
   ·have q2:(((b-m:Nat):Int)==1)=true:=by rw [h2];rfl
    repeat' with_reducible first|refine ar ?_|refine au ?_|refine ⟨?_,?_⟩|intro _|simp only [go_sem,seval,w1,q1,w2,q2]
    refine .ga (fun k F S=>∃ i:Nat,F=[(0,.aN 6 C.length l 0),(2,.int .i64 (m:Int)),(4,.fn (.func f) [] []),(14,.int .i64 (i:Int)),(15,.int .i64 (m:Int))]/\S=⟨N,ob,nt,lv,gl⟩/\a<=i/\i<=m/\k=m-i) (m-a) ⟨a,rfl,rfl,Af _,by omega,rfl⟩ ?_;rintro k F S ⟨i,rfl,rfl,hi1,hi2,rfl⟩ ih2
    by_cases hi:i<m
    ·have hww:IntKind.i64.wrap ((i:Int)+(m:Int))=((i+m:Nat):Int):=by rw [aR (by omega) (by omega)];omega
     have hh:=ue (x:=i) (y:=m) (by omega);obtain ⟨c,d,⟨e1,e2⟩,⟨e3,e4⟩,hcmp,hlt⟩:=cmp m ((i+m)/2) (by omega) (by omega);refine bp E6.eq_1 ?_
     repeat' first
      |with_reducible first|refine ar ?_|refine au ?_|refine .pu (hcmp) hg rfl ?_|refine ⟨?_,?_⟩|intro _
      |simp only [go_sem,seval,fk hi,hww,hh,hgl,hbl,e1,e2,e3,e4,hlt,ba (show (i+m)/2<9223372036854775807 by omega)]
     all_goals first
      |omega
      |(rw [<-hK];simp only [aM];done)
      |skip
     exact ih2 _ _ _ (by omega) ⟨(i+m)/2+1,rfl,rfl,by omega,by omega,rfl⟩
    ·refine bp E6.eq_1 ?_
     repeat' first
      |with_reducible first|refine ar ?_|refine au ?_|refine ⟨?_,?_⟩|intro _
      |simp only [go_sem,seval,fE (Am hi)]
     obtain rfl:i=m:=by omega
     have q3:decide ((i:Int)>(i:Int))=false:=decide_eq_false (by omega);have q4:decide ((i:Int)<(i:Int))=false:=decide_eq_false (by omega);refine ah.ek (ab 60 (bM LJ.eq_1 ?_))
     repeat' with_reducible first|refine ar ?_|refine au ?_|refine ⟨?_,?_⟩|intro _|simp only [go_sem,seval,q3,q4]
     rw [<-hK];simp only [go_sem,seval]
   ·have q2:(((b-m:Nat):Int)==1)=false:=by simp;omega
    obtain ⟨M,hM⟩:∃ M,M=(a+b)/2:=⟨_,rfl⟩;have w3:IntKind.i64.wrap ((a:Int)+(b:Int))=((a+b:Nat):Int):=by rw [aR (by omega) (by omega)];omega
    have w4:=ue (x:=a) (y:=b) (by omega);rw [<-hM] at w4;have w5:IntKind.i64.wrap ((M:Int)+(m:Int))=((M+m:Nat):Int):=by rw [aR (by omega) (by omega)];omega
    have w6:IntKind.i64.wrap (((M+m:Nat):Int)-1)=((M+m-1:Nat):Int):=by rw [aR (by omega) (by omega)];omega
    have q0:∀ x y:Nat,x<y->decide ((x:Int)<(y:Int))=true:=fun x y h=>decide_eq_true (by omega);have q9:∀ x y:Nat,y<=x->decide ((x:Int)<(y:Int))=false:=fun x y h=>decide_eq_false (by omega)
    have mrg:∀ s0 R:Nat,(R=M/\M<m)∨(R=m/\m<=M)->s0<=R->M+m<=b+s0->ah pg 220 [.code (.loop xG),.inBlock 8,.code (.named [0,1,2,3,4,18,19,20] LG)] [] [(0,.aN 6 C.length l 0),(1,.int .i64 (a:Int)),(2,.int .i64 (m:Int)),(3,.int .i64 (b:Int)),(4,.fn (.func f) [] []),(18,.int .i64 (M:Int)),(19,.int .i64 ((M+m:Nat):Int)),(20,.int .i64 (s0:Int)),(21,.int .i64 (R:Int)),(22,.int .i64 ((M+m-1:Nat):Int))] ⟨N,ob,nt,lv,gl⟩ Q:=by
     intro s0 R hR hs0 hlow;refine .ga (fun k F S=>∃ i:Nat,F=[(0,.aN 6 C.length l 0),(1,.int .i64 (a:Int)),(2,.int .i64 (m:Int)),(3,.int .i64 (b:Int)),(4,.fn (.func f) [] []),(18,.int .i64 (M:Int)),(19,.int .i64 ((M+m:Nat):Int)),(20,.int .i64 (i:Int)),(21,.int .i64 (R:Int)),(22,.int .i64 ((M+m-1:Nat):Int))]/\S=⟨N,ob,nt,lv,gl⟩/\s0<=i/\i<=R/\k=R-i) (R-s0) ⟨s0,rfl,rfl,Af _,hs0,rfl⟩ ?_;rintro k F S ⟨i,rfl,rfl,hi1,hi2,rfl⟩ ih2
     by_cases hi:i<R
     ·have hww:IntKind.i64.wrap ((i:Int)+(R:Int))=((i+R:Nat):Int):=by rw [aR (by omega) (by omega)];omega
      have hh:=ue (x:=i) (y:=R) (by omega);have hpc:IntKind.i64.wrap (((M+m-1:Nat):Int)-(((i+R)/2:Nat):Int))=((M+m-1-(i+R)/2:Nat):Int):=by rw [aR (by omega) (by omega)];omega
      obtain ⟨c,d,⟨e1,e2⟩,⟨e3,e4⟩,hcmp,hlt⟩:=cmp (M+m-1-(i+R)/2) ((i+R)/2) (by omega) (by omega);refine bp xG.eq_1 ?_
      repeat' first
       |with_reducible first|refine ar ?_|refine au ?_|refine .pu (hcmp) hg rfl ?_|refine ⟨?_,?_⟩|intro _
       |simp only [go_sem,seval,fk hi,hww,hh,hpc,hgl,hbl,e1,e2,e3,e4,hlt,ba (show (i+R)/2<9223372036854775807 by omega)]
      all_goals first
       |omega
       |(rw [<-hK];simp only [aM];done)
       |skip
      exact ih2 _ _ _ (by omega) ⟨(i+R)/2+1,rfl,rfl,by omega,by omega,rfl⟩
     ·refine bp xG.eq_1 ?_;obtain rfl:i=R:=by omega
      have w7:IntKind.i64.wrap (((M+m:Nat):Int)-(i:Int))=((M+m-i:Nat):Int):=by rw [aR (by omega) (by omega)];omega
      rcases hR with ⟨rfl,hlt⟩|⟨rfl,hle⟩
      ·have i1:=ih i m b (by omega) (by omega) (by omega) hb;have w8:i+m-i=m:=by omega
       rw [w8] at w7
       repeat' first
        |with_reducible first|refine ar ?_|refine au ?_|refine bt.fY (i1) ?_|refine ⟨?_,?_⟩|intro _
        |simp only [go_sem,seval,fE (Am hi),w7,q9 m m (Af _),q9 i i (Af _),q0 i m hlt,q0 a i (by omega),q0 m b (by omega)]
       rw [<-hK];simp only [go_sem,seval]
      ·have w8:M+i-i=M:=by omega
       rw [w8] at w7;rcases hiM:decide ((i:Int)<(M:Int)) with _|_
       ·
        repeat' first
         |with_reducible first|refine ar ?_|refine au ?_|refine ⟨?_,?_⟩|intro _
         |simp only [go_sem,seval,fE (Am hi),w7,q9 i i (Af _),q9 M M (Af _),q0 a i (by omega),hiM]
        rw [<-hK];simp only [go_sem,seval]
       ·have hiM':=of_decide_eq_true hiM;have i1:=ih a i M (by omega) (by omega) (by omega) (by omega)
        repeat' first
         |with_reducible first|refine ar ?_|refine au ?_|refine bt.fY (i1) ?_|refine ⟨?_,?_⟩|intro _
         |simp only [go_sem,seval,fE (Am hi),w7,q9 i i (Af _),q9 M M (Af _),q0 a i (by omega),hiM]
        rw [<-hK];simp only [go_sem,seval]
    rcases hc:decide ((M:Int)<(m:Int)) with _|_
    ·
     repeat' with_reducible first|refine ar ?_|refine au ?_|refine ⟨?_,?_⟩|intro _|simp only [go_sem,seval,w1,q1,w2,q2,w3,w4,w5,w6,hc]
     have:=of_decide_eq_false hc;exact mrg a m (.inr ⟨rfl,by omega⟩) (by omega) (by omega)
    ·have hlt:=of_decide_eq_true hc;have w7:IntKind.i64.wrap (((M+m:Nat):Int)-(b:Int))=((M+m-b:Nat):Int):=by rw [aR (by omega) (by omega)];omega
     repeat' with_reducible first|refine ar ?_|refine au ?_|refine ⟨?_,?_⟩|intro _|simp only [go_sem,seval,w1,q1,w2,q2,w3,w4,w5,w6,w7,hc]
     exact mrg (M+m-b) M (.inl ⟨rfl,by omega⟩) (by omega) (by omega)
def RI:=(by conv=>lhs;reduce:dC [] [] 0x965b6f494e3820fafdf6f01298e09d9f4fbcb4f02c5195a00f385ab195af291c27c7d36b171160b3d02f=_)
def sL:=rO RI
def RJ:=(by conv=>lhs;reduce:dC [Ua] [] 0xea2b5e39ffd2757b1e1034943f07e3117e499d04899bdd0687d22ec0adcf633a5a8a86b1a3f6f49c39ecddaa38874d983734025d069=_)
def p9:=rO (RJ (.int .i64 2))
def RF:=(by conv=>lhs;reduce:dC [Ua] [] 0xc5c3dcdedba52931b31d7f=_)
abbrev X5:=rP (RF (.int .i64 2))
def RG:=(by conv=>lhs;reduce:dC [] [Ya] 0x513b24c2ad9fc0153ec26e3ef363a86e0c87f9885bf9ac59349b37be452157283e6c1b89c738060385d07d=_)
abbrev X6:=rP (RG X5)
def RL:=(by conv=>lhs;reduce:dC [Ua,Ub] [Ya,Yb] 0xcb2d5b0e1382e36f7ab8d39675f59db51c76458e742ff9b41da3ac5882d049=_)
def sM:=rO (RL (.int .i64 2) (.int .i64 0) p9 X6)
def RH:=(by conv=>lhs;reduce:dC [] [Ya] 0xf0c808c6a767bf77949104a2931f6da49e630f43c=_)
abbrev X7:=rP (RH sM)
def abQ:=(by conv=>lhs;reduce:dC [Ua,Ub] [Ya,Yb] 0x1e86afb283d614b1797d96ffa8761a1c3f2341b=_)
abbrev X4:=rP (abQ (.int .i64 20) (.int .i64 0) sL X7)
def IX:aD pg 104 63 X4 []:= .o2 Tryz.func104 (by kernel_rfl)
def ag8:=(by conv=>lhs;reduce:dC [] [] 0x1d408fa03b9ee0f3d4d96d19=_)
abbrev m66:=rP ag8
def Of:aD pg 66 9 m66 []:= .o2 Tryz.func66 (by kernel_rfl)
def afY (hg:ae gl) (f:FuncId) (hf:Dz gl f) (l N nt:Nat) (cs:List AV) (C:List Cl) (ob:List (Nat×List AV)) (lv:List Nat) (hl:List.lookup l ob=some cs) (h:Row cs (dh C)) (hs:iE C) (hn:C.length<=1000000):
  ao pg 104 [.aN 6 C.length l 0,.int .i64 (C.length:Int),.fn (.func f) [] []] ⟨N,ob,nt,lv,gl⟩ fun o S'=>o= .ok (.aF [])/\S'=⟨N,ob,nt,lv,gl⟩:=by
 have i150:=fun a b hb hab=>aga hg f hf l N nt a b cs C ob lv hl h hs (by omega) hb hab;have i151:=fun a m b ham hmb hb=>VM hg f hf l N nt cs C ob lv hl h hs (by omega) (b-a) a m b (Af _) ham hmb hb;obtain ⟨n,hnn⟩:∃ n,n=C.length:=⟨_,rfl⟩;rw [<-hnn] at i150 i151 hn ⊢;refine .aC IX (by simp) (ab 200 ?_);generalize hK:bI _ _=Q;have z20:(20:Int)=((20:Nat):Int):=rfl
 repeat' with_reducible first|refine ar ?_|refine au ?_|refine ⟨?_,?_⟩|intro _|simp only [go_sem,seval]
 refine .ga (fun k F S=>∃ x:Nat,F=[(0,.aN 6 n l 0),(1,.int .i64 (n:Int)),(2,.fn (.func f) [] []),(6,.int .i64 20),(7,.int .i64 (x:Int)),(8,.int .i64 ((x+20:Nat):Int))]/\S=⟨N,ob,nt,lv,gl⟩/\x<=n/\k=n-x) n ⟨0,rfl,rfl,Au _,rfl⟩ ?_;rintro k F S ⟨x,rfl,rfl,hx,rfl⟩ ih;rcases hc:decide (((x+20:Nat):Int)<=(n:Int)) with _|_
 rotate_left
 ·have hc':=of_decide_eq_true hc;have i1:=i150 x (x+20) (by omega) (by omega);have w1:IntKind.i64.wrap (((x+20:Nat):Int)+20)=((x+20+20:Nat):Int):=by rw [aR (by omega) (by omega)];rfl
  refine bp sL.eq_1 ?_
  repeat' with_reducible first|refine ar ?_|refine au ?_|refine bt.fY (i1) ?_|refine ⟨?_,?_⟩|intro _|simp only [go_sem,seval,hc,w1]
  exact ih _ _ _ (by omega) ⟨x+20,rfl,rfl,by omega,rfl⟩
 ·have i1:=i150 x n (Af _) hx;refine bp sL.eq_1 ?_
  repeat' with_reducible first|refine ar ?_|refine au ?_|refine bt.fY (i1) ?_|refine ⟨?_,?_⟩|intro _|simp only [go_sem,seval,hc]
  refine .ga (fun k F S=>∃ s:Nat,∃ G,F=(0,.aN 6 n l 0)::(1,.int .i64 (n:Int))::(2,.fn (.func f) [] [])::(6,.int .i64 (s:Int))::G/\S=⟨N,ob,nt,lv,gl⟩/\0<s/\s<=2*n+20/\k=2*n+20-s) (2*n) ⟨20,_,rfl,rfl,by omega,by omega,by omega⟩ ?_;rintro k F S ⟨s,G,rfl,rfl,hs0,hs1,rfl⟩ ih2;rcases hc2:decide ((s:Int)<(n:Int)) with _|_
  ·refine bp sM.eq_1 ?_
   repeat' with_reducible first|refine ar ?_|refine au ?_|refine ⟨?_,?_⟩|intro _|simp only [go_sem,seval,hc2]
   rw [<-hK];simp only [go_sem,seval]
  ·have hc2':=of_decide_eq_true hc2;have w2:IntKind.i64.wrap (2*(s:Int))=((2*s:Nat):Int):=by rw [aR (by omega) (by omega)];omega
   refine bp sM.eq_1 ?_
   repeat' with_reducible first|refine ar ?_|refine au ?_|refine ⟨?_,?_⟩|intro _|simp only [go_sem,seval,hc2,w2]
   have w4:IntKind.i64.wrap ((s:Int)*2)=((2*s:Nat):Int):=by rw [aR (by omega) (by omega)];omega
   refine .ga (fun k F S=>∃ y:Nat,F=[(0,.aN 6 n l 0),(1,.int .i64 (n:Int)),(2,.fn (.func f) [] []),(6,.int .i64 (s:Int)),(7,.int .i64 (y:Int)),(8,.int .i64 ((y+2*s:Nat):Int))]/\S=⟨N,ob,nt,lv,gl⟩/\y<=n/\k=n-y) n ⟨0,by rw [Aw];rfl,rfl,Au _,rfl⟩ ?_;rintro k F S ⟨y,rfl,rfl,hy,rfl⟩ ih3;have w5:IntKind.i64.wrap ((y:Int)+(s:Int))=((y+s:Nat):Int):=by rw [aR (by omega) (by omega)];omega
   rcases hc3:decide (((y+2*s:Nat):Int)<=(n:Int)) with _|_
   rotate_left
   ·have hc3':=of_decide_eq_true hc3;have i2:=i151 y (y+s) (y+2*s) (by omega) (by omega) (by omega);have w3:IntKind.i64.wrap (((y+2*s:Nat):Int)+((2*s:Nat):Int))=((y+2*s+2*s:Nat):Int):=by rw [aR (by omega) (by omega)];omega
    refine bp p9.eq_1 ?_
    repeat' with_reducible first|refine ar ?_|refine au ?_|refine bt.fY (i2) ?_|refine ⟨?_,?_⟩|intro _|simp only [go_sem,seval,hc3,w2,w3,w5]
    exact ih3 _ _ _ (by omega) ⟨y+2*s,rfl,rfl,by omega,rfl⟩
   ·rcases hc4:decide (((y+s:Nat):Int)<(n:Int)) with _|_
    ·refine bp p9.eq_1 ?_
     repeat' with_reducible first|refine ar ?_|refine au ?_|refine ⟨?_,?_⟩|intro _|simp only [go_sem,seval,hc3,w4,w5,hc4]
     exact ih2 _ _ _ (by omega) ⟨2*s,_,rfl,rfl,by omega,by omega,rfl⟩
    ·have hc4':=of_decide_eq_true hc4;have i2:=i151 y (y+s) n (by omega) (by omega) (by omega);refine bp p9.eq_1 ?_
     repeat' with_reducible first|refine ar ?_|refine au ?_|refine bt.fY (i2) ?_|refine ⟨?_,?_⟩|intro _|simp only [go_sem,seval,hc3,w4,w5,hc4]
     exact ih2 _ _ _ (by omega) ⟨2*s,_,rfl,rfl,by omega,by omega,rfl⟩
def c66 (hg:ae gl) (f:FuncId) (hf:Dz gl f) (l N nt:Nat) (cs:List AV) (C:List Cl) (ob:List (Nat×List AV)) (lv:List Nat) (hl:List.lookup l ob=some cs) (h:Row cs (dh C)) (hs:iE C) (hn:C.length<=1000000):
  ao pg 66 [.aN 6 C.length l 0,.fn (.func f) [] []] ⟨N,ob,nt,lv,gl⟩ fun o S'=>o= .ok (.aF [])/\S'=⟨N,ob,nt,lv,gl⟩:=by
 have i1:=afY hg f hf l N nt cs C ob lv hl h hs hn;refine .aC Of (by simp) (ab 200 ?_)
 repeat' with_reducible first|refine ar ?_|refine au ?_|refine bt.fY (i1) ?_|refine ⟨?_,?_⟩|intro _|simp only [go_sem,seval]
abbrev Ce:=Int×aP
def aW (D:List Ce):List Cl:=D.map fun c=>(c.1,c.2.l)
def sz (s:aP):Nat:=s.cJ.length+s.fQ.length
def eI (D:List Ce):Nat:=(D.map fun c=>sz c.2).sum
structure Jn (gl:List (Nat×List AV)) (op:List UInt8) (I:aP->Prop) (J:aP->aP->aP):Prop where
 call:∀ s t,I s->I t->sz s+sz t<=1000000->Pure pg gl 33 [.str op,.agg s.l,.agg t.l] (.ok (.agg (J s t).l))
 ok:∀ s t,I s->I t->I (J s t)
 sz:∀ s t,sz (J s t)<=sz s+sz t
def iq (D:List Ce):∀ v∈(aW D).map ec,Nm v:=fun v hv=>by
 obtain ⟨c,hc,rfl⟩:=Ai.1 hv;obtain ⟨d,_,rfl⟩:=Ai.1 hc;exact .agg (Nm.cons (.int _ _) d.2.all)
def pb {l N:Nat} {a b r:List AV} {ob:List (Nat×List AV)} (h:List.lookup l ((N,a)::ob)=some r):List.lookup l ((N,a)::(N,b)::ob)=some r:=by
 by_cases e:l=N
 ·subst e;simpa [List.lookup_cons] using h
 ·have:(l==N)=false:=by simpa using e
  simpa [List.lookup_cons,this] using h
def F8:∀ (i:Nat) (D:List Ce),eI (D.drop i)<=eI D
 |0,D=>Af _
 |i+1,[]=>Af _
 |i+1,c::D=>by
  have:=F8 i D;simp only [Cf,eI,List.map_cons,List.sum_cons] at this ⊢;omega
def ij (c:Ce) (D:List Ce):eI (c::D)=sz c.2+eI D:=by simp [eI]
def WA:=(by conv=>lhs;reduce:dC [] [] 0x3d4de64e=_)
abbrev aeq:=rP WA
def WB:=(by conv=>lhs;reduce:dC [Ua] [] 0x887e3cd35890f88fc33b8b3ca15a8db65cfc655af5ffece23cae4b9d220344f9b7ef32b7b5f=_)
abbrev aer:=rP (WB (.int .i64 1))
def WG:=(by conv=>lhs;reduce:dC [Ua,Ub] [Ya,Yb] 0x11b3c163a6c8d278e16b5267cc5820642c6f7493fc92cb706b6251dcfe39e185af5a28a4ae2fd90d519c2264c67a7d9c3e4cd304e=_)
def uk:=rO (WG (.int .i64 0) (.bool false) aeq aer)
def WC:=(by conv=>lhs;reduce:dC [] [] 0x2b7075f29362ccf843427e70178d79=_)
abbrev aes:=rP WC
def WD:=(by conv=>lhs;reduce:dC [Ua,Ub,Uc,Ud] [Ya] 0x3058caacdb7a78b477fec5604d1842218638f19cff90ed9174c629f10853525d0dba73d06e=_)
def Jq:=rO (WD (.int .i64 0) (.int .u64 0) (.sl 6 [] .exact) (.sl 2 [] .exact) aes)
def WH:=(by conv=>lhs;reduce:dC [Ua,Ub,Uc,Ud,Ue] [Ya,Yb] 0x12575456bb00599ed4f8a3e98ffe16152d3ce91145e6dd21ed999132d7d38fb8becec3e5820d038=_)
def um:=rO (WH (.int .i64 0) (.int .u64 0) (.sl 6 [] .exact) (.sl 2 [] .exact) (.int .i64 1) uk Jq)
def WE:=(by conv=>lhs;reduce:dC [] [] 0xcc0434f37a747a=_)
abbrev Qy:=rP WE
def ag0:=(by conv=>lhs;reduce:dC [Ua] [Ya,Yb] 0x1255a927d6da0e07a19612d9512a8495db2b914b2cbcab78d7f2ba7b809388b42a=_)
abbrev m34:=rP (ag0 (.sl 6 [] .exact) um Qy)
def Oc:aD pg 34 58 m34 [.t 8]:= .o2 Tryz.func34 (by kernel_rfl)
def c34 (hg:ae gl) (op:List UInt8) (I:aP->Prop) (J:aP->aP->aP) (hJ:Jn gl op I J) (c0:Ce) (D:List Ce) (hD:iE (aW (c0::D))) (hok:∀ c∈c0::D,I c.2) (hsz:eI (c0::D)<=1000000) (hn:D.length<=100000) (ob0 N nt:Nat) (ob:List (Nat×List AV)) (lv:List Nat) (hf:bJ N ob) (h1:List.lookup ob0 ob=some [.str op]):
  ao pg 34 [.sl 6 ((aW (c0::D)).map ec) .ai,.fn (.func 30) [] [],.fn (.func 32) [] [.ptr ob0 0],.fn (.func 35) [] []] ⟨N,ob,nt,lv,gl⟩ fun o _=>mE o (.sl 6 ((aW (iO J (c0::D))).map ec) .ai):=by
 have hr6:R6 (dh (aW (c0::D))):=fun r hr=>by
  obtain ⟨c,hc,rfl⟩:=Ai.1 hr;obtain ⟨d,_,rfl⟩:=Ai.1 hc;exact ⟨rfl,Nm.cons (.int _ _) d.2.all⟩
 have hrow:Row (dh (aW (c0::D))).flatten (dh (aW (c0::D))):=by
  have:=Row.of hr6 []
  rwa [AB] at this
 have i29:=fun N nt ob lv=>c29 (gl:=gl) (c0.1,c0.2.l) (aW D) N nt ob lv (by unfold aW;rw [Ad];omega);have hcmp:Dz gl 30:=fun c d hc hd=>c30 hg c d hc hd;have i66:=fun nt=>c66 hg 30 hcmp N (N+1) nt _ _ ((N,(dh (aW (c0::D))).flatten)::ob) lv aI hrow hD (by unfold aW;rw [Ad];simp;omega);have hlen:(aW (c0::D)).length=(aW D).length+1:=rfl;rw [hlen] at i66;obtain ⟨cs,hcs⟩:∃ cs,cs=(dh (aW (c0::D))).flatten:=⟨_,rfl⟩;obtain ⟨X,hX⟩:∃ X,X=(aW (c0::D)).map ec:=⟨_,rfl⟩
 have i29:∀ N nt ob lv,ao pg 29 [.sl 6 X .ai] ⟨N,ob,nt,lv,gl⟩ fun o S'=>o= .ok (.aN 6 ((aW D).length+1) N 0)/\S'=⟨N+1,(N,cs)::ob,nt,lv,gl⟩:=by
  rw [hX,hcs];exact i29
 rw [<-hcs] at i66 hrow;rw [<-hX];refine .aC Oc (by simp) (ab 200 ?_);generalize hK:bI _ _=Q
 repeat' with_reducible first|refine ar ?_|refine au ?_|refine bt.fY (i29 _ _ _ _) ?_|refine bt.fY (i66 _) ?_|refine ⟨?_,?_⟩|intro _|simp only [go_sem,seval]
 have hDl:(aW D).length=D.length:=Ad ..;obtain ⟨n,hn'⟩:∃ n,n=(aW D).length+1:=⟨_,rfl⟩;rw [<-hn'];refine .ga (fun k F S=>∃ (i:Nat) (out:List Ce) (tk:bE) (N2 nt2:Nat) (lv2:List Nat),F=[(1,.fn (.func 30) [] []),(2,.fn (.func 32) [] [.ptr ob0 0]),(3,.fn (.func 35) [] []),(9,if i<n then .aN 6 (n-i) N (i*6) else .sl 6 [] .ai),(10,.sl 6 ((aW out).map ec) tk)]/\S=⟨N2,(N,cs)::ob,nt2,lv2,gl⟩/\N+1<=N2/\gS 0 nt2 lv2 tk/\i<=n/\out.length<=i/\out++iO J ((c0::D).drop i)=iO J (c0::D)/\k=n-i) n ⟨0,[],.exact,N+1,nt,lv,by rw [if_pos (by omega),Nat.zero_mul];rfl,rfl,Af _,.inl rfl,Au _,Af _,rfl,rfl⟩ ?_;rintro k F S ⟨i,out,tk,N2,nt2,lv2,rfl,rfl,hN2,htk,hi,hout,hall,rfl⟩ ih
 by_cases hin:i<n
 ·obtain ⟨c,hc⟩:∃ c,(c0::D)[i]? =some c:=aK (by have:(aW D).length=D.length:=Ad ..;simp;omega);have hcC:(aW (c0::D))[i]? =some (c.1,c.2.l):=by unfold aW;rw [Ap,hc];rfl
  obtain ⟨e1,e2⟩:=hrow.at (gF hcC);have hbl:=hrow.bu (by rw [gg];show 0<_;simp [aW]);have hNN:(N=N2)=False:=eq_false (by omega);have hgt:decide (((n-i:Nat):Int)>0)=true:=decide_eq_true (by omega);have hgt':decide ((0:Int)<((n-i:Nat):Int))=true:=decide_eq_true (by omega);rw [if_pos hin];refine bp um.eq_1 ?_;have hUl:(c.2.l.length+1==6)=true:=rfl;have hUd:List.drop c.2.l.length [AV.int .i64 0,.int .i64 0,.int .u64 0,.sl 6 [] .exact,.sl 2 [] .exact]=[]:=rfl
  repeat' with_reducible first|refine ar ?_|refine au ?_|refine ⟨?_,?_⟩|intro _|simp only [go_sem,seval,hgt,hgt',hbl,e1,e2,hNN,hUl,hUd]
  ·omega
  have fin:∀ (j:Nat) (x:aP) (N3 nt3:Nat),N2+1<=N3->0<j->i+j<=n->(c.1,x)::iO J ((c0::D).drop (i+j))=iO J ((c0::D).drop i)->ah pg 58 [.code Jq,.inBlock 1,.inLoop um,.inBlock 0,.code (.named [10] Qy)] [] [(1,.fn (.func 30) [] []),(2,.fn (.func 32) [] [.ptr ob0 0]),(3,.fn (.func 35) [] []),(9,.aN 6 (n-i) N (i*6)),(10,.sl 6 ((aW out).map ec) tk),(11,.ptr N2 0),(12,.int .i64 (j:Int))] ⟨N3,(N2,.int .i64 c.1::x.l)::(N,cs)::ob,nt3,lv2,gl⟩ Q:=by
   intro j x N3 nt3 hN3 hj hij hgx;have hXb:aE (AV.int .i64 c.1::x.l)=false:=iQ (c.1,x.l);have hX5:(5<=x.l.length)=True:=eq_true (Af 5);have hXt:List.take 6 (AV.int .i64 c.1::x.l)=AV.int .i64 c.1::x.l:=rfl;have h35:=c35 (gl:=gl) (c.1,x.l) x.all;refine bp Jq.eq_1 ?_;have hXe:(x.l.length+1==6)=true:=rfl;have hlo:(aW out).length=out.length:=Ad ..;have hnj:(n-i:Nat)-j=n-(i+j):=by omega
   have hoff:i*6+j*6=(i+j)*6:=by omega
   repeat' with_reducible first|refine ar ?_|refine au ?_|refine .pu (h35) hg rfl ?_|refine ⟨?_,?_⟩|intro _|simp only [go_sem,seval,hXb,hX5,hXt,hXe,gw,hnj,hoff]
   ·exact htk.sf
   ·rw [hlo];omega
   ·rw [hlo];omega
   ·omega
   ·omega
   have hfr:bJ N2 ((N,cs)::ob):= .cons (fun l h=>hf l (by omega)) (by omega);refine ah.cB (ob':=(N,cs)::ob) (live':=nt3::jU lv2 tk) ?_ (fun l cs' h=>by rw [aw (Bt (hfr.lt h))];exact h) (fun _ h=>h)
   have e9:(if (j:Int)<((n-i:Nat):Int) then AV.aN 6 (n-(i+j)) N ((i+j)*6) else AV.sl 6 [] .ai)=if i+j<n then AV.aN 6 (n-(i+j)) N ((i+j)*6) else AV.sl 6 [] .ai:=by
    by_cases h:i+j<n
    ·rw [if_pos h,if_pos (by omega)]
    ·rw [if_neg h,if_neg (by omega)]
   rw [e9];refine ih (n-(i+j)) _ _ (by omega) ⟨i+j,out++[(c.1,x)],.tok nt3,N3,nt3+1,_,?_,rfl,by omega,.new _ _ _ (Au _),hij,by simp;omega,?_,rfl⟩
   ·rw [show (aW (out++[(c.1,x)])).map ec=(aW out).map ec++[AV.agg (AV.int .i64 c.1::x.l)] by simp [aW];rfl]
   ·rw [AL,List.singleton_append,hgx];exact hall
  have hdi:=bY hc;refine ah.cB (ob':=(N2,.int .i64 c.1::c.2.l)::(N,cs)::ob) (live':=lv2) ?_ (fun _ _ h=>pb h) (fun _ h=>h);refine .ga (fun k F S=>∃ (j:Nat) (x:aP) (N3 nt3:Nat),F=[(1,.fn (.func 30) [] []),(2,.fn (.func 32) [] [.ptr ob0 0]),(3,.fn (.func 35) [] []),(9,.aN 6 (n-i) N (i*6)),(10,.sl 6 ((aW out).map ec) tk),(11,.ptr N2 0),(12,.int .i64 (j:Int))]/\S=⟨N3,(N2,.int .i64 c.1::x.l)::(N,cs)::ob,nt3,lv2,gl⟩/\N2+1<=N3/\0<j/\i+j<=n/\I x/\sz x+eI ((c0::D).drop (i+j))<=eI ((c0::D).drop i)/\bN J (c.1,x) ((c0::D).drop (i+j))=iO J ((c0::D).drop i)/\k=n-(i+j)) (n-(i+1)) ⟨1,c.2,N2+1,nt2,rfl,rfl,Af _,by decide,by omega,hok c (Aj hc),by rw [hdi,ij];exact Af _,by rw [hdi];rfl,rfl⟩ ?_;rintro k F S ⟨j,x,N3,nt3,rfl,rfl,hN3,hj,hij,hx,hs,hgo,rfl⟩ ih2;have hXb:aE (AV.int .i64 c.1::x.l)=false:=iQ (c.1,x.l);have hX5:(5<=x.l.length)=True:=eq_true (Af 5);have hXt:List.take 6 (AV.int .i64 c.1::x.l)=AV.int .i64 c.1::x.l:=rfl
  by_cases h2:i+j<n
  ·obtain ⟨d,hd⟩:∃ d,(c0::D)[i+j]? =some d:=aK (by have:(aW D).length=D.length:=Ad ..;simp;omega);have hdC:(aW (c0::D))[i+j]? =some (d.1,d.2.l):=by unfold aW;rw [Ap,hd];rfl
   obtain ⟨f1,f2⟩:=hrow.at (gF hdC);have hdij:=bY hd;have hdl:(i+(j+1):Nat)=i+j+1:=rfl;have h30:=c30 (gl:=gl) hg (c.1,x.l) (d.1,d.2.l) x.all d.2.all;have hjn:decide ((j:Int)<((n-i:Nat):Int))=true:=decide_eq_true (by omega);have hjp:(j<n-i)=True:=eq_true (by omega);have hoff:i*6+j*6=(i+j)*6:=by omega
   by_cases he:d.1=c.1
   ·have hJl:((J x d.2).l.length+1==6)=true:=rfl;have hJd:List.drop (J x d.2).l.length x.l=[]:=rfl;have hz:(bP c.1 d.1==0)=true:=by rw [he];simp [bP]
    have hso:sz x+sz d.2<=1000000:=by
     rw [hdij,ij] at hs;have h0:eI ((c0::D).drop i)<=eI (c0::D):=F8 _ _;omega
    have h33:=hJ.call x d.2 hx (hok d (Aj hd)) hso;have hfr:bJ N3 ((N2,AV.int .i64 c.1::x.l)::(N,cs)::ob):= .cons (.cons (fun l h=>hf l (by omega)) (by omega)) (by omega);have hob0:=hf.lt h1;have hlo:List.lookup ob0 ((N2,AV.int .i64 c.1::x.l)::(N,cs)::ob)=some [.str op]:=by rw [aw (by omega),aw (by omega)];exact h1
    refine bp uk.eq_1 ?_
    repeat' first
     |with_reducible first|refine ar ?_|refine au ?_|refine .pu (h30) hg rfl ?_|refine bS (c32 hg op c.1 d.1 x d.2 (J x d.2) ob0 N3 nt3 ((N2,AV.int .i64 c.1::x.l)::(N,cs)::ob) lv2 hfr hlo h33) fun _ _ _=>?_|refine cw (c32 hg op c.1 d.1 x d.2 (J x d.2) ob0 N3 nt3 ((N2,AV.int .i64 c.1::x.l)::(N,cs)::ob) lv2 hfr hlo h33) (fun _ _ _=>by first|exact (fun h=>(by cases h))|(first|exact of_eq_true bh|simp only [cT,cA,eS,bh,and_self])) fun _ _ _=>?_|refine ⟨?_,?_⟩|intro _
     |simp only [go_sem,seval,hjn,hjp,hoff,hbl,f1,f2,hNN,hXb,hX5,hXt,hz,hJl,hJd,ba (show j<9223372036854775807 by omega)]
    all_goals first
     |(rw [<-hK];simp only [aM];done)
     |omega
     |skip
    rename_i N4 nt4 hN4;refine ah.cB (ob':=(N2,.int .i64 c.1::(J x d.2).l)::(N,cs)::ob) (live':=lv2) ?_ (fun _ _ h=>pb h) (fun _ h=>h);have hsj:=hJ.sz x d.2;rw [hdij,ij] at hs;refine ih2 (n-(i+(j+1))) _ _ (by omega) ⟨j+1,J x d.2,N4,nt4,rfl,rfl,by omega,by omega,by omega,hJ.ok x d.2 hx (hok d (Aj hd)),by rw [hdl];omega,?_,rfl⟩;rw [<-hgo,hdij,hdl];exact (if_pos he).symm
   ·have hz:(bP c.1 d.1==0)=false:=by unfold bP;grind
    refine bp uk.eq_1 ?_
    repeat' with_reducible first|refine ar ?_|refine au ?_|refine .pu (h30) hg rfl ?_|refine ⟨?_,?_⟩|intro _|simp only [go_sem,seval,hjn,hjp,hoff,hbl,f1,f2,hNN,hXb,hX5,hXt,hz]
    all_goals first
     |(rw [<-hK];simp only [aM];done)
     |omega
     |skip
    refine fin j x N3 nt3 hN3 hj hij ?_;rw [<-hgo,hdij];exact (if_neg he).symm
  ·have hjn:decide ((j:Int)<((n-i:Nat):Int))=false:=decide_eq_false (by omega);refine bp uk.eq_1 ?_
   repeat' with_reducible first|refine ar ?_|refine au ?_|refine ⟨?_,?_⟩|intro _|simp only [go_sem,seval,hjn,hXb,hX5,hXt]
   all_goals first
    |(rw [<-hK];simp only [aM];done)
    |skip
   refine fin j x N3 nt3 hN3 hj hij ?_;rw [<-hgo,AE (by have:(aW D).length=D.length:=Ad ..;simp;omega)];rfl
 ·rw [if_neg hin];refine bp um.eq_1 ?_
  repeat' with_reducible first|refine ar ?_|refine au ?_|refine ⟨?_,?_⟩|intro _|simp only [go_sem,seval,eg,z0,z4]
  have hen:i=n:=by omega
  rw [AE (by have:(aW D).length=D.length:=Ad ..;simp;omega)] at hall;have hall:out=iO J (c0::D):=by rw [<-hall];exact (AB _).symm
  rw [<-hK];simp only [go_sem,seval];rw [<-hall];exact (Nm.sl (k:=6) (iq out)).2.1
def NL {C:List Cl} (h6:R6 (dh C)) {i:Nat} {c:Cl} (hi:C[i]? =some c) (v:Int):List.take (i*6) (dh C).flatten++[AV.int .i64 v]++List.drop (i*6+1) (dh C).flatten=(dh (C.set i (v,c.2))).flatten:=by
 have hlt:i<(dh C).length:=by
  rw [gg];rcases Al i C.length with h|h
  ·exact h
  ·rw [As h] at hi;cases hi
 have e1:(dh C).drop i=c.r::(dh C).drop (i+1):=bY (gF hi);have e2:dh (C.set i (v,c.2))=(dh C).set i (Cl.r (v,c.2)):=List.map_set ..;rw [e2,Ck,if_pos hlt,BK,List.flatten_cons,h6.P0 (by omega),<-Bg,h6.PW (by omega),e1,List.flatten_cons];simp [Cl.r]
def part (s:Int) (i:Nat) (D:List Ce):List Ce:=bK s (D.take i)++D.drop i
def OP {s:Int} {i:Nat} {D:List Ce} {c:Ce} (h:D[i]? =some c):(part s i D)[i]? =some c/\(part s i D).set i (cr s c.1,c.2)=part s (i+1) D:=by
 have hlt:i<D.length:=by
  rcases Al i D.length with h'|h'
  ·exact h'
  ·rw [As h'] at h;cases h
 have hl:(bK s (D.take i)).length=i:=by unfold bK;rw [Ad,Av];omega
 have hd:=bY h;unfold part;constructor
 ·rw [AG (by omega),hl,BQ,hd];rfl
 ·rw [List.set_append,if_neg (by omega),hl,BQ,hd,List.set_cons_zero,CC,h];unfold bK;simp
def OQ (s:Int) (i:Nat) (D:List Ce):(part s i D).length=D.length:=by
 unfold part bK;simp;omega
def NK (D:List Ce):R6 (dh (aW D)):=fun r hr=>by
 obtain ⟨c,hc,rfl⟩:=Ai.1 hr;obtain ⟨d,_,rfl⟩:=Ai.1 hc;exact ⟨rfl,Nm.cons (.int _ _) d.2.all⟩
def IG (D:List Ce):Row (dh (aW D)).flatten (dh (aW D)):=by
 have:=Row.of (NK D) []
 rwa [AB] at this
def Wm:=(by conv=>lhs;reduce:dC [] [] 0x49429c9705f39e3cb69a2f0cf7db2d352f39edb8b4e21b8b4ed0ce4d5b=_)
abbrev aei:=rP Wm
def Wn:=(by conv=>lhs;reduce:dC [Ua] [] 0xac9a9584ed1042362e7d5c=_)
abbrev aej:=rP (Wn (.int .i64 1))
def Wp:=(by conv=>lhs;reduce:dC [Ua] [Ya,Yb] 0xd6bf77e7348cdf738f86ff7b59f9f65b1983fe236b236f7dd4b87ee3f7808b1c0688122d1b9d7855c98e9950a5f601c71d43d82baeb44a=_)
def xB:=rO (Wp (.int .i64 0) aei aej)
def Wo:=(by conv=>lhs;reduce:dC [] [] 0xa2adefbf25dda1c63d2af7957268cbe8e7d64114f0a13b88a94e5af553469=_)
def Jk:=rO Wo
def agQ:=(by conv=>lhs;reduce:dC [Ua,Ub,Uc] [Ya,Yb] 0x308a27efc3c3f4296732e71c2c9623cc35dab4ba5669d5cc1dac1c42a30b6d7f90056368d94040aef42c=_)
abbrev m11:=rP (agQ (.sl 6 [] .exact) (.int .i64 1) (.int .i64 0) xB Jk)
def Ob:aD pg 11 49 m11 [.t 6]:= .o2 Tryz.func11 (by kernel_rfl)
def abF (hg:ae gl) (op:List UInt8) (I:aP->Prop) (J:aP->aP->aP) (hJ:Jn gl op I J) (c0:Ce) (D:List Ce) (s:Int) (hs:1<=s) (hs2:s<=4611686018427387904) (hev:∀ c∈c0::D,0<=c.1/\c.1<=1099511627776) (hD:iE (c0::D)) (hok:∀ c∈c0::D,I c.2) (hsz:eI (c0::D)<=1000000) (hn:D.length<=100000):
  Pure pg gl 11 [.str op,.sl 6 ((aW (c0::D)).map ec) .ai,.int .i64 s] (.ok (.sl 6 ((aW (bL J s (c0::D))).map ec) .ai)):=by
 refine bw (Nm.cons (.str _) (Nm.cons (.sl (iq _)) (Nm.cons (.int _ _) Nm.nil))) (Nm.sl (iq _)).1 (.aC Ob (by simp) (ab 60 ?_));have i29:=c29 (gl:=gl) (c0.1,c0.2.l) (aW D) 1 0 [(0,[.str op])] [] (by unfold aW;rw [Ad];omega);have hDl:(aW D).length=D.length:=Ad ..;have hlen:(aW (c0::D)).length=(aW D).length+1:=rfl;obtain ⟨X,hX⟩:∃ X,X=(aW (c0::D)).map ec:=⟨_,rfl⟩
 have i29:ao pg 29 [.sl 6 X .ai] ⟨1,[(0,[.str op])],0,[],gl⟩ fun o S'=>o= .ok (.aN 6 (c0::D).length 1 0)/\S'=⟨2,[(1,(dh (aW (c0::D))).flatten),(0,[.str op])],0,[],gl⟩:=by
  rw [hX];rw [show (c0::D).length=(aW D).length+1 from (by simp [hDl])];exact i29
 rw [<-hX];generalize hK:bI _ _=Q;have hs1:decide (s<1)=false:=decide_eq_false (by omega)
 repeat' with_reducible first|refine ar ?_|refine au ?_|refine bt.fY (i29) ?_|refine ⟨?_,?_⟩|intro _|simp only [go_sem,seval,hs1]
 have hD1:((D.length+1:Nat):Int)=((c0::D).length:Nat):=rfl;refine .dD (D.length+1) (fun i F S=>F=[(2,.int .i64 s),(3,.ptr 0 0),(7,.aN 6 (D.length+1) 1 0),(18,.int .i64 ((D.length+1:Nat):Int)),(19,.int .i64 (i:Int))]/\S=⟨2,[(1,(dh (aW (part s i (c0::D)))).flatten),(0,[.str op])],0,[],gl⟩) ⟨rfl,rfl⟩ ?_;rintro i F S hi ⟨rfl,rfl⟩ ih
 by_cases h:i<D.length+1
 ·obtain ⟨c,hc⟩:∃ c,(c0::D)[i]? =some c:=aK h;obtain ⟨q1,q2⟩:=OP (s:=s) hc;obtain ⟨P,hP⟩:∃ P,P=part s i (c0::D):=⟨_,rfl⟩;rw [<-hP] at q1 q2 ⊢;have hC:(aW P)[i]? =some (c.1,c.2.l):=by unfold aW;rw [Ap,q1];rfl
  have hrow:=IG P;obtain ⟨e1,e2⟩:=hrow.at (gF hC);have hPl:P.length=D.length+1:=by rw [hP,OQ];rfl
  have hbl:=hrow.bu (by rw [gg];unfold aW;rw [Ad];omega);have hput:=NL (NK P) hC (cr s c.1)
  have hset:(aW P).set i (cr s c.1,c.2.l)=aW (part s (i+1) (c0::D)):=by
   rw [<-q2];unfold aW;rw [List.map_set]
  rw [hset] at hput;obtain ⟨fl,hfl⟩:∃ fl,fl=(dh (aW P)).flatten:=⟨_,rfl⟩;rw [<-hfl] at e1 e2 hbl hput ⊢
  have hld:(List.drop (i*6) fl)[0]? =some (.int .i64 c.1):=by
   have:(List.take 6 (List.drop (i*6) fl))[0]? =(List.drop (i*6) fl)[0]? :=by rw [Bh,if_pos (by decide)]
   rw [<-this,e1];rfl
  have hce:=hev c (Aj hc);have htm:c.1.tmod s=c.1%s:=Int.tmod_eq_emod_of_nonneg hce.1;have hm0:=Bw c.1 (show s≠0 by omega);have hm1:=BU c.1 (show 0<s by omega)
  have hm2:c.1%s<=c.1:=by
   have h7:=Bm c.1 s;have h8:0<=c.1/s:=Bv hce.1 (by omega);have h9:0<=s*(c.1/s):=Bx (by omega) h8;omega
  have htn:decide (c.1%s<0)=false:=decide_eq_false (by omega)
  have hfw:IntKind.i64.wrap (c.1-c.1%s)=cr s c.1:=by
   unfold cr;rw [IntKind.wrap_i64];omega
  have hf6:decide (i*6+1<=fl.length)=true:=by
   have:6<=(List.drop (i*6) fl).length:=of_eq_true e2;rw [AK] at this;exact decide_eq_true (by omega)
  refine bp xB.eq_1 ?_
  repeat' first
   |with_reducible first|refine ar ?_|refine au ?_|refine ⟨?_,?_⟩|intro _
   |simp only [go_sem,seval,fk h,eD h,hbl,hld,htm,htn,hfw,hf6,hput,ba (show i<9223372036854775807 by omega)]
  ·omega
  refine ah.cB (ob':=[(1,(dh (aW (part s (i+1) (c0::D)))).flatten),(0,[.str op])]) (live':=[]) ?_ (fun _ _ h=>pb h) (fun _ h=>h);exact ih h _ _ ⟨rfl,rfl⟩
 ·refine bp xB.eq_1 ?_
  repeat' first
   |with_reducible first|refine ar ?_|refine au ?_|refine ⟨?_,?_⟩|intro _
   |simp only [go_sem,seval,fE (Am h)]
  have hin:i=D.length+1:=by omega
  have hpf:part s i (c0::D)=bK s (c0::D):=by
   unfold part;rw [AR (by simp;omega),AE (by simp;omega),AB]
  rw [hpf];have hfd:bK s (c0::D)=(cr s c0.1,c0.2)::bK s D:=rfl;have hfl:(dh (aW (bK s (c0::D)))).flatten=flat ((aW (bK s (c0::D))).map ec):=(kU _).symm;rw [hfl];have hrow:=IG (bK s (c0::D));have hbl:=hrow.bu (by rw [gg];exact Nat.succ_pos _);rw [hfl] at hbl
  have hszf:∀ D:List Ce,eI (bK s D)=eI D:=fun D=>by
   unfold eI bK;rw [AY];rfl
  have hascF:∀ D:List Ce,iE D->iE (aW D):=fun D=>by
   induction D with
   |nil=>exact fun h=>h
   |cons a D ih=>
    cases D with
    |nil=>exact fun h=>trivial
    |cons b D=>exact fun h=>⟨h.1,ih h.2⟩
  have h34:=c34 hg op I J hJ (cr s c0.1,c0.2) (bK s D) (hascF _ (vF (by omega) hD)) (fun c hc=>by
   rw [<-hfd] at hc;obtain ⟨d,hd,rfl⟩:=Ai.1 hc
   exact hok d hd) (by rw [<-hfd,hszf];exact hsz) (by unfold bK;rw [Ad];exact hn) 0 2 0 [(0,[.str op])] [] (.cons (.nil _) (by decide)) rfl
  rw [<-hfd] at h34;refine ah.freeze (k:=6) (l:=1) (xs:=(aW (bK s (c0::D))).map ec) (ob':=[(0,[.str op])]) (F':=[(3,.ptr 0 0),(7,.sl 6 ((aW (bK s (c0::D))).map ec) .ai)]) ?_ rfl hbl ?_ ?_ ?_
  ·refine bp Jk.eq_1 ?_
   repeat' with_reducible first|refine ar ?_|refine au ?_|refine ⟨?_,?_⟩|intro _|simp only [go_sem,seval]
   refine ao.mono h34 fun o S' ho=>?_
   cases o with
   |eH v=>exact ho.elim
   |ok r=>
    repeat' with_reducible first|refine ar ?_|refine au ?_|refine ⟨?_,?_⟩|intro _|simp only [go_sem,seval]
    rw [<-hK];simp only [go_sem,seval];exact ho
  ·exact fun x hx=>by
    obtain ⟨c,hc,rfl⟩:=Ai.1 hx;obtain ⟨d,_,rfl⟩:=Ai.1 hc;rfl
  ·intro l' cs' e;rw [List.lookup_cons] at e;split at e
   ·rename_i hl;injection e with e
    subst e;obtain rfl:l'=0:=by simpa using hl
    exact ⟨by decide,rfl,_,rfl,rfl,fun m c' h=>⟨c',h,.inl rfl⟩⟩
   ·cases e
  ·exact kX (.inl rfl) (kX (.all (by rw [Ad];unfold aW bK;simp)) xo)
def OF:Nm (.sl 6 [] .ai):= .sl Nm.nil
def VL (N nt:Nat) (ob:List (Nat×List AV)) (lv:List Nat):ao pg 150 [.sl 6 [] .exact,.int .i64 0,.int .i64 0,.fn (.func 30) [] []] ⟨N,ob,nt,lv,gl⟩ fun o S'=>o= .ok (.aF [])/\S'=⟨N,ob,nt,lv,gl⟩:=by
 refine .aC I0 (by simp) (ab 60 ?_)
 repeat' first
  |with_reducible first|refine ar ?_|refine au ?_|refine ah.ek (ab 60 (bM xF.eq_1 ?_))|refine ah.inLoop (ab 60 (bM xF.eq_1 ?_))|refine ah.ek (ab 60 (bM sN.eq_1 ?_))|refine ah.inLoop (ab 60 (bM sN.eq_1 ?_))|refine ⟨?_,?_⟩|intro _
  |simp only [go_sem,seval,show IntKind.i64.wrap 1=1 from rfl]
def VF (N nt:Nat) (ob:List (Nat×List AV)) (lv:List Nat):ao pg 104 [.sl 6 [] .exact,.int .i64 0,.fn (.func 30) [] []] ⟨N,ob,nt,lv,gl⟩ fun o S'=>o= .ok (.aF [])/\S'=⟨N,ob,nt,lv,gl⟩:=by
 have h:=fun nt=>VL (gl:=gl) N nt ob lv;refine .aC IX (by simp) (ab 60 ?_)
 repeat' with_reducible first|refine ar ?_|refine au ?_|refine ah.ek (ab 60 (bM sL.eq_1 ?_))|refine ah.inLoop (ab 60 (bM sL.eq_1 ?_))|refine ah.ek (ab 60 (bM p9.eq_1 ?_))|refine ah.inLoop (ab 60 (bM p9.eq_1 ?_))|refine ah.ek (ab 60 (bM sM.eq_1 ?_))|refine ah.inLoop (ab 60 (bM sM.eq_1 ?_))|refine bt.fY (h _) ?_|refine ⟨?_,?_⟩|intro _|simp only [go_sem,seval]
def abI (N nt:Nat) (ob:List (Nat×List AV)) (lv:List Nat):ao pg 66 [.sl 6 [] .exact,.fn (.func 30) [] []] ⟨N,ob,nt,lv,gl⟩ fun o S'=>o= .ok (.aF [])/\S'=⟨N,ob,nt,lv,gl⟩:=by
 have h:=fun nt=>VF (gl:=gl) N nt ob lv;refine .aC Of (by simp) (ab 60 ?_)
 repeat' with_reducible first|refine ar ?_|refine au ?_|refine bt.fY (h _) ?_|refine ⟨?_,?_⟩|intro _|simp only [go_sem,seval]
def abH (hg:ae gl) (ob0 N nt:Nat) (ob:List (Nat×List AV)) (lv:List Nat):ao pg 34 [.sl 6 [] .exact,.fn (.func 30) [] [],.fn (.func 32) [] [.ptr ob0 0],.fn (.func 35) [] []] ⟨N,ob,nt,lv,gl⟩ fun o _=>o= .ok (.sl 6 [] .exact):=by
 have h:=fun nt=>abI (gl:=gl) N nt ob lv;have h29:Pure pg gl 29 [.sl 6 [] .exact] (.ok (.sl 6 [] .exact)):=(Di (gl:=gl)).conv rfl;refine .aC Oc (by simp) (ab 60 ?_)
 repeat' with_reducible first|refine ar ?_|refine au ?_|refine ah.ek (ab 60 (bM uk.eq_1 ?_))|refine ah.inLoop (ab 60 (bM uk.eq_1 ?_))|refine ah.ek (ab 60 (bM um.eq_1 ?_))|refine ah.inLoop (ab 60 (bM um.eq_1 ?_))|refine .pu (h29) hg rfl ?_|refine bt.fY (h _) ?_|refine ⟨?_,?_⟩|intro _|simp only [go_sem,seval,z0,z4]
def IA (hg:ae gl) (op:List UInt8) (s:Int) (hs:1<=s):Pure pg gl 11 [.str op,.sl 6 [] .ai,.int .i64 s] (.ok (.sl 6 [] .ai)):=by
 have h:=fun N nt ob lv=>abH hg 0 N nt ob lv;have h29:=Di (gl:=gl);have hs1:decide (s<1)=false:=decide_eq_false (by omega);refine bw (Nm.cons (.str _) (Nm.cons OF (Nm.cons (.int _ _) Nm.nil))) OF.1 (.aC Ob (by simp) (ab 60 ?_));generalize hK:bI _ _=Q
 repeat' with_reducible first|refine ar ?_|refine au ?_|refine ah.ek (ab 60 (bM xB.eq_1 ?_))|refine ah.inLoop (ab 60 (bM xB.eq_1 ?_))|refine .pu (h29) hg rfl ?_|refine ⟨?_,?_⟩|intro _|simp only [go_sem,seval,hs1,z0,z4]
 refine bp Jk.eq_1 ?_
 repeat' with_reducible first|refine ar ?_|refine au ?_|refine ⟨?_,?_⟩|intro _|simp only [go_sem,seval]
 refine ao.mono (h _ _ _ _) fun o S' ho=>?_;subst ho
 repeat' with_reducible first|refine ar ?_|refine au ?_|refine ⟨?_,?_⟩|intro _|simp only [go_sem,seval]
 rw [<-hK];simp only [go_sem,seval];exact rfl
def wi (n:Int):IntKind.i64.wrap n=(n+9223372036854775808)%18446744073709551616-9223372036854775808:=IntKind.wrap_i64 n
def oa (a b:Int):IntKind.i64.wrap (IntKind.i64.wrap a+b)=IntKind.i64.wrap (a+b):=by simp only [wi];omega
def rL (a b:Int):IntKind.i64.wrap (a+IntKind.i64.wrap b)=IntKind.i64.wrap (a+b):=by simp only [wi];omega
def Dx (a:Int):IntKind.i64.wrap (IntKind.i64.wrap a)=IntKind.i64.wrap a:=by simp only [wi];omega
section counts
variable {κ:Type}
structure rR (cm:κ->κ->Int):Prop where
 eq:∀ a b,cm a b=0↔a=b
 lt:∀ a b c,cm a b<0->cm b c<0->cm a c<0
 gt:∀ a b,0<cm a b↔cm b a<0
def bl [DecidableEq κ]:List (κ×Int)->κ->Int
 |[],_=>0
 |x::r,k=>if x.1=k then x.2 else bl r k
structure Ks (cm:κ->κ->Int) (l:List (κ×Int)):Prop where
 jo:l.Pairwise fun a b=>cm a.1 b.1<0
 pos:∀ x∈l,x.2≠0/\IntKind.i64.wrap x.2=x.2
def Ks.nil (cm:κ->κ->Int):Ks cm []:=⟨List.Pairwise.nil,fun _ h=>(by cases h)⟩
def Ks.tail {cm:κ->κ->Int} {x:κ×Int} {l:List (κ×Int)} (h:Ks cm (x::l)):Ks cm l:=⟨(AQ.1 h.jo).2,fun y hy=>h.pos y (Ao _ hy)⟩
def rR.Hk {cm:κ->κ->Int} (hc:rR cm) (a:κ): ¬cm a a<0:=by
 have:=(hc.eq a a).2 rfl;omega
variable [DecidableEq κ]
def vy {l:List (κ×Int)} {k:κ} (h:∀ x∈l,x.1≠k):bl l k=0:=by
 induction l with
 |nil=>rfl
 |cons x r ih=>
  unfold bl;rw [if_neg (h x (by simp)),ih fun y hy=>h y (by simp [hy])]
def Ks.out {cm:κ->κ->Int} (hc:rR cm) {x:κ×Int} {l:List (κ×Int)} (h:Ks cm (x::l)) {k:κ} (hk:cm k x.1<0∨k=x.1):bl l k=0:=by
 refine vy fun y hy e=>?_;have h1:=(AQ.1 h.jo).1 y hy;subst e;rcases hk with hk|hk
 ·exact hc.Hk _ (hc.lt _ _ _ hk h1)
 ·rw [hk] at h1;exact hc.Hk _ h1
def Ks.ext {cm:κ->κ->Int} (hc:rR cm):∀ {l m:List (κ×Int)},Ks cm l->Ks cm m->(∀ k,bl l k=bl m k)->l=m
 |[],[],_,_,_=>rfl
 |[],y::m,_,h2,h=>by
  have:=h y.1;simp only [bl,if_true] at this;exact absurd this.symm (h2.pos y (by simp)).1
 |x::l,[],h1,_,h=>by
  have:=h x.1;simp only [bl,if_true] at this;exact absurd this (h1.pos x (by simp)).1
 |x::l,y::m,h1,h2,h=>by
  have hx:=h x.1;have hy:=h y.1
  have e:x.1=y.1:=by
   refine Ct fun hne=>?_;have n1:cm x.1 y.1≠0:=fun e=>hne ((hc.eq _ _).1 e);rcases Cu n1 with hlt|hgt
   ·have h4:=h2.out hc (k:=x.1) (.inl hlt);simp only [bl,if_true,if_neg (fun e=>hne (Eq.symm e))] at hx;rw [h4] at hx;exact (h1.pos x (by simp)).1 hx
   ·have h4:=h1.out hc (k:=y.1) (.inl ((hc.gt _ _).1 hgt));simp only [bl,if_true,if_neg hne] at hy;rw [h4] at hy;exact (h2.pos y (by simp)).1 hy.symm
  have e2:x.2=y.2:=by
   simp only [bl,if_true,if_pos e.symm] at hx;exact hx
  have e3:x=y:=Prod.ext e e2;subst e3;rw [Ks.ext hc h1.tail h2.tail fun k=>?_];have hk:=h k
  by_cases e4:x.1=k
  ·rw [h1.out hc (.inr e4.symm),h2.out hc (.inr e4.symm)]
  ·simp only [bl,if_neg e4] at hk;exact hk
def eN (cm:κ->κ->Int) (x:κ×Int):List (κ×Int)->List (κ×Int)
 |[]=>[x]
 |y::r=>if y.1=x.1 then (if IntKind.i64.wrap (y.2+x.2)=0 then r else (y.1,IntKind.i64.wrap (y.2+x.2))::r) else if 0<cm y.1 x.1 then x::y::r else y::eN cm x r
def EH {cm:κ->κ->Int} {x z:κ×Int}:∀ {l:List (κ×Int)},z∈eN cm x l->z.1=x.1∨z∈l
 |[],h=>by
  simp only [eN,Ay] at h;exact .inl (by rw [h])
 |y::r,h=>by
  unfold eN at h;split at h
  ·rename_i e;split at h
   ·exact .inr (Ao _ h)
   ·rcases Ab.1 h with rfl|h
    ·exact .inl e
    ·exact .inr (Ao _ h)
  ·split at h
   ·rcases Ab.1 h with rfl|h
    ·exact .inl rfl
    ·exact .inr h
   ·rcases Ab.1 h with rfl|h
    ·exact .inr A3
    ·rcases EH h with h|h
     ·exact .inl h
     ·exact .inr (Ao _ h)
def lf {cm:κ->κ->Int} (hc:rR cm) {x:κ×Int} (h0:x.2≠0) (hw:IntKind.i64.wrap x.2=x.2):∀ {l:List (κ×Int)},Ks cm l->Ks cm (eN cm x l)
 |[],_=>⟨List.pairwise_singleton ..,fun y hy=>by
   obtain rfl:=Ay.1 hy
   exact ⟨h0,hw⟩⟩
 |y::r,h=>by
  have hp:=AQ.1 h.jo;unfold eN;split
  ·split
   ·exact h.tail
   ·rename_i h1;refine ⟨AQ.2 ⟨hp.1,hp.2⟩,fun z hz=>?_⟩;rcases Ab.1 hz with rfl|hz
    ·exact ⟨h1,Dx _⟩
    ·exact h.pos z (Ao _ hz)
  ·rename_i e;split
   ·rename_i hgt;have h2:=(hc.gt _ _).1 hgt;refine ⟨AQ.2 ⟨fun z hz=>?_,h.jo⟩,fun z hz=>?_⟩
    ·rcases Ab.1 hz with rfl|hz
     ·exact h2
     ·exact hc.lt _ _ _ h2 (hp.1 z hz)
    ·rcases Ab.1 hz with rfl|hz
     ·exact ⟨h0,hw⟩
     ·exact h.pos z hz
   ·rename_i hgt;have ih:=lf hc h0 hw h.tail;refine ⟨AQ.2 ⟨fun z hz=>?_,ih.jo⟩,fun z hz=>?_⟩
    ·rcases EH hz with e2|hz
     ·have n1:cm y.1 x.1≠0:=fun e3=>e ((hc.eq _ _).1 e3);rw [e2];omega
     ·exact hp.1 z hz
    ·rcases Ab.1 hz with rfl|hz
     ·exact h.pos _ A3
     ·exact ih.pos z hz
def vL {cm:κ->κ->Int} (hc:rR cm) {x:κ×Int} (hw:IntKind.i64.wrap x.2=x.2) (k:κ):∀ {l:List (κ×Int)},Ks cm l->bl (eN cm x l) k=IntKind.i64.wrap (bl l k+if x.1=k then x.2 else 0)
 |[],_=>by
  simp only [eN,bl];split
  ·rw [BI,hw]
  ·rfl
 |y::r,h=>by
  have hy:=(h.pos y (by simp)).2
  have hr:IntKind.i64.wrap (bl r k)=bl r k:=by
   have:∀ l:List (κ×Int),(∀ z∈l,IntKind.i64.wrap z.2=z.2)->IntKind.i64.wrap (bl l k)=bl l k:=fun l hl=>by
    induction l with
    |nil=>rfl
    |cons z l ih=>
     unfold bl;split
     ·exact hl z (by simp)
     ·exact ih fun w hw=>hl w (by simp [hw])
   exact this r fun z hz=>(h.pos z (by simp [hz])).2
  unfold eN;split
  ·rename_i e;split
   ·rename_i e0
    by_cases hk:x.1=k
    ·rw [h.out hc (.inr (by rw [<-hk,e]))];simp only [bl,if_pos (e.trans hk),if_pos hk,e0]
    ·simp only [bl,if_neg (fun e2=>hk (e.symm.trans e2)),if_neg hk,A8,hr]
   ·simp only [bl]
    by_cases hk:x.1=k
    ·simp only [if_pos (e.trans hk),if_pos hk]
    ·simp only [if_neg (fun e2=>hk (e.symm.trans e2)),if_neg hk,A8,hr]
  ·rename_i e;split
   ·rename_i hgt;have h2:=(hc.gt _ _).1 hgt;simp only [bl]
    by_cases hk:x.1=k
    ·have h3:=h.out hc (k:=k) (.inl (by rw [<-hk];exact h2));simp only [if_pos hk,if_neg (fun e2=>e (Eq.trans e2 hk.symm)),h3,BI,hw]
    ·simp only [if_neg hk,A8];split
     ·exact hy.symm
     ·exact hr.symm
   ·simp only [bl];rw [vL hc hw k h.tail]
    by_cases hk:y.1=k
    ·have: ¬x.1=k:=fun e2=>e (hk.trans e2.symm);simp only [if_pos hk,if_neg this,A8,hy]
    ·simp only [if_neg hk]
def gY {cm:κ->κ->Int} (hc:rR cm):∀ {b a:List (κ×Int)},Ks cm b->Ks cm a->Ks cm (b.foldl (fun l x=>eN cm x l) a)
 |[],_,_,ha=>ha
 |x::b,a,hb,ha=>by
  rw [List.foldl_cons];exact gY hc hb.tail (lf hc (hb.pos x (by simp)).1 (hb.pos x (by simp)).2 ha)
def jZ {cm:κ->κ->Int} (hc:rR cm) (k:κ):∀ {b a:List (κ×Int)},Ks cm b->Ks cm a->IntKind.i64.wrap (bl (b.foldl (fun l x=>eN cm x l) a) k)=IntKind.i64.wrap (bl a k+bl b k)
 |[],a,_,ha=>by
  show IntKind.i64.wrap (bl a k)=IntKind.i64.wrap (bl a k+0);rw [A8]
 |x::b,a,hb,ha=>by
  have h1:=hb.pos x (by simp);rw [List.foldl_cons,jZ hc k hb.tail (lf hc h1.1 h1.2 ha),vL hc h1.2 k ha,oa]
  congr 1
  by_cases e:x.1=k
  ·rw [hb.out hc (.inr e.symm)];simp only [bl,if_pos e];omega
  ·simp only [bl,if_neg e];omega
def Ks.wr {cm:κ->κ->Int} {l:List (κ×Int)} (h:Ks cm l) (k:κ):IntKind.i64.wrap (bl l k)=bl l k:=by
 have:∀ l:List (κ×Int),(∀ z∈l,IntKind.i64.wrap z.2=z.2)->IntKind.i64.wrap (bl l k)=bl l k:=fun l hl=>by
  induction l with
  |nil=>rfl
  |cons z l ih=>
   unfold bl;split
   ·exact hl z (by simp)
   ·exact ih fun w hw=>hl w (by simp [hw])
 exact this l fun z hz=>(h.pos z hz).2
def uX {cm:κ->κ->Int} (hc:rR cm) {a b c:List (κ×Int)} (ha:Ks cm a) (hb:Ks cm b) (hd:Ks cm c):
  c.foldl (fun l x=>eN cm x l) (b.foldl (fun l x=>eN cm x l) a)=(c.foldl (fun l x=>eN cm x l) b).foldl (fun l x=>eN cm x l) a:=by
 have h1:=gY hc hb ha;have h2:=gY hc hd hb;refine Ks.ext hc (gY hc hd h1) (gY hc h2 ha) fun k=>?_;rw [<-(gY hc hd h1).wr k,<-(gY hc h2 ha).wr k,jZ hc k hd h1,jZ hc k h2 ha,<-oa,jZ hc k hb ha,oa,<-rL _ (bl (c.foldl _ b) k),jZ hc k hd hb,rL]
 congr 1
 omega
end counts
def ir:rR bP:=by
 constructor
 all_goals (intros;unfold bP at*;grind)
def oF (x y:UInt8) (a b:Bytes):Op.bytesLess (x::a) (y::b)=true↔x.toNat<y.toNat∨(x=y/\Op.bytesLess a b=true):=by simp [Op.bytesLess,UInt8.lt_iff_toNat_lt]
def KK:rR oY:=by
 have un:∀ x y:UInt8,x=y↔x.toNat=y.toNat:=fun x y=>UInt8.toNat_inj.symm
 have Hk:∀ a:Bytes,¬Op.bytesLess a a=true:=fun a=>by
  induction a with
  |nil=>simp [Op.bytesLess]
  |cons x a ih=>
   rw [oF];rintro (h|⟨_,h⟩)
   ·omega
   ·exact ih h
 have tot:∀ a b:Bytes,Op.bytesLess a b=true∨Op.bytesLess b a=true∨a=b:=fun a=>by
  induction a with
  |nil=>intro b;cases b<;>simp [Op.bytesLess]
  |cons x a ih=>
   intro b
   cases b with
   |nil=>simp [Op.bytesLess]
   |cons y b=>
    rw [oF,oF];rcases Nat.lt_trichotomy x.toNat y.toNat with h|h|h
    ·exact .inl (.inl h)
    ·have e:=(un x y).2 h;subst e;rcases ih b with h|h|h
     ·exact .inl (.inr ⟨rfl,h⟩)
     ·exact .inr (.inl (.inr ⟨rfl,h⟩))
     ·exact .inr (.inr (by rw [h]))
    ·exact .inr (.inl (.inl h))
 have tr:∀ a b c:Bytes,Op.bytesLess a b=true->Op.bytesLess b c=true->Op.bytesLess a c=true:=fun a=>by
  induction a with
  |nil=>intro b c h1 h2;cases c<;>cases b<;>simp_all [Op.bytesLess]
  |cons x a ih=>
   intro b c h1 h2
   cases b with
   |nil=>simp [Op.bytesLess] at h1
   |cons y b=>
    cases c with
    |nil=>simp [Op.bytesLess] at h2
    |cons z c=>
     rw [oF] at*;rcases h1 with h1|⟨rfl,h1⟩
     ·rcases h2 with h2|⟨rfl,h2⟩
      ·exact .inl (Nat.lt_trans h1 h2)
      ·exact .inl h1
     ·rcases h2 with h2|⟨rfl,h2⟩
      ·exact .inl h2
      ·exact .inr ⟨rfl,ih b c h1 h2⟩
 have key:∀ a b:Bytes,(Op.bytesLess a b=true/\Op.bytesLess b a=false/\a≠b)∨(Op.bytesLess a b=false/\Op.bytesLess b a=true/\a≠b)∨(Op.bytesLess a b=false/\Op.bytesLess b a=false/\a=b):=fun a b=>by
  have h1:=Hk a;have h2:=Hk b;have h3:=tot a b;have h4:=tr a b a;have h5:=tr b a b
  by_cases e:a=b
  ·subst e
   simp_all
  ·grind
 have n1:∀ a b:Bytes,oY a b<0↔Op.bytesLess a b=true:=fun a b=>by
  unfold oY;have:=key a b
  grind
 refine ⟨fun a b=>?_,fun a b c h1 h2=>?_,fun a b=>?_⟩
 ·have:=key a b;unfold oY
  grind
 ·rw [n1] at*;exact tr a b c h1 h2
 ·rw [n1];have:=key a b;unfold oY
  grind
def pM:rR jK:=by
 have hk:=ir;have hs:=KK;refine ⟨fun a b=>?_,fun a b c h1 h2=>?_,fun a b=>?_⟩
 ·obtain ⟨k,n,s⟩:=a;obtain ⟨k',n',s'⟩:=b;have e1:=hk.eq k k';have e2:=hk.eq n n';have e3:=hs.eq s s';simp only [jK,qg,bX.mk.injEq]
  grind
 ·obtain ⟨k,n,s⟩:=a;obtain ⟨k',n',s'⟩:=b;obtain ⟨k2,n2,s2⟩:=c;have a1:=hk.eq k k';have a2:=hk.eq k' k2;have a3:=hk.eq k k2;have a4:=hk.lt k k' k2;have b1:=hk.eq n n';have b2:=hk.eq n' n2;have b3:=hk.eq n n2;have b4:=hk.lt n n' n2;have d1:=hs.eq s s';have d2:=hs.eq s' s2;have d3:=hs.eq s s2;have d4:=hs.lt s s' s2;simp only [jK,qg] at h1 h2 ⊢
  by_cases p1:bP k k'=0
  ·have:=a1.1 p1;subst this;rw [if_pos p1] at h1
   by_cases p2:bP k k2=0
   ·rw [if_pos p2] at h2 ⊢
    by_cases q1:bP n n'=0
    ·have:=b1.1 q1;subst this;rw [if_pos q1] at h1
     by_cases q2:bP n n2=0
     ·rw [if_pos q2] at h2 ⊢
      grind
     ·rw [if_neg q2] at h2 ⊢;exact h2
    ·rw [if_neg q1] at h1
     by_cases q2:bP n' n2=0
     ·have:=b2.1 q2;subst this;rw [if_neg q1];exact h1
     ·rw [if_neg q2] at h2;have:=b4 h1 h2;rw [if_neg (by omega)];exact this
   ·rw [if_neg p2] at h2 ⊢;exact h2
  ·rw [if_neg p1] at h1
   by_cases p2:bP k' k2=0
   ·have:=a2.1 p2;subst this;rw [if_neg p1];exact h1
   ·rw [if_neg p2] at h2;have:=a4 h1 h2;rw [if_neg (by omega)];exact this
 ·obtain ⟨k,n,s⟩:=a;obtain ⟨k',n',s'⟩:=b;have a1:=hk.eq k k';have a2:=hk.eq k' k;have a3:=hk.gt k k';have b1:=hk.eq n n';have b2:=hk.eq n' n;have b3:=hk.gt n n';have d1:=hs.eq s s';have d2:=hs.eq s' s;have d3:=hs.gt s s';simp only [jK,qg]
  grind
def Hm (x:It):Prop:=x.src=[]/\x.seq=0
def j5 (x:It):bX×Int:=(x.v,x.n)
def KL {x y:It}:oZ (mark false y) (mark false x)=jK y.v x.v:=by
 have h1:=(KK.eq [] []).2 rfl;have h2:=(ir.eq 0 0).2 rfl;simp [oZ,mark,qg,h1,h2];intro h;exact h.symm
def Fm {x y:It}:(mark false y==mark false x)=decide (y.v=x.v):=by
 by_cases h:y.v=x.v
 ·simp [mark,h]
 ·have: ¬mark false y=mark false x:=fun e=>h (by simp only [mark,Ah,if_false,It.mk.injEq] at e;exact e.1);rw [decide_eq_false h];exact beq_false_of_ne this
def Hi (x:It) {l:List It} (h:∀ y∈l,Hm y):∀ y∈eM false x l,Hm y:=fun y hy=>by
 unfold eM at hy;split at hy
 ·rename_i i hi;obtain ⟨z,h1,_⟩:=uf hi;split at hy
  ·rcases AA.1 hy with hy|hy
   ·exact h y (A5 hy)
   ·exact h y (Ba hy)
  ·rcases List.mem_or_eq_of_mem_set hy with hy|rfl
   ·exact h y hy
   ·have:l.getD i x=z:=by rw [AU,h1];rfl
    rw [this];exact h z (Aj h1)
 ·rcases AA.1 hy with hy|hy
  ·exact h y (A5 hy)
  ·rcases Ab.1 hy with rfl|hy
   ·exact ⟨rfl,rfl⟩
   ·exact h y (Ba hy)
def EG (x:It):∀ {l:List It},Ks jK (l.map j5)->(eM false x l).map j5=eN jK (j5 x) (l.map j5)
 |[],_=>rfl
 |z::l,hk=>by
  have ih:=EG x (l:=l) hk.tail
  by_cases e:z.v=x.v
  ·have e1:(mark false z==mark false x)=true:=by rw [Fm,decide_eq_true e]
   have e2:eM false x (z::l)=if IntKind.i64.wrap (z.n+x.n)==0 then l else {z with n:=IntKind.i64.wrap (z.n+x.n)}::l:=by simp [eM,gZ,e1]
   rw [e2];simp only [List.map_cons,eN,j5,if_pos e,beq_iff_eq];split<;>rfl
  ·have e1:(mark false z==mark false x)=false:=by rw [Fm,decide_eq_false e]
   by_cases hg:0<jK z.v x.v
   ·have:gZ (fun y=>mark false y==mark false x) l=none:=by
     have key:∀ l:List It,(∀ y∈l,¬y.v=x.v)->gZ (fun y=>mark false y==mark false x) l=none:=fun l hl=>by
      induction l with
      |nil=>rfl
      |cons w l ih=>
       unfold gZ;rw [Fm,decide_eq_false (hl w (by simp)),ih fun y hy=>hl y (by simp [hy])];rfl
     refine key l fun y hy e4=>?_;have h5:=(AQ.1 hk.jo).1 (j5 y) (BA hy);have h6:=(pM.gt _ _).1 hg;simp only [j5,e4] at h5;exact pM.Hk _ (pM.lt _ _ _ h5 h6)
    have e3:eM false x (z::l)={mark false x with n:=x.n}::z::l:=by simp [eM,gZ,e1,this,kI,KL,hg]
    rw [e3];simp only [List.map_cons,eN,j5,if_neg e,if_pos hg];rfl
   ·have e3:eM false x (z::l)=z::eM false x l:=by
     unfold eM kI;simp only [gZ,e1,Ah,if_false,KL,decide_eq_false hg]
     cases gZ (fun y=>mark false y==mark false x) l with
     |some i=>simp;split<;>rfl
     |none=>
      cases gZ (fun y=>decide (0<jK y.v x.v)) l with
      |some i=>simp
      |none=>simp
    rw [e3];simp only [List.map_cons,eN,j5,if_neg e,if_neg hg];rw [ih];rfl
structure Kp (l:List It):Prop where
 p:∀ y∈l,Hm y
 k:Ks jK (l.map j5)
def Kp.eq {l m:List It} (hl:Kp l) (hm:Kp m) (h:l.map j5=m.map j5):l=m:=by
 have key:∀ l m:List It,(∀ y∈l,Hm y)->(∀ y∈m,Hm y)->l.map j5=m.map j5->l=m:=fun l=>by
  induction l with
  |nil=>intro m _ _ h;cases m with
   |nil=>rfl
   |cons=>cases h
  |cons x l ih=>
   intro m h1 h2 h
   cases m with
   |nil=>cases h
   |cons y m=>
    injection h with h3 h4
    have h5:=h1 x (by simp);have h6:=h2 y (by simp);obtain ⟨a,b,c,d⟩:=x;obtain ⟨a',b',c',d'⟩:=y;simp only [j5,Hm,Ac] at h3 h5 h6;rw [ih m (fun z hz=>h1 z (by simp [hz])) (fun z hz=>h2 z (by simp [hz])) h4];simp [h3,h5,h6]
 exact key l m hl.p hm.p h
def uc:∀ {b a:List It},Kp b->Kp a->Kp (b.foldl iC a)/\(b.foldl iC a).map j5=(b.map j5).foldl (fun l x=>eN jK x l) (a.map j5)
 |[],a,_,ha=>⟨ha,rfl⟩
 |x::b,a,hb,ha=>by
  have h0:=hb.k.pos (j5 x) (by simp)
  have hx:iC a x=eM false x a:=by
   unfold iC;rw [beq_false_of_ne (show x.n≠0 from h0.1)];rfl
  have e:=EG x ha.k;have hi:Kp (eM false x a):=⟨Hi x ha.p,by rw [e];exact lf pM h0.1 h0.2 ha.k⟩;have ih:=uc (b:=b) (a:=eM false x a) ⟨fun y hy=>hb.p y (by simp [hy]),hb.k.tail⟩ hi;rw [List.foldl_cons,hx];refine ⟨ih.1,?_⟩;rw [ih.2,e];rfl
def Gk {a b c:aP} (ha:Kp a.cJ) (hb:Kp b.cJ) (hc:Kp c.cJ):kB (kB a b) c=kB a (kB b c):=by
 have h1:=uc hb ha;have h2:=uc hc hb;have h3:=uc hc h1.1;have h4:=uc h2.1 ha
 have e:c.cJ.foldl iC (b.cJ.foldl iC a.cJ)=(c.cJ.foldl iC b.cJ).foldl iC a.cJ:=by
  refine h3.1.eq h4.1 ?_;rw [h3.2,h4.2,h1.2,h2.2];exact uX pM ha.k hb.k hc.k
 simp only [kB,aP.mk.injEq,and_true,true_and];exact ⟨by rw [oa,rL];congr 1;omega,e⟩
def On {a b:aP} (ha:Kp a.cJ) (hb:Kp b.cJ):Kp (kB a b).cJ:=(uc hb ha).1
def u5 (a b c:aP):kx (kx a b) c=kx a (kx b c):=by
 simp only [kx,aP.mk.injEq,and_true];rw [oa,rL]
 congr 1
 omega
def Gi (a b c:aP):ky (ky a b) c=ky a (ky b c):=by
 simp only [ky,aP.mk.injEq,and_true,true_and];exact ⟨by rw [oa,rL];congr 1;omega,AL _ _ _⟩
def Gg (a b c:aP):kv (kv a b) c=kv a (kv b c):=by
 simp only [kv,aP.mk.injEq,and_true];refine ⟨by rw [oa,rL];congr 1;omega,?_,?_⟩
 ·unfold Lh p8;simp only [wi,wrap_u64];omega
 ·unfold p8;omega
def jI (s t:aP):aP:=⟨IntKind.i64.wrap (s.n+t.n),0,0,[],t.fQ.foldl (fun l x=>eN bP x l) s.fQ⟩
def Gj {a b c:aP} (ha:Ks bP a.fQ) (hb:Ks bP b.fQ) (hc:Ks bP c.fQ):jI (jI a b) c=jI a (jI b c):=by
 simp only [jI,aP.mk.injEq,true_and];exact ⟨by rw [oa,rL];congr 1;omega,uX ir ha hb hc⟩
def Om {a b:aP} (ha:Ks bP a.fQ) (hb:Ks bP b.fQ):Ks bP (jI a b).fQ:=gY ir hb ha
def ff (x:Int×Int):List (Int×Int)->List (Int×Int)
 |[]=>[(x.1,IntKind.i64.wrap (0+x.2))]
 |y::r=>if y.1=x.1 then (y.1,IntKind.i64.wrap (y.2+x.2))::r else y::ff x r
def sV (M:List (Int×Int)):List (Int×Int):=(gf (M.map (·.1))).filterMap fun k=>if bl M k=0 then none else some (k,bl M k)
structure Mp (M:List (Int×Int)):Prop where
 k:(M.map (·.1)).Nodup
 w:∀ x∈M,IntKind.i64.wrap x.2=x.2
def Mp.nil:Mp []:=⟨List.nodup_nil,fun _ h=>(by cases h)⟩
def DQ (x:Int×Int):∀ M:List (Int×Int),∀ k,k∈(ff x M).map (·.1)↔k=x.1∨k∈M.map (·.1)
 |[],k=>by simp [ff]
 |y::r,k=>by
  unfold ff;split
  ·rename_i e;simp only [List.map_cons,Ab,e]
   grind
  ·simp only [List.map_cons,Ab,DQ x r k]
   grind
def tM {x:Int×Int}:∀ {M:List (Int×Int)},Mp M->Mp (ff x M)
 |[],_=>⟨by simp [ff],fun y hy=>by
   obtain rfl:=Ay.1 hy
   exact Dx _⟩
 |y::r,h=>by
  have hk:=BC.1 h.k;have ih:=tM (x:=x) (M:=r) ⟨hk.2,fun z hz=>h.w z (by simp [hz])⟩;unfold ff;split
  ·refine ⟨h.k,fun z hz=>?_⟩;rcases Ab.1 hz with rfl|hz
   ·exact Dx _
   ·exact h.w z (by simp [hz])
  ·rename_i e;refine ⟨BC.2 ⟨fun hm=>?_,ih.k⟩,fun z hz=>?_⟩
   ·rcases (DQ x r _).1 hm with h1|h1
    ·exact e h1
    ·exact hk.1 h1
   ·rcases Ab.1 hz with rfl|hz
    ·exact h.w _ (by simp)
    ·exact ih.w z hz
def vt (x:Int×Int) (k:Int):∀ {M:List (Int×Int)},Mp M->bl (ff x M) k=IntKind.i64.wrap (bl M k+if x.1=k then x.2 else 0)
 |[],_=>by
  simp only [ff,bl];split
  ·rfl
  ·rfl
 |y::r,h=>by
  have ih:=vt x k (M:=r) ⟨(BC.1 h.k).2,fun z hz=>h.w z (by simp [hz])⟩
  have hw:IntKind.i64.wrap (bl r k)=bl r k:=by
   have:∀ l:List (Int×Int),(∀ z∈l,IntKind.i64.wrap z.2=z.2)->IntKind.i64.wrap (bl l k)=bl l k:=fun l hl=>by
    induction l with
    |nil=>rfl
    |cons z l ih=>
     unfold bl;split
     ·exact hl z (by simp)
     ·exact ih fun w hw=>hl w (by simp [hw])
   exact this r fun z hz=>h.w z (by simp [hz])
  unfold ff;split
  ·rename_i e;simp only [bl]
   by_cases hk:y.1=k
   ·simp only [if_pos hk,if_pos (e.symm.trans hk)]
   ·simp only [if_neg hk,if_neg (fun e2=>hk (e.trans e2)),A8,hw]
  ·rename_i e;simp only [bl]
   by_cases hk:y.1=k
   ·simp only [if_pos hk,if_neg (fun e2=>e (hk.trans (Eq.symm e2))),A8];exact (h.w y (by simp)).symm
   ·simp only [if_neg hk];exact ih
def foldM {b:List (Int×Int)}:∀ {M:List (Int×Int)},Ks bP b->Mp M->Mp (b.foldl (fun M x=>ff x M) M)/\∀ k,bl (b.foldl (fun M x=>ff x M) M) k=IntKind.i64.wrap (bl M k+bl b k):=by
 induction b with
 |nil=>
  intro M _ hM;refine ⟨hM,fun k=>?_⟩;show bl M k=IntKind.i64.wrap (bl M k+0);rw [A8]
  have:∀ l:List (Int×Int),(∀ z∈l,IntKind.i64.wrap z.2=z.2)->IntKind.i64.wrap (bl l k)=bl l k:=fun l hl=>by
   induction l with
   |nil=>rfl
   |cons z l ih=>
    unfold bl;split
    ·exact hl z (by simp)
    ·exact ih fun w hw=>hl w (by simp [hw])
  exact (this M hM.w).symm
 |cons x b ih=>
  intro M hb hM;obtain ⟨i1,i2⟩:=ih hb.tail (tM (x:=x) hM);refine ⟨i1,fun k=>?_⟩;rw [List.foldl_cons,i2 k,vt x k hM,oa]
  congr 1
  by_cases e:x.1=k
  ·rw [hb.out ir (.inr e.symm)];simp only [bl,if_pos e];omega
  ·simp only [bl,if_neg e];omega
def Rg {M:List (Int×Int)} {k:Int} (h:bl M k≠0):k∈M.map (·.1):=by refine Ct fun hn=>h (vy fun x hx e=>hn (Ai.2 ⟨x,hx,e⟩))
def HA {M:List (Int×Int)} (h:Mp M):Ks bP (sV M)/\∀ k,bl (sV M) k=bl M k:=by
 have hw:∀ k,IntKind.i64.wrap (bl M k)=bl M k:=fun k=>by
  have:∀ l:List (Int×Int),(∀ z∈l,IntKind.i64.wrap z.2=z.2)->IntKind.i64.wrap (bl l k)=bl l k:=fun l hl=>by
   induction l with
   |nil=>rfl
   |cons z l ih=>
    unfold bl;split
    ·exact hl z (by simp)
    ·exact ih fun w hw=>hl w (by simp [hw])
  exact this M h.w
 have hperm:(gf (M.map (·.1))).Perm (M.map (·.1)):=CA _ _
 have hle:(gf (M.map (·.1))).Pairwise fun a b=>a<=b:=by
  refine (List.pairwise_mergeSort (le:=fun x y:Int=>decide (x<=y)) ?_ ?_ (M.map (·.1))).imp fun h=>by simpa using h
  ·intro a b c h1 h2;simp at*;omega
  ·intro a b;simp;omega
 have hnd:(gf (M.map (·.1))).Nodup:=hperm.nodup_iff.2 h.k
 have hlt:(gf (M.map (·.1))).Pairwise fun a b=>a<b:=by
  refine (List.Pairwise.and hle hnd).imp fun h=>?_;omega
 have hci:∀ a b,bP a b<0↔a<b:=fun a b=>by unfold bP;grind
 have key:∀ ks:List Int,ks.Pairwise (fun a b=>a<b)->Ks bP (ks.filterMap fun k=>if bl M k=0 then none else some (k,bl M k))/\∀ k,bl (ks.filterMap fun k=>if bl M k=0 then none else some (k,bl M k)) k=if k∈ks then bl M k else 0:=fun ks=>by
  induction ks with
  |nil=>intro _;exact ⟨Ks.nil _,fun k=>by simp [bl]⟩
  |cons x ks ih=>
   intro hp;obtain ⟨p1,p2⟩:=AQ.1 hp;obtain ⟨i1,i2⟩:=ih p2;rw [List.filterMap_cons]
   by_cases h0:bl M x=0
   ·rw [if_pos h0];refine ⟨i1,fun k=>?_⟩;show bl (List.filterMap _ ks) k=_;rw [i2 k]
    by_cases hx:k=x
    ·subst hx;simp [h0]
    ·simp [hx]
   ·rw [if_neg h0];refine ⟨⟨AQ.2 ⟨fun y hy=>?_,i1.jo⟩,fun y hy=>?_⟩,fun k=>?_⟩
    ·obtain ⟨z,hz,hzy⟩:=Cy.1 hy;split at hzy
     ·cases hzy
     ·injection hzy with hzy
      subst hzy;exact (hci _ _).2 (p1 z hz)
    ·rcases Ab.1 hy with rfl|hy
     ·exact ⟨h0,hw _⟩
     ·exact i1.pos y hy
    ·simp only [bl]
     by_cases hx:x=k
     ·subst hx;simp
     ·rw [if_neg hx,i2 k];simp [AT hx]
 refine ⟨(key _ hlt).1,fun k=>?_⟩;unfold sV;rw [(key _ hlt).2 k];split
 ·rfl
 ·rename_i hn;refine Ct fun h0=>hn (hperm.mem_iff.2 (Rg fun e=>h0 e.symm))
def Mo {a b:List (Int×Int)} (ha:Ks bP a) (hb:Ks bP b):sV (b.foldl (fun M x=>ff x M) (a.foldl (fun M x=>ff x M) []))=b.foldl (fun l x=>eN bP x l) a:=by
 obtain ⟨a1,a2⟩:=foldM ha Mp.nil;obtain ⟨b1,b2⟩:=foldM hb a1;obtain ⟨o1,o2⟩:=HA b1;have h2:=gY ir hb ha;refine Ks.ext ir o1 h2 fun k=>?_;rw [o2 k,b2 k,a2 k,<-h2.wr k,jZ ir k hb ha];simp only [bl,BI,oa]
def OO {a:List (Int×Int)} {x:Int×Int} (ha:Ks bP a) (h0:x.2≠0) (hw:IntKind.i64.wrap x.2=x.2):sV (ff x (a.foldl (fun M x=>ff x M) []))=eN bP x a:=by
 obtain ⟨a1,a2⟩:=foldM ha Mp.nil;obtain ⟨o1,o2⟩:=HA (tM (x:=x) a1);refine Ks.ext ir o1 (lf ir h0 hw ha) fun k=>?_;rw [o2 k,vt x k a1,a2 k,vL ir hw k ha];simp only [bl,BI,oa]
def kA (M:List (Int×Int)):List AV:=M.map fun x=> .int .i64 x.1
def vA (M:List (Int×Int)):List AV:=M.map fun x=> .int .i64 x.2
def fH (M:List (Int×Int)):AV:= .eX (kA M) (vA M)
def LB (k:Int):∀ M:List (Int×Int),eK (.int .i64 k) (kA M) (vA M)=some (if k∈M.map (·.1) then some (.int .i64 (bl M k)) else none)
 |[]=>rfl
 |x::M=>by
  have ih:=LB k M;unfold kA vA at ih ⊢;simp only [List.map_cons,eK,iS,if_true,bl]
  by_cases h:x.1=k
  ·subst h;simp
  ·have h1:(k==x.1)=false:=by simpa using fun e=>h e.symm
   have h0: ¬k=x.1:=fun e=>h e.symm;rw [h1];simp only [ih,if_neg h,Ab,h0,false_or]
def vQ {S:St} {l:Nat} {M:List (Int×Int)} (h:S.get l=some [fH M]) (k:Int):nI false false (.int .i64 0) S (.mp l) (.int .i64 k)=some (.int .i64 (bl M k)):=by
 unfold nI;simp only [lD,if_true,h,fH,LB,Option.map_some,mX]
 by_cases hm:k∈M.map (·.1)
 ·simp only [hm,if_true];rfl
 ·have:bl M k=0:=vy fun x hx e=>hm (Ai.2 ⟨x,hx,e⟩);simp only [hm,if_false,this];rfl
def QT (k n:Int):∀ M:List (Int×Int),wj (.int .i64 k) (.int .i64 (IntKind.i64.wrap (bl M k+n))) (kA M) (vA M)=some (if k∈M.map (·.1) then some (vA (ff (k,n) M)) else none)/\kA (ff (k,n) M)=(if k∈M.map (·.1) then kA M else kA M++[.int .i64 k])/\(k ∉ M.map (·.1)->vA (ff (k,n) M)=vA M++[.int .i64 (IntKind.i64.wrap (bl M k+n))])
 |[]=>⟨rfl,rfl,fun _=>rfl⟩
 |x::M=>by
  obtain ⟨i1,i2,i3⟩:=QT k n M;simp only [kA,vA] at i1 i2 i3 ⊢;simp only [List.map_cons,wj,iS,if_true,bl,ff]
  by_cases h:x.1=k
  ·subst h;simp
  ·have h0: ¬k=x.1:=fun e=>h e.symm;have h1:(k==x.1)=false:=by simpa using h0
   rw [h1];simp only [if_neg h,i1,i2,Ab,h0,false_or,Option.map_some,List.map_cons];refine ⟨?_,?_,fun hm=>?_⟩
   ·by_cases hm:k∈List.map (fun x=>x.1) M
    ·simp only [hm,if_true,Option.map_some]
    ·simp only [hm,if_false,Option.map_none]
   ·split<;>rfl
   ·rw [i3 hm];rfl
def Hh {S:St} {l:Nat} {M:List (Int×Int)} (h:S.get l=some [fH M]) (k n:Int):ui false S (.mp l) (.int .i64 k) (.int .i64 (IntKind.i64.wrap (bl M k+n)))=some (S.cK l [fH (ff (k,n) M)]):=by
 obtain ⟨i1,i2,i3⟩:=QT k n M;unfold ui;simp only [lD,if_true,h,fH,i1,Option.map_some]
 by_cases hm:k∈M.map (·.1)
 ·simp only [hm,if_true] at i2 ⊢;rw [i2]
 ·simp only [hm,if_false] at i2 ⊢;rw [i2,i3 hm]
def PF (M:List (Int×Int)) (es:Array MapEntry) (clock:Nat):Prop:=∃ es':List MapEntry,es.toList.Perm es'/\es'.map (fun e=>(e.key,e.val))=M.map (fun x=>(Value.int .i64 x.1,Value.int .i64 x.2))/\es'.Pairwise (fun a b=>a.key≠b.key)/\Dy es clock
def FN {G:Gh}:∀ {M:List (Int×Int)} {es:List MapEntry},eP G (kA M) (vA M) es↔es.map (fun e=>(e.key,e.val))=M.map (fun x=>(Value.int .i64 x.1,Value.int .i64 x.2))
 |[],[]=>⟨fun _=>rfl,fun _=>trivial⟩
 |[],_::_=>⟨fun h=>h.elim,fun h=>by cases h⟩
 |_::_,[]=>⟨fun h=>h.elim,fun h=>by cases h⟩
 |x::M,e::es=>by
  have ih:=FN (G:=G) (M:=M) (es:=es);constructor
  ·rintro ⟨⟨h1,h2⟩,h3⟩;have e1:=h1.gI;have e2:=h2.gI;simp only [List.map_cons,ih.1 h3,e1,e2]
  ·intro h;simp only [List.map_cons,BV,Ac] at h;refine ⟨⟨?_,?_⟩,ih.2 h.2⟩
   ·rw [h.1.1];exact .int _ _
   ·rw [h.1.2];exact .int _ _
def Jy {n:Nat} {kk:List MI} {D:ep} {F:Fr} {S:St} {Q:er} {k:Nat} {M:List (Int×Int)} (hk:S.get k=some [fH M]) (h:∀ bm es clock,PF M es clock->ah pg n kk D F (S.cK k [.aL bm (.map es clock) [] []]) Q):ah pg n kk D F S Q:=by
 intro wb G w a b cs todo hb hf hR;obtain ⟨bm,es,clock,es',c,h1,h2,h3,h4,h5,h6⟩:=hR.st.aac hk;exact h bm es clock ⟨es',h1,FN.1 h2,h4,h5⟩ wb G w a b cs todo hb hf ⟨h6,hR.fr,hR.sz,hR.df⟩
def LX {n:Nat} {kk:List MI} {D:ep} {F:Fr} {S:St} {Q:er} {k bm clock:Nat} {es:Array MapEntry} {M:List (Int×Int)} (hk:S.get k=some [.aL bm (.map es clock) [] []]) (hM:PF M es clock) (h:ah pg n kk D F (S.cK k [fH M]) Q):ah pg n kk D F S Q:=by
 intro wb G w a b cs todo hb hf hR;obtain ⟨es',h1,h2,h3,h4⟩:=hM;refine h wb G w a b cs todo hb hf ⟨hR.st.aeK (c:=some .i64) hk h1 (FN.2 h2) (fun e he=>?_) h3 h4,hR.fr,hR.sz,hR.df⟩
 have:(e.key,e.val)∈M.map (fun x=>(Value.int .i64 x.1,Value.int .i64 x.2)):=by
  rw [<-h2];exact BA he
 obtain ⟨x,_,hx⟩:=Ai.1 this;injection hx with hx _
 exact ⟨x.1,hx.symm⟩
def FC {e:MapEntry}:∀ {l:List MapEntry},(l.map (·.born)).Nodup->e∈l->l.Perm (e::l.filter fun x=>x.born !=e.born)
 |x::l,hn,he=>by
  have hn':=BC.1 hn;rcases Ab.1 he with rfl|he'
  ·have:l.filter (fun x=>x.born !=e.born)=l:=List.filter_eq_self.2 fun y hy=>by
    simp only [bne_iff_ne,ne_eq];exact fun h=>hn'.1 (Ai.2 ⟨y,hy,h⟩)
   simp [this]
  ·have hx:(x.born !=e.born)=true:=by
    simp only [bne_iff_ne,ne_eq];exact fun h=>hn'.1 (Ai.2 ⟨e,he',h.symm⟩)
   rw [Cg,if_pos hx];exact ((FC hn'.2 he').cons x).trans (.swap _ _ _)
def Ca {es:Array MapEntry} {seen:Array Nat} {e:MapEntry} (hn:(es.toList.map (·.born)).Nodup) (he:e∈(leftOf es seen).toList):(leftOf es seen).toList.Perm (e::(leftOf es (seen.push e.born)).toList):=by
 unfold leftOf at he ⊢;simp only [Array.toList_filter] at he ⊢;have h1:(es.toList.filter fun e=> !seen.contains e.born).map (·.born)|>.Nodup:=(List.Sublist.map _ List.filter_sublist).nodup hn
 have h2:=FC h1 he;rw [List.filter_filter] at h2
 have:(fun x:MapEntry=> !(seen.push e.born).contains x.born)=fun x=>(x.born !=e.born) && !seen.contains x.born:=funext fun x=>by
  rw [B5];simp
  grind
 rw [this];exact h2
def Ot (es:Array MapEntry):leftOf es #[]=es:=by
 unfold leftOf;simp
def OB {n:Nat} {kk:List MI} {D:ep} {S:St} {Q:er} {t k m l o c:Nat} (pre:Fr) {post:Fr} (hp:List.lookup t pre=none) (h:ah pg n kk D (pre++(t,.aN k m l o)::post) S Q):ah pg n kk D (pre++(t,.b9 k m l o c)::post) S Q:=by
 intro wb G w a b cs todo hb hf hR;obtain ⟨h1,h2⟩:=hR.fr.rel t _ (kE hp);refine h wb G w a b cs todo hb hf ⟨hR.st,⟨fun u v e=>?_⟩,hR.sz,hR.df⟩;rcases qY (x:= .b9 k m l o c) hp e with ⟨rfl,rfl⟩|e
 ·exact ⟨h1,jc k m l o c _ _ h2⟩
 ·exact hR.fr.rel u v e
def Jh {a b c:Nat} {A B C:List AV} {ob:List (Nat×List AV)} (la:List.lookup a ob=some A) (lb:List.lookup b ob=some B) (lc:List.lookup c ob=some C):∀ l cs,List.lookup l [(a,A),(b,B),(c,C)]=some cs->List.lookup l ob=some cs:=fun l cs h=>by
 simp only [List.lookup_cons,List.lookup_nil] at h;split at h
 ·rename_i e;rw [show l=a by simpa using e,la,h]
 ·split at h
  ·rename_i e;rw [show l=b by simpa using e,lb,h]
  ·split at h
   ·rename_i e;rw [show l=c by simpa using e,lc,h]
   ·cases h
def xz {a b:Nat} {A B:List AV} {ob:List (Nat×List AV)} (la:List.lookup a ob=some A) (lb:List.lookup b ob=some B):∀ l cs,List.lookup l [(a,A),(b,B)]=some cs->List.lookup l ob=some cs:=fun l cs h=>by
 simp only [List.lookup_cons,List.lookup_nil] at h;split at h
 ·rename_i e;rw [show l=a by simpa using e,la,h]
 ·split at h
  ·rename_i e;rw [show l=b by simpa using e,lb,h]
  ·cases h
def Lv (done:List Int) (z:Int) (n:Nat) (h:done.length<n):List.take (done.length*1) (List.map (AV.int .i64) (done++List.replicate (n-done.length) 0))++flat [AV.int .i64 z]++List.drop (done.length*1+(flat [AV.int .i64 z]).length) (List.map (AV.int .i64) (done++List.replicate (n-done.length) 0))=List.map (AV.int .i64) ((done++[z])++List.replicate (n-(done++[z]).length) 0):=by
 obtain ⟨m,rfl⟩:∃ m,n=done.length+1+m:=⟨n-(done.length+1),by omega⟩;have e1:done.length+1+m-done.length=m+1:=by omega
 have e2:done.length+1+m-(done++[z]).length=m:=by simp
 rw [e1,e2,BD,show flat [AV.int .i64 z]=[AV.int .i64 z] from rfl,AP,AP,AP,List.take_left' (by simp),show done.length+[AV.int IntKind.i64 z].length=(done.map (AV.int .i64)).length+1 from by simp,<-Bg,List.drop_left' rfl];simp [List.replicate_succ]
def kM (M l:List (Int×Int)):List (Int×Int):=l.foldl (fun M x=>ff x M) M
def aee {n m nt:Nat} {kk:List MI} {F:Fr} {Q:er} {ob:List (Nat×List AV)} {lv:List Nat} (a:List AV) (l0:List.lookup 0 ob=some a) (h:ah pg n kk [] F ⟨m,[(0,a)],nt,[],gl⟩ Q):ah pg n kk [] F ⟨m,ob,nt,lv,gl⟩ Q:=
 ah.cB h (fun l cs h=>by
  simp only [List.lookup_cons,List.lookup_nil] at h;split at h
  ·rename_i e;rw [show l=0 by simpa using e,l0,h]
  ·cases h) (fun x h=>by cases h)
def Tx:=(by conv=>lhs;reduce:dC [Ua,Ub] [] 0x344607c63d19727b6929e7d078e9c0eb33d7cc517515170cd4e2df43dafa5e4925b34be73ed3456b55a14816d62d42fec81f46f9fb43d=_)
def Fh:=rO (Tx (.int .i64 0) (.int .i64 1))
def Tv:=(by conv=>lhs;reduce:dC [Ua] [] 0x180df6022b1da8979d3e=_)
abbrev ZZ:=rP (Tv (.int .i64 1))
def Ty:=(by conv=>lhs;reduce:dC [Ua] [Ya,Yb] 0x51491e40868af82839d2c4a5db7571f84601efbde62209af6075d3811ae6e48b42a=_)
def Fi:=rO (Ty (.int .i64 0) Fh ZZ)
def Tw:=(by conv=>lhs;reduce:dC [] [] 0x1f265cd40e343f=_)
abbrev Z0:=rP Tw
def acx:=(by conv=>lhs;reduce:dC [Ua,Ub] [Ya,Yb] 0x186d8cbc80cf059b889f9bd791734f00d874e4d00341c=_)
abbrev ake:=rP (acx .gM (.int .i64 0) Fi Z0)
def ad3:aD pg 395 31 ake [.t 2]:= .o2 Tryz.func395 (by kernel_rfl)
def VS (ls:List (List (Int×Int))) (t:bE) (hn:ls.length<=1000) (hl:∀ l∈ls,l.length<=1000000):
  ao pg 395 [.sl 1 (ls.map fun l=> .sl 2 (l.map iL) .ai) t] (.none gl) fun o S'=>o= .ok (.mp 0)/\∃ N nt,0<N/\S'=⟨N,[(0,[fH (ls.foldl kM [])])],nt,[],gl⟩:=by
 refine .aC ad3 (by simp) (ab 60 ?_);generalize hK:bI _ _=Q
 repeat' with_reducible first|refine ar ?_|refine au ?_|refine ⟨?_,?_⟩|intro _|simp only [go_sem,seval]
 refine .dD ls.length (fun i F S=>F=[(3,.mp 0),(9,.sl 1 (ls.map fun l=> .sl 2 (l.map iL) .ai) t),(10,.int .i64 (ls.length:Int)),(11,.int .i64 (i:Int))]/\∃ N nt M,0<N/\S=⟨N,[(0,[fH M])],nt,[],gl⟩/\(ls.drop i).foldl kM M=ls.foldl kM []) ⟨rfl,1,0,[],by decide,rfl,rfl⟩ ?_;rintro i F S hi ⟨rfl,N,nt,M,hN,rfl,he⟩ ih
 by_cases h:i<ls.length
 ·obtain ⟨l,hli⟩:=aK h;have hd:=bY hli;rw [hd,List.foldl_cons] at he;have hll:=hl l (Aj hli);have hlm:(ls.map fun l=>AV.sl 2 (l.map iL) .ai)[i]? =some (.sl 2 (l.map iL) .ai):=by rw [Ap,hli];rfl
  refine bp Fi.eq_1 ?_
  repeat' first
   |with_reducible first|refine ar ?_|refine au ?_|refine ⟨?_,?_⟩|intro _
   |simp only [go_sem,seval,hlm,fk h,eD h,Ad,ba (show i<9223372036854775807 by omega)]
  refine .dD l.length (fun j F S=>F=[(3,.mp 0),(9,.sl 1 (ls.map fun l=> .sl 2 (l.map iL) .ai) t),(10,.int .i64 (ls.length:Int)),(11,.int .i64 (i:Int)),(15,.sl 2 (l.map iL) .ai),(16,.int .i64 (l.length:Int)),(17,.int .i64 (j:Int))]/\∃ N nt M2,0<N/\S=⟨N,[(0,[fH M2])],nt,[],gl⟩/\kM M2 (l.drop j)=kM M l) ⟨rfl,N,nt,M,hN,rfl,rfl⟩ ?_;rintro j F S hj ⟨rfl,N2,nt2,M2,hN2,rfl,he2⟩ ih2
  by_cases h2:j<l.length
  ·obtain ⟨y,hy⟩:=aK h2;have hd2:=bY hy;rw [hd2] at he2;have hym:(l.map iL)[j]? =some (.agg [.int .i64 y.1,.int .i64 y.2]):=by rw [Ap,hy];rfl
   have hN0:(N2=0)=False:=eq_false (by omega);have h0N:(0=N2)=False:=eq_false (by omega);have hget:∀ (n nt:Nat) a b,St.get ⟨n,[(N2,a),(N2,b),(0,[fH M2])],nt,[],gl⟩ 0=some [fH M2]:=fun n nt a b=>by simp [St.get,List.lookup_cons,show (0==N2)=false by simp;omega]
   have hlk:=fun n nt a b=>vQ (hget n nt a b) y.1;have hin:=fun n nt a b=>Hh (hget n nt a b) y.1 y.2;refine bp Fh.eq_1 ?_
   repeat' first
    |with_reducible first|refine ar ?_|refine au ?_|refine ⟨?_,?_⟩|intro _
    |simp only [go_sem,seval,hym,fk h2,eD h2,Ad,ba (show j<9223372036854775807 by omega),hN0,h0N,hlk,hin,St.cK]
   exact aee _ (by simp [List.lookup_cons,show (0==N2)=false by simp;omega]) (ih2 h2 _ _ ⟨rfl,N2+1,nt2,_,by omega,rfl,he2⟩)
  ·refine bp Fh.eq_1 ?_
   repeat' first
    |with_reducible first|refine ar ?_|refine au ?_|refine ⟨?_,?_⟩|intro _
    |simp only [go_sem,seval,fE (Am h2),Ad,ba (show i<9223372036854775807 by omega)]
   rw [AE (Am h2)] at he2;refine ih h _ _ ⟨rfl,N2,nt2,M2,hN2,rfl,?_⟩;rw [<-he,<-he2];rfl
 ·refine bp Fi.eq_1 ?_
  repeat' first
   |with_reducible first|refine ar ?_|refine au ?_|refine ⟨?_,?_⟩|intro _
   |simp only [go_sem,seval,fE (Am h),Ad]
  rw [AE (Am h)] at he;rw [<-hK];simp only [go_sem,seval];exact ⟨N,nt,hN,by rw [<-he];rfl⟩
def acI:=(by conv=>lhs;reduce:dC [Ua,Ub] [] 0x12ca3b504508ac03b3864f47e57cf6c9d4520f579f98c7af17d3741b=_)
abbrev akn:=rP (acI (.int .i64 0) (.bool false))
def ad5:aD pg 400 11 akn [.c 4 2 true,.t 5]:= .o2 Tryz.func400 (by kernel_rfl)
def agA (k n:Int):Pure pg gl 400 [.int .i64 k,.int .i64 n] (.ok (.aF [.agg [.int .i64 k,.int .i64 n],.bool (!(n==0))])):=by
 refine ⟨?_,by simp only [bz,cz,forall_eq_or_imp,forall_eq,implies_true],by simp only [cz,forall_eq_or_imp,forall_eq,implies_true]⟩;simp only [bz];refine .aC ad5 (by simp) (ab 200 ?_)
 repeat' with_reducible first|refine ar ?_|refine au ?_|refine ⟨?_,?_⟩|intro _|simp only [go_sem,seval]
 rfl
def pA (M:List (Int×Int)) (es:Array MapEntry) (seen:Array Nat) (done:List Int):Prop:=((leftOf es seen).toList.map (·.key)++done.map (Value.int .i64)).Perm (M.map fun x=>Value.int .i64 x.1)
def pA.key {M:List (Int×Int)} {es:Array MapEntry} {seen:Array Nat} {done:List Int} (h:pA M es seen done) {e:MapEntry} (he:e∈(leftOf es seen).toList):∃ z,e.key= .int .i64 z:=by
 have:e.key∈M.map fun x=>Value.int .i64 x.1:=h.mem_iff.1 (AW _ (BA he));obtain ⟨x,_,hx⟩:=Ai.1 this;exact ⟨x.1,hx.symm⟩
def pA.step {M:List (Int×Int)} {es:Array MapEntry} {seen:Array Nat} {done:List Int} (h:pA M es seen done) (hn:(es.toList.map (·.born)).Nodup) {e:MapEntry} (he:e∈(leftOf es seen).toList) {z:Int} (hz:e.key= .int .i64 z):pA M es (seen.push e.born) (done++[z]):=by
 refine .trans ?_ h;have h1:=(Ca hn he).map (·.key);rw [List.map_cons,hz] at h1;rw [AP,<-AL];refine .trans ?_ (h1.symm.append_right _);exact CB
def pA.len {M:List (Int×Int)} {es:Array MapEntry} {seen:Array Nat} {done:List Int} (h:pA M es seen done):(leftOf es seen).size+done.length=M.length:=by
 have:=h.length_eq;simp only [Ak,Ad,Array.length_toList] at this;exact this
def pA.out {M:List (Int×Int)} {es:Array MapEntry} {seen:Array Nat} {done:List Int} (h:pA M es seen done) (h0:(leftOf es seen).size=0):gf done=gf (M.map (·.1))/\done.length=M.length:=by
 have h1:(leftOf es seen).toList=[]:=A2 (by simpa using h0);unfold pA at h;rw [h1,Az,List.nil_append] at h
 have h2:done.Perm (M.map (·.1)):=by
  have h3:(M.map fun x=>Value.int .i64 x.1)=(M.map (·.1)).map (Value.int .i64):=by rw [AY];rfl
  rw [h3] at h;have h4:=h.map fun v=>match v with|Value.int _ z=>z|_=>0
  rw [AY,AY] at h4;rw [show ((fun v=>match v with|Value.int _ z=>z|_=>0)∘Value.int IntKind.i64)=id from rfl,BM,BM] at h4;exact h4
 refine ⟨?_,by simpa using h2.length_eq⟩
 have hs:∀ l:List Int,(gf l).Pairwise fun a b=>a<=b:=fun l=>by
  refine (List.pairwise_mergeSort (le:=fun x y:Int=>decide (x<=y)) ?_ ?_ l).imp fun h=>by simpa using h
  ·intro a b c h1 h2;simp at*;omega
  ·intro a b;simp;omega
 refine List.Perm.eq_of_pairwise (le:=fun a b=>a<=b) (fun a b _ _ h1 h2=>by omega) (hs _) (hs _) ?_;exact ((CA _ _).trans h2).trans (CA _ _).symm
def TD:=(by conv=>lhs;reduce:dC [Ua] [] 0x82db7e71e3c04b7a9165324867ffa59bdfbff4d0323fbddae8fee704bcb474127b439=_)
def LQ:=rO (TD (.int .i64 0))
def TA:=(by conv=>lhs;reduce:dC [Ua] [] 0x10b30b0512a1767372df2bd68=_)
abbrev Z1:=rP (TA (.int .i64 1))
def TE:=(by conv=>lhs;reduce:dC [Ua] [Ya] 0xb84dfcad29e25f5be793af57c7f65d42793dfced357a39cee17e06260c58401ec2a34dfb2e49f51f393942adda33fae5583c79fd69ad0cc1f6f38cd0488fe4208cc3878fad74da2e6ac747b45f=_)
def Fj:=rO (TE (.int .i64 0) Z1)
def TB:=(by conv=>lhs;reduce:dC [] [] 0x7b040e8c9bb469=_)
abbrev Z2:=rP TB
def TC:=(by conv=>lhs;reduce:dC [Ua,Ub] [Ya,Yb] 0x74fa7612dbc0c13ebbfc93714a817bfd769f4383309a46e30d2e743e=_)
def LP:=rO (TC (.sl 2 [] .exact) (.int .i64 0) Fj Z2)
def Tz:=(by conv=>lhs;reduce:dC [] [Ya,Yb] 0x83b80a2408426d09d3a8c3d029=_)
def LO:=rO (Tz LQ LP)
def acy:=(by conv=>lhs;reduce:dC [Ua,Ub] [Ya] 0x4cfb64d8dece1d5303178cbbb06842b41f=_)
abbrev akf:=rP (acy (.sl 2 [] .exact) (.int .i64 0) LO)
def ad4:aD pg 399 49 akf [.t 4]:= .o2 Tryz.func399 (by kernel_rfl)
def agz (hg:ae gl) (M:List (Int×Int)) (hM:Mp M) (hn:M.length<=4000000) (N nt:Nat) (h0:0<N):ao pg 399 [.mp 0,.fn (.func 400) [] []] ⟨N,[(0,[fH M])],nt,[],gl⟩ fun o _=>mE o (.sl 2 ((sV M).map iL) .ai):=by
 refine .aC ad4 (by simp) (ab 60 ?_);generalize hK:bI _ _=Q;have hM0:(M.map fun x=>AV.int .i64 x.1).length=M.length:=Ad ..
 repeat' with_reducible first|refine ar ?_|refine au ?_|refine ⟨?_,?_⟩|intro _|simp only [go_sem,seval]
 refine .vP (k:=0) (ks:=kA M) (vs:=vA M) rfl rfl ?_
 repeat' with_reducible first|refine ar ?_|refine au ?_|refine ⟨?_,?_⟩|intro _|simp only [go_sem,seval]
 refine .Fq (q:= .i64) (n:=M.length) (by show AV.int .i64 ((kA M).length:Int)=_;rw [show (kA M).length=M.length from Ad ..]) (by omega) (by omega) ?_
 repeat' with_reducible first|refine ar ?_|refine au ?_|refine ⟨?_,?_⟩|intro _|simp only [go_sem,seval]
 have hN0:(N=0)=False:=eq_false (by omega);have hN0b:(0==N)=false:=by simp;omega
 have hN1a:(N==N+1)=false:=by simp
 have hN1b:(N+1==N)=false:=by simp
 refine Jy (k:=0) (M:=M) (by simp [St.get,List.lookup_cons,hN0b]) fun bm es clock hMo=>?_;have hMo':=hMo;obtain ⟨es',p1,p2,p3,p4,p5⟩:=hMo';have hrep:St.cK ⟨N+1,[(N,List.replicate M.length (AV.int IntKind.i64 0)),(0,[fH M])],nt,[],gl⟩ 0 [.aL bm (.map es clock) [] []]=⟨N+1,[(N,(List.replicate M.length 0).map (AV.int .i64)),(0,[.aL bm (.map es clock) [] []])],nt,[],gl⟩:=by simp [St.cK,hN0]
 rw [hrep];refine bp LO.eq_1 ?_
 repeat' with_reducible first|refine ar ?_|refine au ?_|refine ⟨?_,?_⟩|intro _|simp only [go_sem,seval]
 refine .FJ (k:=0) (bm:=bm) (es:=es) (clock:=clock) rfl (by simp [St.get,List.lookup_cons,hN0b]) fun ri=>?_
 repeat' with_reducible first|refine ar ?_|refine au ?_|refine ⟨?_,?_⟩|intro _|simp only [go_sem,seval]
 have hG0:pA M es #[] []:=by
  unfold pA;rw [Ot,Az,AB];have:=p1.map (·.key);refine this.trans ?_;have h3:=congrArg (List.map Prod.fst) p2;rw [AY,AY] at h3;exact .of_eq h3
 refine .ga (fun k F S=>∃ (done:List Int) (seen:Array Nat) (N2 nt2:Nat),F=[(0,.mp 0),(1,.fn (.func 400) [] []),(5,.b9 1 done.length N 0 M.length),(16,.ptr (N+1) 0)]/\S=⟨N2,[(N+1,[.aL ri (.mapIter (some bm) clock seen clock) [] []]),(N,(done++List.replicate (M.length-done.length) 0).map (AV.int .i64)),(0,[.aL bm (.map es clock) [] []])],nt2,[],gl⟩/\N+2<=N2/\pA M es seen done/\k=(leftOf es seen).size) (leftOf es #[]).size ⟨[],#[],N+2,nt,rfl,rfl,Af _,hG0,rfl⟩ ?_;rintro k F S ⟨done,seen,N2,nt2,rfl,rfl,hN2,hG,rfl⟩ ih;have hlen:=hG.len;refine bp LQ.eq_1 ?_
 repeat' with_reducible first|refine ar ?_|refine au ?_|refine ⟨?_,?_⟩|intro _|simp only [go_sem,seval]
 refine .Fx (i:=N+1) (k:=0) (ri:=ri) (bm:=bm) (es:=es) (clock:=clock) (since:=clock) (seen:=seen) (c0:=clock) rfl (by simp [St.get,List.lookup_cons]) (by simp [St.get,List.lookup_cons,hN0b]) p5 (Af _) (fun hz=>?_) (fun e he=>?_)
 ·have hgo:=hG.out hz
  repeat' with_reducible first|refine ar ?_|refine au ?_|refine ⟨?_,?_⟩|intro _|simp only [go_sem,seval]
  refine LX (k:=0) (M:=M) (es:=es) (clock:=clock) (bm:=bm) (by simp [St.get,List.lookup_cons,hN0b]) hMo ?_;have hzz:List.replicate (M.length-done.length) (0:Int)=[]:=by rw [hgo.2,BQ];rfl
  have hrep3:St.cK ⟨N2,[(N+1,[.aL ri (.mapIter (some bm) clock seen clock) [] []]),(N,(done++List.replicate (M.length-done.length) 0).map (AV.int .i64)),(0,[.aL bm (.map es clock) [] []])],nt2,[],gl⟩ 0 [fH M]=⟨N2,[(N+1,[.aL ri (.mapIter (some bm) clock seen clock) [] []]),(N,done.map (AV.int .i64)),(0,[fH M])],nt2,[],gl⟩:=by
   rw [hzz,AB];simp [St.cK,hN0]
  rw [hrep3];refine OB [(0,.mp 0),(1,.fn (.func 400) [] [])] rfl ?_;have h162:=fun nt=>agb (gl:=gl) N N2 nt done [(N+1,[.aL ri (.mapIter (some bm) clock seen clock) [] []]),(N,done.map (AV.int .i64)),(0,[fH M])] [] (by simp [List.lookup_cons,hN1a]) (by omega);have hso:(gf done).length=M.length:=by rw [<-hgo.2];exact List.length_mergeSort ..
  refine bp LP.eq_1 ?_
  repeat' with_reducible first|refine ar ?_|refine au ?_|refine bt.fY (h162 _) ?_|refine ⟨?_,?_⟩|intro _|simp only [go_sem,seval]
  obtain ⟨ks,hks⟩:∃ ks,ks=gf (M.map (·.1)):=⟨_,rfl⟩;obtain ⟨f,hf⟩:∃ f:Int->Option (Int×Int),f=fun k=>if bl M k=0 then none else some (k,bl M k):=⟨_,rfl⟩
  have hout:sV M=ks.filterMap f:=by rw [hf,hks];rfl
  rw [hgo.1,<-hks];have hnk:ks.length=done.length:=by rw [hks,<-hgo.1,hso,hgo.2]
  rw [<-hnk];refine ah.cB (ob':=[(N,ks.map (AV.int .i64)),(0,[fH M])]) (live':=[]) ?_ (xz (by simp [List.lookup_cons]) (by simp [List.lookup_cons,hN0b])) (fun x h=>by cases h);refine .dD ks.length (fun i F S=>∃ out tk,F=[(0,.mp 0),(1,.fn (.func 400) [] []),(7,.sl 2 (out.map iL) tk),(27,.aN 1 ks.length N 0),(28,.int .i64 (ks.length:Int)),(29,.int .i64 (i:Int))]/\(∃ N2 nt2 lv2,S=⟨N2,[(N,ks.map (AV.int .i64)),(0,[fH M])],nt2,lv2,gl⟩/\N+1<=N2/\gS 0 nt2 lv2 tk)/\out.length<=i/\out++(ks.drop i).filterMap f=ks.filterMap f) ⟨[],.exact,rfl,⟨N2,nt2,[],rfl,by omega,.inl rfl⟩,Af _,rfl⟩ ?_;rintro i F S hi ⟨out,tk,rfl,⟨N3,nt3,lv3,rfl,hN3,htk⟩,hol,hall⟩ ih2
  by_cases h:i<ks.length
  ·obtain ⟨k,hk⟩:=aK h;rw [bY hk,List.filterMap_cons] at hall;have hkm:(ks.map (AV.int .i64))[i]? =some (.int .i64 k):=by rw [Ap,hk];rfl
   have hkm:(List.drop (i*1) (ks.map (AV.int .i64)))[0]? =some (.int .i64 k):=by rw [BD,AO,Nat.add_zero,hkm]
   have hlk:=fun n nt lv=>vQ (S:=⟨n,[(N,ks.map (AV.int .i64)),(0,[fH M])],nt,lv,gl⟩) (M:=M) (l:=0) (by simp [St.get,List.lookup_cons,hN0b]) k;have h4:=agA (gl:=gl) k (bl M k);have hibk:=qU ks;have hN3a:(N3=N)=False:=eq_false (by omega);have hN3b:(N3=0)=False:=eq_false (by omega);have hN3c:(N=N3)=False:=eq_false (by omega);have hN3d:(0=N3)=False:=eq_false (by omega);have hN3e:(N==N3)=false:=by simp;omega
   have hN3f:(0==N3)=false:=by simp;omega
   refine bp Fj.eq_1 ?_
   repeat' first
    |with_reducible first|refine ar ?_|refine au ?_|refine .pu (h4) hg rfl ?_|refine ⟨?_,?_⟩|intro _
    |simp only [go_sem,seval,hkm,fk h,eD h,hlk,hibk,hN0,hN3a,hN3b,hN3c,hN3d,Ad,gw,ba (show i<9223372036854775807 by omega)]
   ·exact htk.sf
   ·omega
   ·omega
   ·rename_i hb;have hfk:f k=some (k,bl M k):=by rw [hf];exact if_neg (by simpa using hb)
    rw [hfk] at hall;refine ah.cB (ob':=[(N,ks.map (AV.int .i64)),(0,[fH M])]) (live':=nt3::jU lv3 tk) ?_ (xz (by simp [List.lookup_cons,hN3e]) (by simp [List.lookup_cons,hN0b,hN3f])) (fun x h=>h);refine ih2 h _ _ ⟨out++[(k,bl M k)],.tok nt3,?_,⟨N3+1,nt3+1,_,rfl,by omega,.new _ _ _ (Au _)⟩,by simp;omega,by rw [AL];exact hall⟩;rw [AP];rfl
   ·rename_i hb;have hfk:f k=none:=by rw [hf];exact if_pos (by simpa using hb)
    rw [hfk] at hall;refine ah.cB (ob':=[(N,ks.map (AV.int .i64)),(0,[fH M])]) (live':=lv3) ?_ (xz (by simp [List.lookup_cons,hN3e]) (by simp [List.lookup_cons,hN0b,hN3f])) (fun x h=>h);exact ih2 h _ _ ⟨out,tk,rfl,⟨N3+1,nt3,_,rfl,by omega,htk⟩,by omega,hall⟩
  ·refine bp Fj.eq_1 ?_
   repeat' first
    |with_reducible first|refine ar ?_|refine au ?_|refine ⟨?_,?_⟩|intro _
    |simp only [go_sem,seval,fE (Am h),Ad]
   rw [AE (Am h),List.filterMap_nil,AB] at hall;rw [<-hK];simp only [go_sem,seval];rw [hout,<-hall];exact (Nm.sl (k:=2) (D0 out)).2.1
 ·obtain ⟨z,hz⟩:=hG.key he
  have hes:e∈es.toList:=by
   unfold leftOf at he;simp only [Array.toList_filter,BN] at he;exact he.1
  have hrep2:St.cK ⟨N2,[(N+1,[.aL ri (.mapIter (some bm) clock seen clock) [] []]),(N,(done++List.replicate (M.length-done.length) 0).map (AV.int .i64)),(0,[.aL bm (.map es clock) [] []])],nt2,[],gl⟩ (N+1) [.aL ri (.mapIter (some bm) clock (seen.push e.born) clock) [] []]=⟨N2,[(N+1,[.aL ri (.mapIter (some bm) clock (seen.push e.born) clock) [] []]),(N,(done++List.replicate (M.length-done.length) 0).map (AV.int .i64)),(0,[.aL bm (.map es clock) [] []])],nt2,[],gl⟩:=by simp [St.cK]
  rw [hrep2]
  repeat' with_reducible first|refine ar ?_|refine au ?_|refine ⟨?_,?_⟩|intro _|simp only [go_sem,seval]
  refine .lR (i:=N+1) (k:=0) (ri:=ri) (bm:=bm) (es:=es) (since:=clock) (seen:=seen) (c0:=clock) (e:=e) (kk:= .int .i64 z) (vv:= .de) rfl (by simp [St.get,List.lookup_cons]) (by simp [St.get,List.lookup_cons,hN0b]) hes p4 (fun G=>by rw [hz];exact .int _ _) (fun G=> .de _) ?_;have hstep:=hG.step p4 he hz;have hlen2:=hstep.len;simp only [Ak,List.length_cons,List.length_nil] at hlen2;have hib:=qU (done++List.replicate (M.length-done.length) 0);have hNN:(N=N+1)=False:=eq_false (by omega);have hlt:(done.length+1<=M.length)=True:=eq_true (by omega);have hll:(done.length*1<=(done++List.replicate (M.length-done.length) 0).length)=True:=eq_true (by simp);have hcell:=Lv done z M.length (by omega)
  repeat' with_reducible first|refine ar ?_|refine au ?_|refine ⟨?_,?_⟩|intro _|simp only [go_sem,seval,eG,eR,cq,bO,bH,eg,hib,hNN,hlt,hll,hN0,hcell]
  ·omega
  ·omega
  refine ah.cB (ob':=[(N+1,[.aL ri (.mapIter (some bm) clock (seen.push e.born) clock) [] []]),(N,((done++[z])++List.replicate (M.length-(done++[z]).length) 0).map (AV.int .i64)),(0,[.aL bm (.map es clock) [] []])]) (live':=[]) ?_ (Jh (by simp [List.lookup_cons,hN1b]) (by simp [List.lookup_cons,hN1a]) (by simp [List.lookup_cons,hN0b])) (fun x h=>by cases h);have hleft:=(Ca p4 he).length_eq;simp only [Array.length_toList,List.length_cons] at hleft;exact ih _ _ _ (by omega) ⟨done++[z],seen.push e.born,N2,nt2,by simp,rfl,hN2,hstep,rfl⟩
def acw:=(by conv=>lhs;reduce:dC [Ua] [] 0x114544624ec2363cdf34bb56d345=_)
abbrev akd:=rP (acw (.sl 2 [] .exact))
def ad2:aD pg 394 5 akd [.t 2]:= .o2 Tryz.func394 (by kernel_rfl)
def VR (hg:ae gl) (M:List (Int×Int)) (hM:Mp M) (hn:M.length<=4000000) (N nt:Nat) (h0:0<N):ao pg 394 [.mp 0] ⟨N,[(0,[fH M])],nt,[],gl⟩ fun o _=>mE o (.sl 2 ((sV M).map iL) .ai):=by
 refine .aC ad2 (by simp) (ab 60 ?_);generalize hK:bI _ _=Q;have h:=agz hg M hM hn N nt h0
 repeat' with_reducible first|refine ar ?_|refine au ?_|refine ⟨?_,?_⟩|intro _|simp only [go_sem,seval]
 refine ao.mono h fun o S' ho=>?_
 cases o with
 |eH v=>exact ho.elim
 |ok r=>
  repeat' with_reducible first|refine ar ?_|refine au ?_|refine ⟨?_,?_⟩|intro _|simp only [go_sem,seval]
  rw [<-hK];simp only [go_sem,seval];exact ho
def wR (l:List (Int×Int)):Nm (.sl 2 (l.map iL) .ai):= .sl (D0 l)
def pF:∀ (l M:List (Int×Int)),(kM M l).length<=M.length+l.length
 |[],M=>Af _
 |x::l,M=>by
  have h1:=pF l (ff x M)
  have h2:∀ M:List (Int×Int),(ff x M).length<=M.length+1:=fun M=>by
   induction M with
   |nil=>exact Af _
   |cons y M ih=>
    unfold ff;split
    ·simp
    ·simpa using ih
  have h3:=h2 M;show (kM (ff x M) l).length<=_;simp only [List.length_cons];omega
def acu:=(by conv=>lhs;reduce:dC [Ua] [] 0x5c65c1f785e8076f14065b287f4822a83f530ad9b41a=_)
abbrev akb:=rP (acu (.sl 2 [] .exact))
def ad0:aD pg 391 10 akb [.t 4]:= .o2 Tryz.func391 (by kernel_rfl)
def agx (hg:ae gl) (a b:List (Int×Int)) (ha:Ks bP a) (hb:Ks bP b) (hal:a.length<=1000000) (hbl:b.length<=1000000):Pure pg gl 391 [.sl 2 (a.map iL) .ai,.sl 2 (b.map iL) .ai] (.ok (.sl 2 ((b.foldl (fun l x=>eN bP x l) a).map iL) .ai)):=by
 refine bw (Nm.cons (wR a) (Nm.cons (wR b) Nm.nil)) (wR _).1 (.aC ad0 (by simp) (ab 60 ?_));generalize hK:bI _ _=Q;have h1:=VS (gl:=gl) [a,b] .exact (by simp) (fun l hl=>(Ab.1 hl).elim (fun e=>e▸hal) fun e=>(Ay.1 e)▸hbl)
 repeat' with_reducible first|refine ar ?_|refine au ?_|refine ⟨?_,?_⟩|intro _|simp only [go_sem,seval]
 refine ao.mono h1 fun o S' ho=>?_;obtain ⟨rfl,N,nt,hN,rfl⟩:=ho;have h2:=foldM ha Mp.nil;have h3:=foldM hb h2.1;have h4:=pF a [];have h5:=pF b (kM [] a);simp only [List.length_nil] at h4;have h:=VR hg (kM (kM [] a) b) h3.1 (by omega) N nt hN
 repeat' with_reducible first|refine ar ?_|refine au ?_|refine ⟨?_,?_⟩|intro _|simp only [go_sem,seval]
 refine ao.mono h fun o S' ho=>?_
 cases o with
 |eH v=>exact ho.elim
 |ok r=>
  repeat' with_reducible first|refine ar ?_|refine au ?_|refine ⟨?_,?_⟩|intro _|simp only [go_sem,seval]
  rw [<-hK];simp only [go_sem,seval];rw [<-Mo ha hb];exact ho
def acr:=(by conv=>lhs;reduce:dC [Ua,Ub,Uc,Ud] [] 0x11dbe505338dccb271ae6003d89d3326c56c6015526c99aeb2346d16e0c0c644b38000176e6fd26621d370f4dc23038866a1e8c4f89132b03d1bf80119bcb6d8f6fafa6fefbee99742e=_)
abbrev aj9:=rP (acr (.int .i64 0) (.int .u64 0) (.sl 6 [] .exact) (.sl 2 [] .exact))
def adY:aD pg 388 22 aj9 [.c 6 5 true]:= .o2 Tryz.func388 (by kernel_rfl)
def agv (hg:ae gl) (s t:aP) (hs:Ks bP s.fQ) (ht:Ks bP t.fQ) (hsl:s.fQ.length<=1000000) (htl:t.fQ.length<=1000000):Pure pg gl 388 [.agg [],.agg s.l,.agg t.l] (.ok (.agg (jI s t).l)):=by
 refine bw (Hr nR s.nm t.nm) (jI s t).nm.1 (.aC adY (by simp) (ab 60 ?_));have h380:=qF (gl:=gl) s.n t.n;have h391:=agx hg s.fQ t.fQ hs ht hsl htl;unfold aP.l at h380 ⊢;unfold jI
 repeat' with_reducible first|refine ar ?_|refine au ?_|refine .pu (h380) hg rfl ?_|refine .pu (h391) hg rfl ?_|refine ⟨?_,?_⟩|intro _|simp only [go_sem,seval,ku,Go.V.kK,od]
 exact (jI s t).nm.2.1
def acv:=(by conv=>lhs;reduce:dC [Ua,Ub] [] 0x5a60a986dd0f9d89a19e62a2c26b0c80f8eae27d4b6ca8d3309743b4cea5a6a4ae5341f3f4210ba4c9a342b=_)
abbrev akc:=rP (acv (.sl 2 [] .exact) (.int .i64 0))
def ad1:aD pg 392 19 akc [.t 6]:= .o2 Tryz.func392 (by kernel_rfl)
def agy (hg:ae gl) (a:List (Int×Int)) (n times i:Int) (ha:Ks bP a) (hal:a.length<=1000000) (h0:times≠0) (hw:IntKind.i64.wrap times=times) (h396:Pure pg gl 396 [.int .i64 n] (.ok (.int .i64 i))):Pure pg gl 392 [.sl 2 (a.map iL) .ai,.int .i64 n,.int .i64 times] (.ok (.sl 2 ((eN bP (i,times) a).map iL) .ai)):=by
 refine bw (Nm.cons (wR a) (Nm.cons (.int _ _) (Nm.cons (.int _ _) Nm.nil))) (wR _).1 (.aC ad1 (by simp) (ab 60 ?_));generalize hK:bI _ _=Q;have h1:=VS (gl:=gl) [a] .exact (by simp) (fun l hl=>by rw [Ay.1 hl];exact hal)
 repeat' with_reducible first|refine ar ?_|refine au ?_|refine ⟨?_,?_⟩|intro _|simp only [go_sem,seval]
 refine ao.mono h1 fun o S' ho=>?_;obtain ⟨rfl,N,nt,hN,rfl⟩:=ho;have h2:=foldM ha Mp.nil;have h4:=pF a [];have h5:=pF [(i,times)] (kM [] a);simp only [List.length_nil,List.length_cons] at h4 h5;have h:=fun nt=>VR hg (ff (i,times) (kM [] a)) (tM h2.1) (by show (kM (kM [] a) [(i,times)]).length<=_;omega) N nt hN;have hlk:=fun n nt=>vQ (S:=⟨n,[(0,[fH (kM [] a)])],nt,[],gl⟩) (M:=kM [] a) (l:=0) rfl i;have hin:=fun n nt=>Hh (S:=⟨n,[(0,[fH (kM [] a)])],nt,[],gl⟩) (M:=kM [] a) (l:=0) rfl i times
 repeat' with_reducible first|refine ar ?_|refine au ?_|refine .pu (h396) hg rfl ?_|refine ⟨?_,?_⟩|intro _|simp only [go_sem,seval,hlk,hin,St.cK,List.foldl_cons,List.foldl_nil]
 refine ao.mono (h _) fun o S' ho=>?_
 cases o with
 |eH v=>exact ho.elim
 |ok r=>
  repeat' with_reducible first|refine ar ?_|refine au ?_|refine ⟨?_,?_⟩|intro _|simp only [go_sem,seval]
  rw [<-hK];simp only [go_sem,seval];rw [<-OO (x:=(i,times)) ha h0 hw];exact ho
def zu (i:Int) (s:aP) (x:It):aP:=⟨IntKind.i64.wrap (s.n+x.n),0,0,[],eN bP (i,x.n) s.fQ⟩
def acs:=(by conv=>lhs;reduce:dC [Ua,Ub,Uc,Ud] [] 0x6d83b5c61bb2aedb35218c5240f21b2d03ea707b0bf6b22ff548f06ccea041f553871ad28c6f1daddc1052567d1bd4622cbc314334be4bf30380646bd3a330e696104a7980f9ab691a71075b9ec393439=_)
abbrev aka:=rP (acs (.int .i64 0) (.int .u64 0) (.sl 6 [] .exact) (.sl 2 [] .exact))
def adZ:aD pg 389 25 aka [.c 6 5 true]:= .o2 Tryz.func389 (by kernel_rfl)
def agw (hg:ae gl) (s:aP) (x:It) (i:Int) (hs:Ks bP s.fQ) (hsl:s.fQ.length<=1000000) (h0:x.n≠0) (hw:IntKind.i64.wrap x.n=x.n) (h396:Pure pg gl 396 [.int .i64 x.v.n] (.ok (.int .i64 i))):Pure pg gl 389 [.agg [],.agg s.l,x.av] (.ok (.agg (zu i s x).l)):=by
 refine bw (Hr nR s.nm x.nm) (zu i s x).nm.1 (.aC adZ (by simp) (ab 60 ?_));have h380:=qF (gl:=gl) s.n x.n;have h392:=agy hg s.fQ x.v.n x.n i hs hsl h0 hw h396;rw [It.ex];unfold aP.l at h380 ⊢;unfold zu
 repeat' with_reducible first|refine ar ?_|refine au ?_|refine .pu (h380) hg rfl ?_|refine .pu (h392) hg rfl ?_|refine ⟨?_,?_⟩|intro _|simp only [go_sem,seval,ku,Go.V.kK,od]
 exact (zu i s x).nm.2.1
def acq:=(by conv=>lhs;reduce:dC [Ua,Ub,Uc,Ud] [] 0xfb778fc9e1f65f82432fdff1655bbf30c99d5a7903300e88eeac9afef809e242682282688ef94718c05af5a1aaa7a20bbfb5cd8c9c637e3f418657ff451f8053150ee34ecd7738f95ab73ff9e5d11c379dc54285d74fc150743a=_)
abbrev ZW:=rP (acq (.int .i64 0) (.int .u64 0) (.sl 6 [] .exact) (.sl 2 [] .exact))
def Qn:aD pg 383 26 ZW [.c 6 5 true]:= .o2 Tryz.func383 (by kernel_rfl)
def zr (hi lo:Int) (s:aP) (x:It):aP:=⟨IntKind.i64.wrap (s.n+x.n),Lh s.lo lo s.hi hi,p8 s.lo lo,[],[]⟩
def agu (hg:ae gl) (s:aP) (x:It) (hi lo:Int) (hs:s.Ok) (hlo:0<=lo/\lo<18446744073709551616) (h279:Pure pg gl 279 [.int .i64 x.v.n,.int .i64 x.n] (.ok (.agg [.int .i64 hi,.int .u64 lo]))):Pure pg gl 383 [.agg [],.agg s.l,x.av] (.ok (.agg (zr hi lo s x).l)):=by
 refine bw (Hr nR s.nm x.nm) (zr hi lo s x).nm.1 (.aC Qn (by simp) (ab 60 ?_));have h380:=qF (gl:=gl) s.n x.n;have h277:=NF (gl:=gl) hg s.lo lo s.hi hi hs hlo;have hfin:=(zr hi lo s x).nm.2.1;rw [It.ex];unfold aP.l at h380 ⊢;unfold zr at hfin ⊢;generalize hK:bI _ _=Q
 repeat' with_reducible first|refine ar ?_|refine au ?_|refine .pu (h380) hg rfl ?_|refine .pu (h279) hg rfl ?_|refine .pu (h277) hg rfl ?_|refine ⟨?_,?_⟩|intro _|simp only [go_sem,seval,ku,Go.V.kK,od]
 ·rw [<-hK];simp only [aM]
 rw [<-hK];simp only [go_sem,seval];exact hfin
def abY:=(by conv=>lhs;reduce:dC [Ua,Ub,Uc] [] 0x6b6ecd09869524a3df594198b8e5f1815a6411d2e57df00a63d77077c25bbadf89c84cf74f18600dc21b689410dd7ad16cee09d8b3b23745cd438=_)
abbrev Yy:=rP (abY (.bool false) (.int .i64 0) (.int .u64 0))
def P8:aD pg 143 24 Yy [.t 2]:= .o2 Tryz.func143 (by kernel_rfl)
def af3 (s:aP) (hs:s.n≠0):Pure pg gl 143 [.agg s.l] (.ok (.bool false)):=by
 have h0:(s.n==0)=false:=by simpa using hs
 refine bw (Nm.cons s.nm Nm.nil) (.bool false) (.aC P8 (by simp) (ab 60 ?_));unfold aP.l
 repeat' with_reducible first|refine ar ?_|refine au ?_|refine ⟨?_,?_⟩|intro _|simp only [go_sem,seval,h0]
 exact rfl
def CM {s:aP} (h:s.lo=0):s.Ok:=by
 unfold aP.Ok;omega
structure gU (f:cN) (s:aP):Prop where
 lo:s.Ok
 ja:f= .ja->Ks bP s.fQ
 gr:f= .gr false->Kp s.cJ
def cN.J:cN->aP->aP->aP
 | .bl=>kx
 | .add=>kv
 | .ja=>jI
 | .gr true=>ky
 | .gr false=>kB
def vM {κ:Type} [DecidableEq κ] (cm:κ->κ->Int) (x:κ×Int):∀ l:List (κ×Int),(eN cm x l).length<=l.length+1
 |[]=>Af _
 |y::r=>by
  have:=vM cm x r;unfold eN;split
  ·split
   ·simp only [List.length_cons];omega
   ·simp only [List.length_cons];omega
  ·split
   ·simp
   ·simp only [List.length_cons];omega
def zV {κ:Type} [DecidableEq κ] (cm:κ->κ->Int):∀ (b a:List (κ×Int)),(b.foldl (fun l x=>eN cm x l) a).length<=a.length+b.length
 |[],a=>Af _
 |x::b,a=>by
  have h1:=zV cm b (eN cm x a);have h2:=vM cm x a;simp only [List.foldl_cons,List.length_cons];omega
def zU:∀ (b a:List It),(b.foldl iC a).length<=a.length+b.length
 |[],a=>Af _
 |x::b,a=>by
  have h1:=zU b (iC a x);have h2:=Ny a x;simp only [List.foldl_cons,List.length_cons];omega
def cN.sz (f:cN) (s t:aP):sz (f.J s t)<=sz s+sz t:=by
 unfold Go.Proofs.YtoopnalhhfmgaaaGreatDoor.sz
 match f with
 | .bl=>simp [cN.J,kx]
 | .add=>simp [cN.J,kv]
 | .ja=>
  have:=zV bP t.fQ s.fQ;simp only [cN.J,jI,List.length_nil];omega
 | .gr true=>simp only [cN.J,ky,Ak,List.length_nil];omega
 | .gr false=>
  have:=zU t.cJ s.cJ;simp only [cN.J,kB,List.length_nil];omega
def cN.iv (f:cN) (s t:aP) (hs:gU f s) (ht:gU f t):gU f (f.J s t):=by
 match f with
 | .bl=>exact ⟨CM rfl,fun h=>(by cases h),fun h=>(by cases h)⟩
 | .add=>exact ⟨Ol s t,fun h=>(by cases h),fun h=>(by cases h)⟩
 | .ja=>exact ⟨CM rfl,fun _=>Om (hs.ja rfl) (ht.ja rfl),fun h=>(by cases h)⟩
 | .gr true=>exact ⟨CM rfl,fun h=>(by cases h),fun h=>(by cases h)⟩
 | .gr false=>exact ⟨CM rfl,fun h=>(by cases h),fun _=>On (hs.gr rfl) (ht.gr rfl)⟩
def cN.assoc (f:cN) (a b c:aP) (ha:gU f a) (hb:gU f b) (hc:gU f c):f.J (f.J a b) c=f.J a (f.J b c):=by
 match f with
 | .bl=>exact u5 a b c
 | .add=>exact Gg a b c
 | .ja=>exact Gj (ha.ja rfl) (hb.ja rfl) (hc.ja rfl)
 | .gr true=>exact Gi a b c
 | .gr false=>exact Gk (ha.gr rfl) (hb.gr rfl) (hc.gr rfl)
def cN.jn (hg:ae gl) (op:List UInt8) (f:cN) (hf:iN op=some f):Jn gl op (gU f) f.J:=by
 refine ⟨fun s t hs ht hn=>c33 hg op f hf s t _ ?_,f.iv,f.sz⟩;unfold Go.Proofs.YtoopnalhhfmgaaaGreatDoor.sz at hn
 match f with
 | .bl=>exact agr hg s t
 | .add=>exact agt hg s t hs.lo ht.lo
 | .ja=>exact agv hg s t (hs.ja rfl) (ht.ja rfl) (by omega) (by omega)
 | .gr true=>exact VU hg s t (by omega) (by omega)
 | .gr false=>exact VT hg s t (by omega)
def cN.put (hg:ae gl) (op:List UInt8) (f:cN) (hf:iN op=some f) (s:aP) (x:It) (hs:gU f s) (hx:x.n=1) (hn:Go.Proofs.YtoopnalhhfmgaaaGreatDoor.sz s<=1000000)
  (h396:∃ i,Pure pg gl 396 [.int .i64 x.v.n] (.ok (.int .i64 i))) (h279:∃ hi lo,0<=lo/\lo<18446744073709551616/\Pure pg gl 279 [.int .i64 x.v.n,.int .i64 1] (.ok (.agg [.int .i64 hi,.int .u64 lo]))):
  ∃ u,Pure pg gl 142 [.str op,.agg s.l,x.av] (.ok (.agg u.l))/\gU f u/\Go.Proofs.YtoopnalhhfmgaaaGreatDoor.sz u<=Go.Proofs.YtoopnalhhfmgaaaGreatDoor.sz s+1/\u.n=IntKind.i64.wrap (s.n+1):=by
 have hx0:(x.n==0)=false:=by rw [hx];rfl
 have hw:IntKind.i64.wrap x.n=x.n:=by rw [hx];rfl
 have hx1:x.n≠0:=by rw [hx];decide
 unfold Go.Proofs.YtoopnalhhfmgaaaGreatDoor.sz at hn ⊢
 match f with
 | .bl=>exact ⟨_,IB hg op .bl hf s _ x hx0 (ags hg s x),⟨CM rfl,fun h=>(by cases h),fun h=>(by cases h)⟩,by simp,by rw [<-hx]⟩
 | .add=>
  obtain ⟨hi,lo,l1,l2,h⟩:=h279;exact ⟨zr hi lo s x,IB hg op .add hf s _ x hx0 (agu hg s x hi lo hs.lo ⟨l1,l2⟩ (by rw [hx];exact h)),⟨by show 0<=p8 s.lo lo/\p8 s.lo lo<_;unfold p8;omega,fun h=>(by cases h),fun h=>(by cases h)⟩,by simp [zr],by rw [<-hx];rfl⟩
 | .ja=>
  obtain ⟨i,h⟩:=h396;refine ⟨zu i s x,IB hg op .ja hf s _ x hx0 (agw hg s x i (hs.ja rfl) (by omega) hx1 hw h),⟨CM rfl,fun _=>lf ir hx1 hw (hs.ja rfl),fun h=>(by cases h)⟩,?_,by rw [<-hx];rfl⟩;have:=vM bP (i,x.n) s.fQ;simp only [zu,List.length_nil];omega
 | .gr b=>
  refine ⟨zt b s x,IB hg op (.gr b) hf s _ x hx0 (agB hg b s x (by omega)),⟨CM rfl,fun h=>(by cases h),fun h=>?_⟩,?_,by rw [<-hx];rfl⟩
  ·obtain rfl:b=false:=by injection h
   have hk:=hs.gr rfl;exact ⟨Hi x hk.p,by show Ks jK ((eM false x s.cJ).map j5);rw [EG x hk.k];exact lf pM hx1 hw hk.k⟩
  ·have:=vK b x s.cJ;simp only [zt,List.length_nil];omega
structure Pk where
 key:Bytes
 src:Bytes
 seq:Int
 event:Int
 v:bX
 tick:Int
 n:Int
def Pk.l (p:Pk):List AV:=[.str p.key,.str p.src,.int .i64 p.seq,.int .i64 p.event,.int .i64 p.v.kd,.int .i64 p.v.n,.str p.v.s,.int .i64 p.tick,.int .i64 p.n]
def Pk.av (p:Pk):AV:= .agg p.l
def Pk.it (p:Pk):It:=⟨p.v,p.src,p.seq,p.n⟩
def Pk.ex (p:Pk):p.av= .agg [.str p.key,.str p.src,.int .i64 p.seq,.int .i64 p.event,.int .i64 p.v.kd,.int .i64 p.v.n,.str p.v.s,.int .i64 p.tick,.int .i64 p.n]:=rfl
def Pk.nm (p:Pk):Nm p.av:= .agg (Nm.cons (.str _) (Nm.cons (.str _) (Nm.cons (.int _ _) (Nm.cons (.int _ _) (Nm.cons (.int _ _) (Nm.cons (.int _ _) (Nm.cons (.str _) (Nm.cons (.int _ _) (Nm.cons (.int _ _) Nm.nil)))))))))
def QO (ps:List Pk):∀ v∈ps.map Pk.av,Nm v:=fun v hv=>by
 obtain ⟨p,_,rfl⟩:=Ai.1 hv;exact p.nm
def n101:MC:=
 .seq (.iG [mc 0 2 (.sl 9 [] .exact)] [0])
 (.seq (.seq (.iG [mv 0 3 0,
   oo 1 4 (.nn 136 false (.t 3))] [0,4])
 (.cond (.t 4)
  (.seq (.iG [mc 0 2 (.sl 9 [] .exact)] [2])
  (.ret))
  (.skip)))
 (.seq (.iG [oo 0 5 (.rj 9 [.str [],.str [],.int .i64 0,.int .i64 0,.int .i64 0,.int .i64 0,.str [],.int .i64 0,.int .i64 0] []),
   mv 1 6 0,
   oo 2 7 (.app 9 96 (.t 5) (.t 6)),
   mv 3 2 7] [2])
 (.ret)))
def ac6:aD pg 101 8 n101 [.t 2]:= .of Tryz.call101 Tryz.func101 (by kernel_rfl)
def t101 (x:Pk) (xs:List Pk) (hn:xs.length<=1000000) (N nt:Nat) (ob:List (Nat×List AV)) (lv:List Nat):ao pg 101 [.sl 9 ((x::xs).map Pk.av) .ai] ⟨N,ob,nt,lv,gl⟩ fun o S'=>o= .ok (.sl 9 ((x::xs).map Pk.av) (.tok nt))/\S'=⟨N,ob,nt+1,nt::lv,gl⟩:=by
 refine .aC ac6 (by simp) (ab 60 ?_);unfold n101;generalize hX:(x::xs).map Pk.av=X;have hXl:X.length=xs.length+1:=by rw [<-hX];simp
 obtain ⟨y,Y,rfl⟩:∃ y Y,X=y::Y:=⟨_,_,by rw [<-hX];rfl⟩;simp only [List.length_cons] at hXl
 repeat' with_reducible first|refine ar ?_|refine au ?_|refine ⟨?_,?_⟩|intro _|simp only [go_sem,seval,vX,fJ,fK,appArg,bO,gw,jU]
 ·omega
 ·omega
def abO:=(by conv=>lhs;reduce:dC [Ua,Ub] [] 0x92bc6d97ba9cf2ca28d06e2871ad034332cbef91111d1af97c1f600de7ba10b41f=_)
abbrev XW:=rP (abO (.bool false) (.bool true))
def P4:aD pg 102 15 XW [.t 4]:= .o2 Tryz.func102 (by kernel_rfl)
def VE (hg:ae gl) (p:Pk) (key:Bytes) (tick:Int) (kb tb N nt:Nat) (ob:List (Nat×List AV)) (lv:List Nat) (hf:bJ N ob) (h1:List.lookup kb ob=some [.str key]) (h2:List.lookup tb ob=some [.int .i64 tick]) (hk:p.key=key) (ht:p.tick<=tick):
  ao pg 102 [p.av,.ptr kb 0,.ptr tb 0] ⟨N,ob,nt,lv,gl⟩ (eJ (fun o=>o= .ok (.bool false)) ⟨N,ob,nt,lv,gl⟩):=by
 have hkN:(kb=N)=False:=eq_false (hf.ne h1);have htN:(tb=N)=False:=eq_false (hf.ne h2);have hgk:∀ M,St.get ⟨M,ob,nt,lv,gl⟩ kb=some [.str key]:=fun _=>h1;have hgt:∀ M,St.get ⟨M,ob,nt,lv,gl⟩ tb=some [.int .i64 tick]:=fun _=>h2;have hkk:(p.key==key)=true:=by rw [hk];simp
 have hkn:(!true)=false:=rfl;have htt:decide (p.tick>tick)=false:=decide_eq_false (by omega);have htt':decide (tick<p.tick)=false:=decide_eq_false (by omega);refine gu (.aC P4 (by simp) ?_);generalize hK:bI [RV.t 4] _=Q;rw [Pk.ex];refine ab 60 ?_
 repeat' with_reducible first|refine ar ?_|refine au ?_|refine ⟨?_,?_⟩|intro _|simp only [go_sem,seval,hgk,hgt,hkN,htN,hkk,hkn,htt,htt']
 all_goals first
  |(rw [<-hK];simp only [aM];done)
  |skip
 rw [<-hK];simp only [go_sem,seval];refine ⟨by omega,fun l cs h=>?_,fun t h=>h⟩;rw [aw (hf.ne h)];exact h
def R8:=(by conv=>lhs;reduce:dC [Ua] [] 0x824ef974830ac451127990678d099140f82cc21669e4b88bbb82ab395e13a6d4e3228f1bba8d01baca1a760f42b=_)
def EY:=rO (R8 (.int .i64 1))
def R7:=(by conv=>lhs;reduce:dC [Ua] [] 0x187970b45=_)
abbrev YA:=rP (R7 (.int .i64 (-1)))
def ab0:=(by conv=>lhs;reduce:dC [Ua] [Ya,Yb] 0x124712cd191c659fc672abc74b09c1c4b419=_)
abbrev Yz:=rP (ab0 (.int .i64 0) EY YA)
def Qa:aD pg 145 19 Yz [.t 4]:= .o2 Tryz.func145 (by kernel_rfl)
def af5 (caps:List AV) (ps:List Pk) (t:bE) (N nt:Nat) (ob:List (Nat×List AV)) (lv:List Nat) (hn:ps.length<4294967296)
  (hp:∀ N' nt',N<=N'->∀ x∈ps,ao pg 102 (x.av::caps) ⟨N',ob,nt',lv,gl⟩ (eJ (fun o=>o= .ok (.bool false)) ⟨N',ob,nt',lv,gl⟩)):
  ao pg 145 [.sl 9 (ps.map Pk.av) t,.fn (.func 102) [] caps] ⟨N,ob,nt,lv,gl⟩ (eJ (fun o=>o= .ok (.int .i64 (-1))) ⟨N,ob,nt,lv,gl⟩):=by
 refine .aC Qa (by simp) (ab 60 ?_);generalize hK:bI [RV.t 4] _=Q
 repeat' with_reducible first|refine ar ?_|refine au ?_|refine ⟨?_,?_⟩|intro _|simp only [go_sem,seval]
 refine .dD ps.length (fun i F S=>F=[(0,.sl 9 (ps.map Pk.av) t),(1,.fn (.func 102) [] caps),(7,.int .i64 (ps.length:Int)),(8,.int .i64 (i:Int))]/\(∃ N' nt',N<=N'/\S=⟨N',ob,nt',lv,gl⟩)) ⟨rfl,⟨N,nt,Af _,rfl⟩⟩ ?_;rintro i F S hi ⟨rfl,⟨N',nt',hN,rfl⟩⟩ ih
 by_cases h:i<ps.length
 ·obtain ⟨x,hx⟩:=aK h;have hxm:(ps.map Pk.av)[i]? =some (.agg x.l):=by rw [Ap,hx];rfl
  have hx9:(9<=x.l.length)=True:=eq_true (Af 9);have hxt:List.take 9 x.l=x.l:=rfl;have hcall:ao pg 102 (.agg x.l::caps) _ _:=hp N' nt' hN x (Aj hx);refine bp EY.eq_1 ?_
  repeat' first
   |with_reducible first|refine ar ?_|refine au ?_|refine bS (hcall) fun _ _ _=>?_|refine cw (hcall) (fun _ _ _=>by first|exact (fun h=>(by cases h))|(first|exact of_eq_true bh|simp only [cT,cA,eS,bh,and_self])) fun _ _ _=>?_|refine ⟨?_,?_⟩|intro _
   |simp only [go_sem,seval,hxm,hx9,hxt,fk h,eD h,Ad,ba (show i<9223372036854775807 by omega)]
  rename_i N2 nt2 hN2;exact ih h _ _ ⟨rfl,⟨N2,nt2,by omega,rfl⟩⟩
 ·refine bp EY.eq_1 ?_
  repeat' first
   |with_reducible first|refine ar ?_|refine au ?_|refine ⟨?_,?_⟩|intro _
   |simp only [go_sem,seval,fE (Am h),Ad]
  rw [<-hK];simp only [go_sem,seval];exact ⟨rfl,_,_,hN,rfl⟩
def Ry:=(by conv=>lhs;reduce:dC [Ua] [] 0x6f074ab9cff0329f6d2e=_)
abbrev XS:=rP (Ry (.int .i64 1))
def RA:=(by conv=>lhs;reduce:dC [Ua,Ub,Uc] [Ya] 0x1d78a4a8a9b8733ada3435395522c812d9ce267d74adfc1db4af1bf01dfb27bec6434688dacb4649a01e05d250d5c65e663f9b50bcad5634ef55f6d5a7c4679e0d2dc522eed80f62d04c=_)
def XU:=rO (RA (.str []) (.int .i64 0) (.int .i64 1) XS)
def Rz:=(by conv=>lhs;reduce:dC [Ua,Ub] [] 0xc3f71e473ff22fb4acf4d32f79faa380b8f2ee0faec58f447ddb14bb45a=_)
abbrev XT:=rP (Rz (.str []) (.int .i64 0))
def abM:=(by conv=>lhs;reduce:dC [Ua,Ub,Uc] [Ya,Yb] 0xd3e41468854cf5c31037a74b247e8216f61ca7ce355ad63e64b86ac6f7cf967a0782ddbb18b1157b428=_)
abbrev XR:=rP (abM (.sl 9 [] .exact) (.int .i64 (-1)) (.int .i64 1) XU XT)
def P3:aD pg 100 42 XR [.t 4]:= .o2 Tryz.func100 (by kernel_rfl)
def VD (caps:List AV) (ps:List Pk) (t:bE) (N nt:Nat) (ob:List (Nat×List AV)) (lv:List Nat) (hn:ps.length<4294967296)
  (hp:∀ N' nt',N<=N'->∀ x∈ps,ao pg 102 (x.av::caps) ⟨N',ob,nt',lv,gl⟩ (eJ (fun o=>o= .ok (.bool false)) ⟨N',ob,nt',lv,gl⟩)):
  ao pg 100 [.sl 9 (ps.map Pk.av) t,.fn (.func 102) [] caps] ⟨N,ob,nt,lv,gl⟩ (eJ (fun o=>o= .ok (.sl 9 (ps.map Pk.av) t)) ⟨N,ob,nt,lv,gl⟩):=by
 refine .aC P3 (by simp) (ab 60 ?_);generalize hK:bI [RV.t 4] _=Q;have h145:=af5 (gl:=gl) caps ps t N nt ob lv hn hp
 repeat' with_reducible first|refine ar ?_|refine au ?_|refine bS (h145) fun _ _ _=>?_|refine cw (h145) (fun _ _ _=>by first|exact (fun h=>(by cases h))|(first|exact of_eq_true bh|simp only [cT,cA,eS,bh,and_self])) fun _ _ _=>?_|refine ⟨?_,?_⟩|intro _|simp only [go_sem,seval]
 rename_i N2 nt2 hN2;rw [<-hK];simp only [go_sem,seval];exact ⟨rfl,_,_,hN2,rfl⟩
def s0:aP:=⟨0,0,0,[],[]⟩
def ik (P:aP->It->aP) (C:List Ce) (p:Pk):List Ce:=
 if o6 p.event (aW C)=true then C.take (eF p.event (aW C))++(p.event,P (C.getD (eF p.event (aW C)) (0,s0)).2 p.it)::C.drop (eF p.event (aW C)+1)
 else C.take (eF p.event (aW C))++(p.event,P s0 p.it)::C.drop (eF p.event (aW C))
def Nk (gl:List (Nat×List AV)) (n:Int):Prop:=(∃ i,Pure pg gl 396 [.int .i64 n] (.ok (.int .i64 i)))/\∃ hi lo,0<=lo/\lo<18446744073709551616/\Pure pg gl 279 [.int .i64 n,.int .i64 1] (.ok (.agg [.int .i64 hi,.int .u64 lo]))
structure wC (gl:List (Nat×List AV)) (op:List UInt8) (f:cN) (P:aP->It->aP):Prop where
 call:∀ s x,gU f s->x.n=1->sz s<=1000000->Nk gl x.v.n->Pure pg gl 142 [.str op,.agg s.l,x.av] (.ok (.agg (P s x).l))
 iv:∀ s x,gU f s->x.n=1->sz s<=1000000->Nk gl x.v.n->gU f (P s x)
 size:∀ s x,gU f s->x.n=1->sz s<=1000000->Nk gl x.v.n->sz (P s x)<=sz s+1
 n:∀ s x,gU f s->x.n=1->sz s<=1000000->Nk gl x.v.n->(P s x).n=IntKind.i64.wrap (s.n+1)
def MG (hg:ae gl) (op:List UInt8) (f:cN) (hf:iN op=some f):∃ P,wC gl op f P:=by
 have h:∀ (s:aP) (x:It),∃ u,gU f s->x.n=1->sz s<=1000000->Nk gl x.v.n->Pure pg gl 142 [.str op,.agg s.l,x.av] (.ok (.agg u.l))/\gU f u/\sz u<=sz s+1/\u.n=IntKind.i64.wrap (s.n+1):=fun s x=>by
  by_cases hh:gU f s/\x.n=1/\sz s<=1000000/\Nk gl x.v.n
  ·obtain ⟨h1,h2,h3,h4,h5⟩:=hh;obtain ⟨u,hu⟩:=cN.put hg op f hf s x h1 h2 h3 h4 h5;exact ⟨u,fun _ _ _ _=>hu⟩
  ·exact ⟨s,fun a b c d=>absurd ⟨a,b,c,d⟩ hh⟩
 refine ⟨fun s x=>(h s x).choose,⟨fun s x a b c d=>((h s x).choose_spec a b c d).1,fun s x a b c d=>((h s x).choose_spec a b c d).2.1,fun s x a b c d=>((h s x).choose_spec a b c d).2.2.1,fun s x a b c d=>((h s x).choose_spec a b c d).2.2.2⟩⟩
def qn {σ:Type}:∀ {C:List (Int×σ)},fW C↔C.Pairwise fun a b=>a.1<b.1
 |[]=>⟨fun _=> .nil,fun _=>trivial⟩
 |[c]=>⟨fun _=>List.pairwise_singleton ..,fun _=>trivial⟩
 |c::d::r=>by
  have ih:=qn (C:=d::r);constructor
  ·intro h;refine AQ.2 ⟨fun x hx=>?_,ih.1 h.2⟩;obtain ⟨i,hi⟩:=Bo hx;exact fW.lt h hi
  ·intro h;have:=AQ.1 h;exact ⟨this.1 d (by simp),ih.2 this.2⟩
def HK {C:List Ce}:fW (aW C)↔fW C:=by
 rw [qn,qn];unfold aW;rw [List.pairwise_map]
structure CK (f:cN) (k:Nat) (C:List Ce):Prop where
 jo:fW C
 ev:∀ c∈C,0<=c.1/\c.1<=1099511627776
 iv:∀ c∈C,gU f c.2
 n:∀ c∈C,1<=c.2.n/\c.2.n<=k
 sz:eI C<=k
 len:C.length<=k
def CK.nil (f:cN):CK f 0 []:=⟨trivial,fun _ h=>(by cases h),fun _ h=>(by cases h),fun _ h=>(by cases h),Af _,Af _⟩
def ni (A B:List Ce):eI (A++B)=eI A+eI B:=by simp [eI]
def EN (f:cN):gU f s0:=⟨CM rfl,fun _=>Ks.nil _,fun _=>⟨fun _ h=>(by cases h),Ks.nil _⟩⟩
def jd (C:List Ce) (i:Nat):(aW C)[i]? =(C[i]?).map fun c=>(c.1,c.2.l):=Ap ..
def CO {C:List Ce} (h:fW C) (e:Int):eF e (aW C)<=C.length/\(∀ a∈C.take (eF e (aW C)),a.1<e)/\(∀ b∈C.drop (eF e (aW C)),e<=b.1):=by
 have hs:=HK.2 h;have hl:(aW C).length=C.length:=Ad ..;have hle:=zp e (aW C);refine ⟨by omega,fun a ha=>?_,fun b hb=>?_⟩
 ·obtain ⟨i,hi⟩:=Bo ha;rw [Bh] at hi;split at hi
  ·rename_i hlt;exact (uw (e:=e) hs (i:=i) (c:=(a.1,a.2.l)) (by rw [jd,hi];rfl)).2 hlt
  ·cases hi
 ·obtain ⟨i,hi⟩:=Bo hb;rw [AO] at hi;have:=(uw (e:=e) hs (i:=eF e (aW C)+i) (c:=(b.1,b.2.l)) (by rw [jd,hi];rfl)).1;refine By.1 fun h1=>?_;have:=this h1;omega
def MF {f:cN} {k:Nat} {A B:List Ce} {e:Int} {u s:aP} (hp:(A++B).Pairwise fun a b=>a.1<b.1) (hA:∀ a∈A,a.1<e) (hB:∀ b∈B,e<b.1) (he:0<=e/\e<=1099511627776)
  (h1:∀ c∈A++B,(0<=c.1/\c.1<=1099511627776)/\gU f c.2/\1<=c.2.n/\c.2.n<=(k+1:Nat)) (hu:gU f u) (hn:1<=u.n/\u.n<=(k+1:Nat)) (hs:eI (A++B)+Go.Proofs.YtoopnalhhfmgaaaGreatDoor.sz u<=k+1) (hl:(A++B).length+1<=k+1):CK f (k+1) (A++(e,u)::B):=by
 have hm:∀ c∈A++(e,u)::B,c=(e,u)∨c∈A++B:=fun c hc=>by
  rcases AA.1 hc with h|h
  ·exact .inr (AW _ h)
  ·rcases Ab.1 h with h|h
   ·exact .inl h
   ·exact .inr (A9 _ h)
 obtain ⟨p1,p2,p3⟩:=Cj.1 hp;refine ⟨qn.2 (Cj.2 ⟨p1,AQ.2 ⟨hB,p2⟩,fun a ha b hb=>?_⟩),fun c hc=>?_,fun c hc=>?_,fun c hc=>?_,?_,?_⟩
 ·rcases Ab.1 hb with rfl|hb
  ·exact hA a ha
  ·exact p3 a ha b hb
 ·rcases hm c hc with rfl|h
  ·exact he
  ·exact (h1 c h).1
 ·rcases hm c hc with rfl|h
  ·exact hu
  ·exact (h1 c h).2.1
 ·rcases hm c hc with rfl|h
  ·exact hn
  ·exact (h1 c h).2.2
 ·rw [ni,ij];rw [ni] at hs;show eI A+(Go.Proofs.YtoopnalhhfmgaaaGreatDoor.sz u+eI B)<=_;omega
 ·simp only [Ak,List.length_cons] at hl ⊢;omega
def zT {C:List Ce} {e:Int} (h:o6 e (aW C)=true):∃ s,C[eF e (aW C)]? =some (e,s):=by
 unfold o6 at h;split at h
 ·rename_i c hc;rw [jd] at hc
  cases hx:C[eF e (aW C)]? with
  |none=>rw [hx] at hc;cases hc
  |some x=>
   rw [hx] at hc;injection hc with hc
   subst hc;have h:x.1=e:=by simpa using h
   refine ⟨x.2,?_⟩;obtain ⟨a,b⟩:=x;obtain rfl:a=e:=h;rfl
 ·cases h
def JC {C:List Ce} {e:Int} {c:Ce} (h:o6 e (aW C)=false) (hc:C[eF e (aW C)]? =some c):c.1≠e:=by
 unfold o6 at h
 have:(aW C)[eF e (aW C)]? =some (c.1,c.2.l):=by
  rw [jd,hc];rfl
 rw [this] at h;simpa using h
def H5 {op:List UInt8} {f:cN} {P:aP->It->aP} (hP:wC gl op f P) {k:Nat} {C:List Ce} (h:CK f k C) {p:Pk} (hp:p.n=1) (he:0<=p.event/\p.event<=1099511627776) (hv:Nk gl p.v.n) (hk:k<=1000000):CK f (k+1) (ik P C p):=by
 obtain ⟨q1,q2,q3⟩:=CO h.jo p.event;have hpw:=qn.1 h.jo;have hbase:∀ c∈C,(0<=c.1/\c.1<=1099511627776)/\gU f c.2/\1<=c.2.n/\c.2.n<=((k+1:Nat):Int):=fun c hc=>⟨h.ev c hc,h.iv c hc,(h.n c hc).1,by have:=(h.n c hc).2;omega⟩;unfold ik;generalize hpos:eF p.event (aW C)=i at*;split
 ·rename_i hf;obtain ⟨s,hs⟩:=zT hf;rw [hpos] at hs;have hg:(C.getD i (0,Go.Proofs.YtoopnalhhfmgaaaGreatDoor.s0)).2=s:=by rw [AU,hs];rfl
  rw [hg];have hm:=Aj hs;have hd:=bY hs;have hC:C=C.take i++(p.event,s)::C.drop (i+1):=by rw [<-hd,A1]
  have hsz:eI C=eI (C.take i++C.drop (i+1))+Go.Proofs.YtoopnalhhfmgaaaGreatDoor.sz s:=by
   conv=>lhs;rw [hC]
   rw [ni,ni,ij];show _+(Go.Proofs.YtoopnalhhfmgaaaGreatDoor.sz s+_)=_;omega
  have hlen:C.length=(C.take i++C.drop (i+1)).length+1:=by
   conv=>lhs;rw [hC]
   simp only [Ak,List.length_cons];omega
  have h3:=h.sz;have h4:=h.len;have hsn:=h.n _ hm
  have hsub:(C.take i++C.drop (i+1)).Sublist C:=by
   conv=>rhs;rw [hC]
   exact List.Sublist.append (List.Sublist.refl _) (List.sublist_cons_self ..)
  have a1:=hP.iv s p.it (h.iv _ hm) hp (by omega) hv;have a2:=hP.size s p.it (h.iv _ hm) hp (by omega) hv;have a3:=hP.n s p.it (h.iv _ hm) hp (by omega) hv
  have a4:(P s p.it).n=s.n+1:=by
   rw [a3,IntKind.wrap_i64];show (s.n+1+9223372036854775808)%18446744073709551616-9223372036854775808=_;have h5:1<=s.n/\s.n<=k:=hsn;omega
  refine MF (s:=s) (hpw.sublist hsub) q2 (fun b hb=>?_) he (fun c hc=>hbase c (hsub.subset hc)) a1 ?_ (by omega) (by omega)
  ·rw [hC] at hpw;have:=(Cj.1 hpw).2.1;exact (AQ.1 this).1 b hb
  ·have h5:1<=s.n/\s.n<=k:=hsn;omega
 ·rename_i hf;have hf:o6 p.event (aW C)=false:=by simpa using hf
  have a1:=hP.iv Go.Proofs.YtoopnalhhfmgaaaGreatDoor.s0 p.it (EN f) hp (Au _) hv;have a2:=hP.size Go.Proofs.YtoopnalhhfmgaaaGreatDoor.s0 p.it (EN f) hp (Au _) hv;have a3:(P Go.Proofs.YtoopnalhhfmgaaaGreatDoor.s0 p.it).n=1:=hP.n Go.Proofs.YtoopnalhhfmgaaaGreatDoor.s0 p.it (EN f) hp (Au _) hv;have h3:=h.sz;have h4:=h.len;have hz:Go.Proofs.YtoopnalhhfmgaaaGreatDoor.sz Go.Proofs.YtoopnalhhfmgaaaGreatDoor.s0=0:=rfl;refine MF (s:=Go.Proofs.YtoopnalhhfmgaaaGreatDoor.s0) (by rw [A1];exact hpw) q2 (fun b hb=>?_) he (fun c hc=>hbase c (by rw [A1] at hc;exact hc)) a1 (by omega) (by rw [A1];omega) (by rw [A1];omega);have h5:=q3 b hb;obtain ⟨j,hj⟩:=Bo hb;rw [AO] at hj;rcases Bq j with rfl|hj0
  ·have:=JC hf (c:=b) (by rw [hpos];exact hj);omega
  ·obtain ⟨c,hc⟩:∃ c,C[i]? =some c:=aK (by
    rcases Al (i+j) C.length with h'|h'
    ·omega
    ·rw [As h'] at hj;cases hj)
   have h6:=bY hc;rw [<-A1 i C,h6] at hpw
   have h7:=(AQ.1 (Cj.1 hpw).2.1).1 b (by
    refine Aj (i:=j-1) ?_;rw [AO,show i+1+(j-1)=i+j by omega]
    exact hj)
   have h8:=q3 c (by rw [h6];exact A3);omega
def VI (e:Int) (N nt:Nat) (ob:List (Nat×List AV)) (lv:List Nat):ao pg 139 [.sl 6 [] .exact,.int .i64 e,.fn (.func 140) [] []] ⟨N,ob,nt,lv,gl⟩ fun o S'=>o= .ok (.aF [.int .i64 0,.bool false])/\S'=⟨N,ob,nt,lv,gl⟩:=by
 refine .aC IZ (by simp) (ab 200 ?_);generalize hK:bI _ _=Q
 repeat' with_reducible first|refine ar ?_|refine au ?_|refine ah.ek (ab 60 (bM qa.eq_1 ?_))|refine ah.inLoop (ab 60 (bM qa.eq_1 ?_))|refine ⟨?_,?_⟩|intro _|simp only [go_sem,seval,z0,z4]
 all_goals first
  |(rw [<-hK];simp only [aM];done)
  |skip
 rw [<-hK];simp only [go_sem,seval]
def VK (vl N nt:Nat) (vc:List AV) (ob:List (Nat×List AV)) (lv:List Nat) (hv:List.lookup vl ob=some vc) (b2:aE vc=false) (hvc:vc.length=6) (hvN:vl<N):
  ao pg 144 [.sl 6 [] .exact,.int .i64 0,.aN 6 1 vl 0] ⟨N,ob,nt,lv,gl⟩ (fun o S'=>o= .ok (.aN 6 1 N 0)/\S'=⟨N+1,(N,vc)::ob,nt,lv,gl⟩):=by
 have hgv:∀ M,St.get ⟨M,ob,nt,lv,gl⟩ vl=some vc:=fun _=>hv;have htk:List.take 6 vc=vc:=AR (by omega);refine .aC P9 (by simp) (ab 200 ?_)
 repeat' with_reducible first|refine ar ?_|refine au ?_|refine ⟨?_,?_⟩|intro _|simp only [go_sem,seval,gb,fP,cS,cG,eG,eR,gk,gD,cq,bO,bH,eg,hgv,b2,hvc,htk,z0,z1,z2,z3,iX,fJ,fK,appArg]
def Lp {cs:List AV} (h:aE cs=true):∃ c,cs=[c]:=by
 match cs,h with
 |[],h=>cases h
 |[c],_=>exact ⟨c,rfl⟩
 |_::_::_,h=>rw [fS] at h;cases h
def CH {n N nt:Nat} {kk:List MI} {D:ep} {F:Fr} {Q:er} {ob:List (Nat×List AV)} {lv:List Nat} (h:bJ N ob->ah pg n kk D F ⟨N,ob,nt,lv,gl⟩ Q):ah pg n kk D F ⟨N,ob,nt,lv,gl⟩ Q:=by
 intro wb G w a b cs todo hb hf hR;refine h (fun l hl=>?_) wb G w a b cs todo hb hf hR
 cases e:List.lookup l ob with
 |none=>rfl
 |some c=>
  obtain ⟨r,hr⟩:∃ r,G.σ l=some r:=by
   cases hbl:aE c with
   |false=>
    obtain ⟨r,hr,_⟩:=hR.st.obj l c e hbl;exact ⟨r,hr⟩
   |true=>
    obtain ⟨x,rfl⟩:=Lp hbl;obtain ⟨r,hr,_⟩:=hR.st.bu l x e hbl;exact ⟨r,hr⟩
  have:=(hR.st.bT l r hr).1;exact absurd (show l<N from this) (by omega)
def PE (mv:AV) (C:List Ce) (N:Nat) (ob:List (Nat×List AV)):Prop:=(C=[]/\mv= .sl 6 [] .exact)∨∃ l cs,mv= .aN 6 C.length l 0/\List.lookup l ob=some cs/\l<N/\aE cs=false/\Row cs (dh (aW C))
def z5:List AV:=[.int .i64 0,.int .i64 0,.int .u64 0,.sl 6 [] .exact,.sl 2 [] .exact]
def fl9 {ps:List Pk} {i:Nat} {p:Pk} (h:ps[i]? =some p):(ps.map Pk.av)[i]? =some (.agg p.l):=by rw [Ap,h];rfl
def W5:=(by conv=>lhs;reduce:dC [Ua,Ub,Uc,Ud,Ue] [] 0x12857753dd2728d76f1decc12269c988254d1b8831267bb344e2cad97e43eb030ba07389e11203ef86b1bdb6b4da5e9a03ba767fb543ae707adf75ceb3be936f5f68e26576799461422a0086a43846a65ae3b4189=_)
def Jv:=rO (W5 (.int .i64 0) (.str []) (.int .u64 0) (.sl 6 [] .exact) (.sl 2 [] .exact))
def W6:=(by conv=>lhs;reduce:dC [Ua] [] 0xa7f0865dba3ddc4fc59dd18a=_)
abbrev Qz:=rP (W6 (.int .i64 1))
def W8:=(by conv=>lhs;reduce:dC [Ua,Ub,Uc,Ud,Ue,Uf] [Ya,Yb] 0x6b930b8d85c71d8b8cb395c6fe9dfe59b3fa59814926d4e2b85a7dfc3459e2bad2ed52ef1d1db089a489aca0e0fc0e2845e985e75d7cd09cf3c3b292b39123fbfbaebf828de83ecd2e96a0e697fe587db409a3ef6e3467bfe3025bbb87df5a4c9e7328bb658216dffe80d01284278e3612c08735ee20d7745c=_)
def uo:=rO (W8 (.str []) (.int .i64 0) (.int .u64 0) (.sl 6 [] .exact) (.sl 2 [] .exact) (.int .i64 1) Jv Qz)
def W7:=(by conv=>lhs;reduce:dC [] [] 0x13a7bd198a13418b=_)
abbrev QA:=rP W7
def aha:=(by conv=>lhs;reduce:dC [Ua,Ub] [Ya,Yb] 0xe084e4a88fdf30e0d6ba5cec01916d4e0f0848d800929e9bc291b5a63fbfd49ece95f14673aecb886ec4342d=_)
abbrev m99:=rP (aha (.sl 6 [] .exact) (.int .i64 0) uo QA)
def XF:aD pg 99 67 m99 [.t 6]:= .o2 Tryz.func99 (by kernel_rfl)
def c99 (hg:ae gl) (op:List UInt8) (f:cN) (hf:iN op=some f) (P:aP->It->aP) (hP:wC gl op f P) (ps:List Pk) (t:bE) (hn:ps.length<=100000) (hp:∀ p∈ps,p.n=1/\(0<=p.event/\p.event<=1099511627776)/\Nk gl p.v.n) (N nt:Nat) (ob:List (Nat×List AV)) (lv:List Nat) (hf0:bJ N ob):
  ao pg 99 [.str op,.sl 6 [] .exact,.sl 9 (ps.map Pk.av) t] ⟨N,ob,nt,lv,gl⟩ fun o S'=>∃ N' ob' nt' lv' r,o= .ok r/\S'=⟨N',ob',nt',lv',gl⟩/\∃ mv,r.Le mv/\PE mv (ps.foldl (ik P) []) N' ob':=by
 have h138:=VH (gl:=gl) hg op;rw [hf] at h138;have h29:Pure pg gl 29 [.sl 6 [] .exact] (.ok (.sl 6 [] .exact)):=(Di (gl:=gl)).conv rfl;refine .aC XF (by simp) (ab 60 ?_);generalize hK:bI _ _=Q
 repeat' with_reducible first|refine ar ?_|refine au ?_|refine .pu (h138) hg rfl ?_|refine .pu (h29) hg rfl ?_|refine ⟨?_,?_⟩|intro _|simp only [go_sem,seval,Option.isSome_some]
 refine .dD ps.length (fun i F S=>∃ N2 ob2 nt2 lv2 r mv,F=[(0,.str op),(6,r),(18,.sl 9 (ps.map Pk.av) t),(19,.int .i64 (ps.length:Int)),(20,.int .i64 (i:Int))]/\S=⟨N2,ob2,nt2,lv2,gl⟩/\r.Le mv/\PE mv ((ps.take i).foldl (ik P) []) N2 ob2/\bJ N2 ob2/\CK f i ((ps.take i).foldl (ik P) [])) ⟨N,ob,nt,lv,_,_,rfl,rfl,.refl _,.inl ⟨rfl,rfl⟩,hf0,CK.nil f⟩ ?_;rintro i F S hi ⟨N2,ob2,nt2,lv2,r,mv,rfl,rfl,hr,hM,hfr,hCK⟩ ih;refine sR [(0,.str op)] hr ?_;show ah _ _ _ _ [(0,.str op),(6,mv),(18,.sl 9 (ps.map Pk.av) t),(19,.int .i64 (ps.length:Int)),(20,.int .i64 (i:Int))] _ _
 by_cases h:i<ps.length
 ·obtain ⟨p,hpi⟩:=aK h;obtain ⟨hp1,hp2,hp3⟩:=hp p (Aj hpi);have hpm:=fl9 hpi
  have htk:(ps.take (i+1)).foldl (ik P) []=ik P ((ps.take i).foldl (ik P) []) p:=by
   rw [CC,hpi,List.foldl_append];rfl
  have hnext:=H5 hP hCK hp1 hp2 hp3 (by omega);generalize hC:(ps.take i).foldl (ik P) []=C at hM hCK htk hnext;have hp9:(9<=p.l.length)=True:=eq_true (Af 9);have hpt:List.take 9 p.l=p.l:=rfl
  have fin:∀ (j:Nat) (rest:List Ce) (s:aP) (sl:List AV) (mv r3:AV) (N3 nt3:Nat) (ob3:List (Nat×List AV)) (lv3:List Nat),j<=rest.length->rest.length<=100000->r3.Le mv->PE mv rest N2 ob3->List.lookup N2 ob3=some p.l->List.lookup (N2+1) ob3=some (.int .i64 p.event::sl)->sl.length=5->(AV.agg sl).fg= .agg s.l->N2+1<N3->gU f s->sz s<=1000000->(P s p.it).n≠0->rest.take j++(p.event,P s p.it)::rest.drop j=ik P C p->
    ah pg 67 [.code Jv,.inBlock 1,.code (.named [0,6,18,19,20] Qz),.inLoop uo,.inBlock 0,.code (.named [6] QA)] [] [(0,.str op),(6,r3),(8,.ptr N2 0),(9,.int .i64 (j:Int)),(11,.ptr (N2+1) 0),(18,.sl 9 (ps.map Pk.av) t),(19,.int .i64 (ps.length:Int)),(20,.int .i64 (i:Int))] ⟨N3,ob3,nt3,lv3,gl⟩ Q:=by
   intro j rest s sl mv r3 N3 nt3 ob3 lv3 hj hrl hr3 hM3 l8 l11 hs5 hfg hN3 hs hsz hn0 hres;refine sR [(0,.str op)] hr3 ?_;show ah _ _ _ _ [(0,.str op),(6,mv),(8,.ptr N2 0),(9,.int .i64 (j:Int)),(11,.ptr (N2+1) 0),(18,.sl 9 (ps.map Pk.av) t),(19,.int .i64 (ps.length:Int)),(20,.int .i64 (i:Int))] _ _;obtain ⟨u,hu⟩:∃ u,u=P s p.it:=⟨_,rfl⟩;have h142:=hP.call s p.it hs hp1 hsz hp3;have h143:=af3 (gl:=gl) (P s p.it) hn0;rw [<-hu] at h142 h143 hres;rw [show p.it.av= .agg [.int .i64 p.v.kd,.int .i64 p.v.n,.str p.v.s,.str p.src,.int .i64 p.seq,.int .i64 p.n] from rfl] at h142;have h142:=h142.conv (as':=[.str op,.agg sl,.agg [.int .i64 p.v.kd,.int .i64 p.v.n,.str p.v.s,.str p.src,.int .i64 p.seq,.int .i64 p.n]]) (by simp only [List.map_cons,Az,hfg,s.nm.2.1]);have g8:∀ nt lv,St.get ⟨N3,ob3,nt,lv,gl⟩ N2=some [.str p.key,.str p.src,.int .i64 p.seq,.int .i64 p.event,.int .i64 p.v.kd,.int .i64 p.v.n,.str p.v.s,.int .i64 p.tick,.int .i64 p.n]:=fun _ _=>l8;have g11:∀ nt lv,St.get ⟨N3,ob3,nt,lv,gl⟩ (N2+1)=some (.int .i64 p.event::sl):=fun _ _=>l11;have hYb:aE (AV.int .i64 p.event::sl)=false:=iQ (p.event,sl);have hY5:(5<=sl.length)=True:=eq_true (by omega);have hY5t:List.take 5 sl=sl:=AR (by omega);have hXb:∀ s:aP,aE (AV.int .i64 p.event::s.l)=false:=fun s=>iQ (p.event,s.l);have hX5:∀ s:aP,(5<=s.l.length)=True:=fun s=>eq_true (Af 5);have hXt:∀ s:aP,List.take 6 (AV.int .i64 p.event::s.l)=AV.int .i64 p.event::s.l:=fun s=>rfl;have hX5t:∀ s:aP,List.take 5 s.l=s.l:=fun s=>rfl;have hN3a:(N2+1=N2)=False:=eq_false (by omega)
   have hN3b:(N2+1=N3)=False:=eq_false (by omega);refine bp Jv.eq_1 ?_;have hul:(u.l.length==5)=true:=rfl;have hul6:(u.l.length+1==6)=true:=rfl;have hud:List.drop (1+u.l.length) (AV.int .i64 p.event::sl)=[]:=AE (by simp [hs5,show u.l.length=5 from rfl])
   repeat' with_reducible first|refine ar ?_|refine au ?_|refine .pu (h142) hg rfl ?_|refine .pu (h143) hg rfl ?_|refine ⟨?_,?_⟩|intro _|simp only [go_sem,seval,g8,g11,hYb,hY5,hY5t,hXb,hX5,hXt,hX5t,hN3a,hN3b,hul,hul6,hud]
   have hfl:flat [AV.agg (AV.int .i64 p.event::u.l)]=AV.int .i64 p.event::u.l:=by rw [dj];exact AB _
   rw [hfl];have hres':(ps.take (i+1)).foldl (ik P) []=rest.take j++(p.event,u)::rest.drop j:=by rw [htk,hres]
   have hck':CK f (i+1) ((ps.take (i+1)).foldl (ik P) []):=by rw [htk];exact hnext
   have hcl:dh (aW (rest.take j++(p.event,u)::rest.drop j))=(dh (aW rest)).take j++(AV.int .i64 p.event::u.l)::(dh (aW rest)).drop j:=by
    unfold dh aW;simp only [AP,List.map_cons,BZ,BY];rfl
   have hRl:(dh (aW rest)).length=rest.length:=by rw [gg];exact Ad ..
   have h6:(AV.int .i64 p.event::u.l).length=6/\∀ v∈(AV.int .i64 p.event::u.l),Nm v:=⟨rfl,Nm.cons (.int _ _) u.all⟩;have hnl:(rest.take j++(p.event,u)::rest.drop j).length=rest.length+1:=by simp;omega
   have hwi:=ba (show i<9223372036854775807 by omega);rcases hM3 with ⟨rfl,rfl⟩|⟨l,cs,rfl,hl,hlN,hb,hrow⟩
   ·obtain rfl:j=0:=by simpa using hj
    refine ao.mono (VK N3 (N3+1) nt3 _ _ lv3 aI (hXb u) h6.1 (by omega)) fun o S' ho=>?_;obtain ⟨rfl,rfl⟩:=ho
    repeat' with_reducible first|refine ar ?_|refine au ?_|refine ⟨?_,?_⟩|intro _|simp only [go_sem,seval,hwi]
    refine CH fun hfr'=>ih h _ _ ⟨_,_,_,_,_,_,rfl,rfl,.refl _,.inr ⟨N3+1,_,?_,aI,by omega,hXb u,?_⟩,hfr',hck'⟩
    ·rw [hres'];rfl
    ·rw [hres',hcl];have:=Row.of (R:=[AV.int .i64 p.event::u.l]) (R6.cons h6 (fun _ h=>(by cases h))) [];rw [AB,List.flatten_cons,List.flatten_nil,AB] at this;exact this
   ·have hl4:List.lookup l ((N3,AV.int .i64 p.event::u.l)::(N2+1,AV.int .i64 p.event::u.l)::ob3)=some cs:=by rw [aw (by omega),aw (by omega)];exact hl
    have hlen:=hrow.len;rw [hRl] at hlen;refine ao.mono (af4 (gl:=gl) rest.length j l N3 (N3+1) nt3 cs (AV.int .i64 p.event::u.l) _ lv3 hl4 aI hb (hXb u) hlen h6.1 (by omega) (by omega) (by omega) hj (by omega)) fun o S' ho=>?_;obtain ⟨L,N',ob',lv',rest0,r,rfl,hLe,rfl,hlk,hNN,hL,hoth⟩:=ho;have hrow':=hrow.ins (rest:=rest0) (i:=j) (r:=AV.int .i64 p.event::u.l) (by omega) h6;rw [hRl] at hrow';rw [<-hcl] at hrow';have hbl:=hrow'.bu (by rw [gg];unfold aW;rw [Ad];omega)
    repeat' with_reducible first|refine ar ?_|refine au ?_|refine ⟨?_,?_⟩|intro _|simp only [go_sem,seval,hwi]
    refine CH fun hfr'=>ih h _ _ ⟨_,_,_,_,_,_,rfl,rfl,hLe,.inr ⟨L,_,?_,hlk,hfr'.lt hlk,hbl,?_⟩,hfr',hck'⟩
    ·rw [hres',hnl]
    ·rw [hres'];exact hrow'
  have hpl:(p.l.length==9)=true:=rfl;have hpd:List.drop p.l.length [AV.str [],.str [],.int .i64 0,.int .i64 0,.int .i64 0,.int .i64 0,.str [],.int .i64 0,.int .i64 0]=[]:=rfl;have hpb:aE p.l=false:=rfl;have hpe:p.l[3]? =some (.int .i64 p.event):=rfl;have hpe':(List.drop 3 p.l)[0]? =some (.int .i64 p.event):=rfl;have hN2a:(N2=N2+1)=False:=eq_false (by omega);have hN2b:(N2+1=N2)=False:=eq_false (by omega);have hwi:=ba (show i<9223372036854775807 by omega)
  have hpn:∀ s:aP,sz s<=1000000->gU f s->0<=s.n->s.n<=i->(P s p.it).n≠0:=fun s h1 h2 h3 h4=>by
   rw [hP.n s p.it h2 hp1 h1 hp3,IntKind.wrap_i64];omega
  have hs00:∀ e:Int,[AV.int .i64 e,.int .i64 0,.int .i64 0,.int .u64 0,.sl 6 [] .exact,.sl 2 [] .exact]=AV.int .i64 e::[AV.int .i64 0,.int .i64 0,.int .u64 0,.sl 6 [] .exact,.sl 2 [] .exact]:=fun e=>rfl;rcases hM with ⟨rfl,rfl⟩|⟨l,cs,rfl,hl,hlN,hb,hrow⟩
  ·have h139:=fun nt lv=>VI (gl:=gl) p.event (N2+1) nt ((N2,p.l)::(N2,[.str [],.str [],.int .i64 0,.int .i64 0,.int .i64 0,.int .i64 0,.str [],.int .i64 0,.int .i64 0])::ob2) lv;refine bp uo.eq_1 ?_
   repeat' with_reducible first|refine ar ?_|refine au ?_|refine bt.fY (h139 _ _) ?_|refine ⟨?_,?_⟩|intro _|simp only [go_sem,seval,hpm,hp9,hpt,hpl,hpd,hpb,hpe,hpe',fk h,eD h,Ad,hN2a,hN2b]
   refine fin 0 [] s0 z5 _ _ _ _ _ _ (Af _) (Au _) (.refl _) (.inl ⟨rfl,rfl⟩) ?_ aI rfl rfl (by omega) (EN f) (Au _) (hpn s0 (Au _) (EN f) (Ax _) (by show (0:Int)<=_;omega)) rfl;rw [aw (by omega),aw (by omega)];exact aI
  ·have hCl:(aW C).length=C.length:=Ad ..;have hckl:=hCK.len;have h139:=fun nt lv ob3 h1=>af1 (gl:=gl) hg l (N2+1) nt p.event cs (aW C) ob3 lv h1 hrow (HK.2 hCK.jo) (by omega);rw [hCl] at h139;obtain ⟨q1,q2,q3⟩:=CO hCK.jo p.event;have hl3:List.lookup l ((N2,p.l)::(N2,[.str [],.str [],.int .i64 0,.int .i64 0,.int .i64 0,.int .i64 0,.str [],.int .i64 0,.int .i64 0])::ob2)=some cs:=by rw [aw (by omega),aw (by omega)];exact hl
   cases hfd:o6 p.event (aW C) with
   |false=>
    have hu:ik P C p=C.take (eF p.event (aW C))++(p.event,P s0 p.it)::C.drop (eF p.event (aW C)):=by
     unfold ik;rw [hfd];rfl
    rw [hfd] at h139;refine bp uo.eq_1 ?_
    repeat' with_reducible first|refine ar ?_|refine au ?_|refine bt.fY (h139 _ _ _ hl3) ?_|refine ⟨?_,?_⟩|intro _|simp only [go_sem,seval,hpm,hp9,hpt,hpl,hpd,hpb,hpe,hpe',fk h,eD h,Ad,hN2a,hN2b]
    refine fin _ C s0 z5 _ _ _ _ _ _ q1 (by omega) (.refl _) (.inr ⟨l,cs,rfl,?_,hlN,hb,hrow⟩) ?_ aI rfl rfl (by omega) (EN f) (Au _) (hpn s0 (Au _) (EN f) (Ax _) (by show (0:Int)<=_;omega)) hu.symm
    ·rw [aw (by omega),aw (by omega),aw (by omega),aw (by omega)];exact hl
    ·rw [aw (by omega),aw (by omega)];exact aI
   |true=>
    obtain ⟨s,hs⟩:=zT hfd;obtain ⟨j,hj⟩:∃ j,j=eF p.event (aW C):=⟨_,rfl⟩;rw [<-hj] at hs q1 q2 q3
    have hjl:j<C.length:=by
     rcases Al j C.length with h'|h'
     ·exact h'
     ·rw [As h'] at hs;cases hs
    have hsm:=Aj hs
    have hu:ik P C p=(C.take j++C.drop (j+1)).take j++(p.event,P s p.it)::(C.take j++C.drop (j+1)).drop j:=by
     unfold ik;rw [if_pos hfd,<-hj,show (C.getD j (0,s0)).2=s by rw [AU,hs];rfl];have ht:(C.take j).length=j:=by rw [Av];omega
     rw [List.take_left' ht,List.drop_left' ht]
    rw [hfd,<-hj] at h139;have hC6:(aW C)[j]? =some (p.event,s.l):=by rw [jd,hs];rfl
    obtain ⟨e1,e2⟩:=hrow.at (gF hC6);have hlN1:(l=N2+1)=False:=eq_false (by omega);have hlN2:(l=N2)=False:=eq_false (by omega);have hlN3:(N2+1=l)=False:=eq_false (by omega);have hlN4:(N2=l)=False:=eq_false (by omega);have g2:∀ n nt lv,St.get ⟨n,ob2,nt,lv,gl⟩ l=some cs:=fun _ _ _=>hl;have hsl6:(s.l.length+1==6)=true:=rfl;have hsd:List.drop s.l.length z5=[]:=rfl;unfold z5 at hsd;have hwj:=ba (show j<9223372036854775807 by omega);refine bp uo.eq_1 ?_
    repeat' with_reducible first|refine ar ?_|refine au ?_|refine bt.fY (h139 _ _ _ hl3) ?_|refine ⟨?_,?_⟩|intro _|simp only [go_sem,seval,hpm,hp9,hpt,hpl,hpd,hpb,hpe,hpe',fk h,eD h,fk hjl,eD hjl,Ad,hN2a,hN2b,hlN1,hlN2,hlN3,hlN4,g2,hb,e1,e2,hsl6,hsd,hwj]
    have hlen:=hrow.len;have hRl:(dh (aW C)).length=C.length:=by rw [gg];exact hCl
    rw [hRl] at hlen;refine ao.mono (af2 (gl:=gl) C.length j l (N2+1+1) nt2 cs _ lv2 (by rw [aw (by omega),aw (by omega),aw (by omega),aw (by omega),aw (by omega)];exact hl) hb hlen hjl (by omega)) fun o S' ho=>?_;obtain ⟨ob',lv',cs',r,rfl,hLe,rfl,hlk,hlen',htake,hoth⟩:=ho;have hrow':=hrow.del (cs':=cs') (i:=j) (by omega) (by rw [hRl];exact hlen') (by rw [hRl];exact htake)
    have hcl:(dh (aW C)).take j++(dh (aW C)).drop (j+1)=dh (aW (C.take j++C.drop (j+1))):=by
     unfold dh aW;simp only [AP,BZ,BY]
    rw [hcl] at hrow'
    have hrl:(C.take j++C.drop (j+1)).length=C.length-1:=by
     rw [Ak,Av,AK];omega
    have hsn:=hCK.n _ hsm
    have hsz1:sz s<=eI C:=by
     rw [<-A1 j C,bY hs,ni,ij];show sz s<=_+(sz s+_);omega
    have hszC:=hCK.sz
    repeat' with_reducible first|refine ar ?_|refine au ?_|refine ⟨?_,?_⟩|intro _|simp only [go_sem,seval]
    refine fin j (C.take j++C.drop (j+1)) s s.l (.aN 6 (C.length-1) l 0) r _ _ _ _ (by rw [hrl];omega) (by rw [hrl];omega) hLe (.inr ⟨l,cs',by rw [hrl],hlk,hlN,fR (by omega),hrow'⟩) ?_ ?_ rfl s.nm.2.1 (by omega) (hCK.iv _ hsm) (by omega) (hpn s (by omega) (hCK.iv _ hsm) (by show 0<=s.n;have:1<=s.n:=hsn.1;omega) hsn.2) hu.symm
    ·rw [hoth N2 (by omega),aw (by omega),aw (by omega),aw (by omega)];exact aI
    ·rw [hoth (N2+1) (by omega)];exact aI
 ·refine bp uo.eq_1 ?_
  repeat' first
   |with_reducible first|refine ar ?_|refine au ?_|refine ⟨?_,?_⟩|intro _
   |simp only [go_sem,seval,fE (Am h),Ad]
  rw [<-hK];simp only [go_sem,seval];refine ⟨N2,ob2,nt2,lv2,mv,rfl,rfl,mv,.refl _,?_⟩;rw [AR (by omega)] at hM;exact hM
def ao.aeQ {f:FuncId} {vs:List AV} {S:St} {C:List Ce} (h:ao pg f vs S fun o S'=>∃ N' ob' nt' lv' r,o= .ok r/\S'=⟨N',ob',nt',lv',gl⟩/\∃ mv,r.Le mv/\PE mv C N' ob'):ao pg f vs S fun o _=>mE o (.sl 6 ((aW C).map ec) .ai):=by
 intro wb G w ws hS hv;refine (h wb G w ws hS hv).mono fun e w' ⟨G',S',h1,h2,h3⟩=>?_
 cases e with
 |returned v=>
  obtain ⟨r,h4,N',ob',nt',lv',r',e1,rfl,mv,hLe,hM⟩:=h3;injection e1 with e1
  subst e1;rcases hM with ⟨rfl,rfl⟩|⟨l,cs,rfl,hl,hlN,hb,hrow⟩
  ·exact ⟨G',_,h1,h2,_,hLe _ _ h4,rfl⟩
  ·have hXb:aE (flat ((aW C).map ec))=false:=by
    rw [kU];have:=(IG C).bu
    cases C with
    |nil=>rfl
    |cons c C=>exact this (by rw [gg];exact Nat.succ_pos _)
   have hlen:(dh (aW C)).length*6=(flat ((aW C).map ec)).length:=by rw [kU,(NK C).len]
   have hcs:cs=flat ((aW C).map ec)++cs.drop ((dh (aW C)).length*6):=by rw [kU,<-hrow.eq,A1]
   have h2':=C0 (ob':=[(l,flat ((aW C).map ec))]) h2 fun l' cs' e=>by
    rw [List.lookup_cons] at e;split at e
    ·rename_i hl';injection e with e
     subst e;rw [show l'=l by simpa using hl'];exact ⟨hXb,_,by rw [hl];exact congrArg some hcs,by rw [<-hcs];exact hb⟩
    ·cases e
   obtain ⟨G2,g1,g2,g3⟩:=ax.freeze (k:=6) (xs:=(aW C).map ec) (ob':=[]) h2' aI hXb (fun x hx=>by
    obtain ⟨c,hc,rfl⟩:=Ai.1 hx;obtain ⟨d,_,rfl⟩:=Ai.1 hc
    rfl) (fun l' cs' e=>by cases e)
   exact ⟨G2,_,Gh.le_trans h1 g1,g2,_,g3 _ _ _ (.all (by rw [Ad];unfold aW;rw [Ad])) (hLe _ _ h4),(Nm.sl (k:=6) (iq C)).2.1⟩
 |panicked ch=>
  obtain ⟨v,av,h4,h5,N',ob',nt',lv',r',e1,_⟩:=h3;cases e1
 |outgrown=>exact h3.elim
def pL (P:aP->It->aP) (ps:List Pk):List Ce:=ps.foldl (ik P) []
def KF {op:List UInt8} {f:cN} {P:aP->It->aP} (hP:wC gl op f P) (ps:List Pk) (hn:ps.length<=100000) (hp:∀ p∈ps,p.n=1/\(0<=p.event/\p.event<=1099511627776)/\Nk gl p.v.n):CK f ps.length (pL P ps):=by
 have key:∀ (ps:List Pk) (k:Nat) (C:List Ce),CK f k C->k+ps.length<=100000->(∀ p∈ps,p.n=1/\(0<=p.event/\p.event<=1099511627776)/\Nk gl p.v.n)->CK f (k+ps.length) (ps.foldl (ik P) C):=fun ps=>by
  induction ps with
  |nil=>exact fun k C h _ _=>h
  |cons p ps ih=>
   intro k C h hk hp;obtain ⟨h1,h2,h3⟩:=hp p (by simp);simp only [List.length_cons] at hk;have:=ih (k+1) (ik P C p) (H5 hP h h1 h2 h3 (by omega)) (by omega) fun q hq=>hp q (by simp [hq]);rw [List.foldl_cons,List.length_cons,show k+(ps.length+1)=k+1+ps.length by omega];exact this
 have:=key ps 0 [] (CK.nil f) (by omega) hp
 rwa [Aw] at this
def ag4:=(by conv=>lhs;reduce:dC [Ua] [] 0x4741c6862733c56f741d276c85ed4fac1aae483d9e4278271864d1369ae82bc98b80f41f=_)
abbrev m62:=rP (ag4 (.sl 6 [] .exact))
def Od:aD pg 62 15 m62 [.t 8]:= .o2 Tryz.func62 (by kernel_rfl)
def c62 (hg:ae gl) (op:List UInt8) (f:cN) (hf:iN op=some f) (P:aP->It->aP) (hP:wC gl op f P) (ps:List Pk) (key:Bytes) (tick:Int) (hn:ps.length<=100000) (hp:∀ p∈ps,p.n=1/\(0<=p.event/\p.event<=1099511627776)/\Nk gl p.v.n) (hk:∀ p∈ps,p.key=key/\p.tick<=tick):
  Pure pg gl 62 [.str op,.sl 9 (ps.map Pk.av) .ai,.str key,.int .i64 tick] (.ok (.sl 6 ((aW (pL P ps)).map ec) .ai)):=by
 refine bw (Nm.cons (.str _) (Nm.cons (.sl (QO ps)) (Nm.cons (.str _) (Nm.cons (.int _ _) Nm.nil)))) (Nm.sl (iq _)).1 (ao.aeQ (gl:=gl) ?_);refine .aC Od (by simp) (ab 60 ?_);generalize hK:bI _ _=Q;have h100:=fun t nt lv=>VD (gl:=gl) [.ptr 0 0,.ptr 1 0] ps t 2 nt [(1,[.int .i64 tick]),(0,[.str key])] lv (by omega) fun N' nt' hN x hx=>VE hg x key tick 0 1 N' nt' _ lv (.cons (.cons (.nil _) (by omega)) (by omega)) rfl rfl (hk x hx).1 (hk x hx).2;have h99:=fun t N nt lv h=>c99 hg op f hf P hP ps t hn hp N nt [(1,[.int .i64 tick]),(0,[.str key])] lv h;rcases ps with _|⟨x,xs⟩
 ·have h101:Pure pg gl 101 [.sl 9 [] .ai] (.ok (.sl 9 [] .exact)):=Kw;rw [Az] at h100 h99;rw [Az]
  repeat' with_reducible first|refine ar ?_|refine au ?_|refine .pu (h101) hg rfl ?_|refine bS (h100 _ _ _) fun _ _ _=>?_|refine cw (h100 _ _ _) (fun _ _ _=>by first|exact (fun h=>(by cases h))|(first|exact of_eq_true bh|simp only [cT,cA,eS,bh,and_self])) fun _ _ _=>?_|refine ⟨?_,?_⟩|intro _|simp only [go_sem,seval]
  rename_i N2 nt2 hN2;refine ao.mono (h99 _ _ _ _ (.cons (.cons (.nil _) (by omega)) (by omega))) fun o S' ho=>?_;obtain ⟨N',ob',nt',lv',r,rfl,rfl,mv,hLe,hM⟩:=ho
  repeat' with_reducible first|refine ar ?_|refine au ?_|refine ⟨?_,?_⟩|intro _|simp only [go_sem,seval]
  rw [<-hK];simp only [go_sem,seval];exact ⟨N',ob',nt',lv',r,rfl,rfl,mv,hLe,hM⟩
 ·have h101:=t101 (gl:=gl) x xs (by simp at hn;omega) 2 0 [(1,[.int .i64 tick]),(0,[.str key])] [];obtain ⟨X,hX⟩:∃ X,X=(x::xs).map Pk.av:=⟨_,rfl⟩;rw [<-hX] at h100 h99 h101 ⊢
  repeat' with_reducible first|refine ar ?_|refine au ?_|refine bt.fY (h101) ?_|refine bS (h100 _ _ _) fun _ _ _=>?_|refine cw (h100 _ _ _) (fun _ _ _=>by first|exact (fun h=>(by cases h))|(first|exact of_eq_true bh|simp only [cT,cA,eS,bh,and_self])) fun _ _ _=>?_|refine ⟨?_,?_⟩|intro _|simp only [go_sem,seval]
  rename_i N2 nt2 hN2;refine ao.mono (h99 _ _ _ _ (.cons (.cons (.nil _) (by omega)) (by omega))) fun o S' ho=>?_;obtain ⟨N',ob',nt',lv',r,rfl,rfl,mv,hLe,hM⟩:=ho
  repeat' with_reducible first|refine ar ?_|refine au ?_|refine ⟨?_,?_⟩|intro _|simp only [go_sem,seval]
  rw [<-hK];simp only [go_sem,seval];exact ⟨N',ob',nt',lv',r,rfl,rfl,mv,hLe,hM⟩
structure Rw where
 src:Bytes
 seq:Int
 table:Bytes
 key:Bytes
 event:Int
 fields:List AV
 no:Int
 tick:Int
def Rw.l (r:Rw):List AV:=[.str r.src,.int .i64 r.seq,.str r.table,.str r.key,.int .i64 r.event,.sl 3 r.fields .ai,.int .i64 r.no,.int .i64 r.tick]
def Rw.av (r:Rw):AV:= .agg r.l
def Rw.N (r:Rw):Prop:=∀ v∈r.fields,Nm v
def Rw.all {r:Rw} (h:r.N):∀ v∈r.l,Nm v:=Nm.cons (.str _) (Nm.cons (.int _ _) (Nm.cons (.str _) (Nm.cons (.str _) (Nm.cons (.int _ _) (Nm.cons (.sl h) (Nm.cons (.int _ _) (Nm.cons (.int _ _) Nm.nil)))))))
def Rw.nm {r:Rw} (h:r.N):Nm r.av:= .agg (Rw.all h)
def Rw.dl (r:Rw):AV:= .agg (r.l++[.int .i64 0,.int .i64 1])
def Rw.dnm {r:Rw} (h:r.N):Nm r.dl:= .agg fun v hv=>by
 rcases AA.1 hv with hv|hv
 ·exact Rw.all h v hv
 ·exact Nm.cons (.int _ _) (Nm.cons (.int _ _) Nm.nil) v hv
def ag3:=(by conv=>lhs;reduce:dC [Ua] [] 0x31b8f2ee446f05c9366f907d201744e3418=_)
abbrev m61:=rP (ag3 (.bool false))
def XB:aD pg 61 8 m61 [.t 3]:= .o2 Tryz.func61 (by kernel_rfl)
def c61 (r:Rw) (key:Bytes) (kb N nt:Nat) (ob:List (Nat×List AV)) (lv:List Nat) (hf:bJ N ob) (h1:List.lookup kb ob=some [.str key]):
  ao pg 61 [r.av,.ptr kb 0] ⟨N,ob,nt,lv,gl⟩ (eJ (fun o=>o= .ok (.bool (r.key==key))) ⟨N,ob,nt,lv,gl⟩):=by
 have hkN:(kb=N)=False:=eq_false (hf.ne h1);have hgk:∀ M,St.get ⟨M,ob,nt,lv,gl⟩ kb=some [.str key]:=fun _=>h1;refine gu (.aC XB (by simp) ?_);generalize hK:bI [RV.t 3] _=Q;unfold Rw.av Rw.l;refine ab 60 ?_
 repeat' with_reducible first|refine ar ?_|refine au ?_|refine ⟨?_,?_⟩|intro _|simp only [go_sem,seval,hgk,hkN]
 all_goals first
  |(rw [<-hK];simp only [aM];done)
  |skip
 rw [<-hK];simp only [go_sem,seval];refine ⟨by omega,fun l cs h=>?_,fun t h=>h⟩;rw [aw (hf.ne h)];exact h
def WI:=(by conv=>lhs;reduce:dC [Ua] [] 0xf834c4915f36393c0d2d=_)
abbrev aet:=rP (WI (.int .i64 1))
def WK:=(by conv=>lhs;reduce:dC [Ua,Ub,Uc] [Ya] 0x3039d374510cec5d9e707224e802adb1746a2d8dd8091850dbd85e0ffaa6060d831d99dbd9e5de35725c2fb46273aa477cf6a5b557b3e919ed91c2fda0342c=_)
def Jr:=rO (WK (.str []) (.int .i64 0) (.sl 3 [] .exact) aet)
def WJ:=(by conv=>lhs;reduce:dC [] [] 0xb2258829f742e=_)
abbrev aeu:=rP WJ
def ag2:=(by conv=>lhs;reduce:dC [Ua,Ub] [Ya,Yb] 0x56020b6a1b080cd64529d9a0f503860ad9b41a=_)
abbrev m60:=rP (ag2 (.sl 8 [] .exact) (.int .i64 0) Jr aeu)
def XA:aD pg 60 22 m60 [.t 4]:= .o2 Tryz.func60 (by kernel_rfl)
def c60 (rows:List Rw) (key:Bytes) (t:bE) (kb N nt:Nat) (ob:List (Nat×List AV)) (lv:List Nat) (hf:bJ N ob) (h1:List.lookup kb ob=some [.str key]) (hn:rows.length<=100000):
  ao pg 60 [.sl 8 (rows.map Rw.av) t,.fn (.func 61) [] [.ptr kb 0]] ⟨N,ob,nt,lv,gl⟩ fun o S'=>∃ N' nt' lv' tk,o= .ok (.sl 8 ((rows.filter fun r=>r.key==key).map Rw.av) tk)/\S'=⟨N',ob,nt',lv',gl⟩/\N<=N':=by
 refine .aC XA (by simp) (ab 60 ?_);generalize hK:bI [RV.t 4] _=Q
 repeat' with_reducible first|refine ar ?_|refine au ?_|refine ⟨?_,?_⟩|intro _|simp only [go_sem,seval]
 refine .dD rows.length (fun i F S=>∃ out tk,F=[(1,.fn (.func 61) [] [.ptr kb 0]),(4,.sl 8 (out.map Rw.av) tk),(7,.sl 8 (rows.map Rw.av) t),(8,.int .i64 (rows.length:Int)),(9,.int .i64 (i:Int))]/\(∃ N2 nt2 lv2 hi,S=⟨N2,ob,nt2,lv2,gl⟩/\N<=N2/\gS 0 hi lv2 tk)/\out.length<=i/\out++(rows.drop i).filter (fun r=>r.key==key)=rows.filter fun r=>r.key==key) ⟨[],.exact,rfl,⟨N,nt,lv,0,rfl,Af _,.inl rfl⟩,Af _,rfl⟩ ?_;rintro i F S hi ⟨out,tk,rfl,⟨N2,nt2,lv2,hi2,rfl,hN2,htk⟩,hol,hall⟩ ih
 by_cases h:i<rows.length
 ·obtain ⟨r,hr⟩:=aK h;rw [bY hr,Cg] at hall;have hrm:(rows.map Rw.av)[i]? =some (.agg r.l):=by rw [Ap,hr];rfl
  have hr8:(8<=r.l.length)=True:=eq_true (Af 8);have hrt:List.take 8 r.l=r.l:=rfl;have hrl:(r.l.length==8)=true:=rfl;have hrd:List.drop r.l.length [AV.str [],.int .i64 0,.str [],.str [],.int .i64 0,.sl 3 [] .exact,.int .i64 0,.int .i64 0]=[]:=rfl;have hrb:aE r.l=false:=rfl;have hNk:(N2=kb)=False:=eq_false (by have:=hf.lt h1;omega);have hf2:bJ (N2+1) ((N2,r.l)::(N2,[AV.str [],.int .i64 0,.str [],.str [],.int .i64 0,.sl 3 [] .exact,.int .i64 0,.int .i64 0])::ob):= .cons (.cons (fun l h=>hf l (by omega)) (by omega)) (by omega)
  have hk2:List.lookup kb ((N2,r.l)::(N2,[AV.str [],.int .i64 0,.str [],.str [],.int .i64 0,.sl 3 [] .exact,.int .i64 0,.int .i64 0])::ob)=some [.str key]:=by
   have:=hf.lt h1;rw [aw (by omega),aw (by omega)];exact h1
  have h61:=fun nt lv=>c61 (gl:=gl) r key kb (N2+1) nt _ lv hf2 hk2;unfold Rw.av at h61;refine bp Jr.eq_1 ?_
  repeat' first
   |with_reducible first|refine ar ?_|refine au ?_|refine bS (h61 _ _) fun _ _ _=>?_|refine cw (h61 _ _) (fun _ _ _=>by first|exact (fun h=>(by cases h))|(first|exact of_eq_true bh|simp only [cT,cA,eS,bh,and_self])) fun _ _ _=>?_|refine ⟨?_,?_⟩|intro _
   |simp only [go_sem,seval,hrm,hr8,hrt,hrl,hrd,hrb,fk h,eD h,hNk,gw,Ad,ba (show i<9223372036854775807 by omega)]
  ·exact htk.sf
  ·omega
  ·omega
  ·rename_i N4 nt4 hN4 hb;rw [if_pos hb] at hall;refine ah.cB (ob':=ob) (live':=nt4::jU lv2 tk) ?_ (fun l cs' h=>by rw [aw (by have:=hf.lt h;omega),aw (by have:=hf.lt h;omega)];exact h) (fun _ h=>h);refine ih h _ _ ⟨out++[r],.tok nt4,?_,⟨N4,nt4+1,_,nt4+1,rfl,by omega,.new _ _ _ (Au _)⟩,by simp;omega,by rw [AL];exact hall⟩;rw [AP];rfl
  ·rename_i N4 nt4 hN4 hb;rw [if_neg (by rw [hb];exact B6)] at hall;refine ah.cB (ob':=ob) (live':=lv2) ?_ (fun l cs' h=>by rw [aw (by have:=hf.lt h;omega),aw (by have:=hf.lt h;omega)];exact h) (fun _ h=>h);exact ih h _ _ ⟨out,tk,rfl,⟨N4,nt4,lv2,hi2,rfl,by omega,htk⟩,by omega,hall⟩
 ·refine bp Jr.eq_1 ?_
  repeat' first
   |with_reducible first|refine ar ?_|refine au ?_|refine ⟨?_,?_⟩|intro _
   |simp only [go_sem,seval,fE (Am h),Ad]
  rw [AE (Am h),List.filter_nil,AB] at hall;rw [<-hK];simp only [go_sem,seval];rw [<-hall];exact ⟨N2,nt2,lv2,tk,rfl,rfl,hN2⟩
structure Tb where
 name:Bytes
 pO:Bytes
 fields:List AV
 cB:Int
def Tb.l (t:Tb):List AV:=[.str t.name,.str t.pO,.sl 4 t.fields .ai,.int .i64 t.cB]
def Tb.N (t:Tb):Prop:=∀ v∈t.fields,Nm v
def Tb.nm {t:Tb} (h:t.N):Nm (.agg t.l):= .agg (Nm.cons (.str _) (Nm.cons (.str _) (Nm.cons (.sl h) (Nm.cons (.int _ _) Nm.nil))))
structure Xp where
 kd:Int
 op:Bytes
 s2:Bytes
 tb:Bytes
 n4:Int
 n5:Int
 s6:Bytes
 l7:List AV
 n8:Int
 n9:Int
 qe:Int
 args:List AV
def Xp.l (x:Xp):List AV:=[.int .i64 x.kd,.str x.op,.str x.s2,.str x.tb,.int .i64 x.n4,.int .i64 x.n5,.str x.s6,.sl 2 x.l7 .ai,.int .i64 x.n8,.int .i64 x.n9,.int .i64 x.qe,.sl 12 x.args .ai]
def Xp.N (x:Xp):Prop:=(∀ v∈x.l7,Nm v)/\∀ v∈x.args,Nm v
def Xp.nm {x:Xp} (h:x.N):Nm (.agg x.l):= .agg (Nm.cons (.int _ _) (Nm.cons (.str _) (Nm.cons (.str _) (Nm.cons (.str _) (Nm.cons (.int _ _) (Nm.cons (.int _ _) (Nm.cons (.str _) (Nm.cons (.sl h.1) (Nm.cons (.int _ _) (Nm.cons (.int _ _) (Nm.cons (.int _ _) (Nm.cons (.sl h.2) Nm.nil))))))))))))
def ll (t:Tb) (V0 V1:Rw->bX) (r:Rw):Option Pk:=if r.table=t.name/\V1 r=⟨1,1,[]⟩/\(V0 r).kd≠0 then some ⟨r.key,r.src,r.seq,r.event,V0 r,0,1⟩ else none
def WL:=(by conv=>lhs;reduce:dC [Ua] [] 0x991cf33f72c63b=_)
abbrev aev:=rP (WL (.sl 9 [] .exact))
def WM:=(by conv=>lhs;reduce:dC [] [] 0x184ace66b=_)
abbrev aew:=rP WM
def WN:=(by conv=>lhs;reduce:dC [Ua,Ub] [] 0x76e5500fb5eaf4c60d9af8363437b70f1d352d3c7400781133e4758661c1fa988656c48dfed71f1c8ab6cb14744c9883e0e763b50f93ca5089b32c2d6df0ae197a2dee8b1e14d1f42bf6e0a6b9bf0b606656315dfbaa98f3d73a4c694079129772be8012ce81c904a48ea700e6850a924c9954834050a707afdaf0e418208f2bab752888612016ec0cbcc19c=_)
abbrev aex:=rP (WN (.int .i64 0) (.str []))
def WO:=(by conv=>lhs;reduce:dC [Ua] [] 0x274594e032832a7a35b6af8d19d=_)
abbrev aey:=rP (WO (.int .i64 1))
def WS:=(by conv=>lhs;reduce:dC [Ua,Ub,Uc,Ud,Ue] [Ya,Yb,Yc] 0x96ebf23c447939b46ab2d4b0ffcf5aee5ed1fdb8184e533878d3bea7c1803cb226a09838c5b246effe37ee585761026685757ca336a3bf7219abcac8a36cb8c07a4189663ab8ab2d71f337d7b86d110f338348e4eac0577f7e7244334c7cf6eae1c16387f74aa6663f1f3c1d707b050cc7be2252ea7b2041901faa6afbba5edbdb46b=_)
def xJ:=rO (WS (.str []) (.int .i64 0) (.sl 3 [] .exact) (.int .i64 1) (.bool true) aew aex aey)
def WQ:=(by conv=>lhs;reduce:dC [] [] 0x1f032d14ba97419e=_)
abbrev Js:=rP WQ
def WR:=(by conv=>lhs;reduce:dC [Ua] [Ya,Yb] 0x68f595c36981a49d4eb221e48217607d03e=_)
abbrev aez:=rP (WR (.int .i64 0) xJ Js)
def ag5:=(by conv=>lhs;reduce:dC [Ua,Ub,Uc,Ud] [Ya,Yb] 0x25e992a939e1fba65652a1fac466f039b3015a570e7660154179ed9187ed10cbfb76ffd5ddadee906b752d8775b793b0ea0f75e06617b43b=_)
abbrev m63:=rP (ag5 (.sl 9 [] .exact) (.int .i64 5) (.bool true) (.int .i64 2) aev aez)
def Oe:aD pg 63 78 m63 [.t 6]:= .o2 Tryz.func63 (by kernel_rfl)
def c63 (hg:ae gl) (t:Tb) (x:Xp) (rows:List Rw) (V0 V1:Rw->bX) (a0 a1:List AV) (ht:t.N) (hx:x.N) (hr:∀ r∈rows,r.N) (hn:rows.length<=100000) (hkd:x.kd=5) (htb:x.tb=t.name) (hargs:x.args=[.agg a0,.agg a1]) (ha0:a0.length=12) (ha1:a1.length=12)
  (h0:∀ r∈rows,Pure pg gl 103 [.agg t.l,r.av,.agg a0] (.ok (V0 r).av)) (h1:∀ r∈rows,Pure pg gl 103 [.agg t.l,r.av,.agg a1] (.ok (V1 r).av)):
  Pure pg gl 63 [.agg t.l,.agg x.l,.sl 10 (rows.map Rw.dl) .ai] (.ok (.sl 9 ((rows.filterMap (ll t V0 V1)).map Pk.av) .ai)):=by
 have hdn:∀ v∈rows.map Rw.dl,Nm v:=fun v hv=>by
  obtain ⟨r,h,rfl⟩:=Ai.1 hv;exact Rw.dnm (hr r h)
 refine bw (Nm.cons (Tb.nm ht) (Nm.cons (Xp.nm hx) (Nm.cons (.sl hdn) Nm.nil))) (Nm.sl (QO _)).1 ?_;refine .aC Oe (by simp) (ab 60 ?_);generalize hK:bI [RV.t 6] _=Q;unfold Tb.l Xp.l;have hne:(x.tb==t.name)=true:=by rw [htb];simp
 have hk5:(x.kd==5)=true:=by rw [hkd];rfl
 have hnn:(!true)=false:=rfl;have hal:x.args.length=2:=by rw [hargs];rfl
 have hck:(x.kd !=5)=false:=by rw [hkd];rfl
 repeat' with_reducible first|refine ar ?_|refine au ?_|refine ⟨?_,?_⟩|intro _|simp only [go_sem,seval,hne,hk5,hnn,hal,hck]
 refine .dD rows.length (fun i F S=>∃ out tk,F=[(3,.ptr 0 0),(4,.ptr 1 0),(6,.sl 9 (out.map Pk.av) tk),(27,.sl 10 (rows.map Rw.dl) .ai),(28,.int .i64 (rows.length:Int)),(29,.int .i64 (i:Int))]/\(∃ N2 nt2 lv2,S=⟨N2,[(1,[AV.int .i64 x.kd,.str x.op,.str x.s2,.str x.tb,.int .i64 x.n4,.int .i64 x.n5,.str x.s6,.sl 2 x.l7 .ai,.int .i64 x.n8,.int .i64 x.n9,.int .i64 x.qe,.sl 12 x.args .ai]),(0,[AV.str t.name,.str t.pO,.sl 4 t.fields .ai,.int .i64 t.cB])],nt2,lv2,gl⟩/\2<=N2/\gS 0 nt2 lv2 tk)/\out.length<=i/\out++(rows.drop i).filterMap (ll t V0 V1)=rows.filterMap (ll t V0 V1)) ⟨[],.exact,rfl,⟨2,0,[],rfl,Af _,.inl rfl⟩,Af _,rfl⟩ ?_;rintro i F S hi ⟨out,tk,rfl,⟨N2,nt2,lv2,rfl,hN2,htk⟩,hol,hall⟩ ih
 by_cases h:i<rows.length
 ·obtain ⟨r,hri⟩:=aK h;have hrm:=Aj hri;rw [bY hri,List.filterMap_cons] at hall;have hdm:(rows.map Rw.dl)[i]? =some (.agg [AV.str r.src,.int .i64 r.seq,.str r.table,.str r.key,.int .i64 r.event,.sl 3 r.fields .ai,.int .i64 r.no,.int .i64 r.tick,.int .i64 0,.int .i64 1]):=by rw [Ap,hri];rfl
  have hV:V1 r=⟨1,1,[]⟩↔((V1 r).kd=1/\(V1 r).n=1/\(V1 r).s=[]):=by cases V1 r;simp
  have skp:∀ (N3:Nat) (ob3:List (Nat×List AV)),ll t V0 V1 r=none->List.lookup 1 ob3=some [AV.int .i64 x.kd,.str x.op,.str x.s2,.str x.tb,.int .i64 x.n4,.int .i64 x.n5,.str x.s6,.sl 2 x.l7 .ai,.int .i64 x.n8,.int .i64 x.n9,.int .i64 x.qe,.sl 12 x.args .ai]->List.lookup 0 ob3=some [AV.str t.name,.str t.pO,.sl 4 t.fields .ai,.int .i64 t.cB]->2<=N3->ah pg 78 [.inLoop xJ,.inBlock 0,.code (.named [6] Js)] [] [(3,.ptr 0 0),(4,.ptr 1 0),(6,.sl 9 (out.map Pk.av) tk),(27,.sl 10 (rows.map Rw.dl) .ai),(28,.int .i64 (rows.length:Int)),(29,.int .i64 ((i+1:Nat):Int))] ⟨N3,ob3,nt2,lv2,gl⟩ Q:=fun N3 ob3 hsel k1 k0 hN3=>by
   rw [hsel] at hall;exact ah.cB (live':=lv2) (ih h _ _ ⟨out,tk,rfl,⟨N3,nt2,lv2,rfl,hN3,htk⟩,by omega,hall⟩) (xz k1 k0) (fun _ h=>h)
  have add:∀ (N3:Nat) (ob3:List (Nat×List AV)),ll t V0 V1 r=some ⟨r.key,r.src,r.seq,r.event,V0 r,0,1⟩->List.lookup 1 ob3=some [AV.int .i64 x.kd,.str x.op,.str x.s2,.str x.tb,.int .i64 x.n4,.int .i64 x.n5,.str x.s6,.sl 2 x.l7 .ai,.int .i64 x.n8,.int .i64 x.n9,.int .i64 x.qe,.sl 12 x.args .ai]->List.lookup 0 ob3=some [AV.str t.name,.str t.pO,.sl 4 t.fields .ai,.int .i64 t.cB]->2<=N3->ah pg 78 [.inLoop xJ,.inBlock 0,.code (.named [6] Js)] [] [(3,.ptr 0 0),(4,.ptr 1 0),(6,.sl 9 (out.map Pk.av++[.agg [.str r.key,.str r.src,.int .i64 r.seq,.int .i64 r.event,.int .i64 (V0 r).kd,.int .i64 (V0 r).n,.str (V0 r).s,.int .i64 0,.int .i64 1]]) (.tok nt2)),(27,.sl 10 (rows.map Rw.dl) .ai),(28,.int .i64 (rows.length:Int)),(29,.int .i64 ((i+1:Nat):Int))] ⟨N3,ob3,nt2+1,nt2::jU lv2 tk,gl⟩ Q:=fun N3 ob3 hsel k1 k0 hN3=>by
   rw [hsel] at hall;refine ah.cB (live':=nt2::jU lv2 tk) (ih h _ _ ⟨out++[⟨r.key,r.src,r.seq,r.event,V0 r,0,1⟩],.tok nt2,?_,⟨N3,nt2+1,_,rfl,hN3,.new _ _ _ (Au _)⟩,by simp;omega,by rw [AL];exact hall⟩) (xz k1 k0) (fun _ h=>h);rw [AP];rfl
  have h103:=h1 r hrm;have h103a:=h0 r hrm;unfold Rw.av Rw.l Tb.l at h103 h103a;have n0:(N2=0)=False:=eq_false (by omega);have n1:(N2=1)=False:=eq_false (by omega);have n2:(0=N2)=False:=eq_false (by omega);have n3:(1=N2)=False:=eq_false (by omega);have n4:(N2+1=0)=False:=eq_false (by omega);have n5:(N2+1=1)=False:=eq_false (by omega);have n6:(0=N2+1)=False:=eq_false (by omega);have n7:(1=N2+1)=False:=eq_false (by omega);have n8:(N2=N2+1)=False:=eq_false (by omega);have n9:(N2+1=N2)=False:=eq_false (by omega);have x0:x.args[0]? =some (.agg a0):=by rw [hargs];rfl
  have x1:x.args[1]? =some (.agg a1):=by rw [hargs];rfl
  have y0:(12<=a0.length)=True:=eq_true (by omega);have y1:(12<=a1.length)=True:=eq_true (by omega);have z0:List.take 12 a0=a0:=AR (by omega);have z1:List.take 12 a1=a1:=AR (by omega);refine bp xJ.eq_1 ?_
  repeat' first
   |with_reducible first|refine ar ?_|refine au ?_|refine .pu (h103) hg rfl ?_|refine .pu (h103a) hg rfl ?_|refine ⟨?_,?_⟩|intro _
   |simp only [go_sem,seval,hdm,fk h,eD h,Ad,n0,n1,n2,n3,n4,n5,n6,n7,n8,n9,x0,x1,y0,y1,z0,z1,hal,gw,ba (show i<9223372036854775807 by omega)]
  all_goals first
   |(rw [<-hK];simp only [aM];done)
   |omega
   |exact htk.sf
   |skip
  ·exact skp _ _ (by unfold ll;rw [if_neg];rintro ⟨h1,h2,h3⟩;simp_all) (by repeat first|exact aI|rw [aw (by omega)]) (by repeat first|exact aI|rw [aw (by omega)]) (by omega)
  ·exact add _ _ (by unfold ll;rw [if_pos];exact ⟨by simp_all,hV.2 (by simp_all),by simp_all⟩) (by repeat first|exact aI|rw [aw (by omega)]) (by repeat first|exact aI|rw [aw (by omega)]) (by omega)
  ·exact skp _ _ (by unfold ll;rw [if_neg];rintro ⟨h1,h2,h3⟩;simp_all) (by repeat first|exact aI|rw [aw (by omega)]) (by repeat first|exact aI|rw [aw (by omega)]) (by omega)
  ·exact add _ _ (by unfold ll;rw [if_pos];exact ⟨by simp_all,hV.2 (by simp_all),by simp_all⟩) (by repeat first|exact aI|rw [aw (by omega)]) (by repeat first|exact aI|rw [aw (by omega)]) (by omega)
  ·exact skp _ _ (by unfold ll;rw [if_neg];rintro ⟨h1,h2,h3⟩;simp_all) (by repeat first|exact aI|rw [aw (by omega)]) (by repeat first|exact aI|rw [aw (by omega)]) (by omega)
  ·exact skp _ _ (by unfold ll;rw [if_neg];rintro ⟨h1,h2,h3⟩;simp_all) (by repeat first|exact aI|rw [aw (by omega)]) (by repeat first|exact aI|rw [aw (by omega)]) (by omega)
 ·refine bp xJ.eq_1 ?_
  repeat' first
   |with_reducible first|refine ar ?_|refine au ?_|refine ⟨?_,?_⟩|intro _
   |simp only [go_sem,seval,fE (Am h),Ad]
  rw [AE (Am h),List.filterMap_nil,AB] at hall;rw [<-hK];simp only [go_sem,seval];rw [<-hall];exact (Nm.sl (k:=9) (QO out)).2.1
def agI (hg:ae gl) (t:Tb) (x:Xp) (rows:List Rw) (ht:t.N) (hx:x.N) (hr:∀ r∈rows,r.N) (h: ¬(x.kd=5/\x.tb=t.name/\x.args.length=2)):
  Pure pg gl 63 [.agg t.l,.agg x.l,.sl 10 (rows.map Rw.dl) .ai] (.ok (.sl 9 [] .ai)):=by
 have hdn:∀ v∈rows.map Rw.dl,Nm v:=fun v hv=>by
  obtain ⟨r,h,rfl⟩:=Ai.1 hv;exact Rw.dnm (hr r h)
 refine bw (Nm.cons (Tb.nm ht) (Nm.cons (Xp.nm hx) (Nm.cons (.sl hdn) Nm.nil))) (Nm.sl Nm.nil).1 ?_;refine .aC Oe (by simp) (ab 60 ?_);generalize hK:bI [RV.t 6] _=Q;unfold Tb.l Xp.l;have hnn:(!true)=false:=rfl
 have hck:(x.kd !=5||(!x.tb==t.name||((x.args.length:Int) !=2)))=true:=by
  rw [B5];simp
  by_cases h1:x.kd=5
  ·by_cases h2:x.tb=t.name
   ·exact .inr (.inr fun e=>h ⟨h1,h2,by omega⟩)
   ·exact .inr (.inl h2)
  ·exact .inl h1
 repeat' with_reducible first|refine ar ?_|refine au ?_|refine ⟨?_,?_⟩|intro _|simp only [go_sem,seval,hnn,hck]
 rw [<-hK];simp only [go_sem,seval];exact rfl
def agS:=(by conv=>lhs;reduce:dC [Ua,Ub,Uc] [] 0x6f8d9f7668c491337b950bbab42a9b679c13419=_)
abbrev m26:=rP (agS (.bool false) (.int .i64 1) (.int .i64 1099511627776))
def Xo:aD pg 26 9 m26 [.t 2]:= .o2 Tryz.func26 (by kernel_rfl)
def c26 (s:Int) (h1:1<=s) (h2:s<=1099511627776):Pure pg gl 26 [.int .i64 s] (.ok (.bool true)):=by
 have d1:decide (s>=1)=true:=decide_eq_true h1;have d2:decide (s<=1099511627776)=true:=decide_eq_true h2;have d3:decide (1<=s)=true:=decide_eq_true h1;refine bw (Nm.cons (.int _ _) Nm.nil) (.bool true) (.aC Xo (by simp) (ab 60 ?_))
 repeat' with_reducible first|refine ar ?_|refine au ?_|refine ⟨?_,?_⟩|intro _|simp only [go_sem,seval,d1,d2,d3]
 exact rfl
def Wt:=(by conv=>lhs;reduce:dC [Ua,Ub,Uc,Ud] [] 0x1c61a55c006ea7ccb24bf87e3c14d25f6cfc5fd1d352e7f116015ed7268bfd8640c3513bfee40e20cb1184f4e2a3cfebbc20cd5873f002e33bc30f98349422936855377171dc623eb44b=_)
def Jm:=rO (Wt (.str []) (.int .i64 0) (.sl 3 [] .exact) (.int .i64 1))
def Ws:=(by conv=>lhs;reduce:dC [Ua] [] 0x26701290837c5cfaabed2eaddc4ec8b327f31c502e07bd16aefbf3a3b4be6ddacbe7ba7090897870b4c5b=_)
abbrev ael:=rP (Ws (.int .i64 1099511627776))
def agT:=(by conv=>lhs;reduce:dC [Ua,Ub,Uc,Ud,Ue] [Ya,Yb] 0x2321999f7df419964bb9eddbd3517dda0fa6b198d91378db78d3da6502a03da92d23366295f7555962e070b2b4bbb692d00d373ca2d7777a6c8818f50ce044d19510343a=_)
abbrev m27:=rP (agT (.sl 6 [] .exact) (.str []) (.sl 4 [] .exact) (.int .i64 0) (.sl 10 [] .exact) Jm ael)
def Xq:aD pg 27 43 m27 [.t 8]:= .o2 Tryz.func27 (by kernel_rfl)
def c27 (hg:ae gl) (cat:List AV) (t:Tb) (x:Xp) (okb:Bool) (key:Bytes) (rows:List Rw) (picks:List Pk) (D:List Ce) (hc:∀ v∈cat,Nm v) (hc4:cat.length=4) (hcb:aE cat=false) (ht:t.N) (hx:x.N) (hr:∀ r∈rows,r.N) (hn:rows.length<=100000)
  (h38:Pure pg gl 38 [.agg cat,.str x.tb] (.ok (.aF [.agg t.l,.bool okb])))
  (h63:Pure pg gl 63 [.agg t.l,.agg x.l,.sl 10 ((rows.filter fun r=>r.key==key).map Rw.dl) .ai] (.ok (.sl 9 (picks.map Pk.av) .ai)))
  (h62:Pure pg gl 62 [.str x.op,.sl 9 (picks.map Pk.av) .ai,.str key,.int .i64 1099511627776] (.ok (.sl 6 ((aW D).map ec) .ai))):
  Pure pg gl 27 [.agg cat,.sl 8 (rows.map Rw.av) .ai,.agg x.l,.str key] (.ok (.sl 6 ((aW D).map ec) .ai)):=by
 have hrn:∀ v∈rows.map Rw.av,Nm v:=fun v hv=>by
  obtain ⟨r,h,rfl⟩:=Ai.1 hv;exact Rw.nm (hr r h)
 refine bw (Nm.cons (.agg hc) (Nm.cons (.sl hrn) (Nm.cons (Xp.nm hx) (Nm.cons (.str _) Nm.nil)))) (Nm.sl (iq _)).1 ?_;refine .aC Xq (by simp) (ab 60 ?_);generalize hK:bI [RV.t 8] _=Q;unfold Tb.l at h38;unfold Xp.l;have c1:(4<=cat.length)=True:=eq_true (by omega);have c2:List.take 4 cat=cat:=AR (by omega)
 repeat' with_reducible first|refine ar ?_|refine au ?_|refine .pu (h38) hg rfl ?_|refine ⟨?_,?_⟩|intro _|simp only [go_sem,seval,c1,c2,hcb]
 refine ao.mono (c60 (gl:=gl) rows key .ai 2 4 0 _ [] (.cons (.cons (.cons (.cons (.cons (.nil _) (by omega)) (by omega)) (by omega)) (by omega)) (by omega)) rfl hn) fun o S' ho=>?_;obtain ⟨N',nt',lv',tk,rfl,rfl,hN⟩:=ho;obtain ⟨rs,hrs⟩:∃ rs,rs=rows.filter fun r=>r.key==key:=⟨_,rfl⟩;rw [<-hrs] at h63 ⊢;have hrl:rs.length<=100000:=by rw [hrs];exact AH (Cx ..) hn
 repeat' with_reducible first|refine ar ?_|refine au ?_|refine ⟨?_,?_⟩|intro _|simp only [go_sem,seval]
 refine ah.cB (ob':=[(3,[AV.str t.name,.str t.pO,.sl 4 t.fields .ai,.int .i64 t.cB]),(2,[.str key]),(1,[AV.int .i64 x.kd,.str x.op,.str x.s2,.str x.tb,.int .i64 x.n4,.int .i64 x.n5,.str x.s6,.sl 2 x.l7 .ai,.int .i64 x.n8,.int .i64 x.n9,.int .i64 x.qe,.sl 12 x.args .ai])]) (live':=lv') ?_ (Jh rfl rfl rfl) (fun _ h=>h);refine .dD rs.length (fun i F S=>∃ out tk2,F=[(6,.ptr 1 0),(7,.ptr 2 0),(9,.ptr 3 0),(11,.sl 10 (out.map Rw.dl) tk2),(23,.sl 8 (rs.map Rw.av) tk),(24,.int .i64 (rs.length:Int)),(25,.int .i64 (i:Int))]/\(∃ N2 nt2 lv2,S=⟨N2,[(3,[AV.str t.name,.str t.pO,.sl 4 t.fields .ai,.int .i64 t.cB]),(2,[.str key]),(1,[AV.int .i64 x.kd,.str x.op,.str x.s2,.str x.tb,.int .i64 x.n4,.int .i64 x.n5,.str x.s6,.sl 2 x.l7 .ai,.int .i64 x.n8,.int .i64 x.n9,.int .i64 x.qe,.sl 12 x.args .ai])],nt2,lv2,gl⟩/\4<=N2/\gS 0 nt2 lv2 tk2)/\out=rs.take i) ⟨[],.exact,rfl,⟨N',nt',lv',rfl,hN,.inl rfl⟩,rfl⟩ ?_;rintro i F S hi ⟨out,tk2,rfl,⟨N2,nt2,lv2,rfl,hN2,htk⟩,rfl⟩ ih
 by_cases h:i<rs.length
 ·obtain ⟨r,hri⟩:=aK h;have hrm:(rs.map Rw.av)[i]? =some (.agg [AV.str r.src,.int .i64 r.seq,.str r.table,.str r.key,.int .i64 r.event,.sl 3 r.fields .ai,.int .i64 r.no,.int .i64 r.tick]):=by rw [Ap,hri];rfl
  have n1:(N2=1)=False:=eq_false (by omega);have n2:(N2=2)=False:=eq_false (by omega);have n3:(N2=3)=False:=eq_false (by omega);have hol:(rs.take i).length<=i:=by rw [Av];omega
  refine bp Jm.eq_1 ?_
  repeat' first
   |with_reducible first|refine ar ?_|refine au ?_|refine ⟨?_,?_⟩|intro _
   |simp only [go_sem,seval,hrm,n1,n2,n3,fk h,eD h,gw,Ad,ba (show i<9223372036854775807 by omega)]
  ·exact htk.sf
  ·omega
  ·omega
  refine ah.cB (live':=nt2::jU lv2 tk2) (ih h _ _ ⟨rs.take (i+1),.tok nt2,?_,⟨N2+1,nt2+1,_,rfl,by omega,.new _ _ _ (Au _)⟩,rfl⟩) (Jh (by repeat first|exact aI|rw [aw (by omega)]) (by repeat first|exact aI|rw [aw (by omega)]) (by repeat first|exact aI|rw [aw (by omega)])) (fun _ h=>h);rw [CC,hri,AP];rfl
 ·refine bp Jm.eq_1 ?_;rw [AR (by omega)];have h63:=h63.conv (as':=[.agg t.l,.agg x.l,.sl 10 (rs.map Rw.dl) tk2]) rfl;unfold Tb.l Xp.l at h63
  repeat' first
   |with_reducible first|refine ar ?_|refine au ?_|refine .pu (h63) hg rfl ?_|refine .pu (h62) hg rfl ?_|refine ⟨?_,?_⟩|intro _
   |simp only [go_sem,seval,fE (Am h),Ad]
  all_goals first
   |(rw [<-hK];simp only [aM];done)
   |skip
  rw [<-hK];simp only [go_sem,seval];exact (Nm.sl (k:=6) (iq D)).2.1
def acU:=(by conv=>lhs;reduce:dC [Ua] [] 0x4bd2497eddc62b=_)
abbrev akz:=rP (acU (.sl 6 [] .exact))
def acV:=(by conv=>lhs;reduce:dC [] [] 0x4a558788c9354ca73a15559c440ac6c35e4f8ca90c4a608185f98d7970274c92ba2ef159f73af99fcc3c=_)
abbrev akA:=rP acV
def fm9:=(by conv=>lhs;reduce:dC [Ua,Ub,Uc] [Ya,Yb] 0x48d7997a5f16790cbc92cc396e7f63d98f4125cfde8c1adf1cc7c317202ff55856f8fed342b=_)
abbrev m9:=rP (fm9 (.sl 6 [] .exact) (.int .i64 5) (.bool true) akz akA)
def XE:aD pg 9 28 m9 [.t 10]:= .o2 Tryz.func9 (by kernel_rfl)
def c9 (hg:ae gl) (cat:List AV) (x:Xp) (key:Bytes) (rows:List Rw) (D E:List Ce) (s:Int) (hc:∀ v∈cat,Nm v) (hc4:cat.length=4) (hcb:aE cat=false) (hx:x.N) (hr:∀ r∈rows,r.N) (h1:1<=s) (h2:s<=1099511627776) (hkd:x.kd=5)
  (h27:Pure pg gl 27 [.agg cat,.sl 8 (rows.map Rw.av) .ai,.agg x.l,.str key] (.ok (.sl 6 ((aW D).map ec) .ai))) (h11:Pure pg gl 11 [.str x.op,.sl 6 ((aW D).map ec) .ai,.int .i64 s] (.ok (.sl 6 ((aW E).map ec) .ai))):
  Pure pg gl 9 [.agg cat,.sl 8 (rows.map Rw.av) .ai,.agg x.l,.str key,.int .i64 s] (.ok (.sl 6 ((aW E).map ec) .ai)):=by
 have hrn:∀ v∈rows.map Rw.av,Nm v:=fun v hv=>by
  obtain ⟨r,h,rfl⟩:=Ai.1 hv;exact Rw.nm (hr r h)
 have h26:=c26 (gl:=gl) s h1 h2;refine bw (Nm.cons (.agg hc) (Nm.cons (.sl hrn) (Nm.cons (Xp.nm hx) (Nm.cons (.str _) (Nm.cons (.int _ _) Nm.nil))))) (Nm.sl (iq _)).1 ?_;refine .aC XE (by simp) (ab 60 ?_);generalize hK:bI [RV.t 10] _=Q;unfold Xp.l at h27 ⊢;have c1:(4<=cat.length)=True:=eq_true (by omega);have c2:List.take 4 cat=cat:=AR (by omega);have hk5:(x.kd !=5)=false:=by rw [hkd];rfl
 have hnn:(!true)=false:=rfl;have hnt:(!false)=true:=rfl
 repeat' with_reducible first|refine ar ?_|refine au ?_|refine .pu (h26) hg rfl ?_|refine .pu (h27) hg rfl ?_|refine .pu (h11) hg rfl ?_|refine ⟨?_,?_⟩|intro _|simp only [go_sem,seval,c1,c2,hcb,hk5,hnn,hnt]
 all_goals first
  |(rw [<-hK];simp only [aM];done)
  |skip
 rw [<-hK];simp only [go_sem,seval];exact (Nm.sl (k:=6) (iq E)).2.1
def c9n (hg:ae gl) (cat:List AV) (x:Xp) (key:Bytes) (rows:List Rw) (s:Int) (hc:∀ v∈cat,Nm v) (hx:x.N) (hr:∀ r∈rows,r.N) (hkd:x.kd≠5):
  Pure pg gl 9 [.agg cat,.sl 8 (rows.map Rw.av) .ai,.agg x.l,.str key,.int .i64 s] (.ok (.sl 6 [] .ai)):=by
 have hrn:∀ v∈rows.map Rw.av,Nm v:=fun v hv=>by
  obtain ⟨r,h,rfl⟩:=Ai.1 hv;exact Rw.nm (hr r h)
 refine bw (Nm.cons (.agg hc) (Nm.cons (.sl hrn) (Nm.cons (Xp.nm hx) (Nm.cons (.str _) (Nm.cons (.int _ _) Nm.nil))))) (Nm.sl Nm.nil).1 ?_;refine .aC XE (by simp) (ab 60 ?_);unfold Xp.l;have hk5:(x.kd !=5)=true:=by simpa using hkd
 repeat' with_reducible first|refine ar ?_|refine au ?_|refine ⟨?_,?_⟩|intro _|simp only [go_sem,seval,hk5]
 exact rfl
def c11 (hg:ae gl) (op:List UInt8) (I:aP->Prop) (J:aP->aP->aP) (hJ:Jn gl op I J) (D:List Ce) (s:Int) (hs:1<=s) (hs2:s<=4611686018427387904) (hev:∀ c∈D,0<=c.1/\c.1<=1099511627776) (hD:iE D) (hok:∀ c∈D,I c.2) (hsz:eI D<=1000000) (hn:D.length<=100000):
  Pure pg gl 11 [.str op,.sl 6 ((aW D).map ec) .ai,.int .i64 s] (.ok (.sl 6 ((aW (bL J s D)).map ec) .ai)):=by
 cases D with
 |nil=>exact IA hg op s hs
 |cons c D=>exact abF hg op I J hJ c D s hs hs2 hev hD hok hsz (by simp at hn;omega)
def Wu:=(by conv=>lhs;reduce:dC [Ua] [] 0x11f8889cd45064d=_)
abbrev aem:=rP (Wu (.bool false))
def Wy:=(by conv=>lhs;reduce:dC [Ua,Ub] [] 0x510940d27a5017d2839eba444708364e252411118ff418dbfa24f99df1158348d81bb6693803f3428d3af1629d103cf3c156d653ce52376e69b9c4d9ac321309d06f=_)
def Jo:=rO (Wy (.bool false) (.int .i64 1))
def Wz:=(by conv=>lhs;reduce:dC [Ua,Ub] [] 0x178352be6b88c52b57157af5fdcfdfc740e975a6a3f4d6559c86e189fb648cb206f7509fcb0efa538899fd0c7626669fb5a14ba4610d2a3fe4dd9b9fdabeca1fd0199=_)
def Jp:=rO (Wz (.bool false) (.int .i64 1))
def Wv:=(by conv=>lhs;reduce:dC [Ua] [] 0x187970b45=_)
abbrev aen:=rP (Wv (.bool true))
def Ww:=(by conv=>lhs;reduce:dC [Ua] [Ya,Yb] 0x2159aabb2a02213e78d07=_)
abbrev aeo:=rP (Ww (.int .i64 0) Jp aen)
def Wx:=(by conv=>lhs;reduce:dC [Ua] [Ya,Yb] 0x150eae5360df3b9a1dd06=_)
abbrev aep:=rP (Wx (.int .i64 0) Jo aeo)
def agU:=(by conv=>lhs;reduce:dC [Ua,Ub] [Ya,Yb] 0x3eb83e891860fb7ffbdd096188502b46f2305b1b67dbf2402c6e880f0f1b2f9bbd41956db8d14efefa92c3747bdd56442e613501d37cf13a51bc3c4dbdc9a097d8dfc4896bf52e653fc41eb2130f18bd26ad189a42744d=_)
abbrev m28:=rP (agU (.bool false) (.bool true) aem aep)
def Xr:aD pg 28 73 m28 [.t 4]:= .o2 Tryz.func28 (by kernel_rfl)
def c28 (s:aP) (h1:s.cJ.length<=1000000) (h2:s.fQ.length<=1000000):Pure pg gl 28 [.agg s.l,.agg s.l] (.ok (.bool true)):=by
 refine bw (Nm.cons s.nm (Nm.cons s.nm Nm.nil)) (.bool true) (.aC Xr (by simp) (ab 60 ?_));generalize hK:bI [RV.t 4] _=Q;unfold aP.l;have e1:∀ z:Int,(z !=z)=false:=fun z=>by simp
 have e2:∀ z:Int,(z==z)=true:=fun z=>by simp
 have e3:∀ z:Bytes,(z==z)=true:=fun z=>by simp
 have e4:(!true)=false:=rfl
 repeat' with_reducible first|refine ar ?_|refine au ?_|refine ⟨?_,?_⟩|intro _|simp only [go_sem,seval,e1,e2,e3,e4,Ad]
 refine .dD s.cJ.length (fun i F S=>F=[(2,.ptr 0 0),(3,.ptr 1 0),(5,.int .i64 (i:Int))]/\S=⟨2,[(1,[.int .i64 s.n,.int .i64 s.hi,.int .u64 s.lo,.sl 6 (s.cJ.map It.av) .ai,.sl 2 (s.fQ.map iL) .ai]),(0,[.int .i64 s.n,.int .i64 s.hi,.int .u64 s.lo,.sl 6 (s.cJ.map It.av) .ai,.sl 2 (s.fQ.map iL) .ai])],0,[],gl⟩) ⟨rfl,rfl⟩ ?_;rintro i F S hi ⟨rfl,rfl⟩ ih
 by_cases h:i<s.cJ.length
 ·obtain ⟨x,hx⟩:=aK h;have hxm:(s.cJ.map It.av)[i]? =some (.agg [.int .i64 x.v.kd,.int .i64 x.v.n,.str x.v.s,.str x.src,.int .i64 x.seq,.int .i64 x.n]):=by rw [Ap,hx];rfl
  refine bp Jo.eq_1 ?_
  repeat' first
   |with_reducible first|refine ar ?_|refine au ?_|refine ⟨?_,?_⟩|intro _
   |simp only [go_sem,seval,hxm,e1,e2,e3,e4,fk h,eD h,Ad,ba (show i<9223372036854775807 by omega),BR]
  all_goals first
   |(rw [<-hK];simp only [aM];done)
   |skip
  exact ih h _ _ ⟨rfl,rfl⟩
 ·refine bp Jo.eq_1 ?_
  repeat' first
   |with_reducible first|refine ar ?_|refine au ?_|refine ⟨?_,?_⟩|intro _
   |simp only [go_sem,seval,fE (Am h),Ad]
  refine .dD s.fQ.length (fun i F S=>F=[(2,.ptr 0 0),(3,.ptr 1 0),(6,.int .i64 (i:Int))]/\S=⟨2,[(1,[.int .i64 s.n,.int .i64 s.hi,.int .u64 s.lo,.sl 6 (s.cJ.map It.av) .ai,.sl 2 (s.fQ.map iL) .ai]),(0,[.int .i64 s.n,.int .i64 s.hi,.int .u64 s.lo,.sl 6 (s.cJ.map It.av) .ai,.sl 2 (s.fQ.map iL) .ai])],0,[],gl⟩) ⟨rfl,rfl⟩ ?_;rintro j F S hj ⟨rfl,rfl⟩ ih2
  by_cases h3:j<s.fQ.length
  ·obtain ⟨x,hx⟩:=aK h3;have hxm:(s.fQ.map iL)[j]? =some (.agg [.int .i64 x.1,.int .i64 x.2]):=by rw [Ap,hx];rfl
   refine bp Jp.eq_1 ?_
   repeat' first
    |with_reducible first|refine ar ?_|refine au ?_|refine ⟨?_,?_⟩|intro _
    |simp only [go_sem,seval,hxm,e1,e2,e3,e4,fk h3,eD h3,Ad,ba (show j<9223372036854775807 by omega),BR]
   all_goals first
    |(rw [<-hK];simp only [aM];done)
    |skip
   exact ih2 h3 _ _ ⟨rfl,rfl⟩
  ·refine bp Jp.eq_1 ?_
   repeat' first
    |with_reducible first|refine ar ?_|refine au ?_|refine ⟨?_,?_⟩|intro _
    |simp only [go_sem,seval,fE (Am h3),Ad]
   rw [<-hK];simp only [go_sem,seval];exact rfl
def Wi:=(by conv=>lhs;reduce:dC [Ua] [] 0x1727ef0bef6265a=_)
abbrev aef:=rP (Wi (.bool false))
def Wj:=(by conv=>lhs;reduce:dC [Ua] [] 0x4dceb1238774487d29=_)
abbrev aeg:=rP (Wj (.int .i64 1))
def Wl:=(by conv=>lhs;reduce:dC [Ua] [Ya,Yb] 0x7d9777a6b3e461cacf7b5aa07c1ad36cbdbb9914bde5b1234829e61e0611f0e6c695e6595940e0d6eb5ae07bd9d91ec35d11c6157748602e3e9354b95a38467a3587456e42fdb2183be913bee324347358a727a6bc27d05a=_)
def Jj:=rO (Wl (.bool true) aef aeg)
def Wk:=(by conv=>lhs;reduce:dC [Ua] [] 0x187970b45=_)
abbrev aeh:=rP (Wk (.bool true))
def agP:=(by conv=>lhs;reduce:dC [Ua,Ub] [Ya,Yb] 0x6a2244a340118377fec2024bbbf5cc8296e33b45b8148eaf953f63eeb41b=_)
abbrev m10:=rP (agP (.bool false) (.int .i64 0) Jj aeh)
def Xn:aD pg 10 42 m10 [.t 4]:= .o2 Tryz.func10 (by kernel_rfl)
def c10 (hg:ae gl) (D:List Ce) (h1:D.length<=1000000) (h2:∀ c∈D,sz c.2<=1000000):Pure pg gl 10 [.sl 6 ((aW D).map ec) .ai,.sl 6 ((aW D).map ec) .ai] (.ok (.bool true)):=by
 refine bw (Nm.cons (.sl (iq D)) (Nm.cons (.sl (iq D)) Nm.nil)) (.bool true) (.aC Xn (by simp) (ab 60 ?_));generalize hK:bI [RV.t 4] _=Q;have e1:∀ z:Int,(z !=z)=false:=fun z=>by simp
 have e4:(!true)=false:=rfl;obtain ⟨X,hX⟩:∃ X,X=(aW D).map ec:=⟨_,rfl⟩;have hXl:X.length=D.length:=by rw [hX];unfold aW;rw [Ad,Ad]
 rw [<-hX]
 repeat' with_reducible first|refine ar ?_|refine au ?_|refine ⟨?_,?_⟩|intro _|simp only [go_sem,seval,e1]
 refine .dD X.length (fun i F S=>F=[(0,.sl 6 X .ai),(1,.sl 6 X .ai),(5,.int .i64 (i:Int))]/\S= .none gl) ⟨rfl,rfl⟩ ?_;rintro i F S hi ⟨rfl,rfl⟩ ih
 by_cases h:i<X.length
 ·obtain ⟨c,hc⟩:∃ c,D[i]? =some c:=aK (by omega);have hxm:X[i]? =some (.agg (.int .i64 c.1::c.2.l)):=by rw [hX,Ap,jd,hc];rfl
  have hcm:=h2 c (Aj hc);unfold sz at hcm;have h28:=c28 (gl:=gl) c.2 (by omega) (by omega);have hX5:(5<=c.2.l.length)=True:=eq_true (Af 5);have hXt:List.take 5 c.2.l=c.2.l:=rfl;refine bp Jj.eq_1 ?_
  repeat' first
   |with_reducible first|refine ar ?_|refine au ?_|refine .pu (h28) hg rfl ?_|refine ⟨?_,?_⟩|intro _
   |simp only [go_sem,seval,hxm,e1,e4,hX5,hXt,fk h,eD h,ba (show i<9223372036854775807 by omega)]
  all_goals first
   |(rw [<-hK];simp only [aM];done)
   |skip
  exact ih h _ _ ⟨rfl,rfl⟩
 ·refine bp Jj.eq_1 ?_
  repeat' first
   |with_reducible first|refine ar ?_|refine au ?_|refine ⟨?_,?_⟩|intro _
   |simp only [go_sem,seval,fE (Am h)]
  rw [<-hK];simp only [go_sem,seval];exact rfl
def px (D:List Ce):Int:=D.foldl (fun n c=>IntKind.i64.wrap (n+c.2.n)) 0
def Wr:=(by conv=>lhs;reduce:dC [Ua] [] 0x7136890cf20cec620f1018ef195beca312bd74b5f9ebf618df0ce8639bce05f0e3f0fce99d02b=_)
def Jl:=rO (Wr (.int .i64 1))
def Wq:=(by conv=>lhs;reduce:dC [] [] 0x85d72744df42c=_)
abbrev aek:=rP Wq
def agR:=(by conv=>lhs;reduce:dC [Ua] [Ya,Yb] 0x137afdc714f5418d5acb1abb56d345=_)
abbrev m12:=rP (agR (.int .i64 0) Jl aek)
def aji:aD pg 12 20 m12 [.t 2]:= .o2 Tryz.func12 (by kernel_rfl)
def VG (hg:ae gl) (D:List Ce) (h1:D.length<=1000000):Pure pg gl 12 [.sl 6 ((aW D).map ec) .ai] (.ok (.int .i64 (px D))):=by
 refine bw (Nm.cons (.sl (iq D)) Nm.nil) (.int _ _) (.aC aji (by simp) (ab 60 ?_));generalize hK:bI [RV.t 2] _=Q;obtain ⟨X,hX⟩:∃ X,X=(aW D).map ec:=⟨_,rfl⟩;have hXl:X.length=D.length:=by rw [hX];unfold aW;rw [Ad,Ad]
 rw [<-hX]
 repeat' with_reducible first|refine ar ?_|refine au ?_|refine ⟨?_,?_⟩|intro _|simp only [go_sem,seval]
 refine .dD X.length (fun i F S=>∃ n,F=[(0,.sl 6 X .ai),(3,.int .i64 n),(4,.int .i64 (i:Int))]/\S= .none gl/\(D.drop i).foldl (fun n c=>IntKind.i64.wrap (n+c.2.n)) n=px D) ⟨0,rfl,rfl,rfl⟩ ?_;rintro i F S hi ⟨n,rfl,rfl,he⟩ ih
 by_cases h:i<X.length
 ·obtain ⟨c,hc⟩:∃ c,D[i]? =some c:=aK (by omega);rw [bY hc,List.foldl_cons] at he;have hxm:X[i]? =some (.agg (.int .i64 c.1::c.2.l)):=by rw [hX,Ap,jd,hc];rfl
  have hX0:c.2.l[0]? =some (.int .i64 c.2.n):=rfl;have hX1:(AV.int .i64 c.1::c.2.l)[1]? =some (.int .i64 c.2.n):=rfl;refine bp Jl.eq_1 ?_
  repeat' first
   |with_reducible first|refine ar ?_|refine au ?_|refine ⟨?_,?_⟩|intro _
   |simp only [go_sem,seval,hxm,hX0,hX1,fk h,eD h,ba (show i<9223372036854775807 by omega)]
  exact ih h _ _ ⟨_,rfl,rfl,he⟩
 ·refine bp Jl.eq_1 ?_
  repeat' first
   |with_reducible first|refine ar ?_|refine au ?_|refine ⟨?_,?_⟩|intro _
   |simp only [go_sem,seval,fE (Am h)]
  rw [AE (by omega)] at he;rw [<-hK,<-he];simp only [go_sem,seval];exact rfl
def agJ (hg:ae gl) (op:List UInt8) (hf:iN op=none) (ps:List Pk) (t:bE) (N nt:Nat) (ob:List (Nat×List AV)) (lv:List Nat):
  ao pg 99 [.str op,.sl 6 [] .exact,.sl 9 (ps.map Pk.av) t] ⟨N,ob,nt,lv,gl⟩ fun o S'=>o= .ok (.sl 6 [] .exact):=by
 have h138:=VH (gl:=gl) hg op;rw [hf] at h138;refine .aC XF (by simp) (ab 60 ?_)
 repeat' with_reducible first|refine ar ?_|refine au ?_|refine .pu (h138) hg rfl ?_|refine ⟨?_,?_⟩|intro _|simp only [go_sem,seval,Option.isSome_none]
def agH (hg:ae gl) (op:List UInt8) (hf:iN op=none) (ps:List Pk) (key:Bytes) (tick:Int) (hn:ps.length<=100000) (hk:∀ p∈ps,p.key=key/\p.tick<=tick):
  Pure pg gl 62 [.str op,.sl 9 (ps.map Pk.av) .ai,.str key,.int .i64 tick] (.ok (.sl 6 [] .ai)):=by
 refine bw (Nm.cons (.str _) (Nm.cons (.sl (QO ps)) (Nm.cons (.str _) (Nm.cons (.int _ _) Nm.nil)))) OF.1 ?_;refine .aC Od (by simp) (ab 60 ?_);generalize hK:bI _ _=Q;have h100:=fun t nt lv=>VD (gl:=gl) [.ptr 0 0,.ptr 1 0] ps t 2 nt [(1,[.int .i64 tick]),(0,[.str key])] lv (by omega) fun N' nt' hN x hx=>VE hg x key tick 0 1 N' nt' _ lv (.cons (.cons (.nil _) (by omega)) (by omega)) rfl rfl (hk x hx).1 (hk x hx).2;have h99:=fun t N nt lv=>agJ (gl:=gl) hg op hf ps t N nt [(1,[.int .i64 tick]),(0,[.str key])] lv;rcases ps with _|⟨x,xs⟩
 ·have h101:Pure pg gl 101 [.sl 9 [] .ai] (.ok (.sl 9 [] .exact)):=Kw;rw [Az] at h100 h99;rw [Az]
  repeat' with_reducible first|refine ar ?_|refine au ?_|refine .pu (h101) hg rfl ?_|refine bS (h100 _ _ _) fun _ _ _=>?_|refine cw (h100 _ _ _) (fun _ _ _=>by first|exact (fun h=>(by cases h))|(first|exact of_eq_true bh|simp only [cT,cA,eS,bh,and_self])) fun _ _ _=>?_|refine ⟨?_,?_⟩|intro _|simp only [go_sem,seval]
  refine ao.mono (h99 _ _ _ _) fun o S' ho=>?_;subst ho
  repeat' with_reducible first|refine ar ?_|refine au ?_|refine ⟨?_,?_⟩|intro _|simp only [go_sem,seval]
  rw [<-hK];simp only [go_sem,seval];exact rfl
 ·have h101:=t101 (gl:=gl) x xs (by simp at hn;omega) 2 0 [(1,[.int .i64 tick]),(0,[.str key])] [];obtain ⟨X,hX⟩:∃ X,X=(x::xs).map Pk.av:=⟨_,rfl⟩;rw [<-hX] at h100 h99 h101 ⊢
  repeat' with_reducible first|refine ar ?_|refine au ?_|refine bt.fY (h101) ?_|refine bS (h100 _ _ _) fun _ _ _=>?_|refine cw (h100 _ _ _) (fun _ _ _=>by first|exact (fun h=>(by cases h))|(first|exact of_eq_true bh|simp only [cT,cA,eS,bh,and_self])) fun _ _ _=>?_|refine ⟨?_,?_⟩|intro _|simp only [go_sem,seval]
  refine ao.mono (h99 _ _ _ _) fun o S' ho=>?_;subst ho
  repeat' with_reducible first|refine ar ?_|refine au ?_|refine ⟨?_,?_⟩|intro _|simp only [go_sem,seval]
  rw [<-hK];simp only [go_sem,seval];exact rfl
def Wh {s e:Int} (hs:0<s) (he:0<=e):0<=cr s e/\cr s e<=e:=by
 unfold cr;have h0:=Bw e (show s≠0 by omega);have h7:=Bm e s;have h8:0<=e/s:=Bv he (by omega);have h9:0<=s*(e/s):=Bx (by omega) h8;omega
def Wg {s y e:Int} (hs:0<s):(cr s y<=e/\e<cr s y+s)↔cr s y=cr s e:=by
 unfold cr;have a1:=Bm y s;have a2:=Bm e s;have b1:=Bw e (show s≠0 by omega);have b2:=BU e hs;constructor
 ·rintro ⟨h1,h2⟩
  have h3:y/s=e/s:=by
   rcases Int.lt_trichotomy (y/s) (e/s) with h|h|h
   ·have:s*(y/s+1)<=s*(e/s):=Cd (by omega) (by omega);rw [Int.mul_add,Int.mul_one] at this;omega
   ·exact h
   ·have:s*(e/s+1)<=s*(y/s):=Cd (by omega) (by omega);rw [Int.mul_add,Int.mul_one] at this;omega
  rw [h3] at a1;omega
 ·intro h;omega
def qL {P:Ce->Prop} {J:aP->aP->aP} (hJ:∀ e a b,P (e,a)->(∃ e',P (e',b))->P (e,J a b)):∀ (r:List Ce) (c:Ce),P c->(∀ x∈r,P x)->∀ x∈bN J c r,P x
 |[],c,hc,_,x,hx=>by rw [Ay.1 hx];exact hc
 |d::r,c,hc,hr,x,hx=>by
  unfold bN at hx;have hd:=hr d (by simp);have hr':∀ y∈r,P y:=fun y hy=>hr y (by simp [hy]);split at hx
  ·exact qL hJ r _ (hJ _ _ _ hc ⟨d.1,hd⟩) hr' x hx
  ·rcases Ab.1 hx with rfl|hx
   ·exact hc
   ·exact qL hJ r d hd hr' x hx
def qO {J:aP->aP->aP} (hJ:∀ a b,sz (J a b)<=sz a+sz b):∀ (r:List Ce) (c:Ce),eI (bN J c r)<=eI (c::r)/\(bN J c r).length<=r.length+1
 |[],c=>⟨Af _,Af _⟩
 |d::r,c=>by
  unfold bN;split
  ·have ih:=qO hJ r (c.1,J c.2 d.2);have:=hJ c.2 d.2;simp only [ij] at ih ⊢;refine ⟨?_,?_⟩
   ·have h1:sz (c.1,J c.2 d.2).2=sz (J c.2 d.2):=rfl;omega
   ·simp only [List.length_cons];omega
  ·have ih:=qO hJ r d;simp only [ij,List.length_cons] at ih ⊢;omega
def re {I:aP->Prop} {J:aP->aP->aP} (hI:∀ a b,I a->I b->I (J a b)) (hz:∀ a b,sz (J a b)<=sz a+sz b) {s:Int} (hs:1<=s) {D:List Ce} (hA:iE D) (hev:∀ c∈D,0<=c.1/\c.1<=1099511627776) (hi:∀ c∈D,I c.2):
  iE (bL J s D)/\fW (bL J s D)/\(∀ c∈bL J s D,0<=c.1/\c.1<=1099511627776)/\(∀ c∈bL J s D,I c.2)/\eI (bL J s D)<=eI D/\(bL J s D).length<=D.length:=by
 have h1:=u9 J (s:=s) (by omega) hA
 have hasc:∀ {C:List Ce},fW C->iE C:=fun {C}=>by
  induction C with
  |nil=>exact fun h=>h
  |cons a D ih=>
   cases D with
   |nil=>exact fun h=>trivial
   |cons b D=>exact fun h=>⟨Bn h.1,ih h.2⟩
 refine ⟨hasc h1,h1,fun c hc=>?_,?_,?_⟩
 ·obtain ⟨x,hx,he⟩:=(mL J s c.1 D).1 ⟨c,hc,rfl⟩;have h2:=hev x hx;have h3:=Wh (s:=s) (by omega) h2.1;rw [<-he];omega
 ·unfold bL bK
  cases D with
  |nil=>exact fun c hc=>(by cases hc)
  |cons c D=>
   refine qL (P:=fun c=>I c.2) (fun e a b ha hb=>hI a b ha hb.choose_spec) _ _ (hi c (by simp)) fun x hx=>?_;obtain ⟨d,hd,rfl⟩:=Ai.1 hx;exact hi d (by simp [hd])
 ·have hszf:∀ D:List Ce,eI (bK s D)=eI D:=fun D=>by
   unfold eI bK;rw [AY];rfl
  unfold bL;rw [<-hszf D]
  cases D with
  |nil=>exact ⟨Af _,Af _⟩
  |cons c D=>
   have:=qO hz (bK s D) (cr s c.1,c.2);refine ⟨this.1,?_⟩;have h2:=this.2;unfold bK at h2;rw [Ad] at h2;exact h2
def vT (s e:Int) (n:Int) (c:Ce):Int:=if c.1<=e/\e<c.1+s then IntKind.i64.wrap (n+1) else n
def Fo {s e v:Int}:∀ {C:List Ce} (n:Int),fW C->(∀ c∈C,(c.1<=e/\e<c.1+s)↔c.1=v)->C.foldl (vT s e) n=if ∃ c∈C,c.1=v then IntKind.i64.wrap (n+1) else n
 |[],n,_,_=>by simp
 |c::C,n,hS,h=>by
  have hc:=h c (by simp);have hC:∀ d∈C,(d.1<=e/\e<d.1+s)↔d.1=v:=fun d hd=>h d (by simp [hd]);rw [List.foldl_cons,Fo _ hS.tail hC];unfold vT
  by_cases hv:c.1=v
  ·have hn: ¬∃ d∈C,d.1=v:=by
    rintro ⟨d,hd,hdv⟩;obtain ⟨i,hi⟩:=Bo hd;have:=fW.lt hS hi;omega
   rw [if_neg hn,if_pos (hc.2 hv),if_pos ⟨c,by simp,hv⟩]
  ·rw [if_neg fun h2=>hv (hc.1 h2)]
   by_cases hn:∃ d∈C,d.1=v
   ·obtain ⟨d,hd,hdv⟩:=hn;rw [if_pos ⟨d,hd,hdv⟩,if_pos ⟨d,by simp [hd],hdv⟩]
   ·rw [if_neg hn,if_neg];rintro ⟨d,hd,hdv⟩;rcases Ab.1 hd with rfl|hd
    ·exact hv hdv
    ·exact hn ⟨d,hd,hdv⟩
def Uz (J:aP->aP->aP) {s:Int} (hs:1<=s) {D:List Ce} (hA:iE D) {c:Ce} (hc:c∈bL J 1 D):(bL J s D).foldl (vT s c.1) 0=1:=by
 obtain ⟨x,hx,he⟩:=(mL J 1 c.1 D).1 ⟨c,hc,rfl⟩;have h1:cr 1 x.1=x.1:=by unfold cr;omega
 rw [<-he,h1];rw [Fo (v:=cr s x.1) 0 (u9 J (by omega) hA) fun d hd=>?_]
 ·obtain ⟨y,hy,hye⟩:=(mL J s (cr s x.1) D).2 ⟨x,hx,rfl⟩;rw [if_pos ⟨y,hy,hye⟩];rfl
 ·obtain ⟨y,hy,hye⟩:=(mL J s d.1 D).1 ⟨d,hd,rfl⟩;rw [<-hye];exact Wg (by omega)
def wv {J:aP->aP->aP} (hn:∀ a b,(J a b).n=IntKind.i64.wrap (a.n+b.n)) (s:Int) (D:List Ce):(bL J s D).foldl (fun n c=>IntKind.i64.wrap (n+c.2.n)) 0=D.foldl (fun n c=>IntKind.i64.wrap (n+c.2.n)) 0:=
 N6 (fun c:aP=>c.n) (fun a b=>by
  show IntKind.i64.wrap (J a b).n=_
  rw [hn,Dx]) s D 0
structure yG (gl:List (Nat×List AV)) (cat:List AV) (x:Xp) (rows:List Rw) (key:Bytes) (D:List Ce) (I:aP->Prop) (J:aP->aP->aP):Prop where
 jo:iE D
 ev:∀ c∈D,0<=c.1/\c.1<=1099511627776
 iv:∀ c∈D,I c.2
 eI:eI D<=1000000
 len:D.length<=100000
 jn:D≠[]->Jn gl x.op I J
 assoc:∀ a b c,I a->I b->I c->J (J a b) c=J a (J b c)
 cl:∀ a b,I a->I b->I (J a b)
 size:∀ a b,sz (J a b)<=sz a+sz b
 n:∀ a b,(J a b).n=IntKind.i64.wrap (a.n+b.n)
 call:∀ s,1<=s->s<=1099511627776->Pure pg gl 9 [.agg cat,.sl 8 (rows.map Rw.av) .ai,.agg x.l,.str key,.int .i64 s] (.ok (.sl 6 ((aW (bL J s D)).map ec) .ai))
def yG.merge (hg:ae gl) {cat:List AV} {x:Xp} {rows:List Rw} {key:Bytes} {D:List Ce} {I:aP->Prop} {J:aP->aP->aP} (h:yG gl cat x rows key D I J) {s f:Int} (hs:1<=s/\s<=1048576) (hf:1<=f/\f<=1048576):
  Pure pg gl 11 [.str x.op,.sl 6 ((aW (bL J s D)).map ec) .ai,.int .i64 (s*f)] (.ok (.sl 6 ((aW (bL J (s*f) D)).map ec) .ai)):=by
 have h1:1<=s*f:=by
  have:=Cc hs.1 hf.1 (by omega) (by omega);omega
 have h2:s*f<=1048576*1048576:=Cc hs.2 hf.2 (by omega) (by omega);have hn:=zW (j:=J) (I:=I) h.cl h.assoc (s:=s) (f:=f) (by omega) (by omega) D h.iv;obtain ⟨m1,m2,m3,m4,m5,m6⟩:=re h.cl h.size hs.1 h.jo h.ev h.iv;have h3:=h.eI;have h4:=h.len
 by_cases hD:D=[]
 ·subst hD;exact IA hg x.op (s*f) h1
 ·have:=c11 hg x.op I J (h.jn hD) (bL J s D) (s*f) h1 (by omega) m3 m1 m4 (by omega) (by omega);rw [hn] at this;exact this
def acz:=(by conv=>lhs;reduce:dC [Ua] [] 0x1f84939c3948669=_)
abbrev akg:=rP (acz (.bool true))
def acA:=(by conv=>lhs;reduce:dC [Ua] [] 0x205287cbaa04a363e35791fb36e708c66628d=_)
abbrev akh:=rP (acA (.int .i64 1))
def acB:=(by conv=>lhs;reduce:dC [Ua] [] 0x5498f275f0db48c9448589fed6fd1d9=_)
abbrev aki:=rP (acB (.int .i64 1))
def acG:=(by conv=>lhs;reduce:dC [Ua] [Ya,Yb] 0x43f28a8ff895cbb03e774cb8b7c2142cfb5338bca3f4fba0c2340b8a6f63f9fb91dca56e6ed61f7d877169e08fc61696b43a7c16cfbd4d165ae986a1733cf91f0628c90d5d3bdbb353f6fc917ca198dabf4b72d540f56e25ede701d875c264fb90abd028b=_)
def Ow:=rO (acG (.bool false) akh aki)
def acC:=(by conv=>lhs;reduce:dC [Ua,Ub] [] 0x990eb8da6eb79893726d10b8f11eacf83a7428f=_)
abbrev akj:=rP (acC (.int .i64 1) (.bool false))
def acD:=(by conv=>lhs;reduce:dC [Ua] [] 0x14aff217957fce1dd6d84ddd1cb=_)
abbrev akk:=rP (acD (.int .i64 1))
def acH:=(by conv=>lhs;reduce:dC [Ua] [Ya,Yb,Yc] 0xd06b16ced7f1d290082910d45b7a2a1098e20dcb8500c4e300e4afa19ec012216589d01c9=_)
def Ox:=rO (acH (.int .i64 0) Ow akj akk)
def acE:=(by conv=>lhs;reduce:dC [Ua] [] 0xf6b2554f933e098a30068ca67d50edfe2df89f331b5ae28a322d2671999c9a64cb1d81f42ab=_)
abbrev akl:=rP (acE (.bool false))
def acF:=(by conv=>lhs;reduce:dC [Ua,Ub,Uc,Ud,Ue,Uf,Ug,Uh,Ui] [Ya,Yb] 0x16868883fe8dce597d901fe114011a3f8cb6e4cf2e135b03faafcd734b67faf5427fb7423e55e814dd3b084d9ac108b6b5702b0ce92e6d94668a008d99a40db2d71272712a9d906c2ba736ca5bcc693072120c09fdb612901801257cf5949470f0b43c12ea81c3739e303345c129289e14fb01bd0b9bf350204112b445243b5b65095768c57c7f907c3bea46326f480057616479d44308020e4abdce7963d80f12acea2cc54b9614b4f20e66adbb29330d01d464f3ab4b928509e0c2d933e45579c4389d0ce341bd=_)
abbrev akm:=rP (acF (.int .i64 0) (.str []) (.sl 2 [] .exact) (.sl 12 [] .exact) (.bool true) (.sl 4 [] .exact) (.sl 18 [] .exact) (.bool false) (.int .i64 1) Ox akl)
def fm3:=(by conv=>lhs;reduce:dC [Ua,Ub,Uc,Ud,Ue] [Ya,Yb] 0x1d9833b417f92a06ece58c4576723e73377c72ca2b75848e11125359b93b6b5bfcf1afbd9c9ac416084076c7f2c1251ad108795e96a3dd713db395e138fedc6af1d2825b80b7be99937dd17a1ae75c65fbac412c0c00d1ab469=_)
abbrev m3:=rP (fm3 (.bool false) (.int .i64 100) (.bool true) (.int .i64 1) (.int .i64 1048576) akg akm)
def is3:aD pg 3 147 m3 [.t 12]:= .o2 Tryz.func3 (by kernel_rfl)
def c3 (hg:ae gl) (lA:AV) (tick n size factor:Int) (key:Bytes) (b5:Bool) (hl:Nm lA) (h4:Pure pg gl 4 [] (.ok (.bool true))) (h5:Pure pg gl 5 [lA] (.ok (.bool b5)))
  (h:b5=true->key.length<=100->∃ (x:Xp) (b6:Bool),x.N/\Pure pg gl 6 [lA,.int .i64 tick,.int .i64 n] (.ok (.aF [.agg x.l,.bool b6]))/\(b6=true->∃ (cat:List AV) (rows:List Rw) (D:List Ce) (I:aP->Prop) (J:aP->aP->aP),cat.length=4/\aE cat=false/\Pure pg gl 7 [lA,.int .i64 tick] (.ok (.agg cat))/\Pure pg gl 8 [lA,.int .i64 tick] (.ok (.sl 8 (rows.map Rw.av) .ai))/\yG gl cat x rows key D I J)):
  Pure pg gl 3 [lA,.int .i64 tick,.int .i64 n,.str key,.int .i64 size,.int .i64 factor] (.ok (.bool true)):=by
 refine bw (Nm.cons hl (Nm.cons (.int _ _) (Nm.cons (.int _ _) (Nm.cons (.str _) (Nm.cons (.int _ _) (Nm.cons (.int _ _) Nm.nil)))))) (.bool true) ?_;refine .aC is3 (by simp) (ab 60 ?_);generalize hK:bI [RV.t 12] _=Q;have nt:(!true)=false:=rfl;have nf:(!false)=true:=rfl
 by_cases hc:b5=true/\key.length<=100/\1<=size/\size<=1048576/\1<=factor/\factor<=1048576
 ·obtain ⟨rfl,hk,hs1,hs2,hf1,hf2⟩:=hc;obtain ⟨x,b6,hx,h6,hr⟩:=h rfl hk;have d1:decide ((key.length:Int)>100)=false:=decide_eq_false (by omega);have d2:decide (size<1)=false:=decide_eq_false (by omega);have d3:decide (size>1048576)=false:=decide_eq_false (by omega);have d4:decide (factor<1)=false:=decide_eq_false (by omega);have d5:decide (factor>1048576)=false:=decide_eq_false (by omega);have d1':decide (100<(key.length:Int))=false:=decide_eq_false (by omega);have d3':decide (1048576<size)=false:=decide_eq_false (by omega);have d5':decide (1048576<factor)=false:=decide_eq_false (by omega);unfold Xp.l at h6
  cases b6 with
  |false=>
   repeat' with_reducible first|refine ar ?_|refine au ?_|refine .pu (h4) hg rfl ?_|refine .pu (h5) hg rfl ?_|refine .pu (h6) hg rfl ?_|refine ⟨?_,?_⟩|intro _|simp only [go_sem,seval,nt,nf,d1,d2,d3,d4,d5,d1',d3',d5']
   rw [<-hK];simp only [go_sem,seval];exact rfl
  |true=>
   obtain ⟨cat,rows,D,I,J,hc4,hcb,h7,h8,hC⟩:=hr rfl;have c1:(cat.length==4)=true:=by rw [hc4];rfl
   have c2:List.drop cat.length [AV.sl 4 [] .exact,.sl 18 [] .exact,.sl 18 [] .exact,.sl 18 [] .exact]=[]:=AE (by rw [hc4];decide);have c3:(4<=cat.length)=True:=eq_true (by omega);have c4:List.take 4 cat=cat:=AR (by omega)
   have m1:1<=size*factor:=by
    have:=Cc hs1 hf1 (by omega) (by omega);omega
   have m2:size*factor<=1048576*1048576:=Cc hs2 hf2 (by omega) (by omega);have mw:IntKind.i64.wrap (size*factor)=size*factor:=by rw [IntKind.wrap_i64];omega
   have k1:=hC.call size hs1 (by omega);have k2:=hC.call (size*factor) m1 (by omega);have k3:=hC.call 1 (by omega) (by omega);have k4:=hC.merge hg ⟨hs1,hs2⟩ ⟨hf1,hf2⟩;have hSz:=hC.eI;have hLen:=hC.len;have o1:=re hC.cl hC.size hs1 hC.jo hC.ev hC.iv;have o2:=re hC.cl hC.size m1 hC.jo hC.ev hC.iv;have o3:=re hC.cl hC.size (s:=1) (by omega) hC.jo hC.ev hC.iv
   have hsz:∀ (C:List Ce) c,c∈C->sz c.2<=Go.Proofs.YtoopnalhhfmgaaaGreatDoor.eI C:=fun C c hc=>by
    obtain ⟨A,B,rfl⟩:=List.append_of_mem hc;rw [ni,ij];omega
   have k5:=c10 hg (bL J (size*factor) D) (by omega) fun c hc=>AH (hsz _ _ hc) (by omega);have k6:=VG hg (bL J 1 D) (by omega);have k7:=VG hg (bL J size D) (by omega);have k8:=VG hg (bL J (size*factor) D) (by omega);have t1:px (bL J 1 D)=px D:=wv hC.n 1 D;have t2:px (bL J size D)=px D:=wv hC.n size D;have t3:px (bL J (size*factor) D)=px D:=wv hC.n (size*factor) D;rw [t1] at k6;rw [t2] at k7;rw [t3] at k8;unfold Xp.l at k1 k2 k3
   repeat' with_reducible first|refine ar ?_|refine au ?_|refine .pu (h4) hg rfl ?_|refine .pu (h5) hg rfl ?_|refine .pu (h6) hg rfl ?_|refine .pu (h7) hg rfl ?_|refine .pu (h8) hg rfl ?_|refine .pu (k1) hg rfl ?_|refine .pu (k2) hg rfl ?_|refine .pu (k3) hg rfl ?_|refine .pu (k4) hg rfl ?_|refine .pu (k5) hg rfl ?_|refine .pu (k6) hg rfl ?_|refine .pu (k7) hg rfl ?_|refine .pu (k8) hg rfl ?_|refine ⟨?_,?_⟩|intro _|simp only [go_sem,seval,nt,nf,d1,d2,d3,d4,d5,d1',d3',d5',c1,c2,c3,c4,hcb,mw]
   obtain ⟨X1,hX1⟩:∃ X1,X1=(aW (bL J size D)).map ec:=⟨_,rfl⟩;obtain ⟨X3,hX3⟩:∃ X3,X3=(aW (bL J 1 D)).map ec:=⟨_,rfl⟩;obtain ⟨C1,hC1⟩:∃ C1,C1=bL J size D:=⟨_,rfl⟩;obtain ⟨C3,hC3⟩:∃ C3,C3=bL J 1 D:=⟨_,rfl⟩
   have hmet:∀ c∈C3,C1.foldl (vT size c.1) 0=1:=fun c hc=>by
    rw [hC1];rw [hC3] at hc;exact Uz J hs1 hC.jo hc
   rw [<-hC1] at hX1 k7 o1;rw [<-hC3] at hX3 k6 o3;rw [<-hC1,<-hC3,<-hX1,<-hX3];rw [<-hX1] at k7;rw [<-hX3] at k6;have hl1:X1.length=C1.length:=by rw [hX1];unfold aW;rw [Ad,Ad]
   have hl3:X3.length=C3.length:=by rw [hX3];unfold aW;rw [Ad,Ad]
   have n1:C1.length<=100000:=by have:=o1.2.2.2.2.2;omega
   have n3:C3.length<=100000:=by have:=o3.2.2.2.2.2;omega
   refine .forget ?_;refine .dD X3.length (fun i F S=>F=[(4,.int .i64 size),(17,.sl 6 X1 .ai),(18,.sl 6 ((aW (bL J (size*factor) D)).map ec) .ai),(19,.sl 6 X3 .ai),(20,.int .i64 (i:Int))]/\S=⟨2,[],0,[],gl⟩) ⟨rfl,rfl⟩ ?_;rintro i F S hi ⟨rfl,rfl⟩ ih
   by_cases h:i<X3.length
   ·obtain ⟨c,hci⟩:∃ c,C3[i]? =some c:=aK (by omega);have hcm:=Aj hci;have hxm:X3[i]? =some (.agg (.int .i64 c.1::c.2.l)):=by rw [hX3,Ap,jd,hci];rfl
    refine bp Ox.eq_1 ?_
    repeat' with_reducible first|refine ar ?_|refine au ?_|refine ⟨?_,?_⟩|intro _|simp only [go_sem,seval,fk h,eD h]
    refine .dD X1.length (fun k F S=>∃ met,F=[(4,.int .i64 size),(17,.sl 6 X1 .ai),(18,.sl 6 ((aW (bL J (size*factor) D)).map ec) .ai),(19,.sl 6 X3 .ai),(20,.int .i64 (i:Int)),(21,.int .i64 met),(22,.int .i64 (k:Int))]/\S=⟨2,[],0,[],gl⟩/\(C1.drop k).foldl (vT size c.1) met=1) ⟨0,rfl,rfl,hmet c hcm⟩ ?_;rintro k F S hkk ⟨met,rfl,rfl,hm⟩ ih2
    by_cases h2:k<X1.length
    ·obtain ⟨d,hdk⟩:∃ d,C1[k]? =some d:=aK (by omega);rw [bY hdk,List.foldl_cons] at hm;have hdm:X1[k]? =some (.agg (.int .i64 d.1::d.2.l)):=by rw [hX1,Ap,jd,hdk];rfl
     have hdv:=o1.2.2.1 d (Aj hdk);have hw:IntKind.i64.wrap (d.1+size)=d.1+size:=by rw [IntKind.wrap_i64];omega
     have hwk:=ba (show k<9223372036854775807 by omega);refine bp Ow.eq_1 ?_
     repeat' with_reducible first|refine ar ?_|refine au ?_|refine ⟨?_,?_⟩|intro _|simp only [go_sem,seval,hxm,hdm,hw,hwk,fk h,eD h,fk h2,eD h2]
     ·rw [<-hK];simp only [aM]
     ·rename_i hb;rw [Aa,decide_eq_true_eq,decide_eq_true_eq] at hb;rw [show vT size c.1 met d=IntKind.i64.wrap (met+1) from if_pos hb] at hm;exact ih2 h2 _ _ ⟨_,rfl,rfl,hm⟩
     ·rename_i hb;rw [Bool.and_eq_false_iff,decide_eq_false_iff_not,decide_eq_false_iff_not] at hb;rw [show vT size c.1 met d=met from if_neg (by omega)] at hm;exact ih2 h2 _ _ ⟨_,rfl,rfl,hm⟩
    ·refine bp Ow.eq_1 ?_;rw [AE (by omega)] at hm;have hm:met=1:=hm;subst hm;have e1:((1:Int) !=1)=false:=rfl
     repeat' first
      |with_reducible first|refine ar ?_|refine au ?_|refine ⟨?_,?_⟩|intro _
      |simp only [go_sem,seval,fE (Am h2),e1,ba (show i<9223372036854775807 by omega)]
     exact ih h _ _ ⟨rfl,rfl⟩
   ·refine bp Ox.eq_1 ?_;have e2:(px D==px D)=true:=by simp
    repeat' first
     |with_reducible first|refine ar ?_|refine au ?_|refine .pu (k6) hg rfl ?_|refine .pu (k7) hg rfl ?_|refine .pu (k8) hg rfl ?_|refine ⟨?_,?_⟩|intro _
     |simp only [go_sem,seval,fE (Am h),e2]
    rw [<-hK];simp only [go_sem,seval];exact rfl
 ·cases b5 with
  |false=>
   repeat' with_reducible first|refine ar ?_|refine au ?_|refine .pu (h4) hg rfl ?_|refine .pu (h5) hg rfl ?_|refine ⟨?_,?_⟩|intro _|simp only [go_sem,seval,nt,nf]
   rw [<-hK];simp only [go_sem,seval];exact rfl
  |true=>
   repeat' with_reducible first|refine ar ?_|refine au ?_|refine .pu (h4) hg rfl ?_|refine .pu (h5) hg rfl ?_|refine ⟨?_,?_⟩|intro _|simp only [go_sem,seval,nt,nf]
   ·rw [<-hK];simp only [go_sem,seval];exact rfl
   ·rename_i ha;refine absurd ⟨rfl,?_⟩ hc;simp only [Bool.or_eq_false_iff,decide_eq_false_iff_not] at ha;omega
def DW {σ:Type}:∀ {C:List (Int×σ)},fW C->iE C
 |[],_=>trivial
 |[_],_=>trivial
 |_::_::_,h=>⟨Bn h.1,DW h.2⟩
def cN.ajD (f:cN) (a b:aP):(f.J a b).n=IntKind.i64.wrap (a.n+b.n):=by
 match f with
 | .bl=>rfl
 | .add=>rfl
 | .ja=>rfl
 | .gr true=>rfl
 | .gr false=>rfl
def PK {cat:List AV} {x:Xp} {rows:List Rw} {key:Bytes} (h:∀ s,1<=s->s<=1099511627776->Pure pg gl 9 [.agg cat,.sl 8 (rows.map Rw.av) .ai,.agg x.l,.str key,.int .i64 s] (.ok (.sl 6 [] .ai))):∃ D I J,yG gl cat x rows key D I J:=⟨[],fun _=>True,kx,{jo:=trivial,ev:=fun _ h=>(by cases h),iv:=fun _ h=>(by cases h),eI:=Au _,len:=Au _,jn:=fun h=>absurd rfl h,assoc:=fun a b c _ _ _=>u5 a b c,cl:=fun _ _ _ _=>trivial,size:=fun a b=>cN.sz .bl a b,n:=fun _ _=>rfl,call:=h}⟩
def agK (hg:ae gl) (cat:List AV) (x:Xp) (t:Tb) (okb:Bool) (rows:List Rw) (key:Bytes) (hc:∀ v∈cat,Nm v) (hc4:cat.length=4) (hcb:aE cat=false) (ht:t.N) (hx:x.N) (hr:∀ r∈rows,r.N) (hn:rows.length<=100000) (hev:∀ r∈rows,0<=r.event/\r.event<=1099511627776)
  (h38:Pure pg gl 38 [.agg cat,.str x.tb] (.ok (.aF [.agg t.l,.bool okb])))
  (h103:∀ r∈rows,∀ a∈x.args,∃ V:bX,Pure pg gl 103 [.agg t.l,r.av,a] (.ok V.av)/\Nk gl V.n)
  (hargs:∀ a∈x.args,∃ a',a= .agg a'/\a'.length=12):∃ D I J,yG gl cat x rows key D I J:=by
 by_cases hkd:x.kd=5
 rotate_left
 ·exact PK fun s _ _=>c9n hg cat x key rows s hc hx hr hkd
 obtain ⟨rs,hrs⟩:∃ rs,rs=rows.filter fun r=>r.key==key:=⟨_,rfl⟩
 have hsub:∀ r∈rs,r∈rows/\r.key=key:=fun r h=>by
  rw [hrs,BN] at h;exact ⟨h.1,by simpa using h.2⟩
 have hrl:rs.length<=100000:=by rw [hrs];exact AH (Cx ..) hn
 have nil62:∀ ps:List Pk,ps.length<=100000->(∀ p∈ps,p.key=key/\p.tick<=1099511627776)->(iN x.op=none∨ps=[])->Pure pg gl 62 [.str x.op,.sl 9 (ps.map Pk.av) .ai,.str key,.int .i64 1099511627776] (.ok (.sl 6 [] .ai)):=fun ps h1 h2 h3=>by
  cases hf:iN x.op with
  |none=>exact agH hg x.op hf ps key _ h1 h2
  |some f=>
   rcases h3 with h3|rfl
   ·rw [hf] at h3;cases h3
   ·obtain ⟨P,hP⟩:=MG hg x.op f hf;exact c62 hg x.op f hf P hP [] key _ (Au _) (fun _ h=>(by cases h)) (fun _ h=>(by cases h))
 have nil9:∀ ps:List Pk,Pure pg gl 63 [.agg t.l,.agg x.l,.sl 10 (rs.map Rw.dl) .ai] (.ok (.sl 9 (ps.map Pk.av) .ai))->Pure pg gl 62 [.str x.op,.sl 9 (ps.map Pk.av) .ai,.str key,.int .i64 1099511627776] (.ok (.sl 6 [] .ai))->∃ D I J,yG gl cat x rows key D I J:=fun ps h63 h62=>by
  rw [hrs] at h63;have h27:=c27 hg cat t x okb key rows ps [] hc hc4 hcb ht hx hr hn h38 h63 h62;exact PK fun s h1 h2=>c9 hg cat x key rows [] [] s hc hc4 hcb hx hr h1 h2 hkd h27 (IA hg x.op s h1)
 by_cases hcc:x.tb=t.name/\x.args.length=2
 rotate_left
 ·exact nil9 [] (agI hg t x rs ht hx (fun r h=>hr r (hsub r h).1) fun h=>hcc h.2) (nil62 [] (Au _) (fun _ h=>(by cases h)) (.inr rfl))
 obtain ⟨htb,hal⟩:=hcc
 obtain ⟨b0,b1,hab⟩:∃ b0 b1,x.args=[b0,b1]:=by
  match hh:x.args,hal with
  |[b0,b1],_=>exact ⟨b0,b1,rfl⟩
 obtain ⟨a0,rfl,ha0⟩:=hargs b0 (by rw [hab];simp);obtain ⟨a1,rfl,ha1⟩:=hargs b1 (by rw [hab];simp)
 have ch:∀ a∈x.args,∃ V:Rw->bX,∀ r∈rows,Pure pg gl 103 [.agg t.l,r.av,a] (.ok (V r).av)/\Nk gl (V r).n:=fun a ha=>by
  have:∀ r,∃ V:bX,r∈rows->Pure pg gl 103 [.agg t.l,r.av,a] (.ok V.av)/\Nk gl V.n:=fun r=>by
   by_cases h:r∈rows
   ·obtain ⟨V,hV⟩:=h103 r h a ha;exact ⟨V,fun _=>hV⟩
   ·exact ⟨⟨0,0,[]⟩,fun h'=>absurd h' h⟩
  exact ⟨fun r=>(this r).choose,fun r=>(this r).choose_spec⟩
 obtain ⟨V0,hV0⟩:=ch (.agg a0) (by rw [hab];simp);obtain ⟨V1,hV1⟩:=ch (.agg a1) (by rw [hab];simp);obtain ⟨ps,hps⟩:∃ ps,ps=rs.filterMap (ll t V0 V1):=⟨_,rfl⟩;have h63:=c63 hg t x rs V0 V1 a0 a1 ht hx (fun r h=>hr r (hsub r h).1) hrl hkd htb hab ha0 ha1 (fun r h=>(hV0 r (hsub r h).1).1) (fun r h=>(hV1 r (hsub r h).1).1);rw [<-hps] at h63;have hpl:ps.length<=100000:=by rw [hps];exact AH (List.length_filterMap_le ..) hrl
 have hp:∀ p∈ps,(p.n=1/\(0<=p.event/\p.event<=1099511627776)/\Nk gl p.v.n)/\p.key=key/\p.tick<=1099511627776:=fun p h=>by
  rw [hps,Cy] at h;obtain ⟨r,h1,h2⟩:=h;unfold ll at h2;split at h2
  ·injection h2 with h2
   subst h2;have h3:=hsub r h1;exact ⟨⟨rfl,hev r h3.1,(hV0 r h3.1).2⟩,h3.2,by show (0:Int)<=_;decide⟩
  ·cases h2
 cases hf:iN x.op with
 |none=>exact nil9 ps h63 (nil62 ps hpl (fun p h=>(hp p h).2) (.inl hf))
 |some f=>
  obtain ⟨P,hP⟩:=MG hg x.op f hf;have hck:=KF hP ps hpl fun p h=>(hp p h).1;have h62:=c62 hg x.op f hf P hP ps key 1099511627776 hpl (fun p h=>(hp p h).1) fun p h=>(hp p h).2;rw [hrs] at h63;have h27:=c27 hg cat t x okb key rows ps (pL P ps) hc hc4 hcb ht hx hr hn h38 h63 h62;have hsz:=hck.sz;have hlen:=hck.len;exact ⟨pL P ps,gU f,f.J,{jo:=DW hck.jo,ev:=hck.ev,iv:=hck.iv,eI:=by omega,len:=by omega,jn:=fun _=>cN.jn hg x.op f hf,assoc:=f.assoc,cl:=f.iv,size:=f.sz,n:=f.ajD,call:=fun s h1 h2=>c9 hg cat x key rows (pL P ps) _ s hc hc4 hcb hx hr h1 h2 hkd h27 (c11 hg x.op (gU f) f.J (cN.jn hg x.op f hf) (pL P ps) s h1 (by omega) hck.ev (DW hck.jo) hck.iv (by omega) (by omega))}⟩
end Go.Proofs.YtoopnalhhfmgaaaGreatDoor
