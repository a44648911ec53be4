/- Contracts by hand: symMerge leaves cells that ascend. -/
import Derived.Test.YtoopnalhhfmgaaaGreatDoorKA
set_option linter.defProp false
set_option linter.unusedSimpArgs false
set_option linter.unusedVariables false
set_option maxHeartbeats 16000000
namespace Go.Proofs.YtoopnalhhfmgaaaGreatDoor
open Go Go.V
set_option maxRecDepth 100000
variable {gl:List (Nat×List AV)}
variable (Ua Ub Uc Ud Ue Uf Ug Uh Ui Uj Uk Ul Um Un Uo Up:AV) (Ya Yb Yc Yd Ye Yf Yg Yh:MC)
attribute [local go_sem ↓] cu aj.ev MK.ev MK.ob HK
attribute [local go_sem high] Hw
attribute [local go_sem] rO gn fX lx oD o5 kt bT gH lG mL AV.there AV.plus cA fT AV.gy AV.cells ck dp iE lq jx kh ly nI dH isStr fk fN appArg cQ cE gM fS cT jr bI fB jJ dw St.none if_true if_false ite_self eq_self ne_eq implies_true forall_const jm.av bW.av jC.av l5.av rN.av Hg
def tU {x y:Nat} (h:x+y<9223372036854775808):IntKind.i64.wrap (mj .u64 (IntKind.u64.wrap ((x+y:Nat):Int)) 1)=(((x+y)/2:Nat):Int):=by rw [uQ (by omega) (by omega),E9 _ _ _ (by decide),show (x+y)/2^Int.toNat 1=(x+y)/2 from rfl,aR (by omega) (by omega)]
def UG:=(by conv=>lhs;reduce:dC [Ua,Ub,Uc] [] 0x1fa5b07ea39210a601b7a694d15837346514121b200ae8eeda651ac8fcb6b3961c8fcad07e463343ffe783b5343bb527d4a2d982ffaee309c17a3971497db17e7cfc7db0ec3d06e=_)
def FG:=rO (UG (.int .u64 1) (.int .i64 0) (.int .i64 1))
def S9:=(by conv=>lhs;reduce:dC [Ua] [] 0x2030f93a9715712efa056e85ae64072dc793b61c6d4da59db8c0c387bd7ebe43debda3724e5ec93d069a28b01baaf54899bb44e8cce78fd313282ed1e45119ac30451943925f307afd019d=_)
def J6:=rO (S9 (.int .i64 1))
def Tj:=(by conv=>lhs;reduce:dC [] [Ya] 0x169bd5d6cf4d1c57f41c0d06f=_)
abbrev VN:=rP (Tj J6)
def Tv:=(by conv=>lhs;reduce:dC [Ua,Ub,Uc] [] 0x381aa7c6522116ac4e49b7ec7462f5fb4d0d68ff247a59341186c2397162155e037148800cf1ba39826ab702793d3aab5aa13fb64fbe4d2a128e20680721f0dab6db9bdb7569ca4014c9bd01db=_)
def EM:=rO (Tv (.int .u64 1) (.int .i64 0) (.int .i64 1))
def SS:=(by conv=>lhs;reduce:dC [Ua] [] 0x192b65ad35af7c90a08d54e39d2ad3f4995cac515d5ce06c31a5cbdbe10fa0b227e9c2c47d0d08971ba65259873dabd1cc8392117babdcb786d387444930a079c71716a806e7808ed2d0289=_)
def Li:=rO (SS (.int .i64 1))
def TC:=(by conv=>lhs;reduce:dC [] [Ya] 0x2940ecf7ff8e3286e21dbfd01dc=_)
abbrev Zf:=rP (TC Li)
def Sc:=(by conv=>lhs;reduce:dC [Ua,Ub,Uc] [] 0x4d66625680aa319ebeee7a9d82fc5fae899d08ec03de2ae6845144be0572424c7c000595f37b55be33f0627c5dc003fc8c54551cc0bd64dc92a11ba6188088e731494076e24c812ebb990991310f452f9933e34e095d75eb7c899d02df=_)
def wF:=rO (Sc (.int .u64 1) (.int .i64 0) (.int .i64 1))
def Rx:=(by conv=>lhs;reduce:dC [] [] 0x25bd14d98632cfa28c164fd535fb09c56486c6df0de566b5341a36a54f26388=_)
abbrev Xs:=rP Rx
def Sw:=(by conv=>lhs;reduce:dC [] [] 0xc0ca05b35524e05607b941c70a99bcbfab50e5723685dbc30d37fa639e=_)
abbrev Yr:=rP Sw
def TW:=(by conv=>lhs;reduce:dC [] [] 0x89dc858b72c8c0171dc0152ca2dae077c16b93aa0263bc=_)
abbrev W3:=rP TW
def UR:=(by conv=>lhs;reduce:dC [Ua] [Ya] 0xe15c61c16c20732f27ff4cae3fb339d9826d38ace38596f030ecb1c3343ae=_)
abbrev abn:=rP (UR (.bool false) W3)
def T0:=(by conv=>lhs;reduce:dC [Ua] [Ya,Yb] 0x223aecd6a9c0faf1485b2361eff288187de615e5a98e9236ea32faca69f3cb250222d0398=_)
abbrev aar:=rP (T0 (.bool false) Yr abn)
def TN:=(by conv=>lhs;reduce:dC [Ua] [Ya,Yb] 0x1374a8981270db99cc8363ec3c8f20b2737bda154176ef34d74c45e1a91707744b7246c446c1bbc646cfbb938f42fa=_)
abbrev L5:=rP (TN (.bool false) Xs aar)
def U2:=(by conv=>lhs;reduce:dC [Ua] [Ya,Yb] 0x11edac67b9426c9d7f5f708382d0afb979f09a6e683f33114f42ad=_)
abbrev aan:=rP (U2 (.int .i64 1) wF L5)
def RD:=(by conv=>lhs;reduce:dC [Ua,Ub] [Ya] 0x86f265e821c3f999bd531b2243fa4cf7df24962b4ee92961b41f9641db17389e331674f397d929627f5ca9673ed9f9dda713eb03e4ef91d89676bdc4725e3c85751e43f5739387742ab=_)
abbrev XA:=rP (RD (.int .u64 1) (.int .i64 0) aan)
def Ov:=(by conv=>lhs;reduce:dC [Ua] [Ya,Yb,Yc] 0x50cd1befbb6fc4967195df6bf4550f0df8ebe76c32121735d95dc981e8b87803cb7c0d25ef1d01ab=_)
abbrev Vc:=rP (Ov (.int .i64 1) EM Zf XA)
def ac0:=(by conv=>lhs;reduce:dC [Ua] [Ya,Yb,Yc] 0x184f50a452f36c59088ab8be8edfd57d010296b39a30bfb17eb28bd01e572e44cc9135d03f=_)
abbrev agu:=rP (ac0 (.int .i64 1) FG VN Vc)
def adG:aD pg 151 220 agu []:= .o2 Tryz.func151 (by kernel_rfl)
def WL (hg:ae gl) (f:FuncId) (hf:Fj gl f) (l N nt:Nat) (cs:List AV) (C:List Cl) (ob:List (Nat×List AV)) (lv:List Nat) (hl:List.lookup l ob=some cs) (h:Row cs (dg C)) (hs:iC C) (hn:C.length<=1000000000):
  ∀ (w a m b:Nat),b-a<=w->a<m->m<b->b<=C.length->ao pg 151 [.aM 6 C.length l 0,.int .i64 (a:Int),.int .i64 (m:Int),.int .i64 (b:Int),.fn (.func f) [] []] ⟨N,ob,nt,lv,gl⟩ fun o S'=>o= .ok (.aF [])/\S'=⟨N,ob,nt,lv,gl⟩
 |0,a,m,b,hw,ham,hmb,hb=>by omega
 |w+1,a,m,b,hw,ham,hmb,hb=>by
  have ih:=WL hg f hf l N nt cs C ob lv hl h hs hn w;have hgl:∀ M,St.get ⟨M,ob,nt,lv,gl⟩ l=some cs:=fun _=>hl;have hbl:=h.bu (by rw [gg];omega)
  have cmp:∀ i j,i<C.length->j<=i->∃ c d:Cl,(List.take 6 (cs.drop (i*6))= .int .i64 c.1::c.2/\(6<=(cs.drop (i*6)).length)=True)/\(List.take 6 (cs.drop (j*6))= .int .i64 d.1::d.2/\(6<=(cs.drop (j*6)).length)=True)/\Pure pg gl f [.agg (.int .i64 c.1::c.2),.agg (.int .i64 d.1::d.2)] (.ok (.int .i64 (bP c.1 d.1)))/\decide (bP c.1 d.1<0)=false:=fun i j hi hj=>by
   obtain ⟨c,hc⟩:∃ c,C[i]? =some c:=aK hi;obtain ⟨d,hd⟩:∃ d,C[j]? =some d:=aK (by omega);refine ⟨c,d,h.at (gC hc),h.at (gC hd),hf c d (h.r6.cl (Aj hc)).2 (h.r6.cl (Aj hd)).2,decide_eq_false fun h=>?_⟩;have:=ub.1 h;have:=hs.le hd hc hj;omega
  have w1:IntKind.i64.wrap ((m:Int)-(a:Int))=((m-a:Nat):Int):=by rw [aR (by omega) (by omega)];omega
  have w2:IntKind.i64.wrap ((b:Int)-(m:Int))=((b-m:Nat):Int):=by rw [aR (by omega) (by omega)];omega
  refine .aC adG (by simp) (ab 200 ?_);generalize hK:bI _ _=Q
  by_cases h1:m-a=1
  ·have q1:(((m-a:Nat):Int)==1)=true:=by rw [h1];rfl
   repeat' with_reducible first|refine au ?_|refine ar ?_|refine ⟨?_,?_⟩|intro _|simp only [go_sem,seval,w1,q1]
   refine .fY (fun k F S=>∃ j:Nat,F=[(0,.aM 6 C.length l 0),(1,.int .i64 (a:Int)),(4,.fn (.func f) [] []),(10,.int .i64 (m:Int)),(11,.int .i64 (j:Int))]/\S=⟨N,ob,nt,lv,gl⟩/\m<=j/\j<=b/\k=j-m) (b-m) ⟨b,rfl,rfl,by omega,Af _,rfl⟩ ?_;rintro k F S ⟨j,rfl,rfl,hj1,hj2,rfl⟩ ih2
   by_cases hj:m<j
   ·have hww:IntKind.i64.wrap ((m:Int)+(j:Int))=((m+j:Nat):Int):=by rw [aR (by omega) (by omega)];omega
    have hh:=tU (x:=m) (y:=j) (by omega);obtain ⟨c,d,⟨e1,e2⟩,⟨e3,e4⟩,hcmp,hlt⟩:=cmp ((m+j)/2) a (by omega) (by omega);refine bp FG.eq_1 ?_
    repeat' with_reducible first|refine au ?_|refine ar ?_|refine .pu (hcmp) hg rfl ?_|refine ⟨?_,?_⟩|intro _|simp only [go_sem,seval,fh hj,hww,hh,hgl,hbl,e1,e2,e3,e4,hlt]
    all_goals first
     |omega
     |(rw [<-hK];simp only [aN];done)
     |skip
    exact ih2 _ _ _ (by omega) ⟨(m+j)/2,rfl,rfl,by omega,by omega,rfl⟩
   ·refine bp FG.eq_1 ?_
    repeat' first
     |with_reducible first|refine au ?_|refine ar ?_|refine ⟨?_,?_⟩|intro _
     |simp only [go_sem,seval,fD (Am hj)]
    have w3:IntKind.i64.wrap ((m:Int)-1)=(a:Int):=by rw [aR (by omega) (by omega)];omega
    have q3:decide ((a:Int)<(a:Int))=false:=decide_eq_false (by omega);refine af.ej (ab 60 (bM J6.eq_1 ?_))
    repeat' with_reducible first|refine au ?_|refine ar ?_|refine ⟨?_,?_⟩|intro _|simp only [go_sem,seval,w3,q3]
    rw [<-hK];simp only [go_sem,seval]
  ·have q1:(((m-a:Nat):Int)==1)=false:=by simp;omega
   by_cases h2:b-m=1
   ·have q2:(((b-m:Nat):Int)==1)=true:=by rw [h2];rfl
    repeat' with_reducible first|refine au ?_|refine ar ?_|refine ⟨?_,?_⟩|intro _|simp only [go_sem,seval,w1,q1,w2,q2]
    refine .fY (fun k F S=>∃ i:Nat,F=[(0,.aM 6 C.length l 0),(2,.int .i64 (m:Int)),(4,.fn (.func f) [] []),(14,.int .i64 (i:Int)),(15,.int .i64 (m:Int))]/\S=⟨N,ob,nt,lv,gl⟩/\a<=i/\i<=m/\k=m-i) (m-a) ⟨a,rfl,rfl,Af _,by omega,rfl⟩ ?_;rintro k F S ⟨i,rfl,rfl,hi1,hi2,rfl⟩ ih2
    by_cases hi:i<m
    ·have hww:IntKind.i64.wrap ((i:Int)+(m:Int))=((i+m:Nat):Int):=by rw [aR (by omega) (by omega)];omega
     have hh:=tU (x:=i) (y:=m) (by omega);obtain ⟨c,d,⟨e1,e2⟩,⟨e3,e4⟩,hcmp,hlt⟩:=cmp m ((i+m)/2) (by omega) (by omega);refine bp EM.eq_1 ?_
     repeat' first
      |with_reducible first|refine au ?_|refine ar ?_|refine .pu (hcmp) hg rfl ?_|refine ⟨?_,?_⟩|intro _
      |simp only [go_sem,seval,fh hi,hww,hh,hgl,hbl,e1,e2,e3,e4,hlt,bb (show (i+m)/2<9223372036854775807 by omega)]
     all_goals first
      |omega
      |(rw [<-hK];simp only [aN];done)
      |skip
     exact ih2 _ _ _ (by omega) ⟨(i+m)/2+1,rfl,rfl,by omega,by omega,rfl⟩
    ·refine bp EM.eq_1 ?_
     repeat' first
      |with_reducible first|refine au ?_|refine ar ?_|refine ⟨?_,?_⟩|intro _
      |simp only [go_sem,seval,fD (Am hi)]
     obtain rfl:i=m:=by omega
     have q3:decide ((i:Int)>(i:Int))=false:=decide_eq_false (by omega);have q4:decide ((i:Int)<(i:Int))=false:=decide_eq_false (by omega);refine af.ej (ab 60 (bM Li.eq_1 ?_))
     repeat' with_reducible first|refine au ?_|refine ar ?_|refine ⟨?_,?_⟩|intro _|simp only [go_sem,seval,q3,q4]
     rw [<-hK];simp only [go_sem,seval]
   ·have q2:(((b-m:Nat):Int)==1)=false:=by simp;omega
    obtain ⟨M,hM⟩:∃ M,M=(a+b)/2:=⟨_,rfl⟩;have w3:IntKind.i64.wrap ((a:Int)+(b:Int))=((a+b:Nat):Int):=by rw [aR (by omega) (by omega)];omega
    have w4:=tU (x:=a) (y:=b) (by omega);rw [<-hM] at w4;have w5:IntKind.i64.wrap ((M:Int)+(m:Int))=((M+m:Nat):Int):=by rw [aR (by omega) (by omega)];omega
    have w6:IntKind.i64.wrap (((M+m:Nat):Int)-1)=((M+m-1:Nat):Int):=by rw [aR (by omega) (by omega)];omega
    have q0:∀ x y:Nat,x<y->decide ((x:Int)<(y:Int))=true:=fun x y h=>decide_eq_true (by omega);have q9:∀ x y:Nat,y<=x->decide ((x:Int)<(y:Int))=false:=fun x y h=>decide_eq_false (by omega)
    have mrg:∀ s0 R:Nat,(R=M/\M<m)∨(R=m/\m<=M)->s0<=R->M+m<=b+s0->af pg 220 [.code (.loop wF),.inBlock 8,.code (.named [0,1,2,3,4,18,19,20] L5)] [] [(0,.aM 6 C.length l 0),(1,.int .i64 (a:Int)),(2,.int .i64 (m:Int)),(3,.int .i64 (b:Int)),(4,.fn (.func f) [] []),(18,.int .i64 (M:Int)),(19,.int .i64 ((M+m:Nat):Int)),(20,.int .i64 (s0:Int)),(21,.int .i64 (R:Int)),(22,.int .i64 ((M+m-1:Nat):Int))] ⟨N,ob,nt,lv,gl⟩ Q:=by
     intro s0 R hR hs0 hlow;refine .fY (fun k F S=>∃ i:Nat,F=[(0,.aM 6 C.length l 0),(1,.int .i64 (a:Int)),(2,.int .i64 (m:Int)),(3,.int .i64 (b:Int)),(4,.fn (.func f) [] []),(18,.int .i64 (M:Int)),(19,.int .i64 ((M+m:Nat):Int)),(20,.int .i64 (i:Int)),(21,.int .i64 (R:Int)),(22,.int .i64 ((M+m-1:Nat):Int))]/\S=⟨N,ob,nt,lv,gl⟩/\s0<=i/\i<=R/\k=R-i) (R-s0) ⟨s0,rfl,rfl,Af _,hs0,rfl⟩ ?_;rintro k F S ⟨i,rfl,rfl,hi1,hi2,rfl⟩ ih2
     by_cases hi:i<R
     ·have hww:IntKind.i64.wrap ((i:Int)+(R:Int))=((i+R:Nat):Int):=by rw [aR (by omega) (by omega)];omega
      have hh:=tU (x:=i) (y:=R) (by omega);have hpc:IntKind.i64.wrap (((M+m-1:Nat):Int)-(((i+R)/2:Nat):Int))=((M+m-1-(i+R)/2:Nat):Int):=by rw [aR (by omega) (by omega)];omega
      obtain ⟨c,d,⟨e1,e2⟩,⟨e3,e4⟩,hcmp,hlt⟩:=cmp (M+m-1-(i+R)/2) ((i+R)/2) (by omega) (by omega);refine bp wF.eq_1 ?_
      repeat' first
       |with_reducible first|refine au ?_|refine ar ?_|refine .pu (hcmp) hg rfl ?_|refine ⟨?_,?_⟩|intro _
       |simp only [go_sem,seval,fh hi,hww,hh,hpc,hgl,hbl,e1,e2,e3,e4,hlt,bb (show (i+R)/2<9223372036854775807 by omega)]
      all_goals first
       |omega
       |(rw [<-hK];simp only [aN];done)
       |skip
      exact ih2 _ _ _ (by omega) ⟨(i+R)/2+1,rfl,rfl,by omega,by omega,rfl⟩
     ·refine bp wF.eq_1 ?_;obtain rfl:i=R:=by omega
      have w7:IntKind.i64.wrap (((M+m:Nat):Int)-(i:Int))=((M+m-i:Nat):Int):=by rw [aR (by omega) (by omega)];omega
      rcases hR with ⟨rfl,hlt⟩|⟨rfl,hle⟩
      ·have i1:=ih i m b (by omega) (by omega) (by omega) hb;have w8:i+m-i=m:=by omega
       rw [w8] at w7
       repeat' first
        |with_reducible first|refine au ?_|refine ar ?_|refine aS.fV (i1) ?_|refine ⟨?_,?_⟩|intro _
        |simp only [go_sem,seval,fD (Am hi),w7,q9 m m (Af _),q9 i i (Af _),q0 i m hlt,q0 a i (by omega),q0 m b (by omega)]
       rw [<-hK];simp only [go_sem,seval]
      ·have w8:M+i-i=M:=by omega
       rw [w8] at w7;rcases hiM:decide ((i:Int)<(M:Int)) with _|_
       ·
        repeat' first
         |with_reducible first|refine au ?_|refine ar ?_|refine ⟨?_,?_⟩|intro _
         |simp only [go_sem,seval,fD (Am hi),w7,q9 i i (Af _),q9 M M (Af _),q0 a i (by omega),hiM]
        rw [<-hK];simp only [go_sem,seval]
       ·have hiM':=of_decide_eq_true hiM;have i1:=ih a i M (by omega) (by omega) (by omega) (by omega)
        repeat' first
         |with_reducible first|refine au ?_|refine ar ?_|refine aS.fV (i1) ?_|refine ⟨?_,?_⟩|intro _
         |simp only [go_sem,seval,fD (Am hi),w7,q9 i i (Af _),q9 M M (Af _),q0 a i (by omega),hiM]
        rw [<-hK];simp only [go_sem,seval]
    rcases hc:decide ((M:Int)<(m:Int)) with _|_
    ·
     repeat' with_reducible first|refine au ?_|refine ar ?_|refine ⟨?_,?_⟩|intro _|simp only [go_sem,seval,w1,q1,w2,q2,w3,w4,w5,w6,hc]
     have:=of_decide_eq_false hc;exact mrg a m (.inr ⟨rfl,by omega⟩) (by omega) (by omega)
    ·have hlt:=of_decide_eq_true hc;have w7:IntKind.i64.wrap (((M+m:Nat):Int)-(b:Int))=((M+m-b:Nat):Int):=by rw [aR (by omega) (by omega)];omega
     repeat' with_reducible first|refine au ?_|refine ar ?_|refine ⟨?_,?_⟩|intro _|simp only [go_sem,seval,w1,q1,w2,q2,w3,w4,w5,w6,w7,hc]
     exact mrg (M+m-b) M (.inl ⟨rfl,by omega⟩) (by omega) (by omega)
def U1:=(by conv=>lhs;reduce:dC [] [] 0x965b6f494e3820fafdf6f01298e09d9f4fbcb4f02c5195a00f385ab195af291c27c7d36b171160b3d02f=_)
def rZ:=rO U1
def TU:=(by conv=>lhs;reduce:dC [Ua] [] 0xea2b5e39ffd2757b1e1034943f07e3117e499d04899bdd0687d22ec0adcf633a5a8a86b1a3f6f49c39ecddaa38874d983734025d069=_)
def pT:=rO (TU (.int .i64 2))
def Ur:=(by conv=>lhs;reduce:dC [Ua] [] 0xc5c3dcdedba52931b31d7f=_)
abbrev Vt:=rP (Ur (.int .i64 2))
def U4:=(by conv=>lhs;reduce:dC [] [Ya] 0x513b24c2ad9fc0153ec26e3ef363a86e0c87f9885bf9ac59349b37be452157283e6c1b89c738060385d07d=_)
abbrev WD:=rP (U4 Vt)
def SR:=(by conv=>lhs;reduce:dC [Ua,Ub] [Ya,Yb] 0xcb2d5b0e1382e36f7ab8d39675f59db51c76458e742ff9b41da3ac5882d049=_)
def r8:=rO (SR (.int .i64 2) (.int .i64 0) pT WD)
def SJ:=(by conv=>lhs;reduce:dC [] [Ya] 0xf0c808c6a767bf77949104a2931f6da49e630f43c=_)
abbrev ZN:=rP (SJ r8)
def acj:=(by conv=>lhs;reduce:dC [Ua,Ub] [Ya,Yb] 0x1e86afb283d614b1797d96ffa8761a1c3f2341b=_)
abbrev VG:=rP (acj (.int .i64 20) (.int .i64 0) rZ ZN)
def JY:aD pg 104 63 VG []:= .o2 Tryz.func104 (by kernel_rfl)
def aiA:=(by conv=>lhs;reduce:dC [] [] 0x1d408fa03b9ee0f3d4d96d19=_)
abbrev m66:=rP aiA
def Od:aD pg 66 9 m66 []:= .o2 Tryz.func66 (by kernel_rfl)
def ahw (hg:ae gl) (f:FuncId) (hf:Fj gl f) (l N nt:Nat) (cs:List AV) (C:List Cl) (ob:List (Nat×List AV)) (lv:List Nat) (hl:List.lookup l ob=some cs) (h:Row cs (dg C)) (hs:iC C) (hn:C.length<=1000000):
  ao pg 104 [.aM 6 C.length l 0,.int .i64 (C.length:Int),.fn (.func f) [] []] ⟨N,ob,nt,lv,gl⟩ fun o S'=>o= .ok (.aF [])/\S'=⟨N,ob,nt,lv,gl⟩:=by
 have i150:=fun a b hb hab=>agl hg f hf l N nt a b cs C ob lv hl h hs (by omega) hb hab;have i151:=fun a m b ham hmb hb=>WL hg f hf l N nt cs C ob lv hl h hs (by omega) (b-a) a m b (Af _) ham hmb hb;obtain ⟨n,hnn⟩:∃ n,n=C.length:=⟨_,rfl⟩;rw [<-hnn] at i150 i151 hn ⊢;refine .aC JY (by simp) (ab 200 ?_);generalize hK:bI _ _=Q;have z20:(20:Int)=((20:Nat):Int):=rfl
 repeat' with_reducible first|refine au ?_|refine ar ?_|refine ⟨?_,?_⟩|intro _|simp only [go_sem,seval]
 refine .fY (fun k F S=>∃ x:Nat,F=[(0,.aM 6 n l 0),(1,.int .i64 (n:Int)),(2,.fn (.func f) [] []),(6,.int .i64 20),(7,.int .i64 (x:Int)),(8,.int .i64 ((x+20:Nat):Int))]/\S=⟨N,ob,nt,lv,gl⟩/\x<=n/\k=n-x) n ⟨0,rfl,rfl,Au _,rfl⟩ ?_;rintro k F S ⟨x,rfl,rfl,hx,rfl⟩ ih;rcases hc:decide (((x+20:Nat):Int)<=(n:Int)) with _|_
 rotate_left
 ·have hc':=of_decide_eq_true hc;have i1:=i150 x (x+20) (by omega) (by omega);have w1:IntKind.i64.wrap (((x+20:Nat):Int)+20)=((x+20+20:Nat):Int):=by rw [aR (by omega) (by omega)];rfl
  refine bp rZ.eq_1 ?_
  repeat' with_reducible first|refine au ?_|refine ar ?_|refine aS.fV (i1) ?_|refine ⟨?_,?_⟩|intro _|simp only [go_sem,seval,hc,w1]
  exact ih _ _ _ (by omega) ⟨x+20,rfl,rfl,by omega,rfl⟩
 ·have i1:=i150 x n (Af _) hx;refine bp rZ.eq_1 ?_
  repeat' with_reducible first|refine au ?_|refine ar ?_|refine aS.fV (i1) ?_|refine ⟨?_,?_⟩|intro _|simp only [go_sem,seval,hc]
  refine .fY (fun k F S=>∃ s:Nat,∃ G,F=(0,.aM 6 n l 0)::(1,.int .i64 (n:Int))::(2,.fn (.func f) [] [])::(6,.int .i64 (s:Int))::G/\S=⟨N,ob,nt,lv,gl⟩/\0<s/\s<=2*n+20/\k=2*n+20-s) (2*n) ⟨20,_,rfl,rfl,by omega,by omega,by omega⟩ ?_;rintro k F S ⟨s,G,rfl,rfl,hs0,hs1,rfl⟩ ih2;rcases hc2:decide ((s:Int)<(n:Int)) with _|_
  ·refine bp r8.eq_1 ?_
   repeat' with_reducible first|refine au ?_|refine ar ?_|refine ⟨?_,?_⟩|intro _|simp only [go_sem,seval,hc2]
   rw [<-hK];simp only [go_sem,seval]
  ·have hc2':=of_decide_eq_true hc2;have w2:IntKind.i64.wrap (2*(s:Int))=((2*s:Nat):Int):=by rw [aR (by omega) (by omega)];omega
   refine bp r8.eq_1 ?_
   repeat' with_reducible first|refine au ?_|refine ar ?_|refine ⟨?_,?_⟩|intro _|simp only [go_sem,seval,hc2,w2]
   have w4:IntKind.i64.wrap ((s:Int)*2)=((2*s:Nat):Int):=by rw [aR (by omega) (by omega)];omega
   refine .fY (fun k F S=>∃ y:Nat,F=[(0,.aM 6 n l 0),(1,.int .i64 (n:Int)),(2,.fn (.func f) [] []),(6,.int .i64 (s:Int)),(7,.int .i64 (y:Int)),(8,.int .i64 ((y+2*s:Nat):Int))]/\S=⟨N,ob,nt,lv,gl⟩/\y<=n/\k=n-y) n ⟨0,by rw [Aw];rfl,rfl,Au _,rfl⟩ ?_;rintro k F S ⟨y,rfl,rfl,hy,rfl⟩ ih3;have w5:IntKind.i64.wrap ((y:Int)+(s:Int))=((y+s:Nat):Int):=by rw [aR (by omega) (by omega)];omega
   rcases hc3:decide (((y+2*s:Nat):Int)<=(n:Int)) with _|_
   rotate_left
   ·have hc3':=of_decide_eq_true hc3;have i2:=i151 y (y+s) (y+2*s) (by omega) (by omega) (by omega);have w3:IntKind.i64.wrap (((y+2*s:Nat):Int)+((2*s:Nat):Int))=((y+2*s+2*s:Nat):Int):=by rw [aR (by omega) (by omega)];omega
    refine bp pT.eq_1 ?_
    repeat' with_reducible first|refine au ?_|refine ar ?_|refine aS.fV (i2) ?_|refine ⟨?_,?_⟩|intro _|simp only [go_sem,seval,hc3,w2,w3,w5]
    exact ih3 _ _ _ (by omega) ⟨y+2*s,rfl,rfl,by omega,rfl⟩
   ·rcases hc4:decide (((y+s:Nat):Int)<(n:Int)) with _|_
    ·refine bp pT.eq_1 ?_
     repeat' with_reducible first|refine au ?_|refine ar ?_|refine ⟨?_,?_⟩|intro _|simp only [go_sem,seval,hc3,w4,w5,hc4]
     exact ih2 _ _ _ (by omega) ⟨2*s,_,rfl,rfl,by omega,by omega,rfl⟩
    ·have hc4':=of_decide_eq_true hc4;have i2:=i151 y (y+s) n (by omega) (by omega) (by omega);refine bp pT.eq_1 ?_
     repeat' with_reducible first|refine au ?_|refine ar ?_|refine aS.fV (i2) ?_|refine ⟨?_,?_⟩|intro _|simp only [go_sem,seval,hc3,w4,w5,hc4]
     exact ih2 _ _ _ (by omega) ⟨2*s,_,rfl,rfl,by omega,by omega,rfl⟩
def c66 (hg:ae gl) (f:FuncId) (hf:Fj gl f) (l N nt:Nat) (cs:List AV) (C:List Cl) (ob:List (Nat×List AV)) (lv:List Nat) (hl:List.lookup l ob=some cs) (h:Row cs (dg C)) (hs:iC C) (hn:C.length<=1000000):
  ao pg 66 [.aM 6 C.length l 0,.fn (.func f) [] []] ⟨N,ob,nt,lv,gl⟩ fun o S'=>o= .ok (.aF [])/\S'=⟨N,ob,nt,lv,gl⟩:=by
 have i1:=ahw hg f hf l N nt cs C ob lv hl h hs hn;refine .aC Od (by simp) (ab 200 ?_)
 repeat' with_reducible first|refine au ?_|refine ar ?_|refine aS.fV (i1) ?_|refine ⟨?_,?_⟩|intro _|simp only [go_sem,seval]
abbrev Ce:=Int×aP
def aW (D:List Ce):List Cl:=D.map fun c=>(c.1,c.2.l)
def sz (s:aP):Nat:=s.cG.length+s.fQ.length
def eE (D:List Ce):Nat:=(D.map fun c=>sz c.2).sum
structure Jn (gl:List (Nat×List AV)) (op:List UInt8) (I:aP->Prop) (J:aP->aP->aP):Prop where
 call:∀ s t,I s->I t->sz s+sz t<=1000000->Pure pg gl 33 [.str op,.agg s.l,.agg t.l] (.ok (.agg (J s t).l))
 ok:∀ s t,I s->I t->I (J s t)
 sz:∀ s t,sz (J s t)<=sz s+sz t
def il (D:List Ce):∀ v∈(aW D).map eg,Nm v:=fun v hv=>by
 obtain ⟨c,hc,rfl⟩:=Ai.1 hv;obtain ⟨d,_,rfl⟩:=Ai.1 hc;exact .agg (Nm.cons (.int _ _) d.2.all)
def oU {l N:Nat} {a b r:List AV} {ob:List (Nat×List AV)} (h:List.lookup l ((N,a)::ob)=some r):List.lookup l ((N,a)::(N,b)::ob)=some r:=by
 by_cases e:l=N
 ·subst e;simpa [List.lookup_cons] using h
 ·have:(l==N)=false:=by simpa using e
  simpa [List.lookup_cons,this] using h
def EE:∀ (i:Nat) (D:List Ce),eE (D.drop i)<=eE D
 |0,D=>Af _
 |i+1,[]=>Af _
 |i+1,c::D=>by
  have:=EE i D;simp only [Cg,eE,List.map_cons,List.sum_cons] at this ⊢;omega
def gY (c:Ce) (D:List Ce):eE (c::D)=sz c.2+eE D:=by simp [eE]
def VF:=(by conv=>lhs;reduce:dC [] [] 0x3d4de64e=_)
abbrev adz:=rP VF
def WA:=(by conv=>lhs;reduce:dC [Ua] [] 0x887e3cd35890f88fc33b8b3ca15a8db65cfc655af5ffece23cae4b9d220344f9b7ef32b7b5f=_)
abbrev ac5:=rP (WA (.int .i64 1))
def Y9:=(by conv=>lhs;reduce:dC [Ua,Ub] [Ya,Yb] 0x11b3c163a6c8d278e16b5267cc5820642c6f7493fc92cb706b6251dcfe39e185af5a28a4ae2fd90d519c2264c67a7d9c3e4cd304e=_)
def ug:=rO (Y9 (.int .i64 0) (.bool false) adz ac5)
def Yy:=(by conv=>lhs;reduce:dC [] [] 0x2b7075f29362ccf843427e70178d79=_)
abbrev abW:=rP Yy
def ZF:=(by conv=>lhs;reduce:dC [Ua,Ub,Uc,Ud] [Ya] 0x3058caacdb7a78b477fec5604d1842218638f19cff90ed9174c629f10853525d0dba73d06e=_)
def Ij:=rO (ZF (.int .i64 0) (.int .u64 0) (.sl 6 [] .exact) (.sl 2 [] .exact) abW)
def VD:=(by conv=>lhs;reduce:dC [Ua,Ub,Uc,Ud,Ue] [Ya,Yb] 0x12575456bb00599ed4f8a3e98ffe16152d3ce91145e6dd21ed999132d7d38fb8becec3e5820d038=_)
def uf:=rO (VD (.int .i64 0) (.int .u64 0) (.sl 6 [] .exact) (.sl 2 [] .exact) (.int .i64 1) ug Ij)
def YD:=(by conv=>lhs;reduce:dC [] [] 0xcc0434f37a747a=_)
abbrev QD:=rP YD
def ajt:=(by conv=>lhs;reduce:dC [Ua] [Ya,Yb] 0x1255a927d6da0e07a19612d9512a8495db2b914b2cbcab78d7f2ba7b809388b42a=_)
abbrev m34:=rP (ajt (.sl 6 [] .exact) uf QD)
def NY:aD pg 34 58 m34 [.t 8]:= .o2 Tryz.func34 (by kernel_rfl)
def c34 (hg:ae gl) (op:List UInt8) (I:aP->Prop) (J:aP->aP->aP) (hJ:Jn gl op I J) (c0:Ce) (D:List Ce) (hD:iC (aW (c0::D))) (hok:∀ c∈c0::D,I c.2) (hsz:eE (c0::D)<=1000000) (hn:D.length<=100000) (ob0 N nt:Nat) (ob:List (Nat×List AV)) (lv:List Nat) (hf:bL N ob) (h1:List.lookup ob0 ob=some [.str op]):
  ao pg 34 [.sl 6 ((aW (c0::D)).map eg) .ai,.fn (.func 30) [] [],.fn (.func 32) [] [.ptr ob0 0],.fn (.func 35) [] []] ⟨N,ob,nt,lv,gl⟩ fun o _=>mH o (.sl 6 ((aW (iN J (c0::D))).map eg) .ai):=by
 have hr6:R6 (dg (aW (c0::D))):=fun r hr=>by
  obtain ⟨c,hc,rfl⟩:=Ai.1 hr;obtain ⟨d,_,rfl⟩:=Ai.1 hc;exact ⟨rfl,Nm.cons (.int _ _) d.2.all⟩
 have hrow:Row (dg (aW (c0::D))).flatten (dg (aW (c0::D))):=by
  have:=Row.of hr6 []
  rwa [AB] at this
 have i29:=fun N nt ob lv=>c29 (gl:=gl) (c0.1,c0.2.l) (aW D) N nt ob lv (by unfold aW;rw [Ad];omega);have hcmp:Fj gl 30:=fun c d hc hd=>c30 hg c d hc hd;have i66:=fun nt=>c66 hg 30 hcmp N (N+1) nt _ _ ((N,(dg (aW (c0::D))).flatten)::ob) lv aI hrow hD (by unfold aW;rw [Ad];simp;omega);have hlen:(aW (c0::D)).length=(aW D).length+1:=rfl;rw [hlen] at i66;obtain ⟨cs,hcs⟩:∃ cs,cs=(dg (aW (c0::D))).flatten:=⟨_,rfl⟩;obtain ⟨X,hX⟩:∃ X,X=(aW (c0::D)).map eg:=⟨_,rfl⟩
 have i29:∀ N nt ob lv,ao pg 29 [.sl 6 X .ai] ⟨N,ob,nt,lv,gl⟩ fun o S'=>o= .ok (.aM 6 ((aW D).length+1) N 0)/\S'=⟨N+1,(N,cs)::ob,nt,lv,gl⟩:=by
  rw [hX,hcs];exact i29
 rw [<-hcs] at i66 hrow;rw [<-hX];refine .aC NY (by simp) (ab 200 ?_);generalize hK:bI _ _=Q
 repeat' with_reducible first|refine au ?_|refine ar ?_|refine aS.fV (i29 _ _ _ _) ?_|refine aS.fV (i66 _) ?_|refine ⟨?_,?_⟩|intro _|simp only [go_sem,seval]
 have hDl:(aW D).length=D.length:=Ad ..;obtain ⟨n,hn'⟩:∃ n,n=(aW D).length+1:=⟨_,rfl⟩;rw [<-hn'];refine .fY (fun k F S=>∃ (i:Nat) (out:List Ce) (tk:bD) (N2 nt2:Nat) (lv2:List Nat),F=[(1,.fn (.func 30) [] []),(2,.fn (.func 32) [] [.ptr ob0 0]),(3,.fn (.func 35) [] []),(9,if i<n then .aM 6 (n-i) N (i*6) else .sl 6 [] .ai),(10,.sl 6 ((aW out).map eg) tk)]/\S=⟨N2,(N,cs)::ob,nt2,lv2,gl⟩/\N+1<=N2/\gI 0 nt2 lv2 tk/\i<=n/\out.length<=i/\out++iN J ((c0::D).drop i)=iN J (c0::D)/\k=n-i) n ⟨0,[],.exact,N+1,nt,lv,by rw [if_pos (by omega),Nat.zero_mul];rfl,rfl,Af _,.inl rfl,Au _,Af _,rfl,rfl⟩ ?_;rintro k F S ⟨i,out,tk,N2,nt2,lv2,rfl,rfl,hN2,htk,hi,hout,hall,rfl⟩ ih
 by_cases hin:i<n
 ·obtain ⟨c,hc⟩:∃ c,(c0::D)[i]? =some c:=aK (by have:(aW D).length=D.length:=Ad ..;simp;omega);have hcC:(aW (c0::D))[i]? =some (c.1,c.2.l):=by unfold aW;rw [Ap,hc];rfl
  obtain ⟨e1,e2⟩:=hrow.at (gC hcC);have hbl:=hrow.bu (by rw [gg];show 0<_;simp [aW]);have hNN:(N=N2)=False:=eq_false (by omega);have hgt:decide (((n-i:Nat):Int)>0)=true:=decide_eq_true (by omega);have hgt':decide ((0:Int)<((n-i:Nat):Int))=true:=decide_eq_true (by omega);rw [if_pos hin];refine bp uf.eq_1 ?_;have hUl:(c.2.l.length+1==6)=true:=rfl;have hUd:List.drop c.2.l.length [AV.int .i64 0,.int .i64 0,.int .u64 0,.sl 6 [] .exact,.sl 2 [] .exact]=[]:=rfl
  repeat' with_reducible first|refine au ?_|refine ar ?_|refine ⟨?_,?_⟩|intro _|simp only [go_sem,seval,hgt,hgt',hbl,e1,e2,hNN,hUl,hUd]
  ·omega
  have fin:∀ (j:Nat) (x:aP) (N3 nt3:Nat),N2+1<=N3->0<j->i+j<=n->(c.1,x)::iN J ((c0::D).drop (i+j))=iN J ((c0::D).drop i)->af pg 58 [.code Ij,.inBlock 1,.inLoop uf,.inBlock 0,.code (.named [10] QD)] [] [(1,.fn (.func 30) [] []),(2,.fn (.func 32) [] [.ptr ob0 0]),(3,.fn (.func 35) [] []),(9,.aM 6 (n-i) N (i*6)),(10,.sl 6 ((aW out).map eg) tk),(11,.ptr N2 0),(12,.int .i64 (j:Int))] ⟨N3,(N2,.int .i64 c.1::x.l)::(N,cs)::ob,nt3,lv2,gl⟩ Q:=by
   intro j x N3 nt3 hN3 hj hij hgx;have hXb:aE (AV.int .i64 c.1::x.l)=false:=iG (c.1,x.l);have hX5:(5<=x.l.length)=True:=eq_true (Af 5);have hXt:List.take 6 (AV.int .i64 c.1::x.l)=AV.int .i64 c.1::x.l:=rfl;have h35:=c35 (gl:=gl) (c.1,x.l) x.all;refine bp Ij.eq_1 ?_;have hXe:(x.l.length+1==6)=true:=rfl;have hlo:(aW out).length=out.length:=Ad ..;have hnj:(n-i:Nat)-j=n-(i+j):=by omega
   have hoff:i*6+j*6=(i+j)*6:=by omega
   repeat' with_reducible first|refine au ?_|refine ar ?_|refine .pu (h35) hg rfl ?_|refine ⟨?_,?_⟩|intro _|simp only [go_sem,seval,hXb,hX5,hXt,hXe,gi,hnj,hoff]
   ·exact htk.ti
   ·rw [hlo];omega
   ·rw [hlo];omega
   ·omega
   ·omega
   have hfr:bL N2 ((N,cs)::ob):= .cons (fun l h=>hf l (by omega)) (by omega);refine af.cz (ob':=(N,cs)::ob) (live':=nt3::jN lv2 tk) ?_ (fun l cs' h=>by rw [ax (Bq (hfr.lt h))];exact h) (fun _ h=>h)
   have e9:(if (j:Int)<((n-i:Nat):Int) then AV.aM 6 (n-(i+j)) N ((i+j)*6) else AV.sl 6 [] .ai)=if i+j<n then AV.aM 6 (n-(i+j)) N ((i+j)*6) else AV.sl 6 [] .ai:=by
    by_cases h:i+j<n
    ·rw [if_pos h,if_pos (by omega)]
    ·rw [if_neg h,if_neg (by omega)]
   rw [e9];refine ih (n-(i+j)) _ _ (by omega) ⟨i+j,out++[(c.1,x)],.tok nt3,N3,nt3+1,_,?_,rfl,by omega,.new _ _ _ (Au _),hij,by simp;omega,?_,rfl⟩
   ·rw [show (aW (out++[(c.1,x)])).map eg=(aW out).map eg++[AV.agg (AV.int .i64 c.1::x.l)] by simp [aW];rfl]
   ·rw [AL,List.singleton_append,hgx];exact hall
  have hdi:=bY hc;refine af.cz (ob':=(N2,.int .i64 c.1::c.2.l)::(N,cs)::ob) (live':=lv2) ?_ (fun _ _ h=>oU h) (fun _ h=>h);refine .fY (fun k F S=>∃ (j:Nat) (x:aP) (N3 nt3:Nat),F=[(1,.fn (.func 30) [] []),(2,.fn (.func 32) [] [.ptr ob0 0]),(3,.fn (.func 35) [] []),(9,.aM 6 (n-i) N (i*6)),(10,.sl 6 ((aW out).map eg) tk),(11,.ptr N2 0),(12,.int .i64 (j:Int))]/\S=⟨N3,(N2,.int .i64 c.1::x.l)::(N,cs)::ob,nt3,lv2,gl⟩/\N2+1<=N3/\0<j/\i+j<=n/\I x/\sz x+eE ((c0::D).drop (i+j))<=eE ((c0::D).drop i)/\bN J (c.1,x) ((c0::D).drop (i+j))=iN J ((c0::D).drop i)/\k=n-(i+j)) (n-(i+1)) ⟨1,c.2,N2+1,nt2,rfl,rfl,Af _,by decide,by omega,hok c (Aj hc),by rw [hdi,gY];exact Af _,by rw [hdi];rfl,rfl⟩ ?_;rintro k F S ⟨j,x,N3,nt3,rfl,rfl,hN3,hj,hij,hx,hs,hgo,rfl⟩ ih2;have hXb:aE (AV.int .i64 c.1::x.l)=false:=iG (c.1,x.l);have hX5:(5<=x.l.length)=True:=eq_true (Af 5);have hXt:List.take 6 (AV.int .i64 c.1::x.l)=AV.int .i64 c.1::x.l:=rfl
  by_cases h2:i+j<n
  ·obtain ⟨d,hd⟩:∃ d,(c0::D)[i+j]? =some d:=aK (by have:(aW D).length=D.length:=Ad ..;simp;omega);have hdC:(aW (c0::D))[i+j]? =some (d.1,d.2.l):=by unfold aW;rw [Ap,hd];rfl
   obtain ⟨f1,f2⟩:=hrow.at (gC hdC);have hdij:=bY hd;have hdl:(i+(j+1):Nat)=i+j+1:=rfl;have h30:=c30 (gl:=gl) hg (c.1,x.l) (d.1,d.2.l) x.all d.2.all;have hjn:decide ((j:Int)<((n-i:Nat):Int))=true:=decide_eq_true (by omega);have hjp:(j<n-i)=True:=eq_true (by omega);have hoff:i*6+j*6=(i+j)*6:=by omega
   by_cases he:d.1=c.1
   ·have hJl:((J x d.2).l.length+1==6)=true:=rfl;have hJd:List.drop (J x d.2).l.length x.l=[]:=rfl;have hz:(bP c.1 d.1==0)=true:=by rw [he];simp [bP]
    have hso:sz x+sz d.2<=1000000:=by
     rw [hdij,gY] at hs;have h0:eE ((c0::D).drop i)<=eE (c0::D):=EE _ _;omega
    have h33:=hJ.call x d.2 hx (hok d (Aj hd)) hso;have hfr:bL N3 ((N2,AV.int .i64 c.1::x.l)::(N,cs)::ob):= .cons (.cons (fun l h=>hf l (by omega)) (by omega)) (by omega);have hob0:=hf.lt h1;have hlo:List.lookup ob0 ((N2,AV.int .i64 c.1::x.l)::(N,cs)::ob)=some [.str op]:=by rw [ax (by omega),ax (by omega)];exact h1
    refine bp ug.eq_1 ?_
    repeat' first
     |with_reducible first|refine au ?_|refine ar ?_|refine .pu (h30) hg rfl ?_|refine aS.calm (c32 hg op c.1 d.1 x d.2 (J x d.2) ob0 N3 nt3 ((N2,AV.int .i64 c.1::x.l)::(N,cs)::ob) lv2 hfr hlo h33) fun _ _ _=>?_|refine bE.calm (c32 hg op c.1 d.1 x d.2 (J x d.2) ob0 N3 nt3 ((N2,AV.int .i64 c.1::x.l)::(N,cs)::ob) lv2 hfr hlo h33) (fun _ _ _=>by first|exact (fun h=>nomatch h)|(first|exact of_eq_true bj|simp only [cR,cy,eT,bj,and_self])) fun _ _ _=>?_|refine ⟨?_,?_⟩|intro _
     |simp only [go_sem,seval,hjn,hjp,hoff,hbl,f1,f2,hNN,hXb,hX5,hXt,hz,hJl,hJd,bb (show j<9223372036854775807 by omega)]
    all_goals first
     |(rw [<-hK];simp only [aN];done)
     |omega
     |skip
    rename_i N4 nt4 hN4;refine af.cz (ob':=(N2,.int .i64 c.1::(J x d.2).l)::(N,cs)::ob) (live':=lv2) ?_ (fun _ _ h=>oU h) (fun _ h=>h);have hsj:=hJ.sz x d.2;rw [hdij,gY] at hs;refine ih2 (n-(i+(j+1))) _ _ (by omega) ⟨j+1,J x d.2,N4,nt4,rfl,rfl,by omega,by omega,by omega,hJ.ok x d.2 hx (hok d (Aj hd)),by rw [hdl];omega,?_,rfl⟩;rw [<-hgo,hdij,hdl];exact (if_pos he).symm
   ·have hz:(bP c.1 d.1==0)=false:=by unfold bP;grind
    refine bp ug.eq_1 ?_
    repeat' with_reducible first|refine au ?_|refine ar ?_|refine .pu (h30) hg rfl ?_|refine ⟨?_,?_⟩|intro _|simp only [go_sem,seval,hjn,hjp,hoff,hbl,f1,f2,hNN,hXb,hX5,hXt,hz]
    all_goals first
     |(rw [<-hK];simp only [aN];done)
     |omega
     |skip
    refine fin j x N3 nt3 hN3 hj hij ?_;rw [<-hgo,hdij];exact (if_neg he).symm
  ·have hjn:decide ((j:Int)<((n-i:Nat):Int))=false:=decide_eq_false (by omega);refine bp ug.eq_1 ?_
   repeat' with_reducible first|refine au ?_|refine ar ?_|refine ⟨?_,?_⟩|intro _|simp only [go_sem,seval,hjn,hXb,hX5,hXt]
   all_goals first
    |(rw [<-hK];simp only [aN];done)
    |skip
   refine fin j x N3 nt3 hN3 hj hij ?_;rw [<-hgo,AE (by have:(aW D).length=D.length:=Ad ..;simp;omega)];rfl
 ·rw [if_neg hin];refine bp uf.eq_1 ?_
  repeat' with_reducible first|refine au ?_|refine ar ?_|refine ⟨?_,?_⟩|intro _|simp only [go_sem,seval,dH,z0,z4]
  have hen:i=n:=by omega
  rw [AE (by have:(aW D).length=D.length:=Ad ..;simp;omega)] at hall;have hall:out=iN J (c0::D):=by rw [<-hall];exact (AB _).symm
  rw [<-hK];simp only [go_sem,seval];rw [<-hall];exact (Nm.sl (k:=6) (il out)).2.1
def N7 {C:List Cl} (h6:R6 (dg C)) {i:Nat} {c:Cl} (hi:C[i]? =some c) (v:Int):List.take (i*6) (dg C).flatten++[AV.int .i64 v]++List.drop (i*6+1) (dg C).flatten=(dg (C.set i (v,c.2))).flatten:=by
 have hlt:i<(dg C).length:=by
  rw [gg];rcases Al i C.length with h|h
  ·exact h
  ·rw [As h] at hi;cases hi
 have e1:(dg C).drop i=c.r::(dg C).drop (i+1):=bY (gC hi);have e2:dg (C.set i (v,c.2))=(dg C).set i (Cl.r (v,c.2)):=List.map_set ..;rw [e2,Ch,if_pos hlt,BN,List.flatten_cons,h6.QI (by omega),<-Bk,h6.QJ (by omega),e1,List.flatten_cons];simp [Cl.r]
def part (s:Int) (i:Nat) (D:List Ce):List Ce:=bJ s (D.take i)++D.drop i
def Ol {s:Int} {i:Nat} {D:List Ce} {c:Ce} (h:D[i]? =some c):(part s i D)[i]? =some c/\(part s i D).set i (cq s c.1,c.2)=part s (i+1) D:=by
 have hlt:i<D.length:=by
  rcases Al i D.length with h'|h'
  ·exact h'
  ·rw [As h'] at h;cases h
 have hl:(bJ s (D.take i)).length=i:=by unfold bJ;rw [Ad,Av];omega
 have hd:=bY h;unfold part;constructor
 ·rw [AG (by omega),hl,BL,hd];rfl
 ·rw [List.set_append,if_neg (by omega),hl,BL,hd,List.set_cons_zero,CC,h];unfold bJ;simp
def N5 (s:Int) (i:Nat) (D:List Ce):(part s i D).length=D.length:=by
 unfold part bJ;simp;omega
def OQ (D:List Ce):R6 (dg (aW D)):=fun r hr=>by
 obtain ⟨c,hc,rfl⟩:=Ai.1 hr;obtain ⟨d,_,rfl⟩:=Ai.1 hc;exact ⟨rfl,Nm.cons (.int _ _) d.2.all⟩
def Il (D:List Ce):Row (dg (aW D)).flatten (dg (aW D)):=by
 have:=Row.of (OQ D) []
 rwa [AB] at this
def V3:=(by conv=>lhs;reduce:dC [] [] 0x49429c9705f39e3cb69a2f0cf7db2d352f39edb8b4e21b8b4ed0ce4d5b=_)
abbrev ac3:=rP V3
def YI:=(by conv=>lhs;reduce:dC [Ua] [] 0xac9a9584ed1042362e7d5c=_)
abbrev acO:=rP (YI (.int .i64 1))
def Za:=(by conv=>lhs;reduce:dC [Ua] [Ya,Yb] 0xd6bf77e7348cdf738f86ff7b59f9f65b1983fe236b236f7dd4b87ee3f7808b1c0688122d1b9d7855c98e9950a5f601c71d43d82baeb44a=_)
def wN:=rO (Za (.int .i64 0) ac3 acO)
def XS:=(by conv=>lhs;reduce:dC [] [] 0xa2adefbf25dda1c63d2af7957268cbe8e7d64114f0a13b88a94e5af553469=_)
def IV:=rO XS
def aiW:=(by conv=>lhs;reduce:dC [Ua,Ub,Uc] [Ya,Yb] 0x308a27efc3c3f4296732e71c2c9623cc35dab4ba5669d5cc1dac1c42a30b6d7f90056368d94040aef42c=_)
abbrev m11:=rP (aiW (.sl 6 [] .exact) (.int .i64 1) (.int .i64 0) wN IV)
def OP:aD pg 11 49 m11 [.t 6]:= .o2 Tryz.func11 (by kernel_rfl)
def adF (hg:ae gl) (op:List UInt8) (I:aP->Prop) (J:aP->aP->aP) (hJ:Jn gl op I J) (c0:Ce) (D:List Ce) (s:Int) (hs:1<=s) (hs2:s<=4611686018427387904) (hev:∀ c∈c0::D,0<=c.1/\c.1<=1099511627776) (hD:iC (c0::D)) (hok:∀ c∈c0::D,I c.2) (hsz:eE (c0::D)<=1000000) (hn:D.length<=100000):
  Pure pg gl 11 [.str op,.sl 6 ((aW (c0::D)).map eg) .ai,.int .i64 s] (.ok (.sl 6 ((aW (bK J s (c0::D))).map eg) .ai)):=by
 refine .dc (Nm.cons (.str _) (Nm.cons (.sl (il _)) (Nm.cons (.int _ _) Nm.nil))) (Nm.sl (il _)).1 (.aC OP (by simp) (ab 60 ?_));have i29:=c29 (gl:=gl) (c0.1,c0.2.l) (aW D) 1 0 [(0,[.str op])] [] (by unfold aW;rw [Ad];omega);have hDl:(aW D).length=D.length:=Ad ..;have hlen:(aW (c0::D)).length=(aW D).length+1:=rfl;obtain ⟨X,hX⟩:∃ X,X=(aW (c0::D)).map eg:=⟨_,rfl⟩
 have i29:ao pg 29 [.sl 6 X .ai] ⟨1,[(0,[.str op])],0,[],gl⟩ fun o S'=>o= .ok (.aM 6 (c0::D).length 1 0)/\S'=⟨2,[(1,(dg (aW (c0::D))).flatten),(0,[.str op])],0,[],gl⟩:=by
  rw [hX];rw [show (c0::D).length=(aW D).length+1 from (by simp [hDl])];exact i29
 rw [<-hX];generalize hK:bI _ _=Q;have hs1:decide (s<1)=false:=decide_eq_false (by omega)
 repeat' with_reducible first|refine au ?_|refine ar ?_|refine aS.fV (i29) ?_|refine ⟨?_,?_⟩|intro _|simp only [go_sem,seval,hs1]
 have hD1:((D.length+1:Nat):Int)=((c0::D).length:Nat):=rfl;refine .dA (D.length+1) (fun i F S=>F=[(2,.int .i64 s),(3,.ptr 0 0),(7,.aM 6 (D.length+1) 1 0),(18,.int .i64 ((D.length+1:Nat):Int)),(19,.int .i64 (i:Int))]/\S=⟨2,[(1,(dg (aW (part s i (c0::D)))).flatten),(0,[.str op])],0,[],gl⟩) ⟨rfl,rfl⟩ ?_;rintro i F S hi ⟨rfl,rfl⟩ ih
 by_cases h:i<D.length+1
 ·obtain ⟨c,hc⟩:∃ c,(c0::D)[i]? =some c:=aK h;obtain ⟨q1,q2⟩:=Ol (s:=s) hc;obtain ⟨P,hP⟩:∃ P,P=part s i (c0::D):=⟨_,rfl⟩;rw [<-hP] at q1 q2 ⊢;have hC:(aW P)[i]? =some (c.1,c.2.l):=by unfold aW;rw [Ap,q1];rfl
  have hrow:=Il P;obtain ⟨e1,e2⟩:=hrow.at (gC hC);have hPl:P.length=D.length+1:=by rw [hP,N5];rfl
  have hbl:=hrow.bu (by rw [gg];unfold aW;rw [Ad];omega);have hput:=N7 (OQ P) hC (cq s c.1)
  have hset:(aW P).set i (cq s c.1,c.2.l)=aW (part s (i+1) (c0::D)):=by
   rw [<-q2];unfold aW;rw [List.map_set]
  rw [hset] at hput;obtain ⟨fl,hfl⟩:∃ fl,fl=(dg (aW P)).flatten:=⟨_,rfl⟩;rw [<-hfl] at e1 e2 hbl hput ⊢
  have hld:(List.drop (i*6) fl)[0]? =some (.int .i64 c.1):=by
   have:(List.take 6 (List.drop (i*6) fl))[0]? =(List.drop (i*6) fl)[0]? :=by rw [Bj,if_pos (by decide)]
   rw [<-this,e1];rfl
  have hce:=hev c (Aj hc);have htm:c.1.tmod s=c.1%s:=Int.tmod_eq_emod_of_nonneg hce.1;have hm0:=Bv c.1 (show s≠0 by omega);have hm1:=BR c.1 (show 0<s by omega)
  have hm2:c.1%s<=c.1:=by
   have h7:=Bt c.1 s;have h8:0<=c.1/s:=Bw hce.1 (by omega);have h9:0<=s*(c.1/s):=Bx (by omega) h8;omega
  have htn:decide (c.1%s<0)=false:=decide_eq_false (by omega)
  have hfw:IntKind.i64.wrap (c.1-c.1%s)=cq s c.1:=by
   unfold cq;rw [IntKind.wrap_i64];omega
  have hf6:decide (i*6+1<=fl.length)=true:=by
   have:6<=(List.drop (i*6) fl).length:=of_eq_true e2;rw [AK] at this;exact decide_eq_true (by omega)
  refine bp wN.eq_1 ?_
  repeat' first
   |with_reducible first|refine au ?_|refine ar ?_|refine ⟨?_,?_⟩|intro _
   |simp only [go_sem,seval,fh h,eC h,hbl,hld,htm,htn,hfw,hf6,hput,bb (show i<9223372036854775807 by omega)]
  ·omega
  refine af.cz (ob':=[(1,(dg (aW (part s (i+1) (c0::D)))).flatten),(0,[.str op])]) (live':=[]) ?_ (fun _ _ h=>oU h) (fun _ h=>h);exact ih h _ _ ⟨rfl,rfl⟩
 ·refine bp wN.eq_1 ?_
  repeat' first
   |with_reducible first|refine au ?_|refine ar ?_|refine ⟨?_,?_⟩|intro _
   |simp only [go_sem,seval,fD (Am h)]
  have hin:i=D.length+1:=by omega
  have hpf:part s i (c0::D)=bJ s (c0::D):=by
   unfold part;rw [AN (by simp;omega),AE (by simp;omega),AB]
  rw [hpf];have hfd:bJ s (c0::D)=(cq s c0.1,c0.2)::bJ s D:=rfl;have hfl:(dg (aW (bJ s (c0::D)))).flatten=flat ((aW (bJ s (c0::D))).map eg):=(kZ _).symm;rw [hfl];have hrow:=Il (bJ s (c0::D));have hbl:=hrow.bu (by rw [gg];exact Nat.succ_pos _);rw [hfl] at hbl
  have hszf:∀ D:List Ce,eE (bJ s D)=eE D:=fun D=>by
   unfold eE bJ;rw [AY];rfl
  have hascF:∀ D:List Ce,iC D->iC (aW D):=fun D=>by
   induction D with
   |nil=>exact fun h=>h
   |cons a D ih=>
    cases D with
    |nil=>exact fun h=>trivial
    |cons b D=>exact fun h=>⟨h.1,ih h.2⟩
  have h34:=c34 hg op I J hJ (cq s c0.1,c0.2) (bJ s D) (hascF _ (vE (by omega) hD)) (fun c hc=>by
   rw [<-hfd] at hc;obtain ⟨d,hd,rfl⟩:=Ai.1 hc
   exact hok d hd) (by rw [<-hfd,hszf];exact hsz) (by unfold bJ;rw [Ad];exact hn) 0 2 0 [(0,[.str op])] [] (.cons (.nil _) (by decide)) rfl
  rw [<-hfd] at h34;refine af.freeze (k:=6) (l:=1) (xs:=(aW (bJ s (c0::D))).map eg) (ob':=[(0,[.str op])]) (F':=[(3,.ptr 0 0),(7,.sl 6 ((aW (bJ s (c0::D))).map eg) .ai)]) ?_ rfl hbl ?_ ?_ ?_
  ·refine bp IV.eq_1 ?_
   repeat' with_reducible first|refine au ?_|refine ar ?_|refine ⟨?_,?_⟩|intro _|simp only [go_sem,seval]
   refine ao.mono h34 fun o S' ho=>?_
   cases o with
   |eF v=>exact ho.elim
   |ok r=>
    repeat' with_reducible first|refine au ?_|refine ar ?_|refine ⟨?_,?_⟩|intro _|simp only [go_sem,seval]
    rw [<-hK];simp only [go_sem,seval];exact ho
  ·exact fun x hx=>by
    obtain ⟨c,hc,rfl⟩:=Ai.1 hx;obtain ⟨d,_,rfl⟩:=Ai.1 hc;rfl
  ·intro l' cs' e;rw [List.lookup_cons] at e;split at e
   ·rename_i hl;injection e with e
    subst e;obtain rfl:l'=0:=by simpa using hl
    exact ⟨by decide,rfl,_,rfl,rfl,fun m c' h=>⟨c',h,.inl rfl⟩⟩
   ·cases e
  ·exact kO (.inl rfl) (kO (.all (by rw [Ad];unfold aW bJ;simp)) wv)
def Oj:Nm (.sl 6 [] .ai):= .sl Nm.nil
def ZM (N nt:Nat) (ob:List (Nat×List AV)) (lv:List Nat):ao pg 150 [.sl 6 [] .exact,.int .i64 0,.int .i64 0,.fn (.func 30) [] []] ⟨N,ob,nt,lv,gl⟩ fun o S'=>o= .ok (.aF [])/\S'=⟨N,ob,nt,lv,gl⟩:=by
 refine .aC I0 (by simp) (ab 60 ?_)
 repeat' first
  |with_reducible first|refine au ?_|refine ar ?_|refine af.ej (ab 60 (bM wL.eq_1 ?_))|refine af.inLoop (ab 60 (bM wL.eq_1 ?_))|refine af.ej (ab 60 (bM sh.eq_1 ?_))|refine af.inLoop (ab 60 (bM sh.eq_1 ?_))|refine ⟨?_,?_⟩|intro _
  |simp only [go_sem,seval,show IntKind.i64.wrap 1=1 from rfl]
def Vz (N nt:Nat) (ob:List (Nat×List AV)) (lv:List Nat):ao pg 104 [.sl 6 [] .exact,.int .i64 0,.fn (.func 30) [] []] ⟨N,ob,nt,lv,gl⟩ fun o S'=>o= .ok (.aF [])/\S'=⟨N,ob,nt,lv,gl⟩:=by
 have h:=fun nt=>ZM (gl:=gl) N nt ob lv;refine .aC JY (by simp) (ab 60 ?_)
 repeat' with_reducible first|refine au ?_|refine ar ?_|refine af.ej (ab 60 (bM rZ.eq_1 ?_))|refine af.inLoop (ab 60 (bM rZ.eq_1 ?_))|refine af.ej (ab 60 (bM pT.eq_1 ?_))|refine af.inLoop (ab 60 (bM pT.eq_1 ?_))|refine af.ej (ab 60 (bM r8.eq_1 ?_))|refine af.inLoop (ab 60 (bM r8.eq_1 ?_))|refine aS.fV (h _) ?_|refine ⟨?_,?_⟩|intro _|simp only [go_sem,seval]
def abX (N nt:Nat) (ob:List (Nat×List AV)) (lv:List Nat):ao pg 66 [.sl 6 [] .exact,.fn (.func 30) [] []] ⟨N,ob,nt,lv,gl⟩ fun o S'=>o= .ok (.aF [])/\S'=⟨N,ob,nt,lv,gl⟩:=by
 have h:=fun nt=>Vz (gl:=gl) N nt ob lv;refine .aC Od (by simp) (ab 60 ?_)
 repeat' with_reducible first|refine au ?_|refine ar ?_|refine aS.fV (h _) ?_|refine ⟨?_,?_⟩|intro _|simp only [go_sem,seval]
def adA (hg:ae gl) (ob0 N nt:Nat) (ob:List (Nat×List AV)) (lv:List Nat):ao pg 34 [.sl 6 [] .exact,.fn (.func 30) [] [],.fn (.func 32) [] [.ptr ob0 0],.fn (.func 35) [] []] ⟨N,ob,nt,lv,gl⟩ fun o _=>o= .ok (.sl 6 [] .exact):=by
 have h:=fun nt=>abX (gl:=gl) N nt ob lv;have h29:Pure pg gl 29 [.sl 6 [] .exact] (.ok (.sl 6 [] .exact)):=(Dm (gl:=gl)).conv rfl;refine .aC NY (by simp) (ab 60 ?_)
 repeat' with_reducible first|refine au ?_|refine ar ?_|refine af.ej (ab 60 (bM ug.eq_1 ?_))|refine af.inLoop (ab 60 (bM ug.eq_1 ?_))|refine af.ej (ab 60 (bM uf.eq_1 ?_))|refine af.inLoop (ab 60 (bM uf.eq_1 ?_))|refine .pu (h29) hg rfl ?_|refine aS.fV (h _) ?_|refine ⟨?_,?_⟩|intro _|simp only [go_sem,seval,z0,z4]
def Ih (hg:ae gl) (op:List UInt8) (s:Int) (hs:1<=s):Pure pg gl 11 [.str op,.sl 6 [] .ai,.int .i64 s] (.ok (.sl 6 [] .ai)):=by
 have h:=fun N nt ob lv=>adA hg 0 N nt ob lv;have h29:=Dm (gl:=gl);have hs1:decide (s<1)=false:=decide_eq_false (by omega);refine .dc (Nm.cons (.str _) (Nm.cons Oj (Nm.cons (.int _ _) Nm.nil))) Oj.1 (.aC OP (by simp) (ab 60 ?_));generalize hK:bI _ _=Q
 repeat' with_reducible first|refine au ?_|refine ar ?_|refine af.ej (ab 60 (bM wN.eq_1 ?_))|refine af.inLoop (ab 60 (bM wN.eq_1 ?_))|refine .pu (h29) hg rfl ?_|refine ⟨?_,?_⟩|intro _|simp only [go_sem,seval,hs1,z0,z4]
 refine bp IV.eq_1 ?_
 repeat' with_reducible first|refine au ?_|refine ar ?_|refine ⟨?_,?_⟩|intro _|simp only [go_sem,seval]
 refine ao.mono (h _ _ _ _) fun o S' ho=>?_;subst ho
 repeat' with_reducible first|refine au ?_|refine ar ?_|refine ⟨?_,?_⟩|intro _|simp only [go_sem,seval]
 rw [<-hK];simp only [go_sem,seval];exact rfl
def wi (n:Int):IntKind.i64.wrap n=(n+9223372036854775808)%18446744073709551616-9223372036854775808:=IntKind.wrap_i64 n
def nU (a b:Int):IntKind.i64.wrap (IntKind.i64.wrap a+b)=IntKind.i64.wrap (a+b):=by simp only [wi];omega
def qO (a b:Int):IntKind.i64.wrap (a+IntKind.i64.wrap b)=IntKind.i64.wrap (a+b):=by simp only [wi];omega
def Dc (a:Int):IntKind.i64.wrap (IntKind.i64.wrap a)=IntKind.i64.wrap a:=by simp only [wi];omega
section counts
variable {κ:Type}
structure rK (cm:κ->κ->Int):Prop where
 eq:∀ a b,cm a b=0↔a=b
 lt:∀ a b c,cm a b<0->cm b c<0->cm a c<0
 gt:∀ a b,0<cm a b↔cm b a<0
def bo [DecidableEq κ]:List (κ×Int)->κ->Int
 |[],_=>0
 |x::r,k=>if x.1=k then x.2 else bo r k
structure Ks (cm:κ->κ->Int) (l:List (κ×Int)):Prop where
 ji:l.Pairwise fun a b=>cm a.1 b.1<0
 pos:∀ x∈l,x.2≠0/\IntKind.i64.wrap x.2=x.2
def Ks.nil (cm:κ->κ->Int):Ks cm []:=⟨List.Pairwise.nil,fun _ h=>nomatch h⟩
def Ks.tail {cm:κ->κ->Int} {x:κ×Int} {l:List (κ×Int)} (h:Ks cm (x::l)):Ks cm l:=⟨(AT.1 h.ji).2,fun y hy=>h.pos y (Ao _ hy)⟩
def rK.G5 {cm:κ->κ->Int} (hc:rK cm) (a:κ): ¬cm a a<0:=by
 have:=(hc.eq a a).2 rfl;omega
variable [DecidableEq κ]
def vg {l:List (κ×Int)} {k:κ} (h:∀ x∈l,x.1≠k):bo l k=0:=by
 induction l with
 |nil=>rfl
 |cons x r ih=>
  unfold bo;rw [if_neg (h x (by simp)),ih fun y hy=>h y (by simp [hy])]
def Ks.out {cm:κ->κ->Int} (hc:rK cm) {x:κ×Int} {l:List (κ×Int)} (h:Ks cm (x::l)) {k:κ} (hk:cm k x.1<0∨k=x.1):bo l k=0:=by
 refine vg fun y hy e=>?_;have h1:=(AT.1 h.ji).1 y hy;subst e;rcases hk with hk|hk
 ·exact hc.G5 _ (hc.lt _ _ _ hk h1)
 ·rw [hk] at h1;exact hc.G5 _ h1
def Ks.ext {cm:κ->κ->Int} (hc:rK cm):∀ {l m:List (κ×Int)},Ks cm l->Ks cm m->(∀ k,bo l k=bo m k)->l=m
 |[],[],_,_,_=>rfl
 |[],y::m,_,h2,h=>by
  have:=h y.1;simp only [bo,if_true] at this;exact absurd this.symm (h2.pos y (by simp)).1
 |x::l,[],h1,_,h=>by
  have:=h x.1;simp only [bo,if_true] at this;exact absurd this (h1.pos x (by simp)).1
 |x::l,y::m,h1,h2,h=>by
  have hx:=h x.1;have hy:=h y.1
  have e:x.1=y.1:=by
   refine CD fun hne=>?_;have n1:cm x.1 y.1≠0:=fun e=>hne ((hc.eq _ _).1 e);rcases CA n1 with hlt|hgt
   ·have h4:=h2.out hc (k:=x.1) (.inl hlt);simp only [bo,if_true,if_neg (fun e=>hne (Eq.symm e))] at hx;rw [h4] at hx;exact (h1.pos x (by simp)).1 hx
   ·have h4:=h1.out hc (k:=y.1) (.inl ((hc.gt _ _).1 hgt));simp only [bo,if_true,if_neg hne] at hy;rw [h4] at hy;exact (h2.pos y (by simp)).1 hy.symm
  have e2:x.2=y.2:=by
   simp only [bo,if_true,if_pos e.symm] at hx;exact hx
  have e3:x=y:=Prod.ext e e2;subst e3;rw [Ks.ext hc h1.tail h2.tail fun k=>?_];have hk:=h k
  by_cases e4:x.1=k
  ·rw [h1.out hc (.inr e4.symm),h2.out hc (.inr e4.symm)]
  ·simp only [bo,if_neg e4] at hk;exact hk
def eM (cm:κ->κ->Int) (x:κ×Int):List (κ×Int)->List (κ×Int)
 |[]=>[x]
 |y::r=>if y.1=x.1 then (if IntKind.i64.wrap (y.2+x.2)=0 then r else (y.1,IntKind.i64.wrap (y.2+x.2))::r) else if 0<cm y.1 x.1 then x::y::r else y::eM cm x r
def DO {cm:κ->κ->Int} {x z:κ×Int}:∀ {l:List (κ×Int)},z∈eM cm x l->z.1=x.1∨z∈l
 |[],h=>by
  simp only [eM,Ax] at h;exact .inl (by rw [h])
 |y::r,h=>by
  unfold eM at h;split at h
  ·rename_i e;split at h
   ·exact .inr (Ao _ h)
   ·rcases Ab.1 h with rfl|h
    ·exact .inl e
    ·exact .inr (Ao _ h)
  ·split at h
   ·rcases Ab.1 h with rfl|h
    ·exact .inl rfl
    ·exact .inr h
   ·rcases Ab.1 h with rfl|h
    ·exact .inr A4
    ·rcases DO h with h|h
     ·exact .inl h
     ·exact .inr (Ao _ h)
def kN {cm:κ->κ->Int} (hc:rK cm) {x:κ×Int} (h0:x.2≠0) (hw:IntKind.i64.wrap x.2=x.2):∀ {l:List (κ×Int)},Ks cm l->Ks cm (eM cm x l)
 |[],_=>⟨List.pairwise_singleton ..,fun y hy=>by
   obtain rfl:=Ax.1 hy
   exact ⟨h0,hw⟩⟩
 |y::r,h=>by
  have hp:=AT.1 h.ji;unfold eM;split
  ·split
   ·exact h.tail
   ·rename_i h1;refine ⟨AT.2 ⟨hp.1,hp.2⟩,fun z hz=>?_⟩;rcases Ab.1 hz with rfl|hz
    ·exact ⟨h1,Dc _⟩
    ·exact h.pos z (Ao _ hz)
  ·rename_i e;split
   ·rename_i hgt;have h2:=(hc.gt _ _).1 hgt;refine ⟨AT.2 ⟨fun z hz=>?_,h.ji⟩,fun z hz=>?_⟩
    ·rcases Ab.1 hz with rfl|hz
     ·exact h2
     ·exact hc.lt _ _ _ h2 (hp.1 z hz)
    ·rcases Ab.1 hz with rfl|hz
     ·exact ⟨h0,hw⟩
     ·exact h.pos z hz
   ·rename_i hgt;have ih:=kN hc h0 hw h.tail;refine ⟨AT.2 ⟨fun z hz=>?_,ih.ji⟩,fun z hz=>?_⟩
    ·rcases DO hz with e2|hz
     ·have n1:cm y.1 x.1≠0:=fun e3=>e ((hc.eq _ _).1 e3);rw [e2];omega
     ·exact hp.1 z hz
    ·rcases Ab.1 hz with rfl|hz
     ·exact h.pos _ A4
     ·exact ih.pos z hz
def vJ {cm:κ->κ->Int} (hc:rK cm) {x:κ×Int} (hw:IntKind.i64.wrap x.2=x.2) (k:κ):∀ {l:List (κ×Int)},Ks cm l->bo (eM cm x l) k=IntKind.i64.wrap (bo l k+if x.1=k then x.2 else 0)
 |[],_=>by
  simp only [eM,bo];split
  ·rw [BP,hw]
  ·rfl
 |y::r,h=>by
  have hy:=(h.pos y (by simp)).2
  have hr:IntKind.i64.wrap (bo r k)=bo r k:=by
   have:∀ l:List (κ×Int),(∀ z∈l,IntKind.i64.wrap z.2=z.2)->IntKind.i64.wrap (bo l k)=bo l k:=fun l hl=>by
    induction l with
    |nil=>rfl
    |cons z l ih=>
     unfold bo;split
     ·exact hl z (by simp)
     ·exact ih fun w hw=>hl w (by simp [hw])
   exact this r fun z hz=>(h.pos z (by simp [hz])).2
  unfold eM;split
  ·rename_i e;split
   ·rename_i e0
    by_cases hk:x.1=k
    ·rw [h.out hc (.inr (by rw [<-hk,e]))];simp only [bo,if_pos (e.trans hk),if_pos hk,e0]
    ·simp only [bo,if_neg (fun e2=>hk (e.symm.trans e2)),if_neg hk,Ba,hr]
   ·simp only [bo]
    by_cases hk:x.1=k
    ·simp only [if_pos (e.trans hk),if_pos hk]
    ·simp only [if_neg (fun e2=>hk (e.symm.trans e2)),if_neg hk,Ba,hr]
  ·rename_i e;split
   ·rename_i hgt;have h2:=(hc.gt _ _).1 hgt;simp only [bo]
    by_cases hk:x.1=k
    ·have h3:=h.out hc (k:=k) (.inl (by rw [<-hk];exact h2));simp only [if_pos hk,if_neg (fun e2=>e (Eq.trans e2 hk.symm)),h3,BP,hw]
    ·simp only [if_neg hk,Ba];split
     ·exact hy.symm
     ·exact hr.symm
   ·simp only [bo];rw [vJ hc hw k h.tail]
    by_cases hk:y.1=k
    ·have: ¬x.1=k:=fun e2=>e (hk.trans e2.symm);simp only [if_pos hk,if_neg this,Ba,hy]
    ·simp only [if_neg hk]
def gT {cm:κ->κ->Int} (hc:rK cm):∀ {b a:List (κ×Int)},Ks cm b->Ks cm a->Ks cm (b.foldl (fun l x=>eM cm x l) a)
 |[],_,_,ha=>ha
 |x::b,a,hb,ha=>by
  rw [List.foldl_cons];exact gT hc hb.tail (kN hc (hb.pos x (by simp)).1 (hb.pos x (by simp)).2 ha)
def jV {cm:κ->κ->Int} (hc:rK cm) (k:κ):∀ {b a:List (κ×Int)},Ks cm b->Ks cm a->IntKind.i64.wrap (bo (b.foldl (fun l x=>eM cm x l) a) k)=IntKind.i64.wrap (bo a k+bo b k)
 |[],a,_,ha=>by
  show IntKind.i64.wrap (bo a k)=IntKind.i64.wrap (bo a k+0);rw [Ba]
 |x::b,a,hb,ha=>by
  have h1:=hb.pos x (by simp);rw [List.foldl_cons,jV hc k hb.tail (kN hc h1.1 h1.2 ha),vJ hc h1.2 k ha,nU]
  congr 1
  by_cases e:x.1=k
  ·rw [hb.out hc (.inr e.symm)];simp only [bo,if_pos e];omega
  ·simp only [bo,if_neg e];omega
def Ks.wr {cm:κ->κ->Int} {l:List (κ×Int)} (h:Ks cm l) (k:κ):IntKind.i64.wrap (bo l k)=bo l k:=by
 have:∀ l:List (κ×Int),(∀ z∈l,IntKind.i64.wrap z.2=z.2)->IntKind.i64.wrap (bo l k)=bo l k:=fun l hl=>by
  induction l with
  |nil=>rfl
  |cons z l ih=>
   unfold bo;split
   ·exact hl z (by simp)
   ·exact ih fun w hw=>hl w (by simp [hw])
 exact this l fun z hz=>(h.pos z hz).2
def u5 {cm:κ->κ->Int} (hc:rK cm) {a b c:List (κ×Int)} (ha:Ks cm a) (hb:Ks cm b) (hd:Ks cm c):
  c.foldl (fun l x=>eM cm x l) (b.foldl (fun l x=>eM cm x l) a)=(c.foldl (fun l x=>eM cm x l) b).foldl (fun l x=>eM cm x l) a:=by
 have h1:=gT hc hb ha;have h2:=gT hc hd hb;refine Ks.ext hc (gT hc hd h1) (gT hc h2 ha) fun k=>?_;rw [<-(gT hc hd h1).wr k,<-(gT hc h2 ha).wr k,jV hc k hd h1,jV hc k h2 ha,<-nU,jV hc k hb ha,nU,<-qO _ (bo (c.foldl _ b) k),jV hc k hd hb,qO]
 congr 1
 omega
end counts
def ig:rK bP:=by
 constructor
 all_goals (intros;unfold bP at*;grind)
def oL (x y:UInt8) (a b:Bytes):Op.bytesLess (x::a) (y::b)=true↔x.toNat<y.toNat∨(x=y/\Op.bytesLess a b=true):=by simp [Op.bytesLess,UInt8.lt_iff_toNat_lt]
def Mi:rK ph:=by
 have un:∀ x y:UInt8,x=y↔x.toNat=y.toNat:=fun x y=>UInt8.toNat_inj.symm
 have G5:∀ a:Bytes,¬Op.bytesLess a a=true:=fun a=>by
  induction a with
  |nil=>simp [Op.bytesLess]
  |cons x a ih=>
   rw [oL];rintro (h|⟨_,h⟩)
   ·omega
   ·exact ih h
 have tot:∀ a b:Bytes,Op.bytesLess a b=true∨Op.bytesLess b a=true∨a=b:=fun a=>by
  induction a with
  |nil=>intro b;cases b<;>simp [Op.bytesLess]
  |cons x a ih=>
   intro b
   cases b with
   |nil=>simp [Op.bytesLess]
   |cons y b=>
    rw [oL,oL];rcases Nat.lt_trichotomy x.toNat y.toNat with h|h|h
    ·exact .inl (.inl h)
    ·have e:=(un x y).2 h;subst e;rcases ih b with h|h|h
     ·exact .inl (.inr ⟨rfl,h⟩)
     ·exact .inr (.inl (.inr ⟨rfl,h⟩))
     ·exact .inr (.inr (by rw [h]))
    ·exact .inr (.inl (.inl h))
 have tr:∀ a b c:Bytes,Op.bytesLess a b=true->Op.bytesLess b c=true->Op.bytesLess a c=true:=fun a=>by
  induction a with
  |nil=>intro b c h1 h2;cases c<;>cases b<;>simp_all [Op.bytesLess]
  |cons x a ih=>
   intro b c h1 h2
   cases b with
   |nil=>simp [Op.bytesLess] at h1
   |cons y b=>
    cases c with
    |nil=>simp [Op.bytesLess] at h2
    |cons z c=>
     rw [oL] at*;rcases h1 with h1|⟨rfl,h1⟩
     ·rcases h2 with h2|⟨rfl,h2⟩
      ·exact .inl (Nat.lt_trans h1 h2)
      ·exact .inl h1
     ·rcases h2 with h2|⟨rfl,h2⟩
      ·exact .inl h2
      ·exact .inr ⟨rfl,ih b c h1 h2⟩
 have key:∀ a b:Bytes,(Op.bytesLess a b=true/\Op.bytesLess b a=false/\a≠b)∨(Op.bytesLess a b=false/\Op.bytesLess b a=true/\a≠b)∨(Op.bytesLess a b=false/\Op.bytesLess b a=false/\a=b):=fun a b=>by
  have h1:=G5 a;have h2:=G5 b;have h3:=tot a b;have h4:=tr a b a;have h5:=tr b a b
  by_cases e:a=b
  ·subst e
   simp_all
  ·grind
 have n1:∀ a b:Bytes,ph a b<0↔Op.bytesLess a b=true:=fun a b=>by
  unfold ph;have:=key a b
  grind
 refine ⟨fun a b=>?_,fun a b c h1 h2=>?_,fun a b=>?_⟩
 ·have:=key a b;unfold ph
  grind
 ·rw [n1] at*;exact tr a b c h1 h2
 ·rw [n1];have:=key a b;unfold ph
  grind
def pF:rK jP:=by
 have hk:=ig;have hs:=Mi;refine ⟨fun a b=>?_,fun a b c h1 h2=>?_,fun a b=>?_⟩
 ·obtain ⟨k,n,s⟩:=a;obtain ⟨k',n',s'⟩:=b;have e1:=hk.eq k k';have e2:=hk.eq n n';have e3:=hs.eq s s';simp only [jP,p6,bW.mk.injEq]
  grind
 ·obtain ⟨k,n,s⟩:=a;obtain ⟨k',n',s'⟩:=b;obtain ⟨k2,n2,s2⟩:=c;have a1:=hk.eq k k';have a2:=hk.eq k' k2;have a3:=hk.eq k k2;have a4:=hk.lt k k' k2;have b1:=hk.eq n n';have b2:=hk.eq n' n2;have b3:=hk.eq n n2;have b4:=hk.lt n n' n2;have d1:=hs.eq s s';have d2:=hs.eq s' s2;have d3:=hs.eq s s2;have d4:=hs.lt s s' s2;simp only [jP,p6] at h1 h2 ⊢
  by_cases p1:bP k k'=0
  ·have:=a1.1 p1;subst this;rw [if_pos p1] at h1
   by_cases p2:bP k k2=0
   ·rw [if_pos p2] at h2 ⊢
    by_cases q1:bP n n'=0
    ·have:=b1.1 q1;subst this;rw [if_pos q1] at h1
     by_cases q2:bP n n2=0
     ·rw [if_pos q2] at h2 ⊢
      grind
     ·rw [if_neg q2] at h2 ⊢;exact h2
    ·rw [if_neg q1] at h1
     by_cases q2:bP n' n2=0
     ·have:=b2.1 q2;subst this;rw [if_neg q1];exact h1
     ·rw [if_neg q2] at h2;have:=b4 h1 h2;rw [if_neg (by omega)];exact this
   ·rw [if_neg p2] at h2 ⊢;exact h2
  ·rw [if_neg p1] at h1
   by_cases p2:bP k' k2=0
   ·have:=a2.1 p2;subst this;rw [if_neg p1];exact h1
   ·rw [if_neg p2] at h2;have:=a4 h1 h2;rw [if_neg (by omega)];exact this
 ·obtain ⟨k,n,s⟩:=a;obtain ⟨k',n',s'⟩:=b;have a1:=hk.eq k k';have a2:=hk.eq k' k;have a3:=hk.gt k k';have b1:=hk.eq n n';have b2:=hk.eq n' n;have b3:=hk.gt n n';have d1:=hs.eq s s';have d2:=hs.eq s' s;have d3:=hs.gt s s';simp only [jP,p6]
  grind
def Hx (x:It):Prop:=x.src=[]/\x.seq=0
def jZ (x:It):bW×Int:=(x.v,x.n)
def Ms {x y:It}:pd (mark false y) (mark false x)=jP y.v x.v:=by
 have h1:=(Mi.eq [] []).2 rfl;have h2:=(ig.eq 0 0).2 rfl;simp [pd,mark,p6,h1,h2];intro h;exact h.symm
def EB {x y:It}:(mark false y==mark false x)=decide (y.v=x.v):=by
 by_cases h:y.v=x.v
 ·simp [mark,h]
 ·have: ¬mark false y=mark false x:=fun e=>h (by simp only [mark,Ah,if_false,It.mk.injEq] at e;exact e.1);rw [decide_eq_false h];exact beq_false_of_ne this
def GO (x:It) {l:List It} (h:∀ y∈l,Hx y):∀ y∈eK false x l,Hx y:=fun y hy=>by
 unfold eK at hy;split at hy
 ·rename_i i hi;obtain ⟨z,h1,_⟩:=uw hi;split at hy
  ·rcases AA.1 hy with hy|hy
   ·exact h y (A5 hy)
   ·exact h y (A9 hy)
  ·rcases List.mem_or_eq_of_mem_set hy with hy|rfl
   ·exact h y hy
   ·have:l.getD i x=z:=by rw [AU,h1];rfl
    rw [this];exact h z (Aj h1)
 ·rcases AA.1 hy with hy|hy
  ·exact h y (A5 hy)
  ·rcases Ab.1 hy with rfl|hy
   ·exact ⟨rfl,rfl⟩
   ·exact h y (A9 hy)
def FA (x:It):∀ {l:List It},Ks jP (l.map jZ)->(eK false x l).map jZ=eM jP (jZ x) (l.map jZ)
 |[],_=>rfl
 |z::l,hk=>by
  have ih:=FA x (l:=l) hk.tail
  by_cases e:z.v=x.v
  ·have e1:(mark false z==mark false x)=true:=by rw [EB,decide_eq_true e]
   have e2:eK false x (z::l)=if IntKind.i64.wrap (z.n+x.n)==0 then l else {z with n:=IntKind.i64.wrap (z.n+x.n)}::l:=by simp [eK,hO,e1]
   rw [e2];simp only [List.map_cons,eM,jZ,if_pos e,beq_iff_eq];split<;>rfl
  ·have e1:(mark false z==mark false x)=false:=by rw [EB,decide_eq_false e]
   by_cases hg:0<jP z.v x.v
   ·have:hO (fun y=>mark false y==mark false x) l=none:=by
     have key:∀ l:List It,(∀ y∈l,¬y.v=x.v)->hO (fun y=>mark false y==mark false x) l=none:=fun l hl=>by
      induction l with
      |nil=>rfl
      |cons w l ih=>
       unfold hO;rw [EB,decide_eq_false (hl w (by simp)),ih fun y hy=>hl y (by simp [hy])];rfl
     refine key l fun y hy e4=>?_;have h5:=(AT.1 hk.ji).1 (jZ y) (BF hy);have h6:=(pF.gt _ _).1 hg;simp only [jZ,e4] at h5;exact pF.G5 _ (pF.lt _ _ _ h5 h6)
    have e3:eK false x (z::l)={mark false x with n:=x.n}::z::l:=by simp [eK,hO,e1,this,kF,Ms,hg]
    rw [e3];simp only [List.map_cons,eM,jZ,if_neg e,if_pos hg];rfl
   ·have e3:eK false x (z::l)=z::eK false x l:=by
     unfold eK kF;simp only [hO,e1,Ah,if_false,Ms,decide_eq_false hg]
     cases hO (fun y=>mark false y==mark false x) l with
     |some i=>simp;split<;>rfl
     |none=>
      cases hO (fun y=>decide (0<jP y.v x.v)) l with
      |some i=>simp
      |none=>simp
    rw [e3];simp only [List.map_cons,eM,jZ,if_neg e,if_neg hg];rw [ih];rfl
structure Kp (l:List It):Prop where
 p:∀ y∈l,Hx y
 k:Ks jP (l.map jZ)
def Kp.eq {l m:List It} (hl:Kp l) (hm:Kp m) (h:l.map jZ=m.map jZ):l=m:=by
 have key:∀ l m:List It,(∀ y∈l,Hx y)->(∀ y∈m,Hx y)->l.map jZ=m.map jZ->l=m:=fun l=>by
  induction l with
  |nil=>intro m _ _ h;cases m with
   |nil=>rfl
   |cons=>cases h
  |cons x l ih=>
   intro m h1 h2 h
   cases m with
   |nil=>cases h
   |cons y m=>
    injection h with h3 h4
    have h5:=h1 x (by simp);have h6:=h2 y (by simp);obtain ⟨a,b,c,d⟩:=x;obtain ⟨a',b',c',d'⟩:=y;simp only [jZ,Hx,Ac] at h3 h5 h6;rw [ih m (fun z hz=>h1 z (by simp [hz])) (fun z hz=>h2 z (by simp [hz])) h4];simp [h3,h5,h6]
 exact key l m hl.p hm.p h
def uv:∀ {b a:List It},Kp b->Kp a->Kp (b.foldl iA a)/\(b.foldl iA a).map jZ=(b.map jZ).foldl (fun l x=>eM jP x l) (a.map jZ)
 |[],a,_,ha=>⟨ha,rfl⟩
 |x::b,a,hb,ha=>by
  have h0:=hb.k.pos (jZ x) (by simp)
  have hx:iA a x=eK false x a:=by
   unfold iA;rw [beq_false_of_ne (show x.n≠0 from h0.1)];rfl
  have e:=FA x ha.k;have hi:Kp (eK false x a):=⟨GO x ha.p,by rw [e];exact kN pF h0.1 h0.2 ha.k⟩;have ih:=uv (b:=b) (a:=eK false x a) ⟨fun y hy=>hb.p y (by simp [hy]),hb.k.tail⟩ hi;rw [List.foldl_cons,hx];refine ⟨ih.1,?_⟩;rw [ih.2,e];rfl
def Gt {a b c:aP} (ha:Kp a.cG) (hb:Kp b.cG) (hc:Kp c.cG):kq (kq a b) c=kq a (kq b c):=by
 have h1:=uv hb ha;have h2:=uv hc hb;have h3:=uv hc h1.1;have h4:=uv h2.1 ha
 have e:c.cG.foldl iA (b.cG.foldl iA a.cG)=(c.cG.foldl iA b.cG).foldl iA a.cG:=by
  refine h3.1.eq h4.1 ?_;rw [h3.2,h4.2,h1.2,h2.2];exact u5 pF ha.k hb.k hc.k
 simp only [kq,aP.mk.injEq,and_true,true_and];exact ⟨by rw [nU,qO];congr 1;omega,e⟩
def Nq {a b:aP} (ha:Kp a.cG) (hb:Kp b.cG):Kp (kq a b).cG:=(uv hb ha).1
def uW (a b c:aP):ky (ky a b) c=ky a (ky b c):=by
 simp only [ky,aP.mk.injEq,and_true];rw [nU,qO]
 congr 1
 omega
def Gc (a b c:aP):kG (kG a b) c=kG a (kG b c):=by
 simp only [kG,aP.mk.injEq,and_true,true_and];exact ⟨by rw [nU,qO];congr 1;omega,AL _ _ _⟩
def Gv (a b c:aP):kE (kE a b) c=kE a (kE b c):=by
 simp only [kE,aP.mk.injEq,and_true];refine ⟨by rw [nU,qO];congr 1;omega,?_,?_⟩
 ·unfold Nf pA;simp only [wi,wrap_u64];omega
 ·unfold pA;omega
def jF (s t:aP):aP:=⟨IntKind.i64.wrap (s.n+t.n),0,0,[],t.fQ.foldl (fun l x=>eM bP x l) s.fQ⟩
def Gr {a b c:aP} (ha:Ks bP a.fQ) (hb:Ks bP b.fQ) (hc:Ks bP c.fQ):jF (jF a b) c=jF a (jF b c):=by
 simp only [jF,aP.mk.injEq,true_and];exact ⟨by rw [nU,qO];congr 1;omega,u5 ig ha hb hc⟩
def Pj {a b:aP} (ha:Ks bP a.fQ) (hb:Ks bP b.fQ):Ks bP (jF a b).fQ:=gT ig hb ha
def ff (x:Int×Int):List (Int×Int)->List (Int×Int)
 |[]=>[(x.1,IntKind.i64.wrap (0+x.2))]
 |y::r=>if y.1=x.1 then (y.1,IntKind.i64.wrap (y.2+x.2))::r else y::ff x r
def sO (M:List (Int×Int)):List (Int×Int):=(ga (M.map (·.1))).filterMap fun k=>if bo M k=0 then none else some (k,bo M k)
structure Mp (M:List (Int×Int)):Prop where
 k:(M.map (·.1)).Nodup
 w:∀ x∈M,IntKind.i64.wrap x.2=x.2
def Mp.nil:Mp []:=⟨List.nodup_nil,fun _ h=>nomatch h⟩
def D7 (x:Int×Int):∀ M:List (Int×Int),∀ k,k∈(ff x M).map (·.1)↔k=x.1∨k∈M.map (·.1)
 |[],k=>by simp [ff]
 |y::r,k=>by
  unfold ff;split
  ·rename_i e;simp only [List.map_cons,Ab,e]
   grind
  ·simp only [List.map_cons,Ab,D7 x r k]
   grind
def uA {x:Int×Int}:∀ {M:List (Int×Int)},Mp M->Mp (ff x M)
 |[],_=>⟨by simp [ff],fun y hy=>by
   obtain rfl:=Ax.1 hy
   exact Dc _⟩
 |y::r,h=>by
  have hk:=Bz.1 h.k;have ih:=uA (x:=x) (M:=r) ⟨hk.2,fun z hz=>h.w z (by simp [hz])⟩;unfold ff;split
  ·refine ⟨h.k,fun z hz=>?_⟩;rcases Ab.1 hz with rfl|hz
   ·exact Dc _
   ·exact h.w z (by simp [hz])
  ·rename_i e;refine ⟨Bz.2 ⟨fun hm=>?_,ih.k⟩,fun z hz=>?_⟩
   ·rcases (D7 x r _).1 hm with h1|h1
    ·exact e h1
    ·exact hk.1 h1
   ·rcases Ab.1 hz with rfl|hz
    ·exact h.w _ (by simp)
    ·exact ih.w z hz
def wa (x:Int×Int) (k:Int):∀ {M:List (Int×Int)},Mp M->bo (ff x M) k=IntKind.i64.wrap (bo M k+if x.1=k then x.2 else 0)
 |[],_=>by
  simp only [ff,bo];split
  ·rfl
  ·rfl
 |y::r,h=>by
  have ih:=wa x k (M:=r) ⟨(Bz.1 h.k).2,fun z hz=>h.w z (by simp [hz])⟩
  have hw:IntKind.i64.wrap (bo r k)=bo r k:=by
   have:∀ l:List (Int×Int),(∀ z∈l,IntKind.i64.wrap z.2=z.2)->IntKind.i64.wrap (bo l k)=bo l k:=fun l hl=>by
    induction l with
    |nil=>rfl
    |cons z l ih=>
     unfold bo;split
     ·exact hl z (by simp)
     ·exact ih fun w hw=>hl w (by simp [hw])
   exact this r fun z hz=>h.w z (by simp [hz])
  unfold ff;split
  ·rename_i e;simp only [bo]
   by_cases hk:y.1=k
   ·simp only [if_pos hk,if_pos (e.symm.trans hk)]
   ·simp only [if_neg hk,if_neg (fun e2=>hk (e.trans e2)),Ba,hw]
  ·rename_i e;simp only [bo]
   by_cases hk:y.1=k
   ·simp only [if_pos hk,if_neg (fun e2=>e (hk.trans (Eq.symm e2))),Ba];exact (h.w y (by simp)).symm
   ·simp only [if_neg hk];exact ih
def foldM {b:List (Int×Int)}:∀ {M:List (Int×Int)},Ks bP b->Mp M->Mp (b.foldl (fun M x=>ff x M) M)/\∀ k,bo (b.foldl (fun M x=>ff x M) M) k=IntKind.i64.wrap (bo M k+bo b k):=by
 induction b with
 |nil=>
  intro M _ hM;refine ⟨hM,fun k=>?_⟩;show bo M k=IntKind.i64.wrap (bo M k+0);rw [Ba]
  have:∀ l:List (Int×Int),(∀ z∈l,IntKind.i64.wrap z.2=z.2)->IntKind.i64.wrap (bo l k)=bo l k:=fun l hl=>by
   induction l with
   |nil=>rfl
   |cons z l ih=>
    unfold bo;split
    ·exact hl z (by simp)
    ·exact ih fun w hw=>hl w (by simp [hw])
  exact (this M hM.w).symm
 |cons x b ih=>
  intro M hb hM;obtain ⟨i1,i2⟩:=ih hb.tail (uA (x:=x) hM);refine ⟨i1,fun k=>?_⟩;rw [List.foldl_cons,i2 k,wa x k hM,nU]
  congr 1
  by_cases e:x.1=k
  ·rw [hb.out ig (.inr e.symm)];simp only [bo,if_pos e];omega
  ·simp only [bo,if_neg e];omega
def Tn {M:List (Int×Int)} {k:Int} (h:bo M k≠0):k∈M.map (·.1):=by refine CD fun hn=>h (vg fun x hx e=>hn (Ai.2 ⟨x,hx,e⟩))
def HC {M:List (Int×Int)} (h:Mp M):Ks bP (sO M)/\∀ k,bo (sO M) k=bo M k:=by
 have hw:∀ k,IntKind.i64.wrap (bo M k)=bo M k:=fun k=>by
  have:∀ l:List (Int×Int),(∀ z∈l,IntKind.i64.wrap z.2=z.2)->IntKind.i64.wrap (bo l k)=bo l k:=fun l hl=>by
   induction l with
   |nil=>rfl
   |cons z l ih=>
    unfold bo;split
    ·exact hl z (by simp)
    ·exact ih fun w hw=>hl w (by simp [hw])
  exact this M h.w
 have hperm:(ga (M.map (·.1))).Perm (M.map (·.1)):=CE _ _
 have hle:(ga (M.map (·.1))).Pairwise fun a b=>a<=b:=by
  refine (List.pairwise_mergeSort (le:=fun x y:Int=>decide (x<=y)) ?_ ?_ (M.map (·.1))).imp fun h=>by simpa using h
  ·intro a b c h1 h2;simp at*;omega
  ·intro a b;simp;omega
 have hnd:(ga (M.map (·.1))).Nodup:=hperm.nodup_iff.2 h.k
 have hlt:(ga (M.map (·.1))).Pairwise fun a b=>a<b:=by
  refine (List.Pairwise.and hle hnd).imp fun h=>?_;omega
 have hci:∀ a b,bP a b<0↔a<b:=fun a b=>by unfold bP;grind
 have key:∀ ks:List Int,ks.Pairwise (fun a b=>a<b)->Ks bP (ks.filterMap fun k=>if bo M k=0 then none else some (k,bo M k))/\∀ k,bo (ks.filterMap fun k=>if bo M k=0 then none else some (k,bo M k)) k=if k∈ks then bo M k else 0:=fun ks=>by
  induction ks with
  |nil=>intro _;exact ⟨Ks.nil _,fun k=>by simp [bo]⟩
  |cons x ks ih=>
   intro hp;obtain ⟨p1,p2⟩:=AT.1 hp;obtain ⟨i1,i2⟩:=ih p2;rw [List.filterMap_cons]
   by_cases h0:bo M x=0
   ·rw [if_pos h0];refine ⟨i1,fun k=>?_⟩;show bo (List.filterMap _ ks) k=_;rw [i2 k]
    by_cases hx:k=x
    ·subst hx;simp [h0]
    ·simp [hx]
   ·rw [if_neg h0];refine ⟨⟨AT.2 ⟨fun y hy=>?_,i1.ji⟩,fun y hy=>?_⟩,fun k=>?_⟩
    ·obtain ⟨z,hz,hzy⟩:=Cw.1 hy;split at hzy
     ·cases hzy
     ·injection hzy with hzy
      subst hzy;exact (hci _ _).2 (p1 z hz)
    ·rcases Ab.1 hy with rfl|hy
     ·exact ⟨h0,hw _⟩
     ·exact i1.pos y hy
    ·simp only [bo]
     by_cases hx:x=k
     ·subst hx;simp
     ·rw [if_neg hx,i2 k];simp [AQ hx]
 refine ⟨(key _ hlt).1,fun k=>?_⟩;unfold sO;rw [(key _ hlt).2 k];split
 ·rfl
 ·rename_i hn;refine CD fun h0=>hn (hperm.mem_iff.2 (Tn fun e=>h0 e.symm))
def KN {a b:List (Int×Int)} (ha:Ks bP a) (hb:Ks bP b):sO (b.foldl (fun M x=>ff x M) (a.foldl (fun M x=>ff x M) []))=b.foldl (fun l x=>eM bP x l) a:=by
 obtain ⟨a1,a2⟩:=foldM ha Mp.nil;obtain ⟨b1,b2⟩:=foldM hb a1;obtain ⟨o1,o2⟩:=HC b1;have h2:=gT ig hb ha;refine Ks.ext ig o1 h2 fun k=>?_;rw [o2 k,b2 k,a2 k,<-h2.wr k,jV ig k hb ha];simp only [bo,BP,nU]
def OG {a:List (Int×Int)} {x:Int×Int} (ha:Ks bP a) (h0:x.2≠0) (hw:IntKind.i64.wrap x.2=x.2):sO (ff x (a.foldl (fun M x=>ff x M) []))=eM bP x a:=by
 obtain ⟨a1,a2⟩:=foldM ha Mp.nil;obtain ⟨o1,o2⟩:=HC (uA (x:=x) a1);refine Ks.ext ig o1 (kN ig h0 hw ha) fun k=>?_;rw [o2 k,wa x k a1,a2 k,vJ ig hw k ha];simp only [bo,BP,nU]
def kA (M:List (Int×Int)):List AV:=M.map fun x=> .int .i64 x.1
def vA (M:List (Int×Int)):List AV:=M.map fun x=> .int .i64 x.2
def fF (M:List (Int×Int)):AV:= .eV (kA M) (vA M)
def K4 (k:Int):∀ M:List (Int×Int),eH (.int .i64 k) (kA M) (vA M)=some (if k∈M.map (·.1) then some (.int .i64 (bo M k)) else none)
 |[]=>rfl
 |x::M=>by
  have ih:=K4 k M;unfold kA vA at ih ⊢;simp only [List.map_cons,eH,iL,if_true,bo]
  by_cases h:x.1=k
  ·subst h;simp
  ·have h1:(k==x.1)=false:=by simpa using fun e=>h e.symm
   have h0: ¬k=x.1:=fun e=>h e.symm;rw [h1];simp only [ih,if_neg h,Ab,h0,false_or]
def vT {S:St} {l:Nat} {M:List (Int×Int)} (h:S.get l=some [fF M]) (k:Int):nV false false (.int .i64 0) S (.mp l) (.int .i64 k)=some (.int .i64 (bo M k)):=by
 unfold nV;simp only [lr,if_true,h,fF,K4,Option.map_some,mX]
 by_cases hm:k∈M.map (·.1)
 ·simp only [hm,if_true];rfl
 ·have:bo M k=0:=vg fun x hx e=>hm (Ai.2 ⟨x,hx,e⟩);simp only [hm,if_false,this];rfl
def QC (k n:Int):∀ M:List (Int×Int),vQ (.int .i64 k) (.int .i64 (IntKind.i64.wrap (bo M k+n))) (kA M) (vA M)=some (if k∈M.map (·.1) then some (vA (ff (k,n) M)) else none)/\kA (ff (k,n) M)=(if k∈M.map (·.1) then kA M else kA M++[.int .i64 k])/\(k ∉ M.map (·.1)->vA (ff (k,n) M)=vA M++[.int .i64 (IntKind.i64.wrap (bo M k+n))])
 |[]=>⟨rfl,rfl,fun _=>rfl⟩
 |x::M=>by
  obtain ⟨i1,i2,i3⟩:=QC k n M;simp only [kA,vA] at i1 i2 i3 ⊢;simp only [List.map_cons,vQ,iL,if_true,bo,ff]
  by_cases h:x.1=k
  ·subst h;simp
  ·have h0: ¬k=x.1:=fun e=>h e.symm;have h1:(k==x.1)=false:=by simpa using h0
   rw [h1];simp only [if_neg h,i1,i2,Ab,h0,false_or,Option.map_some,List.map_cons];refine ⟨?_,?_,fun hm=>?_⟩
   ·by_cases hm:k∈List.map (fun x=>x.1) M
    ·simp only [hm,if_true,Option.map_some]
    ·simp only [hm,if_false,Option.map_none]
   ·split<;>rfl
   ·rw [i3 hm];rfl
def Hk {S:St} {l:Nat} {M:List (Int×Int)} (h:S.get l=some [fF M]) (k n:Int):tx false S (.mp l) (.int .i64 k) (.int .i64 (IntKind.i64.wrap (bo M k+n)))=some (S.cK l [fF (ff (k,n) M)]):=by
 obtain ⟨i1,i2,i3⟩:=QC k n M;unfold tx;simp only [lr,if_true,h,fF,i1,Option.map_some]
 by_cases hm:k∈M.map (·.1)
 ·simp only [hm,if_true] at i2 ⊢;rw [i2]
 ·simp only [hm,if_false] at i2 ⊢;rw [i2,i3 hm]
def Qf (M:List (Int×Int)) (es:Array MapEntry) (clock:Nat):Prop:=∃ es':List MapEntry,es.toList.Perm es'/\es'.map (fun e=>(e.key,e.val))=M.map (fun x=>(Value.int .i64 x.1,Value.int .i64 x.2))/\es'.Pairwise (fun a b=>a.key≠b.key)/\FT es clock
def F5 {G:Gh}:∀ {M:List (Int×Int)} {es:List MapEntry},eP G (kA M) (vA M) es↔es.map (fun e=>(e.key,e.val))=M.map (fun x=>(Value.int .i64 x.1,Value.int .i64 x.2))
 |[],[]=>⟨fun _=>rfl,fun _=>trivial⟩
 |[],_::_=>⟨fun h=>h.elim,fun h=>by cases h⟩
 |_::_,[]=>⟨fun h=>h.elim,fun h=>by cases h⟩
 |x::M,e::es=>by
  have ih:=F5 (G:=G) (M:=M) (es:=es);constructor
  ·rintro ⟨⟨h1,h2⟩,h3⟩;have e1:=h1.gK;have e2:=h2.gK;simp only [List.map_cons,ih.1 h3,e1,e2]
  ·intro h;simp only [List.map_cons,BW,Ac] at h;refine ⟨⟨?_,?_⟩,ih.2 h.2⟩
   ·rw [h.1.1];exact .int _ _
   ·rw [h.1.2];exact .int _ _
def _root_.Go.V.af.Ec {n:Nat} {kk:List MI} {D:ep} {F:Fr} {S:St} {Q:er} {k:Nat} {M:List (Int×Int)} (hk:S.get k=some [fF M]) (h:∀ bm es clock,Qf M es clock->af pg n kk D F (S.cK k [.aL bm (.map es clock) [] []]) Q):af pg n kk D F S Q:=by
 intro wb G w a b cs todo hb hf hR;obtain ⟨bm,es,clock,es',c,h1,h2,h3,h4,h5,h6⟩:=hR.st.Ec hk;exact h bm es clock ⟨es',h1,F5.1 h2,h4,h5⟩ wb G w a b cs todo hb hf ⟨h6,hR.fr,hR.sz,hR.df⟩
def _root_.Go.V.af.Iu {n:Nat} {kk:List MI} {D:ep} {F:Fr} {S:St} {Q:er} {k bm clock:Nat} {es:Array MapEntry} {M:List (Int×Int)} (hk:S.get k=some [.aL bm (.map es clock) [] []]) (hM:Qf M es clock) (h:af pg n kk D F (S.cK k [fF M]) Q):af pg n kk D F S Q:=by
 intro wb G w a b cs todo hb hf hR;obtain ⟨es',h1,h2,h3,h4⟩:=hM;refine h wb G w a b cs todo hb hf ⟨hR.st.Iu (c:=some .i64) hk h1 (F5.2 h2) (fun e he=>?_) h3 h4,hR.fr,hR.sz,hR.df⟩
 have:(e.key,e.val)∈M.map (fun x=>(Value.int .i64 x.1,Value.int .i64 x.2)):=by
  rw [<-h2];exact BF he
 obtain ⟨x,_,hx⟩:=Ai.1 this;injection hx with hx _
 exact ⟨x.1,hx.symm⟩
def FR {e:MapEntry}:∀ {l:List MapEntry},(l.map (·.born)).Nodup->e∈l->l.Perm (e::l.filter fun x=>x.born !=e.born)
 |x::l,hn,he=>by
  have hn':=Bz.1 hn;rcases Ab.1 he with rfl|he'
  ·have:l.filter (fun x=>x.born !=e.born)=l:=List.filter_eq_self.2 fun y hy=>by
    simp only [bne_iff_ne,ne_eq];exact fun h=>hn'.1 (Ai.2 ⟨y,hy,h⟩)
   simp [this]
  ·have hx:(x.born !=e.born)=true:=by
    simp only [bne_iff_ne,ne_eq];exact fun h=>hn'.1 (Ai.2 ⟨e,he',h.symm⟩)
   rw [Cb,if_pos hx];exact ((FR hn'.2 he').cons x).trans (.swap _ _ _)
def CW {es:Array MapEntry} {seen:Array Nat} {e:MapEntry} (hn:(es.toList.map (·.born)).Nodup) (he:e∈(leftOf es seen).toList):(leftOf es seen).toList.Perm (e::(leftOf es (seen.push e.born)).toList):=by
 unfold leftOf at he ⊢;simp only [Array.toList_filter] at he ⊢;have h1:(es.toList.filter fun e=> !seen.contains e.born).map (·.born)|>.Nodup:=(List.Sublist.map _ List.filter_sublist).nodup hn
 have h2:=FR h1 he;rw [List.filter_filter] at h2
 have:(fun x:MapEntry=> !(seen.push e.born).contains x.born)=fun x=>(x.born !=e.born) && !seen.contains x.born:=funext fun x=>by
  rw [Cn];simp
  grind
 rw [this];exact h2
def N8 (es:Array MapEntry):leftOf es #[]=es:=by
 unfold leftOf;simp
def _root_.Go.V.af.hide {n:Nat} {kk:List MI} {D:ep} {S:St} {Q:er} {t k m l o c:Nat} (pre:Fr) {post:Fr} (hp:List.lookup t pre=none) (h:af pg n kk D (pre++(t,.aM k m l o)::post) S Q):af pg n kk D (pre++(t,.bZ k m l o c)::post) S Q:=by
 intro wb G w a b cs todo hb hf hR;obtain ⟨h1,h2⟩:=hR.fr.rel t _ (kg hp);refine h wb G w a b cs todo hb hf ⟨hR.st,⟨fun u v e=>?_⟩,hR.sz,hR.df⟩;rcases qT (x:= .bZ k m l o c) hp e with ⟨rfl,rfl⟩|e
 ·exact ⟨h1,AV.Le.cap k m l o c _ _ h2⟩
 ·exact hR.fr.rel u v e
def J0 {a b c:Nat} {A B C:List AV} {ob:List (Nat×List AV)} (la:List.lookup a ob=some A) (lb:List.lookup b ob=some B) (lc:List.lookup c ob=some C):∀ l cs,List.lookup l [(a,A),(b,B),(c,C)]=some cs->List.lookup l ob=some cs:=fun l cs h=>by
 simp only [List.lookup_cons,List.lookup_nil] at h;split at h
 ·rename_i e;rw [show l=a by simpa using e,la,h]
 ·split at h
  ·rename_i e;rw [show l=b by simpa using e,lb,h]
  ·split at h
   ·rename_i e;rw [show l=c by simpa using e,lc,h]
   ·cases h
def xD {a b:Nat} {A B:List AV} {ob:List (Nat×List AV)} (la:List.lookup a ob=some A) (lb:List.lookup b ob=some B):∀ l cs,List.lookup l [(a,A),(b,B)]=some cs->List.lookup l ob=some cs:=fun l cs h=>by
 simp only [List.lookup_cons,List.lookup_nil] at h;split at h
 ·rename_i e;rw [show l=a by simpa using e,la,h]
 ·split at h
  ·rename_i e;rw [show l=b by simpa using e,lb,h]
  ·cases h
def Kg (done:List Int) (z:Int) (n:Nat) (h:done.length<n):List.take (done.length*1) (List.map (AV.int .i64) (done++List.replicate (n-done.length) 0))++flat [AV.int .i64 z]++List.drop (done.length*1+(flat [AV.int .i64 z]).length) (List.map (AV.int .i64) (done++List.replicate (n-done.length) 0))=List.map (AV.int .i64) ((done++[z])++List.replicate (n-(done++[z]).length) 0):=by
 obtain ⟨m,rfl⟩:∃ m,n=done.length+1+m:=⟨n-(done.length+1),by omega⟩;have e1:done.length+1+m-done.length=m+1:=by omega
 have e2:done.length+1+m-(done++[z]).length=m:=by simp
 rw [e1,e2,BA,show flat [AV.int .i64 z]=[AV.int .i64 z] from rfl,AP,AP,AP,List.take_left' (by simp),show done.length+[AV.int IntKind.i64 z].length=(done.map (AV.int .i64)).length+1 from by simp,<-Bk,List.drop_left' rfl];simp [List.replicate_succ]
def kH (M l:List (Int×Int)):List (Int×Int):=l.foldl (fun M x=>ff x M) M
def adq {n m nt:Nat} {kk:List MI} {F:Fr} {Q:er} {ob:List (Nat×List AV)} {lv:List Nat} (a:List AV) (l0:List.lookup 0 ob=some a) (h:af pg n kk [] F ⟨m,[(0,a)],nt,[],gl⟩ Q):af pg n kk [] F ⟨m,ob,nt,lv,gl⟩ Q:=
 af.cz h (fun l cs h=>by
  simp only [List.lookup_cons,List.lookup_nil] at h;split at h
  ·rename_i e;rw [show l=0 by simpa using e,l0,h]
  ·cases h) (fun x h=>by cases h)
def Td:=(by conv=>lhs;reduce:dC [Ua,Ub] [] 0x344607c63d19727b6929e7d078e9c0eb33d7cc517515170cd4e2df43dafa5e4925b34be73ed3456b55a14816d62d42fec81f46f9fb43d=_)
def Ej:=rO (Td (.int .i64 0) (.int .i64 1))
def Sv:=(by conv=>lhs;reduce:dC [Ua] [] 0x180df6022b1da8979d3e=_)
abbrev XX:=rP (Sv (.int .i64 1))
def RJ:=(by conv=>lhs;reduce:dC [Ua] [Ya,Yb] 0x51491e40868af82839d2c4a5db7571f84601efbde62209af6075d3811ae6e48b42a=_)
def FY:=rO (RJ (.int .i64 0) Ej XX)
def Uz:=(by conv=>lhs;reduce:dC [] [] 0x1f265cd40e343f=_)
abbrev Wm:=rP Uz
def adX:=(by conv=>lhs;reduce:dC [Ua,Ub] [Ya,Yb] 0x186d8cbc80cf059b889f9bd791734f00d874e4d00341c=_)
abbrev al0:=rP (adX .gL (.int .i64 0) FY Wm)
def acW:aD pg 395 31 al0 [.t 2]:= .o2 Tryz.func395 (by kernel_rfl)
def aa3 (ls:List (List (Int×Int))) (t:bD) (hn:ls.length<=1000) (hl:∀ l∈ls,l.length<=1000000):
  ao pg 395 [.sl 1 (ls.map fun l=> .sl 2 (l.map iH) .ai) t] (.none gl) fun o S'=>o= .ok (.mp 0)/\∃ N nt,0<N/\S'=⟨N,[(0,[fF (ls.foldl kH [])])],nt,[],gl⟩:=by
 refine .aC acW (by simp) (ab 60 ?_);generalize hK:bI _ _=Q
 repeat' with_reducible first|refine au ?_|refine ar ?_|refine ⟨?_,?_⟩|intro _|simp only [go_sem,seval]
 refine .dA ls.length (fun i F S=>F=[(3,.mp 0),(9,.sl 1 (ls.map fun l=> .sl 2 (l.map iH) .ai) t),(10,.int .i64 (ls.length:Int)),(11,.int .i64 (i:Int))]/\∃ N nt M,0<N/\S=⟨N,[(0,[fF M])],nt,[],gl⟩/\(ls.drop i).foldl kH M=ls.foldl kH []) ⟨rfl,1,0,[],by decide,rfl,rfl⟩ ?_;rintro i F S hi ⟨rfl,N,nt,M,hN,rfl,he⟩ ih
 by_cases h:i<ls.length
 ·obtain ⟨l,hli⟩:=aK h;have hd:=bY hli;rw [hd,List.foldl_cons] at he;have hll:=hl l (Aj hli);have hlm:(ls.map fun l=>AV.sl 2 (l.map iH) .ai)[i]? =some (.sl 2 (l.map iH) .ai):=by rw [Ap,hli];rfl
  refine bp FY.eq_1 ?_
  repeat' first
   |with_reducible first|refine au ?_|refine ar ?_|refine ⟨?_,?_⟩|intro _
   |simp only [go_sem,seval,hlm,fh h,eC h,Ad,bb (show i<9223372036854775807 by omega)]
  refine .dA l.length (fun j F S=>F=[(3,.mp 0),(9,.sl 1 (ls.map fun l=> .sl 2 (l.map iH) .ai) t),(10,.int .i64 (ls.length:Int)),(11,.int .i64 (i:Int)),(15,.sl 2 (l.map iH) .ai),(16,.int .i64 (l.length:Int)),(17,.int .i64 (j:Int))]/\∃ N nt M2,0<N/\S=⟨N,[(0,[fF M2])],nt,[],gl⟩/\kH M2 (l.drop j)=kH M l) ⟨rfl,N,nt,M,hN,rfl,rfl⟩ ?_;rintro j F S hj ⟨rfl,N2,nt2,M2,hN2,rfl,he2⟩ ih2
  by_cases h2:j<l.length
  ·obtain ⟨y,hy⟩:=aK h2;have hd2:=bY hy;rw [hd2] at he2;have hym:(l.map iH)[j]? =some (.agg [.int .i64 y.1,.int .i64 y.2]):=by rw [Ap,hy];rfl
   have hN0:(N2=0)=False:=eq_false (by omega);have h0N:(0=N2)=False:=eq_false (by omega);have hget:∀ (n nt:Nat) a b,St.get ⟨n,[(N2,a),(N2,b),(0,[fF M2])],nt,[],gl⟩ 0=some [fF M2]:=fun n nt a b=>by simp [St.get,List.lookup_cons,show (0==N2)=false by simp;omega]
   have hlk:=fun n nt a b=>vT (hget n nt a b) y.1;have hin:=fun n nt a b=>Hk (hget n nt a b) y.1 y.2;refine bp Ej.eq_1 ?_
   repeat' first
    |with_reducible first|refine au ?_|refine ar ?_|refine ⟨?_,?_⟩|intro _
    |simp only [go_sem,seval,hym,fh h2,eC h2,Ad,bb (show j<9223372036854775807 by omega),hN0,h0N,hlk,hin,St.cK]
   exact adq _ (by simp [List.lookup_cons,show (0==N2)=false by simp;omega]) (ih2 h2 _ _ ⟨rfl,N2+1,nt2,_,by omega,rfl,he2⟩)
  ·refine bp Ej.eq_1 ?_
   repeat' first
    |with_reducible first|refine au ?_|refine ar ?_|refine ⟨?_,?_⟩|intro _
    |simp only [go_sem,seval,fD (Am h2),Ad,bb (show i<9223372036854775807 by omega)]
   rw [AE (Am h2)] at he2;refine ih h _ _ ⟨rfl,N2,nt2,M2,hN2,rfl,?_⟩;rw [<-he,<-he2];rfl
 ·refine bp FY.eq_1 ?_
  repeat' first
   |with_reducible first|refine au ?_|refine ar ?_|refine ⟨?_,?_⟩|intro _
   |simp only [go_sem,seval,fD (Am h),Ad]
  rw [AE (Am h)] at he;rw [<-hK];simp only [go_sem,seval];exact ⟨N,nt,hN,by rw [<-he];rfl⟩
def aeC:=(by conv=>lhs;reduce:dC [Ua,Ub] [] 0x12ca3b504508ac03b3864f47e57cf6c9d4520f579f98c7af17d3741b=_)
abbrev ah2:=rP (aeC (.int .i64 0) (.bool false))
def abQ:aD pg 400 11 ah2 [.c 4 2 true,.t 5]:= .o2 Tryz.func400 (by kernel_rfl)
def aiR (k n:Int):Pure pg gl 400 [.int .i64 k,.int .i64 n] (.ok (.aF [.agg [.int .i64 k,.int .i64 n],.bool (!(n==0))])):=by
 refine ⟨?_,by simp only [bx,cx,forall_eq_or_imp,forall_eq,implies_true],by simp only [cx,forall_eq_or_imp,forall_eq,implies_true]⟩;simp only [bx];refine .aC abQ (by simp) (ab 200 ?_)
 repeat' with_reducible first|refine au ?_|refine ar ?_|refine ⟨?_,?_⟩|intro _|simp only [go_sem,seval]
 rfl
def pE (M:List (Int×Int)) (es:Array MapEntry) (seen:Array Nat) (done:List Int):Prop:=((leftOf es seen).toList.map (·.key)++done.map (Value.int .i64)).Perm (M.map fun x=>Value.int .i64 x.1)
def pE.key {M:List (Int×Int)} {es:Array MapEntry} {seen:Array Nat} {done:List Int} (h:pE M es seen done) {e:MapEntry} (he:e∈(leftOf es seen).toList):∃ z,e.key= .int .i64 z:=by
 have:e.key∈M.map fun x=>Value.int .i64 x.1:=h.mem_iff.1 (AW _ (BF he));obtain ⟨x,_,hx⟩:=Ai.1 this;exact ⟨x.1,hx.symm⟩
def pE.step {M:List (Int×Int)} {es:Array MapEntry} {seen:Array Nat} {done:List Int} (h:pE M es seen done) (hn:(es.toList.map (·.born)).Nodup) {e:MapEntry} (he:e∈(leftOf es seen).toList) {z:Int} (hz:e.key= .int .i64 z):pE M es (seen.push e.born) (done++[z]):=by
 refine .trans ?_ h;have h1:=(CW hn he).map (·.key);rw [List.map_cons,hz] at h1;rw [AP,<-AL];refine .trans ?_ (h1.symm.append_right _);exact Cz
def pE.len {M:List (Int×Int)} {es:Array MapEntry} {seen:Array Nat} {done:List Int} (h:pE M es seen done):(leftOf es seen).size+done.length=M.length:=by
 have:=h.length_eq;simp only [Ak,Ad,Array.length_toList] at this;exact this
def pE.out {M:List (Int×Int)} {es:Array MapEntry} {seen:Array Nat} {done:List Int} (h:pE M es seen done) (h0:(leftOf es seen).size=0):ga done=ga (M.map (·.1))/\done.length=M.length:=by
 have h1:(leftOf es seen).toList=[]:=A3 (by simpa using h0);unfold pE at h;rw [h1,Az,List.nil_append] at h
 have h2:done.Perm (M.map (·.1)):=by
  have h3:(M.map fun x=>Value.int .i64 x.1)=(M.map (·.1)).map (Value.int .i64):=by rw [AY];rfl
  rw [h3] at h;have h4:=h.map fun v=>match v with|Value.int _ z=>z|_=>0
  rw [AY,AY] at h4;rw [show ((fun v=>match v with|Value.int _ z=>z|_=>0)∘Value.int IntKind.i64)=id from rfl,BI,BI] at h4;exact h4
 refine ⟨?_,by simpa using h2.length_eq⟩
 have hs:∀ l:List Int,(ga l).Pairwise fun a b=>a<=b:=fun l=>by
  refine (List.pairwise_mergeSort (le:=fun x y:Int=>decide (x<=y)) ?_ ?_ l).imp fun h=>by simpa using h
  ·intro a b c h1 h2;simp at*;omega
  ·intro a b;simp;omega
 refine List.Perm.eq_of_pairwise (le:=fun a b=>a<=b) (fun a b _ _ h1 h2=>by omega) (hs _) (hs _) ?_;exact ((CE _ _).trans h2).trans (CE _ _).symm
def TO:=(by conv=>lhs;reduce:dC [Ua] [] 0x82db7e71e3c04b7a9165324867ffa59bdfbff4d0323fbddae8fee704bcb474127b439=_)
def Mj:=rO (TO (.int .i64 0))
def RA:=(by conv=>lhs;reduce:dC [Ua] [] 0x10b30b0512a1767372df2bd68=_)
abbrev Yz:=rP (RA (.int .i64 1))
def TY:=(by conv=>lhs;reduce:dC [Ua] [Ya] 0xb84dfcad29e25f5be793af57c7f65d42793dfced357a39cee17e06260c58401ec2a34dfb2e49f51f393942adda33fae5583c79fd69ad0cc1f6f38cd0488fe4208cc3878fad74da2e6ac747b45f=_)
def FZ:=rO (TY (.int .i64 0) Yz)
def Ta:=(by conv=>lhs;reduce:dC [] [] 0x7b040e8c9bb469=_)
abbrev XD:=rP Ta
def Uq:=(by conv=>lhs;reduce:dC [Ua,Ub] [Ya,Yb] 0x74fa7612dbc0c13ebbfc93714a817bfd769f4383309a46e30d2e743e=_)
def M7:=rO (Uq (.sl 2 [] .exact) (.int .i64 0) FZ XD)
def TP:=(by conv=>lhs;reduce:dC [] [Ya,Yb] 0x83b80a2408426d09d3a8c3d029=_)
def Kb:=rO (TP Mj M7)
def aeG:=(by conv=>lhs;reduce:dC [Ua,Ub] [Ya] 0x4cfb64d8dece1d5303178cbbb06842b41f=_)
abbrev aja:=rP (aeG (.sl 2 [] .exact) (.int .i64 0) Kb)
def abU:aD pg 399 49 aja [.t 4]:= .o2 Tryz.func399 (by kernel_rfl)
def ajQ (hg:ae gl) (M:List (Int×Int)) (hM:Mp M) (hn:M.length<=4000000) (N nt:Nat) (h0:0<N):ao pg 399 [.mp 0,.fn (.func 400) [] []] ⟨N,[(0,[fF M])],nt,[],gl⟩ fun o _=>mH o (.sl 2 ((sO M).map iH) .ai):=by
 refine .aC abU (by simp) (ab 60 ?_);generalize hK:bI _ _=Q;have hM0:(M.map fun x=>AV.int .i64 x.1).length=M.length:=Ad ..
 repeat' with_reducible first|refine au ?_|refine ar ?_|refine ⟨?_,?_⟩|intro _|simp only [go_sem,seval]
 refine .vZ (k:=0) (ks:=kA M) (vs:=vA M) rfl rfl ?_
 repeat' with_reducible first|refine au ?_|refine ar ?_|refine ⟨?_,?_⟩|intro _|simp only [go_sem,seval]
 refine .Ek (q:= .i64) (n:=M.length) (by show AV.int .i64 ((kA M).length:Int)=_;rw [show (kA M).length=M.length from Ad ..]) (by omega) (by omega) ?_
 repeat' with_reducible first|refine au ?_|refine ar ?_|refine ⟨?_,?_⟩|intro _|simp only [go_sem,seval]
 have hN0:(N=0)=False:=eq_false (by omega);have hN0b:(0==N)=false:=by simp;omega
 have hN1a:(N==N+1)=false:=by simp
 have hN1b:(N+1==N)=false:=by simp
 refine .Ec (k:=0) (M:=M) (by simp [St.get,List.lookup_cons,hN0b]) fun bm es clock hMo=>?_;have hMo':=hMo;obtain ⟨es',p1,p2,p3,p4,p5⟩:=hMo';have hrep:St.cK ⟨N+1,[(N,List.replicate M.length (AV.int IntKind.i64 0)),(0,[fF M])],nt,[],gl⟩ 0 [.aL bm (.map es clock) [] []]=⟨N+1,[(N,(List.replicate M.length 0).map (AV.int .i64)),(0,[.aL bm (.map es clock) [] []])],nt,[],gl⟩:=by simp [St.cK,hN0]
 rw [hrep];refine bp Kb.eq_1 ?_
 repeat' with_reducible first|refine au ?_|refine ar ?_|refine ⟨?_,?_⟩|intro _|simp only [go_sem,seval]
 refine .Dp (k:=0) (bm:=bm) (es:=es) (clock:=clock) rfl (by simp [St.get,List.lookup_cons,hN0b]) fun ri=>?_
 repeat' with_reducible first|refine au ?_|refine ar ?_|refine ⟨?_,?_⟩|intro _|simp only [go_sem,seval]
 have hG0:pE M es #[] []:=by
  unfold pE;rw [N8,Az,AB];have:=p1.map (·.key);refine this.trans ?_;have h3:=congrArg (List.map Prod.fst) p2;rw [AY,AY] at h3;exact .of_eq h3
 refine .fY (fun k F S=>∃ (done:List Int) (seen:Array Nat) (N2 nt2:Nat),F=[(0,.mp 0),(1,.fn (.func 400) [] []),(5,.bZ 1 done.length N 0 M.length),(16,.ptr (N+1) 0)]/\S=⟨N2,[(N+1,[.aL ri (.mapIter (some bm) clock seen clock) [] []]),(N,(done++List.replicate (M.length-done.length) 0).map (AV.int .i64)),(0,[.aL bm (.map es clock) [] []])],nt2,[],gl⟩/\N+2<=N2/\pE M es seen done/\k=(leftOf es seen).size) (leftOf es #[]).size ⟨[],#[],N+2,nt,rfl,rfl,Af _,hG0,rfl⟩ ?_;rintro k F S ⟨done,seen,N2,nt2,rfl,rfl,hN2,hG,rfl⟩ ih;have hlen:=hG.len;refine bp Mj.eq_1 ?_
 repeat' with_reducible first|refine au ?_|refine ar ?_|refine ⟨?_,?_⟩|intro _|simp only [go_sem,seval]
 refine .Ey (i:=N+1) (k:=0) (ri:=ri) (bm:=bm) (es:=es) (clock:=clock) (since:=clock) (seen:=seen) (c0:=clock) rfl (by simp [St.get,List.lookup_cons]) (by simp [St.get,List.lookup_cons,hN0b]) p5 (Af _) (fun hz=>?_) (fun e he=>?_)
 ·have hgo:=hG.out hz
  repeat' with_reducible first|refine au ?_|refine ar ?_|refine ⟨?_,?_⟩|intro _|simp only [go_sem,seval]
  refine .Iu (k:=0) (M:=M) (es:=es) (clock:=clock) (bm:=bm) (by simp [St.get,List.lookup_cons,hN0b]) hMo ?_;have hzz:List.replicate (M.length-done.length) (0:Int)=[]:=by rw [hgo.2,BL];rfl
  have hrep3:St.cK ⟨N2,[(N+1,[.aL ri (.mapIter (some bm) clock seen clock) [] []]),(N,(done++List.replicate (M.length-done.length) 0).map (AV.int .i64)),(0,[.aL bm (.map es clock) [] []])],nt2,[],gl⟩ 0 [fF M]=⟨N2,[(N+1,[.aL ri (.mapIter (some bm) clock seen clock) [] []]),(N,done.map (AV.int .i64)),(0,[fF M])],nt2,[],gl⟩:=by
   rw [hzz,AB];simp [St.cK,hN0]
  rw [hrep3];refine .hide [(0,.mp 0),(1,.fn (.func 400) [] [])] rfl ?_;have h162:=fun nt=>alj (gl:=gl) N N2 nt done [(N+1,[.aL ri (.mapIter (some bm) clock seen clock) [] []]),(N,done.map (AV.int .i64)),(0,[fF M])] [] (by simp [List.lookup_cons,hN1a]) (by omega);have hso:(ga done).length=M.length:=by rw [<-hgo.2];exact List.length_mergeSort ..
  refine bp M7.eq_1 ?_
  repeat' with_reducible first|refine au ?_|refine ar ?_|refine aS.fV (h162 _) ?_|refine ⟨?_,?_⟩|intro _|simp only [go_sem,seval]
  obtain ⟨ks,hks⟩:∃ ks,ks=ga (M.map (·.1)):=⟨_,rfl⟩;obtain ⟨f,hf⟩:∃ f:Int->Option (Int×Int),f=fun k=>if bo M k=0 then none else some (k,bo M k):=⟨_,rfl⟩
  have hout:sO M=ks.filterMap f:=by rw [hf,hks];rfl
  rw [hgo.1,<-hks];have hnk:ks.length=done.length:=by rw [hks,<-hgo.1,hso,hgo.2]
  rw [<-hnk];refine af.cz (ob':=[(N,ks.map (AV.int .i64)),(0,[fF M])]) (live':=[]) ?_ (xD (by simp [List.lookup_cons]) (by simp [List.lookup_cons,hN0b])) (fun x h=>by cases h);refine .dA ks.length (fun i F S=>∃ out tk,F=[(0,.mp 0),(1,.fn (.func 400) [] []),(7,.sl 2 (out.map iH) tk),(27,.aM 1 ks.length N 0),(28,.int .i64 (ks.length:Int)),(29,.int .i64 (i:Int))]/\(∃ N2 nt2 lv2,S=⟨N2,[(N,ks.map (AV.int .i64)),(0,[fF M])],nt2,lv2,gl⟩/\N+1<=N2/\gI 0 nt2 lv2 tk)/\out.length<=i/\out++(ks.drop i).filterMap f=ks.filterMap f) ⟨[],.exact,rfl,⟨N2,nt2,[],rfl,by omega,.inl rfl⟩,Af _,rfl⟩ ?_;rintro i F S hi ⟨out,tk,rfl,⟨N3,nt3,lv3,rfl,hN3,htk⟩,hol,hall⟩ ih2
  by_cases h:i<ks.length
  ·obtain ⟨k,hk⟩:=aK h;rw [bY hk,List.filterMap_cons] at hall;have hkm:(ks.map (AV.int .i64))[i]? =some (.int .i64 k):=by rw [Ap,hk];rfl
   have hkm:(List.drop (i*1) (ks.map (AV.int .i64)))[0]? =some (.int .i64 k):=by rw [BA,AR,Nat.add_zero,hkm]
   have hlk:=fun n nt lv=>vT (S:=⟨n,[(N,ks.map (AV.int .i64)),(0,[fF M])],nt,lv,gl⟩) (M:=M) (l:=0) (by simp [St.get,List.lookup_cons,hN0b]) k;have h4:=aiR (gl:=gl) k (bo M k);have hibk:=qI ks;have hN3a:(N3=N)=False:=eq_false (by omega);have hN3b:(N3=0)=False:=eq_false (by omega);have hN3c:(N=N3)=False:=eq_false (by omega);have hN3d:(0=N3)=False:=eq_false (by omega);have hN3e:(N==N3)=false:=by simp;omega
   have hN3f:(0==N3)=false:=by simp;omega
   refine bp FZ.eq_1 ?_
   repeat' first
    |with_reducible first|refine au ?_|refine ar ?_|refine .pu (h4) hg rfl ?_|refine ⟨?_,?_⟩|intro _
    |simp only [go_sem,seval,hkm,fh h,eC h,hlk,hibk,hN0,hN3a,hN3b,hN3c,hN3d,Ad,gi,bb (show i<9223372036854775807 by omega)]
   ·exact htk.ti
   ·omega
   ·omega
   ·rename_i hb;have hfk:f k=some (k,bo M k):=by rw [hf];exact if_neg (by simpa using hb)
    rw [hfk] at hall;refine af.cz (ob':=[(N,ks.map (AV.int .i64)),(0,[fF M])]) (live':=nt3::jN lv3 tk) ?_ (xD (by simp [List.lookup_cons,hN3e]) (by simp [List.lookup_cons,hN0b,hN3f])) (fun x h=>h);refine ih2 h _ _ ⟨out++[(k,bo M k)],.tok nt3,?_,⟨N3+1,nt3+1,_,rfl,by omega,.new _ _ _ (Au _)⟩,by simp;omega,by rw [AL];exact hall⟩;rw [AP];rfl
   ·rename_i hb;have hfk:f k=none:=by rw [hf];exact if_pos (by simpa using hb)
    rw [hfk] at hall;refine af.cz (ob':=[(N,ks.map (AV.int .i64)),(0,[fF M])]) (live':=lv3) ?_ (xD (by simp [List.lookup_cons,hN3e]) (by simp [List.lookup_cons,hN0b,hN3f])) (fun x h=>h);exact ih2 h _ _ ⟨out,tk,rfl,⟨N3+1,nt3,_,rfl,by omega,htk⟩,by omega,hall⟩
  ·refine bp FZ.eq_1 ?_
   repeat' first
    |with_reducible first|refine au ?_|refine ar ?_|refine ⟨?_,?_⟩|intro _
    |simp only [go_sem,seval,fD (Am h),Ad]
   rw [AE (Am h),List.filterMap_nil,AB] at hall;rw [<-hK];simp only [go_sem,seval];rw [hout,<-hall];exact (Nm.sl (k:=2) (E7 out)).2.1
 ·obtain ⟨z,hz⟩:=hG.key he
  have hes:e∈es.toList:=by
   unfold leftOf at he;simp only [Array.toList_filter,BH] at he;exact he.1
  have hrep2:St.cK ⟨N2,[(N+1,[.aL ri (.mapIter (some bm) clock seen clock) [] []]),(N,(done++List.replicate (M.length-done.length) 0).map (AV.int .i64)),(0,[.aL bm (.map es clock) [] []])],nt2,[],gl⟩ (N+1) [.aL ri (.mapIter (some bm) clock (seen.push e.born) clock) [] []]=⟨N2,[(N+1,[.aL ri (.mapIter (some bm) clock (seen.push e.born) clock) [] []]),(N,(done++List.replicate (M.length-done.length) 0).map (AV.int .i64)),(0,[.aL bm (.map es clock) [] []])],nt2,[],gl⟩:=by simp [St.cK]
  rw [hrep2]
  repeat' with_reducible first|refine au ?_|refine ar ?_|refine ⟨?_,?_⟩|intro _|simp only [go_sem,seval]
  refine .lO (i:=N+1) (k:=0) (ri:=ri) (bm:=bm) (es:=es) (since:=clock) (seen:=seen) (c0:=clock) (e:=e) (kk:= .int .i64 z) (vv:= .dd) rfl (by simp [St.get,List.lookup_cons]) (by simp [St.get,List.lookup_cons,hN0b]) hes p4 (fun G=>by rw [hz];exact .int _ _) (fun G=> .dd _) ?_;have hstep:=hG.step p4 he hz;have hlen2:=hstep.len;simp only [Ak,List.length_cons,List.length_nil] at hlen2;have hib:=qI (done++List.replicate (M.length-done.length) 0);have hNN:(N=N+1)=False:=eq_false (by omega);have hlt:(done.length+1<=M.length)=True:=eq_true (by omega);have hll:(done.length*1<=(done++List.replicate (M.length-done.length) 0).length)=True:=eq_true (by simp);have hcell:=Kg done z M.length (by omega)
  repeat' with_reducible first|refine au ?_|refine ar ?_|refine ⟨?_,?_⟩|intro _|simp only [go_sem,seval,eG,eU,cp,bO,bH,dH,hib,hNN,hlt,hll,hN0,hcell]
  ·omega
  ·omega
  refine af.cz (ob':=[(N+1,[.aL ri (.mapIter (some bm) clock (seen.push e.born) clock) [] []]),(N,((done++[z])++List.replicate (M.length-(done++[z]).length) 0).map (AV.int .i64)),(0,[.aL bm (.map es clock) [] []])]) (live':=[]) ?_ (J0 (by simp [List.lookup_cons,hN1b]) (by simp [List.lookup_cons,hN1a]) (by simp [List.lookup_cons,hN0b])) (fun x h=>by cases h);have hleft:=(CW p4 he).length_eq;simp only [Array.length_toList,List.length_cons] at hleft;exact ih _ _ _ (by omega) ⟨done++[z],seen.push e.born,N2,nt2,by simp,rfl,hN2,hstep,rfl⟩
def ac1:=(by conv=>lhs;reduce:dC [Ua] [] 0x114544624ec2363cdf34bb56d345=_)
abbrev aho:=rP (ac1 (.sl 2 [] .exact))
def aea:aD pg 394 5 aho [.t 2]:= .o2 Tryz.func394 (by kernel_rfl)
def Xj (hg:ae gl) (M:List (Int×Int)) (hM:Mp M) (hn:M.length<=4000000) (N nt:Nat) (h0:0<N):ao pg 394 [.mp 0] ⟨N,[(0,[fF M])],nt,[],gl⟩ fun o _=>mH o (.sl 2 ((sO M).map iH) .ai):=by
 refine .aC aea (by simp) (ab 60 ?_);generalize hK:bI _ _=Q;have h:=ajQ hg M hM hn N nt h0
 repeat' with_reducible first|refine au ?_|refine ar ?_|refine ⟨?_,?_⟩|intro _|simp only [go_sem,seval]
 refine ao.mono h fun o S' ho=>?_
 cases o with
 |eF v=>exact ho.elim
 |ok r=>
  repeat' with_reducible first|refine au ?_|refine ar ?_|refine ⟨?_,?_⟩|intro _|simp only [go_sem,seval]
  rw [<-hK];simp only [go_sem,seval];exact ho
def ye (l:List (Int×Int)):Nm (.sl 2 (l.map iH) .ai):= .sl (E7 l)
def pz:∀ (l M:List (Int×Int)),(kH M l).length<=M.length+l.length
 |[],M=>Af _
 |x::l,M=>by
  have h1:=pz l (ff x M)
  have h2:∀ M:List (Int×Int),(ff x M).length<=M.length+1:=fun M=>by
   induction M with
   |nil=>exact Af _
   |cons y M ih=>
    unfold ff;split
    ·simp
    ·simpa using ih
  have h3:=h2 M;show (kH (ff x M) l).length<=_;simp only [List.length_cons];omega
def adO:=(by conv=>lhs;reduce:dC [Ua] [] 0x5c65c1f785e8076f14065b287f4822a83f530ad9b41a=_)
abbrev akJ:=rP (adO (.sl 2 [] .exact))
def ad9:aD pg 391 10 akJ [.t 4]:= .o2 Tryz.func391 (by kernel_rfl)
def akb (hg:ae gl) (a b:List (Int×Int)) (ha:Ks bP a) (hb:Ks bP b) (hal:a.length<=1000000) (hbl:b.length<=1000000):Pure pg gl 391 [.sl 2 (a.map iH) .ai,.sl 2 (b.map iH) .ai] (.ok (.sl 2 ((b.foldl (fun l x=>eM bP x l) a).map iH) .ai)):=by
 refine .dc (Nm.cons (ye a) (Nm.cons (ye b) Nm.nil)) (ye _).1 (.aC ad9 (by simp) (ab 60 ?_));generalize hK:bI _ _=Q;have h1:=aa3 (gl:=gl) [a,b] .exact (by simp) (fun l hl=>(Ab.1 hl).elim (fun e=>e▸hal) fun e=>(Ax.1 e)▸hbl)
 repeat' with_reducible first|refine au ?_|refine ar ?_|refine ⟨?_,?_⟩|intro _|simp only [go_sem,seval]
 refine ao.mono h1 fun o S' ho=>?_;obtain ⟨rfl,N,nt,hN,rfl⟩:=ho;have h2:=foldM ha Mp.nil;have h3:=foldM hb h2.1;have h4:=pz a [];have h5:=pz b (kH [] a);simp only [List.length_nil] at h4;have h:=Xj hg (kH (kH [] a) b) h3.1 (by omega) N nt hN
 repeat' with_reducible first|refine au ?_|refine ar ?_|refine ⟨?_,?_⟩|intro _|simp only [go_sem,seval]
 refine ao.mono h fun o S' ho=>?_
 cases o with
 |eF v=>exact ho.elim
 |ok r=>
  repeat' with_reducible first|refine au ?_|refine ar ?_|refine ⟨?_,?_⟩|intro _|simp only [go_sem,seval]
  rw [<-hK];simp only [go_sem,seval];rw [<-KN ha hb];exact ho
def abS:=(by conv=>lhs;reduce:dC [Ua,Ub,Uc,Ud] [] 0x11dbe505338dccb271ae6003d89d3326c56c6015526c99aeb2346d16e0c0c644b38000176e6fd26621d370f4dc23038866a1e8c4f89132b03d1bf80119bcb6d8f6fafa6fefbee99742e=_)
abbrev alG:=rP (abS (.int .i64 0) (.int .u64 0) (.sl 6 [] .exact) (.sl 2 [] .exact))
def adr:aD pg 388 22 alG [.c 6 5 true]:= .o2 Tryz.func388 (by kernel_rfl)
def ahp (hg:ae gl) (s t:aP) (hs:Ks bP s.fQ) (ht:Ks bP t.fQ) (hsl:s.fQ.length<=1000000) (htl:t.fQ.length<=1000000):Pure pg gl 388 [.agg [],.agg s.l,.agg t.l] (.ok (.agg (jF s t).l)):=by
 refine .dc (HZ mZ s.nm t.nm) (jF s t).nm.1 (.aC adr (by simp) (ab 60 ?_));have h380:=qL (gl:=gl) s.n t.n;have h391:=akb hg s.fQ t.fQ hs ht hsl htl;unfold aP.l at h380 ⊢;unfold jF
 repeat' with_reducible first|refine au ?_|refine ar ?_|refine .pu (h380) hg rfl ?_|refine .pu (h391) hg rfl ?_|refine ⟨?_,?_⟩|intro _|simp only [go_sem,seval,ke,Go.V.kD,nc]
 exact (jF s t).nm.2.1
def adY:=(by conv=>lhs;reduce:dC [Ua,Ub] [] 0x5a60a986dd0f9d89a19e62a2c26b0c80f8eae27d4b6ca8d3309743b4cea5a6a4ae5341f3f4210ba4c9a342b=_)
abbrev ajr:=rP (adY (.sl 2 [] .exact) (.int .i64 0))
def acZ:aD pg 392 19 ajr [.t 6]:= .o2 Tryz.func392 (by kernel_rfl)
def akA (hg:ae gl) (a:List (Int×Int)) (n times i:Int) (ha:Ks bP a) (hal:a.length<=1000000) (h0:times≠0) (hw:IntKind.i64.wrap times=times) (h396:Pure pg gl 396 [.int .i64 n] (.ok (.int .i64 i))):Pure pg gl 392 [.sl 2 (a.map iH) .ai,.int .i64 n,.int .i64 times] (.ok (.sl 2 ((eM bP (i,times) a).map iH) .ai)):=by
 refine .dc (Nm.cons (ye a) (Nm.cons (.int _ _) (Nm.cons (.int _ _) Nm.nil))) (ye _).1 (.aC acZ (by simp) (ab 60 ?_));generalize hK:bI _ _=Q;have h1:=aa3 (gl:=gl) [a] .exact (by simp) (fun l hl=>by rw [Ax.1 hl];exact hal)
 repeat' with_reducible first|refine au ?_|refine ar ?_|refine ⟨?_,?_⟩|intro _|simp only [go_sem,seval]
 refine ao.mono h1 fun o S' ho=>?_;obtain ⟨rfl,N,nt,hN,rfl⟩:=ho;have h2:=foldM ha Mp.nil;have h4:=pz a [];have h5:=pz [(i,times)] (kH [] a);simp only [List.length_nil,List.length_cons] at h4 h5;have h:=fun nt=>Xj hg (ff (i,times) (kH [] a)) (uA h2.1) (by show (kH (kH [] a) [(i,times)]).length<=_;omega) N nt hN;have hlk:=fun n nt=>vT (S:=⟨n,[(0,[fF (kH [] a)])],nt,[],gl⟩) (M:=kH [] a) (l:=0) rfl i;have hin:=fun n nt=>Hk (S:=⟨n,[(0,[fF (kH [] a)])],nt,[],gl⟩) (M:=kH [] a) (l:=0) rfl i times
 repeat' with_reducible first|refine au ?_|refine ar ?_|refine .pu (h396) hg rfl ?_|refine ⟨?_,?_⟩|intro _|simp only [go_sem,seval,hlk,hin,St.cK,List.foldl_cons,List.foldl_nil]
 refine ao.mono (h _) fun o S' ho=>?_
 cases o with
 |eF v=>exact ho.elim
 |ok r=>
  repeat' with_reducible first|refine au ?_|refine ar ?_|refine ⟨?_,?_⟩|intro _|simp only [go_sem,seval]
  rw [<-hK];simp only [go_sem,seval];rw [<-OG (x:=(i,times)) ha h0 hw];exact ho
def yG (i:Int) (s:aP) (x:It):aP:=⟨IntKind.i64.wrap (s.n+x.n),0,0,[],eM bP (i,x.n) s.fQ⟩
def ab4:=(by conv=>lhs;reduce:dC [Ua,Ub,Uc,Ud] [] 0x6d83b5c61bb2aedb35218c5240f21b2d03ea707b0bf6b22ff548f06ccea041f553871ad28c6f1daddc1052567d1bd4622cbc314334be4bf30380646bd3a330e696104a7980f9ab691a71075b9ec393439=_)
abbrev aif:=rP (ab4 (.int .i64 0) (.int .u64 0) (.sl 6 [] .exact) (.sl 2 [] .exact))
def adE:aD pg 389 25 aif [.c 6 5 true]:= .o2 Tryz.func389 (by kernel_rfl)
def alP (hg:ae gl) (s:aP) (x:It) (i:Int) (hs:Ks bP s.fQ) (hsl:s.fQ.length<=1000000) (h0:x.n≠0) (hw:IntKind.i64.wrap x.n=x.n) (h396:Pure pg gl 396 [.int .i64 x.v.n] (.ok (.int .i64 i))):Pure pg gl 389 [.agg [],.agg s.l,x.av] (.ok (.agg (yG i s x).l)):=by
 refine .dc (HZ mZ s.nm x.nm) (yG i s x).nm.1 (.aC adE (by simp) (ab 60 ?_));have h380:=qL (gl:=gl) s.n x.n;have h392:=akA hg s.fQ x.v.n x.n i hs hsl h0 hw h396;rw [It.ex];unfold aP.l at h380 ⊢;unfold yG
 repeat' with_reducible first|refine au ?_|refine ar ?_|refine .pu (h380) hg rfl ?_|refine .pu (h392) hg rfl ?_|refine ⟨?_,?_⟩|intro _|simp only [go_sem,seval,ke,Go.V.kD,nc]
 exact (yG i s x).nm.2.1
def aet:=(by conv=>lhs;reduce:dC [Ua,Ub,Uc,Ud] [] 0xfb778fc9e1f65f82432fdff1655bbf30c99d5a7903300e88eeac9afef809e242682282688ef94718c05af5a1aaa7a20bbfb5cd8c9c637e3f418657ff451f8053150ee34ecd7738f95ab73ff9e5d11c379dc54285d74fc150743a=_)
abbrev Xb:=rP (aet (.int .i64 0) (.int .u64 0) (.sl 6 [] .exact) (.sl 2 [] .exact))
def QG:aD pg 383 26 Xb [.c 6 5 true]:= .o2 Tryz.func383 (by kernel_rfl)
def yC (hi lo:Int) (s:aP) (x:It):aP:=⟨IntKind.i64.wrap (s.n+x.n),Nf s.lo lo s.hi hi,pA s.lo lo,[],[]⟩
def ai7 (hg:ae gl) (s:aP) (x:It) (hi lo:Int) (hs:s.Ok) (hlo:0<=lo/\lo<18446744073709551616) (h279:Pure pg gl 279 [.int .i64 x.v.n,.int .i64 x.n] (.ok (.agg [.int .i64 hi,.int .u64 lo]))):Pure pg gl 383 [.agg [],.agg s.l,x.av] (.ok (.agg (yC hi lo s x).l)):=by
 refine .dc (HZ mZ s.nm x.nm) (yC hi lo s x).nm.1 (.aC QG (by simp) (ab 60 ?_));have h380:=qL (gl:=gl) s.n x.n;have h277:=O8 (gl:=gl) hg s.lo lo s.hi hi hs hlo;have hfin:=(yC hi lo s x).nm.2.1;rw [It.ex];unfold aP.l at h380 ⊢;unfold yC at hfin ⊢;generalize hK:bI _ _=Q
 repeat' with_reducible first|refine au ?_|refine ar ?_|refine .pu (h380) hg rfl ?_|refine .pu (h279) hg rfl ?_|refine .pu (h277) hg rfl ?_|refine ⟨?_,?_⟩|intro _|simp only [go_sem,seval,ke,Go.V.kD,nc]
 ·rw [<-hK];simp only [aN]
 rw [<-hK];simp only [go_sem,seval];exact hfin
def acA:=(by conv=>lhs;reduce:dC [Ua,Ub,Uc] [] 0x6b6ecd09869524a3df594198b8e5f1815a6411d2e57df00a63d77077c25bbadf89c84cf74f18600dc21b689410dd7ad16cee09d8b3b23745cd438=_)
abbrev Vp:=rP (acA (.bool false) (.int .i64 0) (.int .u64 0))
def PS:aD pg 143 24 Vp [.t 2]:= .o2 Tryz.func143 (by kernel_rfl)
def akP (s:aP) (hs:s.n≠0):Pure pg gl 143 [.agg s.l] (.ok (.bool false)):=by
 have h0:(s.n==0)=false:=by simpa using hs
 refine .dc (Nm.cons s.nm Nm.nil) (.bool false) (.aC PS (by simp) (ab 60 ?_));unfold aP.l
 repeat' with_reducible first|refine au ?_|refine ar ?_|refine ⟨?_,?_⟩|intro _|simp only [go_sem,seval,h0]
 exact rfl
def CQ {s:aP} (h:s.lo=0):s.Ok:=by
 unfold aP.Ok;omega
structure gR (f:cM) (s:aP):Prop where
 lo:s.Ok
 iV:f= .iV->Ks bP s.fQ
 gj:f= .gj false->Kp s.cG
def cM.J:cM->aP->aP->aP
 | .bo=>ky
 | .add=>kE
 | .iV=>jF
 | .gj true=>kG
 | .gj false=>kq
def vP {κ:Type} [DecidableEq κ] (cm:κ->κ->Int) (x:κ×Int):∀ l:List (κ×Int),(eM cm x l).length<=l.length+1
 |[]=>Af _
 |y::r=>by
  have:=vP cm x r;unfold eM;split
  ·split
   ·simp only [List.length_cons];omega
   ·simp only [List.length_cons];omega
  ·split
   ·simp
   ·simp only [List.length_cons];omega
def CM {κ:Type} [DecidableEq κ] (cm:κ->κ->Int):∀ (b a:List (κ×Int)),(b.foldl (fun l x=>eM cm x l) a).length<=a.length+b.length
 |[],a=>Af _
 |x::b,a=>by
  have h1:=CM cm b (eM cm x a);have h2:=vP cm x a;simp only [List.foldl_cons,List.length_cons];omega
def zD:∀ (b a:List It),(b.foldl iA a).length<=a.length+b.length
 |[],a=>Af _
 |x::b,a=>by
  have h1:=zD b (iA a x);have h2:=OZ a x;simp only [List.foldl_cons,List.length_cons];omega
def cM.sz (f:cM) (s t:aP):sz (f.J s t)<=sz s+sz t:=by
 unfold Go.Proofs.YtoopnalhhfmgaaaGreatDoor.sz
 match f with
 | .bo=>simp [cM.J,ky]
 | .add=>simp [cM.J,kE]
 | .iV=>
  have:=CM bP t.fQ s.fQ;simp only [cM.J,jF,List.length_nil];omega
 | .gj true=>simp only [cM.J,kG,Ak,List.length_nil];omega
 | .gj false=>
  have:=zD t.cG s.cG;simp only [cM.J,kq,List.length_nil];omega
def cM.iv (f:cM) (s t:aP) (hs:gR f s) (ht:gR f t):gR f (f.J s t):=by
 match f with
 | .bo=>exact ⟨CQ rfl,fun h=>(nomatch h),fun h=>(nomatch h)⟩
 | .add=>exact ⟨O5 s t,fun h=>(nomatch h),fun h=>(nomatch h)⟩
 | .iV=>exact ⟨CQ rfl,fun _=>Pj (hs.iV rfl) (ht.iV rfl),fun h=>(nomatch h)⟩
 | .gj true=>exact ⟨CQ rfl,fun h=>(nomatch h),fun h=>(nomatch h)⟩
 | .gj false=>exact ⟨CQ rfl,fun h=>(nomatch h),fun _=>Nq (hs.gj rfl) (ht.gj rfl)⟩
def cM.assoc (f:cM) (a b c:aP) (ha:gR f a) (hb:gR f b) (hc:gR f c):f.J (f.J a b) c=f.J a (f.J b c):=by
 match f with
 | .bo=>exact uW a b c
 | .add=>exact Gv a b c
 | .iV=>exact Gr (ha.iV rfl) (hb.iV rfl) (hc.iV rfl)
 | .gj true=>exact Gc a b c
 | .gj false=>exact Gt (ha.gj rfl) (hb.gj rfl) (hc.gj rfl)
def cM.jn (hg:ae gl) (op:List UInt8) (f:cM) (hf:iJ op=some f):Jn gl op (gR f) f.J:=by
 refine ⟨fun s t hs ht hn=>c33 hg op f hf s t _ ?_,f.iv,f.sz⟩;unfold Go.Proofs.YtoopnalhhfmgaaaGreatDoor.sz at hn
 match f with
 | .bo=>exact ag9 hg s t
 | .add=>exact ai6 hg s t hs.lo ht.lo
 | .iV=>exact ahp hg s t (hs.iV rfl) (ht.iV rfl) (by omega) (by omega)
 | .gj true=>exact XM hg s t (by omega) (by omega)
 | .gj false=>exact Yx hg s t (by omega)
def cM.put (hg:ae gl) (op:List UInt8) (f:cM) (hf:iJ op=some f) (s:aP) (x:It) (hs:gR f s) (hx:x.n=1) (hn:Go.Proofs.YtoopnalhhfmgaaaGreatDoor.sz s<=1000000)
  (h396:∃ i,Pure pg gl 396 [.int .i64 x.v.n] (.ok (.int .i64 i))) (h279:∃ hi lo,0<=lo/\lo<18446744073709551616/\Pure pg gl 279 [.int .i64 x.v.n,.int .i64 1] (.ok (.agg [.int .i64 hi,.int .u64 lo]))):
  ∃ u,Pure pg gl 142 [.str op,.agg s.l,x.av] (.ok (.agg u.l))/\gR f u/\Go.Proofs.YtoopnalhhfmgaaaGreatDoor.sz u<=Go.Proofs.YtoopnalhhfmgaaaGreatDoor.sz s+1/\u.n=IntKind.i64.wrap (s.n+1):=by
 have hx0:(x.n==0)=false:=by rw [hx];rfl
 have hw:IntKind.i64.wrap x.n=x.n:=by rw [hx];rfl
 have hx1:x.n≠0:=by rw [hx];decide
 unfold Go.Proofs.YtoopnalhhfmgaaaGreatDoor.sz at hn ⊢
 match f with
 | .bo=>exact ⟨_,Jr hg op .bo hf s _ x hx0 (ahZ hg s x),⟨CQ rfl,fun h=>(nomatch h),fun h=>(nomatch h)⟩,by simp,by rw [<-hx]⟩
 | .add=>
  obtain ⟨hi,lo,l1,l2,h⟩:=h279;exact ⟨yC hi lo s x,Jr hg op .add hf s _ x hx0 (ai7 hg s x hi lo hs.lo ⟨l1,l2⟩ (by rw [hx];exact h)),⟨by show 0<=pA s.lo lo/\pA s.lo lo<_;unfold pA;omega,fun h=>(nomatch h),fun h=>(nomatch h)⟩,by simp [yC],by rw [<-hx];rfl⟩
 | .iV=>
  obtain ⟨i,h⟩:=h396;refine ⟨yG i s x,Jr hg op .iV hf s _ x hx0 (alP hg s x i (hs.iV rfl) (by omega) hx1 hw h),⟨CQ rfl,fun _=>kN ig hx1 hw (hs.iV rfl),fun h=>(nomatch h)⟩,?_,by rw [<-hx];rfl⟩;have:=vP bP (i,x.n) s.fQ;simp only [yG,List.length_nil];omega
 | .gj b=>
  refine ⟨yY b s x,Jr hg op (.gj b) hf s _ x hx0 (ai2 hg b s x (by omega)),⟨CQ rfl,fun h=>(nomatch h),fun h=>?_⟩,?_,by rw [<-hx];rfl⟩
  ·obtain rfl:b=false:=by injection h
   have hk:=hs.gj rfl;exact ⟨GO x hk.p,by show Ks jP ((eK false x s.cG).map jZ);rw [FA x hk.k];exact kN pF hx1 hw hk.k⟩
  ·have:=vY b x s.cG;simp only [yY,List.length_nil];omega
structure Pk where
 key:Bytes
 src:Bytes
 seq:Int
 event:Int
 v:bW
 tick:Int
 n:Int
def Pk.l (p:Pk):List AV:=[.str p.key,.str p.src,.int .i64 p.seq,.int .i64 p.event,.int .i64 p.v.kd,.int .i64 p.v.n,.str p.v.s,.int .i64 p.tick,.int .i64 p.n]
def Pk.av (p:Pk):AV:= .agg p.l
def Pk.it (p:Pk):It:=⟨p.v,p.src,p.seq,p.n⟩
def Pk.ex (p:Pk):p.av= .agg [.str p.key,.str p.src,.int .i64 p.seq,.int .i64 p.event,.int .i64 p.v.kd,.int .i64 p.v.n,.str p.v.s,.int .i64 p.tick,.int .i64 p.n]:=rfl
def Pk.nm (p:Pk):Nm p.av:= .agg (Nm.cons (.str _) (Nm.cons (.str _) (Nm.cons (.int _ _) (Nm.cons (.int _ _) (Nm.cons (.int _ _) (Nm.cons (.int _ _) (Nm.cons (.str _) (Nm.cons (.int _ _) (Nm.cons (.int _ _) Nm.nil)))))))))
def P9 (ps:List Pk):∀ v∈ps.map Pk.av,Nm v:=fun v hv=>by
 obtain ⟨p,_,rfl⟩:=Ai.1 hv;exact p.nm
def n101:MC:=
 .seq (.iF [mc 0 2 (.sl 9 [] .exact)] [0])
 (.seq (.seq (.iF [mv 0 3 0,
   oo 1 4 (.nn 136 false (.t 3))] [0,4])
 (.cond (.t 4)
  (.seq (.iF [mc 0 2 (.sl 9 [] .exact)] [2])
  (.ret))
  (.skip)))
 (.seq (.iF [oo 0 5 (.rF 9 [.str [],.str [],.int .i64 0,.int .i64 0,.int .i64 0,.int .i64 0,.str [],.int .i64 0,.int .i64 0] []),
   mv 1 6 0,
   oo 2 7 (.app 9 96 (.t 5) (.t 6)),
   mv 3 2 7] [2])
 (.ret)))
def abY:aD pg 101 8 n101 [.t 2]:= .of Tryz.call101 Tryz.func101 (by kernel_rfl)
def t101 (x:Pk) (xs:List Pk) (hn:xs.length<=1000000) (N nt:Nat) (ob:List (Nat×List AV)) (lv:List Nat):ao pg 101 [.sl 9 ((x::xs).map Pk.av) .ai] ⟨N,ob,nt,lv,gl⟩ fun o S'=>o= .ok (.sl 9 ((x::xs).map Pk.av) (.tok nt))/\S'=⟨N,ob,nt+1,nt::lv,gl⟩:=by
 refine .aC abY (by simp) (ab 60 ?_);unfold n101;generalize hX:(x::xs).map Pk.av=X;have hXl:X.length=xs.length+1:=by rw [<-hX];simp
 obtain ⟨y,Y,rfl⟩:∃ y Y,X=y::Y:=⟨_,_,by rw [<-hX];rfl⟩;simp only [List.length_cons] at hXl
 repeat' with_reducible first|refine au ?_|refine ar ?_|refine ⟨?_,?_⟩|intro _|simp only [go_sem,seval,vy,fI,fG,appArg,bO,gi,jN]
 ·omega
 ·omega
def adu:=(by conv=>lhs;reduce:dC [Ua,Ub] [] 0x92bc6d97ba9cf2ca28d06e2871ad034332cbef91111d1af97c1f600de7ba10b41f=_)
abbrev ZG:=rP (adu (.bool false) (.bool true))
def Qz:aD pg 102 15 ZG [.t 4]:= .o2 Tryz.func102 (by kernel_rfl)
def X0 (hg:ae gl) (p:Pk) (key:Bytes) (tick:Int) (kb tb N nt:Nat) (ob:List (Nat×List AV)) (lv:List Nat) (hf:bL N ob) (h1:List.lookup kb ob=some [.str key]) (h2:List.lookup tb ob=some [.int .i64 tick]) (hk:p.key=key) (ht:p.tick<=tick):
  ao pg 102 [p.av,.ptr kb 0,.ptr tb 0] ⟨N,ob,nt,lv,gl⟩ (eI (fun o=>o= .ok (.bool false)) ⟨N,ob,nt,lv,gl⟩):=by
 have hkN:(kb=N)=False:=eq_false (hf.ne h1);have htN:(tb=N)=False:=eq_false (hf.ne h2);have hgk:∀ M,St.get ⟨M,ob,nt,lv,gl⟩ kb=some [.str key]:=fun _=>h1;have hgt:∀ M,St.get ⟨M,ob,nt,lv,gl⟩ tb=some [.int .i64 tick]:=fun _=>h2;have hkk:(p.key==key)=true:=by rw [hk];simp
 have hkn:(!true)=false:=rfl;have htt:decide (p.tick>tick)=false:=decide_eq_false (by omega);have htt':decide (tick<p.tick)=false:=decide_eq_false (by omega);refine .calm (.aC Qz (by simp) ?_);generalize hK:bI [RV.t 4] _=Q;rw [Pk.ex];refine ab 60 ?_
 repeat' with_reducible first|refine au ?_|refine ar ?_|refine ⟨?_,?_⟩|intro _|simp only [go_sem,seval,hgk,hgt,hkN,htN,hkk,hkn,htt,htt']
 all_goals first
  |(rw [<-hK];simp only [aN];done)
  |skip
 rw [<-hK];simp only [go_sem,seval];refine ⟨by omega,fun l cs h=>?_,fun t h=>h⟩;rw [ax (hf.ne h)];exact h
def Ut:=(by conv=>lhs;reduce:dC [Ua] [] 0x824ef974830ac451127990678d099140f82cc21669e4b88bbb82ab395e13a6d4e3228f1bba8d01baca1a760f42b=_)
def DH:=rO (Ut (.int .i64 1))
def TL:=(by conv=>lhs;reduce:dC [Ua] [] 0x187970b45=_)
abbrev aak:=rP (TL (.int .i64 (-1)))
def aec:=(by conv=>lhs;reduce:dC [Ua] [Ya,Yb] 0x124712cd191c659fc672abc74b09c1c4b419=_)
abbrev aaX:=rP (aec (.int .i64 0) DH aak)
def QF:aD pg 145 19 aaX [.t 4]:= .o2 Tryz.func145 (by kernel_rfl)
def akr (caps:List AV) (ps:List Pk) (t:bD) (N nt:Nat) (ob:List (Nat×List AV)) (lv:List Nat) (hn:ps.length<4294967296)
  (hp:∀ N' nt',N<=N'->∀ x∈ps,ao pg 102 (x.av::caps) ⟨N',ob,nt',lv,gl⟩ (eI (fun o=>o= .ok (.bool false)) ⟨N',ob,nt',lv,gl⟩)):
  ao pg 145 [.sl 9 (ps.map Pk.av) t,.fn (.func 102) [] caps] ⟨N,ob,nt,lv,gl⟩ (eI (fun o=>o= .ok (.int .i64 (-1))) ⟨N,ob,nt,lv,gl⟩):=by
 refine .aC QF (by simp) (ab 60 ?_);generalize hK:bI [RV.t 4] _=Q
 repeat' with_reducible first|refine au ?_|refine ar ?_|refine ⟨?_,?_⟩|intro _|simp only [go_sem,seval]
 refine .dA ps.length (fun i F S=>F=[(0,.sl 9 (ps.map Pk.av) t),(1,.fn (.func 102) [] caps),(7,.int .i64 (ps.length:Int)),(8,.int .i64 (i:Int))]/\(∃ N' nt',N<=N'/\S=⟨N',ob,nt',lv,gl⟩)) ⟨rfl,⟨N,nt,Af _,rfl⟩⟩ ?_;rintro i F S hi ⟨rfl,⟨N',nt',hN,rfl⟩⟩ ih
 by_cases h:i<ps.length
 ·obtain ⟨x,hx⟩:=aK h;have hxm:(ps.map Pk.av)[i]? =some (.agg x.l):=by rw [Ap,hx];rfl
  have hx9:(9<=x.l.length)=True:=eq_true (Af 9);have hxt:List.take 9 x.l=x.l:=rfl;have hcall:ao pg 102 (.agg x.l::caps) _ _:=hp N' nt' hN x (Aj hx);refine bp DH.eq_1 ?_
  repeat' first
   |with_reducible first|refine au ?_|refine ar ?_|refine aS.calm (hcall) fun _ _ _=>?_|refine bE.calm (hcall) (fun _ _ _=>by first|exact (fun h=>nomatch h)|(first|exact of_eq_true bj|simp only [cR,cy,eT,bj,and_self])) fun _ _ _=>?_|refine ⟨?_,?_⟩|intro _
   |simp only [go_sem,seval,hxm,hx9,hxt,fh h,eC h,Ad,bb (show i<9223372036854775807 by omega)]
  rename_i N2 nt2 hN2;exact ih h _ _ ⟨rfl,⟨N2,nt2,by omega,rfl⟩⟩
 ·refine bp DH.eq_1 ?_
  repeat' first
   |with_reducible first|refine au ?_|refine ar ?_|refine ⟨?_,?_⟩|intro _
   |simp only [go_sem,seval,fD (Am h),Ad]
  rw [<-hK];simp only [go_sem,seval];exact ⟨rfl,_,_,hN,rfl⟩
def UM:=(by conv=>lhs;reduce:dC [Ua] [] 0x6f074ab9cff0329f6d2e=_)
abbrev VP:=rP (UM (.int .i64 1))
def RC:=(by conv=>lhs;reduce:dC [Ua,Ub,Uc] [Ya] 0x1d78a4a8a9b8733ada3435395522c812d9ce267d74adfc1db4af1bf01dfb27bec6434688dacb4649a01e05d250d5c65e663f9b50bcad5634ef55f6d5a7c4679e0d2dc522eed80f62d04c=_)
def YU:=rO (RC (.str []) (.int .i64 0) (.int .i64 1) VP)
def Q8:=(by conv=>lhs;reduce:dC [Ua,Ub] [] 0xc3f71e473ff22fb4acf4d32f79faa380b8f2ee0faec58f447ddb14bb45a=_)
abbrev W4:=rP (Q8 (.str []) (.int .i64 0))
def abx:=(by conv=>lhs;reduce:dC [Ua,Ub,Uc] [Ya,Yb] 0xd3e41468854cf5c31037a74b247e8216f61ca7ce355ad63e64b86ac6f7cf967a0782ddbb18b1157b428=_)
abbrev Wl:=rP (abx (.sl 9 [] .exact) (.int .i64 (-1)) (.int .i64 1) YU W4)
def Qt:aD pg 100 42 Wl [.t 4]:= .o2 Tryz.func100 (by kernel_rfl)
def Zx (caps:List AV) (ps:List Pk) (t:bD) (N nt:Nat) (ob:List (Nat×List AV)) (lv:List Nat) (hn:ps.length<4294967296)
  (hp:∀ N' nt',N<=N'->∀ x∈ps,ao pg 102 (x.av::caps) ⟨N',ob,nt',lv,gl⟩ (eI (fun o=>o= .ok (.bool false)) ⟨N',ob,nt',lv,gl⟩)):
  ao pg 100 [.sl 9 (ps.map Pk.av) t,.fn (.func 102) [] caps] ⟨N,ob,nt,lv,gl⟩ (eI (fun o=>o= .ok (.sl 9 (ps.map Pk.av) t)) ⟨N,ob,nt,lv,gl⟩):=by
 refine .aC Qt (by simp) (ab 60 ?_);generalize hK:bI [RV.t 4] _=Q;have h145:=akr (gl:=gl) caps ps t N nt ob lv hn hp
 repeat' with_reducible first|refine au ?_|refine ar ?_|refine aS.calm (h145) fun _ _ _=>?_|refine bE.calm (h145) (fun _ _ _=>by first|exact (fun h=>nomatch h)|(first|exact of_eq_true bj|simp only [cR,cy,eT,bj,and_self])) fun _ _ _=>?_|refine ⟨?_,?_⟩|intro _|simp only [go_sem,seval]
 rename_i N2 nt2 hN2;rw [<-hK];simp only [go_sem,seval];exact ⟨rfl,_,_,hN2,rfl⟩
def s0:aP:=⟨0,0,0,[],[]⟩
def gW (P:aP->It->aP) (C:List Ce) (p:Pk):List Ce:=
 if oZ p.event (aW C)=true then C.take (eD p.event (aW C))++(p.event,P (C.getD (eD p.event (aW C)) (0,s0)).2 p.it)::C.drop (eD p.event (aW C)+1)
 else C.take (eD p.event (aW C))++(p.event,P s0 p.it)::C.drop (eD p.event (aW C))
def Nk (gl:List (Nat×List AV)) (n:Int):Prop:=(∃ i,Pure pg gl 396 [.int .i64 n] (.ok (.int .i64 i)))/\∃ hi lo,0<=lo/\lo<18446744073709551616/\Pure pg gl 279 [.int .i64 n,.int .i64 1] (.ok (.agg [.int .i64 hi,.int .u64 lo]))
structure xg (gl:List (Nat×List AV)) (op:List UInt8) (f:cM) (P:aP->It->aP):Prop where
 call:∀ s x,gR f s->x.n=1->sz s<=1000000->Nk gl x.v.n->Pure pg gl 142 [.str op,.agg s.l,x.av] (.ok (.agg (P s x).l))
 iv:∀ s x,gR f s->x.n=1->sz s<=1000000->Nk gl x.v.n->gR f (P s x)
 size:∀ s x,gR f s->x.n=1->sz s<=1000000->Nk gl x.v.n->sz (P s x)<=sz s+1
 n:∀ s x,gR f s->x.n=1->sz s<=1000000->Nk gl x.v.n->(P s x).n=IntKind.i64.wrap (s.n+1)
def Kr (hg:ae gl) (op:List UInt8) (f:cM) (hf:iJ op=some f):∃ P,xg gl op f P:=by
 have h:∀ (s:aP) (x:It),∃ u,gR f s->x.n=1->sz s<=1000000->Nk gl x.v.n->Pure pg gl 142 [.str op,.agg s.l,x.av] (.ok (.agg u.l))/\gR f u/\sz u<=sz s+1/\u.n=IntKind.i64.wrap (s.n+1):=fun s x=>by
  by_cases hh:gR f s/\x.n=1/\sz s<=1000000/\Nk gl x.v.n
  ·obtain ⟨h1,h2,h3,h4,h5⟩:=hh;obtain ⟨u,hu⟩:=cM.put hg op f hf s x h1 h2 h3 h4 h5;exact ⟨u,fun _ _ _ _=>hu⟩
  ·exact ⟨s,fun a b c d=>absurd ⟨a,b,c,d⟩ hh⟩
 refine ⟨fun s x=>(h s x).choose,⟨fun s x a b c d=>((h s x).choose_spec a b c d).1,fun s x a b c d=>((h s x).choose_spec a b c d).2.1,fun s x a b c d=>((h s x).choose_spec a b c d).2.2.1,fun s x a b c d=>((h s x).choose_spec a b c d).2.2.2⟩⟩
def pR {σ:Type}:∀ {C:List (Int×σ)},fW C↔C.Pairwise fun a b=>a.1<b.1
 |[]=>⟨fun _=> .nil,fun _=>trivial⟩
 |[c]=>⟨fun _=>List.pairwise_singleton ..,fun _=>trivial⟩
 |c::d::r=>by
  have ih:=pR (C:=d::r);constructor
  ·intro h;refine AT.2 ⟨fun x hx=>?_,ih.1 h.2⟩;obtain ⟨i,hi⟩:=Bm hx;exact fW.lt h hi
  ·intro h;have:=AT.1 h;exact ⟨this.1 d (by simp),ih.2 this.2⟩
def Hs {C:List Ce}:fW (aW C)↔fW C:=by
 rw [pR,pR];unfold aW;rw [List.pairwise_map]
structure CK (f:cM) (k:Nat) (C:List Ce):Prop where
 ji:fW C
 ev:∀ c∈C,0<=c.1/\c.1<=1099511627776
 iv:∀ c∈C,gR f c.2
 n:∀ c∈C,1<=c.2.n/\c.2.n<=k
 sz:eE C<=k
 len:C.length<=k
def CK.nil (f:cM):CK f 0 []:=⟨trivial,fun _ h=>(nomatch h),fun _ h=>(nomatch h),fun _ h=>(nomatch h),Af _,Af _⟩
def mV (A B:List Ce):eE (A++B)=eE A+eE B:=by simp [eE]
def EU (f:cM):gR f s0:=⟨CQ rfl,fun _=>Ks.nil _,fun _=>⟨fun _ h=>(nomatch h),Ks.nil _⟩⟩
def jh (C:List Ce) (i:Nat):(aW C)[i]? =(C[i]?).map fun c=>(c.1,c.2.l):=Ap ..
def Cc {C:List Ce} (h:fW C) (e:Int):eD e (aW C)<=C.length/\(∀ a∈C.take (eD e (aW C)),a.1<e)/\(∀ b∈C.drop (eD e (aW C)),e<=b.1):=by
 have hs:=Hs.2 h;have hl:(aW C).length=C.length:=Ad ..;have hle:=zf e (aW C);refine ⟨by omega,fun a ha=>?_,fun b hb=>?_⟩
 ·obtain ⟨i,hi⟩:=Bm ha;rw [Bj] at hi;split at hi
  ·rename_i hlt;exact (tP (e:=e) hs (i:=i) (c:=(a.1,a.2.l)) (by rw [jh,hi];rfl)).2 hlt
  ·cases hi
 ·obtain ⟨i,hi⟩:=Bm hb;rw [AR] at hi;have:=(tP (e:=e) hs (i:=eD e (aW C)+i) (c:=(b.1,b.2.l)) (by rw [jh,hi];rfl)).1;refine BC.1 fun h1=>?_;have:=this h1;omega
def MP {f:cM} {k:Nat} {A B:List Ce} {e:Int} {u s:aP} (hp:(A++B).Pairwise fun a b=>a.1<b.1) (hA:∀ a∈A,a.1<e) (hB:∀ b∈B,e<b.1) (he:0<=e/\e<=1099511627776)
  (h1:∀ c∈A++B,(0<=c.1/\c.1<=1099511627776)/\gR f c.2/\1<=c.2.n/\c.2.n<=(k+1:Nat)) (hu:gR f u) (hn:1<=u.n/\u.n<=(k+1:Nat)) (hs:eE (A++B)+Go.Proofs.YtoopnalhhfmgaaaGreatDoor.sz u<=k+1) (hl:(A++B).length+1<=k+1):CK f (k+1) (A++(e,u)::B):=by
 have hm:∀ c∈A++(e,u)::B,c=(e,u)∨c∈A++B:=fun c hc=>by
  rcases AA.1 hc with h|h
  ·exact .inr (AW _ h)
  ·rcases Ab.1 h with h|h
   ·exact .inl h
   ·exact .inr (Bc _ h)
 obtain ⟨p1,p2,p3⟩:=Co.1 hp;refine ⟨pR.2 (Co.2 ⟨p1,AT.2 ⟨hB,p2⟩,fun a ha b hb=>?_⟩),fun c hc=>?_,fun c hc=>?_,fun c hc=>?_,?_,?_⟩
 ·rcases Ab.1 hb with rfl|hb
  ·exact hA a ha
  ·exact p3 a ha b hb
 ·rcases hm c hc with rfl|h
  ·exact he
  ·exact (h1 c h).1
 ·rcases hm c hc with rfl|h
  ·exact hu
  ·exact (h1 c h).2.1
 ·rcases hm c hc with rfl|h
  ·exact hn
  ·exact (h1 c h).2.2
 ·rw [mV,gY];rw [mV] at hs;show eE A+(Go.Proofs.YtoopnalhhfmgaaaGreatDoor.sz u+eE B)<=_;omega
 ·simp only [Ak,List.length_cons] at hl ⊢;omega
def zY {C:List Ce} {e:Int} (h:oZ e (aW C)=true):∃ s,C[eD e (aW C)]? =some (e,s):=by
 unfold oZ at h;split at h
 ·rename_i c hc;rw [jh] at hc
  cases hx:C[eD e (aW C)]? with
  |none=>rw [hx] at hc;cases hc
  |some x=>
   rw [hx] at hc;injection hc with hc
   subst hc;have h:x.1=e:=by simpa using h
   refine ⟨x.2,?_⟩;obtain ⟨a,b⟩:=x;obtain rfl:a=e:=h;rfl
 ·cases h
def Jx {C:List Ce} {e:Int} {c:Ce} (h:oZ e (aW C)=false) (hc:C[eD e (aW C)]? =some c):c.1≠e:=by
 unfold oZ at h
 have:(aW C)[eD e (aW C)]? =some (c.1,c.2.l):=by
  rw [jh,hc];rfl
 rw [this] at h;simpa using h
def GW {op:List UInt8} {f:cM} {P:aP->It->aP} (hP:xg gl op f P) {k:Nat} {C:List Ce} (h:CK f k C) {p:Pk} (hp:p.n=1) (he:0<=p.event/\p.event<=1099511627776) (hv:Nk gl p.v.n) (hk:k<=1000000):CK f (k+1) (gW P C p):=by
 obtain ⟨q1,q2,q3⟩:=Cc h.ji p.event;have hpw:=pR.1 h.ji;have hbase:∀ c∈C,(0<=c.1/\c.1<=1099511627776)/\gR f c.2/\1<=c.2.n/\c.2.n<=((k+1:Nat):Int):=fun c hc=>⟨h.ev c hc,h.iv c hc,(h.n c hc).1,by have:=(h.n c hc).2;omega⟩;unfold gW;generalize hpos:eD p.event (aW C)=i at*;split
 ·rename_i hf;obtain ⟨s,hs⟩:=zY hf;rw [hpos] at hs;have hg:(C.getD i (0,Go.Proofs.YtoopnalhhfmgaaaGreatDoor.s0)).2=s:=by rw [AU,hs];rfl
  rw [hg];have hm:=Aj hs;have hd:=bY hs;have hC:C=C.take i++(p.event,s)::C.drop (i+1):=by rw [<-hd,A1]
  have hsz:eE C=eE (C.take i++C.drop (i+1))+Go.Proofs.YtoopnalhhfmgaaaGreatDoor.sz s:=by
   conv=>lhs;rw [hC]
   rw [mV,mV,gY];show _+(Go.Proofs.YtoopnalhhfmgaaaGreatDoor.sz s+_)=_;omega
  have hlen:C.length=(C.take i++C.drop (i+1)).length+1:=by
   conv=>lhs;rw [hC]
   simp only [Ak,List.length_cons];omega
  have h3:=h.sz;have h4:=h.len;have hsn:=h.n _ hm
  have hsub:(C.take i++C.drop (i+1)).Sublist C:=by
   conv=>rhs;rw [hC]
   exact List.Sublist.append (List.Sublist.refl _) (List.sublist_cons_self ..)
  have a1:=hP.iv s p.it (h.iv _ hm) hp (by omega) hv;have a2:=hP.size s p.it (h.iv _ hm) hp (by omega) hv;have a3:=hP.n s p.it (h.iv _ hm) hp (by omega) hv
  have a4:(P s p.it).n=s.n+1:=by
   rw [a3,IntKind.wrap_i64];show (s.n+1+9223372036854775808)%18446744073709551616-9223372036854775808=_;have h5:1<=s.n/\s.n<=k:=hsn;omega
  refine MP (s:=s) (hpw.sublist hsub) q2 (fun b hb=>?_) he (fun c hc=>hbase c (hsub.subset hc)) a1 ?_ (by omega) (by omega)
  ·rw [hC] at hpw;have:=(Co.1 hpw).2.1;exact (AT.1 this).1 b hb
  ·have h5:1<=s.n/\s.n<=k:=hsn;omega
 ·rename_i hf;have hf:oZ p.event (aW C)=false:=by simpa using hf
  have a1:=hP.iv Go.Proofs.YtoopnalhhfmgaaaGreatDoor.s0 p.it (EU f) hp (Au _) hv;have a2:=hP.size Go.Proofs.YtoopnalhhfmgaaaGreatDoor.s0 p.it (EU f) hp (Au _) hv;have a3:(P Go.Proofs.YtoopnalhhfmgaaaGreatDoor.s0 p.it).n=1:=hP.n Go.Proofs.YtoopnalhhfmgaaaGreatDoor.s0 p.it (EU f) hp (Au _) hv;have h3:=h.sz;have h4:=h.len;have hz:Go.Proofs.YtoopnalhhfmgaaaGreatDoor.sz Go.Proofs.YtoopnalhhfmgaaaGreatDoor.s0=0:=rfl;refine MP (s:=Go.Proofs.YtoopnalhhfmgaaaGreatDoor.s0) (by rw [A1];exact hpw) q2 (fun b hb=>?_) he (fun c hc=>hbase c (by rw [A1] at hc;exact hc)) a1 (by omega) (by rw [A1];omega) (by rw [A1];omega);have h5:=q3 b hb;obtain ⟨j,hj⟩:=Bm hb;rw [AR] at hj;rcases Br j with rfl|hj0
  ·have:=Jx hf (c:=b) (by rw [hpos];exact hj);omega
  ·obtain ⟨c,hc⟩:∃ c,C[i]? =some c:=aK (by
    rcases Al (i+j) C.length with h'|h'
    ·omega
    ·rw [As h'] at hj;cases hj)
   have h6:=bY hc;rw [<-A1 i C,h6] at hpw
   have h7:=(AT.1 (Co.1 hpw).2.1).1 b (by
    refine Aj (i:=j-1) ?_;rw [AR,show i+1+(j-1)=i+j by omega]
    exact hj)
   have h8:=q3 c (by rw [h6];exact A4);omega
def aa6 (e:Int) (N nt:Nat) (ob:List (Nat×List AV)) (lv:List Nat):ao pg 139 [.sl 6 [] .exact,.int .i64 e,.fn (.func 140) [] []] ⟨N,ob,nt,lv,gl⟩ fun o S'=>o= .ok (.aF [.int .i64 0,.bool false])/\S'=⟨N,ob,nt,lv,gl⟩:=by
 refine .aC JQ (by simp) (ab 200 ?_);generalize hK:bI _ _=Q
 repeat' with_reducible first|refine au ?_|refine ar ?_|refine af.ej (ab 60 (bM qa.eq_1 ?_))|refine af.inLoop (ab 60 (bM qa.eq_1 ?_))|refine ⟨?_,?_⟩|intro _|simp only [go_sem,seval,z0,z4]
 all_goals first
  |(rw [<-hK];simp only [aN];done)
  |skip
 rw [<-hK];simp only [go_sem,seval]
def VE (vl N nt:Nat) (vc:List AV) (ob:List (Nat×List AV)) (lv:List Nat) (hv:List.lookup vl ob=some vc) (b2:aE vc=false) (hvc:vc.length=6) (hvN:vl<N):
  ao pg 144 [.sl 6 [] .exact,.int .i64 0,.aM 6 1 vl 0] ⟨N,ob,nt,lv,gl⟩ (fun o S'=>o= .ok (.aM 6 1 N 0)/\S'=⟨N+1,(N,vc)::ob,nt,lv,gl⟩):=by
 have hgv:∀ M,St.get ⟨M,ob,nt,lv,gl⟩ vl=some vc:=fun _=>hv;have htk:List.take 6 vc=vc:=AN (by omega);refine .aC PK (by simp) (ab 200 ?_)
 repeat' with_reducible first|refine au ?_|refine ar ?_|refine ⟨?_,?_⟩|intro _|simp only [go_sem,seval,fZ,fK,cQ,cE,eG,eU,gk,gN,cp,bO,bH,dH,hgv,b2,hvc,htk,z0,z1,z2,z3,iT,fI,fG,appArg]
def Ld {cs:List AV} (h:aE cs=true):∃ c,cs=[c]:=by
 match cs,h with
 |[],h=>cases h
 |[c],_=>exact ⟨c,rfl⟩
 |_::_::_,h=>rw [fP] at h;cases h
def _root_.Go.V.af.fresh {n N nt:Nat} {kk:List MI} {D:ep} {F:Fr} {Q:er} {ob:List (Nat×List AV)} {lv:List Nat} (h:bL N ob->af pg n kk D F ⟨N,ob,nt,lv,gl⟩ Q):af pg n kk D F ⟨N,ob,nt,lv,gl⟩ Q:=by
 intro wb G w a b cs todo hb hf hR;refine h (fun l hl=>?_) wb G w a b cs todo hb hf hR
 cases e:List.lookup l ob with
 |none=>rfl
 |some c=>
  obtain ⟨r,hr⟩:∃ r,G.σ l=some r:=by
   cases hbl:aE c with
   |false=>
    obtain ⟨r,hr,_⟩:=hR.st.obj l c e hbl;exact ⟨r,hr⟩
   |true=>
    obtain ⟨x,rfl⟩:=Ld hbl;obtain ⟨r,hr,_⟩:=hR.st.bu l x e hbl;exact ⟨r,hr⟩
  have:=(hR.st.bS l r hr).1;exact absurd (show l<N from this) (by omega)
def PE (mv:AV) (C:List Ce) (N:Nat) (ob:List (Nat×List AV)):Prop:=(C=[]/\mv= .sl 6 [] .exact)∨∃ l cs,mv= .aM 6 C.length l 0/\List.lookup l ob=some cs/\l<N/\aE cs=false/\Row cs (dg (aW C))
def z5:List AV:=[.int .i64 0,.int .i64 0,.int .u64 0,.sl 6 [] .exact,.sl 2 [] .exact]
def fl9 {ps:List Pk} {i:Nat} {p:Pk} (h:ps[i]? =some p):(ps.map Pk.av)[i]? =some (.agg p.l):=by rw [Ap,h];rfl
def VM:=(by conv=>lhs;reduce:dC [Ua,Ub,Uc,Ud,Ue] [] 0x12857753dd2728d76f1decc12269c988254d1b8831267bb344e2cad97e43eb030ba07389e11203ef86b1bdb6b4da5e9a03ba767fb543ae707adf75ceb3be936f5f68e26576799461422a0086a43846a65ae3b4189=_)
def IY:=rO (VM (.int .i64 0) (.str []) (.int .u64 0) (.sl 6 [] .exact) (.sl 2 [] .exact))
def aag:=(by conv=>lhs;reduce:dC [Ua] [] 0xa7f0865dba3ddc4fc59dd18a=_)
abbrev QO:=rP (aag (.int .i64 1))
def Xy:=(by conv=>lhs;reduce:dC [Ua,Ub,Uc,Ud,Ue,Uf] [Ya,Yb] 0x6b930b8d85c71d8b8cb395c6fe9dfe59b3fa59814926d4e2b85a7dfc3459e2bad2ed52ef1d1db089a489aca0e0fc0e2845e985e75d7cd09cf3c3b292b39123fbfbaebf828de83ecd2e96a0e697fe587db409a3ef6e3467bfe3025bbb87df5a4c9e7328bb658216dffe80d01284278e3612c08735ee20d7745c=_)
def tY:=rO (Xy (.str []) (.int .i64 0) (.int .u64 0) (.sl 6 [] .exact) (.sl 2 [] .exact) (.int .i64 1) IY QO)
def VY:=(by conv=>lhs;reduce:dC [] [] 0x13a7bd198a13418b=_)
abbrev P8:=rP VY
def ahl:=(by conv=>lhs;reduce:dC [Ua,Ub] [Ya,Yb] 0xe084e4a88fdf30e0d6ba5cec01916d4e0f0848d800929e9bc291b5a63fbfd49ece95f14673aecb886ec4342d=_)
abbrev m99:=rP (ahl (.sl 6 [] .exact) (.int .i64 0) tY P8)
def We:aD pg 99 67 m99 [.t 6]:= .o2 Tryz.func99 (by kernel_rfl)
def c99 (hg:ae gl) (op:List UInt8) (f:cM) (hf:iJ op=some f) (P:aP->It->aP) (hP:xg gl op f P) (ps:List Pk) (t:bD) (hn:ps.length<=100000) (hp:∀ p∈ps,p.n=1/\(0<=p.event/\p.event<=1099511627776)/\Nk gl p.v.n) (N nt:Nat) (ob:List (Nat×List AV)) (lv:List Nat) (hf0:bL N ob):
  ao pg 99 [.str op,.sl 6 [] .exact,.sl 9 (ps.map Pk.av) t] ⟨N,ob,nt,lv,gl⟩ fun o S'=>∃ N' ob' nt' lv' r,o= .ok r/\S'=⟨N',ob',nt',lv',gl⟩/\∃ mv,r.Le mv/\PE mv (ps.foldl (gW P) []) N' ob':=by
 have h138:=YE (gl:=gl) hg op;rw [hf] at h138;have h29:Pure pg gl 29 [.sl 6 [] .exact] (.ok (.sl 6 [] .exact)):=(Dm (gl:=gl)).conv rfl;refine .aC We (by simp) (ab 60 ?_);generalize hK:bI _ _=Q
 repeat' with_reducible first|refine au ?_|refine ar ?_|refine .pu (h138) hg rfl ?_|refine .pu (h29) hg rfl ?_|refine ⟨?_,?_⟩|intro _|simp only [go_sem,seval,Option.isSome_some]
 refine .dA ps.length (fun i F S=>∃ N2 ob2 nt2 lv2 r mv,F=[(0,.str op),(6,r),(18,.sl 9 (ps.map Pk.av) t),(19,.int .i64 (ps.length:Int)),(20,.int .i64 (i:Int))]/\S=⟨N2,ob2,nt2,lv2,gl⟩/\r.Le mv/\PE mv ((ps.take i).foldl (gW P) []) N2 ob2/\bL N2 ob2/\CK f i ((ps.take i).foldl (gW P) [])) ⟨N,ob,nt,lv,_,_,rfl,rfl,.refl _,.inl ⟨rfl,rfl⟩,hf0,CK.nil f⟩ ?_;rintro i F S hi ⟨N2,ob2,nt2,lv2,r,mv,rfl,rfl,hr,hM,hfr,hCK⟩ ih;refine af.IK [(0,.str op)] hr ?_;show af _ _ _ _ [(0,.str op),(6,mv),(18,.sl 9 (ps.map Pk.av) t),(19,.int .i64 (ps.length:Int)),(20,.int .i64 (i:Int))] _ _
 by_cases h:i<ps.length
 ·obtain ⟨p,hpi⟩:=aK h;obtain ⟨hp1,hp2,hp3⟩:=hp p (Aj hpi);have hpm:=fl9 hpi
  have htk:(ps.take (i+1)).foldl (gW P) []=gW P ((ps.take i).foldl (gW P) []) p:=by
   rw [CC,hpi,List.foldl_append];rfl
  have hnext:=GW hP hCK hp1 hp2 hp3 (by omega);generalize hC:(ps.take i).foldl (gW P) []=C at hM hCK htk hnext;have hp9:(9<=p.l.length)=True:=eq_true (Af 9);have hpt:List.take 9 p.l=p.l:=rfl
  have fin:∀ (j:Nat) (rest:List Ce) (s:aP) (sl:List AV) (mv r3:AV) (N3 nt3:Nat) (ob3:List (Nat×List AV)) (lv3:List Nat),j<=rest.length->rest.length<=100000->r3.Le mv->PE mv rest N2 ob3->List.lookup N2 ob3=some p.l->List.lookup (N2+1) ob3=some (.int .i64 p.event::sl)->sl.length=5->(AV.agg sl).fg= .agg s.l->N2+1<N3->gR f s->sz s<=1000000->(P s p.it).n≠0->rest.take j++(p.event,P s p.it)::rest.drop j=gW P C p->
    af pg 67 [.code IY,.inBlock 1,.code (.named [0,6,18,19,20] QO),.inLoop tY,.inBlock 0,.code (.named [6] P8)] [] [(0,.str op),(6,r3),(8,.ptr N2 0),(9,.int .i64 (j:Int)),(11,.ptr (N2+1) 0),(18,.sl 9 (ps.map Pk.av) t),(19,.int .i64 (ps.length:Int)),(20,.int .i64 (i:Int))] ⟨N3,ob3,nt3,lv3,gl⟩ Q:=by
   intro j rest s sl mv r3 N3 nt3 ob3 lv3 hj hrl hr3 hM3 l8 l11 hs5 hfg hN3 hs hsz hn0 hres;refine af.IK [(0,.str op)] hr3 ?_;show af _ _ _ _ [(0,.str op),(6,mv),(8,.ptr N2 0),(9,.int .i64 (j:Int)),(11,.ptr (N2+1) 0),(18,.sl 9 (ps.map Pk.av) t),(19,.int .i64 (ps.length:Int)),(20,.int .i64 (i:Int))] _ _;obtain ⟨u,hu⟩:∃ u,u=P s p.it:=⟨_,rfl⟩;have h142:=hP.call s p.it hs hp1 hsz hp3;have h143:=akP (gl:=gl) (P s p.it) hn0;rw [<-hu] at h142 h143 hres;rw [show p.it.av= .agg [.int .i64 p.v.kd,.int .i64 p.v.n,.str p.v.s,.str p.src,.int .i64 p.seq,.int .i64 p.n] from rfl] at h142;have h142:=h142.conv (as':=[.str op,.agg sl,.agg [.int .i64 p.v.kd,.int .i64 p.v.n,.str p.v.s,.str p.src,.int .i64 p.seq,.int .i64 p.n]]) (by simp only [List.map_cons,Az,hfg,s.nm.2.1]);have g8:∀ nt lv,St.get ⟨N3,ob3,nt,lv,gl⟩ N2=some [.str p.key,.str p.src,.int .i64 p.seq,.int .i64 p.event,.int .i64 p.v.kd,.int .i64 p.v.n,.str p.v.s,.int .i64 p.tick,.int .i64 p.n]:=fun _ _=>l8;have g11:∀ nt lv,St.get ⟨N3,ob3,nt,lv,gl⟩ (N2+1)=some (.int .i64 p.event::sl):=fun _ _=>l11;have hYb:aE (AV.int .i64 p.event::sl)=false:=iG (p.event,sl);have hY5:(5<=sl.length)=True:=eq_true (by omega);have hY5t:List.take 5 sl=sl:=AN (by omega);have hXb:∀ s:aP,aE (AV.int .i64 p.event::s.l)=false:=fun s=>iG (p.event,s.l);have hX5:∀ s:aP,(5<=s.l.length)=True:=fun s=>eq_true (Af 5);have hXt:∀ s:aP,List.take 6 (AV.int .i64 p.event::s.l)=AV.int .i64 p.event::s.l:=fun s=>rfl;have hX5t:∀ s:aP,List.take 5 s.l=s.l:=fun s=>rfl;have hN3a:(N2+1=N2)=False:=eq_false (by omega)
   have hN3b:(N2+1=N3)=False:=eq_false (by omega);refine bp IY.eq_1 ?_;have hul:(u.l.length==5)=true:=rfl;have hul6:(u.l.length+1==6)=true:=rfl;have hud:List.drop (1+u.l.length) (AV.int .i64 p.event::sl)=[]:=AE (by simp [hs5,show u.l.length=5 from rfl])
   repeat' with_reducible first|refine au ?_|refine ar ?_|refine .pu (h142) hg rfl ?_|refine .pu (h143) hg rfl ?_|refine ⟨?_,?_⟩|intro _|simp only [go_sem,seval,g8,g11,hYb,hY5,hY5t,hXb,hX5,hXt,hX5t,hN3a,hN3b,hul,hul6,hud]
   have hfl:flat [AV.agg (AV.int .i64 p.event::u.l)]=AV.int .i64 p.event::u.l:=by rw [de];exact AB _
   rw [hfl];have hres':(ps.take (i+1)).foldl (gW P) []=rest.take j++(p.event,u)::rest.drop j:=by rw [htk,hres]
   have hck':CK f (i+1) ((ps.take (i+1)).foldl (gW P) []):=by rw [htk];exact hnext
   have hcl:dg (aW (rest.take j++(p.event,u)::rest.drop j))=(dg (aW rest)).take j++(AV.int .i64 p.event::u.l)::(dg (aW rest)).drop j:=by
    unfold dg aW;simp only [AP,List.map_cons,BZ,B0];rfl
   have hRl:(dg (aW rest)).length=rest.length:=by rw [gg];exact Ad ..
   have h6:(AV.int .i64 p.event::u.l).length=6/\∀ v∈(AV.int .i64 p.event::u.l),Nm v:=⟨rfl,Nm.cons (.int _ _) u.all⟩;have hnl:(rest.take j++(p.event,u)::rest.drop j).length=rest.length+1:=by simp;omega
   have hwi:=bb (show i<9223372036854775807 by omega);rcases hM3 with ⟨rfl,rfl⟩|⟨l,cs,rfl,hl,hlN,hb,hrow⟩
   ·obtain rfl:j=0:=by simpa using hj
    refine ao.mono (VE N3 (N3+1) nt3 _ _ lv3 aI (hXb u) h6.1 (by omega)) fun o S' ho=>?_;obtain ⟨rfl,rfl⟩:=ho
    repeat' with_reducible first|refine au ?_|refine ar ?_|refine ⟨?_,?_⟩|intro _|simp only [go_sem,seval,hwi]
    refine .fresh fun hfr'=>ih h _ _ ⟨_,_,_,_,_,_,rfl,rfl,.refl _,.inr ⟨N3+1,_,?_,aI,by omega,hXb u,?_⟩,hfr',hck'⟩
    ·rw [hres'];rfl
    ·rw [hres',hcl];have:=Row.of (R:=[AV.int .i64 p.event::u.l]) (R6.cons h6 (fun _ h=>nomatch h)) [];rw [AB,List.flatten_cons,List.flatten_nil,AB] at this;exact this
   ·have hl4:List.lookup l ((N3,AV.int .i64 p.event::u.l)::(N2+1,AV.int .i64 p.event::u.l)::ob3)=some cs:=by rw [ax (by omega),ax (by omega)];exact hl
    have hlen:=hrow.len;rw [hRl] at hlen;refine ao.mono (ag6 (gl:=gl) rest.length j l N3 (N3+1) nt3 cs (AV.int .i64 p.event::u.l) _ lv3 hl4 aI hb (hXb u) hlen h6.1 (by omega) (by omega) (by omega) hj (by omega)) fun o S' ho=>?_;obtain ⟨L,N',ob',lv',rest0,r,rfl,hLe,rfl,hlk,hNN,hL,hoth⟩:=ho;have hrow':=hrow.ins (rest:=rest0) (i:=j) (r:=AV.int .i64 p.event::u.l) (by omega) h6;rw [hRl] at hrow';rw [<-hcl] at hrow';have hbl:=hrow'.bu (by rw [gg];unfold aW;rw [Ad];omega)
    repeat' with_reducible first|refine au ?_|refine ar ?_|refine ⟨?_,?_⟩|intro _|simp only [go_sem,seval,hwi]
    refine .fresh fun hfr'=>ih h _ _ ⟨_,_,_,_,_,_,rfl,rfl,hLe,.inr ⟨L,_,?_,hlk,hfr'.lt hlk,hbl,?_⟩,hfr',hck'⟩
    ·rw [hres',hnl]
    ·rw [hres'];exact hrow'
  have hpl:(p.l.length==9)=true:=rfl;have hpd:List.drop p.l.length [AV.str [],.str [],.int .i64 0,.int .i64 0,.int .i64 0,.int .i64 0,.str [],.int .i64 0,.int .i64 0]=[]:=rfl;have hpb:aE p.l=false:=rfl;have hpe:p.l[3]? =some (.int .i64 p.event):=rfl;have hpe':(List.drop 3 p.l)[0]? =some (.int .i64 p.event):=rfl;have hN2a:(N2=N2+1)=False:=eq_false (by omega);have hN2b:(N2+1=N2)=False:=eq_false (by omega);have hwi:=bb (show i<9223372036854775807 by omega)
  have hpn:∀ s:aP,sz s<=1000000->gR f s->0<=s.n->s.n<=i->(P s p.it).n≠0:=fun s h1 h2 h3 h4=>by
   rw [hP.n s p.it h2 hp1 h1 hp3,IntKind.wrap_i64];omega
  have hs00:∀ e:Int,[AV.int .i64 e,.int .i64 0,.int .i64 0,.int .u64 0,.sl 6 [] .exact,.sl 2 [] .exact]=AV.int .i64 e::[AV.int .i64 0,.int .i64 0,.int .u64 0,.sl 6 [] .exact,.sl 2 [] .exact]:=fun e=>rfl;rcases hM with ⟨rfl,rfl⟩|⟨l,cs,rfl,hl,hlN,hb,hrow⟩
  ·have h139:=fun nt lv=>aa6 (gl:=gl) p.event (N2+1) nt ((N2,p.l)::(N2,[.str [],.str [],.int .i64 0,.int .i64 0,.int .i64 0,.int .i64 0,.str [],.int .i64 0,.int .i64 0])::ob2) lv;refine bp tY.eq_1 ?_
   repeat' with_reducible first|refine au ?_|refine ar ?_|refine aS.fV (h139 _ _) ?_|refine ⟨?_,?_⟩|intro _|simp only [go_sem,seval,hpm,hp9,hpt,hpl,hpd,hpb,hpe,hpe',fh h,eC h,Ad,hN2a,hN2b]
   refine fin 0 [] s0 z5 _ _ _ _ _ _ (Af _) (Au _) (.refl _) (.inl ⟨rfl,rfl⟩) ?_ aI rfl rfl (by omega) (EU f) (Au _) (hpn s0 (Au _) (EU f) (Ay _) (by show (0:Int)<=_;omega)) rfl;rw [ax (by omega),ax (by omega)];exact aI
  ·have hCl:(aW C).length=C.length:=Ad ..;have hckl:=hCK.len;have h139:=fun nt lv ob3 h1=>ahd (gl:=gl) hg l (N2+1) nt p.event cs (aW C) ob3 lv h1 hrow (Hs.2 hCK.ji) (by omega);rw [hCl] at h139;obtain ⟨q1,q2,q3⟩:=Cc hCK.ji p.event;have hl3:List.lookup l ((N2,p.l)::(N2,[.str [],.str [],.int .i64 0,.int .i64 0,.int .i64 0,.int .i64 0,.str [],.int .i64 0,.int .i64 0])::ob2)=some cs:=by rw [ax (by omega),ax (by omega)];exact hl
   cases hfd:oZ p.event (aW C) with
   |false=>
    have hu:gW P C p=C.take (eD p.event (aW C))++(p.event,P s0 p.it)::C.drop (eD p.event (aW C)):=by
     unfold gW;rw [hfd];rfl
    rw [hfd] at h139;refine bp tY.eq_1 ?_
    repeat' with_reducible first|refine au ?_|refine ar ?_|refine aS.fV (h139 _ _ _ hl3) ?_|refine ⟨?_,?_⟩|intro _|simp only [go_sem,seval,hpm,hp9,hpt,hpl,hpd,hpb,hpe,hpe',fh h,eC h,Ad,hN2a,hN2b]
    refine fin _ C s0 z5 _ _ _ _ _ _ q1 (by omega) (.refl _) (.inr ⟨l,cs,rfl,?_,hlN,hb,hrow⟩) ?_ aI rfl rfl (by omega) (EU f) (Au _) (hpn s0 (Au _) (EU f) (Ay _) (by show (0:Int)<=_;omega)) hu.symm
    ·rw [ax (by omega),ax (by omega),ax (by omega),ax (by omega)];exact hl
    ·rw [ax (by omega),ax (by omega)];exact aI
   |true=>
    obtain ⟨s,hs⟩:=zY hfd;obtain ⟨j,hj⟩:∃ j,j=eD p.event (aW C):=⟨_,rfl⟩;rw [<-hj] at hs q1 q2 q3
    have hjl:j<C.length:=by
     rcases Al j C.length with h'|h'
     ·exact h'
     ·rw [As h'] at hs;cases hs
    have hsm:=Aj hs
    have hu:gW P C p=(C.take j++C.drop (j+1)).take j++(p.event,P s p.it)::(C.take j++C.drop (j+1)).drop j:=by
     unfold gW;rw [if_pos hfd,<-hj,show (C.getD j (0,s0)).2=s by rw [AU,hs];rfl];have ht:(C.take j).length=j:=by rw [Av];omega
     rw [List.take_left' ht,List.drop_left' ht]
    rw [hfd,<-hj] at h139;have hC6:(aW C)[j]? =some (p.event,s.l):=by rw [jh,hs];rfl
    obtain ⟨e1,e2⟩:=hrow.at (gC hC6);have hlN1:(l=N2+1)=False:=eq_false (by omega);have hlN2:(l=N2)=False:=eq_false (by omega);have hlN3:(N2+1=l)=False:=eq_false (by omega);have hlN4:(N2=l)=False:=eq_false (by omega);have g2:∀ n nt lv,St.get ⟨n,ob2,nt,lv,gl⟩ l=some cs:=fun _ _ _=>hl;have hsl6:(s.l.length+1==6)=true:=rfl;have hsd:List.drop s.l.length z5=[]:=rfl;unfold z5 at hsd;have hwj:=bb (show j<9223372036854775807 by omega);refine bp tY.eq_1 ?_
    repeat' with_reducible first|refine au ?_|refine ar ?_|refine aS.fV (h139 _ _ _ hl3) ?_|refine ⟨?_,?_⟩|intro _|simp only [go_sem,seval,hpm,hp9,hpt,hpl,hpd,hpb,hpe,hpe',fh h,eC h,fh hjl,eC hjl,Ad,hN2a,hN2b,hlN1,hlN2,hlN3,hlN4,g2,hb,e1,e2,hsl6,hsd,hwj]
    have hlen:=hrow.len;have hRl:(dg (aW C)).length=C.length:=by rw [gg];exact hCl
    rw [hRl] at hlen;refine ao.mono (aip (gl:=gl) C.length j l (N2+1+1) nt2 cs _ lv2 (by rw [ax (by omega),ax (by omega),ax (by omega),ax (by omega),ax (by omega)];exact hl) hb hlen hjl (by omega)) fun o S' ho=>?_;obtain ⟨ob',lv',cs',r,rfl,hLe,rfl,hlk,hlen',htake,hoth⟩:=ho;have hrow':=hrow.del (cs':=cs') (i:=j) (by omega) (by rw [hRl];exact hlen') (by rw [hRl];exact htake)
    have hcl:(dg (aW C)).take j++(dg (aW C)).drop (j+1)=dg (aW (C.take j++C.drop (j+1))):=by
     unfold dg aW;simp only [AP,BZ,B0]
    rw [hcl] at hrow'
    have hrl:(C.take j++C.drop (j+1)).length=C.length-1:=by
     rw [Ak,Av,AK];omega
    have hsn:=hCK.n _ hsm
    have hsz1:sz s<=eE C:=by
     rw [<-A1 j C,bY hs,mV,gY];show sz s<=_+(sz s+_);omega
    have hszC:=hCK.sz
    repeat' with_reducible first|refine au ?_|refine ar ?_|refine ⟨?_,?_⟩|intro _|simp only [go_sem,seval]
    refine fin j (C.take j++C.drop (j+1)) s s.l (.aM 6 (C.length-1) l 0) r _ _ _ _ (by rw [hrl];omega) (by rw [hrl];omega) hLe (.inr ⟨l,cs',by rw [hrl],hlk,hlN,fO (by omega),hrow'⟩) ?_ ?_ rfl s.nm.2.1 (by omega) (hCK.iv _ hsm) (by omega) (hpn s (by omega) (hCK.iv _ hsm) (by show 0<=s.n;have:1<=s.n:=hsn.1;omega) hsn.2) hu.symm
    ·rw [hoth N2 (by omega),ax (by omega),ax (by omega),ax (by omega)];exact aI
    ·rw [hoth (N2+1) (by omega)];exact aI
 ·refine bp tY.eq_1 ?_
  repeat' first
   |with_reducible first|refine au ?_|refine ar ?_|refine ⟨?_,?_⟩|intro _
   |simp only [go_sem,seval,fD (Am h),Ad]
  rw [<-hK];simp only [go_sem,seval];refine ⟨N2,ob2,nt2,lv2,mv,rfl,rfl,mv,.refl _,?_⟩;rw [AN (by omega)] at hM;exact hM
def ao.adI {f:FuncId} {vs:List AV} {S:St} {C:List Ce} (h:ao pg f vs S fun o S'=>∃ N' ob' nt' lv' r,o= .ok r/\S'=⟨N',ob',nt',lv',gl⟩/\∃ mv,r.Le mv/\PE mv C N' ob'):ao pg f vs S fun o _=>mH o (.sl 6 ((aW C).map eg) .ai):=by
 intro wb G w ws hS hv;refine (h wb G w ws hS hv).mono fun e w' ⟨G',S',h1,h2,h3⟩=>?_
 cases e with
 |returned v=>
  obtain ⟨r,h4,N',ob',nt',lv',r',e1,rfl,mv,hLe,hM⟩:=h3;injection e1 with e1
  subst e1;rcases hM with ⟨rfl,rfl⟩|⟨l,cs,rfl,hl,hlN,hb,hrow⟩
  ·exact ⟨G',_,h1,h2,_,hLe _ _ h4,rfl⟩
  ·have hXb:aE (flat ((aW C).map eg))=false:=by
    rw [kZ];have:=(Il C).bu
    cases C with
    |nil=>rfl
    |cons c C=>exact this (by rw [gg];exact Nat.succ_pos _)
   have hlen:(dg (aW C)).length*6=(flat ((aW C).map eg)).length:=by rw [kZ,(OQ C).len]
   have hcs:cs=flat ((aW C).map eg)++cs.drop ((dg (aW C)).length*6):=by rw [kZ,<-hrow.eq,A1]
   have h2':=aw.less (ob':=[(l,flat ((aW C).map eg))]) h2 fun l' cs' e=>by
    rw [List.lookup_cons] at e;split at e
    ·rename_i hl';injection e with e
     subst e;rw [show l'=l by simpa using hl'];exact ⟨hXb,_,by rw [hl];exact congrArg some hcs,by rw [<-hcs];exact hb⟩
    ·cases e
   obtain ⟨G2,g1,g2,g3⟩:=aw.freeze (k:=6) (xs:=(aW C).map eg) (ob':=[]) h2' aI hXb (fun x hx=>by
    obtain ⟨c,hc,rfl⟩:=Ai.1 hx;obtain ⟨d,_,rfl⟩:=Ai.1 hc
    rfl) (fun l' cs' e=>by cases e)
   exact ⟨G2,_,Gh.le_trans h1 g1,g2,_,g3 _ _ _ (.all (by rw [Ad];unfold aW;rw [Ad])) (hLe _ _ h4),(Nm.sl (k:=6) (il C)).2.1⟩
 |panicked ch=>
  obtain ⟨v,av,h4,h5,N',ob',nt',lv',r',e1,_⟩:=h3;cases e1
 |outgrown=>exact h3.elim
def qf (P:aP->It->aP) (ps:List Pk):List Ce:=ps.foldl (gW P) []
def Lh {op:List UInt8} {f:cM} {P:aP->It->aP} (hP:xg gl op f P) (ps:List Pk) (hn:ps.length<=100000) (hp:∀ p∈ps,p.n=1/\(0<=p.event/\p.event<=1099511627776)/\Nk gl p.v.n):CK f ps.length (qf P ps):=by
 have key:∀ (ps:List Pk) (k:Nat) (C:List Ce),CK f k C->k+ps.length<=100000->(∀ p∈ps,p.n=1/\(0<=p.event/\p.event<=1099511627776)/\Nk gl p.v.n)->CK f (k+ps.length) (ps.foldl (gW P) C):=fun ps=>by
  induction ps with
  |nil=>exact fun k C h _ _=>h
  |cons p ps ih=>
   intro k C h hk hp;obtain ⟨h1,h2,h3⟩:=hp p (by simp);simp only [List.length_cons] at hk;have:=ih (k+1) (gW P C p) (GW hP h h1 h2 h3 (by omega)) (by omega) fun q hq=>hp q (by simp [hq]);rw [List.foldl_cons,List.length_cons,show k+(ps.length+1)=k+1+ps.length by omega];exact this
 have:=key ps 0 [] (CK.nil f) (by omega) hp
 rwa [Aw] at this
def ai5:=(by conv=>lhs;reduce:dC [Ua] [] 0x4741c6862733c56f741d276c85ed4fac1aae483d9e4278271864d1369ae82bc98b80f41f=_)
abbrev m62:=rP (ai5 (.sl 6 [] .exact))
def NJ:aD pg 62 15 m62 [.t 8]:= .o2 Tryz.func62 (by kernel_rfl)
def c62 (hg:ae gl) (op:List UInt8) (f:cM) (hf:iJ op=some f) (P:aP->It->aP) (hP:xg gl op f P) (ps:List Pk) (key:Bytes) (tick:Int) (hn:ps.length<=100000) (hp:∀ p∈ps,p.n=1/\(0<=p.event/\p.event<=1099511627776)/\Nk gl p.v.n) (hk:∀ p∈ps,p.key=key/\p.tick<=tick):
  Pure pg gl 62 [.str op,.sl 9 (ps.map Pk.av) .ai,.str key,.int .i64 tick] (.ok (.sl 6 ((aW (qf P ps)).map eg) .ai)):=by
 refine .dc (Nm.cons (.str _) (Nm.cons (.sl (P9 ps)) (Nm.cons (.str _) (Nm.cons (.int _ _) Nm.nil)))) (Nm.sl (il _)).1 (ao.adI (gl:=gl) ?_);refine .aC NJ (by simp) (ab 60 ?_);generalize hK:bI _ _=Q;have h100:=fun t nt lv=>Zx (gl:=gl) [.ptr 0 0,.ptr 1 0] ps t 2 nt [(1,[.int .i64 tick]),(0,[.str key])] lv (by omega) fun N' nt' hN x hx=>X0 hg x key tick 0 1 N' nt' _ lv (.cons (.cons (.nil _) (by omega)) (by omega)) rfl rfl (hk x hx).1 (hk x hx).2;have h99:=fun t N nt lv h=>c99 hg op f hf P hP ps t hn hp N nt [(1,[.int .i64 tick]),(0,[.str key])] lv h;rcases ps with _|⟨x,xs⟩
 ·have h101:Pure pg gl 101 [.sl 9 [] .ai] (.ok (.sl 9 [] .exact)):=L6;rw [Az] at h100 h99;rw [Az]
  repeat' with_reducible first|refine au ?_|refine ar ?_|refine .pu (h101) hg rfl ?_|refine aS.calm (h100 _ _ _) fun _ _ _=>?_|refine bE.calm (h100 _ _ _) (fun _ _ _=>by first|exact (fun h=>nomatch h)|(first|exact of_eq_true bj|simp only [cR,cy,eT,bj,and_self])) fun _ _ _=>?_|refine ⟨?_,?_⟩|intro _|simp only [go_sem,seval]
  rename_i N2 nt2 hN2;refine ao.mono (h99 _ _ _ _ (.cons (.cons (.nil _) (by omega)) (by omega))) fun o S' ho=>?_;obtain ⟨N',ob',nt',lv',r,rfl,rfl,mv,hLe,hM⟩:=ho
  repeat' with_reducible first|refine au ?_|refine ar ?_|refine ⟨?_,?_⟩|intro _|simp only [go_sem,seval]
  rw [<-hK];simp only [go_sem,seval];exact ⟨N',ob',nt',lv',r,rfl,rfl,mv,hLe,hM⟩
 ·have h101:=t101 (gl:=gl) x xs (by simp at hn;omega) 2 0 [(1,[.int .i64 tick]),(0,[.str key])] [];obtain ⟨X,hX⟩:∃ X,X=(x::xs).map Pk.av:=⟨_,rfl⟩;rw [<-hX] at h100 h99 h101 ⊢
  repeat' with_reducible first|refine au ?_|refine ar ?_|refine aS.fV (h101) ?_|refine aS.calm (h100 _ _ _) fun _ _ _=>?_|refine bE.calm (h100 _ _ _) (fun _ _ _=>by first|exact (fun h=>nomatch h)|(first|exact of_eq_true bj|simp only [cR,cy,eT,bj,and_self])) fun _ _ _=>?_|refine ⟨?_,?_⟩|intro _|simp only [go_sem,seval]
  rename_i N2 nt2 hN2;refine ao.mono (h99 _ _ _ _ (.cons (.cons (.nil _) (by omega)) (by omega))) fun o S' ho=>?_;obtain ⟨N',ob',nt',lv',r,rfl,rfl,mv,hLe,hM⟩:=ho
  repeat' with_reducible first|refine au ?_|refine ar ?_|refine ⟨?_,?_⟩|intro _|simp only [go_sem,seval]
  rw [<-hK];simp only [go_sem,seval];exact ⟨N',ob',nt',lv',r,rfl,rfl,mv,hLe,hM⟩
structure Rw where
 src:Bytes
 seq:Int
 table:Bytes
 key:Bytes
 event:Int
 fields:List AV
 no:Int
 tick:Int
def Rw.l (r:Rw):List AV:=[.str r.src,.int .i64 r.seq,.str r.table,.str r.key,.int .i64 r.event,.sl 3 r.fields .ai,.int .i64 r.no,.int .i64 r.tick]
def Rw.av (r:Rw):AV:= .agg r.l
def Rw.N (r:Rw):Prop:=∀ v∈r.fields,Nm v
def Rw.all {r:Rw} (h:r.N):∀ v∈r.l,Nm v:=Nm.cons (.str _) (Nm.cons (.int _ _) (Nm.cons (.str _) (Nm.cons (.str _) (Nm.cons (.int _ _) (Nm.cons (.sl h) (Nm.cons (.int _ _) (Nm.cons (.int _ _) Nm.nil)))))))
def Rw.nm {r:Rw} (h:r.N):Nm r.av:= .agg (Rw.all h)
def Rw.dl (r:Rw):AV:= .agg (r.l++[.int .i64 0,.int .i64 1])
def Rw.dnm {r:Rw} (h:r.N):Nm r.dl:= .agg fun v hv=>by
 rcases AA.1 hv with hv|hv
 ·exact Rw.all h v hv
 ·exact Nm.cons (.int _ _) (Nm.cons (.int _ _) Nm.nil) v hv
def akW:=(by conv=>lhs;reduce:dC [Ua] [] 0x31b8f2ee446f05c9366f907d201744e3418=_)
abbrev m61:=rP (akW (.bool false))
def abj:aD pg 61 8 m61 [.t 3]:= .o2 Tryz.func61 (by kernel_rfl)
def c61 (r:Rw) (key:Bytes) (kb N nt:Nat) (ob:List (Nat×List AV)) (lv:List Nat) (hf:bL N ob) (h1:List.lookup kb ob=some [.str key]):
  ao pg 61 [r.av,.ptr kb 0] ⟨N,ob,nt,lv,gl⟩ (eI (fun o=>o= .ok (.bool (r.key==key))) ⟨N,ob,nt,lv,gl⟩):=by
 have hkN:(kb=N)=False:=eq_false (hf.ne h1);have hgk:∀ M,St.get ⟨M,ob,nt,lv,gl⟩ kb=some [.str key]:=fun _=>h1;refine .calm (.aC abj (by simp) ?_);generalize hK:bI [RV.t 3] _=Q;unfold Rw.av Rw.l;refine ab 60 ?_
 repeat' with_reducible first|refine au ?_|refine ar ?_|refine ⟨?_,?_⟩|intro _|simp only [go_sem,seval,hgk,hkN]
 all_goals first
  |(rw [<-hK];simp only [aN];done)
  |skip
 rw [<-hK];simp only [go_sem,seval];refine ⟨by omega,fun l cs h=>?_,fun t h=>h⟩;rw [ax (hf.ne h)];exact h
def aa0:=(by conv=>lhs;reduce:dC [Ua] [] 0xf834c4915f36393c0d2d=_)
abbrev acL:=rP (aa0 (.int .i64 1))
def Wr:=(by conv=>lhs;reduce:dC [Ua,Ub,Uc] [Ya] 0x3039d374510cec5d9e707224e802adb1746a2d8dd8091850dbd85e0ffaa6060d831d99dbd9e5de35725c2fb46273aa477cf6a5b557b3e919ed91c2fda0342c=_)
def IE:=rO (Wr (.str []) (.int .i64 0) (.sl 3 [] .exact) acL)
def WJ:=(by conv=>lhs;reduce:dC [] [] 0xb2258829f742e=_)
abbrev ab0:=rP WJ
def ah5:=(by conv=>lhs;reduce:dC [Ua,Ub] [Ya,Yb] 0x56020b6a1b080cd64529d9a0f503860ad9b41a=_)
abbrev m60:=rP (ah5 (.sl 8 [] .exact) (.int .i64 0) IE ab0)
def VH:aD pg 60 22 m60 [.t 4]:= .o2 Tryz.func60 (by kernel_rfl)
def c60 (rows:List Rw) (key:Bytes) (t:bD) (kb N nt:Nat) (ob:List (Nat×List AV)) (lv:List Nat) (hf:bL N ob) (h1:List.lookup kb ob=some [.str key]) (hn:rows.length<=100000):
  ao pg 60 [.sl 8 (rows.map Rw.av) t,.fn (.func 61) [] [.ptr kb 0]] ⟨N,ob,nt,lv,gl⟩ fun o S'=>∃ N' nt' lv' tk,o= .ok (.sl 8 ((rows.filter fun r=>r.key==key).map Rw.av) tk)/\S'=⟨N',ob,nt',lv',gl⟩/\N<=N':=by
 refine .aC VH (by simp) (ab 60 ?_);generalize hK:bI [RV.t 4] _=Q
 repeat' with_reducible first|refine au ?_|refine ar ?_|refine ⟨?_,?_⟩|intro _|simp only [go_sem,seval]
 refine .dA rows.length (fun i F S=>∃ out tk,F=[(1,.fn (.func 61) [] [.ptr kb 0]),(4,.sl 8 (out.map Rw.av) tk),(7,.sl 8 (rows.map Rw.av) t),(8,.int .i64 (rows.length:Int)),(9,.int .i64 (i:Int))]/\(∃ N2 nt2 lv2 hi,S=⟨N2,ob,nt2,lv2,gl⟩/\N<=N2/\gI 0 hi lv2 tk)/\out.length<=i/\out++(rows.drop i).filter (fun r=>r.key==key)=rows.filter fun r=>r.key==key) ⟨[],.exact,rfl,⟨N,nt,lv,0,rfl,Af _,.inl rfl⟩,Af _,rfl⟩ ?_;rintro i F S hi ⟨out,tk,rfl,⟨N2,nt2,lv2,hi2,rfl,hN2,htk⟩,hol,hall⟩ ih
 by_cases h:i<rows.length
 ·obtain ⟨r,hr⟩:=aK h;rw [bY hr,Cb] at hall;have hrm:(rows.map Rw.av)[i]? =some (.agg r.l):=by rw [Ap,hr];rfl
  have hr8:(8<=r.l.length)=True:=eq_true (Af 8);have hrt:List.take 8 r.l=r.l:=rfl;have hrl:(r.l.length==8)=true:=rfl;have hrd:List.drop r.l.length [AV.str [],.int .i64 0,.str [],.str [],.int .i64 0,.sl 3 [] .exact,.int .i64 0,.int .i64 0]=[]:=rfl;have hrb:aE r.l=false:=rfl;have hNk:(N2=kb)=False:=eq_false (by have:=hf.lt h1;omega);have hf2:bL (N2+1) ((N2,r.l)::(N2,[AV.str [],.int .i64 0,.str [],.str [],.int .i64 0,.sl 3 [] .exact,.int .i64 0,.int .i64 0])::ob):= .cons (.cons (fun l h=>hf l (by omega)) (by omega)) (by omega)
  have hk2:List.lookup kb ((N2,r.l)::(N2,[AV.str [],.int .i64 0,.str [],.str [],.int .i64 0,.sl 3 [] .exact,.int .i64 0,.int .i64 0])::ob)=some [.str key]:=by
   have:=hf.lt h1;rw [ax (by omega),ax (by omega)];exact h1
  have h61:=fun nt lv=>c61 (gl:=gl) r key kb (N2+1) nt _ lv hf2 hk2;unfold Rw.av at h61;refine bp IE.eq_1 ?_
  repeat' first
   |with_reducible first|refine au ?_|refine ar ?_|refine aS.calm (h61 _ _) fun _ _ _=>?_|refine bE.calm (h61 _ _) (fun _ _ _=>by first|exact (fun h=>nomatch h)|(first|exact of_eq_true bj|simp only [cR,cy,eT,bj,and_self])) fun _ _ _=>?_|refine ⟨?_,?_⟩|intro _
   |simp only [go_sem,seval,hrm,hr8,hrt,hrl,hrd,hrb,fh h,eC h,hNk,gi,Ad,bb (show i<9223372036854775807 by omega)]
  ·exact htk.ti
  ·omega
  ·omega
  ·rename_i N4 nt4 hN4 hb;rw [if_pos hb] at hall;refine af.cz (ob':=ob) (live':=nt4::jN lv2 tk) ?_ (fun l cs' h=>by rw [ax (by have:=hf.lt h;omega),ax (by have:=hf.lt h;omega)];exact h) (fun _ h=>h);refine ih h _ _ ⟨out++[r],.tok nt4,?_,⟨N4,nt4+1,_,nt4+1,rfl,by omega,.new _ _ _ (Au _)⟩,by simp;omega,by rw [AL];exact hall⟩;rw [AP];rfl
  ·rename_i N4 nt4 hN4 hb;rw [if_neg (by rw [hb];exact B7)] at hall;refine af.cz (ob':=ob) (live':=lv2) ?_ (fun l cs' h=>by rw [ax (by have:=hf.lt h;omega),ax (by have:=hf.lt h;omega)];exact h) (fun _ h=>h);exact ih h _ _ ⟨out,tk,rfl,⟨N4,nt4,lv2,hi2,rfl,by omega,htk⟩,by omega,hall⟩
 ·refine bp IE.eq_1 ?_
  repeat' first
   |with_reducible first|refine au ?_|refine ar ?_|refine ⟨?_,?_⟩|intro _
   |simp only [go_sem,seval,fD (Am h),Ad]
  rw [AE (Am h),List.filter_nil,AB] at hall;rw [<-hK];simp only [go_sem,seval];rw [<-hall];exact ⟨N2,nt2,lv2,tk,rfl,rfl,hN2⟩
structure Tb where
 name:Bytes
 qg:Bytes
 fields:List AV
 cz:Int
def Tb.l (t:Tb):List AV:=[.str t.name,.str t.qg,.sl 4 t.fields .ai,.int .i64 t.cz]
def Tb.N (t:Tb):Prop:=∀ v∈t.fields,Nm v
def Tb.nm {t:Tb} (h:t.N):Nm (.agg t.l):= .agg (Nm.cons (.str _) (Nm.cons (.str _) (Nm.cons (.sl h) (Nm.cons (.int _ _) Nm.nil))))
structure Xp where
 kd:Int
 op:Bytes
 s2:Bytes
 tb:Bytes
 n4:Int
 n5:Int
 s6:Bytes
 l7:List AV
 n8:Int
 n9:Int
 pQ:Int
 args:List AV
def Xp.l (x:Xp):List AV:=[.int .i64 x.kd,.str x.op,.str x.s2,.str x.tb,.int .i64 x.n4,.int .i64 x.n5,.str x.s6,.sl 2 x.l7 .ai,.int .i64 x.n8,.int .i64 x.n9,.int .i64 x.pQ,.sl 12 x.args .ai]
def Xp.N (x:Xp):Prop:=(∀ v∈x.l7,Nm v)/\∀ v∈x.args,Nm v
def Xp.nm {x:Xp} (h:x.N):Nm (.agg x.l):= .agg (Nm.cons (.int _ _) (Nm.cons (.str _) (Nm.cons (.str _) (Nm.cons (.str _) (Nm.cons (.int _ _) (Nm.cons (.int _ _) (Nm.cons (.str _) (Nm.cons (.sl h.1) (Nm.cons (.int _ _) (Nm.cons (.int _ _) (Nm.cons (.int _ _) (Nm.cons (.sl h.2) Nm.nil))))))))))))
def kR (t:Tb) (V0 V1:Rw->bW) (r:Rw):Option Pk:=if r.table=t.name/\V1 r=⟨1,1,[]⟩/\(V0 r).kd≠0 then some ⟨r.key,r.src,r.seq,r.event,V0 r,0,1⟩ else none
def Vq:=(by conv=>lhs;reduce:dC [Ua] [] 0x991cf33f72c63b=_)
abbrev ade:=rP (Vq (.sl 9 [] .exact))
def aah:=(by conv=>lhs;reduce:dC [] [] 0x184ace66b=_)
abbrev adS:=rP aah
def ZV:=(by conv=>lhs;reduce:dC [Ua,Ub] [] 0x76e5500fb5eaf4c60d9af8363437b70f1d352d3c7400781133e4758661c1fa988656c48dfed71f1c8ab6cb14744c9883e0e763b50f93ca5089b32c2d6df0ae197a2dee8b1e14d1f42bf6e0a6b9bf0b606656315dfbaa98f3d73a4c694079129772be8012ce81c904a48ea700e6850a924c9954834050a707afdaf0e418208f2bab752888612016ec0cbcc19c=_)
abbrev aen:=rP (ZV (.int .i64 0) (.str []))
def WQ:=(by conv=>lhs;reduce:dC [Ua] [] 0x274594e032832a7a35b6af8d19d=_)
abbrev ac8:=rP (WQ (.int .i64 1))
def Yk:=(by conv=>lhs;reduce:dC [Ua,Ub,Uc,Ud,Ue] [Ya,Yb,Yc] 0x96ebf23c447939b46ab2d4b0ffcf5aee5ed1fdb8184e533878d3bea7c1803cb226a09838c5b246effe37ee585761026685757ca336a3bf7219abcac8a36cb8c07a4189663ab8ab2d71f337d7b86d110f338348e4eac0577f7e7244334c7cf6eae1c16387f74aa6663f1f3c1d707b050cc7be2252ea7b2041901faa6afbba5edbdb46b=_)
def xQ:=rO (Yk (.str []) (.int .i64 0) (.sl 3 [] .exact) (.int .i64 1) (.bool true) adS aen ac8)
def Vo:=(by conv=>lhs;reduce:dC [] [] 0x1f032d14ba97419e=_)
abbrev JG:=rP Vo
def Z9:=(by conv=>lhs;reduce:dC [Ua] [Ya,Yb] 0x68f595c36981a49d4eb221e48217607d03e=_)
abbrev acb:=rP (Z9 (.int .i64 0) xQ JG)
def ahJ:=(by conv=>lhs;reduce:dC [Ua,Ub,Uc,Ud] [Ya,Yb] 0x25e992a939e1fba65652a1fac466f039b3015a570e7660154179ed9187ed10cbfb76ffd5ddadee906b752d8775b793b0ea0f75e06617b43b=_)
abbrev m63:=rP (ahJ (.sl 9 [] .exact) (.int .i64 5) (.bool true) (.int .i64 2) ade acb)
def OC:aD pg 63 78 m63 [.t 6]:= .o2 Tryz.func63 (by kernel_rfl)
def c63 (hg:ae gl) (t:Tb) (x:Xp) (rows:List Rw) (V0 V1:Rw->bW) (a0 a1:List AV) (ht:t.N) (hx:x.N) (hr:∀ r∈rows,r.N) (hn:rows.length<=100000) (hkd:x.kd=5) (htb:x.tb=t.name) (hargs:x.args=[.agg a0,.agg a1]) (ha0:a0.length=12) (ha1:a1.length=12)
  (h0:∀ r∈rows,Pure pg gl 103 [.agg t.l,r.av,.agg a0] (.ok (V0 r).av)) (h1:∀ r∈rows,Pure pg gl 103 [.agg t.l,r.av,.agg a1] (.ok (V1 r).av)):
  Pure pg gl 63 [.agg t.l,.agg x.l,.sl 10 (rows.map Rw.dl) .ai] (.ok (.sl 9 ((rows.filterMap (kR t V0 V1)).map Pk.av) .ai)):=by
 have hdn:∀ v∈rows.map Rw.dl,Nm v:=fun v hv=>by
  obtain ⟨r,h,rfl⟩:=Ai.1 hv;exact Rw.dnm (hr r h)
 refine .dc (Nm.cons (Tb.nm ht) (Nm.cons (Xp.nm hx) (Nm.cons (.sl hdn) Nm.nil))) (Nm.sl (P9 _)).1 ?_;refine .aC OC (by simp) (ab 60 ?_);generalize hK:bI [RV.t 6] _=Q;unfold Tb.l Xp.l;have hne:(x.tb==t.name)=true:=by rw [htb];simp
 have hk5:(x.kd==5)=true:=by rw [hkd];rfl
 have hnn:(!true)=false:=rfl;have hal:x.args.length=2:=by rw [hargs];rfl
 have hck:(x.kd !=5)=false:=by rw [hkd];rfl
 repeat' with_reducible first|refine au ?_|refine ar ?_|refine ⟨?_,?_⟩|intro _|simp only [go_sem,seval,hne,hk5,hnn,hal,hck]
 refine .dA rows.length (fun i F S=>∃ out tk,F=[(3,.ptr 0 0),(4,.ptr 1 0),(6,.sl 9 (out.map Pk.av) tk),(27,.sl 10 (rows.map Rw.dl) .ai),(28,.int .i64 (rows.length:Int)),(29,.int .i64 (i:Int))]/\(∃ N2 nt2 lv2,S=⟨N2,[(1,[AV.int .i64 x.kd,.str x.op,.str x.s2,.str x.tb,.int .i64 x.n4,.int .i64 x.n5,.str x.s6,.sl 2 x.l7 .ai,.int .i64 x.n8,.int .i64 x.n9,.int .i64 x.pQ,.sl 12 x.args .ai]),(0,[AV.str t.name,.str t.qg,.sl 4 t.fields .ai,.int .i64 t.cz])],nt2,lv2,gl⟩/\2<=N2/\gI 0 nt2 lv2 tk)/\out.length<=i/\out++(rows.drop i).filterMap (kR t V0 V1)=rows.filterMap (kR t V0 V1)) ⟨[],.exact,rfl,⟨2,0,[],rfl,Af _,.inl rfl⟩,Af _,rfl⟩ ?_;rintro i F S hi ⟨out,tk,rfl,⟨N2,nt2,lv2,rfl,hN2,htk⟩,hol,hall⟩ ih
 by_cases h:i<rows.length
 ·obtain ⟨r,hri⟩:=aK h;have hrm:=Aj hri;rw [bY hri,List.filterMap_cons] at hall;have hdm:(rows.map Rw.dl)[i]? =some (.agg [AV.str r.src,.int .i64 r.seq,.str r.table,.str r.key,.int .i64 r.event,.sl 3 r.fields .ai,.int .i64 r.no,.int .i64 r.tick,.int .i64 0,.int .i64 1]):=by rw [Ap,hri];rfl
  have hV:V1 r=⟨1,1,[]⟩↔((V1 r).kd=1/\(V1 r).n=1/\(V1 r).s=[]):=by cases V1 r;simp
  have skp:∀ (N3:Nat) (ob3:List (Nat×List AV)),kR t V0 V1 r=none->List.lookup 1 ob3=some [AV.int .i64 x.kd,.str x.op,.str x.s2,.str x.tb,.int .i64 x.n4,.int .i64 x.n5,.str x.s6,.sl 2 x.l7 .ai,.int .i64 x.n8,.int .i64 x.n9,.int .i64 x.pQ,.sl 12 x.args .ai]->List.lookup 0 ob3=some [AV.str t.name,.str t.qg,.sl 4 t.fields .ai,.int .i64 t.cz]->2<=N3->af pg 78 [.inLoop xQ,.inBlock 0,.code (.named [6] JG)] [] [(3,.ptr 0 0),(4,.ptr 1 0),(6,.sl 9 (out.map Pk.av) tk),(27,.sl 10 (rows.map Rw.dl) .ai),(28,.int .i64 (rows.length:Int)),(29,.int .i64 ((i+1:Nat):Int))] ⟨N3,ob3,nt2,lv2,gl⟩ Q:=fun N3 ob3 hsel k1 k0 hN3=>by
   rw [hsel] at hall;exact af.cz (live':=lv2) (ih h _ _ ⟨out,tk,rfl,⟨N3,nt2,lv2,rfl,hN3,htk⟩,by omega,hall⟩) (xD k1 k0) (fun _ h=>h)
  have add:∀ (N3:Nat) (ob3:List (Nat×List AV)),kR t V0 V1 r=some ⟨r.key,r.src,r.seq,r.event,V0 r,0,1⟩->List.lookup 1 ob3=some [AV.int .i64 x.kd,.str x.op,.str x.s2,.str x.tb,.int .i64 x.n4,.int .i64 x.n5,.str x.s6,.sl 2 x.l7 .ai,.int .i64 x.n8,.int .i64 x.n9,.int .i64 x.pQ,.sl 12 x.args .ai]->List.lookup 0 ob3=some [AV.str t.name,.str t.qg,.sl 4 t.fields .ai,.int .i64 t.cz]->2<=N3->af pg 78 [.inLoop xQ,.inBlock 0,.code (.named [6] JG)] [] [(3,.ptr 0 0),(4,.ptr 1 0),(6,.sl 9 (out.map Pk.av++[.agg [.str r.key,.str r.src,.int .i64 r.seq,.int .i64 r.event,.int .i64 (V0 r).kd,.int .i64 (V0 r).n,.str (V0 r).s,.int .i64 0,.int .i64 1]]) (.tok nt2)),(27,.sl 10 (rows.map Rw.dl) .ai),(28,.int .i64 (rows.length:Int)),(29,.int .i64 ((i+1:Nat):Int))] ⟨N3,ob3,nt2+1,nt2::jN lv2 tk,gl⟩ Q:=fun N3 ob3 hsel k1 k0 hN3=>by
   rw [hsel] at hall;refine af.cz (live':=nt2::jN lv2 tk) (ih h _ _ ⟨out++[⟨r.key,r.src,r.seq,r.event,V0 r,0,1⟩],.tok nt2,?_,⟨N3,nt2+1,_,rfl,hN3,.new _ _ _ (Au _)⟩,by simp;omega,by rw [AL];exact hall⟩) (xD k1 k0) (fun _ h=>h);rw [AP];rfl
  have h103:=h1 r hrm;have h103a:=h0 r hrm;unfold Rw.av Rw.l Tb.l at h103 h103a;have n0:(N2=0)=False:=eq_false (by omega);have n1:(N2=1)=False:=eq_false (by omega);have n2:(0=N2)=False:=eq_false (by omega);have n3:(1=N2)=False:=eq_false (by omega);have n4:(N2+1=0)=False:=eq_false (by omega);have n5:(N2+1=1)=False:=eq_false (by omega);have n6:(0=N2+1)=False:=eq_false (by omega);have n7:(1=N2+1)=False:=eq_false (by omega);have n8:(N2=N2+1)=False:=eq_false (by omega);have n9:(N2+1=N2)=False:=eq_false (by omega);have x0:x.args[0]? =some (.agg a0):=by rw [hargs];rfl
  have x1:x.args[1]? =some (.agg a1):=by rw [hargs];rfl
  have y0:(12<=a0.length)=True:=eq_true (by omega);have y1:(12<=a1.length)=True:=eq_true (by omega);have z0:List.take 12 a0=a0:=AN (by omega);have z1:List.take 12 a1=a1:=AN (by omega);refine bp xQ.eq_1 ?_
  repeat' first
   |with_reducible first|refine au ?_|refine ar ?_|refine .pu (h103) hg rfl ?_|refine .pu (h103a) hg rfl ?_|refine ⟨?_,?_⟩|intro _
   |simp only [go_sem,seval,hdm,fh h,eC h,Ad,n0,n1,n2,n3,n4,n5,n6,n7,n8,n9,x0,x1,y0,y1,z0,z1,hal,gi,bb (show i<9223372036854775807 by omega)]
  all_goals first
   |(rw [<-hK];simp only [aN];done)
   |omega
   |exact htk.ti
   |skip
  ·exact skp _ _ (by unfold kR;rw [if_neg];rintro ⟨h1,h2,h3⟩;simp_all) (by repeat first|exact aI|rw [ax (by omega)]) (by repeat first|exact aI|rw [ax (by omega)]) (by omega)
  ·exact add _ _ (by unfold kR;rw [if_pos];exact ⟨by simp_all,hV.2 (by simp_all),by simp_all⟩) (by repeat first|exact aI|rw [ax (by omega)]) (by repeat first|exact aI|rw [ax (by omega)]) (by omega)
  ·exact skp _ _ (by unfold kR;rw [if_neg];rintro ⟨h1,h2,h3⟩;simp_all) (by repeat first|exact aI|rw [ax (by omega)]) (by repeat first|exact aI|rw [ax (by omega)]) (by omega)
  ·exact add _ _ (by unfold kR;rw [if_pos];exact ⟨by simp_all,hV.2 (by simp_all),by simp_all⟩) (by repeat first|exact aI|rw [ax (by omega)]) (by repeat first|exact aI|rw [ax (by omega)]) (by omega)
  ·exact skp _ _ (by unfold kR;rw [if_neg];rintro ⟨h1,h2,h3⟩;simp_all) (by repeat first|exact aI|rw [ax (by omega)]) (by repeat first|exact aI|rw [ax (by omega)]) (by omega)
  ·exact skp _ _ (by unfold kR;rw [if_neg];rintro ⟨h1,h2,h3⟩;simp_all) (by repeat first|exact aI|rw [ax (by omega)]) (by repeat first|exact aI|rw [ax (by omega)]) (by omega)
 ·refine bp xQ.eq_1 ?_
  repeat' first
   |with_reducible first|refine au ?_|refine ar ?_|refine ⟨?_,?_⟩|intro _
   |simp only [go_sem,seval,fD (Am h),Ad]
  rw [AE (Am h),List.filterMap_nil,AB] at hall;rw [<-hK];simp only [go_sem,seval];rw [<-hall];exact (Nm.sl (k:=9) (P9 out)).2.1
def ajb (hg:ae gl) (t:Tb) (x:Xp) (rows:List Rw) (ht:t.N) (hx:x.N) (hr:∀ r∈rows,r.N) (h: ¬(x.kd=5/\x.tb=t.name/\x.args.length=2)):
  Pure pg gl 63 [.agg t.l,.agg x.l,.sl 10 (rows.map Rw.dl) .ai] (.ok (.sl 9 [] .ai)):=by
 have hdn:∀ v∈rows.map Rw.dl,Nm v:=fun v hv=>by
  obtain ⟨r,h,rfl⟩:=Ai.1 hv;exact Rw.dnm (hr r h)
 refine .dc (Nm.cons (Tb.nm ht) (Nm.cons (Xp.nm hx) (Nm.cons (.sl hdn) Nm.nil))) (Nm.sl Nm.nil).1 ?_;refine .aC OC (by simp) (ab 60 ?_);generalize hK:bI [RV.t 6] _=Q;unfold Tb.l Xp.l;have hnn:(!true)=false:=rfl
 have hck:(x.kd !=5||(!x.tb==t.name||((x.args.length:Int) !=2)))=true:=by
  rw [Cn];simp
  by_cases h1:x.kd=5
  ·by_cases h2:x.tb=t.name
   ·exact .inr (.inr fun e=>h ⟨h1,h2,by omega⟩)
   ·exact .inr (.inl h2)
  ·exact .inl h1
 repeat' with_reducible first|refine au ?_|refine ar ?_|refine ⟨?_,?_⟩|intro _|simp only [go_sem,seval,hnn,hck]
 rw [<-hK];simp only [go_sem,seval];exact rfl
def af2:=(by conv=>lhs;reduce:dC [Ua,Ub,Uc] [] 0x6f8d9f7668c491337b950bbab42a9b679c13419=_)
abbrev m26:=rP (af2 (.bool false) (.int .i64 1) (.int .i64 1099511627776))
def Ym:aD pg 26 9 m26 [.t 2]:= .o2 Tryz.func26 (by kernel_rfl)
def c26 (s:Int) (h1:1<=s) (h2:s<=1099511627776):Pure pg gl 26 [.int .i64 s] (.ok (.bool true)):=by
 have d1:decide (s>=1)=true:=decide_eq_true h1;have d2:decide (s<=1099511627776)=true:=decide_eq_true h2;have d3:decide (1<=s)=true:=decide_eq_true h1;refine .dc (Nm.cons (.int _ _) Nm.nil) (.bool true) (.aC Ym (by simp) (ab 60 ?_))
 repeat' with_reducible first|refine au ?_|refine ar ?_|refine ⟨?_,?_⟩|intro _|simp only [go_sem,seval,d1,d2,d3]
 exact rfl
def Zc:=(by conv=>lhs;reduce:dC [Ua,Ub,Uc,Ud] [] 0x1c61a55c006ea7ccb24bf87e3c14d25f6cfc5fd1d352e7f116015ed7268bfd8640c3513bfee40e20cb1184f4e2a3cfebbc20cd5873f002e33bc30f98349422936855377171dc623eb44b=_)
def Ie:=rO (Zc (.str []) (.int .i64 0) (.sl 3 [] .exact) (.int .i64 1))
def WB:=(by conv=>lhs;reduce:dC [Ua] [] 0x26701290837c5cfaabed2eaddc4ec8b327f31c502e07bd16aefbf3a3b4be6ddacbe7ba7090897870b4c5b=_)
abbrev abG:=rP (WB (.int .i64 1099511627776))
def ald:=(by conv=>lhs;reduce:dC [Ua,Ub,Uc,Ud,Ue] [Ya,Yb] 0x2321999f7df419964bb9eddbd3517dda0fa6b198d91378db78d3da6502a03da92d23366295f7555962e070b2b4bbb692d00d373ca2d7777a6c8818f50ce044d19510343a=_)
abbrev m27:=rP (ald (.sl 6 [] .exact) (.str []) (.sl 4 [] .exact) (.int .i64 0) (.sl 10 [] .exact) Ie abG)
def Yo:aD pg 27 43 m27 [.t 8]:= .o2 Tryz.func27 (by kernel_rfl)
def c27 (hg:ae gl) (cat:List AV) (t:Tb) (x:Xp) (okb:Bool) (key:Bytes) (rows:List Rw) (picks:List Pk) (D:List Ce) (hc:∀ v∈cat,Nm v) (hc4:cat.length=4) (hcb:aE cat=false) (ht:t.N) (hx:x.N) (hr:∀ r∈rows,r.N) (hn:rows.length<=100000)
  (h38:Pure pg gl 38 [.agg cat,.str x.tb] (.ok (.aF [.agg t.l,.bool okb])))
  (h63:Pure pg gl 63 [.agg t.l,.agg x.l,.sl 10 ((rows.filter fun r=>r.key==key).map Rw.dl) .ai] (.ok (.sl 9 (picks.map Pk.av) .ai)))
  (h62:Pure pg gl 62 [.str x.op,.sl 9 (picks.map Pk.av) .ai,.str key,.int .i64 1099511627776] (.ok (.sl 6 ((aW D).map eg) .ai))):
  Pure pg gl 27 [.agg cat,.sl 8 (rows.map Rw.av) .ai,.agg x.l,.str key] (.ok (.sl 6 ((aW D).map eg) .ai)):=by
 have hrn:∀ v∈rows.map Rw.av,Nm v:=fun v hv=>by
  obtain ⟨r,h,rfl⟩:=Ai.1 hv;exact Rw.nm (hr r h)
 refine .dc (Nm.cons (.agg hc) (Nm.cons (.sl hrn) (Nm.cons (Xp.nm hx) (Nm.cons (.str _) Nm.nil)))) (Nm.sl (il _)).1 ?_;refine .aC Yo (by simp) (ab 60 ?_);generalize hK:bI [RV.t 8] _=Q;unfold Tb.l at h38;unfold Xp.l;have c1:(4<=cat.length)=True:=eq_true (by omega);have c2:List.take 4 cat=cat:=AN (by omega)
 repeat' with_reducible first|refine au ?_|refine ar ?_|refine .pu (h38) hg rfl ?_|refine ⟨?_,?_⟩|intro _|simp only [go_sem,seval,c1,c2,hcb]
 refine ao.mono (c60 (gl:=gl) rows key .ai 2 4 0 _ [] (.cons (.cons (.cons (.cons (.cons (.nil _) (by omega)) (by omega)) (by omega)) (by omega)) (by omega)) rfl hn) fun o S' ho=>?_;obtain ⟨N',nt',lv',tk,rfl,rfl,hN⟩:=ho;obtain ⟨rs,hrs⟩:∃ rs,rs=rows.filter fun r=>r.key==key:=⟨_,rfl⟩;rw [<-hrs] at h63 ⊢;have hrl:rs.length<=100000:=by rw [hrs];exact AH (Cr ..) hn
 repeat' with_reducible first|refine au ?_|refine ar ?_|refine ⟨?_,?_⟩|intro _|simp only [go_sem,seval]
 refine af.cz (ob':=[(3,[AV.str t.name,.str t.qg,.sl 4 t.fields .ai,.int .i64 t.cz]),(2,[.str key]),(1,[AV.int .i64 x.kd,.str x.op,.str x.s2,.str x.tb,.int .i64 x.n4,.int .i64 x.n5,.str x.s6,.sl 2 x.l7 .ai,.int .i64 x.n8,.int .i64 x.n9,.int .i64 x.pQ,.sl 12 x.args .ai])]) (live':=lv') ?_ (J0 rfl rfl rfl) (fun _ h=>h);refine .dA rs.length (fun i F S=>∃ out tk2,F=[(6,.ptr 1 0),(7,.ptr 2 0),(9,.ptr 3 0),(11,.sl 10 (out.map Rw.dl) tk2),(23,.sl 8 (rs.map Rw.av) tk),(24,.int .i64 (rs.length:Int)),(25,.int .i64 (i:Int))]/\(∃ N2 nt2 lv2,S=⟨N2,[(3,[AV.str t.name,.str t.qg,.sl 4 t.fields .ai,.int .i64 t.cz]),(2,[.str key]),(1,[AV.int .i64 x.kd,.str x.op,.str x.s2,.str x.tb,.int .i64 x.n4,.int .i64 x.n5,.str x.s6,.sl 2 x.l7 .ai,.int .i64 x.n8,.int .i64 x.n9,.int .i64 x.pQ,.sl 12 x.args .ai])],nt2,lv2,gl⟩/\4<=N2/\gI 0 nt2 lv2 tk2)/\out=rs.take i) ⟨[],.exact,rfl,⟨N',nt',lv',rfl,hN,.inl rfl⟩,rfl⟩ ?_;rintro i F S hi ⟨out,tk2,rfl,⟨N2,nt2,lv2,rfl,hN2,htk⟩,rfl⟩ ih
 by_cases h:i<rs.length
 ·obtain ⟨r,hri⟩:=aK h;have hrm:(rs.map Rw.av)[i]? =some (.agg [AV.str r.src,.int .i64 r.seq,.str r.table,.str r.key,.int .i64 r.event,.sl 3 r.fields .ai,.int .i64 r.no,.int .i64 r.tick]):=by rw [Ap,hri];rfl
  have n1:(N2=1)=False:=eq_false (by omega);have n2:(N2=2)=False:=eq_false (by omega);have n3:(N2=3)=False:=eq_false (by omega);have hol:(rs.take i).length<=i:=by rw [Av];omega
  refine bp Ie.eq_1 ?_
  repeat' first
   |with_reducible first|refine au ?_|refine ar ?_|refine ⟨?_,?_⟩|intro _
   |simp only [go_sem,seval,hrm,n1,n2,n3,fh h,eC h,gi,Ad,bb (show i<9223372036854775807 by omega)]
  ·exact htk.ti
  ·omega
  ·omega
  refine af.cz (live':=nt2::jN lv2 tk2) (ih h _ _ ⟨rs.take (i+1),.tok nt2,?_,⟨N2+1,nt2+1,_,rfl,by omega,.new _ _ _ (Au _)⟩,rfl⟩) (J0 (by repeat first|exact aI|rw [ax (by omega)]) (by repeat first|exact aI|rw [ax (by omega)]) (by repeat first|exact aI|rw [ax (by omega)])) (fun _ h=>h);rw [CC,hri,AP];rfl
 ·refine bp Ie.eq_1 ?_;rw [AN (by omega)];have h63:=h63.conv (as':=[.agg t.l,.agg x.l,.sl 10 (rs.map Rw.dl) tk2]) rfl;unfold Tb.l Xp.l at h63
  repeat' first
   |with_reducible first|refine au ?_|refine ar ?_|refine .pu (h63) hg rfl ?_|refine .pu (h62) hg rfl ?_|refine ⟨?_,?_⟩|intro _
   |simp only [go_sem,seval,fD (Am h),Ad]
  all_goals first
   |(rw [<-hK];simp only [aN];done)
   |skip
  rw [<-hK];simp only [go_sem,seval];exact (Nm.sl (k:=6) (il D)).2.1
def adv:=(by conv=>lhs;reduce:dC [Ua] [] 0x4bd2497eddc62b=_)
abbrev ajK:=rP (adv (.sl 6 [] .exact))
def aby:=(by conv=>lhs;reduce:dC [] [] 0x4a558788c9354ca73a15559c440ac6c35e4f8ca90c4a608185f98d7970274c92ba2ef159f73af99fcc3c=_)
abbrev ag8:=rP aby
def fm9:=(by conv=>lhs;reduce:dC [Ua,Ub,Uc] [Ya,Yb] 0x48d7997a5f16790cbc92cc396e7f63d98f4125cfde8c1adf1cc7c317202ff55856f8fed342b=_)
abbrev m9:=rP (fm9 (.sl 6 [] .exact) (.int .i64 5) (.bool true) ajK ag8)
def Xi:aD pg 9 28 m9 [.t 10]:= .o2 Tryz.func9 (by kernel_rfl)
def c9 (hg:ae gl) (cat:List AV) (x:Xp) (key:Bytes) (rows:List Rw) (D E:List Ce) (s:Int) (hc:∀ v∈cat,Nm v) (hc4:cat.length=4) (hcb:aE cat=false) (hx:x.N) (hr:∀ r∈rows,r.N) (h1:1<=s) (h2:s<=1099511627776) (hkd:x.kd=5)
  (h27:Pure pg gl 27 [.agg cat,.sl 8 (rows.map Rw.av) .ai,.agg x.l,.str key] (.ok (.sl 6 ((aW D).map eg) .ai))) (h11:Pure pg gl 11 [.str x.op,.sl 6 ((aW D).map eg) .ai,.int .i64 s] (.ok (.sl 6 ((aW E).map eg) .ai))):
  Pure pg gl 9 [.agg cat,.sl 8 (rows.map Rw.av) .ai,.agg x.l,.str key,.int .i64 s] (.ok (.sl 6 ((aW E).map eg) .ai)):=by
 have hrn:∀ v∈rows.map Rw.av,Nm v:=fun v hv=>by
  obtain ⟨r,h,rfl⟩:=Ai.1 hv;exact Rw.nm (hr r h)
 have h26:=c26 (gl:=gl) s h1 h2;refine .dc (Nm.cons (.agg hc) (Nm.cons (.sl hrn) (Nm.cons (Xp.nm hx) (Nm.cons (.str _) (Nm.cons (.int _ _) Nm.nil))))) (Nm.sl (il _)).1 ?_;refine .aC Xi (by simp) (ab 60 ?_);generalize hK:bI [RV.t 10] _=Q;unfold Xp.l at h27 ⊢;have c1:(4<=cat.length)=True:=eq_true (by omega);have c2:List.take 4 cat=cat:=AN (by omega);have hk5:(x.kd !=5)=false:=by rw [hkd];rfl
 have hnn:(!true)=false:=rfl;have hnt:(!false)=true:=rfl
 repeat' with_reducible first|refine au ?_|refine ar ?_|refine .pu (h26) hg rfl ?_|refine .pu (h27) hg rfl ?_|refine .pu (h11) hg rfl ?_|refine ⟨?_,?_⟩|intro _|simp only [go_sem,seval,c1,c2,hcb,hk5,hnn,hnt]
 all_goals first
  |(rw [<-hK];simp only [aN];done)
  |skip
 rw [<-hK];simp only [go_sem,seval];exact (Nm.sl (k:=6) (il E)).2.1
def c9n (hg:ae gl) (cat:List AV) (x:Xp) (key:Bytes) (rows:List Rw) (s:Int) (hc:∀ v∈cat,Nm v) (hx:x.N) (hr:∀ r∈rows,r.N) (hkd:x.kd≠5):
  Pure pg gl 9 [.agg cat,.sl 8 (rows.map Rw.av) .ai,.agg x.l,.str key,.int .i64 s] (.ok (.sl 6 [] .ai)):=by
 have hrn:∀ v∈rows.map Rw.av,Nm v:=fun v hv=>by
  obtain ⟨r,h,rfl⟩:=Ai.1 hv;exact Rw.nm (hr r h)
 refine .dc (Nm.cons (.agg hc) (Nm.cons (.sl hrn) (Nm.cons (Xp.nm hx) (Nm.cons (.str _) (Nm.cons (.int _ _) Nm.nil))))) (Nm.sl Nm.nil).1 ?_;refine .aC Xi (by simp) (ab 60 ?_);unfold Xp.l;have hk5:(x.kd !=5)=true:=by simpa using hkd
 repeat' with_reducible first|refine au ?_|refine ar ?_|refine ⟨?_,?_⟩|intro _|simp only [go_sem,seval,hk5]
 exact rfl
def c11 (hg:ae gl) (op:List UInt8) (I:aP->Prop) (J:aP->aP->aP) (hJ:Jn gl op I J) (D:List Ce) (s:Int) (hs:1<=s) (hs2:s<=4611686018427387904) (hev:∀ c∈D,0<=c.1/\c.1<=1099511627776) (hD:iC D) (hok:∀ c∈D,I c.2) (hsz:eE D<=1000000) (hn:D.length<=100000):
  Pure pg gl 11 [.str op,.sl 6 ((aW D).map eg) .ai,.int .i64 s] (.ok (.sl 6 ((aW (bK J s D)).map eg) .ai)):=by
 cases D with
 |nil=>exact Ih hg op s hs
 |cons c D=>exact adF hg op I J hJ c D s hs hs2 hev hD hok hsz (by simp at hn;omega)
def aac:=(by conv=>lhs;reduce:dC [Ua] [] 0x11f8889cd45064d=_)
abbrev acf:=rP (aac (.bool false))
def YW:=(by conv=>lhs;reduce:dC [Ua,Ub] [] 0x510940d27a5017d2839eba444708364e252411118ff418dbfa24f99df1158348d81bb6693803f3428d3af1629d103cf3c156d653ce52376e69b9c4d9ac321309d06f=_)
def Jt:=rO (YW (.bool false) (.int .i64 1))
def W8:=(by conv=>lhs;reduce:dC [Ua,Ub] [] 0x178352be6b88c52b57157af5fdcfdfc740e975a6a3f4d6559c86e189fb648cb206f7509fcb0efa538899fd0c7626669fb5a14ba4610d2a3fe4dd9b9fdabeca1fd0199=_)
def J2:=rO (W8 (.bool false) (.int .i64 1))
def VR:=(by conv=>lhs;reduce:dC [Ua] [] 0x187970b45=_)
abbrev adJ:=rP (VR (.bool true))
def XE:=(by conv=>lhs;reduce:dC [Ua] [Ya,Yb] 0x2159aabb2a02213e78d07=_)
abbrev acY:=rP (XE (.int .i64 0) J2 adJ)
def Wg:=(by conv=>lhs;reduce:dC [Ua] [Ya,Yb] 0x150eae5360df3b9a1dd06=_)
abbrev aca:=rP (Wg (.int .i64 0) Jt acY)
def akg:=(by conv=>lhs;reduce:dC [Ua,Ub] [Ya,Yb] 0x3eb83e891860fb7ffbdd096188502b46f2305b1b67dbf2402c6e880f0f1b2f9bbd41956db8d14efefa92c3747bdd56442e613501d37cf13a51bc3c4dbdc9a097d8dfc4896bf52e653fc41eb2130f18bd26ad189a42744d=_)
abbrev m28:=rP (akg (.bool false) (.bool true) acf aca)
def XP:aD pg 28 73 m28 [.t 4]:= .o2 Tryz.func28 (by kernel_rfl)
def c28 (s:aP) (h1:s.cG.length<=1000000) (h2:s.fQ.length<=1000000):Pure pg gl 28 [.agg s.l,.agg s.l] (.ok (.bool true)):=by
 refine .dc (Nm.cons s.nm (Nm.cons s.nm Nm.nil)) (.bool true) (.aC XP (by simp) (ab 60 ?_));generalize hK:bI [RV.t 4] _=Q;unfold aP.l;have e1:∀ z:Int,(z !=z)=false:=fun z=>by simp
 have e2:∀ z:Int,(z==z)=true:=fun z=>by simp
 have e3:∀ z:Bytes,(z==z)=true:=fun z=>by simp
 have e4:(!true)=false:=rfl
 repeat' with_reducible first|refine au ?_|refine ar ?_|refine ⟨?_,?_⟩|intro _|simp only [go_sem,seval,e1,e2,e3,e4,Ad]
 refine .dA s.cG.length (fun i F S=>F=[(2,.ptr 0 0),(3,.ptr 1 0),(5,.int .i64 (i:Int))]/\S=⟨2,[(1,[.int .i64 s.n,.int .i64 s.hi,.int .u64 s.lo,.sl 6 (s.cG.map It.av) .ai,.sl 2 (s.fQ.map iH) .ai]),(0,[.int .i64 s.n,.int .i64 s.hi,.int .u64 s.lo,.sl 6 (s.cG.map It.av) .ai,.sl 2 (s.fQ.map iH) .ai])],0,[],gl⟩) ⟨rfl,rfl⟩ ?_;rintro i F S hi ⟨rfl,rfl⟩ ih
 by_cases h:i<s.cG.length
 ·obtain ⟨x,hx⟩:=aK h;have hxm:(s.cG.map It.av)[i]? =some (.agg [.int .i64 x.v.kd,.int .i64 x.v.n,.str x.v.s,.str x.src,.int .i64 x.seq,.int .i64 x.n]):=by rw [Ap,hx];rfl
  refine bp Jt.eq_1 ?_
  repeat' first
   |with_reducible first|refine au ?_|refine ar ?_|refine ⟨?_,?_⟩|intro _
   |simp only [go_sem,seval,hxm,e1,e2,e3,e4,fh h,eC h,Ad,bb (show i<9223372036854775807 by omega),BU]
  all_goals first
   |(rw [<-hK];simp only [aN];done)
   |skip
  exact ih h _ _ ⟨rfl,rfl⟩
 ·refine bp Jt.eq_1 ?_
  repeat' first
   |with_reducible first|refine au ?_|refine ar ?_|refine ⟨?_,?_⟩|intro _
   |simp only [go_sem,seval,fD (Am h),Ad]
  refine .dA s.fQ.length (fun i F S=>F=[(2,.ptr 0 0),(3,.ptr 1 0),(6,.int .i64 (i:Int))]/\S=⟨2,[(1,[.int .i64 s.n,.int .i64 s.hi,.int .u64 s.lo,.sl 6 (s.cG.map It.av) .ai,.sl 2 (s.fQ.map iH) .ai]),(0,[.int .i64 s.n,.int .i64 s.hi,.int .u64 s.lo,.sl 6 (s.cG.map It.av) .ai,.sl 2 (s.fQ.map iH) .ai])],0,[],gl⟩) ⟨rfl,rfl⟩ ?_;rintro j F S hj ⟨rfl,rfl⟩ ih2
  by_cases h3:j<s.fQ.length
  ·obtain ⟨x,hx⟩:=aK h3;have hxm:(s.fQ.map iH)[j]? =some (.agg [.int .i64 x.1,.int .i64 x.2]):=by rw [Ap,hx];rfl
   refine bp J2.eq_1 ?_
   repeat' first
    |with_reducible first|refine au ?_|refine ar ?_|refine ⟨?_,?_⟩|intro _
    |simp only [go_sem,seval,hxm,e1,e2,e3,e4,fh h3,eC h3,Ad,bb (show j<9223372036854775807 by omega),BU]
   all_goals first
    |(rw [<-hK];simp only [aN];done)
    |skip
   exact ih2 h3 _ _ ⟨rfl,rfl⟩
  ·refine bp J2.eq_1 ?_
   repeat' first
    |with_reducible first|refine au ?_|refine ar ?_|refine ⟨?_,?_⟩|intro _
    |simp only [go_sem,seval,fD (Am h3),Ad]
   rw [<-hK];simp only [go_sem,seval];exact rfl
def abg:=(by conv=>lhs;reduce:dC [Ua] [] 0x1727ef0bef6265a=_)
abbrev ac7:=rP (abg (.bool false))
def ZT:=(by conv=>lhs;reduce:dC [Ua] [] 0x4dceb1238774487d29=_)
abbrev adl:=rP (ZT (.int .i64 1))
def VT:=(by conv=>lhs;reduce:dC [Ua] [Ya,Yb] 0x7d9777a6b3e461cacf7b5aa07c1ad36cbdbb9914bde5b1234829e61e0611f0e6c695e6595940e0d6eb5ae07bd9d91ec35d11c6157748602e3e9354b95a38467a3587456e42fdb2183be913bee324347358a727a6bc27d05a=_)
def Iw:=rO (VT (.bool true) ac7 adl)
def aaU:=(by conv=>lhs;reduce:dC [Ua] [] 0x187970b45=_)
abbrev abJ:=rP (aaU (.bool true))
def akF:=(by conv=>lhs;reduce:dC [Ua,Ub] [Ya,Yb] 0x6a2244a340118377fec2024bbbf5cc8296e33b45b8148eaf953f63eeb41b=_)
abbrev m10:=rP (akF (.bool false) (.int .i64 0) Iw abJ)
def YM:aD pg 10 42 m10 [.t 4]:= .o2 Tryz.func10 (by kernel_rfl)
def c10 (hg:ae gl) (D:List Ce) (h1:D.length<=1000000) (h2:∀ c∈D,sz c.2<=1000000):Pure pg gl 10 [.sl 6 ((aW D).map eg) .ai,.sl 6 ((aW D).map eg) .ai] (.ok (.bool true)):=by
 refine .dc (Nm.cons (.sl (il D)) (Nm.cons (.sl (il D)) Nm.nil)) (.bool true) (.aC YM (by simp) (ab 60 ?_));generalize hK:bI [RV.t 4] _=Q;have e1:∀ z:Int,(z !=z)=false:=fun z=>by simp
 have e4:(!true)=false:=rfl;obtain ⟨X,hX⟩:∃ X,X=(aW D).map eg:=⟨_,rfl⟩;have hXl:X.length=D.length:=by rw [hX];unfold aW;rw [Ad,Ad]
 rw [<-hX]
 repeat' with_reducible first|refine au ?_|refine ar ?_|refine ⟨?_,?_⟩|intro _|simp only [go_sem,seval,e1]
 refine .dA X.length (fun i F S=>F=[(0,.sl 6 X .ai),(1,.sl 6 X .ai),(5,.int .i64 (i:Int))]/\S= .none gl) ⟨rfl,rfl⟩ ?_;rintro i F S hi ⟨rfl,rfl⟩ ih
 by_cases h:i<X.length
 ·obtain ⟨c,hc⟩:∃ c,D[i]? =some c:=aK (by omega);have hxm:X[i]? =some (.agg (.int .i64 c.1::c.2.l)):=by rw [hX,Ap,jh,hc];rfl
  have hcm:=h2 c (Aj hc);unfold sz at hcm;have h28:=c28 (gl:=gl) c.2 (by omega) (by omega);have hX5:(5<=c.2.l.length)=True:=eq_true (Af 5);have hXt:List.take 5 c.2.l=c.2.l:=rfl;refine bp Iw.eq_1 ?_
  repeat' first
   |with_reducible first|refine au ?_|refine ar ?_|refine .pu (h28) hg rfl ?_|refine ⟨?_,?_⟩|intro _
   |simp only [go_sem,seval,hxm,e1,e4,hX5,hXt,fh h,eC h,bb (show i<9223372036854775807 by omega)]
  all_goals first
   |(rw [<-hK];simp only [aN];done)
   |skip
  exact ih h _ _ ⟨rfl,rfl⟩
 ·refine bp Iw.eq_1 ?_
  repeat' first
   |with_reducible first|refine au ?_|refine ar ?_|refine ⟨?_,?_⟩|intro _
   |simp only [go_sem,seval,fD (Am h)]
  rw [<-hK];simp only [go_sem,seval];exact rfl
def oR (D:List Ce):Int:=D.foldl (fun n c=>IntKind.i64.wrap (n+c.2.n)) 0
def Yw:=(by conv=>lhs;reduce:dC [Ua] [] 0x7136890cf20cec620f1018ef195beca312bd74b5f9ebf618df0ce8639bce05f0e3f0fce99d02b=_)
def Jo:=rO (Yw (.int .i64 1))
def aa9:=(by conv=>lhs;reduce:dC [] [] 0x85d72744df42c=_)
abbrev adK:=rP aa9
def alv:=(by conv=>lhs;reduce:dC [Ua] [Ya,Yb] 0x137afdc714f5418d5acb1abb56d345=_)
abbrev m12:=rP (alv (.int .i64 0) Jo adK)
def afX:aD pg 12 20 m12 [.t 2]:= .o2 Tryz.func12 (by kernel_rfl)
def Wy (hg:ae gl) (D:List Ce) (h1:D.length<=1000000):Pure pg gl 12 [.sl 6 ((aW D).map eg) .ai] (.ok (.int .i64 (oR D))):=by
 refine .dc (Nm.cons (.sl (il D)) Nm.nil) (.int _ _) (.aC afX (by simp) (ab 60 ?_));generalize hK:bI [RV.t 2] _=Q;obtain ⟨X,hX⟩:∃ X,X=(aW D).map eg:=⟨_,rfl⟩;have hXl:X.length=D.length:=by rw [hX];unfold aW;rw [Ad,Ad]
 rw [<-hX]
 repeat' with_reducible first|refine au ?_|refine ar ?_|refine ⟨?_,?_⟩|intro _|simp only [go_sem,seval]
 refine .dA X.length (fun i F S=>∃ n,F=[(0,.sl 6 X .ai),(3,.int .i64 n),(4,.int .i64 (i:Int))]/\S= .none gl/\(D.drop i).foldl (fun n c=>IntKind.i64.wrap (n+c.2.n)) n=oR D) ⟨0,rfl,rfl,rfl⟩ ?_;rintro i F S hi ⟨n,rfl,rfl,he⟩ ih
 by_cases h:i<X.length
 ·obtain ⟨c,hc⟩:∃ c,D[i]? =some c:=aK (by omega);rw [bY hc,List.foldl_cons] at he;have hxm:X[i]? =some (.agg (.int .i64 c.1::c.2.l)):=by rw [hX,Ap,jh,hc];rfl
  have hX0:c.2.l[0]? =some (.int .i64 c.2.n):=rfl;have hX1:(AV.int .i64 c.1::c.2.l)[1]? =some (.int .i64 c.2.n):=rfl;refine bp Jo.eq_1 ?_
  repeat' first
   |with_reducible first|refine au ?_|refine ar ?_|refine ⟨?_,?_⟩|intro _
   |simp only [go_sem,seval,hxm,hX0,hX1,fh h,eC h,bb (show i<9223372036854775807 by omega)]
  exact ih h _ _ ⟨_,rfl,rfl,he⟩
 ·refine bp Jo.eq_1 ?_
  repeat' first
   |with_reducible first|refine au ?_|refine ar ?_|refine ⟨?_,?_⟩|intro _
   |simp only [go_sem,seval,fD (Am h)]
  rw [AE (by omega)] at he;rw [<-hK,<-he];simp only [go_sem,seval];exact rfl
def aga (hg:ae gl) (op:List UInt8) (hf:iJ op=none) (ps:List Pk) (t:bD) (N nt:Nat) (ob:List (Nat×List AV)) (lv:List Nat):
  ao pg 99 [.str op,.sl 6 [] .exact,.sl 9 (ps.map Pk.av) t] ⟨N,ob,nt,lv,gl⟩ fun o S'=>o= .ok (.sl 6 [] .exact):=by
 have h138:=YE (gl:=gl) hg op;rw [hf] at h138;refine .aC We (by simp) (ab 60 ?_)
 repeat' with_reducible first|refine au ?_|refine ar ?_|refine .pu (h138) hg rfl ?_|refine ⟨?_,?_⟩|intro _|simp only [go_sem,seval,Option.isSome_none]
def aj6 (hg:ae gl) (op:List UInt8) (hf:iJ op=none) (ps:List Pk) (key:Bytes) (tick:Int) (hn:ps.length<=100000) (hk:∀ p∈ps,p.key=key/\p.tick<=tick):
  Pure pg gl 62 [.str op,.sl 9 (ps.map Pk.av) .ai,.str key,.int .i64 tick] (.ok (.sl 6 [] .ai)):=by
 refine .dc (Nm.cons (.str _) (Nm.cons (.sl (P9 ps)) (Nm.cons (.str _) (Nm.cons (.int _ _) Nm.nil)))) Oj.1 ?_;refine .aC NJ (by simp) (ab 60 ?_);generalize hK:bI _ _=Q;have h100:=fun t nt lv=>Zx (gl:=gl) [.ptr 0 0,.ptr 1 0] ps t 2 nt [(1,[.int .i64 tick]),(0,[.str key])] lv (by omega) fun N' nt' hN x hx=>X0 hg x key tick 0 1 N' nt' _ lv (.cons (.cons (.nil _) (by omega)) (by omega)) rfl rfl (hk x hx).1 (hk x hx).2;have h99:=fun t N nt lv=>aga (gl:=gl) hg op hf ps t N nt [(1,[.int .i64 tick]),(0,[.str key])] lv;rcases ps with _|⟨x,xs⟩
 ·have h101:Pure pg gl 101 [.sl 9 [] .ai] (.ok (.sl 9 [] .exact)):=L6;rw [Az] at h100 h99;rw [Az]
  repeat' with_reducible first|refine au ?_|refine ar ?_|refine .pu (h101) hg rfl ?_|refine aS.calm (h100 _ _ _) fun _ _ _=>?_|refine bE.calm (h100 _ _ _) (fun _ _ _=>by first|exact (fun h=>nomatch h)|(first|exact of_eq_true bj|simp only [cR,cy,eT,bj,and_self])) fun _ _ _=>?_|refine ⟨?_,?_⟩|intro _|simp only [go_sem,seval]
  refine ao.mono (h99 _ _ _ _) fun o S' ho=>?_;subst ho
  repeat' with_reducible first|refine au ?_|refine ar ?_|refine ⟨?_,?_⟩|intro _|simp only [go_sem,seval]
  rw [<-hK];simp only [go_sem,seval];exact rfl
 ·have h101:=t101 (gl:=gl) x xs (by simp at hn;omega) 2 0 [(1,[.int .i64 tick]),(0,[.str key])] [];obtain ⟨X,hX⟩:∃ X,X=(x::xs).map Pk.av:=⟨_,rfl⟩;rw [<-hX] at h100 h99 h101 ⊢
  repeat' with_reducible first|refine au ?_|refine ar ?_|refine aS.fV (h101) ?_|refine aS.calm (h100 _ _ _) fun _ _ _=>?_|refine bE.calm (h100 _ _ _) (fun _ _ _=>by first|exact (fun h=>nomatch h)|(first|exact of_eq_true bj|simp only [cR,cy,eT,bj,and_self])) fun _ _ _=>?_|refine ⟨?_,?_⟩|intro _|simp only [go_sem,seval]
  refine ao.mono (h99 _ _ _ _) fun o S' ho=>?_;subst ho
  repeat' with_reducible first|refine au ?_|refine ar ?_|refine ⟨?_,?_⟩|intro _|simp only [go_sem,seval]
  rw [<-hK];simp only [go_sem,seval];exact rfl
def Xk {s e:Int} (hs:0<s) (he:0<=e):0<=cq s e/\cq s e<=e:=by
 unfold cq;have h0:=Bv e (show s≠0 by omega);have h7:=Bt e s;have h8:0<=e/s:=Bw he (by omega);have h9:0<=s*(e/s):=Bx (by omega) h8;omega
def Zy {s y e:Int} (hs:0<s):(cq s y<=e/\e<cq s y+s)↔cq s y=cq s e:=by
 unfold cq;have a1:=Bt y s;have a2:=Bt e s;have b1:=Bv e (show s≠0 by omega);have b2:=BR e hs;constructor
 ·rintro ⟨h1,h2⟩
  have h3:y/s=e/s:=by
   rcases Int.lt_trichotomy (y/s) (e/s) with h|h|h
   ·have:s*(y/s+1)<=s*(e/s):=Cf (by omega) (by omega);rw [Int.mul_add,Int.mul_one] at this;omega
   ·exact h
   ·have:s*(e/s+1)<=s*(y/s):=Cf (by omega) (by omega);rw [Int.mul_add,Int.mul_one] at this;omega
  rw [h3] at a1;omega
 ·intro h;omega
def rk {P:Ce->Prop} {J:aP->aP->aP} (hJ:∀ e a b,P (e,a)->(∃ e',P (e',b))->P (e,J a b)):∀ (r:List Ce) (c:Ce),P c->(∀ x∈r,P x)->∀ x∈bN J c r,P x
 |[],c,hc,_,x,hx=>by rw [Ax.1 hx];exact hc
 |d::r,c,hc,hr,x,hx=>by
  unfold bN at hx;have hd:=hr d (by simp);have hr':∀ y∈r,P y:=fun y hy=>hr y (by simp [hy]);split at hx
  ·exact rk hJ r _ (hJ _ _ _ hc ⟨d.1,hd⟩) hr' x hx
  ·rcases Ab.1 hx with rfl|hx
   ·exact hc
   ·exact rk hJ r d hd hr' x hx
def ru {J:aP->aP->aP} (hJ:∀ a b,sz (J a b)<=sz a+sz b):∀ (r:List Ce) (c:Ce),eE (bN J c r)<=eE (c::r)/\(bN J c r).length<=r.length+1
 |[],c=>⟨Af _,Af _⟩
 |d::r,c=>by
  unfold bN;split
  ·have ih:=ru hJ r (c.1,J c.2 d.2);have:=hJ c.2 d.2;simp only [gY] at ih ⊢;refine ⟨?_,?_⟩
   ·have h1:sz (c.1,J c.2 d.2).2=sz (J c.2 d.2):=rfl;omega
   ·simp only [List.length_cons];omega
  ·have ih:=ru hJ r d;simp only [gY,List.length_cons] at ih ⊢;omega
def rj {I:aP->Prop} {J:aP->aP->aP} (hI:∀ a b,I a->I b->I (J a b)) (hz:∀ a b,sz (J a b)<=sz a+sz b) {s:Int} (hs:1<=s) {D:List Ce} (hA:iC D) (hev:∀ c∈D,0<=c.1/\c.1<=1099511627776) (hi:∀ c∈D,I c.2):
  iC (bK J s D)/\fW (bK J s D)/\(∀ c∈bK J s D,0<=c.1/\c.1<=1099511627776)/\(∀ c∈bK J s D,I c.2)/\eE (bK J s D)<=eE D/\(bK J s D).length<=D.length:=by
 have h1:=uR J (s:=s) (by omega) hA
 have hasc:∀ {C:List Ce},fW C->iC C:=fun {C}=>by
  induction C with
  |nil=>exact fun h=>h
  |cons a D ih=>
   cases D with
   |nil=>exact fun h=>trivial
   |cons b D=>exact fun h=>⟨Bo h.1,ih h.2⟩
 refine ⟨hasc h1,h1,fun c hc=>?_,?_,?_⟩
 ·obtain ⟨x,hx,he⟩:=(mC J s c.1 D).1 ⟨c,hc,rfl⟩;have h2:=hev x hx;have h3:=Xk (s:=s) (by omega) h2.1;rw [<-he];omega
 ·unfold bK bJ
  cases D with
  |nil=>exact fun c hc=>nomatch hc
  |cons c D=>
   refine rk (P:=fun c=>I c.2) (fun e a b ha hb=>hI a b ha hb.choose_spec) _ _ (hi c (by simp)) fun x hx=>?_;obtain ⟨d,hd,rfl⟩:=Ai.1 hx;exact hi d (by simp [hd])
 ·have hszf:∀ D:List Ce,eE (bJ s D)=eE D:=fun D=>by
   unfold eE bJ;rw [AY];rfl
  unfold bK;rw [<-hszf D]
  cases D with
  |nil=>exact ⟨Af _,Af _⟩
  |cons c D=>
   have:=ru hz (bJ s D) (cq s c.1,c.2);refine ⟨this.1,?_⟩;have h2:=this.2;unfold bJ at h2;rw [Ad] at h2;exact h2
def vL (s e:Int) (n:Int) (c:Ce):Int:=if c.1<=e/\e<c.1+s then IntKind.i64.wrap (n+1) else n
def EF {s e v:Int}:∀ {C:List Ce} (n:Int),fW C->(∀ c∈C,(c.1<=e/\e<c.1+s)↔c.1=v)->C.foldl (vL s e) n=if ∃ c∈C,c.1=v then IntKind.i64.wrap (n+1) else n
 |[],n,_,_=>by simp
 |c::C,n,hS,h=>by
  have hc:=h c (by simp);have hC:∀ d∈C,(d.1<=e/\e<d.1+s)↔d.1=v:=fun d hd=>h d (by simp [hd]);rw [List.foldl_cons,EF _ hS.tail hC];unfold vL
  by_cases hv:c.1=v
  ·have hn: ¬∃ d∈C,d.1=v:=by
    rintro ⟨d,hd,hdv⟩;obtain ⟨i,hi⟩:=Bm hd;have:=fW.lt hS hi;omega
   rw [if_neg hn,if_pos (hc.2 hv),if_pos ⟨c,by simp,hv⟩]
  ·rw [if_neg fun h2=>hv (hc.1 h2)]
   by_cases hn:∃ d∈C,d.1=v
   ·obtain ⟨d,hd,hdv⟩:=hn;rw [if_pos ⟨d,hd,hdv⟩,if_pos ⟨d,by simp [hd],hdv⟩]
   ·rw [if_neg hn,if_neg];rintro ⟨d,hd,hdv⟩;rcases Ab.1 hd with rfl|hd
    ·exact hv hdv
    ·exact hn ⟨d,hd,hdv⟩
def Q9 (J:aP->aP->aP) {s:Int} (hs:1<=s) {D:List Ce} (hA:iC D) {c:Ce} (hc:c∈bK J 1 D):(bK J s D).foldl (vL s c.1) 0=1:=by
 obtain ⟨x,hx,he⟩:=(mC J 1 c.1 D).1 ⟨c,hc,rfl⟩;have h1:cq 1 x.1=x.1:=by unfold cq;omega
 rw [<-he,h1];rw [EF (v:=cq s x.1) 0 (uR J (by omega) hA) fun d hd=>?_]
 ·obtain ⟨y,hy,hye⟩:=(mC J s (cq s x.1) D).2 ⟨x,hx,rfl⟩;rw [if_pos ⟨y,hy,hye⟩];rfl
 ·obtain ⟨y,hy,hye⟩:=(mC J s d.1 D).1 ⟨d,hd,rfl⟩;rw [<-hye];exact Zy (by omega)
def vi {J:aP->aP->aP} (hn:∀ a b,(J a b).n=IntKind.i64.wrap (a.n+b.n)) (s:Int) (D:List Ce):(bK J s D).foldl (fun n c=>IntKind.i64.wrap (n+c.2.n)) 0=D.foldl (fun n c=>IntKind.i64.wrap (n+c.2.n)) 0:=
 OI (fun c:aP=>c.n) (fun a b=>by
  show IntKind.i64.wrap (J a b).n=_
  rw [hn,Dc]) s D 0
structure yJ (gl:List (Nat×List AV)) (cat:List AV) (x:Xp) (rows:List Rw) (key:Bytes) (D:List Ce) (I:aP->Prop) (J:aP->aP->aP):Prop where
 ji:iC D
 ev:∀ c∈D,0<=c.1/\c.1<=1099511627776
 iv:∀ c∈D,I c.2
 eE:eE D<=1000000
 len:D.length<=100000
 jn:D≠[]->Jn gl x.op I J
 assoc:∀ a b c,I a->I b->I c->J (J a b) c=J a (J b c)
 cl:∀ a b,I a->I b->I (J a b)
 size:∀ a b,sz (J a b)<=sz a+sz b
 n:∀ a b,(J a b).n=IntKind.i64.wrap (a.n+b.n)
 call:∀ s,1<=s->s<=1099511627776->Pure pg gl 9 [.agg cat,.sl 8 (rows.map Rw.av) .ai,.agg x.l,.str key,.int .i64 s] (.ok (.sl 6 ((aW (bK J s D)).map eg) .ai))
def yJ.merge (hg:ae gl) {cat:List AV} {x:Xp} {rows:List Rw} {key:Bytes} {D:List Ce} {I:aP->Prop} {J:aP->aP->aP} (h:yJ gl cat x rows key D I J) {s f:Int} (hs:1<=s/\s<=1048576) (hf:1<=f/\f<=1048576):
  Pure pg gl 11 [.str x.op,.sl 6 ((aW (bK J s D)).map eg) .ai,.int .i64 (s*f)] (.ok (.sl 6 ((aW (bK J (s*f) D)).map eg) .ai)):=by
 have h1:1<=s*f:=by
  have:=Cp hs.1 hf.1 (by omega) (by omega);omega
 have h2:s*f<=1048576*1048576:=Cp hs.2 hf.2 (by omega) (by omega);have hn:=zU (j:=J) (I:=I) h.cl h.assoc (s:=s) (f:=f) (by omega) (by omega) D h.iv;obtain ⟨m1,m2,m3,m4,m5,m6⟩:=rj h.cl h.size hs.1 h.ji h.ev h.iv;have h3:=h.eE;have h4:=h.len
 by_cases hD:D=[]
 ·subst hD;exact Ih hg x.op (s*f) h1
 ·have:=c11 hg x.op I J (h.jn hD) (bK J s D) (s*f) h1 (by omega) m3 m1 m4 (by omega) (by omega);rw [hn] at this;exact this
def abA:=(by conv=>lhs;reduce:dC [Ua] [] 0x1f84939c3948669=_)
abbrev aiz:=rP (abA (.bool true))
def adg:=(by conv=>lhs;reduce:dC [Ua] [] 0x205287cbaa04a363e35791fb36e708c66628d=_)
abbrev ahM:=rP (adg (.int .i64 1))
def aek:=(by conv=>lhs;reduce:dC [Ua] [] 0x5498f275f0db48c9448589fed6fd1d9=_)
abbrev afK:=rP (aek (.int .i64 1))
def aes:=(by conv=>lhs;reduce:dC [Ua] [Ya,Yb] 0x43f28a8ff895cbb03e774cb8b7c2142cfb5338bca3f4fba0c2340b8a6f63f9fb91dca56e6ed61f7d877169e08fc61696b43a7c16cfbd4d165ae986a1733cf91f0628c90d5d3bdbb353f6fc917ca198dabf4b72d540f56e25ede701d875c264fb90abd028b=_)
def NA:=rO (aes (.bool false) ahM afK)
def adj:=(by conv=>lhs;reduce:dC [Ua,Ub] [] 0x990eb8da6eb79893726d10b8f11eacf83a7428f=_)
abbrev ais:=rP (adj (.int .i64 1) (.bool false))
def ac2:=(by conv=>lhs;reduce:dC [Ua] [] 0x14aff217957fce1dd6d84ddd1cb=_)
abbrev akK:=rP (ac2 (.int .i64 1))
def aei:=(by conv=>lhs;reduce:dC [Ua] [Ya,Yb,Yc] 0xd06b16ced7f1d290082910d45b7a2a1098e20dcb8500c4e300e4afa19ec012216589d01c9=_)
def OF:=rO (aei (.int .i64 0) NA ais akK)
def aeD:=(by conv=>lhs;reduce:dC [Ua] [] 0xf6b2554f933e098a30068ca67d50edfe2df89f331b5ae28a322d2671999c9a64cb1d81f42ab=_)
abbrev akQ:=rP (aeD (.bool false))
def aep:=(by conv=>lhs;reduce:dC [Ua,Ub,Uc,Ud,Ue,Uf,Ug,Uh,Ui] [Ya,Yb] 0x16868883fe8dce597d901fe114011a3f8cb6e4cf2e135b03faafcd734b67faf5427fb7423e55e814dd3b084d9ac108b6b5702b0ce92e6d94668a008d99a40db2d71272712a9d906c2ba736ca5bcc693072120c09fdb612901801257cf5949470f0b43c12ea81c3739e303345c129289e14fb01bd0b9bf350204112b445243b5b65095768c57c7f907c3bea46326f480057616479d44308020e4abdce7963d80f12acea2cc54b9614b4f20e66adbb29330d01d464f3ab4b928509e0c2d933e45579c4389d0ce341bd=_)
abbrev agd:=rP (aep (.int .i64 0) (.str []) (.sl 2 [] .exact) (.sl 12 [] .exact) (.bool true) (.sl 4 [] .exact) (.sl 18 [] .exact) (.bool false) (.int .i64 1) OF akQ)
def fm3:=(by conv=>lhs;reduce:dC [Ua,Ub,Uc,Ud,Ue] [Ya,Yb] 0x1d9833b417f92a06ece58c4576723e73377c72ca2b75848e11125359b93b6b5bfcf1afbd9c9ac416084076c7f2c1251ad108795e96a3dd713db395e138fedc6af1d2825b80b7be99937dd17a1ae75c65fbac412c0c00d1ab469=_)
abbrev m3:=rP (fm3 (.bool false) (.int .i64 100) (.bool true) (.int .i64 1) (.int .i64 1048576) aiz agd)
def is3:aD pg 3 147 m3 [.t 12]:= .o2 Tryz.func3 (by kernel_rfl)
def c3 (hg:ae gl) (lA:AV) (tick n size factor:Int) (key:Bytes) (b5:Bool) (hl:Nm lA) (h4:Pure pg gl 4 [] (.ok (.bool true))) (h5:Pure pg gl 5 [lA] (.ok (.bool b5)))
  (h:b5=true->key.length<=100->∃ (x:Xp) (b6:Bool),x.N/\Pure pg gl 6 [lA,.int .i64 tick,.int .i64 n] (.ok (.aF [.agg x.l,.bool b6]))/\(b6=true->∃ (cat:List AV) (rows:List Rw) (D:List Ce) (I:aP->Prop) (J:aP->aP->aP),cat.length=4/\aE cat=false/\Pure pg gl 7 [lA,.int .i64 tick] (.ok (.agg cat))/\Pure pg gl 8 [lA,.int .i64 tick] (.ok (.sl 8 (rows.map Rw.av) .ai))/\yJ gl cat x rows key D I J)):
  Pure pg gl 3 [lA,.int .i64 tick,.int .i64 n,.str key,.int .i64 size,.int .i64 factor] (.ok (.bool true)):=by
 refine .dc (Nm.cons hl (Nm.cons (.int _ _) (Nm.cons (.int _ _) (Nm.cons (.str _) (Nm.cons (.int _ _) (Nm.cons (.int _ _) Nm.nil)))))) (.bool true) ?_;refine .aC is3 (by simp) (ab 60 ?_);generalize hK:bI [RV.t 12] _=Q;have nt:(!true)=false:=rfl;have nf:(!false)=true:=rfl
 by_cases hc:b5=true/\key.length<=100/\1<=size/\size<=1048576/\1<=factor/\factor<=1048576
 ·obtain ⟨rfl,hk,hs1,hs2,hf1,hf2⟩:=hc;obtain ⟨x,b6,hx,h6,hr⟩:=h rfl hk;have d1:decide ((key.length:Int)>100)=false:=decide_eq_false (by omega);have d2:decide (size<1)=false:=decide_eq_false (by omega);have d3:decide (size>1048576)=false:=decide_eq_false (by omega);have d4:decide (factor<1)=false:=decide_eq_false (by omega);have d5:decide (factor>1048576)=false:=decide_eq_false (by omega);have d1':decide (100<(key.length:Int))=false:=decide_eq_false (by omega);have d3':decide (1048576<size)=false:=decide_eq_false (by omega);have d5':decide (1048576<factor)=false:=decide_eq_false (by omega);unfold Xp.l at h6
  cases b6 with
  |false=>
   repeat' with_reducible first|refine au ?_|refine ar ?_|refine .pu (h4) hg rfl ?_|refine .pu (h5) hg rfl ?_|refine .pu (h6) hg rfl ?_|refine ⟨?_,?_⟩|intro _|simp only [go_sem,seval,nt,nf,d1,d2,d3,d4,d5,d1',d3',d5']
   rw [<-hK];simp only [go_sem,seval];exact rfl
  |true=>
   obtain ⟨cat,rows,D,I,J,hc4,hcb,h7,h8,hC⟩:=hr rfl;have c1:(cat.length==4)=true:=by rw [hc4];rfl
   have c2:List.drop cat.length [AV.sl 4 [] .exact,.sl 18 [] .exact,.sl 18 [] .exact,.sl 18 [] .exact]=[]:=AE (by rw [hc4];decide);have c3:(4<=cat.length)=True:=eq_true (by omega);have c4:List.take 4 cat=cat:=AN (by omega)
   have m1:1<=size*factor:=by
    have:=Cp hs1 hf1 (by omega) (by omega);omega
   have m2:size*factor<=1048576*1048576:=Cp hs2 hf2 (by omega) (by omega);have mw:IntKind.i64.wrap (size*factor)=size*factor:=by rw [IntKind.wrap_i64];omega
   have k1:=hC.call size hs1 (by omega);have k2:=hC.call (size*factor) m1 (by omega);have k3:=hC.call 1 (by omega) (by omega);have k4:=hC.merge hg ⟨hs1,hs2⟩ ⟨hf1,hf2⟩;have hSz:=hC.eE;have hLen:=hC.len;have o1:=rj hC.cl hC.size hs1 hC.ji hC.ev hC.iv;have o2:=rj hC.cl hC.size m1 hC.ji hC.ev hC.iv;have o3:=rj hC.cl hC.size (s:=1) (by omega) hC.ji hC.ev hC.iv
   have hsz:∀ (C:List Ce) c,c∈C->sz c.2<=Go.Proofs.YtoopnalhhfmgaaaGreatDoor.eE C:=fun C c hc=>by
    obtain ⟨A,B,rfl⟩:=List.append_of_mem hc;rw [mV,gY];omega
   have k5:=c10 hg (bK J (size*factor) D) (by omega) fun c hc=>AH (hsz _ _ hc) (by omega);have k6:=Wy hg (bK J 1 D) (by omega);have k7:=Wy hg (bK J size D) (by omega);have k8:=Wy hg (bK J (size*factor) D) (by omega);have t1:oR (bK J 1 D)=oR D:=vi hC.n 1 D;have t2:oR (bK J size D)=oR D:=vi hC.n size D;have t3:oR (bK J (size*factor) D)=oR D:=vi hC.n (size*factor) D;rw [t1] at k6;rw [t2] at k7;rw [t3] at k8;unfold Xp.l at k1 k2 k3
   repeat' with_reducible first|refine au ?_|refine ar ?_|refine .pu (h4) hg rfl ?_|refine .pu (h5) hg rfl ?_|refine .pu (h6) hg rfl ?_|refine .pu (h7) hg rfl ?_|refine .pu (h8) hg rfl ?_|refine .pu (k1) hg rfl ?_|refine .pu (k2) hg rfl ?_|refine .pu (k3) hg rfl ?_|refine .pu (k4) hg rfl ?_|refine .pu (k5) hg rfl ?_|refine .pu (k6) hg rfl ?_|refine .pu (k7) hg rfl ?_|refine .pu (k8) hg rfl ?_|refine ⟨?_,?_⟩|intro _|simp only [go_sem,seval,nt,nf,d1,d2,d3,d4,d5,d1',d3',d5',c1,c2,c3,c4,hcb,mw]
   obtain ⟨X1,hX1⟩:∃ X1,X1=(aW (bK J size D)).map eg:=⟨_,rfl⟩;obtain ⟨X3,hX3⟩:∃ X3,X3=(aW (bK J 1 D)).map eg:=⟨_,rfl⟩;obtain ⟨C1,hC1⟩:∃ C1,C1=bK J size D:=⟨_,rfl⟩;obtain ⟨C3,hC3⟩:∃ C3,C3=bK J 1 D:=⟨_,rfl⟩
   have hmet:∀ c∈C3,C1.foldl (vL size c.1) 0=1:=fun c hc=>by
    rw [hC1];rw [hC3] at hc;exact Q9 J hs1 hC.ji hc
   rw [<-hC1] at hX1 k7 o1;rw [<-hC3] at hX3 k6 o3;rw [<-hC1,<-hC3,<-hX1,<-hX3];rw [<-hX1] at k7;rw [<-hX3] at k6;have hl1:X1.length=C1.length:=by rw [hX1];unfold aW;rw [Ad,Ad]
   have hl3:X3.length=C3.length:=by rw [hX3];unfold aW;rw [Ad,Ad]
   have n1:C1.length<=100000:=by have:=o1.2.2.2.2.2;omega
   have n3:C3.length<=100000:=by have:=o3.2.2.2.2.2;omega
   refine .forget ?_;refine .dA X3.length (fun i F S=>F=[(4,.int .i64 size),(17,.sl 6 X1 .ai),(18,.sl 6 ((aW (bK J (size*factor) D)).map eg) .ai),(19,.sl 6 X3 .ai),(20,.int .i64 (i:Int))]/\S=⟨2,[],0,[],gl⟩) ⟨rfl,rfl⟩ ?_;rintro i F S hi ⟨rfl,rfl⟩ ih
   by_cases h:i<X3.length
   ·obtain ⟨c,hci⟩:∃ c,C3[i]? =some c:=aK (by omega);have hcm:=Aj hci;have hxm:X3[i]? =some (.agg (.int .i64 c.1::c.2.l)):=by rw [hX3,Ap,jh,hci];rfl
    refine bp OF.eq_1 ?_
    repeat' with_reducible first|refine au ?_|refine ar ?_|refine ⟨?_,?_⟩|intro _|simp only [go_sem,seval,fh h,eC h]
    refine .dA X1.length (fun k F S=>∃ met,F=[(4,.int .i64 size),(17,.sl 6 X1 .ai),(18,.sl 6 ((aW (bK J (size*factor) D)).map eg) .ai),(19,.sl 6 X3 .ai),(20,.int .i64 (i:Int)),(21,.int .i64 met),(22,.int .i64 (k:Int))]/\S=⟨2,[],0,[],gl⟩/\(C1.drop k).foldl (vL size c.1) met=1) ⟨0,rfl,rfl,hmet c hcm⟩ ?_;rintro k F S hkk ⟨met,rfl,rfl,hm⟩ ih2
    by_cases h2:k<X1.length
    ·obtain ⟨d,hdk⟩:∃ d,C1[k]? =some d:=aK (by omega);rw [bY hdk,List.foldl_cons] at hm;have hdm:X1[k]? =some (.agg (.int .i64 d.1::d.2.l)):=by rw [hX1,Ap,jh,hdk];rfl
     have hdv:=o1.2.2.1 d (Aj hdk);have hw:IntKind.i64.wrap (d.1+size)=d.1+size:=by rw [IntKind.wrap_i64];omega
     have hwk:=bb (show k<9223372036854775807 by omega);refine bp NA.eq_1 ?_
     repeat' with_reducible first|refine au ?_|refine ar ?_|refine ⟨?_,?_⟩|intro _|simp only [go_sem,seval,hxm,hdm,hw,hwk,fh h,eC h,fh h2,eC h2]
     ·rw [<-hK];simp only [aN]
     ·rename_i hb;rw [Aa,decide_eq_true_eq,decide_eq_true_eq] at hb;rw [show vL size c.1 met d=IntKind.i64.wrap (met+1) from if_pos hb] at hm;exact ih2 h2 _ _ ⟨_,rfl,rfl,hm⟩
     ·rename_i hb;rw [Bool.and_eq_false_iff,decide_eq_false_iff_not,decide_eq_false_iff_not] at hb;rw [show vL size c.1 met d=met from if_neg (by omega)] at hm;exact ih2 h2 _ _ ⟨_,rfl,rfl,hm⟩
    ·refine bp NA.eq_1 ?_;rw [AE (by omega)] at hm;have hm:met=1:=hm;subst hm;have e1:((1:Int) !=1)=false:=rfl
     repeat' first
      |with_reducible first|refine au ?_|refine ar ?_|refine ⟨?_,?_⟩|intro _
      |simp only [go_sem,seval,fD (Am h2),e1,bb (show i<9223372036854775807 by omega)]
     exact ih h _ _ ⟨rfl,rfl⟩
   ·refine bp OF.eq_1 ?_;have e2:(oR D==oR D)=true:=by simp
    repeat' first
     |with_reducible first|refine au ?_|refine ar ?_|refine .pu (k6) hg rfl ?_|refine .pu (k7) hg rfl ?_|refine .pu (k8) hg rfl ?_|refine ⟨?_,?_⟩|intro _
     |simp only [go_sem,seval,fD (Am h),e2]
    rw [<-hK];simp only [go_sem,seval];exact rfl
 ·cases b5 with
  |false=>
   repeat' with_reducible first|refine au ?_|refine ar ?_|refine .pu (h4) hg rfl ?_|refine .pu (h5) hg rfl ?_|refine ⟨?_,?_⟩|intro _|simp only [go_sem,seval,nt,nf]
   rw [<-hK];simp only [go_sem,seval];exact rfl
  |true=>
   repeat' with_reducible first|refine au ?_|refine ar ?_|refine .pu (h4) hg rfl ?_|refine .pu (h5) hg rfl ?_|refine ⟨?_,?_⟩|intro _|simp only [go_sem,seval,nt,nf]
   ·rw [<-hK];simp only [go_sem,seval];exact rfl
   ·rename_i ha;refine absurd ⟨rfl,?_⟩ hc;simp only [Bool.or_eq_false_iff,decide_eq_false_iff_not] at ha;omega
def FK {σ:Type}:∀ {C:List (Int×σ)},fW C->iC C
 |[],_=>trivial
 |[_],_=>trivial
 |_::_::_,h=>⟨Bo h.1,FK h.2⟩
def cM.agH (f:cM) (a b:aP):(f.J a b).n=IntKind.i64.wrap (a.n+b.n):=by
 match f with
 | .bo=>rfl
 | .add=>rfl
 | .iV=>rfl
 | .gj true=>rfl
 | .gj false=>rfl
def P5 {cat:List AV} {x:Xp} {rows:List Rw} {key:Bytes} (h:∀ s,1<=s->s<=1099511627776->Pure pg gl 9 [.agg cat,.sl 8 (rows.map Rw.av) .ai,.agg x.l,.str key,.int .i64 s] (.ok (.sl 6 [] .ai))):∃ D I J,yJ gl cat x rows key D I J:=⟨[],fun _=>True,ky,{ji:=trivial,ev:=fun _ h=>(nomatch h),iv:=fun _ h=>(nomatch h),eE:=Au _,len:=Au _,jn:=fun h=>absurd rfl h,assoc:=fun a b c _ _ _=>uW a b c,cl:=fun _ _ _ _=>trivial,size:=fun a b=>cM.sz .bo a b,n:=fun _ _=>rfl,call:=h}⟩
def aje (hg:ae gl) (cat:List AV) (x:Xp) (t:Tb) (okb:Bool) (rows:List Rw) (key:Bytes) (hc:∀ v∈cat,Nm v) (hc4:cat.length=4) (hcb:aE cat=false) (ht:t.N) (hx:x.N) (hr:∀ r∈rows,r.N) (hn:rows.length<=100000) (hev:∀ r∈rows,0<=r.event/\r.event<=1099511627776)
  (h38:Pure pg gl 38 [.agg cat,.str x.tb] (.ok (.aF [.agg t.l,.bool okb])))
  (h103:∀ r∈rows,∀ a∈x.args,∃ V:bW,Pure pg gl 103 [.agg t.l,r.av,a] (.ok V.av)/\Nk gl V.n)
  (hargs:∀ a∈x.args,∃ a',a= .agg a'/\a'.length=12):∃ D I J,yJ gl cat x rows key D I J:=by
 by_cases hkd:x.kd=5
 rotate_left
 ·exact P5 fun s _ _=>c9n hg cat x key rows s hc hx hr hkd
 obtain ⟨rs,hrs⟩:∃ rs,rs=rows.filter fun r=>r.key==key:=⟨_,rfl⟩
 have hsub:∀ r∈rs,r∈rows/\r.key=key:=fun r h=>by
  rw [hrs,BH] at h;exact ⟨h.1,by simpa using h.2⟩
 have hrl:rs.length<=100000:=by rw [hrs];exact AH (Cr ..) hn
 have nil62:∀ ps:List Pk,ps.length<=100000->(∀ p∈ps,p.key=key/\p.tick<=1099511627776)->(iJ x.op=none∨ps=[])->Pure pg gl 62 [.str x.op,.sl 9 (ps.map Pk.av) .ai,.str key,.int .i64 1099511627776] (.ok (.sl 6 [] .ai)):=fun ps h1 h2 h3=>by
  cases hf:iJ x.op with
  |none=>exact aj6 hg x.op hf ps key _ h1 h2
  |some f=>
   rcases h3 with h3|rfl
   ·rw [hf] at h3;cases h3
   ·obtain ⟨P,hP⟩:=Kr hg x.op f hf;exact c62 hg x.op f hf P hP [] key _ (Au _) (fun _ h=>nomatch h) (fun _ h=>nomatch h)
 have nil9:∀ ps:List Pk,Pure pg gl 63 [.agg t.l,.agg x.l,.sl 10 (rs.map Rw.dl) .ai] (.ok (.sl 9 (ps.map Pk.av) .ai))->Pure pg gl 62 [.str x.op,.sl 9 (ps.map Pk.av) .ai,.str key,.int .i64 1099511627776] (.ok (.sl 6 [] .ai))->∃ D I J,yJ gl cat x rows key D I J:=fun ps h63 h62=>by
  rw [hrs] at h63;have h27:=c27 hg cat t x okb key rows ps [] hc hc4 hcb ht hx hr hn h38 h63 h62;exact P5 fun s h1 h2=>c9 hg cat x key rows [] [] s hc hc4 hcb hx hr h1 h2 hkd h27 (Ih hg x.op s h1)
 by_cases hcc:x.tb=t.name/\x.args.length=2
 rotate_left
 ·exact nil9 [] (ajb hg t x rs ht hx (fun r h=>hr r (hsub r h).1) fun h=>hcc h.2) (nil62 [] (Au _) (fun _ h=>nomatch h) (.inr rfl))
 obtain ⟨htb,hal⟩:=hcc
 obtain ⟨b0,b1,hab⟩:∃ b0 b1,x.args=[b0,b1]:=by
  match hh:x.args,hal with
  |[b0,b1],_=>exact ⟨b0,b1,rfl⟩
 obtain ⟨a0,rfl,ha0⟩:=hargs b0 (by rw [hab];simp);obtain ⟨a1,rfl,ha1⟩:=hargs b1 (by rw [hab];simp)
 have ch:∀ a∈x.args,∃ V:Rw->bW,∀ r∈rows,Pure pg gl 103 [.agg t.l,r.av,a] (.ok (V r).av)/\Nk gl (V r).n:=fun a ha=>by
  have:∀ r,∃ V:bW,r∈rows->Pure pg gl 103 [.agg t.l,r.av,a] (.ok V.av)/\Nk gl V.n:=fun r=>by
   by_cases h:r∈rows
   ·obtain ⟨V,hV⟩:=h103 r h a ha;exact ⟨V,fun _=>hV⟩
   ·exact ⟨⟨0,0,[]⟩,fun h'=>absurd h' h⟩
  exact ⟨fun r=>(this r).choose,fun r=>(this r).choose_spec⟩
 obtain ⟨V0,hV0⟩:=ch (.agg a0) (by rw [hab];simp);obtain ⟨V1,hV1⟩:=ch (.agg a1) (by rw [hab];simp);obtain ⟨ps,hps⟩:∃ ps,ps=rs.filterMap (kR t V0 V1):=⟨_,rfl⟩;have h63:=c63 hg t x rs V0 V1 a0 a1 ht hx (fun r h=>hr r (hsub r h).1) hrl hkd htb hab ha0 ha1 (fun r h=>(hV0 r (hsub r h).1).1) (fun r h=>(hV1 r (hsub r h).1).1);rw [<-hps] at h63;have hpl:ps.length<=100000:=by rw [hps];exact AH (List.length_filterMap_le ..) hrl
 have hp:∀ p∈ps,(p.n=1/\(0<=p.event/\p.event<=1099511627776)/\Nk gl p.v.n)/\p.key=key/\p.tick<=1099511627776:=fun p h=>by
  rw [hps,Cw] at h;obtain ⟨r,h1,h2⟩:=h;unfold kR at h2;split at h2
  ·injection h2 with h2
   subst h2;have h3:=hsub r h1;exact ⟨⟨rfl,hev r h3.1,(hV0 r h3.1).2⟩,h3.2,by show (0:Int)<=_;decide⟩
  ·cases h2
 cases hf:iJ x.op with
 |none=>exact nil9 ps h63 (nil62 ps hpl (fun p h=>(hp p h).2) (.inl hf))
 |some f=>
  obtain ⟨P,hP⟩:=Kr hg x.op f hf;have hck:=Lh hP ps hpl fun p h=>(hp p h).1;have h62:=c62 hg x.op f hf P hP ps key 1099511627776 hpl (fun p h=>(hp p h).1) fun p h=>(hp p h).2;rw [hrs] at h63;have h27:=c27 hg cat t x okb key rows ps (qf P ps) hc hc4 hcb ht hx hr hn h38 h63 h62;have hsz:=hck.sz;have hlen:=hck.len;exact ⟨qf P ps,gR f,f.J,{ji:=FK hck.ji,ev:=hck.ev,iv:=hck.iv,eE:=by omega,len:=by omega,jn:=fun _=>cM.jn hg x.op f hf,assoc:=f.assoc,cl:=f.iv,size:=f.sz,n:=f.agH,call:=fun s h1 h2=>c9 hg cat x key rows (qf P ps) _ s hc hc4 hcb hx hr h1 h2 hkd h27 (c11 hg x.op (gR f) f.J (cM.jn hg x.op f hf) (qf P ps) s h1 (by omega) hck.ev (FK hck.ji) hck.iv (by omega) (by omega))}⟩
end Go.Proofs.YtoopnalhhfmgaaaGreatDoor
