/- Contracts in outline: each function answers (printed by a program). -/
import Derived.Test.YtoopnalhhfmgaaaGreatDoorPB
import Derived.Test.YtoopnalhhfmgaaaGreatDoorNG
import Derived.Test.YtoopnalhhfmgaaaGreatDoorQA
import Derived.Test.YtoopnalhhfmgaaaGreatDoorKA
import Derived.Test.YtoopnalhhfmgaaaGreatDoorPA
import Derived.Shelf.Spec.BitsCarry
import Derived.Shelf.Strconv.Itoa0
import Derived.Test.YtoopnalhhfmgaaaGreatDoorKB
set_option linter.defProp false
set_option linter.unusedSimpArgs false
set_option linter.unusedVariables false
set_option maxHeartbeats 16000000
namespace Go.Proofs.YtoopnalhhfmgaaaGreatDoor
open Go Go.V
set_option maxRecDepth 100000
variable {gl:List (Nat×List AV)}
variable (Ua Ub Uc Ud Ue Uf Ug Uh Ui Uj Uk Ul Um Un Uo Up:AV) (Ya Yb Yc Yd Ye Yf Yg Yh:MC)
def g80:az:=bx [tE] [.c .s,.c (.i .i64)] 1048576 1152921504606846976 (.aY 0) [⟨4398046511104,[(8,-1)]⟩] [⟨0,[(15,1)]⟩]
def s80 (hg:ae gl):Sp gl 80 g80:=ay hg (aJ [] []) (xc (O8 hg) (xc (akO hg) xn)) 12 (dM 0x533cde8838dd51a7b98408000912c69dc3248e43963d2662d5f200401f84e0ef290b557c399f5cd41c) [.t 2,.t 3] Tryz.func80 (by kernel_rfl)
def g50:az:=Md [1,17] (bx [.c (.l 12 32),tE] [.c (.l 12 32)] 274877906944 274877906945 (.aY 0) [⟨4398046511104,[(10,-1)]⟩,⟨1048576,[(3,-1)]⟩,⟨1048576,[(4,-1)]⟩,⟨1048576,[(5,-1)]⟩,⟨1048576,[(8,-1)]⟩,⟨1048576,[(9,-1)]⟩,⟨1048576,[(14,-1)]⟩] [⟨1,[(0,1),(16,-1)]⟩])
def s50 (hg:ae gl):Sp gl 50 g50:=ay hg (aJ [⟨60,[7],[],[],[],[],[⟨0,[(1,.v 7 0),(-1,.v0 7 0)]⟩,⟨0,[(1,.v 0 0),(-1,.v 7 0)]⟩],⟨0,[(1,.v 0 0),(-1,.v 7 0)]⟩,[],[]⟩] []) (xc (s80 hg) (xc (s81 hg) xn)) 59 (dM 0x30769f6c70a024785f5a1d897c60e3aac94e32e546c8836b4cd33f58f88152f03aad92b0df2b22077a21d374093e03fd0a46b9d3480cdd4c0b6ad2ecbf2a1ef150dc67bd0ccd60ff0bbd6e52679e41a976bb7caff47b5471fde8ad7e185a1a9ef9f3e41ccf58e32e041c99a44b4d851df404c88e464b4522351d721dd687a2b4352e00fe9c589c72c8ff0a64957cecb5d4beaaf06b249fbc5f34d2b3f05df3e39b066366ec768e332f972652ca9833f187f51d1b6daeee746d90ff758162b659c7a65eb229669c9ccd18139d94192c226b47b) [.t 4] Tryz.func50 (by kernel_rfl)
def g22:az:=Md [9] (bx [tC] [.c (.l 12 32)] 1048576 274877906944 (.aY 0) [⟨4096,[(2,-1)]⟩,⟨4096,[(4,-1)]⟩] [])
def s22 (hg:ae gl):Sp gl 22 g22:=ay hg (aJ [⟨58,[3,4],[],[],[(192,32)],[],[⟨0,[(1,.o 0 1),(-1,.v 4 0)]⟩,⟨0,[(16777217,.v 4 0),(-16777217,.v0 4 0),(-1,.v 3 0),(1,.v0 3 0)]⟩],⟨0,[(1,.o 0 1),(-1,.v 4 0)]⟩,[],[]⟩,⟨242,[3,5],[],[],[(192,32)],[],[⟨274877906944,[(-1,.v 3 0)]⟩,⟨0,[(1,.v 5 0),(-1,.v0 5 0)]⟩,⟨4096,[(-1,.v 5 0)]⟩,⟨0,[(16777217,.v 5 0),(-16777217,.v0 5 0),(-1,.v 3 0),(1,.v0 3 0)]⟩],⟨0,[(1,.o 0 2),(-1,.v 5 0)]⟩,[],[]⟩,⟨1962,[6,7],[],[],[(384,32)],[384],[⟨0,[(1,.v 3 0),(-1,.v 7 0)]⟩,⟨0,[(1,.v 7 0),(-1,.v 6 0)]⟩],⟨0,[(1,.v 3 0),(-1,.v 7 0)]⟩,[],[]⟩] []) (xc (s49 hg) (xc (s50 hg) xn)) 53 (dM 0x2b1a451e35df5494cde256b651b3ceff00ed20eff933b4d48ea4b7227089f67e7b0237d6849e7955ab6bf1cd31717191317316227f0b4ff5a69c0367cd52f8905c44a910fdb23e6b7ad06e13bb49971332cdf9a892eb0db488a8f0a985b2a7f0882dc118124eefd25a8f1ca82bdad0b5c7c6183d50f671334a121b5c373396f419e373b6474f9f79afe20199ac29eb12aba98db4b636ecaa3413627d7438b11319d6e718b448cab5cd46d) [.t 2] Tryz.func22 (by kernel_rfl)
def g6:az:=bx [.c (.l 40 88),.c (.i .i64),.c (.i .i64)] [tE,.c .b] 1048576 1048576 (.aY 0) [⟨4096,[(0,-1)]⟩] []
def s6 (hg:ae gl):Sp gl 6 g6:=ay hg (aJ [] []) (xc (s7 hg) (xc (s22 hg) xn)) 30 (dM 0x3f7efe59e6a545ca7ef9bedd6f7bf83b13f369b23f969f23e8c3ed103fba10a5c7065335f7324c2b8a86d14b38948608bc6d4188f045677eb36e8fdc4f0ecd99fb7c00c3d6f854154c5a57bdf1fe38663b46fce59ec4ba6d541933cb43e) [.c 6 12 true,.t 7] Tryz.func6 (by kernel_rfl)
attribute [local go_sem ↓] cu aj.ev MK.ev MK.ob Hc
attribute [local go_sem high] Hd
attribute [local go_sem] rO gn fZ lC oT py kq bU gG lF mQ AV.there AV.plus cC fV AV.gB AV.cells cn dp iH lx jE kr lE nS eg isStr fm fN appArg cS cG gQ fU cU jx bI fG jS dE St.none if_true if_false ite_self eq_self ne_eq implies_true forall_const jm.av bX.av jB.av lZ.av rU.av He
section
open Go.Lib Go.RowKit
abbrev aiy:az:=bA [tV,tV] [.c (.i .i64)]
def alC (hg:ae gl):Spec pg gl 274 aiy (fun _=>True):=gR (fun ρ vs hv _ _ _=>by
 obtain ⟨w,ws,rfl,⟨us,rfl,⟨v0,vs1,rfl,⟨a,rfl,_⟩,⟨v1,vs2,rfl,⟨b,rfl,_⟩,⟨v2,vs3,rfl,⟨c,rfl,_⟩,rfl⟩⟩⟩⟩,⟨w',ws',rfl,⟨us',rfl,⟨v0',vs1',rfl,⟨a',rfl,_⟩,⟨v1',vs2',rfl,⟨b',rfl,_⟩,⟨v2',vs3',rfl,⟨c',rfl,_⟩,rfl⟩⟩⟩⟩,rfl⟩⟩:=hv
 exact ⟨[.int .i64 _],VN hg ⟨a,b,c⟩ ⟨a',b',c'⟩,⟨_,_,rfl,⟨_,rfl,iw _⟩,rfl⟩,aH.nil _⟩) fun _ _ _=>rE
abbrev aiB:az:=bA [tW,tW] [tW]
def alE (hg:ae gl):Spec pg gl 277 aiB (fun _=>True):=gR (fun ρ vs hv _ _ _=>by
 obtain ⟨w,ws,rfl,⟨us,rfl,⟨v0,vs1,rfl,⟨a,rfl,_⟩,⟨v1,vs2,rfl,⟨b,rfl,hb⟩,rfl⟩⟩⟩,⟨w',ws',rfl,⟨us',rfl,⟨v0',vs1',rfl,⟨a',rfl,_⟩,⟨v1',vs2',rfl,⟨b',rfl,hb'⟩,rfl⟩⟩⟩,rfl⟩⟩:=hv;refine ⟨[.agg [.int .i64 _,.int .u64 _]],NF hg b b' a a' hb.w hb'.w,⟨_,_,rfl,⟨_,rfl,⟨_,_,rfl,⟨_,rfl,iw _⟩,⟨_,_,rfl,⟨_,rfl,fun _=>?_⟩,rfl⟩⟩⟩,rfl⟩,aH.nil _⟩;unfold p8;show 0<=_/\_<(18446744073709551616:Int)
 omega) fun _ _ _=>rE
def agk (x y b:Int) (h0:0<=b) (h1:b<=1):∃ d e,U8 .u64 d/\0<=e/\e<=1/\Pure pg gl 307 [.int .u64 x,.int .u64 y,.int .u64 b] (.ok (.aF [.int .u64 d,.int .u64 e])):=by
 have key:∀ k:Nat,k<=1->∀ w,(sub64Entry #[.int .u64 x,.int .u64 y,.int .u64 (k:Int)]).run pg w= .ok (.tuple #[.int .u64 (((x.toNat+18446744073709551616-y.toNat-k)%18446744073709551616:Nat):Int),.int .u64 ((if x.toNat<y.toNat+k then 1 else 0:Nat):Int)]) w:=by
  intro k hk w;have:k=0∨k=1:=by omega
  rcases this with rfl|rfl<;>rfl
 obtain ⟨k,rfl⟩:=Int.eq_ofNat_of_zero_le h0;refine ⟨(((x.toNat+18446744073709551616-y.toNat-k)%18446744073709551616:Nat):Int),((if x.toNat<y.toNat+k then 1 else 0:Nat):Int),fun _=>?_,?_,?_,?_,by simp only [bz,cz,forall_eq_or_imp,forall_eq,implies_true],by simp only [cz,forall_eq_or_imp,forall_eq,implies_true]⟩;rotate_left 3
 ·simp only [bz];intro wb G w vs hS hv;obtain ⟨v1,vs1,rfl,e1,hv⟩:=hv.cons_inv;obtain ⟨v2,vs2,rfl,e2,hv⟩:=hv.cons_inv;obtain ⟨v3,vs3,rfl,e3,hv⟩:=hv.cons_inv;obtain rfl:=hv.iz;obtain rfl:=e1.gI;obtain rfl:=e2.gI;obtain rfl:=e3.gI;unfold km;rw [show ([Value.int .u64 x,.int .u64 y,.int .u64 (k:Int)].toArray)= #[.int .u64 x,.int .u64 y,.int .u64 (k:Int)] from rfl,run_callFunc_extern Tryz.func307 (by kernel_rfl) (by kernel_rfl) (by kernel_rfl) (e:=sub64Entry) (by kernel_rfl),key k (by omega) w];exact ⟨G,_,Gh.le_refl G,hS,_,.zD (.int _ _) (.int _ _),rfl⟩
 ·show 0<=_/\_<(18446744073709551616:Int);omega
 ·omega
 ·split<;>omega
def aiQ:az:=bx [.c (.i .u64),.c (.i .u64),.c (.i .u64)] [.c (.i .u64),.c (.i .u64)] 1048576 1048576 (.aY 0) [⟨1,[(2,-1)]⟩] [⟨0,[(4,1)]⟩,⟨1,[(4,-1)]⟩]
def alP (hg:ae gl):Spec pg gl 307 aiQ (fun _=>True):=gR (fun ρ vs hv hn hl hf=>by
 obtain ⟨w,ws,rfl,⟨a,rfl,_⟩,⟨w1,ws1,rfl,⟨b,rfl,_⟩,⟨w2,ws2,rfl,⟨c,rfl,hc⟩,rfl⟩⟩⟩:=hv
 have h1:c<=1:=by
  have h2:ρ[2]? =some c:=hn.2.2.1;obtain ⟨z,h3,h4⟩:=hf _ (Ay.2 rfl);have:=h3.uniq (jJ h2 1);omega
 obtain ⟨d,e,h3,h4,h5,h6⟩:=agk a b c hc.w.1 h1;have hl:ρ.length=3:=hl
 have h7:(ρ++eO [.int .u64 d,.int .u64 e])[4]? =some e:=by
  rw [AG (by omega),hl];rfl
 exact ⟨[.int .u64 d,.int .u64 e],h6,⟨_,_,rfl,⟨_,rfl,h3⟩,⟨_,_,rfl,⟨_,rfl,fun _=>⟨h4,show e<(18446744073709551616:Int) by omega⟩⟩,rfl⟩⟩,((aH.nil _).cons (jJ h7 1) (by omega)).cons (mH h7) h4⟩) fun _ _ _=>aaN
def agd (x:Int) (hx:U8 .u64 x):Pure pg gl 255 [.int .u64 x] (.ok (.int .i64 (Lib.bitLen x.toNat:Nat))):=by
 refine ⟨?_,by simp only [bz,cz,forall_eq_or_imp,forall_eq,implies_true],by simp only [cz,forall_eq_or_imp,forall_eq,implies_true]⟩;simp only [bz];refine (ao.FA Tryz.call255 fun wb G w vs hS hv=>?_).mono fun o S' h=>h.2;obtain ⟨v1,vs1,rfl,h1,hv⟩:=hv.cons_inv;obtain rfl:=hv.iz;obtain rfl:=h1.gI;have:=hx.w;exact ⟨_,.int _ _,Any.bits_Len64 {Tryz.Hn with} x w (by omega) (by omega)⟩
def wQ:∀ (k x:Nat),x≠0->x<2^64->x<2^k->2^Lib.bitLen x<=2*x/\x<2^Lib.bitLen x
 |0,x,h0,_,h=>by omega
 |k+1,x,h0,h64,h=>by
  have h1:=bitLen_half x h0 h64
  by_cases h2:x/2=0
  ·have hx:x=1:=by omega
   subst hx;decide
  ·have:=wQ k (x/2) h2 (by omega) (by rw [Nat.pow_succ] at h;omega);rw [h1,Nat.pow_add];omega
def acg:=(by conv=>lhs;reduce:dC [Ua,Ub] [] 0x260ccc3125a060afcf4fc2682346=_)
abbrev aj2:=rP (acg (.int .i64 0) (.int .i64 64))
def adQ:aD pg 328 6 aj2 [.t 2]:= .o2 Tryz.func328 (by kernel_rfl)
def agm (hg:ae gl) (x:Int) (hx:U8 .u64 x):Pure pg gl 328 [.int .u64 x] (.ok (.int .i64 (IntKind.i64.wrap (64-(Lib.bitLen x.toNat:Nat))))):=by
 refine ⟨?_,by simp only [bz,cz,forall_eq_or_imp,forall_eq,implies_true],by simp only [cz,forall_eq_or_imp,forall_eq,implies_true]⟩;simp only [bz];refine .aC adQ (by simp) (ab 200 ?_)
 repeat' with_reducible first|refine ar ?_|refine au ?_|refine .pu (agd x hx) hg rfl ?_|refine ⟨?_,?_⟩|intro _|simp only [go_sem,seval]
def Vq {y:Int} (hy:U8 .u64 y) (h0:y≠0):∃ s:Int,IntKind.u64.wrap (IntKind.i64.wrap (64-(Lib.bitLen y.toNat:Nat)))=s/\0<=s/\s<=63/\9223372036854775808<=sG .u64 y s/\sG .u64 y s<18446744073709551616:=by
 have h:=hy.w;have h1:=wQ 64 y.toNat (by omega) (by omega) (by omega);have h2:=bitLen_le y.toNat 64 (Af _) (by omega);have h3:Lib.bitLen y.toNat≠0:=fun e=>by rw [e] at h1;omega
 obtain ⟨k,hk⟩:∃ k,Lib.bitLen y.toNat=k:=⟨_,rfl⟩;rw [hk] at h1 h2 h3 ⊢;rw [aR (by omega) (by omega),wrap_u64,BH (by omega) (by omega)];refine ⟨_,rfl,by omega,by omega,?_⟩;unfold sG
 have e1:min (64-(k:Int)).toNat IntKind.u64.bits=64-k:=by
  show min _ 64=_;omega
 have e2:(2:Nat)^k*2^(64-k)=2^64:=by rw [<-Nat.pow_add];congr 1;omega
 have e3:y*2^(64-k)=((y.toNat*2^(64-k):Nat):Int):=by
  rw [Int.natCast_mul,Int.toNat_of_nonneg h.1];simp
 have e4:y.toNat*2^(64-k)<2^64:=by
  rw [<-e2];exact Nat.mul_lt_mul_of_pos_right h1.2 (Nat.pow_pos (by decide))
 have e5:2^64<=2*(y.toNat*2^(64-k)):=by
  rw [<-e2,<-Nat.mul_assoc];exact Be _ h1.1
 rw [e1,e3,wrap_u64];omega
def wZ (b c u:Int):Nat->Int->Int->Int
 |0,q,_=>q
 |m+1,q,r=>if 4294967296<=q∨IntKind.u64.wrap (IntKind.u64.wrap (4294967296*r)+u)<IntKind.u64.wrap (q*c) then (if 4294967296<=IntKind.u64.wrap (r+b) then IntKind.u64.wrap (q-1) else wZ b c u m (IntKind.u64.wrap (q-1)) (IntKind.u64.wrap (r+b))) else q
def S6:=(by conv=>lhs;reduce:dC [] [] 0x1b76e619f=_)
abbrev ZK:=rP S6
def S7:=(by conv=>lhs;reduce:dC [Ua,Ub] [] 0x37513c38f55dd55478f0b02246feee08e4db92221459d59a89feaf19ff8e3e725331ae=_)
abbrev ZL:=rP (S7 (.int .u64 1) (.int .u64 4294967296))
def Tf:=(by conv=>lhs;reduce:dC [Ua,Ub] [Ya,Yb] 0x240aeae9db3a5d8b65566b77bd42be8350f1136f1e0233d6fa5aacf94af412a401103930e0a0e058d084073bd019f=_)
def qb:=rO (Tf (.int .u64 4294967296) (.bool true) ZK ZL)
def S8:=(by conv=>lhs;reduce:dC [] [] 0xb7e9e61ea=_)
abbrev ZM:=rP S8
def S9:=(by conv=>lhs;reduce:dC [Ua,Ub] [] 0x2462b0f3954fc19985793349c826dfd453954cc33c3b495fcf5e8ed13b86e915e357b1f9=_)
abbrev ZN:=rP (S9 (.int .u64 1) (.int .u64 4294967296))
def Tg:=(by conv=>lhs;reduce:dC [Ua,Ub] [Ya,Yb] 0xd7d709a444cc782fbb7f0fe4cbb8028114d4631a4fe65d47645e59cd8cd6fd8a57fe236011a5ee2ebb4467aa44d01ea=_)
def nM:=rO (Tg (.int .u64 4294967296) (.bool true) ZM ZN)
def Ta:=(by conv=>lhs;reduce:dC [Ua] [] 0x101ab8858b1f5351132115a4c8072fc67abeac2c1d7c211537df0613e98a5e7ec11a313f57428f=_)
abbrev LK:=rP (Ta (.int .u64 4294967296))
def Tc:=(by conv=>lhs;reduce:dC [Ua] [Ya,Yb] 0xacc31722e9490e9295d2ffce0d6977d05358e292c6ebfbe63701502f08a2de1404c2838a0c1b5f4d69dac0dd593b31cb68122fb182bb1341ce=_)
abbrev ZO:=rP (Tc (.int .u64 4294967296) nM LK)
def Td:=(by conv=>lhs;reduce:dC [Ua,Ub,Uc,Ud] [Ya,Yb] 0xa11bc4bca02f52a7b0e0f78024fd9a10d55921403a54b84f395548a672dffbd4fe0802c09307bb4c1fb1ff61e3bf9fe4de95264b94574d8d6df31e82798d063d8caa33af2420ad9c5dbd2e0e12162062619b846678578420d61126f8727d33188e7ee0b2172caedf29030499d029c9c9250f723da0ea6d36d42c0fbeefbd228c92d45385e0c2e16130720d018b=_)
abbrev ZP:=rP (Td (.int .u64 0) (.int .u64 32) (.int .u64 4294967295) (.int .u64 64) qb ZO)
def Te:=(by conv=>lhs;reduce:dC [] [Ya] 0x37f9def435171edae3f05ae5a7364f874d03a=_)
abbrev ZQ:=rP (Te ZP)
def acf:=(by conv=>lhs;reduce:dC [Ua] [Ya] 0xb0fff85c76ba61fbd08f6585d314c7202bebed9342e=_)
abbrev ZJ:=rP (acf (.int .u64 0) ZQ)
def I1:aD pg 319 135 ZJ [.t 6,.t 7]:= .o2 Tryz.func319 (by kernel_rfl)
def KS {U b:Int} (h0:0<=U/\U<18446744073709551616) (h1:2147483648<=b):0<=IntKind.u64.wrap (U-IntKind.u64.wrap (IntKind.u64.wrap (U.tdiv b)*b))/\IntKind.u64.wrap (U-IntKind.u64.wrap (IntKind.u64.wrap (U.tdiv b)*b))<b:=by
 have e1:U.tdiv b=U/b:=Int.tdiv_eq_ediv_of_nonneg h0.1;have e2:=Cv U b;have e3:=Bw U (show b≠0 by omega);have e4:=BU U (show 0<b by omega);have e5:0<=U/b:=Bv h0.1 (by omega);have e6:U/b<=U:=Int.ediv_le_self b h0.1;have e7:U/b*b=b*(U/b):=Cb _ _;have e8:0<=b*(U/b):=Bx (by omega) e5;rw [e1];generalize U/b=q at*;generalize U%b=r at*;generalize b*q=m at*;rw [wrap_u64 q,BH e5 (by omega),e7,wrap_u64 m,BH (by omega) (by omega),wrap_u64,BH (by omega) (by omega)];omega
def agl (hg:ae gl) {x0 x1 y:Int} (h0:U8 .u64 x0) (h1:U8 .u64 x1) (h2:U8 .u64 y) (h:x0<y):∃ q r,U8 .u64 q/\U8 .u64 r/\Pure pg gl 319 [.int .u64 x0,.int .u64 x1,.int .u64 y] (.ok (.aF [.int .u64 q,.int .u64 r])):=by
 have hy0:y≠0:=by have:=h0.w;omega
 have ey:(y==0)=false:=by simpa using hy0
 have eyx:decide (y<=x0)=false:=decide_eq_false (by omega)
 by_cases hz:x0=0
 ·subst hz;refine ⟨IntKind.u64.wrap (x1.tdiv y),x1.tmod y,nj _ _,Gb h1 h2 hy0,?_⟩;refine ⟨?_,by simp only [bz,cz,forall_eq_or_imp,forall_eq,implies_true],by simp only [cz,forall_eq_or_imp,forall_eq,implies_true]⟩;simp only [bz];refine .aC I1 (by simp) (ab 200 ?_)
  repeat' with_reducible first|refine ar ?_|refine au ?_|refine ⟨?_,?_⟩|intro _|simp only [go_sem,seval,ey,eyx,hy0]
 ·have ez:(x0==0)=false:=by simpa using hz
  obtain ⟨s,es,s0,s1,l0,l1⟩:=Vq h2 hy0;obtain ⟨Y,hY⟩:∃ Y,sG .u64 y s=Y:=⟨_,rfl⟩;obtain ⟨b,hb⟩:∃ b,mh .u64 Y 32=b:=⟨_,rfl⟩;obtain ⟨c,hc⟩:∃ c,N9 .u64 Y 4294967295=c:=⟨_,rfl⟩;obtain ⟨U,hU⟩:∃ U,ior .u64 (sG .u64 x0 s) (mh .u64 x1 (IntKind.u64.wrap (64-s)))=U:=⟨_,rfl⟩;obtain ⟨u1,hu1⟩:∃ u,mh .u64 (sG .u64 x1 s) 32=u:=⟨_,rfl⟩;obtain ⟨u0,hu0⟩:∃ u,N9 .u64 (sG .u64 x1 s) 4294967295=u:=⟨_,rfl⟩;have hUr:0<=U/\U<18446744073709551616:=by rw [<-hU];exact (nj .u64 _).w
  rw [hY] at l0 l1
  have hbr:2147483648<=b:=by
   rw [<-hb];show _<=Y.fdiv 4294967296;rw [B9 _ (by decide)];omega
  have hb0:b≠0:=by omega
  have hb2:b<=4294967295:=by
   rw [<-hb];show Y.fdiv 4294967296<=_;rw [B9 _ (by decide)];omega
  obtain ⟨q1,hq1⟩:∃ q,IntKind.u64.wrap (U.tdiv b)=q:=⟨_,rfl⟩;obtain ⟨r1,hr1⟩:∃ r,IntKind.u64.wrap (U-IntKind.u64.wrap (q1*b))=r:=⟨_,rfl⟩;have hrr:=KS hUr hbr;rw [hq1,hr1] at hrr;obtain ⟨Q1,hQ1⟩:∃ q,wZ b c u1 2 q1 r1=q:=⟨_,rfl⟩;obtain ⟨V,hV⟩:∃ v,IntKind.u64.wrap (IntKind.u64.wrap (IntKind.u64.wrap (U*4294967296)+u1)-IntKind.u64.wrap (Q1*Y))=v:=⟨_,rfl⟩;obtain ⟨q0,hq0⟩:∃ q,IntKind.u64.wrap (V.tdiv b)=q:=⟨_,rfl⟩;obtain ⟨r0,hr0⟩:∃ r,IntKind.u64.wrap (V-IntKind.u64.wrap (q0*b))=r:=⟨_,rfl⟩;have hrr0:=KS (U:=V) (by rw [<-hV];exact (nj .u64 _).w) hbr;rw [hq0,hr0] at hrr0;obtain ⟨Q0,hQ0⟩:∃ q,wZ b c u0 2 q0 r0=q:=⟨_,rfl⟩;refine ⟨IntKind.u64.wrap (IntKind.u64.wrap (Q1*4294967296)+Q0),mh .u64 (IntKind.u64.wrap (IntKind.u64.wrap (IntKind.u64.wrap (V*4294967296)+u0)-IntKind.u64.wrap (Q0*Y))) s,nj _ _,Nh (nj _ _) _,?_⟩;refine ⟨?_,by simp only [bz,cz,forall_eq_or_imp,forall_eq,implies_true],by simp only [cz,forall_eq_or_imp,forall_eq,implies_true]⟩;simp only [bz];refine .aC I1 (by simp) (ab 200 ?_);generalize hK:bI [RV.t 6,RV.t 7] _=Q
  have step:∀ {u q r w:Int} {m:Nat},wZ b c u (m+1) q r=w->(decide (4294967296<=q)=true∨decide (4294967296<=q)=false/\decide (IntKind.u64.wrap (IntKind.u64.wrap (4294967296*r)+u)<IntKind.u64.wrap (q*c))=true)/\(decide (4294967296<=IntKind.u64.wrap (r+b))=true/\IntKind.u64.wrap (q-1)=w∨decide (4294967296<=IntKind.u64.wrap (r+b))=false/\IntKind.u64.wrap (r+b)<4294967296/\wZ b c u m (IntKind.u64.wrap (q-1)) (IntKind.u64.wrap (r+b))=w)∨decide (4294967296<=q)=false/\decide (IntKind.u64.wrap (IntKind.u64.wrap (4294967296*r)+u)<IntKind.u64.wrap (q*c))=false/\w=q:=fun {u q r w m} he=>by
   unfold wZ at he
   have hs:(4294967296<=q∨IntKind.u64.wrap (IntKind.u64.wrap (4294967296*r)+u)<IntKind.u64.wrap (q*c))->decide (4294967296<=IntKind.u64.wrap (r+b))=true/\IntKind.u64.wrap (q-1)=w∨decide (4294967296<=IntKind.u64.wrap (r+b))=false/\IntKind.u64.wrap (r+b)<4294967296/\wZ b c u m (IntKind.u64.wrap (q-1)) (IntKind.u64.wrap (r+b))=w:=fun h=>by
    rw [if_pos h] at he
    by_cases hC:4294967296<=IntKind.u64.wrap (r+b)
    ·rw [if_pos hC] at he;exact .inl ⟨decide_eq_true hC,he⟩
    ·rw [if_neg hC] at he;exact .inr ⟨decide_eq_false hC,by omega,he⟩
   by_cases hA:4294967296<=q
   ·exact .inl ⟨.inl (decide_eq_true hA),hs (.inl hA)⟩
   ·by_cases hB:IntKind.u64.wrap (IntKind.u64.wrap (4294967296*r)+u)<IntKind.u64.wrap (q*c)
    ·exact .inl ⟨.inr ⟨decide_eq_false hA,decide_eq_true hB⟩,hs (.inr hB)⟩
    ·rw [if_neg (fun h=>h.elim hA hB)] at he;exact .inr ⟨decide_eq_false hA,decide_eq_false hB,he.symm⟩
  have hwr:∀ {r:Int},0<=r->r<4294967296->IntKind.u64.wrap (r+b)=r+b:=fun {r} h1 h2=>by rw [wrap_u64,BH (by omega) (by omega)]
  have fin:ah pg 135 [.code (.loop nM),.inBlock 2,.code (.named [2,8,14,15,17,18] LK)] [] [(2,.int .u64 Y),(8,.int .u64 s),(9,.int .u64 b),(10,.int .u64 c),(14,.int .u64 u0),(15,.int .u64 Q1),(16,.int .u64 r0),(17,.int .u64 V),(18,.int .u64 q0)] (.none gl) Q:=by
   refine .ga (fun m F S=>∃ q r G,F=(2,.int .u64 Y)::(8,.int .u64 s)::(9,.int .u64 b)::(10,.int .u64 c)::(14,.int .u64 u0)::(15,.int .u64 Q1)::(16,.int .u64 r)::(17,.int .u64 V)::(18,.int .u64 q)::G/\S= .none gl/\0<=r/\r<4294967296/\4294967296<=r+(m:Nat)*2147483648/\wZ b c u0 m q r=Q0) 2 ⟨q0,r0,[],rfl,rfl,hrr0.1,by omega,by omega,hQ0⟩ ?_;rintro m F S ⟨q,r,G,rfl,rfl,i0,i1,i2,he⟩ ih;obtain ⟨m,rfl⟩:∃ k,m=k+1:=⟨m-1,by omega⟩;have hw:=hwr i0 i1;rcases step he with ⟨hA|⟨hA,hB⟩,⟨hC,hD⟩|⟨hC,hD,hE⟩⟩|⟨hA,hB,hD⟩
   ·
    refine bp nM.eq_1 ?_
    repeat' with_reducible first|refine ar ?_|refine au ?_|refine ⟨?_,?_⟩|intro _|simp only [go_sem,seval,hA,hC,hD,s0]
    rw [<-hK];simp only [go_sem,seval]
   ·
    refine bp nM.eq_1 ?_
    repeat' with_reducible first|refine ar ?_|refine au ?_|refine ⟨?_,?_⟩|intro _|simp only [go_sem,seval,hA,hC,s0]
    exact ih m _ _ (by omega) ⟨_,_,_,rfl,rfl,by omega,hD,by omega,hE⟩
   ·
    refine bp nM.eq_1 ?_
    repeat' with_reducible first|refine ar ?_|refine au ?_|refine ⟨?_,?_⟩|intro _|simp only [go_sem,seval,hA,hB,hC,hD,s0]
    rw [<-hK];simp only [go_sem,seval]
   ·
    refine bp nM.eq_1 ?_
    repeat' with_reducible first|refine ar ?_|refine au ?_|refine ⟨?_,?_⟩|intro _|simp only [go_sem,seval,hA,hB,hC,s0]
    exact ih m _ _ (by omega) ⟨_,_,_,rfl,rfl,by omega,hD,by omega,hE⟩
   ·
    subst hD;refine bp nM.eq_1 ?_
    repeat' with_reducible first|refine ar ?_|refine au ?_|refine ⟨?_,?_⟩|intro _|simp only [go_sem,seval,hA,hB,s0]
    rw [<-hK];simp only [go_sem,seval]
  repeat' with_reducible first|refine ar ?_|refine au ?_|refine .pu (agm hg y h2) hg rfl ?_|refine ⟨?_,?_⟩|intro _|simp only [go_sem,seval,ey,eyx,ez,es,hY,hb,hc,hU,hu1,hu0,hq1,hr1,s0,hb0]
  refine .ga (fun m F S=>∃ q r G,F=(2,.int .u64 Y)::(8,.int .u64 s)::(9,.int .u64 b)::(10,.int .u64 c)::(11,.int .u64 U)::(13,.int .u64 u1)::(14,.int .u64 u0)::(15,.int .u64 q)::(16,.int .u64 r)::G/\S= .none gl/\0<=r/\r<4294967296/\4294967296<=r+(m:Nat)*2147483648/\wZ b c u1 m q r=Q1) 2 ⟨q1,r1,[],rfl,rfl,hrr.1,by omega,by omega,hQ1⟩ ?_;rintro m F S ⟨q,r,G,rfl,rfl,i0,i1,i2,he⟩ ih;obtain ⟨m,rfl⟩:∃ k,m=k+1:=⟨m-1,by omega⟩;have hw:=hwr i0 i1;rcases step he with ⟨hA|⟨hA,hB⟩,⟨hC,hD⟩|⟨hC,hD,hE⟩⟩|⟨hA,hB,hD⟩
  ·
   refine bp qb.eq_1 ?_
   repeat' with_reducible first|refine ar ?_|refine au ?_|refine ⟨?_,?_⟩|intro _|simp only [go_sem,seval,hA,hC,hD,hV,hq0,hr0,hb0]
   exact fin
  ·
   refine bp qb.eq_1 ?_
   repeat' with_reducible first|refine ar ?_|refine au ?_|refine ⟨?_,?_⟩|intro _|simp only [go_sem,seval,hA,hC,hV,hq0,hr0,hb0]
   exact ih m _ _ (by omega) ⟨_,_,_,rfl,rfl,by omega,hD,by omega,hE⟩
  ·
   refine bp qb.eq_1 ?_
   repeat' with_reducible first|refine ar ?_|refine au ?_|refine ⟨?_,?_⟩|intro _|simp only [go_sem,seval,hA,hB,hC,hD,hV,hq0,hr0,hb0]
   exact fin
  ·
   refine bp qb.eq_1 ?_
   repeat' with_reducible first|refine ar ?_|refine au ?_|refine ⟨?_,?_⟩|intro _|simp only [go_sem,seval,hA,hB,hC,hV,hq0,hr0,hb0]
   exact ih m _ _ (by omega) ⟨_,_,_,rfl,rfl,by omega,hD,by omega,hE⟩
  ·
   subst hD;refine bp qb.eq_1 ?_
   repeat' with_reducible first|refine ar ?_|refine au ?_|refine ⟨?_,?_⟩|intro _|simp only [go_sem,seval,hA,hB,hV,hq0,hr0,hb0]
   exact fin
def aiX:az:=bx [.c (.i .u64),.c (.i .u64),.c (.i .u64)] [.c (.i .u64),.c (.i .u64)] 1048576 1048576 (.aY 0) [⟨-1,[(0,-1),(2,1)]⟩] []
def abb (hg:ae gl):Spec pg gl 319 aiX (fun _=>True):=gR (fun ρ vs hv hn hl hf=>by
 obtain ⟨w,ws,rfl,⟨a,rfl,ha⟩,⟨w1,ws1,rfl,⟨b,rfl,hb⟩,⟨w2,ws2,rfl,⟨c,rfl,hc⟩,rfl⟩⟩⟩:=hv
 have h1:a<c:=by
  have e0:ρ[0]? =some a:=hn.1;have e2:ρ[2]? =some c:=hn.2.2.1;obtain ⟨z,h3,h4⟩:=hf _ (Ay.2 rfl);have h5:=((aa.iR e2).sub (aa.iR e0)).aG (-1);rw [show ((aa.var 2).sub (aa.var 0)).aG (-1)=⟨-1,[(0,-1),(2,1)]⟩ by kernel_rfl] at h5;have:=h3.uniq h5;omega
 obtain ⟨q,r,h2,h3,h4⟩:=agl hg ha hb hc h1
 exact ⟨[.int .u64 q,.int .u64 r],h4,⟨_,_,rfl,⟨_,rfl,h2⟩,⟨_,_,rfl,⟨_,rfl,h3⟩,rfl⟩⟩,aH.nil _⟩) fun _ _ _=>aaN
end
def aid:az:=bA [.c .s,tV,tV] [tV]
def ali (hg:ae gl):Sp gl 230 aid:=ay hg (aJ [] [⟨30,[],[(2,[0,1,2])],[],[],[],[⟨1048576,[(-1,.o 2 2)]⟩],⟨0,[(1,.o 2 0)]⟩,[],[]⟩]) (xc (Pf hg) (xc (aa5 hg) (xc (alB hg) (xc (alC hg) (xc (Pe hg) xn))))) 79 (dM 0x8636354c1869d0ec6acd9492feb3e2093c4462dd37a858f0c25ff6f228cc7d96e60c2b772cc537a31e6fd52640b8f1d8d178a43e2c1200032c0eede0f979ae7c5966f0d43e793699eba18b17c496386ba582e6c0a6d0c25c7992c75843b76e4e3515bb46629a173467f7581fd6a414a6719173203df90c24952ab054391e5f8ed059badaeee8c01dc84fb67c00e4ad0d3dfbb3fdcb14036854b97c6a900020c07b89055c87e30aee9325697f00245cef8a4589f0d11fb4b0156e1cc7d2083ff31f516ad1561636d1077b5e229fcad27efef5c98f8864bec2ab7d137e4e569ec7b8ed956833a9436c002f57f4fe868d185c4f195986f7582fd4b529fba99389cabd73fb4370cdb8849a680819257419f) [.c 6 3 true] Tryz.func230 (by kernel_rfl)
abbrev aiC:az:=bA [tW,tW] [tW]
def aa6 (hg:ae gl):Sp gl 278 aiC:=ay hg (aJ [] []) (xc (alP hg) xn) 32 (dM 0x1d644fa102309854306ded8a8351833984f98f57140ac9fff7539032ba4a507be74d4eec61b9eeea71762c7b9c9896c3f991cff22dd9b90aa17751c65d58c83432da7baf4ce5c6aca5249c4253bc66c7f4fa882a65fec63a2c3448) [.c 4 2 true] Tryz.func278 (by kernel_rfl)
def ai2:az:=bA [tW] [tW]
def alX (hg:ae gl):Sp gl 327 ai2:=ay hg (aJ [] []) (xc (aa6 hg) xn) 6 (dM 0x1de666b92757e017daf68ab81a1db197120d35f5b4d46) [.c 2 2 true] Tryz.func327 (by kernel_rfl)
def aiW:az:=bA [tW] [.a [.i .u64,.i .u64]]
def alT (hg:ae gl):Sp gl 318 aiW:=mG hg (aJ [] []) (xc (alX hg) xn) Qj (by kernel_rfl)
def aiP:az:=bA [tW,.c (.i .i64)] [.c (.i .i64),.c .b]
def alO (hg:ae gl):Sp gl 305 aiP:=mG hg (aJ [] []) (xc (alT hg) (xc (JR hg) (xc (abb hg) xn))) Qh (by kernel_rfl)
abbrev aiA:az:=bA [.c (.i .i64),tW,.c (.i .i64)] [tV]
def alD (hg:ae gl):Sp gl 276 aiA:=ay hg (aJ [] []) (xc (alO hg) (xc (Pg hg) xn)) 19 (dM 0x13818c037189c938ab672db17a1d918a2d0689e85079165729e3562e8f3eee092f7adfe21153318991046f1a0015be742b) [.c 6 3 true] Tryz.func276 (by kernel_rfl)
def aiT:az:=bA [.c (.i .i64),.c (.i .i64),.c (.i .i64)] [.c (.i .i64),.c .b]
def aba (hg:ae gl):Sp gl 310 aiT:=ay hg (aJ [] []) (xc (alU hg) (xc (abc hg) (xc (abb hg) xn))) 78 (dM 0x12783eb3a6e1ec202dad2076711625cff4fdd435c0d4915e9862a9f8fbff3a16db86eae253660b97bec8732aacda622d724782c1ce146f7a612619e6545d27c17b0b13f8dccb5661053b5267b6192f6b27fd36b24998c5cdd19c877e22573da691847dfe2b74d62164011166205f47aae78e1f7768d89b01ce52fea50abd9c5db0b9301a6559b78003f641e3d5f631943b3e714ca423ca4cb332ad6b63b77d8ac623fb98a512ac4b724d2893458f37692fc553acabda87e26963d61b81b9319de0dc92bcf76c889a34a29d9cb024af2f91d2889752a97a278f2b38da7d3195dc8ba7b1642fb60f4eb3b154fd91d79321b58a8fc9f3630a713419e) [.t 6,.t 7] Tryz.func310 (by kernel_rfl)
abbrev aiH:az:=bA [.c (.i .i64),.c (.i .i64)] [.c (.i .i64),.c .b]
def alH (hg:ae gl):Sp gl 283 aiH:=ay hg (aJ [] []) (xc (JS hg) (xc (aba hg) xn)) 19 (dM 0xa29407bf6af5abfa98242aaff85811a05b8081f51c4a053cfaa3bccd92cf563b6f4af6449bbf6263edf7a26587b9ef4cf74ade5ca70c71840feb96b42b) [.t 4,.t 5] Tryz.func283 (by kernel_rfl)
abbrev aiI:az:=bA [.c (.i .i64),.c (.i .i64)] [.c (.i .i64),.c .b]
def alI (hg:ae gl):Sp gl 284 aiI:=ay hg (aJ [] []) (xc (JS hg) (xc (aba hg) xn)) 23 (dM 0xbf9f0d4e7d1fbb3b21e1cb4a6e294ff542b5b8ba6947fe94e4973f5744993559878723118e07fc9ceb73bae13b5f4792fda7aeeedfd3d4384996155918712dc501456a3eab42f) [.t 4,.t 5] Tryz.func284 (by kernel_rfl)
section
variable {lim out:Int}
def pN:cW lim [] []:=rfl
def pC {p:PT} {ps:List PT} {v:AV} {vs:List AV} (h:jw lim p v) (h2:cW lim ps vs):cW lim (p::ps) (v::vs):=⟨_,_,rfl,h,h2⟩
def pI (n:Int):jw lim (.c (.i .i64)) (.int .i64 n):=⟨n,rfl,iw _⟩
def pB (b:Bool):jw lim (.c .b) (.bool b):=⟨b,rfl⟩
def pS {s:Bytes} (h:((s.length:Nat):Int)<=lim):jw lim (.c .s) (.str s):=⟨s,rfl,h⟩
def pW (h:Int) {l:Int} (hl:U8 .u64 l):jw lim (.a [.i .i64,.i .u64]) (.agg [.int .i64 h,.int .u64 l]):=⟨_,rfl,⟨_,_,rfl,⟨h,rfl,iw _⟩,⟨_,_,rfl,⟨l,rfl,hl⟩,rfl⟩⟩⟩
def pV {V:bX} (h:((V.s.length:Nat):Int)<=lim):jw lim (.a [.i .i64,.i .i64,.s]) V.av:=⟨_,rfl,⟨_,_,rfl,⟨_,rfl,iw _⟩,⟨_,_,rfl,⟨_,rfl,iw _⟩,⟨_,_,rfl,⟨_,rfl,h⟩,rfl⟩⟩⟩⟩
def oW {rs:List AV} (h:cW out [.a [.i .i64,.i .u64]] rs):∃ h l,U8 .u64 l/\rs=[.agg [.int .i64 h,.int .u64 l]]:=by
 obtain ⟨w,ws,rfl,⟨vs,rfl,⟨v0,vs1,rfl,⟨a,rfl,_⟩,⟨v1,vs2,rfl,⟨b,rfl,hb⟩,rfl⟩⟩⟩,rfl⟩:=h;exact ⟨a,b,hb,rfl⟩
def oV {rs:List AV} (h:cW out [.a [.i .i64,.i .i64,.s]] rs):∃ V:bX,((V.s.length:Nat):Int)<=out/\rs=[V.av]:=by
 obtain ⟨w,ws,rfl,⟨vs,rfl,⟨v0,vs1,rfl,⟨a,rfl,_⟩,⟨v1,vs2,rfl,⟨b,rfl,_⟩,⟨v2,vs3,rfl,⟨c,rfl,hc⟩,rfl⟩⟩⟩⟩,rfl⟩:=h;exact ⟨⟨a,b,c⟩,hc,rfl⟩
def Mh {rs:List AV} (h:cW out [.c (.i .i64),.c .b] rs):∃ n b,rs=[.int .i64 n,.bool b]:=by
 obtain ⟨w,ws,rfl,⟨a,rfl,_⟩,⟨w',ws',rfl,⟨b,rfl⟩,rfl⟩⟩:=h;exact ⟨a,b,rfl⟩
def oB {rs:List AV} (h:cW out [.c .b] rs):∃ b,rs=[.bool b]:=by
 obtain ⟨w,ws,rfl,⟨b,rfl⟩,rfl⟩:=h;exact ⟨b,rfl⟩
def XI (hg:ae gl) (n:Int):∃ h l,U8 .u64 l/\Pure pg gl 275 [.int .i64 n] (.ok (.agg [.int .i64 h,.int .u64 l])):=by
 obtain ⟨rs,h1,h2,_⟩:=dA (JR hg) (pC (pI n) pN) (aH.nil _);obtain ⟨h,l,hu,rfl⟩:=oW h2;exact ⟨h,l,hu,h1⟩
def ajL (hg:ae gl) (a:Int) {b:Int} (c:Int) {d:Int} (hb:U8 .u64 b) (hd:U8 .u64 d):∃ h l,U8 .u64 l/\Pure pg gl 277 [.agg [.int .i64 a,.int .u64 b],.agg [.int .i64 c,.int .u64 d]] (.ok (.agg [.int .i64 h,.int .u64 l])):=by
 obtain ⟨rs,h1,h2,_⟩:=dA (alE hg) (pC (pW a hb) (pC (pW c hd) pN)) (aH.nil _);obtain ⟨h,l,hu,rfl⟩:=oW h2;exact ⟨h,l,hu,h1⟩
def ajM (hg:ae gl) (a:Int) {b:Int} (c:Int) {d:Int} (hb:U8 .u64 b) (hd:U8 .u64 d):∃ h l,U8 .u64 l/\Pure pg gl 278 [.agg [.int .i64 a,.int .u64 b],.agg [.int .i64 c,.int .u64 d]] (.ok (.agg [.int .i64 h,.int .u64 l])):=by
 obtain ⟨rs,h1,h2,_⟩:=dA (aa6 hg) (pC (pW a hb) (pC (pW c hd) pN)) (aH.nil _);obtain ⟨h,l,hu,rfl⟩:=oW h2;exact ⟨h,l,hu,h1⟩
def XJ (hg:ae gl) (a b:Int):∃ h l,U8 .u64 l/\Pure pg gl 279 [.int .i64 a,.int .i64 b] (.ok (.agg [.int .i64 h,.int .u64 l])):=by
 obtain ⟨rs,h1,h2,_⟩:=dA (aa7 hg) (pC (pI a) (pC (pI b) pN)) (aH.nil _);obtain ⟨h,l,hu,rfl⟩:=oW h2;exact ⟨h,l,hu,h1⟩
def ajK (hg:ae gl) {a:bX} (ha:((a.s.length:Nat):Int)<=1048576):∃ h l,U8 .u64 l/\Pure pg gl 273 [a.av] (.ok (.agg [.int .i64 h,.int .u64 l])):=by
 obtain ⟨rs,h1,h2,_⟩:=dA (aa5 hg) (pC (pV ha) pN) (aH.nil _);obtain ⟨h,l,hu,rfl⟩:=oW h2;exact ⟨h,l,hu,h1⟩
def I8 (hg:ae gl) (k a:Int) {b:Int} (d:Int) (hb:U8 .u64 b):∃ V:bX,((V.s.length:Nat):Int)<=1048576/\Pure pg gl 276 [.int .i64 k,.agg [.int .i64 a,.int .u64 b],.int .i64 d] (.ok V.av):=by
 obtain ⟨rs,h1,h2,_⟩:=dA (alD hg) (pC (pI k) (pC (pW a hb) (pC (pI d) pN))) (aH.nil _);obtain ⟨V,hu,rfl⟩:=oV h2;exact ⟨V,hu,h1⟩
def ajI (hg:ae gl) (k n:Int) (b:Bool):∃ V:bX,((V.s.length:Nat):Int)<=1048576/\Pure pg gl 229 [.int .i64 k,.int .i64 n,.bool b] (.ok V.av):=by
 obtain ⟨rs,h1,h2,_⟩:=dA (Pg hg) (pC (pI k) (pC (pI n) (pC (pB b) pN))) (aH.nil _);obtain ⟨V,hu,rfl⟩:=oV h2;exact ⟨V,hu,h1⟩
def XK (hg:ae gl) (n:Int):∃ m b,Pure pg gl 280 [.int .i64 n] (.ok (.aF [.int .i64 m,.bool b])):=by
 obtain ⟨rs,h1,h2,_⟩:=dA (alF hg) (pC (pI n) pN) (aH.nil _);obtain ⟨m,b,rfl⟩:=Mh h2;exact ⟨m,b,h1⟩
def I9 (hg:ae gl) {f:FuncId} (hf:f=281∨f=282∨f=283∨f=284) (a b:Int):∃ m c,Pure pg gl f [.int .i64 a,.int .i64 b] (.ok (.aF [.int .i64 m,.bool c])):=by
 rcases hf with rfl|rfl|rfl|rfl
 ·obtain ⟨rs,h1,h2,_⟩:=dA (aa8 hg) (pC (pI a) (pC (pI b) pN)) (aH.nil _);obtain ⟨m,b,rfl⟩:=Mh h2;exact ⟨m,b,h1⟩
 ·obtain ⟨rs,h1,h2,_⟩:=dA (alG hg) (pC (pI a) (pC (pI b) pN)) (aH.nil _);obtain ⟨m,b,rfl⟩:=Mh h2;exact ⟨m,b,h1⟩
 ·obtain ⟨rs,h1,h2,_⟩:=dA (alH hg) (pC (pI a) (pC (pI b) pN)) (aH.nil _);obtain ⟨m,b,rfl⟩:=Mh h2;exact ⟨m,b,h1⟩
 ·obtain ⟨rs,h1,h2,_⟩:=dA (alI hg) (pC (pI a) (pC (pI b) pN)) (aH.nil _);obtain ⟨m,b,rfl⟩:=Mh h2;exact ⟨m,b,h1⟩
def SI:=(by conv=>lhs;reduce:dC [Ua,Ub,Uc,Ud,Ue,Uf,Ug,Uh] [] 0x1c7a1392598dee33bbc05b899d00a2cb23387eb8cbd2d447e69cceb7c8d52b42e8c916607b11695f1f520154055a60fdecaf2414231d061479edf703f998a11788117dc4d2a313ab4830e334270c3652c231818f201ecf7c087b959029d6c3c6940959f967e132c1214ef0281dbb06d9ff4fdd2e68b2aca10fc60ce7c0b614628ce99ac447aa51e8433dd7b045b145eab0d9dcf7d921d120727934a9c02b0e304a5dd632228cdef092237227787224a833b213452c4de3c49c9e6e3d9a6cec8f107e025a08a73bb17c70cdc0760e41ef8d45898aa3aa5a63401e4c75509f7bc4e7423437cafe494bdf81a47f6663b10adad8b14998035d8f99b37897daacdebc8f6a9c2765047ca7c57b8708fa4b7f860e37482b85d1d8f5471c0debc87d9011d2bec15e3f43ebd7ca7a87a523784f993b9289b73bee47a471f42834da23e893cae1bfaa3386b4ab49f711af42e38977ec47b74abeae7de3890f884acd1371b8bcac647ce1eb78587678e853cd82654e02e9a8226a3c21176c6bb3518ec56d82363ad9e1298dfba70e291a12381e73de49b3bc7a88acc6459194759ff52be6abaddbc737e1418a66155c29f3a24e38a165f2cbc698ec95f51e689252991b547e387e088c94f31a4822d466f=_)
abbrev Zi:=rP (SI (.int .i64 0) (.int .u64 0) (.str [43]) (.int .i64 2) (.int .i64 1) (.str [45]) (.str [42]) (.int .i64 3))
def SJ:=(by conv=>lhs;reduce:dC [Ua] [] 0x6696307153897522acde88f6dd1aa=_)
abbrev Zj:=rP (SJ (.int .i64 1))
def SN:=(by conv=>lhs;reduce:dC [Ua,Ub,Uc,Ud] [Ya] 0x18e4fdeb92de640825596dc0aa882efe08be9f86dd706f5e1530feedf888f18fbd785ff0225df1522eaf23aa6cd4e3094390a7bb01f163b294d463e46342c9c8ebe5949cc3956b55f3de71b255fdfe3b8a2983d6d9d22a8d3b218fe3608826e4385032a2a3b41a9=_)
def nL:=rO (SN (.int .i64 2) (.int .i64 0) (.str []) (.int .i64 3) Zj)
def SK:=(by conv=>lhs;reduce:dC [Ua] [] 0xa892e38f806126c67aed183535ec979f41fe=_)
abbrev Zk:=rP (SK (.int .i64 3))
def SL:=(by conv=>lhs;reduce:dC [Ua,Ub,Uc,Ud,Ue,Uf] [Ya] 0x1f88f1fc8eebc90934124a3916ae019fd66473cfcc0c50c19d7fca0cfb3284e8b77dde1fac410b1e9a610a9cc956a0d03eaccbf4677782709fd0bc87a98960dba511792c2832d95b6c71383d08a503cecc41fdb4b6ddcc8dd472e5ea940d2b05a9af3ce5cb9ca04cf98ebdae165bea360e971e43293fc62dcec7344817426c800e1447dd0a8db804501db4bf7be3626049713c8fd41c6f770e9331fc826889195905fc612acc8ca45d2e741fb=_)
abbrev Zl:=rP (SL (.int .i64 0) (.bool false) (.str [43]) (.str [45]) (.str [42]) (.str [47]) Zk)
def SM:=(by conv=>lhs;reduce:dC [Ua,Ub] [Ya,Yb] 0x3853426f8a236797b0bd34515857dd3561725552cdd07a=_)
abbrev Zm:=rP (SM .cV (.int .i64 0) nL Zl)
def ab8:=(by conv=>lhs;reduce:dC [Ua,Ub,Uc,Ud] [Ya,Yb] 0x4020a19263efa55c5bc1fec17550169a362a50826ecfc31c7c75e4a7daa09657cdf11087742f=_)
abbrev ajX:=rP (ab8 (.int .i64 0) (.str []) (.int .i64 2) (.bool false) Zi Zm)
def Dk:aD pg 231 126 ajX [.c 6 3 true]:= .o2 Tryz.func231 (by kernel_rfl)
def akF (op:Bytes):∃ B1 B2 B3 B4,(op==[43])=B1/\(op==[45])=B2/\(op==[42])=B3/\(op==[47])=B4/\(B1=true∨(B1=false/\B2=true)∨(B1=false/\B2=false/\B3=true)∨(B1=false/\B2=false/\B3=false/\B4=true)∨(B1=false/\B2=false/\B3=false/\B4=false)):=by
 refine ⟨_,_,_,_,rfl,rfl,rfl,rfl,?_⟩;cases (op==[43])<;>cases (op==[45])<;>cases (op==[42])<;>cases (op==[47])<;>simp
def aeT {α:Type} {φ:α->Prop} {B1 B2 B3 B4:Bool} {v1 v2 v3 v4 v5:α} (h1:φ v1) (h2:φ v2) (h3:φ v3) (h4:φ v4) (h5:φ v5):
  ∃ v,φ v/\(B1=true->v=v1)/\(B1=false->B2=true->v=v2)/\(B1=false->B2=false->B3=true->v=v3)/\(B1=false->B2=false->B3=false->B4=true->v=v4)/\(B1=false->B2=false->B3=false->B4=false->v=v5):=by
 cases B1
 ·cases B2
  ·cases B3
   ·cases B4
    ·exact ⟨v5,h5,by simp⟩
    ·exact ⟨v4,h4,by simp⟩
   ·exact ⟨v3,h3,by simp⟩
  ·exact ⟨v2,h2,by simp⟩
 ·exact ⟨v1,h1,by simp⟩
def ajJ (hg:ae gl) (op:Bytes) (a b:bX) (ha:((a.s.length:Nat):Int)<=1048576):∃ V:bX,((V.s.length:Nat):Int)<=1048576/\Pure pg gl 231 [.str op,a.av,b.av] (.ok V.av):=by
 obtain ⟨ak,an,sa⟩:=a;obtain ⟨bk,bn,sb⟩:=b;obtain ⟨B1,B2,B3,B4,o1,o2,o3,o4,hB⟩:=akF op
 by_cases hA:ak=2/\bk=2
 ·obtain ⟨rfl,rfl⟩:=hA;obtain ⟨xh,xl,ux,hx⟩:=XI hg an;obtain ⟨yh,yl,uy,hy⟩:=XI hg bn;obtain ⟨w1,z1,u1,g1⟩:=ajL hg xh yh ux uy;obtain ⟨w2,z2,u2,g2⟩:=ajM hg xh yh ux uy;obtain ⟨w3,z3,u3,g3⟩:=XJ hg an bn;obtain ⟨w4,z4,u4,g4⟩:=ajK hg ha;unfold bX.av at g4;obtain ⟨⟨c1,m1,t1⟩,l1,j1⟩:=I8 hg 2 w1 1 u1;obtain ⟨⟨c2,m2,t2⟩,l2,j2⟩:=I8 hg 2 w2 1 u2;obtain ⟨⟨c3,m3,t3⟩,l3,j3⟩:=I8 hg 2 w3 1 u3;obtain ⟨⟨c4,m4,t4⟩,l4,j4⟩:=I8 hg 3 w4 bn u4;unfold bX.av at j1 j2 j3 j4;obtain ⟨V,hV,p1,p2,p3,p4,p5⟩:=aeT (φ:=fun V:bX=>((V.s.length:Nat):Int)<=1048576) (B1:=B1) (B2:=B2) (B3:=B3) (B4:=B4) l1 l2 l3 l4 l4;refine ⟨V,hV,?_⟩;clear hV ha;rcases hB with rfl|⟨rfl,rfl⟩|⟨rfl,rfl,rfl⟩|⟨rfl,rfl,rfl,rfl⟩|⟨rfl,rfl,rfl,rfl⟩
  all_goals first|obtain rfl:=p1 rfl|obtain rfl:=p2 rfl rfl|obtain rfl:=p3 rfl rfl rfl|obtain rfl:=p4 rfl rfl rfl rfl|obtain rfl:=p5 rfl rfl rfl rfl
  all_goals
   clear p1 p2 p3 p4 p5;unfold bX.av;refine ⟨?_,by simp only [bz,cz,forall_eq_or_imp,forall_eq,implies_true],by simp only [cz,forall_eq_or_imp,forall_eq,implies_true]⟩;simp only [bz];refine .aC Dk (by simp) (ab 200 ?_)
   repeat' with_reducible first|refine ar ?_|refine au ?_|refine .pu (hx) hg rfl ?_|refine .pu (hy) hg rfl ?_|refine .pu (g1) hg rfl ?_|refine .pu (j1) hg rfl ?_|refine .pu (g2) hg rfl ?_|refine .pu (j2) hg rfl ?_|refine .pu (g3) hg rfl ?_|refine .pu (j3) hg rfl ?_|refine .pu (g4) hg rfl ?_|refine .pu (j4) hg rfl ?_|refine ⟨?_,?_⟩|intro _|simp only [go_sem,seval,o1,o2,o3]
 ·have x2:((2:Nat):Int)=2:=rfl;have w1:IntKind.i64.wrap 1=1:=by decide
  have w2:IntKind.i64.wrap 2=2:=by decide
  obtain ⟨A,ea⟩:∃ A,(ak==2)=A:=⟨_,rfl⟩;obtain ⟨B,eb⟩:∃ B,(bk==2)=B:=⟨_,rfl⟩;have hAB:A=false∨B=false:=by cases A<;>cases B<;>simp_all
  obtain ⟨m1,b1,h1⟩:=XK hg an;obtain ⟨m2,b2,h2⟩:=XK hg bn
  obtain ⟨n1,e1,e1'⟩:∃ n1,(A=true->n1=m1)/\(A=false->n1=an):=by
   cases A
   ·exact ⟨an,by simp⟩
   ·exact ⟨m1,by simp⟩
  obtain ⟨n2,e2,e2'⟩:∃ n2,(B=true->n2=m2)/\(B=false->n2=bn):=by
   cases B
   ·exact ⟨bn,by simp⟩
   ·exact ⟨m2,by simp⟩
  obtain ⟨q,c,hq,c1,c2,c3,c4,c5⟩:∃ q c,True/\(B1=true->Pure pg gl 281 [.int .i64 n1,.int .i64 n2] (.ok (.aF [.int .i64 q,.bool c])))/\(B1=false->B2=true->Pure pg gl 282 [.int .i64 n1,.int .i64 n2] (.ok (.aF [.int .i64 q,.bool c])))/\(B1=false->B2=false->B3=true->Pure pg gl 283 [.int .i64 n1,.int .i64 n2] (.ok (.aF [.int .i64 q,.bool c])))/\(B1=false->B2=false->B3=false->B4=true->Pure pg gl 284 [.int .i64 n1,.int .i64 n2] (.ok (.aF [.int .i64 q,.bool c])))/\(B1=false->B2=false->B3=false->B4=false->q=0/\c=false):=by
   cases B1
   ·cases B2
    ·cases B3
     ·cases B4
      ·exact ⟨0,false,by simp⟩
      ·obtain ⟨q,c,h⟩:=I9 hg (.inr (.inr (.inr rfl))) n1 n2;exact ⟨q,c,by simp [h]⟩
     ·obtain ⟨q,c,h⟩:=I9 hg (.inr (.inr (.inl rfl))) n1 n2;exact ⟨q,c,by simp [h]⟩
    ·obtain ⟨q,c,h⟩:=I9 hg (.inr (.inl rfl)) n1 n2;exact ⟨q,c,by simp [h]⟩
   ·obtain ⟨q,c,h⟩:=I9 hg (.inl rfl) n1 n2;exact ⟨q,c,by simp [h]⟩
  obtain ⟨⟨vk,vn,vs⟩,hV,h3⟩:=ajI hg 3 q c
  obtain ⟨V,hV,f1,f2⟩:∃ V:bX,((V.s.length:Nat):Int)<=1048576/\((A=true/\b1=false∨B=true/\b2=false)->V=⟨0,0,[]⟩)/\(¬(A=true/\b1=false∨B=true/\b2=false)->V=⟨vk,vn,vs⟩):=by
   by_cases h:A=true/\b1=false∨B=true/\b2=false
   ·exact ⟨⟨0,0,[]⟩,by decide,by simp [h]⟩
   ·exact ⟨_,hV,by simp [h]⟩
  refine ⟨V,hV,?_⟩;unfold bX.av at h3
  by_cases hz:A=true/\b1=false∨B=true/\b2=false
  ·obtain rfl:=f1 hz;rcases hz with ⟨rfl,rfl⟩|⟨rfl,rfl⟩
   ·obtain rfl:B=false:=by simpa using hAB
    unfold bX.av;refine ⟨?_,by simp only [bz,cz,forall_eq_or_imp,forall_eq,implies_true],by simp only [cz,forall_eq_or_imp,forall_eq,implies_true]⟩;simp only [bz];refine .aC Dk (by simp) (ab 200 ?_)
    repeat' with_reducible first|refine ar ?_|refine au ?_|refine ah.ek (ab 60 (bM nL.eq_1 ?_))|refine ah.inLoop (ab 60 (bM nL.eq_1 ?_))|refine .pu (h1) hg rfl ?_|refine ⟨?_,?_⟩|intro _|simp only [go_sem,seval,ea,eb,x2,w1,w2]
   ·obtain rfl:A=false:=by simpa using hAB
    unfold bX.av;refine ⟨?_,by simp only [bz,cz,forall_eq_or_imp,forall_eq,implies_true],by simp only [cz,forall_eq_or_imp,forall_eq,implies_true]⟩;simp only [bz];refine .aC Dk (by simp) (ab 200 ?_)
    repeat' with_reducible first|refine ar ?_|refine au ?_|refine ah.ek (ab 60 (bM nL.eq_1 ?_))|refine ah.inLoop (ab 60 (bM nL.eq_1 ?_))|refine .pu (h2) hg rfl ?_|refine ⟨?_,?_⟩|intro _|simp only [go_sem,seval,ea,eb,x2,w1,w2]
  obtain rfl:=f2 hz;have hc:(A=false/\B=false)∨(A=true/\B=false/\b1=true)∨(A=false/\B=true/\b2=true):=by cases A<;>cases B<;>cases b1<;>cases b2<;>simp_all
  rcases hc with ⟨rfl,rfl⟩|⟨rfl,rfl,rfl⟩|⟨rfl,rfl,rfl⟩
  all_goals first|obtain rfl:=e1 rfl|obtain rfl:=e1' rfl
  all_goals first|obtain rfl:=e2 rfl|obtain rfl:=e2' rfl
  all_goals rcases hB with rfl|⟨rfl,rfl⟩|⟨rfl,rfl,rfl⟩|⟨rfl,rfl,rfl,rfl⟩|⟨rfl,rfl,rfl,rfl⟩
  all_goals first|have g:=c1 rfl|have g:=c2 rfl rfl|have g:=c3 rfl rfl rfl|have g:=c4 rfl rfl rfl rfl|(obtain ⟨rfl,rfl⟩:=c5 rfl rfl rfl rfl;have g:=h3)
  all_goals
   unfold bX.av;refine ⟨?_,by simp only [bz,cz,forall_eq_or_imp,forall_eq,implies_true],by simp only [cz,forall_eq_or_imp,forall_eq,implies_true]⟩;simp only [bz];refine .aC Dk (by simp) (ab 200 ?_)
   repeat' with_reducible first|refine ar ?_|refine au ?_|refine ah.ek (ab 60 (bM nL.eq_1 ?_))|refine ah.inLoop (ab 60 (bM nL.eq_1 ?_))|refine .pu (h1) hg rfl ?_|refine .pu (h2) hg rfl ?_|refine .pu (g) hg rfl ?_|refine .pu (h3) hg rfl ?_|refine ⟨?_,?_⟩|intro _|simp only [go_sem,seval,ea,eb,x2,w1,w2,o1,o2,o3,o4]
abbrev aie:az:=bA [.c .s,tV,tV] [tV]
def alj (hg:ae gl):Spec pg gl 231 aie (fun _=>True):=gR (fun ρ vs hv _ _ _=>by
 obtain ⟨w0,ws0,rfl,⟨op,rfl,_⟩,⟨w,ws,rfl,⟨us,rfl,⟨v0,vs1,rfl,⟨a,rfl,_⟩,⟨v1,vs2,rfl,⟨b,rfl,_⟩,⟨v2,vs3,rfl,⟨c,rfl,hc⟩,rfl⟩⟩⟩⟩,⟨w',ws',rfl,⟨us',rfl,⟨v0',vs1',rfl,⟨a',rfl,_⟩,⟨v1',vs2',rfl,⟨b',rfl,_⟩,⟨v2',vs3',rfl,⟨c',rfl,_⟩,rfl⟩⟩⟩⟩,rfl⟩⟩⟩:=hv;obtain ⟨V,h1,h2⟩:=ajJ hg op ⟨a,b,c⟩ ⟨a',b',c'⟩ hc
 exact ⟨[V.av],h2,pC (pV h1) pN,aH.nil _⟩) fun _ _ _=>rE
end
abbrev ahS:az:=bA [.c .s,tV,tV] [tV]
def ak5 (hg:ae gl):Sp gl 188 ahS:=ay hg (aJ [] []) (xc (alh hg) (xc (Pe hg) (xc (Pg hg) (xc (Pc hg) (xc (ali hg) (xc (Pf hg) (xc (alj hg) xn))))))) 61 (dM 0xff59b50d30abaf5685e4d843616a618b33c79bdfaa28b7c8b45796b820b04ffedcf989775476eaaa5cfae9cf4b09e6dfd8fdd20bfd7dd167ff9d0532680a0f3aa914162615c89974737e037df468c60f04fcf8ba761e547f71a4d6ea88654481c96825978cd8191338ab9df93ab756533d45f5fe54a2f55f6a63ee6e0b1ea8b3db1549c48437d26ff2cf99f268d0d0f1e8f33f219847fec9ea3565e14468d17e660596dd0e88e1480bbdbc5b35375da01ee3da69ba667dd8662ca8712de353c31d2c2d59dc05e5394ed28a63354db92f652959f1b1105f81ed1b0eaec86016a1ea6db9d9d787615324b475e74d8a0f7aca7c4afe186d6892f865ed39e6c0d9f29d24ae20bed9f8d027092f43d1784f28a4d1604ade4f47d) [.c 6 3 true] Tryz.func188 (by kernel_rfl)
def jD {xs:List AV} (h:xs.map AV.fg=xs):∀ x∈xs,x.fg=x:=fun x hx=>by
 obtain ⟨i,hi⟩:=Bo hx;have e:=congrArg (fun l=>l[i]?) h;simp only [Ap,hi,Option.map_some] at e;injection e
def Tp.nm {tt:TT} {v:AV} (h:Tp tt v):v.fg=v->Nm v:=by
 have key:∀ {cs:List CT} {vs:List AV},vs.length=cs.length->(∀ (m:Nat) c v,cs[m]? =some c->vs[m]? =some v->v.fg=v->Nm v)->(AV.agg vs).fg= .agg vs->Nm (.agg vs):=fun {cs vs} hl ih e=>by
  rw [db] at e;injection e with e
  refine .agg fun v hv=>?_;obtain ⟨i,hi⟩:=Bo hv;obtain ⟨c,hc⟩:=aK (show i<cs.length by rw [<-hl];exact (Bz.1 hi).1);exact ih i c v hc hi (jD e v hv)
 induction h with
 |int k n h=>exact fun _=> .int k n
 |bool b=>exact fun _=> .bool b
 |str h=>exact fun _=> .str _
 |sl hl hz hk h ih=>
  intro e;rw [fp] at e;injection e with _ e1 e2
  subst e2;exact .sl fun x hx=>ih x hx (jD e1 x hx)
 |sc hg h ih=>exact ih
 |st hg hl h ih=>exact key hl ih
 |rf hg hl h hc ih=>exact key hl ih
def uG {vs:List AV}:my [] vs↔vs=[]:=by cases vs<;>simp [my]
def bW {c:CT} {cs:List CT} {vs:List AV}:my (c::cs) vs↔∃ w ws,vs=w::ws/\Tp (.c c) w/\my cs ws:=by
 cases vs with
 |nil=>simp [my]
 |cons v vs=>
  constructor
  ·exact fun h=>⟨v,vs,rfl,h⟩
  ·rintro ⟨w,ws,e,h⟩;cases e;exact h
def tpV {v:AV} (h:Tp (.e 26) v):∃ V:bX,v=V.av/\((V.s.length:Nat):Int)<=1048576:=by
 obtain ⟨vs,rfl,q⟩:=(rK Γ26).1 h;obtain ⟨w0,_,rfl,h0,q⟩:=bW.1 q;obtain ⟨w1,_,rfl,h1,q⟩:=bW.1 q;obtain ⟨w2,_,rfl,h2,q⟩:=bW.1 q;obtain rfl:=uG.1 q;obtain ⟨a,rfl,_⟩:=jz.1 h0;obtain ⟨b,rfl,_⟩:=jz.1 h1;obtain ⟨c,rfl,hc⟩:=lq.1 h2;exact ⟨⟨a,b,c⟩,rfl,by show ((c.length:Nat):Int)<=_;omega⟩
def tpF {v:AV} (h:Tp (.e 103) v):∃ nm c1 c2 c3,v= .agg [.str nm,c1,c2,c3]:=by
 obtain ⟨vs,rfl,q⟩:=(rK Γ103).1 h;obtain ⟨w0,_,rfl,h0,q⟩:=bW.1 q;obtain ⟨w1,_,rfl,h1,q⟩:=bW.1 q;obtain ⟨w2,_,rfl,h2,q⟩:=bW.1 q;obtain ⟨w3,_,rfl,h3,q⟩:=bW.1 q;obtain rfl:=uG.1 q;obtain ⟨a,rfl,_⟩:=lq.1 h0;exact ⟨a,_,_,_,rfl⟩
structure TX (x:Xp):Prop where
 n:x.N
 op:((x.op.length:Nat):Int)<=1048576
 s6:((x.s6.length:Nat):Int)<=1048576
 tb:((x.tb.length:Nat):Int)<=1048576
 len:x.args.length<=1048576
 args:∀ a∈x.args,Tp (.e 32) a/\a.fg=a
def JZ {k e:Nat} {v:AV} (h:Tp (.c (.l k e)) v) (hf:v.fg=v):∃ xs,v= .sl k xs .ai/\xs.length<=1048576/\∀ x∈xs,Tp (.e e) x/\x.fg=x:=by
 obtain ⟨xs,t,rfl,h1,h2,h3⟩:=Pz.1 h;rw [fp] at hf;injection hf with _ e1 e2
 subst e2;exact ⟨xs,rfl,h1,fun x hx=>⟨h3.e x hx,jD e1 x hx⟩⟩
def tpX {v:AV} (h:Tp (.e 32) v) (hf:v.fg=v):∃ x:Xp,v= .agg x.l/\TX x:=by
 obtain ⟨vs,rfl,q⟩:=(rK Γ32).1 h;rw [db] at hf;injection hf with hf
 have hm:=jD hf;obtain ⟨w0,_,rfl,h0,q⟩:=bW.1 q;obtain ⟨w1,_,rfl,h1,q⟩:=bW.1 q;obtain ⟨w2,_,rfl,h2,q⟩:=bW.1 q;obtain ⟨w3,_,rfl,h3,q⟩:=bW.1 q;obtain ⟨w4,_,rfl,h4,q⟩:=bW.1 q;obtain ⟨w5,_,rfl,h5,q⟩:=bW.1 q;obtain ⟨w6,_,rfl,h6,q⟩:=bW.1 q;obtain ⟨w7,_,rfl,h7,q⟩:=bW.1 q;obtain ⟨w8,_,rfl,h8,q⟩:=bW.1 q;obtain ⟨w9,_,rfl,h9,q⟩:=bW.1 q;obtain ⟨wA,_,rfl,hA,q⟩:=bW.1 q;obtain ⟨wB,_,rfl,hB,q⟩:=bW.1 q;obtain rfl:=uG.1 q;obtain ⟨a0,rfl,_⟩:=jz.1 h0;obtain ⟨a1,rfl,l1⟩:=lq.1 h1;obtain ⟨a2,rfl,_⟩:=lq.1 h2;obtain ⟨a3,rfl,l3⟩:=lq.1 h3;obtain ⟨a4,rfl,_⟩:=jz.1 h4;obtain ⟨a5,rfl,_⟩:=jz.1 h5;obtain ⟨a6,rfl,l6⟩:=lq.1 h6;obtain ⟨a8,rfl,_⟩:=jz.1 h8;obtain ⟨a9,rfl,_⟩:=jz.1 h9;obtain ⟨aA,rfl,_⟩:=jz.1 hA;obtain ⟨a7,rfl,_,m7⟩:=JZ h7 (hm w7 (by simp));obtain ⟨aB,rfl,lB,mB⟩:=JZ hB (hm wB (by simp));exact ⟨⟨a0,a1,a2,a3,a4,a5,a6,a7,a8,a9,aA,aB⟩,rfl,⟨fun v hv=>(m7 v hv).1.nm (m7 v hv).2,fun v hv=>(mB v hv).1.nm (mB v hv).2⟩,by show ((a1.length:Nat):Int)<=_;omega,by show ((a6.length:Nat):Int)<=_;omega,by show ((a3.length:Nat):Int)<=_;omega,lB,mB⟩
def ajF (hg:ae gl) {op:Bytes} (ho:((op.length:Nat):Int)<=1048576) {a:bX} (ha:((a.s.length:Nat):Int)<=1048576):∃ V:bX,((V.s.length:Nat):Int)<=1048576/\Pure pg gl 187 [.str op,a.av] (.ok V.av):=by
 obtain ⟨rs,h1,h2,_⟩:=dA (ak4 hg) (pC (pS ho) (pC (pV ha) pN)) (aH.nil _);obtain ⟨V,hu,rfl⟩:=oV h2;exact ⟨V,hu,h1⟩
def ajG (hg:ae gl) {op:Bytes} (ho:((op.length:Nat):Int)<=1048576) {a b:bX} (ha:((a.s.length:Nat):Int)<=1048576) (hb:((b.s.length:Nat):Int)<=1048576):∃ V:bX,((V.s.length:Nat):Int)<=1048576/\Pure pg gl 188 [.str op,a.av,b.av] (.ok V.av):=by
 obtain ⟨rs,h1,h2,_⟩:=dA (ak5 hg) (pC (pS ho) (pC (pV ha) (pC (pV hb) pN))) (aH.nil _);obtain ⟨V,hu,rfl⟩:=oV h2;exact ⟨V,hu,h1⟩
def ajH (hg:ae gl) {a:bX} (ha:((a.s.length:Nat):Int)<=1048576):∃ b,Pure pg gl 189 [a.av] (.ok (.bool b)):=by
 obtain ⟨rs,h1,h2,_⟩:=dA (Pc hg) (pC (pV ha) pN) (aH.nil _);obtain ⟨b,rfl⟩:=oB h2;exact ⟨b,h1⟩
def ab2:=(by conv=>lhs;reduce:dC [Ua] [] 0x2ef48c7ed0b20fe2f5baf8b273bd29aa2d77419=_)
abbrev YD:=rP (ab2 (.bool false))
def Qc:aD pg 147 9 YD [.t 3]:= .o2 Tryz.func147 (by kernel_rfl)
def Sc:=(by conv=>lhs;reduce:dC [Ua] [] 0x824ef974830ac451127990678d099140f82cccdc361bbc3ae688e8b74a131ce3228f1bba8d01baca1a760f42b=_)
def EZ:=rO (Sc (.int .i64 1))
def R9:=(by conv=>lhs;reduce:dC [Ua] [] 0x187970b45=_)
abbrev YC:=rP (R9 (.int .i64 (-1)))
def ab1:=(by conv=>lhs;reduce:dC [Ua] [Ya,Yb] 0x124712cd191c659fc672abc74b09c1c4b419=_)
abbrev YB:=rP (ab1 (.int .i64 0) EZ YC)
def Qb:aD pg 146 19 YB [.t 4]:= .o2 Tryz.func146 (by kernel_rfl)
def ab4:=(by conv=>lhs;reduce:dC [Ua,Ub] [] 0x2a99e2badb202bc0b3695424d42e41d8e34682176ba7fcaff1754b5ca255f7ee6c1804217c6f41e=_)
abbrev ajU:=rP (ab4 (.int .i64 0) (.str []))
def adj:aD pg 149 14 ajU [.c 5 3 true]:= .o2 Tryz.func149 (by kernel_rfl)
def Sd:=(by conv=>lhs;reduce:dC [Ua,Ub] [] 0x25d26127562c000ea98459463c=_)
abbrev YE:=rP (Sd (.int .i64 0) (.str []))
def Se:=(by conv=>lhs;reduce:dC [Ua,Ub,Uc,Ud,Ue,Uf,Ug] [] 0x27b2c330d77c17f06ed0c34c49a6c4c08ddda632b31232846397430894d3612f1e711b51297efb1815e72df4f79f7c1da1dce0e8c5ce681eb6e1b8985cb91d145d33e33e5dbd12a465c7309f3892ca1981d25ae8abb4fa87258d535f0771b5b8d5dd9f9f90a1ad75f668624f6f8b9d733c7e48c9e548b9238a575dc6dee9dfbcd3d1a6d3c40f15ac37b082b3ca95cf75a584af219475b47c=_)
abbrev YF:=rP (Se (.int .i64 0) (.str []) (.int .i64 6) (.int .i64 7) (.int .i64 1) (.int .i64 8) (.int .i64 2))
def ab3:=(by conv=>lhs;reduce:dC [Ua,Ub,Uc,Ud,Ue,Uf] [Ya,Yb] 0x4ed584931aa51ec1ebe66816b91cb13893ca2a1f8319fa9f7625a089fae2529f1a38a62c5de22621981b34bc003027bfc50e77106fbd122bd51a5ba86079a15812b209a898919a0e69b5de89f43b=_)
abbrev ajT:=rP (ab3 (.int .i64 0) (.str []) (.int .i64 1) (.int .i64 2) (.int .i64 3) (.bool true) YE YF)
def adi:aD pg 148 60 ajT [.c 4 3 true]:= .o2 Tryz.func148 (by kernel_rfl)
def RB:=(by conv=>lhs;reduce:dC [Ua,Ub] [] 0x31d7e59e06562b7e8bbe16863e=_)
abbrev XY:=rP (RB (.int .i64 0) (.str []))
def RC:=(by conv=>lhs;reduce:dC [] [] 0x1085fae8626e5209a5b12b48b302f99f44b=_)
abbrev XZ:=rP RC
def RD:=(by conv=>lhs;reduce:dC [] [] 0xbed03dcd5a1441a55665d46f192d898e956d1a1a503e65b=_)
abbrev X0:=rP RD
def RE:=(by conv=>lhs;reduce:dC [Ua,Ub] [] 0x78f8121dd4edbd70aef45c=_)
abbrev X2:=rP (RE (.int .i64 0) (.str []))
def abP:=(by conv=>lhs;reduce:dC [Ua,Ub,Uc,Ud,Ue,Uf,Ug,Uh,Ui] [Ya,Yb,Yc,Yd] 0x3110c453770a0b342746e50ca9b7a8f9627d8503344665658a8f411ab1f3c5b396bbb4ebab52fb02a501fce0c58ab20635b74556af56f2698a6f1150c017c2a97f8af87415c0ce3b5e4acfa2ea4be9269e5abd67403f16f6d3701457ff33f46808fa991c5089de116985237659ddddd35e17018be65ebbe7129ca077f88b7f458=_)
abbrev XX:=rP (abP (.int .i64 0) (.str []) (.int .i64 1) (.int .i64 2) (.bool true) (.int .i64 6) (.int .i64 7) (.int .i64 8) (.int .i64 9) XY XZ X0 X2)
def P5:aD pg 103 44 XX [.c 6 3 true]:= .o2 Tryz.func103 (by kernel_rfl)
def af7 (nm:Bytes) (c1 c2 c3:AV) (x:Xp) (xb N nt:Nat) (ob:List (Nat×List AV)) (lv:List Nat) (hf:bJ N ob) (h1:List.lookup xb ob=some x.l):
  ao pg 147 [.agg [.str nm,c1,c2,c3],.ptr xb 0] ⟨N,ob,nt,lv,gl⟩ (eJ (fun o=>o= .ok (.bool (nm==x.s2))) ⟨N,ob,nt,lv,gl⟩):=by
 have hkN:(xb=N)=False:=eq_false (hf.ne h1);have hgk:∀ M,St.get ⟨M,ob,nt,lv,gl⟩ xb=some x.l:=fun _=>h1;unfold Xp.l at hgk;refine gu (.aC Qc (by simp) ?_);generalize hK:bI [RV.t 3] _=Q;refine ab 60 ?_
 repeat' with_reducible first|refine ar ?_|refine au ?_|refine ⟨?_,?_⟩|intro _|simp only [go_sem,seval,hgk,hkN]
 all_goals first
  |(rw [<-hK];simp only [aM];done)
  |skip
 rw [<-hK];simp only [go_sem,seval];refine ⟨by omega,fun l cs h=>?_,fun t h=>h⟩;rw [aw (hf.ne h)];exact h
def vJ (p:AV->Bool):List AV->Int->Int
 |[],_=> -1
 |x::xs,i=>if p x then i else vJ p xs (i+1)
def af6 (f:FuncId) (caps xs:List AV) (p:AV->Bool) (N nt:Nat) (ob:List (Nat×List AV)) (lv:List Nat) (hn:xs.length<4294967296) (hx4:∀ x∈xs,∃ nm c1 c2 c3,x= .agg [.str nm,c1,c2,c3])
  (hp:∀ N' nt',N<=N'->∀ x∈xs,ao pg f (x::caps) ⟨N',ob,nt',lv,gl⟩ (eJ (fun o=>o= .ok (.bool (p x))) ⟨N',ob,nt',lv,gl⟩)):
  ao pg 146 [.sl 4 xs .ai,.fn (.func f) [] caps] ⟨N,ob,nt,lv,gl⟩ (eJ (fun o=>o= .ok (.int .i64 (vJ p xs 0))) ⟨N,ob,nt,lv,gl⟩):=by
 refine .aC Qb (by simp) (ab 60 ?_);generalize hK:bI [RV.t 4] _=Q
 repeat' with_reducible first|refine ar ?_|refine au ?_|refine ⟨?_,?_⟩|intro _|simp only [go_sem,seval]
 refine .dD xs.length (fun i F S=>F=[(0,.sl 4 xs .ai),(1,.fn (.func f) [] caps),(7,.int .i64 (xs.length:Int)),(8,.int .i64 (i:Int))]/\(∃ N' nt',N<=N'/\S=⟨N',ob,nt',lv,gl⟩)/\vJ p xs 0=vJ p (xs.drop i) i) ⟨rfl,⟨N,nt,Af _,rfl⟩,rfl⟩ ?_;rintro i F S hi ⟨rfl,⟨N',nt',hN,rfl⟩,he⟩ ih
 by_cases h:i<xs.length
 ·obtain ⟨x,hx⟩:=aK h;have hd:=bY hx;have hm:=Aj hx;obtain ⟨nm,c1,c2,c3,rfl⟩:=hx4 _ hm;have hcall:=hp N' nt' hN _ hm;refine bp EZ.eq_1 ?_
  repeat' first
   |with_reducible first|refine ar ?_|refine au ?_|refine bS (hcall) fun _ _ _=>?_|refine cw (hcall) (fun _ _ _=>by first|exact (fun h=>(by cases h))|(first|exact of_eq_true bh|simp only [cT,cA,eS,bh,and_self])) fun _ _ _=>?_|refine ⟨?_,?_⟩|intro _
   |simp only [go_sem,seval,hx,fk h,eD h,ba (show i<9223372036854775807 by omega)]
  ·rename_i N2 nt2 hN2 hb;rw [<-hK,he,hd];simp only [go_sem,seval];unfold vJ;rw [if_pos hb];exact ⟨rfl,_,_,AH hN hN2,rfl⟩
  ·rename_i N2 nt2 hN2 hb;refine ih h _ _ ⟨rfl,⟨N2,nt2,by omega,rfl⟩,?_⟩;rw [he,hd,vJ,if_neg (by rw [hb];exact B6)];rfl
 ·refine bp EZ.eq_1 ?_
  repeat' first
   |with_reducible first|refine ar ?_|refine au ?_|refine ⟨?_,?_⟩|intro _
   |simp only [go_sem,seval,fE (Am h)]
  rw [<-hK,he,AE (Am h)];simp only [go_sem,seval];exact ⟨rfl,_,_,hN,rfl⟩
def af9 (hg:ae gl) (t:Tb) (r:Rw) (x:Xp) (i:Nat) (a:List AV) (V:bX) (tb rb xb N nt:Nat) (ob:List (Nat×List AV)) (lv:List Nat) (hf:bJ N ob) (h1:List.lookup tb ob=some t.l) (h2:List.lookup rb ob=some r.l) (h3:List.lookup xb ob=some x.l)
  (ha:x.args[i]? =some (.agg a)) (hal:a.length=12) (h103:Pure pg gl 103 [.agg t.l,r.av,.agg a] (.ok V.av)):
  ao pg 149 [.int .i64 (i:Int),.ptr tb 0,.ptr rb 0,.ptr xb 0] ⟨N,ob,nt,lv,gl⟩ (eJ (fun o=>o= .ok V.av) ⟨N,ob,nt,lv,gl⟩):=by
 have hN1:(tb=N)=False:=eq_false (hf.ne h1);have hN2:(rb=N)=False:=eq_false (hf.ne h2);have hN3:(xb=N)=False:=eq_false (hf.ne h3);have hN4:(N=xb)=False:=eq_false fun e=>hf.ne h3 e.symm;have g1:∀ M,St.get ⟨M,ob,nt,lv,gl⟩ tb=some t.l:=fun _=>h1;have g2:∀ M,St.get ⟨M,ob,nt,lv,gl⟩ rb=some r.l:=fun _=>h2;have g3:∀ M,St.get ⟨M,ob,nt,lv,gl⟩ xb=some x.l:=fun _=>h3;have y0:(12<=a.length)=True:=eq_true (by omega);have z0:List.take 12 a=a:=AR (by omega);have hi:i<x.args.length:=(Bz.1 ha).1;unfold Tb.l at g1;unfold Rw.l at g2;unfold Xp.l at g3;unfold Rw.av Rw.l Tb.l bX.av at h103;refine gu (.aC adj (by simp) ?_);generalize hK:bI [RV.c 5 3 true] _=Q;refine ab 60 ?_
 repeat' with_reducible first|refine ar ?_|refine au ?_|refine .pu (h103) hg rfl ?_|refine ⟨?_,?_⟩|intro _|simp only [go_sem,seval,g1,g2,g3,hN1,hN2,hN3,hN4,ha,y0,z0,hal,eD hi]
 all_goals first
  |(rw [<-hK];simp only [aM];done)
  |skip
 rw [<-hK];simp only [go_sem,seval];refine ⟨by omega,fun l cs h=>?_,fun t h=>h⟩;rw [aw (hf.ne h),aw (hf.ne h)];exact h
def qS {q:IntKind} {a:Int} {n l nt:Nat} {lv:List Nat} {ks vs:List AV} {ob:List (Nat×List AV)} {y:AV} (hl:List.lookup l ob=none) (h:eK (.int q a) ks vs=some none):
  ew q a ⟨n,(l,[.eX ks vs])::ob,nt,lv,gl⟩ (.mp l) y=some ⟨n,(l,[.eX (du a (.int q a) ks ks) (du a y ks vs)])::ob,nt,lv,gl⟩:=by
 have key:∀ (ob:List (Nat×List AV)) (cs:List AV),List.lookup l ob=none->ob.map (fun p=>if p.1=l then (l,cs) else p)=ob:=by
  intro ob cs
  induction ob with
  |nil=>intro _;rfl
  |cons p ob ih=>
   obtain ⟨a,b⟩:=p;intro h
   by_cases ha:a=l
   ·subst ha;simp at h
   ·rw [aw (fun e=>ha e.symm)] at h;rw [List.map_cons,ih h];simp only [if_neg ha]
 have hg:St.get ⟨n,(l,[.eX ks vs])::ob,nt,lv,gl⟩ l=some [.eX ks vs]:=aI;simp only [ew,hg,h,St.cK,List.map_cons,if_true,key _ _ hl]
def Ov {n l nt:Nat} {lv:List Nat} {ks vs:List AV} {ob:List (Nat×List AV)} {x v z:AV} (hk:lD false x=true) (h:eK x ks vs=some (some v)):
  nI true false z ⟨n,(l,[.eX ks vs])::ob,nt,lv,gl⟩ (.mp l) x=some (.aF [v,.bool true]):=by
 have hg:St.get ⟨n,(l,[.eX ks vs])::ob,nt,lv,gl⟩ l=some [.eX ks vs]:=aI;simp only [nI,hg,h,hk,if_true,Option.map_some,mX]
def af8 (hg:ae gl) (t:Tb) (r:Rw) (x:Xp) (U:Nat->bX) (hk:x.kd=6∨x.kd=7∨x.kd=8∨x.kd=9) (ho:((x.op.length:Nat):Int)<=1048576)
  (hU:∀ (i:Nat) a,x.args[i]? =some a->∃ a',a= .agg a'/\a'.length=12/\Pure pg gl 103 [.agg t.l,r.av,.agg a'] (.ok (U i).av)) (hs:∀ i,(((U i).s.length:Nat):Int)<=1048576):
  ∃ V:bX,((V.s.length:Nat):Int)<=1048576/\∀ (tb rb xb N nt:Nat) (ob:List (Nat×List AV)) (lv:List Nat),bJ N ob->List.lookup tb ob=some t.l->List.lookup rb ob=some r.l->List.lookup xb ob=some x.l->
   ao pg 148 [.agg x.l,.fn (.func 149) [] [.ptr tb 0,.ptr rb 0,.ptr xb 0]] ⟨N,ob,nt,lv,gl⟩ (eJ (fun o=>o= .ok V.av) ⟨N,ob,nt,lv,gl⟩):=by
 have key:∀ (tb rb xb N:Nat) (ob:List (Nat×List AV)) (lv:List Nat),bJ N ob->List.lookup tb ob=some t.l->List.lookup rb ob=some r.l->List.lookup xb ob=some x.l->∀ (i:Nat) (z:Int),z=i->z<x.args.length->∀ N' nt' ob',bJ N' ob'->(∀ l cs,List.lookup l ob=some cs->List.lookup l ob'=some cs)->
   ao pg 149 [.int .i64 z,.ptr tb 0,.ptr rb 0,.ptr xb 0] ⟨N',ob',nt',lv,gl⟩ (eJ (fun o=>o= .ok (.agg [.int .i64 (U i).kd,.int .i64 (U i).n,.str (U i).s])) ⟨N',ob',nt',lv,gl⟩):=fun tb rb xb N ob lv hf h1 h2 h3 i z hz hi N' nt' ob' hf' hup=>by
  subst hz;obtain ⟨a,ha⟩:=aK (show i<x.args.length by omega);obtain ⟨a',rfl,hal,h103⟩:=hU i a ha;exact af9 hg t r x i a' (U i) tb rb xb N' nt' ob' lv hf' (hup _ _ h1) (hup _ _ h2) (hup _ _ h3) ha hal h103
 obtain ⟨kd,op,s2,tb',n4,n5,s6,l7,n8,n9,qe,args⟩:=x;simp only at hk ho hU key ⊢
 obtain ⟨m,hm⟩:∃ m:Int,(kd=6/\m=1)∨(kd=7/\m=2)∨(kd=8/\m=3)∨(kd=9/\m=2):=by
  rcases hk with h|h|h|h
  ·exact ⟨1,.inl ⟨h,rfl⟩⟩
  ·exact ⟨2,.inr (.inl ⟨h,rfl⟩)⟩
  ·exact ⟨3,.inr (.inr (.inl ⟨h,rfl⟩))⟩
  ·exact ⟨2,.inr (.inr (.inr ⟨h,rfl⟩))⟩
 have hlk:eK (.int .i64 kd) [.int .i64 6,.int .i64 7,.int .i64 8,.int .i64 9] [.int .i64 1,.int .i64 2,.int .i64 3,.int .i64 2]=some (some (.int .i64 m)):=by rcases hm with ⟨rfl,rfl⟩|⟨rfl,rfl⟩|⟨rfl,rfl⟩|⟨rfl,rfl⟩<;>rfl
 have hnl:∀ (N:Nat) (ob:List (Nat×List AV)),bJ N ob->∀ c1 c0,List.lookup (N+1+1) ((N+1,c1)::(N,c0)::ob)=none:=fun N ob hf c1 c0=>by
  rw [aw (by omega),aw (by omega)];exact hf _ (by omega)
 obtain ⟨V,hV,hC⟩:∃ V:bX,((V.s.length:Nat):Int)<=1048576/\((m≠args.length/\V=⟨0,0,[]⟩)∨(m=args.length/\((kd=6/\Pure pg gl 187 [.str op,(U 0).av] (.ok V.av))∨(kd=7/\Pure pg gl 188 [.str op,(U 0).av,(U 1).av] (.ok V.av))∨
   (kd=8/\∃ b,Pure pg gl 189 [(U 0).av] (.ok (.bool b))/\(b=true->V=U 1)/\(b=false->V=U 2))∨(kd=9/\∃ b,((U 0).kd==0)=b/\(b=true->V=U 1)/\(b=false->V=U 0))))):=by
  by_cases hl:m=args.length
  ·rcases hk with h|h|h|h
   ·obtain ⟨V,h1,h2⟩:=ajF hg ho (hs 0);exact ⟨V,h1,.inr ⟨hl,.inl ⟨h,h2⟩⟩⟩
   ·obtain ⟨V,h1,h2⟩:=ajG hg ho (hs 0) (hs 1);exact ⟨V,h1,.inr ⟨hl,.inr (.inl ⟨h,h2⟩)⟩⟩
   ·obtain ⟨b,h2⟩:=ajH hg (hs 0);cases b
    ·exact ⟨U 2,hs 2,.inr ⟨hl,.inr (.inr (.inl ⟨h,false,h2,by simp⟩))⟩⟩
    ·exact ⟨U 1,hs 1,.inr ⟨hl,.inr (.inr (.inl ⟨h,true,h2,by simp⟩))⟩⟩
   ·cases hb:((U 0).kd==0)
    ·exact ⟨U 0,hs 0,.inr ⟨hl,.inr (.inr (.inr ⟨h,false,rfl,by simp⟩))⟩⟩
    ·exact ⟨U 1,hs 1,.inr ⟨hl,.inr (.inr (.inr ⟨h,true,rfl,by simp⟩))⟩⟩
  ·exact ⟨⟨0,0,[]⟩,by decide,.inl ⟨hl,rfl⟩⟩
 refine ⟨V,hV,?_⟩;intro tb rb xb N nt ob lv hf h1 h2 h3
 have hn:∀ c1 c0,List.lookup (N+1+1) ((N+1,c1)::(N,c0)::ob)=none:=fun c1 c0=>by
  rw [aw (by omega),aw (by omega)];exact hf _ (by omega)
 have i6:=fun c1 c0=>qS (gl:=gl) (n:=N+1+1+1) (nt:=nt) (lv:=lv) (q:= .i64) (a:=6) (ks:=[]) (vs:=[]) (y:= .int .i64 1) (hn c1 c0) rfl;have i7:=fun c1 c0=>qS (gl:=gl) (n:=N+1+1+1) (nt:=nt) (lv:=lv) (q:= .i64) (a:=7) (ks:=[.int .i64 6]) (vs:=[.int .i64 1]) (y:= .int .i64 2) (hn c1 c0) rfl;have i8:=fun c1 c0=>qS (gl:=gl) (n:=N+1+1+1) (nt:=nt) (lv:=lv) (q:= .i64) (a:=8) (ks:=[.int .i64 6,.int .i64 7]) (vs:=[.int .i64 1,.int .i64 2]) (y:= .int .i64 3) (hn c1 c0) rfl;have i9:=fun c1 c0=>qS (gl:=gl) (n:=N+1+1+1) (nt:=nt) (lv:=lv) (q:= .i64) (a:=9) (ks:=[.int .i64 6,.int .i64 7,.int .i64 8]) (vs:=[.int .i64 1,.int .i64 2,.int .i64 3]) (y:= .int .i64 2) (hn c1 c0) rfl;have lk:=fun c1 c0 z=>Ov (gl:=gl) (n:=N+1+1+1) (nt:=nt) (lv:=lv) (z:=z) (ob:=(N+1,c1)::(N,c0)::ob) (l:=N+1+1) rfl hlk;have fin:∀ (N':Nat) (ob':List (Nat×List AV)),N<=N'->(∀ l cs,List.lookup l ob=some cs->List.lookup l ob'=some cs)->N<=N'/\(∀ l cs,List.lookup l ob=some cs->List.lookup l ob'=some cs)/\∀ t,t∈lv->t∈lv:=fun N' ob' a b=>⟨a,b,fun t h=>h⟩;refine gu (.aC adi (by simp) ?_);generalize hK:bI [RV.c 4 3 true] _=Q;have kk:=key tb rb xb N ob lv hf h1 h2 h3;unfold Xp.l;unfold bX.av at hC;refine ab 60 ?_;have frs:∀ {N':Nat} {ob':List (Nat×List AV)} {k:Nat} {c:List AV},bJ N' ob'->k<N'->bJ N' ((k,c)::ob'):=fun h1 h2=> .cons h1 h2;rcases hC with ⟨hl,rfl⟩|⟨hl,hC⟩
 ·have hl1:(m !=((args.length:Nat):Int))=true:=by simpa using hl
  repeat' with_reducible first|refine ar ?_|refine au ?_|refine ⟨?_,?_⟩|intro _|simp only [go_sem,seval,hl1,i6,i7,i8,i9,lk,du,oH]
  all_goals first
   |(rw [<-hK];simp only [aM];done)
   |skip
  all_goals rw [<-hK]
  all_goals
   simp only [go_sem,seval]
  refine fin _ _ (by omega) fun l cs h=>?_
  repeat first|exact h|rw [aw (by have:=hf.lt h;omega)]
 ·have hl1:(m !=((args.length:Nat):Int))=false:=by simpa using hl
  repeat' with_reducible first|refine ar ?_|refine au ?_|refine ⟨?_,?_⟩|intro _|simp only [go_sem,seval,hl1,i6,i7,i8,i9,lk,du,oH]
  all_goals first
   |(rw [<-hK];simp only [aM];done)
   |skip
  refine bS (kk 0 0 rfl (by omega) _ _ _ (.cons (.cons (.cons (fun l h=>hf l (by omega)) (by omega)) (by omega)) (by omega)) fun l cs h=>?_) fun N1 nt1 hN1=>?_
  ·repeat rw [aw (by have:=hf.lt h;omega)]
   exact h
  have e0:(N=N1)=False:=eq_false (by omega);have e1:(N+1=N1)=False:=eq_false (by omega);have e2:(N1=N)=False:=eq_false (by omega);have e3:(N1=N+1)=False:=eq_false (by omega);have q1:((7:Int)==6)=false:=rfl;have q2:((8:Int)==6)=false:=rfl;have q3:((8:Int)==7)=false:=rfl;have q4:((9:Int)==6)=false:=rfl;have q5:((9:Int)==7)=false:=rfl;have q6:((9:Int)==8)=false:=rfl;rcases hC with ⟨rfl,j⟩|⟨rfl,j⟩|⟨rfl,b,j,v1,v2⟩|⟨rfl,b,hb,v1,v2⟩
  ·
   repeat' with_reducible first|refine ar ?_|refine au ?_|refine .pu (j) hg rfl ?_|refine ⟨?_,?_⟩|intro _|simp only [go_sem,seval,e0,e1,e2,e3,q1,q2,q3,q4,q5,q6]
   all_goals first
    |(rw [<-hK];simp only [aM];done)
    |skip
   all_goals rw [<-hK]
   all_goals
    simp only [go_sem,seval]
   refine fin _ _ (by omega) fun l cs h=>?_
   repeat first|exact h|rw [aw (by have:=hf.lt h;omega)]
  ·
   repeat' with_reducible first|refine ar ?_|refine au ?_|refine ⟨?_,?_⟩|intro _|simp only [go_sem,seval,e0,e1,e2,e3,q1,q2,q3,q4,q5,q6]
   all_goals first
    |(rw [<-hK];simp only [aM];done)
    |skip
   refine cw (kk 1 1 rfl (by omega) _ _ _ (by (repeat refine bJ.cons ?_ (by omega));exact fun l h=>hf l (by omega)) fun l cs h=>?_) (fun _ _ _ _=>by first|exact of_eq_true bh|simp only [cT,cA,eS,bh,and_self]) fun N2 nt2 hN2=>?_
   ·repeat rw [aw (by have:=hf.lt h;omega)]
    exact h
   repeat' with_reducible first|refine ar ?_|refine au ?_|refine .pu (j) hg rfl ?_|refine ⟨?_,?_⟩|intro _|simp only [go_sem,seval,e0,e1,e2,e3,q1,q2,q3,q4,q5,q6]
   all_goals first
    |(rw [<-hK];simp only [aM];done)
    |skip
   all_goals rw [<-hK]
   all_goals
    simp only [go_sem,seval]
   refine fin _ _ (by omega) fun l cs h=>?_
   repeat first|exact h|rw [aw (by have:=hf.lt h;omega)]
  ·cases b
   ·obtain rfl:=v2 rfl
    repeat' with_reducible first|refine ar ?_|refine au ?_|refine .pu (j) hg rfl ?_|refine ⟨?_,?_⟩|intro _|simp only [go_sem,seval,e0,e1,e2,e3,q1,q2,q3,q4,q5,q6]
    all_goals first
     |(rw [<-hK];simp only [aM];done)
     |skip
    refine bS (kk 2 2 rfl (by omega) _ _ _ (by (repeat refine bJ.cons ?_ (by omega));exact fun l h=>hf l (by omega)) fun l cs h=>?_) fun N2 nt2 hN2=>?_
    ·repeat rw [aw (by have:=hf.lt h;omega)]
     exact h
    repeat' with_reducible first|refine ar ?_|refine au ?_|refine ⟨?_,?_⟩|intro _|simp only [go_sem,seval,e0,e1,e2,e3,q1,q2,q3,q4,q5,q6]
    all_goals first
     |(rw [<-hK];simp only [aM];done)
     |skip
    all_goals rw [<-hK]
    all_goals
     simp only [go_sem,seval]
    refine fin _ _ (by omega) fun l cs h=>?_
    repeat first|exact h|rw [aw (by have:=hf.lt h;omega)]
   ·obtain rfl:=v1 rfl
    repeat' with_reducible first|refine ar ?_|refine au ?_|refine .pu (j) hg rfl ?_|refine ⟨?_,?_⟩|intro _|simp only [go_sem,seval,e0,e1,e2,e3,q1,q2,q3,q4,q5,q6]
    all_goals first
     |(rw [<-hK];simp only [aM];done)
     |skip
    refine bS (kk 1 1 rfl (by omega) _ _ _ (by (repeat refine bJ.cons ?_ (by omega));exact fun l h=>hf l (by omega)) fun l cs h=>?_) fun N2 nt2 hN2=>?_
    ·repeat rw [aw (by have:=hf.lt h;omega)]
     exact h
    repeat' with_reducible first|refine ar ?_|refine au ?_|refine ⟨?_,?_⟩|intro _|simp only [go_sem,seval,e0,e1,e2,e3,q1,q2,q3,q4,q5,q6]
    all_goals first
     |(rw [<-hK];simp only [aM];done)
     |skip
    all_goals rw [<-hK]
    all_goals
     simp only [go_sem,seval]
    refine fin _ _ (by omega) fun l cs h=>?_
    repeat first|exact h|rw [aw (by have:=hf.lt h;omega)]
  ·cases b
   ·obtain rfl:=v2 rfl
    repeat' with_reducible first|refine ar ?_|refine au ?_|refine ⟨?_,?_⟩|intro _|simp only [go_sem,seval,hb,e0,e1,e2,e3,q1,q2,q3,q4,q5,q6]
    all_goals first
     |(rw [<-hK];simp only [aM];done)
     |skip
    all_goals rw [<-hK]
    all_goals
     simp only [go_sem,seval]
    refine fin _ _ (by omega) fun l cs h=>?_
    repeat first|exact h|rw [aw (by have:=hf.lt h;omega)]
   ·obtain rfl:=v1 rfl
    repeat' with_reducible first|refine ar ?_|refine au ?_|refine ⟨?_,?_⟩|intro _|simp only [go_sem,seval,hb,e0,e1,e2,e3,q1,q2,q3,q4,q5,q6]
    all_goals first
     |(rw [<-hK];simp only [aM];done)
     |skip
    refine bS (kk 1 1 rfl (by omega) _ _ _ (by (repeat refine bJ.cons ?_ (by omega));exact fun l h=>hf l (by omega)) fun l cs h=>?_) fun N2 nt2 hN2=>?_
    ·repeat rw [aw (by have:=hf.lt h;omega)]
     exact h
    repeat' with_reducible first|refine ar ?_|refine au ?_|refine ⟨?_,?_⟩|intro _|simp only [go_sem,seval,e0,e1,e2,e3,q1,q2,q3,q4,q5,q6]
    all_goals first
     |(rw [<-hK];simp only [aM];done)
     |skip
    all_goals rw [<-hK]
    all_goals
     simp only [go_sem,seval]
    refine fin _ _ (by omega) fun l cs h=>?_
    repeat first|exact h|rw [aw (by have:=hf.lt h;omega)]
def isF (s:Bytes):AV->Bool
 | .agg (.str nm::_)=>nm==s
 |_=>false
def ajE (hg:ae gl) (t:Tb) (ht:t.N) (hfd:∀ v∈t.fields,∃ nm c1 c2 c3,v= .agg [.str nm,c1,c2,c3]) (hfl:t.fields.length<=1048576) (r:Rw) (hrN:r.N) (hr:∀ v∈r.fields,∃ V:bX,v=V.av/\((V.s.length:Nat):Int)<=1048576):
  ∀ (n:Nat) (x:Xp),SizeOf.sizeOf x.args<=n->TX x->∃ V:bX,((V.s.length:Nat):Int)<=1048576/\Pure pg gl 103 [.agg t.l,r.av,.agg x.l] (.ok V.av):=by
 intro n
 induction n with
 |zero=>
  intro x h;exact absurd h (by cases x.args<;>simp)
 |succ n ih=>
  intro x hsz hx
  have each:∀ i:Nat,∃ V:bX,((V.s.length:Nat):Int)<=1048576/\∀ a,x.args[i]? =some a->∃ a',a= .agg a'/\a'.length=12/\Pure pg gl 103 [.agg t.l,r.av,.agg a'] (.ok V.av):=fun i=>by
   rcases Al i x.args.length with hi|hi
   ·obtain ⟨a,ha⟩:=aK hi;have hm:=Aj ha;obtain ⟨x',rfl,hx'⟩:=tpX (hx.args a hm).1 (hx.args a hm).2;have h1:=Cn hm
    have h2:SizeOf.sizeOf x'.args<SizeOf.sizeOf (AV.agg x'.l):=by
     unfold Xp.l;simp only [AV.agg.sizeOf_spec,List.cons.sizeOf_spec,AV.sl.sizeOf_spec];omega
    obtain ⟨V,hV,h3⟩:=ih x' (by omega) hx';refine ⟨V,hV,fun a' ha'=>?_⟩;rw [ha] at ha';injection ha' with ha'
    subst ha';exact ⟨_,rfl,rfl,h3⟩
   ·exact ⟨⟨0,0,[]⟩,by decide,fun a ha=>by rw [As hi] at ha;cases ha⟩
  obtain ⟨U,hU⟩:=B8 each;have nmV:∀ V:bX,al V.av:=fun V=>(Nm.agg (Nm.cons (.int _ _) (Nm.cons (.int _ _) (Nm.cons (.str _) Nm.nil)))).1;have nmA:=Nm.cons (Tb.nm ht) (Nm.cons (Rw.nm hrN) (Nm.cons (Xp.nm hx.n) Nm.nil));obtain ⟨kd,op,s2,tb',n4,n5,s6,l7,n8,n9,qe,args⟩:=x;obtain ⟨rsrc,rseq,rtab,rkey,rev,rf,rno,rtick⟩:=r;obtain ⟨tn,te,tf,tk⟩:=t;have c148':=af8 hg ⟨tn,te,tf,tk⟩ ⟨rsrc,rseq,rtab,rkey,rev,rf,rno,rtick⟩ ⟨kd,op,s2,tb',n4,n5,s6,l7,n8,n9,qe,args⟩ U;unfold Rw.av Rw.l Tb.l Xp.l at nmA ⊢;simp only at c148' hr hfd hfl nmA ⊢;obtain ⟨i,hi⟩:∃ i,i=vJ (isF s2) tf 0:=⟨_,rfl⟩
  obtain ⟨V,hV,hC⟩:∃ V:bX,((V.s.length:Nat):Int)<=1048576/\((kd=1/\V=⟨n4,n5,s6⟩)∨(kd=2/\decide (i<0)=true/\V=⟨0,0,[]⟩)∨(kd=2/\decide (i<0)=false/\decide ((rf.length:Int)<=i)=true/\V=⟨0,0,[]⟩)∨(kd=2/\decide (i<0)=false/\decide ((rf.length:Int)<=i)=false/\rf[i.toNat]? =some V.av)∨
    ((kd=6∨kd=7∨kd=8∨kd=9)/\∀ (tb rb xb N nt:Nat) (ob:List (Nat×List AV)) (lv:List Nat),bJ N ob->List.lookup tb ob=some (Tb.l ⟨tn,te,tf,tk⟩)->List.lookup rb ob=some (Rw.l ⟨rsrc,rseq,rtab,rkey,rev,rf,rno,rtick⟩)->List.lookup xb ob=some (Xp.l ⟨kd,op,s2,tb',n4,n5,s6,l7,n8,n9,qe,args⟩)->
     ao pg 148 [.agg (Xp.l ⟨kd,op,s2,tb',n4,n5,s6,l7,n8,n9,qe,args⟩),.fn (.func 149) [] [.ptr tb 0,.ptr rb 0,.ptr xb 0]] ⟨N,ob,nt,lv,gl⟩ (eJ (fun o=>o= .ok V.av) ⟨N,ob,nt,lv,gl⟩))∨
    ((kd==1)=false/\(kd==2)=false/\(kd==6)=false/\(kd==7)=false/\(kd==8)=false/\(kd==9)=false/\V=⟨0,0,[]⟩)):=by
   by_cases hk:kd=6∨kd=7∨kd=8∨kd=9
   ·obtain ⟨V,hV,h148⟩:=c148' hk hx.op (fun i=>(hU i).2) fun i=>(hU i).1;exact ⟨V,hV,.inr (.inr (.inr (.inr (.inl ⟨hk,h148⟩))))⟩
   by_cases h1:kd=1
   ·exact ⟨⟨n4,n5,s6⟩,hx.s6,.inl ⟨h1,rfl⟩⟩
   by_cases h2:kd=2
   ·cases h3:decide (i<0)
    ·cases h4:decide ((rf.length:Int)<=i)
     ·have h3':=of_decide_eq_false h3;have h4':=of_decide_eq_false h4;obtain ⟨v,hv⟩:=aK (show i.toNat<rf.length by omega);obtain ⟨V,rfl,hV⟩:=hr v (Aj hv);exact ⟨V,hV,.inr (.inr (.inr (.inl ⟨h2,rfl,rfl,hv⟩)))⟩
     ·exact ⟨⟨0,0,[]⟩,by decide,.inr (.inr (.inl ⟨h2,rfl,rfl,rfl⟩))⟩
    ·exact ⟨⟨0,0,[]⟩,by decide,.inr (.inl ⟨h2,rfl,rfl⟩)⟩
   ·exact ⟨⟨0,0,[]⟩,by decide,.inr (.inr (.inr (.inr (.inr (by simp;omega)))))⟩
  refine ⟨V,hV,bw nmA (nmV V) (.aC P5 (by simp) ?_)⟩;generalize hK:bI [RV.c 6 3 true] _=Q;have e1:((2:Int)==1)=false:=rfl
  have c146':=fun (N nt:Nat) (ob:List (Nat×List AV)) (lv:List Nat) (hF:bJ N ob) (h2:List.lookup 2 ob=some (Xp.l ⟨kd,op,s2,tb',n4,n5,s6,l7,n8,n9,qe,args⟩))=>
   af6 (gl:=gl) 147 [.ptr 2 0] tf (isF s2) N nt ob lv (by omega) hfd fun N' nt' hN v hv=>by
    obtain ⟨nm,c1,c2,c3,rfl⟩:=hfd v hv;exact af7 nm c1 c2 c3 _ 2 N' nt' ob lv (fun l h=>hF l (by omega)) h2
  rw [<-hi] at c146';refine ab 60 ?_;rcases hC with ⟨rfl,rfl⟩|⟨rfl,h3,rfl⟩|⟨rfl,h3,h4,rfl⟩|⟨rfl,h3,h4,hv⟩|⟨hk,h148⟩|⟨k1,k2,k6,k7,k8,k9,rfl⟩
  ·
   repeat' with_reducible first|refine ar ?_|refine au ?_|refine ⟨?_,?_⟩|intro _|simp only [go_sem,seval]
   all_goals first
    |(rw [<-hK];simp only [aM];done)
    |skip
   all_goals rw [<-hK]
   all_goals
    simp only [go_sem,seval]
   all_goals exact rfl
  ·
   repeat' with_reducible first|refine ar ?_|refine au ?_|refine ⟨?_,?_⟩|intro _|simp only [go_sem,seval,e1]
   refine bS (c146' _ _ _ _ (by (repeat refine bJ.cons ?_ (by omega));exact .nil _) rfl) fun N1 nt1 hN1=>?_
   repeat' with_reducible first|refine ar ?_|refine au ?_|refine ⟨?_,?_⟩|intro _|simp only [go_sem,seval,e1,h3]
   all_goals first
    |(rw [<-hK];simp only [aM];done)
    |skip
   all_goals rw [<-hK]
   all_goals
    simp only [go_sem,seval]
   all_goals exact rfl
  ·
   repeat' with_reducible first|refine ar ?_|refine au ?_|refine ⟨?_,?_⟩|intro _|simp only [go_sem,seval,e1]
   refine bS (c146' _ _ _ _ (by (repeat refine bJ.cons ?_ (by omega));exact .nil _) rfl) fun N1 nt1 hN1=>?_
   repeat' with_reducible first|refine ar ?_|refine au ?_|refine ⟨?_,?_⟩|intro _|simp only [go_sem,seval,e1,h3,h4]
   all_goals first
    |(rw [<-hK];simp only [aM];done)
    |skip
   all_goals rw [<-hK]
   all_goals
    simp only [go_sem,seval]
   all_goals exact rfl
  ·
   repeat' with_reducible first|refine ar ?_|refine au ?_|refine ⟨?_,?_⟩|intro _|simp only [go_sem,seval,e1]
   refine bS (c146' _ _ _ _ (by (repeat refine bJ.cons ?_ (by omega));exact .nil _) rfl) fun N1 nt1 hN1=>?_;have h3':=of_decide_eq_false h3;have h4':=of_decide_eq_false h4;have p0:(0<=i)=True:=eq_true (by omega);have p1:(i<(rf.length:Int))=True:=eq_true (by omega);unfold bX.av at hv
   repeat' with_reducible first|refine ar ?_|refine au ?_|refine ⟨?_,?_⟩|intro _|simp only [go_sem,seval,e1,h3,h4,p0,p1,hv]
   all_goals first
    |(rw [<-hK];simp only [aM];done)
    |skip
   all_goals rw [<-hK]
   all_goals
    simp only [go_sem,seval]
   all_goals exact rfl
  ·have k1:(kd==1)=false:=by simpa using (by omega:kd≠1)
   have k2:(kd==2)=false:=by simpa using (by omega:kd≠2)
   have k6:(kd==6||(kd==7||(kd==8||kd==9)))=true:=by simpa [or_assoc] using hk
   have h5:=h148 0 1 2 4 0 [(3,[.int .i64 0,.int .i64 0,.str []]),(2,Xp.l ⟨kd,op,s2,tb',n4,n5,s6,l7,n8,n9,qe,args⟩),(1,Rw.l ⟨rsrc,rseq,rtab,rkey,rev,rf,rno,rtick⟩),(0,Tb.l ⟨tn,te,tf,tk⟩)] [] (by (repeat refine bJ.cons ?_ (by omega));exact .nil _) rfl rfl rfl;unfold bX.av Xp.l Rw.l Tb.l at h5
   repeat' with_reducible first|refine ar ?_|refine au ?_|refine bS (h5) fun _ _ _=>?_|refine cw (h5) (fun _ _ _=>by first|exact (fun h=>(by cases h))|(first|exact of_eq_true bh|simp only [cT,cA,eS,bh,and_self])) fun _ _ _=>?_|refine ⟨?_,?_⟩|intro _|simp only [go_sem,seval,k1,k2,k6]
   all_goals first
    |(rw [<-hK];simp only [aM];done)
    |skip
   all_goals rw [<-hK]
   all_goals
    simp only [go_sem,seval]
   all_goals exact rfl
  ·
   repeat' with_reducible first|refine ar ?_|refine au ?_|refine ⟨?_,?_⟩|intro _|simp only [go_sem,seval,k1,k2,k6,k7,k8,k9]
   all_goals first
    |(rw [<-hK];simp only [aM];done)
    |skip
   all_goals rw [<-hK]
   all_goals
    simp only [go_sem,seval]
   all_goals exact rfl
def ua {ρ:List Int} {fs:List aa} (h:aH ρ fs) {f:aa} (hf:f∈fs):0<=f.c+cb ρ f.ts:=by
 obtain ⟨x,⟨_,h1⟩,h2⟩:=h f hf;unfold aa.val at h1;omega
def zG {ρ:List Int} {v:Nat} {x:Int} (h:ρ[v]? =some x):vr ρ v=x:=by
 unfold vr;rw [h];rfl
def oS {lim:Int} {k e:Nat} {v:AV} (h:ju lim (.l k e) v) (hf:v.fg=v):∃ xs,v= .sl k xs .ai/\eC k e xs/\((xs.length:Nat):Int)<=lim/\∀ x∈xs,x.fg=x:=by
 obtain ⟨xs,t,rfl,h1,h2,_⟩:=h;rw [fp] at hf;injection hf with _ e1 e2
 subst e2;exact ⟨xs,rfl,h1,h2,fun x hx=>jD e1 x hx⟩
def xO {k e:Nat} {xs:List AV} (h:eC k e xs) (hf:∀ x∈xs,x.fg=x):Nm (.sl k xs .ai):= .sl fun x hx=>(h.e x hx).nm (hf x hx)
def PX {x:AV} {xs:List AV} (h:(x::xs).map AV.fg=x::xs):x.fg=x/\xs.map AV.fg=xs:=by
 injection h with h1 h2
 exact ⟨h1,h2⟩
def k5 (hg:ae gl) {xs:List AV} (ht:eC 40 88 xs) (hl:((xs.length:Nat):Int)<=1048576) (hz:bg xs<=16777216):
  ∃ b,Pure pg gl 5 [.sl 40 xs .ai] (.ok (.bool b))/\(b=true->xs.length<=40/\∀ v∈xs,Tp (.e 1088) v):=by
 have ha:cW 1048576 [.c (.l 40 88)] [.sl 40 xs .ai]:=pC ⟨xs,_,rfl,ht,hl,fun _=>hz⟩ pN;obtain ⟨h1,h2⟩:=uA (m0:=0) (lim:=1048576) (s:=⟨0,0,[],[]⟩) (E:=Em) ⟨rfl,rfl,rfl,fun X li e=>by simp at e,aH.nil _⟩ ha
 obtain ⟨r,h3,alt,h4,Er,h5⟩:=s5 hg (Em.ext (eO [.sl 40 xs .ai]) (nK [.sl 40 xs .ai])) _ ⟨h1.nv,by rw [h1.nl,h1.len,Aw];rfl,rfl,rfl,fun X li e=>by
  obtain ⟨xs,a,b⟩:=h1.ls X li e
  exact ⟨xs,by simpa using a,b⟩,h2,fun e he=>by
   rcases AA.1 he with he|he
   ·cases he
   ·exact h1.fs e he,fun h=>absurd rfl h⟩ (fun _ _=>trivial)
 unfold g5 at h4;rcases Ab.1 h4 with rfl|h4
 ·have hr:=h5.r;simp only [SV.rel,BE.is] at hr;obtain ⟨_,rfl,rfl⟩:=hr;refine ⟨true,h3,fun _=>⟨?_,?_⟩⟩
  ·have h6:=ua h5.fs (Ay.2 rfl);obtain ⟨ρ,hρ⟩:=h5.le.ρ;have h7:Er.ρ[0]? =some ((xs.length:Nat):Int):=by rw [hρ];rfl
   simp only [cb,zG h7] at h6;omega
  ·obtain ⟨ys,h6,h7⟩:=h5.up (0,1088) (Ay.2 rfl);have h8:((Em.ext (eO [.sl 40 xs .ai]) (nK [.sl 40 xs .ai])).χ)[0]? =some xs:=rfl;rw [h8] at h6;injection h6 with h6
   subst h6;exact h7
 ·rcases Ab.1 h4 with rfl|h4
  ·have hr:=h5.r;simp only [SV.rel,BE.is] at hr;obtain ⟨_,rfl,rfl⟩:=hr;exact ⟨false,h3,fun h=>(by cases h)⟩
  ·cases h4
def tpR {v:AV} (h:Tp (.e 1106) v) (hf:v.fg=v):∃ r:Rw,v=r.av/\r.N/\(0<=r.event/\r.event<=1099511627776)/\∀ v∈r.fields,∃ V:bX,v=V.av/\((V.s.length:Nat):Int)<=1048576:=by
 obtain ⟨vs,rfl,q,f,hfm,hfc⟩:=(uH Γ1106).1 h;rw [db] at hf;injection hf with hf
 have hm:=jD hf;obtain ⟨w0,_,rfl,h0,q⟩:=bW.1 q;obtain ⟨w1,_,rfl,h1,q⟩:=bW.1 q;obtain ⟨w2,_,rfl,h2,q⟩:=bW.1 q;obtain ⟨w3,_,rfl,h3,q⟩:=bW.1 q;obtain ⟨w4,_,rfl,h4,q⟩:=bW.1 q;obtain ⟨w5,_,rfl,h5,q⟩:=bW.1 q;obtain ⟨w6,_,rfl,h6,q⟩:=bW.1 q;obtain ⟨w7,_,rfl,h7,q⟩:=bW.1 q;obtain rfl:=uG.1 q;obtain ⟨a0,rfl,_⟩:=lq.1 h0;obtain ⟨a1,rfl,_⟩:=jz.1 h1;obtain ⟨a2,rfl,_⟩:=lq.1 h2;obtain ⟨a3,rfl,_⟩:=lq.1 h3;obtain ⟨a4,rfl,_⟩:=jz.1 h4;obtain ⟨a6,rfl,_⟩:=jz.1 h6;obtain ⟨a7,rfl,_⟩:=jz.1 h7;obtain ⟨a5,rfl,_,m5⟩:=JZ h5 (hm w5 (by simp));obtain rfl:=Ay.1 hfm;have g1:=ua hfc (f:=⟨0,[(4,1)]⟩) (by simp [lK]);have g2:=ua hfc (f:=⟨1099511627776,[(4,-1)]⟩) (by simp [lK]);simp only [cb,vr,List.map_cons,List.getElem?_cons_succ,List.getElem?_cons_zero,Option.getD_some,hO] at g1 g2;exact ⟨⟨a0,a1,a2,a3,a4,a5,a6,a7⟩,rfl,fun v hv=>(m5 v hv).1.nm (m5 v hv).2,⟨by show 0<=a4;omega,by show a4<=1099511627776;omega⟩,fun v hv=>tpV (m5 v hv).1⟩
def abm:∀ {vs:List AV},(∀ v∈vs,Tp (.e 1106) v)->(∀ v∈vs,v.fg=v)->∃ rs:List Rw,vs=rs.map Rw.av/\∀ r∈rs,r.N/\(0<=r.event/\r.event<=1099511627776)/\∀ v∈r.fields,∃ V:bX,v=V.av/\((V.s.length:Nat):Int)<=1048576
 |[],_,_=>⟨[],rfl,fun _ h=>(by cases h)⟩
 |v::vs,h1,h2=>by
  obtain ⟨r,rfl,hr⟩:=tpR (h1 v (by simp)) (h2 _ (by simp));obtain ⟨rs,rfl,hrs⟩:=abm (vs:=vs) (fun v hv=>h1 v (Ao _ hv)) fun v hv=>h2 v (Ao _ hv)
  exact ⟨r::rs,rfl,fun r' h=>by
   rcases Ab.1 h with rfl|h
   ·exact hr
   ·exact hrs r' h⟩
def k8 (hg:ae gl) {xs:List AV} (ht:eC 40 1088 xs) (hl:xs.length<=40) (hz:bg xs<=16777216) (tick:Int):
  ∃ rows:List Rw,Pure pg gl 8 [.sl 40 xs .ai,.int .i64 tick] (.ok (.sl 8 (rows.map Rw.av) .ai))/\rows.length<=40/\∀ r∈rows,r.N/\(0<=r.event/\r.event<=1099511627776)/\∀ v∈r.fields,∃ V:bX,v=V.av/\((V.s.length:Nat):Int)<=1048576:=by
 obtain ⟨rs,p1,p2,p3,ρ,p4,p5⟩:=kS (s8 hg) (show cW 1048576 _ [.sl 40 xs .ai,.int .i64 tick] from pC ⟨xs,_,rfl,ht,by omega,fun _=>hz⟩ (pC (pI tick) pN)) (aH.nil _);obtain ⟨w,ws,rfl,hw,rfl⟩:=p3;obtain ⟨ys,rfl,h1,h2,h3⟩:=oS hw (PX p2).1;obtain ⟨rows,rfl,hr⟩:=abm h1.e h3;refine ⟨rows,p1,?_,hr⟩;have h6:=ua p5 (Ay.2 rfl);have h7:(eO [.sl 40 xs .ai,.int .i64 tick]++ρ)[0]? =some ((xs.length:Nat):Int):=rfl;have h8:(eO [.sl 40 xs .ai,.int .i64 tick]++ρ)[3]? =some (((rows.map Rw.av).length:Nat):Int):=p4.1.1;simp only [cb,zG h7,zG h8,Ad] at h6;omega
def k7 (hg:ae gl) {xs:List AV} (ht:eC 40 88 xs) (hl:xs.length<=40) (hz:bg xs<=16777216) (tick:Int):
  ∃ cat:List AV,Pure pg gl 7 [.sl 40 xs .ai,.int .i64 tick] (.ok (.agg cat))/\cat.length=4/\aE cat=false/\(∀ v∈cat,Nm v)/\jw 1048576 (.a [.l 4 80,.l 18 84,.l 18 84,.l 18 84]) (.agg cat):=by
 obtain ⟨rs,p1,p2,p3,ρ,p4,p5⟩:=kS (s7 hg) (show cW 1048576 _ [.sl 40 xs .ai,.int .i64 tick] from pC ⟨xs,_,rfl,ht,by omega,fun _=>hz⟩ (pC (pI tick) pN)) (aH.nil _);obtain ⟨w,ws,rfl,hw,rfl⟩:=p3;have hw':=hw;obtain ⟨cs,rfl,⟨c0,_,rfl,h0,⟨c1,_,rfl,h1,⟨c2,_,rfl,h2,⟨c3,_,rfl,h3,rfl⟩⟩⟩⟩⟩:=hw;have hf:=(PX p2).1;rw [db] at hf;injection hf with hf
 have hm:=jD hf;obtain ⟨x0,rfl,a0,_,b0⟩:=oS h0 (hm c0 (by simp));obtain ⟨x1,rfl,a1,_,b1⟩:=oS h1 (hm c1 (by simp));obtain ⟨x2,rfl,a2,_,b2⟩:=oS h2 (hm c2 (by simp));obtain ⟨x3,rfl,a3,_,b3⟩:=oS h3 (hm c3 (by simp));exact ⟨_,p1,rfl,rfl,Nm.cons (xO a0 b0) (Nm.cons (xO a1 b1) (Nm.cons (xO a2 b2) (Nm.cons (xO a3 b3) Nm.nil))),hw'⟩
def k6 (hg:ae gl) {xs:List AV} (ht:eC 40 88 xs) (hl:xs.length<=40) (hz:bg xs<=16777216) (tick n:Int):
  ∃ (x:Xp) (b:Bool),TX x/\Pure pg gl 6 [.sl 40 xs .ai,.int .i64 tick,.int .i64 n] (.ok (.aF [.agg x.l,.bool b])):=by
 obtain ⟨rs,p1,p2,p3,_⟩:=kS (s6 hg) (show cW 1048576 _ [.sl 40 xs .ai,.int .i64 tick,.int .i64 n] from pC ⟨xs,_,rfl,ht,by omega,fun _=>hz⟩ (pC (pI tick) (pC (pI n) pN))) (fun f hf=>by
  obtain rfl:=Ay.1 hf;have h7:(eO [.sl 40 xs .ai,.int .i64 tick,.int .i64 n])[0]? =some ((xs.length:Nat):Int):=rfl
  exact ⟨_,jJ h7 4096,by omega⟩)
 obtain ⟨w,ws,rfl,hw,⟨w',ws',rfl,⟨b,rfl⟩,rfl⟩⟩:=p3;obtain ⟨cs,rfl,⟨w0,_,rfl,⟨a0,rfl,_⟩,⟨w1,_,rfl,⟨a1,rfl,l1⟩,⟨w2,_,rfl,⟨a2,rfl,_⟩,⟨w3,_,rfl,⟨a3,rfl,l3⟩,⟨w4,_,rfl,⟨a4,rfl,_⟩,⟨w5,_,rfl,⟨a5,rfl,_⟩,⟨w6,_,rfl,⟨a6,rfl,l6⟩,⟨w7,_,rfl,h7,⟨w8,_,rfl,⟨a8,rfl,_⟩,⟨w9,_,rfl,⟨a9,rfl,_⟩,⟨wA,_,rfl,⟨aA,rfl,_⟩,⟨wB,_,rfl,hB,rfl⟩⟩⟩⟩⟩⟩⟩⟩⟩⟩⟩⟩⟩:=hw;have hf:=(PX p2).1;rw [db] at hf;injection hf with hf
 have hm:=jD hf;obtain ⟨a7,rfl,t7,_,m7⟩:=oS h7 (hm w7 (by simp));obtain ⟨aB,rfl,tB,lB,mB⟩:=oS hB (hm wB (by simp));exact ⟨⟨a0,a1,a2,a3,a4,a5,a6,a7,a8,a9,aA,aB⟩,b,⟨⟨fun v hv=>(t7.e v hv).nm (m7 v hv),fun v hv=>(tB.e v hv).nm (mB v hv)⟩,l1,l6,l3,by show aB.length<=_;omega,fun v hv=>⟨tB.e v hv,mB v hv⟩⟩,p1⟩
def k38 (hg:ae gl) {cat:List AV} (hc:jw 1048576 (.a [.l 4 80,.l 18 84,.l 18 84,.l 18 84]) (.agg cat)) {s:Bytes} (hs:((s.length:Nat):Int)<=1048576):
  ∃ (t:Tb) (b:Bool),t.N/\(∀ v∈t.fields,∃ nm c1 c2 c3,v= .agg [.str nm,c1,c2,c3])/\t.fields.length<=1048576/\Pure pg gl 38 [.agg cat,.str s] (.ok (.aF [.agg t.l,.bool b])):=by
 obtain ⟨rs,p1,p2,p3,_⟩:=kS (s38 hg) (show cW 1048576 _ [.agg cat,.str s] from pC hc (pC (pS hs) pN)) (aH.nil _);obtain ⟨w,ws,rfl,hw,⟨w',ws',rfl,⟨b,rfl⟩,rfl⟩⟩:=p3;obtain ⟨cs,rfl,⟨w0,_,rfl,⟨a0,rfl,_⟩,⟨w1,_,rfl,⟨a1,rfl,_⟩,⟨w2,_,rfl,h2,⟨w3,_,rfl,⟨a3,rfl,_⟩,rfl⟩⟩⟩⟩⟩:=hw;have hf:=(PX p2).1;rw [db] at hf;injection hf with hf
 have hm:=jD hf;obtain ⟨a2,rfl,t2,l2,m2⟩:=oS h2 (hm w2 (by simp));exact ⟨⟨a0,a1,a2,a3⟩,b,fun v hv=>(t2.e v hv).nm (m2 v hv),fun v hv=>tpF (t2.e v hv),by show a2.length<=_;omega,p1⟩
def ajN (hg:ae gl) (n:Int):∃ i,Pure pg gl 396 [.int .i64 n] (.ok (.int .i64 i)):=by
 obtain ⟨rs,h1,h2,_⟩:=dA (al8 hg) (pC (pI n) pN) (aH.nil _);obtain ⟨w,ws,rfl,⟨a,rfl,_⟩,rfl⟩:=h2;exact ⟨a,h1⟩
def law (hg:ae gl) (h4:Pure pg gl 4 [] (.ok (.bool true))) {w:AV} (hT:Tp (.c (.l 40 88)) w) (hf:w.fg=w) (tick n size factor:Int) (key:Bytes):
  Pure pg gl 3 [w,.int .i64 tick,.int .i64 n,.str key,.int .i64 size,.int .i64 factor] (.ok (.bool true)):=by
 obtain ⟨xs,t,rfl,hl,hz,ht⟩:=Pz.1 hT;rw [fp] at hf;injection hf with _ e1 e2
 subst e2;have hx:=jD e1;have hz:bg xs<=16777216:=hz;obtain ⟨b,h5,h5'⟩:=k5 hg ht (by omega) hz;refine c3 hg _ tick n size factor key b (xO ht hx) h4 h5 fun hb hk=>?_;obtain ⟨hl40,hr⟩:=h5' hb;obtain ⟨x,b6,hX,h6⟩:=k6 hg ht hl40 hz tick n;refine ⟨x,b6,hX.n,h6,fun _=>?_⟩;obtain ⟨cat,h7,hc4,hcb,hcn,hcat⟩:=k7 hg ht hl40 hz tick;obtain ⟨rows,h8,hrl,hrs⟩:=k8 hg ⟨ht.k,hr⟩ hl40 hz tick;obtain ⟨t,b38,htN,htf,htl,h38⟩:=k38 hg hcat hX.tb
 obtain ⟨D,I,J,hCe⟩:=agK hg cat x t b38 rows key hcn hc4 hcb htN hX.n (fun r hr=>(hrs r hr).1) (by omega) (fun r hr=>(hrs r hr).2.1) h38 (fun r hr a ha=>by
  obtain ⟨x',rfl,hx'⟩:=tpX (hX.args a ha).1 (hX.args a ha).2;obtain ⟨V,hV,h103⟩:=ajE hg t htN htf htl r (hrs r hr).1 (hrs r hr).2.2 _ x' (Af _) hx';obtain ⟨hi,lo,hu,h279⟩:=XJ hg V.n 1
  exact ⟨V,h103,ajN hg _,hi,lo,hu.w.1,hu.w.2,h279⟩) (fun a ha=>by
  obtain ⟨x',rfl,hx'⟩:=tpX (hX.args a ha).1 (hX.args a ha).2
  exact ⟨_,rfl,rfl⟩)
 exact ⟨cat,rows,D,I,J,hc4,hcb,h7,h8,hCe⟩
end Go.Proofs.YtoopnalhhfmgaaaGreatDoor
