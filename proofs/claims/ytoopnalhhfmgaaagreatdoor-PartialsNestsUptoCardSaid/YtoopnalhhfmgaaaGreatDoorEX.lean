/- The examples of the chapter, by computation. -/
import Derived.Test.YtoopnalhhfmgaaaGreatDoorKC
import Derived.Test.YtoopnalhhfmgaaaGreatDoorKB
import Derived.Test.YtoopnalhhfmgaaaGreatDoorSH
import Derived.Test.YtoopnalhhfmgaaaGreatDoorJR
import Derived.Test.YtoopnalhhfmgaaaGreatDoorQA
import Derived.KernelRfl
set_option linter.defProp false
set_option linter.unusedSimpArgs false
set_option linter.unusedVariables false
set_option maxHeartbeats 0
namespace Go.Proofs.YtoopnalhhfmgaaaGreatDoor
open Go Go.V
set_option maxRecDepth 100000
variable {gl:List (Nat×List AV)}
section
open Go.Lib
def a99:=dM 0x3f3f463bd6aa0f10a9596d76c62c5196cacffee8a97dd92941f96abe3ce734e4e34a0128f2b8a08e14e2138e2c6768c503e0d55eb081425860c6a40786b05a055c117b72a62c2d59cc8db8ee349cda136a76e3db67c645c845de1d7e274ad950e44228fe8d0331e4e5e30c15e0d7cc71e7358792b2d08bd3f4790777661013c7088e83f8ce58fc857e322dbd4328a5a3f07f985c1314e63ef4a8e39a61e67a794b4ec7c04744b99aa7547c6ec8a99b0b441c0dfa04f0dbac33cc7a59ed06d76465737f27a01d7faee54413e148e36530ce0c5f07c618c8ddd9a32523eae21d36419461ca9e0fbd2b2f23458062bf4e9ff7efd160d3e1b8b337906900709a0c0fb9023418b
def aeE:aD Tryz.prog 99 67 a99 [.t 6]:= .o2 Tryz.func99 (by kernel_rfl)
def Wc:=dM 0xa202238979d13b1810e3d6970278914beff8357db9dc326547dd4de3e026fab1f89b81d281e32d13c88b73674b60fbb2674d9e5f58dd7020e85a2d43d343a
def Ys:aD Tryz.prog 144 95 Wc [.t 6]:= .o2 Tryz.func144 (by kernel_rfl)
def ajA {m:Int} (hm:gl.lookup 3=some [.int .i64 m]) (a b:Bytes) (ha:a.length<4294967281):Pure Tryz.prog gl 288 [.str a,.str b] (.ok (.bool (Lib.contains a b))):=by
 refine ⟨?_,by simp only [bx,cx,forall_eq_or_imp,forall_eq,implies_true],by simp only [cx,forall_eq_or_imp,forall_eq,implies_true]⟩;simp only [bx];refine (ao.Fv Tryz.call288 fun wb G w vs hS hv=>?_).mono fun o S' h=>h.2;obtain ⟨v1,vs1,rfl,h1,hv⟩:=hv.cons_inv;obtain ⟨v2,vs2,rfl,h2,hv⟩:=hv.cons_inv;obtain rfl:=hv.ir;obtain rfl:=h1.uh;obtain rfl:=h2.uh;obtain ⟨v,q1,q2,_⟩:=hS.cC 3 _ hm 0 _ rfl;obtain rfl:=q2.gK;exact ⟨_,.bool _,by simpa using Tryz.strings_Contains ⟨a.toArray⟩ ⟨b.toArray⟩ m w (by simpa [ByteArray.size] using ha) (hS.prom 3 0 _ q1)⟩
def lJ:Bytes->Bytes->Bool
 |[],sub=>sub.isEmpty
 |b::l,sub=>sub.isPrefixOf (b::l)||lJ l sub
def nJ (s sub:Bytes):Lib.contains s sub=lJ s sub:=by
 unfold Lib.contains
 induction s with
 |nil=>unfold Lib.index lJ;cases sub<;>simp
 |cons b l ih=>
  unfold Lib.index lJ;rw [<-ih];have:=Lib.index_ge l sub
  by_cases hp:sub.isPrefixOf (b::l)=true
  ·simp [hp]
  ·have hp:sub.isPrefixOf (b::l)=false:=by cases h:sub.isPrefixOf (b::l) with
    |false=>rfl
    |true=>exact absurd h hp
   simp only [hp,Bool.false_or,Ah,if_false]
   by_cases hn:Lib.index l sub= -1
   ·simp [hn]
   ·have h2:(Lib.index l sub== -1)=false:=by simpa using hn
    rw [h2];have h3:0<=Lib.index l sub:=by omega
    simp only [Ah,if_false];rw [decide_eq_true (by omega),decide_eq_true h3]
def pX:Bytes->Bytes->Bool
 |[],_=>true
 |_,[]=>false
 |a::s,b::t=>a==b && pX s t
def CV:∀ s t:Bytes,pX s t=s.isPrefixOf t
 |[],_=>by simp [pX,List.isPrefixOf]
 |_::_,[]=>by simp [pX,List.isPrefixOf]
 |a::s,b::t=>by simp [pX,List.isPrefixOf,CV s t]
def Df:Bytes->Bytes->Bool
 |[],sub=>sub.isEmpty
 |b::l,sub=>pX sub (b::l)||Df l sub
def DG:∀ s sub:Bytes,Df s sub=Lib.contains s sub
 |[],sub=>by rw [nJ];rfl
 |b::l,sub=>by rw [nJ,Df,lJ,CV,DG l sub,nJ]
def QP:iD:=fun f xs S=>
 if f=306 then (match xs with
  |[.int .u64 a,.int .u64 b,.int .u64 c]=>if 0<=a/\0<=b/\0<=c/\c<=1 then some (.ok (.aF [.int .u64 ((a+b+c)%18446744073709551616),.int .u64 ((a+b+c)/18446744073709551616)]),S) else none
  |_=>none)
 else if f=29 then (match xs with
  |[.sl 6 [] _]=>some (.ok (.sl 6 [] .exact),S)
  |_=>none)
 else if f=288 then (match xs with
  |[.str a,.str b]=>if a.length<4294967281 then some (.ok (.bool (Df a b)),S) else none
  |_=>none)
 else none
def iS {α:Type} {a:α} {p:Prop} (h:(none:Option α)=some a):p:=by cases h
def LO (hg:ae gl) {m0:Int} (hm:gl.lookup 3=some [.int .i64 m0]):fJ Tryz.prog gl QP:=by
 intro f xs S o S' hS h;unfold QP at h;split at h
 ·rename_i hf;subst hf;split at h
  ·split at h
   ·rename_i hc;exact fJ.pure hg hS (Oo _ _ _ hc.1 hc.2.1 hc.2.2.1 hc.2.2.2) h
   ·exact iS h
  ·exact iS h
 ·split at h
  ·rename_i hf;subst hf;split at h
   ·exact fJ.pure hg hS (Dm.conv (by simp only [bx])) h
   ·exact iS h
  ·split at h
   ·rename_i hf;subst hf;split at h
    ·split at h
     ·rename_i hl;refine fJ.pure hg hS ?_ h;rw [DG];exact ajA hm _ _ hl
     ·exact iS h
    ·exact iS h
   ·exact iS h
def PW:List (FuncId×su):=[
 (4,⟨95,m4,[.t 0]⟩),
 (9,⟨28,m9,[.t 10]⟩),
 (10,⟨42,m10,[.t 4]⟩),
 (11,⟨49,m11,[.t 6]⟩),
 (13,⟨7,m13,[.c 0 4 true]⟩),
 (14,⟨6,m14,[.c 0 12 true]⟩),
 (15,⟨27,m15,[.t 0]⟩),
 (16,⟨13,m16,[.c 6 6 true]⟩),
 (17,⟨73,m17,[.c 4 2 true,.t 5,.t 6]⟩),
 (18,⟨26,m18,[.t 4]⟩),
 (19,⟨124,m19,[.c 14 3 true]⟩),
 (26,⟨9,m26,[.t 2]⟩),
 (27,⟨43,m27,[.t 8]⟩),
 (28,⟨73,m28,[.t 4]⟩),
 (29,⟨8,m29,[.t 2]⟩),
 (30,⟨10,m30,[.t 4]⟩),
 (31,⟨20,m31,[.t 4]⟩),
 (32,⟨15,m32,[.c 5 6 true]⟩),
 (33,⟨21,m33,[.c 6 5 true]⟩),
 (34,⟨58,m34,[.t 8]⟩),
 (35,⟨3,m35,[.t 2]⟩),
 (36,⟨3,m36,[.c 0 12 true]⟩),
 (37,⟨18,m37,[.t 2]⟩),
 (38,⟨22,m38,[.c 4 4 true,.t 5]⟩),
 (39,⟨32,m39,[.t 6]⟩),
 (40,⟨63,m40,[.c 8 3 true]⟩),
 (42,⟨43,m42,[.c 4 2 true,.t 5]⟩),
 (43,⟨7,m43,[.t 5]⟩),
 (44,⟨15,m44,[.t 6]⟩),
 (45,⟨34,m45,[.t 8]⟩),
 (46,⟨22,m46,[.t 4]⟩),
 (60,⟨22,m60,[.t 4]⟩),
 (61,⟨8,m61,[.t 3]⟩),
 (62,⟨15,m62,[.t 8]⟩),
 (63,⟨78,m63,[.t 6]⟩),
 (64,⟨6,m64,[.t 2]⟩),
 (65,⟨30,m65,[.t 2,.t 3]⟩),
 (66,⟨9,m66,[]⟩),
 (67,⟨24,m67,[.c 6 3 true,.t 7]⟩),
 (72,⟨22,m72,[.t 2]⟩),
 (73,⟨9,m73,[.t 2]⟩),
 (99,⟨67,a99,[.t 6]⟩),
 (100,⟨42,Wl,[.t 4]⟩),
 (101,⟨8,aa8,[.t 2]⟩),
 (102,⟨15,ZG,[.t 4]⟩),
 (103,⟨44,XL,[.c 6 3 true]⟩),
 (104,⟨63,VG,[]⟩),
 (105,⟨14,abc,[.t 2]⟩),
 (107,⟨77,X7,[.c 4 3 true,.t 5]⟩),
 (138,⟨9,Vx,[.t 2]⟩),
 (139,⟨49,Xu,[.t 6,.t 7]⟩),
 (140,⟨9,W1,[.t 4]⟩),
 (142,⟨26,Xf,[.c 6 5 true]⟩),
 (143,⟨24,Vp,[.t 2]⟩),
 (144,⟨95,Wc,[.t 6]⟩),
 (145,⟨19,aaX,[.t 4]⟩),
 (146,⟨19,Vy,[.t 4]⟩),
 (147,⟨9,abb,[.t 3]⟩),
 (150,⟨53,XW,[]⟩),
 (152,⟨18,VJ,[.t 2]⟩),
 (153,⟨19,YZ,[.t 2]⟩),
 (154,⟨213,VV,[.t 4]⟩),
 (155,⟨19,YX,[.t 4]⟩),
 (156,⟨9,XN,[.t 3]⟩),
 (157,⟨21,aaZ,[.c 3 3 true,.t 4]⟩),
 (158,⟨8,XU,[.t 3]⟩),
 (159,⟨27,aaz,[.t 4]⟩),
 (191,⟨112,ZH,[.t 2]⟩),
 (192,⟨49,Yu,[.t 2]⟩),
 (193,⟨47,XB,[.t 2]⟩),
 (194,⟨9,WI,[.t 4]⟩),
 (195,⟨59,WO,[.t 4]⟩),
 (196,⟨16,Wt,[.c 6 3 true,.t 7]⟩),
 (197,⟨15,YT,[.c 6 3 true,.t 7]⟩),
 (200,⟨65,aaO,[.c 6 3 true,.t 7]⟩),
 (234,⟨44,aaj,[.t 2]⟩),
 (235,⟨9,VI,[.t 4]⟩),
 (237,⟨16,Xm,[.t 2]⟩),
 (238,⟨19,ZL,[.t 4]⟩),
 (239,⟨26,VL,[.t 4]⟩),
 (275,⟨8,WE,[.c 2 2 true]⟩),
 (277,⟨32,WC,[.c 4 2 true]⟩),
 (279,⟨9,X9,[.c 4 2 true]⟩),
 (287,⟨19,abf,[.t 4]⟩),
 (305,⟨65,X6,[.t 4,.t 5]⟩),
 (308,⟨33,aab,[.c 4 2 true]⟩),
 (318,⟨14,XQ,[.c 2 2 true]⟩),
 (319,⟨135,V4,[.t 6,.t 7]⟩),
 (320,⟨51,Zq,[.t 4,.t 5]⟩),
 (380,⟨11,Zs,[.c 6 5 true]⟩),
 (382,⟨22,W5,[.c 6 5 true]⟩),
 (383,⟨26,Xb,[.c 6 5 true]⟩),
 (384,⟨57,VW,[.c 4 3 true]⟩),
 (387,⟨23,aaY,[.c 6 3 true]⟩)]
def M4:∀ p∈PW,aD Tryz.prog p.1 p.2.n p.2.mc p.2.rv:=by
 simp only [PW,List.forall_mem_cons];exact ⟨is4,Xi,YM,OP,aiU,ahh,alm,aie,ajR,aib,ahX,Ym,Yo,XP,aap,Z2,YK,Wn,aaB,NY,abh,XK,agX,Ze,aka,ajF,ajJ,ah7,aim,alk,akm,VH,abj,NJ,OC,Wv,Xv,Od,ah9,ajI,af5,aeE,Qt,aeq,Qz,Qi,JY,ab1,ad3,IT,JQ,PX,QA,PS,Ys,QF,PD,Qu,I0,acI,ab7,adZ,adQ,acz,aej,acn,acE,aer,adm,aeF,acN,aed,abF,acr,adx,aem,adV,abM,ab6,ad4,Qc,QR,PJ,adP,Ql,QM,Qo,I3,Qn,PO,QL,QG,acp,adb,by simp⟩
def Qy:AV:=(.agg [(.sl 4 [(.agg [(.str [99,108,105,99,107,115]),(.str [117,115,101,114]),(.sl 4 [(.agg [(.str [110]),(.int .i64 2),(.sl 2 [] .ai),(.str [])])] .ai),(.int .i64 0)])] .ai),(.sl 18 [] .ai),(.sl 18 [] .ai),(.sl 18 [] .ai)])
def PZ:AV:=(.agg [(.int .i64 5),(.str [115,117,109]),(.str []),(.str [99,108,105,99,107,115]),(.int .i64 0),(.int .i64 0),(.str []),(.sl 2 [] .ai),(.int .i64 0),(.int .i64 2),(.int .i64 10),(.sl 12 [(.agg [(.int .i64 2),(.str []),(.str [110]),(.str []),(.int .i64 0),(.int .i64 0),(.str []),(.sl 2 [] .ai),(.int .i64 0),(.int .i64 0),(.int .i64 0),(.sl 12 [] .ai)]),(.agg [(.int .i64 1),(.str []),(.str []),(.str []),(.int .i64 1),(.int .i64 1),(.str []),(.sl 2 [] .ai),(.int .i64 0),(.int .i64 0),(.int .i64 0),(.sl 12 [] .ai)])] .ai)])
def P6:AV:=(.sl 8 [(.agg [(.str [115]),(.int .i64 1),(.str [99,108,105,99,107,115]),(.str [117]),(.int .i64 3),(.sl 3 [(.agg [(.int .i64 2),(.int .i64 1),(.str [])])] .ai),(.int .i64 0),(.int .i64 0)]),(.agg [(.str [115]),(.int .i64 2),(.str [99,108,105,99,107,115]),(.str [117]),(.int .i64 7),(.sl 3 [(.agg [(.int .i64 2),(.int .i64 2),(.str [])])] .ai),(.int .i64 0),(.int .i64 0)]),(.agg [(.str [115]),(.int .i64 3),(.str [99,108,105,99,107,115]),(.str [117]),(.int .i64 12),(.sl 3 [(.agg [(.int .i64 2),(.int .i64 3),(.str [])])] .ai),(.int .i64 0),(.int .i64 0)]),(.agg [(.str [115]),(.int .i64 4),(.str [99,108,105,99,107,115]),(.str [117]),(.int .i64 13),(.sl 3 [(.agg [(.int .i64 2),(.int .i64 4),(.str [])])] .ai),(.int .i64 0),(.int .i64 0)])] .ai)
def JB:AV:=(.sl 6 [(.agg [(.int .i64 3),(.int .i64 1),(.int .i64 0),(.int .u64 1),(.sl 6 [] .ai),(.sl 2 [] .ai)]),(.agg [(.int .i64 7),(.int .i64 1),(.int .i64 0),(.int .u64 2),(.sl 6 [] .ai),(.sl 2 [] .ai)]),(.agg [(.int .i64 12),(.int .i64 1),(.int .i64 0),(.int .u64 3),(.sl 6 [] .ai),(.sl 2 [] .ai)]),(.agg [(.int .i64 13),(.int .i64 1),(.int .i64 0),(.int .u64 4),(.sl 6 [] .ai),(.sl 2 [] .ai)])] .ai)
def qc:List AV:=[Qy,P6,PZ,.str [117]]
def Pure.aeb {P:Program} {T:FuncId->Option su} (hT:∀ f en,T f=some en->aD P f en.n en.mc en.rv) {ps:iD} (hp:fJ P gl ps) (hgn:ae gl) {fb fu:Nat} {f:FuncId} {xs:List AV} {r:AV}
  (ha:AV.jI (xs.map AV.fg)=true) (ho:r.gu=true) (h:∃ r0 S',oM T ps fb fu f (xs.map AV.fg) (.none gl)=some (.ok r0,S')/\r0.fg=r):Pure P gl f xs (.ok r):=by
 obtain ⟨r0,S',h,h0⟩:=h;subst h0;refine ⟨ao.oz ((vm hT hp hgn fb fu) _ _ _ _ _ rfl h).2 (fun r1 _ h1=>?_) (fun r1 _ h1=>?_),fun a hm=>AV.eY (iY ha a hm),AV.eY ho⟩
 ·have:=h1.1;injection this with this
  rw [this]
 ·cases h1.1
def Qe (m0:Int):Bool:=match oM (fun f=>PW.lookup f) QP 20000 60 27 qc (.none (ot m0)) with
 |some (.ok r,_)=>AV.gr r.fg JB
 |_=>false
def I7 (m0:Int):Qe m0=true:=by kernel_rfl
def sn:qc.map AV.fg=qc:=by simp only [qc,Qy,PZ,P6,List.map_cons,Az,fj,cY,lS,nM]
def alu (m0:Int) (hg:ae (ot m0)):Pure Tryz.prog (ot m0) 27 qc (.ok JB):=by
 have ht:=I7 m0;unfold Qe at ht;split at ht
 ·rename_i r S' h;exact Pure.aeb (fun f en e=>zZ M4 e) (LO hg rfl) hg (fb:=20000) (fu:=60) (by rw [sn];kernel_rfl) (by kernel_rfl) ⟨r,S',by rw [sn];exact h,AV.ng ht⟩
 ·cases ht
def Wx:iD:=fun f xs S=>if f=27 then (if AV.iz (xs.map AV.fg) qc=true then some (.ok JB,S) else none) else QP f xs S
def Zn {m0:Int} (hg:ae (ot m0)):fJ Tryz.prog (ot m0) Wx:=by
 intro f xs S o S' hS h;unfold Wx at h;split at h
 ·rename_i hf;subst hf;split at h
  ·rename_i he;exact fJ.pure hg hS ((alu m0 hg).conv (by rw [AV.fE he,sn])) h
  ·exact iS h
 ·exact LO hg rfl f xs S o S' hS h
end
end Go.Proofs.YtoopnalhhfmgaaaGreatDoor
