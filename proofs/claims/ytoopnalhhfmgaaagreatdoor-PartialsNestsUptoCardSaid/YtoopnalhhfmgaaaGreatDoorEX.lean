/- The examples of the chapter, by computation. -/
import Derived.Test.YtoopnalhhfmgaaaGreatDoorKC
import Derived.Test.YtoopnalhhfmgaaaGreatDoorKB
import Derived.Test.YtoopnalhhfmgaaaGreatDoorSH
import Derived.Test.YtoopnalhhfmgaaaGreatDoorJR
import Derived.Test.YtoopnalhhfmgaaaGreatDoorQA
import Derived.KernelRfl
set_option linter.defProp false
set_option linter.unusedSimpArgs false
set_option linter.unusedVariables false
set_option maxHeartbeats 0
namespace Go.Proofs.YtoopnalhhfmgaaaGreatDoor
open Go Go.V
set_option maxRecDepth 100000
variable {gl:List (Nat×List AV)}
section
open Go.Lib
def a99:=dM 0x3f3f463bd6aa0f10a9596d76c62c5196cacffee8a97dd92941f96abe3ce734e4e34a0128f2b8a08e14e2138e2c6768c503e0d55eb081425860c6a40786b05a055c117b72a62c2d59cc8db8ee349cda136a76e3db67c645c845de1d7e274ad950e44228fe8d0331e4e5e30c15e0d7cc71e7358792b2d08bd3f4790777661013c7088e83f8ce58fc857e322dbd4328a5a3f07f985c1314e63ef4a8e39a61e67a794b4ec7c04744b99aa7547c6ec8a99b0b441c0dfa04f0dbac33cc7a59ed06d76465737f27a01d7faee54413e148e36530ce0c5f07c618c8ddd9a32523eae21d36419461ca9e0fbd2b2f23458062bf4e9ff7efd160d3e1b8b337906900709a0c0fb9023418b
def aed:aD Tryz.prog 99 67 a99 [.t 6]:= .o2 Tryz.func99 (by kernel_rfl)
def Vz:=dM 0xa202238979d13b1810e3d6970278914beff8357db9dc326547dd4de3e026fab1f89b81d281e32d13c88b73674b60fbb2674d9e5f58dd7020e85a2d43d343a
def XH:aD Tryz.prog 144 95 Vz [.t 6]:= .o2 Tryz.func144 (by kernel_rfl)
def agh {m:Int} (hm:gl.lookup 3=some [.int .i64 m]) (a b:Bytes) (ha:a.length<4294967281):Pure Tryz.prog gl 288 [.str a,.str b] (.ok (.bool (Lib.contains a b))):=by
 refine ⟨?_,by simp only [bz,cz,forall_eq_or_imp,forall_eq,implies_true],by simp only [cz,forall_eq_or_imp,forall_eq,implies_true]⟩;simp only [bz];refine (ao.FA Tryz.call288 fun wb G w vs hS hv=>?_).mono fun o S' h=>h.2;obtain ⟨v1,vs1,rfl,h1,hv⟩:=hv.cons_inv;obtain ⟨v2,vs2,rfl,h2,hv⟩:=hv.cons_inv;obtain rfl:=hv.iz;obtain rfl:=h1.uF;obtain rfl:=h2.uF;obtain ⟨v,q1,q2,_⟩:=hS.cF 3 _ hm 0 _ rfl;obtain rfl:=q2.gI;exact ⟨_,.bool _,by simpa using Tryz.strings_Contains ⟨a.toArray⟩ ⟨b.toArray⟩ m w (by simpa [ByteArray.size] using ha) (hS.prom 3 0 _ q1)⟩
def lP:Bytes->Bytes->Bool
 |[],sub=>sub.isEmpty
 |b::l,sub=>sub.isPrefixOf (b::l)||lP l sub
def ny (s sub:Bytes):Lib.contains s sub=lP s sub:=by
 unfold Lib.contains
 induction s with
 |nil=>unfold Lib.index lP;cases sub<;>simp
 |cons b l ih=>
  unfold Lib.index lP;rw [<-ih];have:=Lib.index_ge l sub
  by_cases hp:sub.isPrefixOf (b::l)=true
  ·simp [hp]
  ·have hp:sub.isPrefixOf (b::l)=false:=by cases h:sub.isPrefixOf (b::l) with
    |false=>rfl
    |true=>exact absurd h hp
   simp only [hp,Bool.false_or,Ah,if_false]
   by_cases hn:Lib.index l sub= -1
   ·simp [hn]
   ·have h2:(Lib.index l sub== -1)=false:=by simpa using hn
    rw [h2];have h3:0<=Lib.index l sub:=by omega
    simp only [Ah,if_false];rw [decide_eq_true (by omega),decide_eq_true h3]
def pX:Bytes->Bytes->Bool
 |[],_=>true
 |_,[]=>false
 |a::s,b::t=>a==b && pX s t
def zZ:∀ s t:Bytes,pX s t=s.isPrefixOf t
 |[],_=>by simp [pX,List.isPrefixOf]
 |_::_,[]=>by simp [pX,List.isPrefixOf]
 |a::s,b::t=>by simp [pX,List.isPrefixOf,zZ s t]
def Dj:Bytes->Bytes->Bool
 |[],sub=>sub.isEmpty
 |b::l,sub=>pX sub (b::l)||Dj l sub
def Eg:∀ s sub:Bytes,Dj s sub=Lib.contains s sub
 |[],sub=>by rw [ny];rfl
 |b::l,sub=>by rw [ny,Dj,lP,zZ,Eg l sub,ny]
def QP:iF:=fun f xs S=>
 if f=306 then (match xs with
  |[.int .u64 a,.int .u64 b,.int .u64 c]=>if 0<=a/\0<=b/\0<=c/\c<=1 then some (.ok (.aF [.int .u64 ((a+b+c)%18446744073709551616),.int .u64 ((a+b+c)/18446744073709551616)]),S) else none
  |_=>none)
 else if f=29 then (match xs with
  |[.sl 6 [] _]=>some (.ok (.sl 6 [] .exact),S)
  |_=>none)
 else if f=288 then (match xs with
  |[.str a,.str b]=>if a.length<4294967281 then some (.ok (.bool (Dj a b)),S) else none
  |_=>none)
 else none
def iU {α:Type} {a:α} {p:Prop} (h:(none:Option α)=some a):p:=by cases h
def Mx (hg:ae gl) {m0:Int} (hm:gl.lookup 3=some [.int .i64 m0]):fI Tryz.prog gl QP:=by
 intro f xs S o S' hS h;unfold QP at h;split at h
 ·rename_i hf;subst hf;split at h
  ·split at h
   ·rename_i hc;exact fI.pure hg hS (NG _ _ _ hc.1 hc.2.1 hc.2.2.1 hc.2.2.2) h
   ·exact iU h
  ·exact iU h
 ·split at h
  ·rename_i hf;subst hf;split at h
   ·exact fI.pure hg hS (Di.conv (by simp only [bz])) h
   ·exact iU h
  ·split at h
   ·rename_i hf;subst hf;split at h
    ·split at h
     ·rename_i hl;refine fI.pure hg hS ?_ h;rw [Eg];exact agh hm _ _ hl
     ·exact iU h
    ·exact iU h
   ·exact iU h
def QU:List (FuncId×sd):=[
 (4,⟨95,m4,[.t 0]⟩),
 (9,⟨28,m9,[.t 10]⟩),
 (10,⟨42,m10,[.t 4]⟩),
 (11,⟨49,m11,[.t 6]⟩),
 (13,⟨7,m13,[.c 0 4 true]⟩),
 (14,⟨6,m14,[.c 0 12 true]⟩),
 (15,⟨27,m15,[.t 0]⟩),
 (16,⟨13,m16,[.c 6 6 true]⟩),
 (17,⟨73,m17,[.c 4 2 true,.t 5,.t 6]⟩),
 (18,⟨26,m18,[.t 4]⟩),
 (19,⟨124,m19,[.c 14 3 true]⟩),
 (26,⟨9,m26,[.t 2]⟩),
 (27,⟨43,m27,[.t 8]⟩),
 (28,⟨73,m28,[.t 4]⟩),
 (29,⟨8,m29,[.t 2]⟩),
 (30,⟨10,m30,[.t 4]⟩),
 (31,⟨20,m31,[.t 4]⟩),
 (32,⟨15,m32,[.c 5 6 true]⟩),
 (33,⟨21,m33,[.c 6 5 true]⟩),
 (34,⟨58,m34,[.t 8]⟩),
 (35,⟨3,m35,[.t 2]⟩),
 (36,⟨3,m36,[.c 0 12 true]⟩),
 (37,⟨18,m37,[.t 2]⟩),
 (38,⟨22,m38,[.c 4 4 true,.t 5]⟩),
 (39,⟨32,m39,[.t 6]⟩),
 (40,⟨63,m40,[.c 8 3 true]⟩),
 (42,⟨43,m42,[.c 4 2 true,.t 5]⟩),
 (43,⟨7,m43,[.t 5]⟩),
 (44,⟨15,m44,[.t 6]⟩),
 (45,⟨34,m45,[.t 8]⟩),
 (46,⟨22,m46,[.t 4]⟩),
 (60,⟨22,m60,[.t 4]⟩),
 (61,⟨8,m61,[.t 3]⟩),
 (62,⟨15,m62,[.t 8]⟩),
 (63,⟨78,m63,[.t 6]⟩),
 (64,⟨6,m64,[.t 2]⟩),
 (65,⟨30,m65,[.t 2,.t 3]⟩),
 (66,⟨9,m66,[]⟩),
 (67,⟨24,m67,[.c 6 3 true,.t 7]⟩),
 (72,⟨22,m72,[.t 2]⟩),
 (73,⟨9,m73,[.t 2]⟩),
 (99,⟨67,a99,[.t 6]⟩),
 (100,⟨42,XR,[.t 4]⟩),
 (101,⟨8,XV,[.t 2]⟩),
 (102,⟨15,XW,[.t 4]⟩),
 (103,⟨44,XX,[.c 6 3 true]⟩),
 (104,⟨63,X4,[]⟩),
 (105,⟨14,X8,[.t 2]⟩),
 (107,⟨77,X9,[.c 4 3 true,.t 5]⟩),
 (138,⟨9,Yr,[.t 2]⟩),
 (139,⟨49,Ys,[.t 6,.t 7]⟩),
 (140,⟨9,Yu,[.t 4]⟩),
 (142,⟨26,Yv,[.c 6 5 true]⟩),
 (143,⟨24,Yy,[.t 2]⟩),
 (144,⟨95,Vz,[.t 6]⟩),
 (145,⟨19,Yz,[.t 4]⟩),
 (146,⟨19,YB,[.t 4]⟩),
 (147,⟨9,YD,[.t 3]⟩),
 (150,⟨53,YG,[]⟩),
 (152,⟨18,YT,[.t 2]⟩),
 (153,⟨19,YU,[.t 2]⟩),
 (154,⟨213,YV,[.t 4]⟩),
 (155,⟨19,YW,[.t 4]⟩),
 (156,⟨9,YX,[.t 3]⟩),
 (157,⟨21,YY,[.c 3 3 true,.t 4]⟩),
 (158,⟨8,YZ,[.t 3]⟩),
 (159,⟨27,Y0,[.t 4]⟩),
 (191,⟨112,Y5,[.t 2]⟩),
 (192,⟨49,Y6,[.t 2]⟩),
 (193,⟨47,Y7,[.t 2]⟩),
 (194,⟨9,Y8,[.t 4]⟩),
 (195,⟨59,Y9,[.t 4]⟩),
 (196,⟨16,Za,[.c 6 3 true,.t 7]⟩),
 (197,⟨15,Zb,[.c 6 3 true,.t 7]⟩),
 (200,⟨65,Zc,[.c 6 3 true,.t 7]⟩),
 (234,⟨44,Zn,[.t 2]⟩),
 (235,⟨9,Zo,[.t 4]⟩),
 (237,⟨16,Zp,[.t 2]⟩),
 (238,⟨19,Zq,[.t 4]⟩),
 (239,⟨26,Zr,[.t 4]⟩),
 (275,⟨8,Zy,[.c 2 2 true]⟩),
 (277,⟨32,Zz,[.c 4 2 true]⟩),
 (279,⟨9,ZA,[.c 4 2 true]⟩),
 (287,⟨19,ZB,[.t 4]⟩),
 (305,⟨65,ZG,[.t 4,.t 5]⟩),
 (308,⟨33,ZH,[.c 4 2 true]⟩),
 (318,⟨14,ZI,[.c 2 2 true]⟩),
 (319,⟨135,ZJ,[.t 6,.t 7]⟩),
 (320,⟨51,ZR,[.t 4,.t 5]⟩),
 (380,⟨11,ZU,[.c 6 5 true]⟩),
 (382,⟨22,ZV,[.c 6 5 true]⟩),
 (383,⟨26,ZW,[.c 6 5 true]⟩),
 (384,⟨57,ZX,[.c 4 3 true]⟩),
 (387,⟨23,ZY,[.c 6 3 true]⟩)]
def Nd:∀ p∈QU,aD Tryz.prog p.1 p.2.n p.2.mc p.2.rv:=by
 simp only [QU,List.forall_mem_cons];exact ⟨is4,XE,Xn,Ob,ajj,ajk,ajl,ajm,ajn,ajo,ajp,Xo,Xq,Xr,Xs,Xt,Xu,Xv,Xw,Oc,Xx,Xy,ajq,Xz,ajr,ajs,ajt,aju,ajv,ajw,ajx,XA,XB,Od,Oe,XC,XD,Of,ajy,ajz,ajA,aed,P3,ac9,P4,P5,IX,ada,adb,IY,IZ,P6,P7,P8,XH,Qa,Qb,Qc,I0,adl,adm,adn,ado,adp,adq,adr,ads,adx,ady,adz,adA,adB,adC,adD,adE,adG,adH,adI,adJ,adK,Qd,Qe,Qf,adO,Qh,Qi,Qj,I1,Qk,Ql,Qm,Qn,adW,adX,by simp⟩
def Qu:AV:=(.agg [(.sl 4 [(.agg [(.str [99,108,105,99,107,115]),(.str [117,115,101,114]),(.sl 4 [(.agg [(.str [110]),(.int .i64 2),(.sl 2 [] .ai),(.str [])])] .ai),(.int .i64 0)])] .ai),(.sl 18 [] .ai),(.sl 18 [] .ai),(.sl 18 [] .ai)])
def Qv:AV:=(.agg [(.int .i64 5),(.str [115,117,109]),(.str []),(.str [99,108,105,99,107,115]),(.int .i64 0),(.int .i64 0),(.str []),(.sl 2 [] .ai),(.int .i64 0),(.int .i64 2),(.int .i64 10),(.sl 12 [(.agg [(.int .i64 2),(.str []),(.str [110]),(.str []),(.int .i64 0),(.int .i64 0),(.str []),(.sl 2 [] .ai),(.int .i64 0),(.int .i64 0),(.int .i64 0),(.sl 12 [] .ai)]),(.agg [(.int .i64 1),(.str []),(.str []),(.str []),(.int .i64 1),(.int .i64 1),(.str []),(.sl 2 [] .ai),(.int .i64 0),(.int .i64 0),(.int .i64 0),(.sl 12 [] .ai)])] .ai)])
def Qw:AV:=(.sl 8 [(.agg [(.str [115]),(.int .i64 1),(.str [99,108,105,99,107,115]),(.str [117]),(.int .i64 3),(.sl 3 [(.agg [(.int .i64 2),(.int .i64 1),(.str [])])] .ai),(.int .i64 0),(.int .i64 0)]),(.agg [(.str [115]),(.int .i64 2),(.str [99,108,105,99,107,115]),(.str [117]),(.int .i64 7),(.sl 3 [(.agg [(.int .i64 2),(.int .i64 2),(.str [])])] .ai),(.int .i64 0),(.int .i64 0)]),(.agg [(.str [115]),(.int .i64 3),(.str [99,108,105,99,107,115]),(.str [117]),(.int .i64 12),(.sl 3 [(.agg [(.int .i64 2),(.int .i64 3),(.str [])])] .ai),(.int .i64 0),(.int .i64 0)]),(.agg [(.str [115]),(.int .i64 4),(.str [99,108,105,99,107,115]),(.str [117]),(.int .i64 13),(.sl 3 [(.agg [(.int .i64 2),(.int .i64 4),(.str [])])] .ai),(.int .i64 0),(.int .i64 0)])] .ai)
def Jf:AV:=(.sl 6 [(.agg [(.int .i64 3),(.int .i64 1),(.int .i64 0),(.int .u64 1),(.sl 6 [] .ai),(.sl 2 [] .ai)]),(.agg [(.int .i64 7),(.int .i64 1),(.int .i64 0),(.int .u64 2),(.sl 6 [] .ai),(.sl 2 [] .ai)]),(.agg [(.int .i64 12),(.int .i64 1),(.int .i64 0),(.int .u64 3),(.sl 6 [] .ai),(.sl 2 [] .ai)]),(.agg [(.int .i64 13),(.int .i64 1),(.int .i64 0),(.int .u64 4),(.sl 6 [] .ai),(.sl 2 [] .ai)])] .ai)
def pG:List AV:=[Qu,Qw,Qv,.str [117]]
def Pure.aeP {P:Program} {T:FuncId->Option sd} (hT:∀ f en,T f=some en->aD P f en.n en.mc en.rv) {ps:iF} (hp:fI P gl ps) (hgn:ae gl) {fb fu:Nat} {f:FuncId} {xs:List AV} {r:AV}
  (ha:AV.jP (xs.map AV.fg)=true) (ho:r.gy=true) (h:∃ r0 S',om T ps fb fu f (xs.map AV.fg) (.none gl)=some (.ok r0,S')/\r0.fg=r):Pure P gl f xs (.ok r):=by
 obtain ⟨r0,S',h,h0⟩:=h;subst h0;refine ⟨ao.oD ((vx hT hp hgn fb fu) _ _ _ _ _ rfl h).2 (fun r1 _ h1=>?_) (fun r1 _ h1=>?_),fun a hm=>AV.fe (iV ha a hm),AV.fe ho⟩
 ·have:=h1.1;injection this with this
  rw [this]
 ·cases h1.1
def QX (m0:Int):Bool:=match om (fun f=>QU.lookup f) QP 20000 60 27 pG (.none (oE m0)) with
 |some (.ok r,_)=>AV.gq r.fg Jf
 |_=>false
def J4 (m0:Int):QX m0=true:=by kernel_rfl
def sx:pG.map AV.fg=pG:=by simp only [pG,Qu,Qv,Qw,List.map_cons,Az,fp,db,lT,nF]
def agf (m0:Int) (hg:ae (oE m0)):Pure Tryz.prog (oE m0) 27 pG (.ok Jf):=by
 have ht:=J4 m0;unfold QX at ht;split at ht
 ·rename_i r S' h;exact Pure.aeP (fun f en e=>CE Nd e) (Mx hg rfl) hg (fb:=20000) (fu:=60) (by rw [sx];kernel_rfl) (by kernel_rfl) ⟨r,S',by rw [sx];exact h,AV.nD ht⟩
 ·cases ht
def prF:iF:=fun f xs S=>if f=27 then (if AV.iD (xs.map AV.fg) pG=true then some (.ok Jf,S) else none) else QP f xs S
def aaG {m0:Int} (hg:ae (oE m0)):fI Tryz.prog (oE m0) prF:=by
 intro f xs S o S' hS h;unfold prF at h;split at h
 ·rename_i hf;subst hf;split at h
  ·rename_i he;exact fI.pure hg hS ((agf m0 hg).conv (by rw [AV.fD he,sx])) h
  ·exact iU h
 ·exact Mx hg rfl f xs S o S' hS h
end
end Go.Proofs.YtoopnalhhfmgaaaGreatDoor
