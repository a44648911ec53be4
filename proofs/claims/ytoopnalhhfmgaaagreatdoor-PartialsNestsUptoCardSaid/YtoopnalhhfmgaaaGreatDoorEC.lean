/- Every operation in outline. -/
import Derived.Test.YtoopnalhhfmgaaaGreatDoorEA
set_option linter.defProp false
set_option linter.unusedSimpArgs false
set_option linter.unusedVariables false
namespace Go.Proofs.YtoopnalhhfmgaaaGreatDoor
open Go Go.V
section
variable {gl:List (Nat×List AV)} {E E':En} {A:AS} {F:Fr} {S:St}
def ES:∀ (n:Nat) (xs:List AV),bh (xs.drop n)<=bh xs
 |0,xs=>by simp
 |n+1,[]=>by simp
 |n+1,x::xs=>by
  have:=ES n xs;simp only [bh,Cg,List.cons.sizeOf_spec] at*;omega
def FB:∀ (n:Nat) (xs:List AV),bh (xs.take n)<=bh xs
 |0,[]=>by simp
 |0,x::xs=>by simp only [bh,List.take_zero,List.cons.sizeOf_spec,List.nil.sizeOf_spec];omega
 |n+1,[]=>by simp
 |n+1,x::xs=>by
  have:=FB n xs;simp only [bh,List.take_succ_cons,List.cons.sizeOf_spec] at*;omega
def qY (d:aa):Option SV->Option aa
 |none=>some d
 |some (.i _ e)=>some e
 |_=>none
def po (E:En):Option SV->Option AV->Prop
 |none,v=>v=none
 |some x,v=>∃ w,v=some w/\x.rel E w
def kU {d:aa} {dv:Int} (hd:d.is E.ρ dv) {x:Option SV} {v:Option AV} (hx:po E x v) {e:aa} (he:qY d x=some e):∃ n,cT dv v=some n/\e.is E.ρ n/\v.isSome=x.isSome:=by
 unfold qY at he;split at he
 ·cases he;have hx:v=none:=hx;subst hx;exact ⟨dv,rfl,hd,rfl⟩
 ·cases he;obtain ⟨w,rfl,hw⟩:=hx;simp only [SV.rel] at hw;obtain ⟨n,h1,_,rfl⟩:=hw;exact ⟨n,rfl,h1,rfl⟩
 ·cases he
def isZ (e:aa):Bool:=match e.ts with
 |[]=>decide (e.c=0)
 |_=>false
def Dw (A:AS) (k:Nat) (x:SV) (lo hi mx:Option SV):Option (SV×AS):=
 match x with
 | .l k' X t=>if Nat.beq k' k then (match nth A.ls X with
  |some li=>(match qY (.aZ 0) lo,qY li.n hi with
   |some l,some h=>if cO A.fs l && (cO A.fs (h.sub l) && cO A.fs (li.n.sub h)) then (match mx with
    |none=>some (.l k A.ls.length (if lo.isNone && hi.isNone then t else 0),A.ec ⟨li.k,li.e,h.sub l,li.z⟩)
    |some m=>(match qY (.aZ 0) (some m) with
     |some m=>if hi.isSome && (cO A.fs (m.sub h) && cO A.fs (li.n.sub m)) then some (.l k A.ls.length (if isZ (m.sub h) then 1 else 0),A.ec ⟨li.k,li.e,h.sub l,li.z⟩) else none
     |none=>none)) else none
   |_,_=>none)
  |none=>none) else none
 |_=>none
def LH (h:Gm gl E A F S) {k:Nat} {x:SV} {lo hi mx:Option SV} {v:AV} {lo' hi' mx':Option AV} (hx:x.rel E v) (hlo:po E lo lo') (hhi:po E hi hi') (hmx:po E mx mx') {p:SV×AS} (hp:Dw A k x lo hi mx=some p):
  ∃ r,cQ k v lo' hi' mx'=some r/\cE v lo' hi' mx'/\fM gl E S F p r:=by
 unfold Dw at hp;split at hp
 ·rename_i k' X t;split at hp
  ·rename_i hk;obtain rfl:=aq.1 hk;split at hp
   ·rename_i li hli;rw [cP] at hli;obtain ⟨xs,h1,h2⟩:=h.ls X li hli;simp only [SV.rel] at hx;obtain ⟨xs',tk,h3,h4,rfl⟩:=hx;rw [h1] at h3;cases h3;split at hp
    ·rename_i l hh el eh;obtain ⟨a,ea,ia,na⟩:=kU (aa.bX _ 0) hlo el;obtain ⟨b,eb,ib,nb⟩:=kU h2.n hhi eh;split at hp
     ·rename_i hc;simp only [Aa] at hc;have c1:=bB h.fs ia hc.1;have c2:=bB h.fs (ib.sub ia) hc.2.1;have c3:=bB h.fs (h2.n.sub ib) hc.2.2;have hE:=E.im ((xs.take b.toNat).drop a.toNat)
      have hL:gv E ⟨li.k,li.e,hh.sub l,li.z⟩ ((xs.take b.toNat).drop a.toNat):=by
       refine ⟨(h2.el.take _).drop _,?_,?_⟩
       ·have:((((xs.take b.toNat).drop a.toNat).length:Nat):Int)=b-a:=by
         simp only [AK,Av];omega
        rw [this];exact ib.sub ia
       ·obtain ⟨z,q1,q2⟩:=h2.z;refine ⟨z,q1,?_⟩;have r1:=ES a.toNat (xs.take b.toNat);have r2:=FB b.toNat xs;omega
      have g:=h.ec hL;split at hp
      ·cases hp;have hmx:mx'=none:=hmx;subst hmx;refine ⟨_,by simp only [cQ,if_true,ea,eb,Option.bind_some];rfl,?_,_,hE,g,?_⟩
       ·simp only [cE,ea,eb];exact ⟨c1,by omega,by omega,trivial⟩
       ·simp only [SV.rel];refine ⟨_,_,h.rH _,?_,rfl⟩;have e1:lo'.isNone=lo.isNone:=by cases lo'<;>cases lo<;>simp_all
        have e2:hi'.isNone=hi.isNone:=by cases hi'<;>cases hi<;>simp_all
        rw [e1,e2];split
        ·exact h4.le hE
        ·trivial
      ·rename_i m;split at hp
       ·rename_i mm em;obtain ⟨d,ed,id',nd⟩:=kU (aa.bX _ 0) hmx em;obtain ⟨w,rfl,_⟩:=hmx;split at hp
        ·rename_i hc2;cases hp;simp only [Aa] at hc2;have d1:=bB h.fs (id'.sub ib) hc2.2.1;have d2:=bB h.fs (h2.n.sub id') hc2.2.2;refine ⟨_,by simp only [cQ,if_true,ea,eb,Option.bind_some,ed,Option.map_some];rfl,?_,_,hE,g,?_⟩
         ·simp only [cE,ea,eb,ed];exact ⟨c1,by omega,by omega,by omega,by omega,nb.trans hc2.1⟩
         ·simp only [SV.rel];refine ⟨_,_,h.rH _,?_,rfl⟩;split
          ·rename_i hz
           have hdb:d=b:=by
            have h5:=id'.sub ib;unfold isZ at hz;split at hz
            ·rename_i hts;have h6:=h5.2;simp only [aa.val,hts,b9] at h6;have hz:(mm.sub hh).c=0:=by simpa using hz
             omega
            ·cases hz
           subst hdb;show (if d=d then bD.exact else bD.ai)=bD.exact;simp
          ·trivial
        ·cases hp
       ·cases hp
     ·cases hp
    ·cases hp
   ·cases hp
  ·cases hp
 ·cases hp
def Eg (k:Nat) (x:SV) (lo hi mx:Option SV):Option SV:=
 match x,mx with
 | .lit k' xs t,none=>(match qY (.aZ 0) lo,qY (.aZ (xs.length:Nat)) hi with
  |some ⟨l,[]⟩,some ⟨h,[]⟩=>if Nat.beq k' k && (decide (0<=l) && (decide (l<=h) && decide (h<=(xs.length:Nat)))) then some (.lit k ((xs.take h.toNat).drop l.toNat) (if lo.isNone && hi.isNone then t else 0)) else none
  |_,_=>none)
 |_,_=>none
def HQ {c:Int} {x:Int} (h:(⟨c,[]⟩:aa).is E.ρ x):x=c:=by
 rw [<-h.2];simp [aa.val,b9]
def La {k:Nat} {x r:SV} {lo hi mx:Option SV} {v:AV} {lo' hi' mx':Option AV} (hx:x.rel E v) (hlo:po E lo lo') (hhi:po E hi hi') (hmx:po E mx mx') (hp:Eg k x lo hi mx=some r):
  ∃ w,cQ k v lo' hi' mx'=some w/\cE v lo' hi' mx'/\r.rel E w:=by
 unfold Eg at hp;split at hp
 ·rename_i k' xs t;have hmx:mx'=none:=hmx;subst hmx;simp only [SV.rel] at hx;obtain ⟨ys,tk,h1,h2,rfl⟩:=hx;split at hp
  ·rename_i l hh el eh;obtain ⟨a,ea,ia,na⟩:=kU (aa.bX _ 0) hlo el;obtain ⟨b,eb,ib,nb⟩:=kU (aa.bX E.ρ ((xs.length:Nat):Int)) hhi eh;rw [<-bV h1] at eb;have ha:=HQ ia;have hb:=HQ ib;subst ha hb;split at hp
   ·rename_i hc;cases hp;simp only [Aa,decide_eq_true_eq] at hc;obtain ⟨c0,c1,c2,c3⟩:=hc;obtain rfl:=aq.1 c0;rw [<-bV h1] at c3;refine ⟨_,by simp only [cQ,if_true,ea,eb,Option.bind_some];rfl,?_,?_⟩
    ·simp only [cE,ea,eb];exact ⟨c1,c2,c3,trivial⟩
    ·simp only [SV.rel];refine ⟨_,_,iQ _ (nZ _ h1),?_,rfl⟩;have e1:lo'.isNone=lo.isNone:=by cases lo'<;>cases lo<;>simp_all
     have e2:hi'.isNone=hi.isNone:=by cases hi'<;>cases hi<;>simp_all
     rw [e1,e2];split
     ·exact h2
     ·trivial
   ·cases hp
  ·cases hp
 ·cases hp
def D6 (A:AS) (x:SV) (lo hi:Option SV):Option (SV×AS):=
 match kr x with
 |some n=>(match qY (.aZ 0) lo,qY n hi with
  |some l,some h=>if cO A.fs l && (cO A.fs (h.sub l) && cO A.fs (n.sub h)) then some (.s (h.sub l),A) else none
  |_,_=>none)
 |none=>none
def Kf (h:Gm gl E A F S) {x:SV} {lo hi:Option SV} {v:AV} {lo' hi':Option AV} (hx:x.rel E v) (hlo:po E lo lo') (hhi:po E hi hi') {p:SV×AS} (hp:D6 A x lo hi=some p):
  ∃ r,gM v lo' hi'=some r/\fS v lo' hi'/\fM gl E S F p r:=by
 unfold D6 at hp;split at hp
 ·rename_i n hn;obtain ⟨s,rfl,hs⟩:=gQ hn hx;split at hp
  ·rename_i l hh el eh;obtain ⟨a,ea,ia,na⟩:=kU (aa.bX _ 0) hlo el;obtain ⟨b,eb,ib,nb⟩:=kU hs hhi eh;split at hp
   ·rename_i hc;cases hp;simp only [Aa] at hc;have c1:=bB h.fs ia hc.1;have c2:=bB h.fs (ib.sub ia) hc.2.1;have c3:=bB h.fs (hs.sub ib) hc.2.2;refine ⟨_,by simp only [gM,ea,eb,Option.bind_some,Option.map_some];rfl,?_,.same h ?_⟩
    ·simp only [fS,ea,eb];exact ⟨c1,by omega,by omega⟩
    ·simp only [SV.rel];refine ⟨_,?_,rfl⟩
     have:((((s.take b.toNat).drop a.toNat).length:Nat):Int)=b-a:=by
      simp only [AK,Av];omega
     rw [this];exact ib.sub ia
   ·cases hp
  ·cases hp
 ·cases hp
def Jy (k:Nat):List SV->Bool
 |[]=>true
 |x::xs=>vD x && (Nat.beq (kT x).length k && Jy k xs)
def G9 {k:Nat}:∀ {xs:List SV} {vs:List AV},ba E xs vs->Jy k xs=true->iE k vs=true
 |[],vs,h,_=>by rw [aV.1 h];rfl
 |x::xs,vs,h,hc=>by
  obtain ⟨w,ws,h1,h2,rfl⟩:=aO.1 h;simp only [Jy,Aa] at hc;obtain ⟨g1,g2⟩:=pw h1 hc.1;have:=G9 h2 hc.2.2;simp only [iE,List.all_cons,Aa] at this ⊢;exact ⟨⟨g1,by rw [bV g2,aq.1 hc.2.1];simp⟩,this⟩
def Fq (A:AS) (s:Bool) (x:SV):Option SV:=
 match x with
 | .l _ X _=>if s then none else (match nth A.ls X with
  |some li=>some (.i .i64 li.n)
  |none=>none)
 | .lit _ xs _=>if s then none else some (.i .i64 (.aZ (xs.length:Nat)))
 |x=>if s then (match kr x with
  |some n=>some (.i .i64 n)
  |none=>none) else none
def Lr (h:Gm gl E A F S) {s:Bool} {x r:SV} {v:AV} (hx:x.rel E v) (hr:Fq A s x=some r):∃ w,isStr v=s/\dH v=some w/\r.rel E w:=by
 unfold Fq at hr;split at hr
 ·rename_i k X t;split at hr
  ·cases hr
  ·rename_i hs;split at hr
   ·rename_i li hli;cases hr;rw [cP] at hli;obtain ⟨xs,h1,h2⟩:=h.ls X li hli;simp only [SV.rel] at hx;obtain ⟨xs',tk,h3,h4,rfl⟩:=hx;rw [h1] at h3;cases h3;exact ⟨_,by simpa [isStr] using hs,rfl,by simp only [SV.rel];exact ⟨_,h2.n,ij _,rfl⟩⟩
   ·cases hr
 ·split at hr
  ·cases hr
  ·rename_i hs;cases hr;simp only [SV.rel] at hx;obtain ⟨ys,tk,h1,h2,rfl⟩:=hx;exact ⟨_,by simpa [isStr] using hs,rfl,by simp only [SV.rel];exact ⟨_,by rw [<-bV h1];exact aa.bX _ _,ij _,rfl⟩⟩
 ·split at hr
  ·rename_i hs;split at hr
   ·rename_i n hn;cases hr;obtain ⟨t,rfl,ht⟩:=gQ hn hx;exact ⟨_,hs.symm,rfl,by simp only [SV.rel];exact ⟨_,ht,ij _,rfl⟩⟩
   ·cases hr
  ·cases hr
def XJ:MK->Bool
 | .store ..| .DY ..| .ins ..| .pq ..| .rG ..| .qS ..| .sy ..=>true
 |_=>false
structure OpR (gl:List (Nat×List AV)) (E:En) (F:Fr) (S:St) (m:MK) (L:List (SV×AS)):Prop where
 h:∃ p∈L,∃ E' v S',m.ob F S/\m.ev F S=some (v,S')/\E.le E'/\Gm gl E' p.2 F S'/\p.1.rel E' v/\S.n<=S'.n/\(XJ m=false->∀ l,l<S.n->S'.get l=S.get l)
def OpR.val {m:MK} {p:SV×AS} {v:AV} (hs:fM gl E S F p v) (ho:m.ob F S) (he:m.ev F S=some (v,S)):OpR gl E F S m [p]:=by
 obtain ⟨E',h1,h2,h3⟩:=hs.h;exact ⟨p,by simp,E',v,S,ho,he,h1,h2,h3,Af _,fun _ _ _=>rfl⟩
def lW:Option (SV×AS)->Option (List (SV×AS))
 |some p=>some [p]
 |none=>none
def o6 (A:AS):Option SV->Option (List (SV×AS))
 |some x=>some [(x,A)]
 |none=>none
def qA (A:AS):Option aj->Option (Option SV)
 |none=>some none
 |some x=>match cn A x with
  |some s=>some (some s)
  |none=>none
def iP (h:Gm gl E A F S) {x:Option aj} {s:Option SV} (e:qA A x=some s):po E s (x.map (aj.ev F)):=by
 unfold qA at e;split at e
 ·cases e;exact rfl
 ·split at e
  ·cases e;exact ⟨_,rfl,bf h ‹_›⟩
  ·cases e
def xq (x y:SV):List (Bool×AS)->List (SV×AS)
 |[]=>[]
 |(t,B)::r=>(if t then x else y,B)::xq x y r
def oJ {x y:SV} {t:Bool} {B:AS}:∀ {l:List (Bool×AS)},(t,B)∈l->(if t then x else y,B)∈xq x y l
 |[],h=>by cases h
 |(u,C)::r,h=>by
  rcases Ab.1 h with h|h
  ·cases h;simp [xq]
  ·exact Ao _ (oJ h)
def De (x:SV) (B:AS):List (List aa)->List (SV×AS)
 |[]=>[]
 |fs::r=>(x,B.ju fs)::De x B r
def zA {x:SV} {B:AS} {fs:List aa}:∀ {l:List (List aa)},fs∈l->(x,B.ju fs)∈De x B l
 |[],h=>by cases h
 |g::r,h=>by
  rcases Ab.1 h with rfl|h
  ·simp [De]
  ·exact Ao _ (zA h)
def HY (A:AS) (k:Nat) (x i:SV):Option (List (SV×AS)):=
 match x,i with
 | .l k' X _,.i _ e=>if Nat.beq k' k then (match A.at X e with
  |some (B,fss)=>some (De (.e k X e 0) B fss)
  |none=>none) else none
 |_,_=>none
def wR (A:AS) (x y:SV) (mx:Bool):Option (List (SV×AS)):=
 match x,y with
 | .i k a,.i k' b=>if kX k k' then some (xq y x (fork A (.FH (((if mx then b.sub a else a.sub b)).aG (-1))))) else none
 |_,_=>none
def KX (A:AS) (k:Nat) (neg:Bool) (x y:SV):Option (SV×AS):=
 match k,x,y with
 |0,.b _,.b _=>some (zq A)
 |2,.p _ _,.c .cS=>some (.b (.k (neg !=false)),A)
 |2,.e _ _ _ _,.c .cS=>some (.b (.k (neg !=false)),A)
 |2,.c .cS,.c .cS=>some (.b (.k (neg !=true)),A)
 |_,_,_=>none
def MW (i:Nat):SV->Option SV
 | .aF vs=>nth vs i
 |_=>none
def wS (off n:Nat) (ag:Bool):SV->Option SV
 | .a cs=>wG n ag (cs.drop off)
 |_=>none
def ek (A:AS):MK->Option (List (SV×AS))
 | .ou x=>o6 A (cn A x)
 | .pick c a b=>(match cn A c,cn A a,cn A b with
  |some (.b t),some x,some y=>some (xq x y (fork A t))
  |_,_,_=>none)
 | .alloc z=>if xN (rS z) then some [A.obj (rS z)] else none
 | .box x=>(match cn A x with
  |some s=>if vD s && xN (kT s) then some [A.obj (kT s)] else none
  |none=>none)
 | .build z ps=>(match qR A (rS z) ps with
  |some cs=>some [(.a cs,A)]
  |none=>none)
 | .rF k _ xs=>(match qz A xs with
  |some ss=>if Jy k ss then some [(.lit k ss 1,A)] else none
  |none=>none)
 | .DS _ kz vz n=>some [(.lit 1 (rS (List.replicate n (.int kz vz))) 0,A)]
 | .load n ag p=>(match cn A p with
  |some s=>o6 A (tA A n ag s)
  |none=>none)
 | .store n p x=>(match cn A p,cn A x with
  |some s,some t=>(match vU A n s t with
   |some B=>some [(.aF [],B)]
   |none=>none)
  |_,_=>none)
 | .bin op x y=>(match cn A x,cn A y with
  |some s,some t=>lW (EO A op s t)
  |_,_=>none)
 | .eqv ks _ x y=>(match cn A x,cn A y with
  |some s,some t=>lW (D3 A ks s t)
  |_,_=>none)
 | .un op x=>(match cn A x with
  |some s=>lW (Jj A op s)
  |none=>none)
 | .conv k x=>(match cn A x with
  |some s=>lW (GB A k s)
  |none=>none)
 | .rB off x=>(match cn A x with
  |some s=>o6 A (tQ off s)
  |none=>none)
 | .H7 off n ag x=>(match cn A x with
  |some s=>o6 A (wS off n ag s)
  |none=>none)
 | .rI k x i=>(match cn A x,cn A i with
  |some s,some t=>HY A k s t
  |_,_=>none)
 | .vH k ln ag x (.c (.int _ n))=>(match cn A x with
  |some s=>if decide (0<=n) && decide (n<ln) then o6 A (wS (n.toNat*k) k ag s) else none
  |none=>none)
 | .mM k ln x (.c (.int _ n))=>(match cn A x with
  |some s=>if decide (0<=n) && decide (n<ln) then o6 A (tQ (n.toNat*k) s) else none
  |none=>none)
 | .sW x i=>(match cn A x,cn A i with
  |some s,some t=>lW (zr A s t)
  |_,_=>none)
 | .xO x lo hi=>(match cn A x,qA A lo,qA A hi with
  |some s,some l,some h=>lW (D6 A s l h)
  |_,_,_=>none)
 | .xC k x lo hi mx=>(match cn A x,qA A lo,qA A hi,qA A mx with
  |some s,some l,some h,some m=>(match Eg k s l h m with
   |some r=>some [(r,A)]
   |none=>lW (Dw A k s l h m))
  |_,_,_,_=>none)
 | .len s x=>(match cn A x with
  |some t=>o6 A (Fq A s t)
  |none=>none)
 | .app k bytes x y=>(match cn A x,cn A y with
  |some s,some t=>(match kr t with
   |some n=>lW (zg A k bytes s n)
   |none=>lW (Ff A k bytes s t))
  |_,_=>none)
 | .HL x=>(match cn A x with
  |some s=>lW (FP A s)
  |none=>none)
 | .Fw x=>(match cn A x with
  |some s=>o6 A (FQ A s)
  |none=>none)
 | .K5 x=>(match cn A x with
  |some s=>if (kr s).isSome then some [(s,A)] else none
  |none=>none)
 | .ext x i=>(match cn A x with
  |some s=>o6 A (MW i s)
  |none=>none)
 | .min x y=>(match cn A x,cn A y with
  |some s,some t=>wR A s t false
  |_,_=>none)
 | .max x y=>(match cn A x,cn A y with
  |some s,some t=>wR A s t true
  |_,_=>none)
 | .cmp k neg x y=>(match cn A x,cn A y with
  |some s,some t=>lW (KX A k neg s t)
  |_,_=>none)
 | .func f a c=>(match qz A a,qz A c with
  |some s,some t=>some [(.fn f s t,A)]
  |_,_=>none)
 |_=>none
def gB {o:Option (SV×AS)} {L:List (SV×AS)} (h:lW o=some L):∃ p,o=some p/\L=[p]:=by
 cases o with
 |none=>cases h
 |some p=>cases h;exact ⟨p,rfl,rfl⟩
def je {o:Option SV} {L:List (SV×AS)} (h:o6 A o=some L):∃ p,o=some p/\L=[(p,A)]:=by
 cases o with
 |none=>cases h
 |some p=>cases h;exact ⟨p,rfl,rfl⟩
def s4 {vs:List AV} {l:Nat} (hl:l<S.n):St.get {S with n:=S.n+1,obj:=(S.n,vs)::S.obj} l=S.get l:=by
 have hb:(l==S.n)=false:=by
  have:l≠S.n:=by omega
  simpa using this
 simp only [St.get,List.lookup_cons,hb]
def evc (v:AV) (F:Fr):(aj.c v).ev F=v:=rfl
def Tl (h:Gm gl E A F S) {m:MK} {L:List (SV×AS)} (hL:ek A m=some L):OpR gl E F S m L:=by
 cases m with
 |ou x=>
  obtain ⟨s,h1,rfl⟩:=je hL;exact .val (.same h (bf h h1)) trivial rfl
 |pick c a b=>
  simp only [ek] at hL;split at hL
  ·rename_i t x y h1 h2 h3;cases hL;have g1:=bf h h1;simp only [SV.rel] at g1;obtain ⟨u,g2,g3⟩:=g1;obtain ⟨B,g4,g5⟩:=mT h g2;refine ⟨_,oJ g4,E,if u then a.ev F else b.ev F,S,trivial,by simp only [MK.ev,g3],.refl E,g5,?_,Af _,fun _ _ _=>rfl⟩;cases u
   ·exact bf h h3
   ·exact bf h h2
  ·cases hL
 |alloc z=>
  simp only [ek] at hL;split at hL
  ·rename_i hc;cases hL;exact ⟨_,by simp,_,_,_,trivial,rfl,E.xL _,h.obj (pt E z) hc,h.NR _,Nat.le_succ _,fun _ l hl=>s4 hl⟩
  ·cases hL
 |box x=>
  simp only [ek] at hL;split at hL
  ·rename_i s h1;split at hL
   ·rename_i hc;cases hL;simp only [Aa] at hc;obtain ⟨g1,g2⟩:=pw (bf h h1) hc.1;exact ⟨_,by simp,_,_,_,trivial,by simp only [MK.ev,g1,if_true],E.xL _,h.obj g2 hc.2,h.NR _,Nat.le_succ _,fun _ l hl=>s4 hl⟩
   ·cases hL
  ·cases hL
 |build z ps=>
  simp only [ek] at hL;split at hL
  ·rename_i cs h1;cases hL;obtain ⟨ws,g1,g2⟩:=uT h (pt E z) h1;exact .val (v:= .agg ws) (.same h (by simp only [SV.rel];exact ⟨ws,g2,rfl⟩)) trivial (by simp only [MK.ev,g1,Option.map_some])
  ·cases hL
 |rF k z xs=>
  simp only [ek] at hL;split at hL
  ·rename_i ss h1;split at hL
   ·rename_i hc;cases hL;have g:=kV h h1;exact .val (v:= .sl k (xs.map (aj.ev F)) .exact) (.same h (by simp only [SV.rel];exact ⟨_,.exact,g,rfl,rfl⟩)) trivial (by simp only [MK.ev,G9 g hc,if_true])
   ·cases hL
  ·cases hL
 |DS b kz vz n=>
  simp only [ek] at hL;cases hL;exact .val (v:= .sl 1 (List.replicate n (.int kz vz)) .ai) (.same h (by simp only [SV.rel];exact ⟨_,.ai,pt E _,trivial,rfl⟩)) trivial rfl
 |load n ag p=>
  simp only [ek] at hL;split at hL
  ·rename_i s h1;obtain ⟨x,h2,rfl⟩:=je hL;obtain ⟨r,g1,g2⟩:=yj h (bf h h1) h2;exact .val (.same h g2) trivial g1
  ·cases hL
 |store n p x=>
  simp only [ek] at hL;split at hL
  ·rename_i s t h1 h2;split at hL
   ·rename_i B h3;cases hL;obtain ⟨S',g1,g2,g3⟩:=Gd h (bf h h1) (bf h h2) h3;exact ⟨(.aF [],B),by simp,E,.aF [],S',trivial,by simp only [MK.ev,g1,Option.map_some],.refl E,g2,by simp only [SV.rel];exact ⟨[],aV.2 rfl,rfl⟩,by omega,fun e=>by cases e⟩
   ·cases hL
  ·cases hL
 |bin op x y=>
  simp only [ek] at hL;split at hL
  ·rename_i s t h1 h2;obtain ⟨p,h3,rfl⟩:=gB hL;obtain ⟨r,g1,g2,g3⟩:=Lv h (bf h h1) (bf h h2) h3;exact .val g3 g2 (by simp only [MK.ev,g1,Option.map_some])
  ·cases hL
 |eqv ks neg x y=>
  simp only [ek] at hL;split at hL
  ·rename_i s t h1 h2;obtain ⟨p,h3,rfl⟩:=gB hL;obtain ⟨r,g1,g3⟩:=LQ (neg:=neg) h (bf h h1) (bf h h2) h3;exact .val g3 trivial (by simp only [MK.ev,g1,Option.map_some])
  ·cases hL
 |un op x=>
  simp only [ek] at hL;split at hL
  ·rename_i s h1;obtain ⟨p,h3,rfl⟩:=gB hL;obtain ⟨r,g1,g3⟩:=NL h (bf h h1) h3;exact .val g3 trivial (by simp only [MK.ev,g1,Option.map_some])
  ·cases hL
 |conv k x=>
  simp only [ek] at hL;split at hL
  ·rename_i s h1;obtain ⟨p,h3,rfl⟩:=gB hL;have g:=bf h h1;unfold GB at h3;split at h3
   ·cases h3;simp only [SV.rel] at g;obtain ⟨n,g1,_,g2⟩:=g;exact .val (tl h g1) trivial (by simp only [MK.ev,g2])
   ·cases h3
  ·cases hL
 |rB off x=>
  simp only [ek] at hL;split at hL
  ·rename_i s h1;obtain ⟨p,h3,rfl⟩:=je hL;obtain ⟨r,g1,g2⟩:=xy (bf h h1) h3;exact .val (.same h g2) trivial (by simp only [MK.ev,g1,Option.map_some])
  ·cases hL
 |H7 off n ag x=>
  simp only [ek] at hL;split at hL
  ·rename_i s h1;obtain ⟨p,h3,rfl⟩:=je hL;have g:=bf h h1;unfold wS at h3;split at h3
   ·simp only [SV.rel] at g;obtain ⟨vs,g1,g2⟩:=g;obtain ⟨r,g3,g4⟩:=qH (iQ off g1) h3;exact .val (.same h g4) trivial (by simp only [MK.ev,g2,lq,g3,Option.map_some])
   ·cases h3
  ·cases hL
 |rI k x i=>
  simp only [ek] at hL;split at hL
  ·rename_i s t h1 h2;have g:=bf h h1;have g':=bf h h2;unfold HY at hL;split at hL
   ·rename_i k' X t' k2 e;split at hL
    ·rename_i hk;obtain rfl:=aq.1 hk;split at hL
     ·rename_i B fss hB;cases hL;simp only [SV.rel] at g g';obtain ⟨xs',tk,g1,_,g2⟩:=g;obtain ⟨n,g3,_,g4⟩:=g';obtain ⟨li,xs,q1,q2,q3,q4,q5,E1,q6,q7,fs,q8,q9⟩:=acM h g3 hB;rw [q2] at g1;cases g1;refine ⟨_,zA q8,E1,.eX k' xs' n.toNat 0,S,?_,?_,q6,q7.ju q9,?_,Af _,fun _ _ _=>rfl⟩
      ·simp only [MK.ob,g2,g4];exact ⟨q4,q5⟩
      ·simp only [MK.ev,g2,g4,if_true]
      ·simp only [SV.rel];exact ⟨xs',n,q6.χg q2,g3.le q6,rfl⟩
     ·cases hL
    ·cases hL
   ·cases hL
  ·cases hL
 |vH k ln ag x i=>
  unfold ek at hL
  split at hL<;>first
   |(rename_i e;cases e;done)
   |cases ‹MK.vH _ _ _ _ _=_›
   |(cases hL;done)
  rename_i n;split at hL
  ·rename_i s h1;split at hL
   ·rename_i hc;simp only [Aa,decide_eq_true_eq] at hc;obtain ⟨p,h3,rfl⟩:=je hL;have g:=bf h h1;unfold wS at h3;split at h3
    ·simp only [SV.rel] at g;obtain ⟨vs,g1,g2⟩:=g;obtain ⟨r,g3,g4⟩:=qH (iQ _ g1) h3;exact .val (.same h g4) trivial (by simp only [MK.ev,evc,g2,jx,if_pos hc,g3,Option.map_some])
    ·cases h3
   ·cases hL
  ·cases hL
 |mM k ln x i=>
  unfold ek at hL
  split at hL<;>first
   |(rename_i e;cases e;done)
   |cases ‹MK.mM _ _ _ _=_›
   |(cases hL;done)
  rename_i n;split at hL
  ·rename_i s h1;split at hL
   ·rename_i hc;simp only [Aa,decide_eq_true_eq] at hc;obtain ⟨p,h3,rfl⟩:=je hL;obtain ⟨r,g1,g2⟩:=xy (bf h h1) h3;exact .val (.same h g2) (by simp only [MK.ob,evc];exact hc) (by simp only [MK.ev,evc,g1,Option.map_some])
   ·cases hL
  ·cases hL
 |sW x i=>
  simp only [ek] at hL;split at hL
  ·rename_i s t h1 h2;obtain ⟨p,h3,rfl⟩:=gB hL;obtain ⟨s,k,n,b,g1,g2,g3,g4,g5⟩:=JS h (bf h h1) (bf h h2) h3;exact .val g5 (by simp only [MK.ob,g2];exact g3) (by simp only [MK.ev,g1,g2,g4,Option.map_some])
  ·cases hL
 |xO x lo hi=>
  simp only [ek] at hL;split at hL
  ·rename_i s l hh h1 h2 h3;obtain ⟨p,h4,rfl⟩:=gB hL;obtain ⟨r,g1,g2,g3⟩:=Kf h (bf h h1) (iP h h2) (iP h h3) h4;exact .val g3 g2 (by simp only [MK.ev,g1,Option.map_some])
  ·cases hL
 |xC k x lo hi mx=>
  simp only [ek] at hL;split at hL
  ·rename_i s l hh m h1 h2 h3 h5;split at hL
   ·rename_i r hr;cases hL;obtain ⟨w,g1,g2,g3⟩:=La (bf h h1) (iP h h2) (iP h h3) (iP h h5) hr;exact .val (.same h g3) g2 (by simp only [MK.ev,g1,Option.map_some])
   ·obtain ⟨p,h4,rfl⟩:=gB hL;obtain ⟨r,g1,g2,g3⟩:=LH h (bf h h1) (iP h h2) (iP h h3) (iP h h5) h4;exact .val g3 g2 (by simp only [MK.ev,g1,Option.map_some])
  ·cases hL
 |len s x=>
  simp only [ek] at hL;split at hL
  ·rename_i t h1;obtain ⟨p,h3,rfl⟩:=je hL;obtain ⟨w,g1,g2,g3⟩:=Lr h (bf h h1) h3;exact .val (.same h g3) trivial (by simp only [MK.ev,g1,if_true,g2,Option.map_some])
  ·cases hL
 |app k bytes x y=>
  simp only [ek] at hL;split at hL
  ·rename_i s t h1 h2;split at hL
   ·rename_i n hn;obtain ⟨p,h3,rfl⟩:=gB hL;obtain ⟨u,hu,hn2⟩:=gQ hn (bf h h2);obtain ⟨r,S',E',g1,g2,g3,g4,g5,g6,g7⟩:=Jw h (bf h h1) hn2 h3;exact ⟨p,by simp,E',r,S',by simp only [MK.ob,hu];exact g2,by simp only [MK.ev,hu];exact g1,g3,g4,g5,by omega,fun _ l _=>by simp only [St.get,g7]⟩
   ·obtain ⟨p,h3,rfl⟩:=gB hL;obtain ⟨r,S',E',g1,g2,g3,g4,g5,g6,g7⟩:=Mx h (bf h h1) (bf h h2) h3;exact ⟨p,by simp,E',r,S',g2,g1,g3,g4,g5,by omega,fun _ l _=>by simp only [St.get,g7]⟩
  ·cases hL
 |HL x=>
  simp only [ek] at hL;split at hL
  ·rename_i s h1;obtain ⟨p,h3,rfl⟩:=gB hL;obtain ⟨u,g1,g2⟩:=L7 h (bf h h1) h3;exact .val g2 trivial (by simp only [MK.ev,g1])
  ·cases hL
 |Fw x=>
  simp only [ek] at hL;split at hL
  ·rename_i s h1;obtain ⟨p,h3,rfl⟩:=je hL;obtain ⟨xs,t,u,g1,g2,g3⟩:=MJ h (bf h h1) h3;exact .val (.same h g3) trivial (by simp only [MK.ev,g1,if_true,g2,Option.map_some])
  ·cases hL
 |K5 x=>
  simp only [ek] at hL;split at hL
  ·rename_i s h1;split at hL
   ·rename_i hc;cases hL;obtain ⟨n,hn⟩:=Bn.1 hc;obtain ⟨u,g1,_⟩:=gQ hn (bf h h1);refine .val (.same h (bf h h1)) trivial (by simp only [MK.ev,g1])
   ·cases hL
  ·cases hL
 |ext x i=>
  simp only [ek] at hL;split at hL
  ·rename_i s h1;obtain ⟨p,h3,rfl⟩:=je hL;have g:=bf h h1;unfold MW at h3;split at h3
   ·simp only [SV.rel] at g;obtain ⟨vs,g1,g2⟩:=g;rw [cP] at h3;obtain ⟨v,g3,g4⟩:=vo g1 h3;exact .val (.same h g4) trivial (by simp only [MK.ev,g2,kh,g3,Option.map_some])
   ·cases h3
  ·cases hL
 |min x y=>
  simp only [ek] at hL;split at hL
  ·rename_i s t h1 h2;have g:=bf h h1;have g':=bf h h2;unfold wR at hL;split at hL
   ·rename_i k a k' b;split at hL
    ·rename_i hk;cases hL;have hk:k=k':=by simpa [kX] using hk
     subst hk;have g0:=g;have g0':=g';simp only [SV.rel] at g g';obtain ⟨n,g1,_,g2⟩:=g;obtain ⟨n',g3,_,g4⟩:=g';obtain ⟨B,g5,g6⟩:=mT h (pM ((g1.sub g3).aG (-1)));refine ⟨_,oJ g5,E,.int k (if n'<n then n' else n),S,trivial,by simp only [MK.ev,g2,g4,ly,Option.map_some],.refl E,g6,?_,Af _,fun _ _ _=>rfl⟩
     by_cases hlt:n'<n
     ·rw [decide_eq_true (by omega),if_pos rfl,if_pos hlt];rw [g4] at g0';exact g0'
     ·rw [decide_eq_false (by omega),if_neg (by simp),if_neg hlt];rw [g2] at g0;exact g0
    ·cases hL
   ·cases hL
  ·cases hL
 |max x y=>
  simp only [ek] at hL;split at hL
  ·rename_i s t h1 h2;have g:=bf h h1;have g':=bf h h2;unfold wR at hL;split at hL
   ·rename_i k a k' b;split at hL
    ·rename_i hk;cases hL;have hk:k=k':=by simpa [kX] using hk
     subst hk;have g0:=g;have g0':=g';simp only [SV.rel] at g g';obtain ⟨n,g1,_,g2⟩:=g;obtain ⟨n',g3,_,g4⟩:=g';obtain ⟨B,g5,g6⟩:=mT h (pM ((g3.sub g1).aG (-1)));refine ⟨_,oJ g5,E,.int k (if n'>n then n' else n),S,trivial,by simp only [MK.ev,g2,g4,Dg,Option.map_some],.refl E,g6,?_,Af _,fun _ _ _=>rfl⟩
     by_cases hlt:n'>n
     ·rw [decide_eq_true (by omega),if_pos rfl,if_pos hlt];rw [g4] at g0';exact g0'
     ·rw [decide_eq_false (by omega),if_neg (by simp),if_neg hlt];rw [g2] at g0;exact g0
    ·cases hL
   ·cases hL
  ·cases hL
 |cmp k neg x y=>
  simp only [ek] at hL;split at hL
  ·rename_i s t h1 h2;obtain ⟨p,h3,rfl⟩:=gB hL;have g:=bf h h1;have g':=bf h h2;unfold KX at h3;split at h3
   ·cases h3;simp only [SV.rel] at g g';obtain ⟨a,_,g1⟩:=g;obtain ⟨b,_,g2⟩:=g';exact .val (jS h (neg !=(a==b))) trivial (by simp only [MK.ev,g1,g2,qV,Option.map_some])
   ·cases h3;simp only [SV.rel] at g g';obtain ⟨l,_,g1⟩:=g;exact .val (v:= .bool (neg !=false)) (.same h (by simp only [SV.rel];exact ⟨_,rfl,rfl⟩)) trivial (by simp only [MK.ev,g1,g',qV,Option.map_some])
   ·cases h3;simp only [SV.rel] at g g';obtain ⟨xs,l,_,_,g1⟩:=g;exact .val (v:= .bool (neg !=false)) (.same h (by simp only [SV.rel];exact ⟨_,rfl,rfl⟩)) trivial (by simp only [MK.ev,g1,g',qV,Option.map_some])
   ·cases h3;simp only [SV.rel] at g g';exact .val (v:= .bool (neg !=true)) (.same h (by simp only [SV.rel];exact ⟨_,rfl,rfl⟩)) trivial (by simp only [MK.ev,g,g',qV,Option.map_some])
   ·cases h3
  ·cases hL
 |func f a c=>
  simp only [ek] at hL;split at hL
  ·rename_i s t h1 h2;cases hL;exact .val (v:= .fn f (a.map (aj.ev F)) (c.map (aj.ev F))) (.same h (by simp only [SV.rel];exact ⟨_,_,kV h h1,kV h h2,rfl⟩)) trivial rfl
  ·cases hL
 |_=>cases hL
end
end Go.Proofs.YtoopnalhhfmgaaaGreatDoor
namespace Go.Proofs.YtoopnalhhfmgaaaGreatDoor
open Go Go.V
structure Mt where
 A:AS
 σ:List aa
 τ:List Nat
 υ:List Nat
structure Cm where
 n:Nat
 m:Nat
 o:Nat
 t:Nat
def GA (n:Nat) (σ:List aa):Ts->aa
 |[]=> .aZ 0
 |(v,a)::ts=>if Nat.blt v n then (GA n σ ts).add ⟨0,[(v,a)]⟩ else match nth σ (v-n) with
  |some e=>(GA n σ ts).add (e.bG a)
  |none=>GA n σ ts
def sb (n:Nat) (σ:List aa) (e:aa):aa:=(GA n σ e.ts).aG e.c
structure Bd (c:Cm) (E0 E:En) (M:Mt) (Ep:En):Prop where
 le:E0.le E
 n:E0.ρ.length=c.n
 m:E0.χ.length=c.m
 o:E0.θ.length=c.o
 t:E0.κ.length=c.t
 ρ:∃ r,Ep.ρ=E0.ρ++r/\r.length=M.σ.length/\∀ (i:Nat) e,M.σ[i]? =some e->∃ x,r[i]? =some x/\e.is E.ρ x
 χ:∃ r,Ep.χ=E0.χ++r/\r.length=M.τ.length/\∀ (i:Nat) Y,M.τ[i]? =some Y->∃ xs,r[i]? =some xs/\E.χ[Y]? =some xs
 θ:Ep.θ=E0.θ
 κ:∃ r,Ep.κ=E0.κ++r/\r.length=M.υ.length/\∀ (i:Nat) u,M.υ[i]? =some u->∃ tk,r[i]? =some tk/\rT E u tk/\nj M.A u=true
section
variable {gl:List (Nat×List AV)} {c:Cm} {E0 E E' Ep:En} {M:Mt} {F:Fr} {S:St}
def M6 (hb:Bd c E0 E M Ep):∀ {ts:Ts},da Ep.ρ.length ts=true->(GA c.n M.σ ts).is E.ρ (b9 Ep.ρ ts)
 |[],_=>aa.bX _ 0
 |(v,a)::ts,h=>by
  simp only [da,Aa] at h;have ih:=M6 hb h.2;obtain ⟨r,h1,h2,h3⟩:=hb.ρ;obtain ⟨q,hq⟩:=hb.le.ρ;unfold GA;split
  ·rename_i hv;have hv:v<E0.ρ.length:=by rw [hb.n];exact dx.1 hv
   have e1:vr Ep.ρ v=vr E0.ρ v:=by rw [h1];exact DU hv
   have e2:vr E.ρ v=vr E0.ρ v:=by rw [hq];exact DU hv
   have:(⟨0,[(v,a)]⟩:aa).is E.ρ (a*vr Ep.ρ v):=by
    refine ⟨?_,?_⟩
    ·simp only [da,BS];refine dx.2 ?_;rw [hq,Ak];omega
    ·simp only [aa.val,b9];rw [e1,e2];omega
   have:=ih.add this;simp only [b9];rw [BT];exact this
  ·rename_i hv
   have hv:c.n<=v:=by
    rcases Al v c.n with h4|h4
    ·exact absurd (dx.2 h4) hv
    ·exact h4
   have hlt:=dx.1 h.1;rw [h1,Ak,hb.n] at hlt;obtain ⟨e,he⟩:=aK (show v-c.n<M.σ.length by omega);rw [cP,he];obtain ⟨x,k1,k2⟩:=h3 _ _ he
   have e1:vr Ep.ρ v=x:=by
    unfold vr;rw [h1,AG (by rw [hb.n];exact hv),hb.n,k1];rfl
   have:=ih.add (k2.bG a);simp only [b9];rw [e1,BT];exact this
def eQ (hb:Bd c E0 E M Ep) {e:aa} {x:Int} (h:e.is Ep.ρ x):(sb c.n M.σ e).is E.ρ x:=by
 have:=(M6 hb h.1).aG e.c;rw [<-h.2];unfold aa.val;rw [BT];exact this
def Bd.mono (hE:E.le E') (hb:Bd c E0 E M Ep) {A':AS} (ha:∀ u,nj M.A u=true->nj A' u=true):Bd c E0 E' {M with A:=A'} Ep:=by
 refine ⟨hb.le.trans hE,hb.n,hb.m,hb.o,hb.t,?_,?_,hb.θ,?_⟩
 ·obtain ⟨r,h1,h2,h3⟩:=hb.ρ;exact ⟨r,h1,h2,fun i e he=>by obtain ⟨x,a,b⟩:=h3 i e he;exact ⟨x,a,b.le hE⟩⟩
 ·obtain ⟨r,h1,h2,h3⟩:=hb.χ;exact ⟨r,h1,h2,fun i e he=>by obtain ⟨x,a,b⟩:=h3 i e he;exact ⟨x,a,hE.χg b⟩⟩
 ·obtain ⟨r,h1,h2,h3⟩:=hb.κ;exact ⟨r,h1,h2,fun i e he=>by obtain ⟨x,a,b,d⟩:=h3 i e he;exact ⟨x,a,b.le hE,ha _ d⟩⟩
def K7 (c:Cm) (M:Mt) (e x:aa):Option Mt:=
 if e.beq (.var (c.n+M.σ.length)) then some {M with σ:=M.σ++[x]} else
  if da (c.n+M.σ.length) e.ts then
   let f:=sb c.n M.σ e
   if f.beq x||(uN M.A.fs f x && uN M.A.fs x f) then some M else none
  else none
def Bd.len (hb:Bd c E0 E M Ep):Ep.ρ.length=c.n+M.σ.length:=by
 obtain ⟨r,h1,h2,_⟩:=hb.ρ;rw [h1,Ak,hb.n,h2]
def Bd.Jb (hb:Bd c E0 E M Ep):Ep.χ.length=c.m+M.τ.length:=by
 obtain ⟨r,h1,h2,_⟩:=hb.χ;rw [h1,Ak,hb.m,h2]
def Bd.I2 (hb:Bd c E0 E M Ep):Ep.κ.length=c.t+M.υ.length:=by
 obtain ⟨r,h1,h2,_⟩:=hb.κ;rw [h1,Ak,hb.t,h2]
def Bd.num (hb:Bd c E0 E M Ep) {x:aa} {n:Int} (hx:x.is E.ρ n):Bd c E0 E {M with σ:=M.σ++[x]} (Ep.num n)/\(aa.var (c.n+M.σ.length)).is (Ep.num n).ρ n:=by
 obtain ⟨r,h1,h2,h3⟩:=hb.ρ;refine ⟨⟨hb.le,hb.n,hb.m,hb.o,hb.t,⟨r++[n],by simp [En.num,h1],by simp [h2],fun i e he=>?_⟩,hb.χ,hb.θ,hb.κ⟩,?_⟩
 ·rcases iR he with he|⟨e1,e2⟩
  ·obtain ⟨y,a,b⟩:=h3 i e he;exact ⟨y,gb a,b⟩
  ·subst e1 e2;exact ⟨n,by rw [<-h2];exact cW,hx⟩
 ·refine aa.iI ?_;have:(Ep.num n).ρ=Ep.ρ++[n]:=rfl;rw [this];have e1:c.n+M.σ.length=Ep.ρ.length:=by rw [h1,Ak,hb.n,h2]
  rw [e1];exact cW
def Dv (h:Gm gl E M.A F S) (hb:Bd c E0 E M Ep) {e x:aa} {n:Int} (hx:x.is E.ρ n) {M':Mt} (hm:K7 c M e x=some M'):(M'.A=M.A/\M'.τ=M.τ/\M'.υ=M.υ)/\∃ Ep',Ep.le Ep'/\Bd c E0 E M' Ep'/\e.is Ep'.ρ n:=by
 unfold K7 at hm;split at hm
 ·rename_i he;cases hm;have he:=aa.dD he;obtain ⟨g1,g2⟩:=hb.num hx;rw [he];exact ⟨⟨rfl,rfl,rfl⟩,_,Ep.cb n,g1,g2⟩
 ·split at hm
  ·rename_i hs;simp only at hm;split at hm
   ·rename_i hc;cases hm;rw [<-hb.len] at hs;have g:=eQ hb (e:=e) (x:=e.val Ep.ρ) ⟨hs,rfl⟩;refine ⟨⟨rfl,rfl,rfl⟩,Ep,.refl Ep,hb,hs,?_⟩;simp only [AI,Aa] at hc;rcases hc with hc|⟨hc1,hc2⟩
    ·rw [aa.dD hc] at g;exact g.uniq hx
    ·have a1:=lK h.fs g hx hc1;have a2:=lK h.fs hx g hc2;omega
   ·cases hm
  ·cases hm
def bdZ (c:Cm) (M:Mt) (e x:aa):Option Mt:=
 if e.beq (.var (c.n+M.σ.length)) then some {M with σ:=M.σ++[x]} else
  if da (c.n+M.σ.length) e.ts && uN M.A.fs x (sb c.n M.σ e) then some M else none
def Yv (h:Gm gl E M.A F S) (hb:Bd c E0 E M Ep) {e x:aa} {n:Int} (hx:x.is E.ρ n) {M':Mt} (hm:bdZ c M e x=some M'):(M'.A=M.A/\M'.τ=M.τ/\M'.υ=M.υ)/\∃ Ep',Ep.le Ep'/\Bd c E0 E M' Ep'/\∃ z,e.is Ep'.ρ z/\n<=z:=by
 unfold bdZ at hm;split at hm
 ·rename_i he;cases hm;have he:=aa.dD he;obtain ⟨g1,g2⟩:=hb.num hx;rw [he];exact ⟨⟨rfl,rfl,rfl⟩,_,Ep.cb n,g1,n,g2,Ay _⟩
 ·split at hm
  ·rename_i hc;cases hm;simp only [Aa] at hc;have hs:=hc.1;rw [<-hb.len] at hs;have g:=eQ hb (e:=e) (x:=e.val Ep.ρ) ⟨hs,rfl⟩;exact ⟨⟨rfl,rfl,rfl⟩,Ep,.refl Ep,hb,_,⟨hs,rfl⟩,lK h.fs hx g hc.2⟩
  ·cases hm
def Bl (pl:List LI) (c:Cm) (M:Mt) (Ep:En):Prop:=∀ (i:Nat) li,i<M.τ.length->pl[i]? =some li->∃ xs,Ep.χ[c.m+i]? =some xs/\gv Ep li xs
def Bl.le {pl:List LI} {Ep':En} (hE:Ep.le Ep') {M':Mt} (ht:M'.τ=M.τ) (h:Bl pl c M Ep):Bl pl c M' Ep':=fun i li hi hl=>by
 rw [ht] at hi;obtain ⟨xs,h1,h2⟩:=h i li hi hl;exact ⟨xs,hE.χg h1,h2.le hE⟩
structure MR (gl:List (Nat×List AV)) (c:Cm) (pl:List LI) (E0 E:En) (M':Mt) (Ep:En) (F:Fr) (S:St) (R:En->Prop):Prop where
 h:∃ E' Ep',E.le E'/\Ep.le Ep'/\Gm gl E' M'.A F S/\Bd c E0 E' M' Ep'/\Bl pl c M' Ep'/\R Ep'
def bdB (M:Mt):BE->Mt
 | .k t=>{M with σ:=M.σ++[.aZ (if t then 1 else 0)]}
 |_=>{M with A:=M.A.upto 1,σ:=M.σ++[.var M.A.nv]}
def ZK {pl:List LI} (h:Gm gl E M.A F S) (hb:Bd c E0 E M Ep) (hl:Bl pl c M Ep) {x:BE} {t:Bool} (hx:x.is E.ρ t):MR gl c pl E0 E (bdB M x) Ep F S fun Ep'=>(BE.eq ((aa.var (c.n+M.σ.length)).aG (-1))).is Ep'.ρ t:=by
 have key:∀ u:Bool,∃ y:Int,y=(if u then 1 else 0)/\0<=y/\y<=1/\u=decide (y+ -1=0):=fun u=>⟨_,rfl,by cases u<;>decide,by cases u<;>decide,by cases u<;>rfl⟩
 have gen:MR gl c pl E0 E {M with A:=M.A.upto 1,σ:=M.σ++[.var M.A.nv]} Ep F S fun Ep'=>(BE.eq ((aa.var (c.n+M.σ.length)).aG (-1))).is Ep'.ρ t:=by
  obtain ⟨y,_,y1,y2,y3⟩:=key t;have g:=h.upto y1 y2
  have hb':=hb.mono (E.cb y) (A':=M.A.upto 1) (fun u hu=>by cases u with
   |zero=>exact hu
   |succ u=>cases u<;>exact hu)
  obtain ⟨g1,g2⟩:=hb'.num (h.new y);exact ⟨_,_,E.cb y,Ep.cb y,g,g1,hl.le (Ep.cb y) rfl,_,g2.aG (-1),y3⟩
 cases x with
 |k u=>
  have hx:t=u:=hx;subst hx;obtain ⟨y,y0,y1,y2,y3⟩:=key t;obtain ⟨g1,g2⟩:=hb.num (aa.bX E.ρ (if t then 1 else 0));refine ⟨E,_,.refl E,Ep.cb _,h,g1,hl.le (Ep.cb _) rfl,_,g2.aG (-1),?_⟩;rw [<-y0];exact y3
 |ge e=>exact gen
 |eq e=>exact gen
 |ne e=>exact gen
def MS (c:Cm) (M:Mt) (t t':Nat):Option Mt:=
 match t with
 |0=>some M
 |1=>if Nat.beq t' 1 then some M else none
 |j+2=>if Nat.beq j (c.t+M.υ.length) && (nj M.A t' && (Nat.beq t' 1|| !(gx t' M.υ))) then some {M with υ:=M.υ++[t']} else none
def EY {pl:List LI} (h:Gm gl E M.A F S) (hb:Bd c E0 E M Ep) (hl:Bl pl c M Ep) {t t':Nat} {tk:bD} (ht:rT E t' tk) {M':Mt} (hm:MS c M t t'=some M'):MR gl c pl E0 E M' Ep F S fun Ep'=>rT Ep' t tk:=by
 unfold MS at hm;split at hm
 ·cases hm;exact ⟨E,Ep,.refl E,.refl Ep,h,hb,hl,trivial⟩
 ·split at hm
  ·rename_i hc;cases hm;obtain rfl:=aq.1 hc;exact ⟨E,Ep,.refl E,.refl Ep,h,hb,hl,ht⟩
  ·cases hm
 ·rename_i j;split at hm
  ·rename_i hc;cases hm;simp only [Aa] at hc;obtain ⟨c1,c2,_⟩:=hc;have hlen:=hb.I2;obtain ⟨r,h1,h2,h3⟩:=hb.κ;refine ⟨E,Ep.tok tk,.refl E,Ep.p7 tk,h,⟨hb.le,hb.n,hb.m,hb.o,hb.t,hb.ρ,hb.χ,hb.θ,⟨r++[tk],by simp [En.tok,h1],by simp [h2],fun i u hu=>?_⟩⟩,hl.le (Ep.p7 tk) rfl,?_⟩
   ·rcases iR hu with hu|⟨e1,e2⟩
    ·obtain ⟨y,a,b,d⟩:=h3 i u hu;exact ⟨y,gb a,b,d⟩
    ·subst e1 e2;exact ⟨tk,by rw [<-h2];exact cW,ht,c2⟩
   ·show (Ep.κ++[tk])[j]? =some tk;rw [aq.1 c1,<-hlen];exact cW
  ·cases hm
def isX (c:Cm) (M:Mt) (X Y:Nat):Bool:=
 if Nat.blt X c.m then Nat.beq X Y else (match nth M.τ (X-c.m) with
  |some Z=>Nat.beq Z Y
  |none=>false)
def VO (c:Cm) (pl:List LI) (M:Mt) (k X t:Nat) (y:SV):Option Mt:=
 if Nat.beq X (c.m+M.τ.length) then (match nth pl M.τ.length with
  |some li=>if Nat.beq li.k k then (match GL M.A k li.e y with
   |some (Y,t',B)=>(match nth B.ls Y with
    |some lj=>(match K7 c {M with A:=B,τ:=M.τ++[Y]} li.n lj.n with
     |some M2=>(match bdZ c M2 li.z lj.z with
      |some M3=>MS c M3 t t'
      |none=>none)
     |none=>none)
    |none=>none)
   |none=>none) else none
  |none=>none)
 else (match y with
  | .l k' Y t'=>if Nat.beq k' k && isX c M X Y then MS c M t t' else none
  |_=>none)
def VS {pl:List LI} (h:Gm gl E M.A F S) (hb:Bd c E0 E M Ep) (hl:Bl pl c M Ep) {k X t:Nat} {y:SV} {v:AV} (hy:y.rel E v) {M':Mt} (hm:VO c pl M k X t y=some M'):MR gl c pl E0 E M' Ep F S fun Ep'=>(SV.l k X t).rel Ep' v:=by
 unfold VO at hm;split at hm
 ·rename_i hX;obtain rfl:=aq.1 hX;rw [cP] at hm;split at hm
  ·rename_i li hli;split at hm
   ·rename_i hk;split at hm
    ·rename_i Y t' B hB;obtain ⟨E1,xs,tk,lj,g1,g2,rfl,g3,g4,g5,g6,g7,g8,g9,g10,g11⟩:=xf h hy hB;have hlj:nth B.ls Y=some lj:=by rw [cP];exact g5
     simp only [hlj] at hm
     have hb1:=hb.mono g1 (A':=B) (fun u hu=>by
      match u,hu with
      |0,hu=>exact hu
      |1,hu=>exact hu
      |u+2,hu=>simp only [nj,g9] at hu ⊢;exact hu)
     have hb2:Bd c E0 E1 {M with A:=B,τ:=M.τ++[Y]} (Ep.ec xs):=by
      obtain ⟨r,q1,q2,q3⟩:=hb1.χ;refine ⟨hb1.le,hb1.n,hb1.m,hb1.o,hb1.t,hb1.ρ,⟨r++[xs],by simp [En.ec,q1],by simp [q2],fun i u hu=>?_⟩,hb1.θ,hb1.κ⟩;rcases iR hu with hu|⟨e1,e2⟩
      ·obtain ⟨y,a,b⟩:=q3 i u hu;exact ⟨y,gb a,b⟩
      ·subst e1 e2;exact ⟨xs,by rw [<-q2];exact cW,g3⟩
     split at hm
     ·rename_i M2 hM2;obtain ⟨⟨a1,a2,a3⟩,Ep2,a4,a5,a6⟩:=Dv (M:={M with A:=B,τ:=M.τ++[Y]}) g2 hb2 g6.n hM2;split at hm
      ·rename_i M3 hM3;obtain ⟨z,hz1,hz2⟩:=g6.z;obtain ⟨⟨b1,b2,b3⟩,Ep3,b4,b5,zz,b6,b7⟩:=Yv (by rw [a1];exact g2) a5 hz1 hM3;have hEp:Ep.le Ep3:=((Ep.im xs).trans a4).trans b4
       have hxs:Ep3.χ[c.m+M.τ.length]? =some xs:=by
        rw [<-hb.Jb];exact (a4.trans b4).χg cW
       have hl3:Bl pl c M3 Ep3:=by
        intro i lk hi hlk;rw [b2,a2] at hi;simp only [Ak,List.length_cons,List.length_nil] at hi;rcases Al i M.τ.length with hi'|hi'
        ·obtain ⟨ys,q1,q2⟩:=hl i lk hi' hlk;exact ⟨ys,hEp.χg q1,q2.le hEp⟩
        ·have:i=M.τ.length:=by omega
         subst this;rw [hli] at hlk;cases hlk;refine ⟨xs,hxs,⟨?_,a6.le b4,zz,b6,by omega⟩⟩;have:=g6.el;rw [g7,g8] at this;rw [aq.1 hk];exact this
       obtain ⟨E4,Ep4,c1,c2,c3,c4,c5,c6⟩:=(EY (by rw [b1,a1];exact g2) b5 hl3 g4 hm).h;refine ⟨E4,Ep4,g1.trans c1,hEp.trans c2,c3,c4,c5,?_⟩;simp only [SV.rel];exact ⟨xs,tk,c2.χg hxs,c6,rfl⟩
      ·cases hm
     ·cases hm
    ·cases hm
   ·cases hm
  ·cases hm
 ·split at hm
  ·rename_i k' Y t';split at hm
   ·rename_i hc;simp only [Aa] at hc;obtain rfl:=aq.1 hc.1;simp only [SV.rel] at hy;obtain ⟨xs,tk,q1,q2,rfl⟩:=hy
    have hX:Ep.χ[X]? =some xs:=by
     have hc2:=hc.2;unfold isX at hc2;obtain ⟨r,h1,h2,h3⟩:=hb.χ;split at hc2
     ·rename_i hlt;obtain rfl:=aq.1 hc2;have hlt:=dx.1 hlt;obtain ⟨q,hq⟩:=hb.le.χ;rw [h1,AF (by rw [hb.m];exact hlt)];rw [hq,AF (by rw [hb.m];exact hlt)] at q1;exact q1
     ·rename_i hlt;rw [cP] at hc2;split at hc2
      ·rename_i Z hZ;obtain rfl:=aq.1 hc2;obtain ⟨ys,a,b⟩:=h3 _ _ hZ;rw [q1] at b;cases b
       have hge:c.m<=X:=by
        rcases Al X c.m with h4|h4
        ·exact absurd (dx.2 h4) hlt
        ·exact h4
       rw [h1,AG (by rw [hb.m];exact hge),hb.m];exact a
      ·cases hc2
    obtain ⟨E4,Ep4,c1,c2,c3,c4,c5,c6⟩:=(EY h hb hl q2 hm).h;refine ⟨E4,Ep4,c1,c2,c3,c4,c5,?_⟩;simp only [SV.rel];exact ⟨xs,tk,c2.χg hX,c6,rfl⟩
   ·cases hm
  ·cases hm
def Kk (c:Cm) (M:Mt):BE->BE->Bool
 | .k a,.k b=>a==b
 | .ge e,.ge x=>da (c.n+M.σ.length) e.ts && (sb c.n M.σ e).beq x
 | .eq e,.eq x=>da (c.n+M.σ.length) e.ts && (sb c.n M.σ e).beq x
 | .ne e,.ne x=>da (c.n+M.σ.length) e.ts && (sb c.n M.σ e).beq x
 |_,_=>false
def Zk (hb:Bd c E0 E M Ep) {p x:BE} {t:Bool} (hx:x.is E.ρ t) (h:Kk c M p x=true):p.is Ep.ρ t:=by
 have key:∀ {e y:aa} {n:Int},(da (c.n+M.σ.length) e.ts && (sb c.n M.σ e).beq y)=true->y.is E.ρ n->e.is Ep.ρ n:=by
  intro e y n hc hy;simp only [Aa] at hc;have hs:=hc.1;rw [<-hb.len] at hs;have g:=eQ hb (e:=e) (x:=e.val Ep.ρ) ⟨hs,rfl⟩;rw [aa.dD hc.2] at g;exact ⟨hs,g.uniq hy⟩
 cases p<;>cases x<;>simp only [Kk,Ah] at h
 ·rw [show t=_ from hx];rw [beq_iff_eq] at h;exact h.symm
 ·obtain ⟨n,h1,h2⟩:=hx;exact ⟨n,key h h1,h2⟩
 ·obtain ⟨n,h1,h2⟩:=hx;exact ⟨n,key h h1,h2⟩
 ·obtain ⟨n,h1,h2⟩:=hx;exact ⟨n,key h h1,h2⟩
def Px:Fn->Fn->Bool
 | .func f,.func g=>Nat.beq f g
 |_,_=>false
mutual
def mt (c:Cm) (pl:List LI) (M:Mt):SV->SV->Option Mt
 | .i k e,.i k' x=>if kX k k' then K7 c M e x else none
 | .b p,.b x=>(match p with
  | .eq e=>if e.beq ((aa.var (c.n+M.σ.length)).aG (-1)) then some (bdB M x) else if Kk c M p x then some M else none
  |p=>if Kk c M p x then some M else none)
 | .s e,y=>(match kr y with
  |some x=>K7 c M e x
  |none=>none)
 | .c v,.c w=>if v.gr w then some M else none
 | .l k X t,y=>VO c pl M k X t y
 | .lit k xs t,.lit k' ys t'=>if Nat.beq k' k then (match tg c pl M xs ys with
  |some M2=>MS c M2 t t'
  |none=>none) else none
 | .p j o,.p j' o'=>if Nat.beq j j' && (Nat.beq o o' && Nat.blt j c.o) then some M else none
 | .a xs,.a ys=>tg c pl M xs ys
 | .aF xs,.aF ys=>tg c pl M xs ys
 | .fn f a b,.fn g a' b'=>if Px f g then (match tg c pl M a a' with
  |some M2=>tg c pl M2 b b'
  |none=>none) else none
 |_,_=>none
def tg (c:Cm) (pl:List LI) (M:Mt):List SV->List SV->Option Mt
 |[],[]=>some M
 |x::xs,y::ys=>(match mt c pl M x y with
  |some M2=>tg c pl M2 xs ys
  |none=>none)
 |_,_=>none
end
def K2 {f g:Fn} (h:Px f g=true):f=g:=by
 cases f<;>cases g<;>simp only [Px,Ah] at h
 rw [aq.1 h]
mutual
def IQ {pl:List LI}:∀ (p:SV) {E Ep:En} {M M':Mt} {y:SV} {v:AV},Gm gl E M.A F S->Bd c E0 E M Ep->Bl pl c M Ep->y.rel E v->mt c pl M p y=some M'->MR gl c pl E0 E M' Ep F S fun Ep'=>p.rel Ep' v
 | .i k e,E,Ep,M,M',y,v,h,hb,hl,hy,hm=>by
  cases y<;>simp only [mt,reduceCtorEq] at hm
  split at hm
  ·rename_i hk;have hk:=hk;simp only [kX,decide_eq_true_eq] at hk;subst hk;simp only [SV.rel] at hy;obtain ⟨n,h1,h2,rfl⟩:=hy;obtain ⟨⟨a1,a2,a3⟩,Ep2,a4,a5,a6⟩:=Dv h hb h1 hm;exact ⟨E,Ep2,.refl E,a4,by rw [a1];exact h,a5,hl.le a4 a2,by simp only [SV.rel];exact ⟨n,a6,h2,rfl⟩⟩
  ·cases hm
 | .b p,E,Ep,M,M',y,v,h,hb,hl,hy,hm=>by
  cases y<;>simp only [mt,reduceCtorEq] at hm
  simp only [SV.rel] at hy;obtain ⟨t,h1,rfl⟩:=hy;have key:∀ {x:BE},x.is E.ρ t->Kk c M p x=true->MR gl c pl E0 E M Ep F S fun Ep'=>(SV.b p).rel Ep' (.bool t):=fun hx hc=>⟨E,Ep,.refl E,.refl Ep,h,hb,hl,by simp only [SV.rel];exact ⟨t,Zk hb hx hc,rfl⟩⟩;split at hm
  ·split at hm
   ·rename_i hc;cases hm;obtain ⟨E1,Ep1,g1,g2,g3,g4,g5,g6⟩:=(ZK h hb hl h1).h;exact ⟨E1,Ep1,g1,g2,g3,g4,g5,by simp only [SV.rel];rw [aa.dD hc];exact ⟨t,g6,rfl⟩⟩
   ·split at hm
    ·rename_i hc;cases hm;exact key h1 hc
    ·cases hm
  ·split at hm
   ·rename_i hc;cases hm;exact key h1 hc
   ·cases hm
 | .s e,E,Ep,M,M',y,v,h,hb,hl,hy,hm=>by
  simp only [mt] at hm;split at hm
  ·rename_i x hx;obtain ⟨s,rfl,h1⟩:=gQ hx hy;obtain ⟨⟨a1,a2,a3⟩,Ep2,a4,a5,a6⟩:=Dv h hb h1 hm;exact ⟨E,Ep2,.refl E,a4,by rw [a1];exact h,a5,hl.le a4 a2,by simp only [SV.rel];exact ⟨s,a6,rfl⟩⟩
  ·cases hm
 | .c w,E,Ep,M,M',y,v,h,hb,hl,hy,hm=>by
  cases y<;>simp only [mt,reduceCtorEq] at hm
  split at hm
  ·rename_i hc;cases hm;simp only [SV.rel] at hy;subst hy;have:=AV.ng hc;subst this;exact ⟨E,Ep,.refl E,.refl Ep,h,hb,hl,by simp only [SV.rel]⟩
  ·cases hm
 | .l k X t,E,Ep,M,M',y,v,h,hb,hl,hy,hm=>by
  simp only [mt] at hm;exact VS h hb hl hy hm
 | .lit k xs t,E,Ep,M,M',y,v,h,hb,hl,hy,hm=>by
  cases y<;>simp only [mt,reduceCtorEq] at hm
  split at hm
  ·rename_i hk;obtain rfl:=aq.1 hk;split at hm
   ·rename_i M2 h2;simp only [SV.rel] at hy;obtain ⟨vs,tk,q1,q2,rfl⟩:=hy;obtain ⟨E1,Ep1,g1,g2,g3,g4,g5,g6⟩:=(lT xs h hb hl q1 h2).h;obtain ⟨E2,Ep2,f1,f2,f3,f4,f5,f6⟩:=(EY g3 g4 g5 (q2.le g1) hm).h;exact ⟨E2,Ep2,g1.trans f1,g2.trans f2,f3,f4,f5,by simp only [SV.rel];exact ⟨vs,tk,ba.le f2 _ g6,f6,rfl⟩⟩
   ·cases hm
  ·cases hm
 | .p j o,E,Ep,M,M',y,v,h,hb,hl,hy,hm=>by
  cases y<;>simp only [mt,reduceCtorEq] at hm
  split at hm
  ·rename_i hc;cases hm;simp only [Aa] at hc;obtain ⟨c1,c2,c3⟩:=hc;obtain rfl:=aq.1 c1;obtain rfl:=aq.1 c2;simp only [SV.rel] at hy;obtain ⟨l,q1,rfl⟩:=hy;refine ⟨E,Ep,.refl E,.refl Ep,h,hb,hl,?_⟩;simp only [SV.rel];refine ⟨l,?_,rfl⟩;obtain ⟨q,hq⟩:=hb.le.θ;rw [hb.θ];rw [hq,AF (by rw [hb.o];exact dx.1 c3)] at q1;exact q1
  ·cases hm
 | .e k X i o,E,Ep,M,M',y,v,h,hb,hl,hy,hm=>by cases y<;>simp [mt] at hm
 | .a xs,E,Ep,M,M',y,v,h,hb,hl,hy,hm=>by
  cases y<;>simp only [mt,reduceCtorEq] at hm
  simp only [SV.rel] at hy;obtain ⟨vs,q1,rfl⟩:=hy;obtain ⟨E1,Ep1,g1,g2,g3,g4,g5,g6⟩:=(lT xs h hb hl q1 hm).h;exact ⟨E1,Ep1,g1,g2,g3,g4,g5,by simp only [SV.rel];exact ⟨vs,g6,rfl⟩⟩
 | .aF xs,E,Ep,M,M',y,v,h,hb,hl,hy,hm=>by
  cases y<;>simp only [mt,reduceCtorEq] at hm
  simp only [SV.rel] at hy;obtain ⟨vs,q1,rfl⟩:=hy;obtain ⟨E1,Ep1,g1,g2,g3,g4,g5,g6⟩:=(lT xs h hb hl q1 hm).h;exact ⟨E1,Ep1,g1,g2,g3,g4,g5,by simp only [SV.rel];exact ⟨vs,g6,rfl⟩⟩
 | .fn f a b,E,Ep,M,M',y,v,h,hb,hl,hy,hm=>by
  cases y<;>simp only [mt,reduceCtorEq] at hm
  split at hm
  ·rename_i hf;have:=K2 hf;subst this;split at hm
   ·rename_i M2 h2;simp only [SV.rel] at hy;obtain ⟨vs,ws,q1,q2,rfl⟩:=hy;obtain ⟨E1,Ep1,g1,g2,g3,g4,g5,g6⟩:=(lT a h hb hl q1 h2).h;obtain ⟨E2,Ep2,f1,f2,f3,f4,f5,f6⟩:=(lT b g3 g4 g5 (ba.le g1 _ q2) hm).h;exact ⟨E2,Ep2,g1.trans f1,g2.trans f2,f3,f4,f5,by simp only [SV.rel];exact ⟨vs,ws,ba.le f2 _ g6,f6,rfl⟩⟩
   ·cases hm
  ·cases hm
def lT {pl:List LI}:∀ (ps:List SV) {E Ep:En} {M M':Mt} {ys:List SV} {vs:List AV},Gm gl E M.A F S->Bd c E0 E M Ep->Bl pl c M Ep->ba E ys vs->tg c pl M ps ys=some M'->MR gl c pl E0 E M' Ep F S fun Ep'=>ba Ep' ps vs
 |[],E,Ep,M,M',ys,vs,h,hb,hl,hy,hm=>by
  cases ys<;>simp only [tg,reduceCtorEq,Ae] at hm
  subst hm;rw [aV.1 hy];exact ⟨E,Ep,.refl E,.refl Ep,h,hb,hl,aV.2 rfl⟩
 |p::ps,E,Ep,M,M',ys,vs,h,hb,hl,hy,hm=>by
  cases ys<;>simp only [tg,reduceCtorEq] at hm
  obtain ⟨w,ws,q1,q2,rfl⟩:=aO.1 hy;split at hm
  ·rename_i M2 h2;obtain ⟨E1,Ep1,g1,g2,g3,g4,g5,g6⟩:=(IQ p h hb hl q1 h2).h;obtain ⟨E2,Ep2,f1,f2,f3,f4,f5,f6⟩:=(lT ps g3 g4 g5 (ba.le g1 _ q2) hm).h;exact ⟨E2,Ep2,g1.trans f1,g2.trans f2,f3,f4,f5,aO.2 ⟨w,ws,g6.le f2,f6,rfl⟩⟩
  ·cases hm
end
end
end Go.Proofs.YtoopnalhhfmgaaaGreatDoor
namespace Go.Proofs.YtoopnalhhfmgaaaGreatDoor
open Go Go.V
def bq:BE->BE->Bool
 | .k a,.k b=>a==b
 | .ge e,.ge f=>e.beq f
 | .eq e,.eq f=>e.beq f
 | .ne e,.ne f=>e.beq f
 |_,_=>false
def aee:∀ {x y:BE},bq x y=true->x=y
 | .k a,y,h=>by cases y<;>simp_all [bq]
 | .ge e,y,h=>by cases y<;>simp only [bq,Ah] at h;rw [aa.dD h]
 | .eq e,y,h=>by cases y<;>simp only [bq,Ah] at h;rw [aa.dD h]
 | .ne e,y,h=>by cases y<;>simp only [bq,Ah] at h;rw [aa.dD h]
mutual
def sq:SV->SV->Bool
 | .c v,.c w=>v.gr w
 | .i k m,.i k' n=>kX k k' && m.beq n
 | .b x,.b y=>bq x y
 | .s m,.s n=>m.beq n
 | .l k X t,.l k' X' t'=>Nat.beq k k' && (Nat.beq X X' && Nat.beq t t')
 | .lit k xs t,.lit k' ys t'=>Nat.beq k k' && (Nat.beq t t' && sf xs ys)
 | .p j o,.p j' o'=>Nat.beq j j' && Nat.beq o o'
 | .e k X i o,.e k' X' i' o'=>Nat.beq k k' && (Nat.beq X X' && (Nat.beq o o' && i.beq i'))
 | .a xs,.a ys=>sf xs ys
 | .aF xs,.aF ys=>sf xs ys
 | .fn f a c,.fn g a' c'=>Px f g && (sf a a' && sf c c')
 |_,_=>false
def sf:List SV->List SV->Bool
 |[],[]=>true
 |x::xs,y::ys=>(match sq x y with
  |true=>sf xs ys
  |false=>false)
 |_,_=>false
end
mutual
def Da:∀ {x y:SV},sq x y=true->x=y
 | .c v,y,h=>by cases y<;>simp only [sq,Ah] at h;rw [AV.ng h]
 | .i k m,y,h=>by
  cases y<;>simp only [sq,Ah,Aa] at h
  rw [aa.dD h.2,show k=_ from of_decide_eq_true h.1]
 | .b x,y,h=>by cases y<;>simp only [sq,Ah] at h;rw [aee h]
 | .s m,y,h=>by cases y<;>simp only [sq,Ah] at h;rw [aa.dD h]
 | .l k X t,y,h=>by
  cases y<;>simp only [sq,Ah,Aa] at h
  rw [aq.1 h.1,aq.1 h.2.1,aq.1 h.2.2]
 | .lit k xs t,y,h=>by
  cases y<;>simp only [sq,Ah,Aa] at h
  rw [aq.1 h.1,aq.1 h.2.1,nL h.2.2]
 | .p j o,y,h=>by
  cases y<;>simp only [sq,Ah,Aa] at h
  rw [aq.1 h.1,aq.1 h.2]
 | .e k X i o,y,h=>by
  cases y<;>simp only [sq,Ah,Aa] at h
  rw [aq.1 h.1,aq.1 h.2.1,aq.1 h.2.2.1,aa.dD h.2.2.2]
 | .a xs,y,h=>by cases y<;>simp only [sq,Ah] at h;rw [nL h]
 | .aF xs,y,h=>by cases y<;>simp only [sq,Ah] at h;rw [nL h]
 | .fn f a c,y,h=>by
  cases y<;>simp only [sq,Ah,Aa] at h
  rw [K2 h.1,nL h.2.1,nL h.2.2]
def nL:∀ {xs ys:List SV},sf xs ys=true->xs=ys
 |[],[],_=>rfl
 |[],_::_,h=>by simp [sf] at h
 |_::_,[],h=>by simp [sf] at h
 |x::xs,y::ys,h=>by
  unfold sf at h;split at h
  ·rename_i h1;rw [Da h1,nL h]
  ·cases h
end
structure Alt where
 nv:Nat
 ls:List LI
 r:SV
 fs:List aa
 up:List (Nat×Nat):=[]
 ex:List (Nat×aa×Nat):=[]
structure az where
 pv:Nat
 pl:List LI
 ps:List SV
 pf:List aa
 me:aa
 alts:List Alt
 pc:List (List aa):=[]
structure NM (sg:az) (Es:En) (as:List AV):Prop where
 nv:Es.ρ.length=sg.pv
 nl:Es.χ.length=sg.pl.length
 θ:Es.θ=[]
 κ:Es.κ=[]
 ls:∀ (X:Nat) li,sg.pl[X]? =some li->∃ xs,Es.χ[X]? =some xs/\gv Es li xs
 as:ba Es sg.ps as
 fs:aH Es.ρ sg.pf
 pc:sg.pc≠[]->∃ f∈sg.pc,aH Es.ρ f
structure Jd (sg:az) (Es:En) (alt:Alt) (Er:En) (r:AV):Prop where
 le:Es.le Er
 nv:Er.ρ.length=alt.nv
 nl:Er.χ.length=sg.pl.length+alt.ls.length
 θ:Er.θ=[]
 κ:Er.κ=[]
 ls:∀ (i:Nat) li,alt.ls[i]? =some li->∃ xs,Er.χ[sg.pl.length+i]? =some xs/\gv Er li xs
 r:alt.r.rel Er r
 fs:aH Er.ρ alt.fs
 up:∀ q∈alt.up,∃ xs,Es.χ[q.1]? =some xs/\∀ v∈xs,Tp (.e q.2) v
 ex:∀ q∈alt.ex,∃ xs n v,Es.χ[q.1]? =some xs/\q.2.1.is Er.ρ n/\0<=n/\xs[n.toNat]? =some v/\Tp (.e q.2.2) v
def Spec (P:Program) (gl:List (Nat×List AV)) (f:FuncId) (sg:az) (b:Int->Prop):Prop:=∀ Es as,NM sg Es as->(∀ m,sg.me.is Es.ρ m->b m)->∃ r,Pure P gl f as (.ok r)/\∃ alt∈sg.alts,∃ Er,Jd sg Es alt Er r
mutual
def lM (σ:List aa) (τ:List Nat):SV->Option SV
 | .i k e=>some (.i k (sb 0 σ e))
 | .b (.k t)=>some (.b (.k t))
 | .b (.ge e)=>some (.b (.ge (sb 0 σ e)))
 | .b (.eq e)=>some (.b (.eq (sb 0 σ e)))
 | .b (.ne e)=>some (.b (.ne (sb 0 σ e)))
 | .s e=>some (.s (sb 0 σ e))
 | .c v=>some (.c v)
 | .l k X _=>(match nth τ X with
  |some Y=>some (.l k Y 0)
  |none=>none)
 | .lit k xs _=>(match v8 σ τ xs with
  |some ys=>some (.lit k ys 0)
  |none=>none)
 | .a xs=>(match v8 σ τ xs with
  |some ys=>some (.a ys)
  |none=>none)
 | .aF xs=>(match v8 σ τ xs with
  |some ys=>some (.aF ys)
  |none=>none)
 |_=>none
def v8 (σ:List aa) (τ:List Nat):List SV->Option (List SV)
 |[]=>some []
 |x::xs=>(match lM σ τ x with
  |some y=>(match v8 σ τ xs with
   |some ys=>some (y::ys)
   |none=>none)
  |none=>none)
end
def Em:En:=⟨[],[],[],[]⟩
def ad7 (E:En):Em.le E:=⟨⟨E.ρ,rfl⟩,⟨E.χ,rfl⟩,⟨E.θ,rfl⟩,⟨E.κ,rfl⟩⟩
abbrev c0:Cm:=⟨0,0,0,0⟩
section
variable {gl:List (Nat×List AV)} {E E' Er:En} {M:Mt} {F:Fr} {S:St}
mutual
def My (hb:Bd c0 Em E M Er):∀ (x:SV) {y:SV} {v:AV},lM M.σ M.τ x=some y->x.rel Er v->y.rel E v
 | .i k e,y,v,h,hr=>by
  simp only [lM,Ae] at h;subst h;simp only [SV.rel] at hr ⊢;obtain ⟨n,h1,h2,rfl⟩:=hr;exact ⟨n,eQ hb h1,h2,rfl⟩
 | .b (.k t),y,v,h,hr=>by
  simp only [lM,Ae] at h;subst h;simp only [SV.rel] at hr ⊢;exact hr
 | .b (.ge e),y,v,h,hr=>by
  simp only [lM,Ae] at h;subst h;simp only [SV.rel] at hr ⊢;obtain ⟨t,⟨n,h1,h2⟩,rfl⟩:=hr;exact ⟨t,⟨n,eQ hb h1,h2⟩,rfl⟩
 | .b (.eq e),y,v,h,hr=>by
  simp only [lM,Ae] at h;subst h;simp only [SV.rel] at hr ⊢;obtain ⟨t,⟨n,h1,h2⟩,rfl⟩:=hr;exact ⟨t,⟨n,eQ hb h1,h2⟩,rfl⟩
 | .b (.ne e),y,v,h,hr=>by
  simp only [lM,Ae] at h;subst h;simp only [SV.rel] at hr ⊢;obtain ⟨t,⟨n,h1,h2⟩,rfl⟩:=hr;exact ⟨t,⟨n,eQ hb h1,h2⟩,rfl⟩
 | .s e,y,v,h,hr=>by
  simp only [lM,Ae] at h;subst h;simp only [SV.rel] at hr ⊢;obtain ⟨n,h1,rfl⟩:=hr;exact ⟨n,eQ hb h1,rfl⟩
 | .c w,y,v,h,hr=>by
  simp only [lM,Ae] at h;subst h;simp only [SV.rel] at hr ⊢;exact hr
 | .l k X t,y,v,h,hr=>by
  simp only [lM,cP] at h;split at h
  ·rename_i Y hY;cases h;simp only [SV.rel] at hr ⊢;obtain ⟨xs,tk,h1,h2,rfl⟩:=hr;obtain ⟨r,q1,q2,q3⟩:=hb.χ;obtain ⟨ys,a,b⟩:=q3 _ _ hY;have q1:Er.χ=r:=by simpa [Em] using q1
   rw [q1,a] at h1;cases h1;exact ⟨_,tk,b,trivial,rfl⟩
  ·cases h
 | .lit k xs t,y,v,h,hr=>by
  simp only [lM] at h;split at h
  ·rename_i ys hY;cases h;simp only [SV.rel] at hr ⊢;obtain ⟨vs,tk,h1,h2,rfl⟩:=hr;exact ⟨_,tk,uj hb xs hY h1,trivial,rfl⟩
  ·cases h
 | .a xs,y,v,h,hr=>by
  simp only [lM] at h;split at h
  ·rename_i ys hY;cases h;simp only [SV.rel] at hr ⊢;obtain ⟨vs,h1,rfl⟩:=hr;exact ⟨_,uj hb xs hY h1,rfl⟩
  ·cases h
 | .aF xs,y,v,h,hr=>by
  simp only [lM] at h;split at h
  ·rename_i ys hY;cases h;simp only [SV.rel] at hr ⊢;obtain ⟨vs,h1,rfl⟩:=hr;exact ⟨_,uj hb xs hY h1,rfl⟩
  ·cases h
 | .p _ _,y,v,h,hr=>by simp [lM] at h
 | .e _ _ _ _,y,v,h,hr=>by simp [lM] at h
 | .fn _ _ _,y,v,h,hr=>by simp [lM] at h
def uj (hb:Bd c0 Em E M Er):∀ (xs:List SV) {ys:List SV} {vs:List AV},v8 M.σ M.τ xs=some ys->ba Er xs vs->ba E ys vs
 |[],ys,vs,h,hr=>by
  simp only [v8,Ae] at h;subst h;rw [aV.1 hr];exact aV.2 rfl
 |x::xs,ys,vs,h,hr=>by
  simp only [v8] at h;obtain ⟨w,ws,h1,h2,rfl⟩:=aO.1 hr;split at h
  ·rename_i y hy;split at h
   ·rename_i ys' hys;cases h;exact aO.2 ⟨w,ws,My hb x hy h1,uj hb xs hys h2,rfl⟩
   ·cases h
  ·cases h
end
def Ed:Nat->Mt->Mt
 |0,M=>M
 |k+1,M=>Ed k {M with A:=M.A.num [],σ:=M.σ++[.var M.A.nv]}
def GY:∀ (ns:List Int) {E Ep:En} {M:Mt},Gm gl E M.A F S->Bd c0 Em E M Ep->∃ E',E.le E'/\Gm gl E' (Ed ns.length M).A F S/\Bd c0 Em E' (Ed ns.length M) {Ep with ρ:=Ep.ρ++ns}/\(Ed ns.length M).τ=M.τ
 |[],E,Ep,M,h,hb=>⟨E,.refl E,h,by show Bd c0 Em E M _;rw [AB];exact hb,rfl⟩
 |n::ns,E,Ep,M,h,hb=>by
  have h1:=h.num (x:=n) (aH.nil _)
  have hb1:=hb.mono (E.cb n) (A':=M.A.num []) (fun u hu=>by cases u with
   |zero=>exact hu
   |succ u=>cases u<;>exact hu)
  obtain ⟨g1,g2⟩:=hb1.num (h.new n);obtain ⟨E',k1,k2,k3,k4⟩:=GY ns (M:={M with A:=M.A.num [],σ:=M.σ++[.var M.A.nv]}) h1 g1;refine ⟨E',(E.cb n).trans k1,k2,?_,k4⟩;have e:({Ep with ρ:=Ep.ρ++(n::ns)}:En)={(Ep.num n) with ρ:=(Ep.num n).ρ++ns}:=by simp [En.num]
  rw [e];exact k3
def JK:List LI->Mt->Mt
 |[],M=>M
 |li::ls,M=>JK ls {M with A:=M.A.ec ⟨li.k,li.e,sb 0 M.σ li.n,sb 0 M.σ li.z⟩,τ:=M.τ++[M.A.ls.length]}
def HW {Er:En}:∀ (ls:List LI) (xss:List (List AV)) {E Ep:En} {M:Mt},ls.length=xss.length->Gm gl E M.A F S->Bd c0 Em E M Ep->Ep.ρ=Er.ρ->(∀ (i:Nat) li xs,ls[i]? =some li->xss[i]? =some xs->gv Er li xs)->
  ∃ E',E.le E'/\Gm gl E' (JK ls M).A F S/\Bd c0 Em E' (JK ls M) {Ep with χ:=Ep.χ++xss}
 |[],[],E,Ep,M,_,h,hb,_,_=>⟨E,.refl E,h,by show Bd c0 Em E M _;rw [AB];exact hb⟩
 |[],_::_,_,_,_,e,_,_,_,_=>by cases e
 |_::_,[],_,_,_,e,_,_,_,_=>by cases e
 |li::ls,xs::xss,E,Ep,M,e,h,hb,hρ,hl=>by
  have h0:=hl 0 li xs rfl rfl
  have hL:gv E ⟨li.k,li.e,sb 0 M.σ li.n,sb 0 M.σ li.z⟩ xs:=by
   refine ⟨h0.el,eQ hb (by rw [hρ];exact h0.n),?_⟩;obtain ⟨z,z1,z2⟩:=h0.z;exact ⟨z,eQ hb (by rw [hρ];exact z1),z2⟩
  have h1:=h.ec hL
  have hb1:=hb.mono (E.im xs) (A':=M.A.ec ⟨li.k,li.e,sb 0 M.σ li.n,sb 0 M.σ li.z⟩) (fun u hu=>by cases u with
   |zero=>exact hu
   |succ u=>cases u<;>exact hu)
  have hb2:Bd c0 Em (E.ec xs) {M with A:=M.A.ec ⟨li.k,li.e,sb 0 M.σ li.n,sb 0 M.σ li.z⟩,τ:=M.τ++[M.A.ls.length]} (Ep.ec xs):=by
   obtain ⟨r,q1,q2,q3⟩:=hb1.χ;refine ⟨hb1.le,hb1.n,hb1.m,hb1.o,hb1.t,hb1.ρ,⟨r++[xs],by simp [En.ec,q1],by simp [q2],fun i u hu=>?_⟩,hb1.θ,hb1.κ⟩;rcases iR hu with hu|⟨e1,e2⟩
   ·obtain ⟨y,a,b⟩:=q3 i u hu;exact ⟨y,gb a,b⟩
   ·subst e1 e2;exact ⟨xs,by rw [<-q2];exact cW,h.rH xs⟩
  obtain ⟨E',k1,k2,k3⟩:=HW ls xss (Ep:=Ep.ec xs) (by simpa using e) h1 hb2 hρ fun i lj ys e1 e2=>hl (i+1) lj ys (by simpa using e1) (by simpa using e2);refine ⟨E',(E.im xs).trans k1,k2,?_⟩;have e:({Ep with χ:=Ep.χ++(xs::xss)}:En)={(Ep.ec xs) with χ:=(Ep.ec xs).χ++xss}:=by simp [En.ec]
  rw [e];exact k3
def PF (σ:List aa):List aa->List aa
 |[]=>[]
 |f::fs=>sb 0 σ f::PF σ fs
def Ma (hb:Bd c0 Em E M Er):∀ {fs:List aa},aH Er.ρ fs->aH E.ρ (PF M.σ fs)
 |[],_=>aH.nil _
 |f::fs,h=>by
  obtain ⟨x,h1,h2⟩:=h f (by simp);exact (Ma hb fun g hg=>h g (by simp [hg])).cons (eQ hb h1) h2
def Gx (ls:List LI) (τ:List Nat):List (Nat×Nat)->List jD
 |[]=>[]
 |(X,e)::r=>match nth τ X with
  |some Y=>(match nth ls Y with
   |some li=> .p Y e li.n::Gx ls τ r
   |none=>Gx ls τ r)
  |none=>Gx ls τ r
def Kv (h:Gm gl E M.A F S) (hb:Bd c0 Em E M Er):∀ {l:List (Nat×Nat)},(∀ q∈l,∃ xs,Er.χ[q.1]? =some xs/\∀ v∈xs,Tp (.e q.2) v)->∀ q∈Gx M.A.ls M.τ l,lZ E q
 |[],_,q,hq=>by cases hq
 |(X,e)::r,hl,q,hq=>by
  have ih:=Kv h hb (l:=r) fun q hq=>hl q (by simp [hq]);unfold Gx at hq;split at hq
  ·rename_i Y hY;split at hq
   ·rename_i li hli;rcases Ab.1 hq with rfl|hq
    ·rw [cP] at hY hli;obtain ⟨xs,h1,h2⟩:=hl (X,e) (by simp);obtain ⟨r',q1,q2,q3⟩:=hb.χ;obtain ⟨ys,a,b⟩:=q3 _ _ hY;have q1:Er.χ=r':=by simpa [Em] using q1
     rw [q1,a] at h1;cases h1;obtain ⟨zs,k1,k2⟩:=h.ls Y li hli;rw [b] at k1;cases k1;exact ⟨_,_,b,k2.n,fun j v _ hv=>h2 v (Aj hv)⟩
    ·exact ih q hq
   ·exact ih q hq
  ·exact ih q hq
def Hj (fs:List aa) (el:List jD) (σ:List aa) (τ:List Nat):List (Nat×aa×Nat)->List jD
 |[]=>[]
 |(X,i,e)::r=>match nth τ X with
  |some Y=>(match cO fs ((sb 0 σ i).bG (-1))||mg fs Y e (sb 0 σ i) el with
   |true=> .p Y e ((sb 0 σ i).aG 1)::Hj fs el σ τ r
   |false=>Hj fs el σ τ r)
  |none=>Hj fs el σ τ r
def LA {fs:List aa} (h:Gm gl E M.A F S) (hf:aH E.ρ fs) (hb:Bd c0 Em E M Er):∀ {l:List (Nat×aa×Nat)},(∀ q∈l,∃ xs n v,Er.χ[q.1]? =some xs/\q.2.1.is Er.ρ n/\0<=n/\xs[n.toNat]? =some v/\Tp (.e q.2.2) v)->∀ q∈Hj fs M.A.el M.σ M.τ l,lZ E q
 |[],_,q,hq=>by cases hq
 |(X,i,e)::r,hl,q,hq=>by
  have ih:=LA h hf hb (l:=r) fun q hq=>hl q (by simp [hq]);unfold Hj at hq;split at hq
  ·rename_i Y hY;split at hq
   ·rename_i hc;rcases Ab.1 hq with rfl|hq
    ·rw [cP] at hY;obtain ⟨xs,n,v,h1,h2,h3,h4,h5⟩:=hl (X,i,e) (by simp);obtain ⟨r',q1,q2,q3⟩:=hb.χ;obtain ⟨ys,a,b⟩:=q3 _ _ hY;have q1:Er.χ=r':=by simpa [Em] using q1
     rw [q1,a] at h1;cases h1;have hsb:(sb 0 M.σ i).is E.ρ n:=eQ hb h2;refine ⟨_,_,b,hsb.aG 1,fun j w hj hw=>?_⟩
     by_cases hjn:j=n.toNat
     ·subst hjn;rw [h4] at hw;cases hw;exact h5
     ·simp only [AI] at hc;rcases hc with hc|hc
      ·have:=bB hf (hsb.bG (-1)) hc;omega
      ·exact jU hf hsb b h.el hc j w (by omega) hw
    ·exact ih q hq
   ·exact ih q hq
  ·exact ih q hq
def wy (sg:az) (M:Mt) (a:Alt):Option (SV×AS):=
 let M2:=JK a.ls (Ed (a.nv-sg.pv) M)
 match lM M2.σ M2.τ a.r with
 |some x=>some (x,{M2.A.ju (PF M2.σ a.fs) with el:=Hj (M2.A.ju (PF M2.σ a.fs)).fs M2.A.el M2.σ M2.τ a.ex++(Gx M2.A.ls M2.τ a.up++M2.A.el)})
 |none=>none
def Mm {sg:az} {Es:En} (h:Gm gl E M.A F S) (hb:Bd c0 Em E M Es) (hv:Es.ρ.length=sg.pv) (hx:Es.χ.length=sg.pl.length) {a:Alt} {r:AV} (hp:Jd sg Es a Er r) {p:SV×AS} (ha:wy sg M a=some p):fM gl E S F p r:=by
 unfold wy at ha;simp only at ha;obtain ⟨ns,hns⟩:=hp.le.ρ;obtain ⟨xss,hxs⟩:=hp.le.χ
 have e1:ns.length=a.nv-sg.pv:=by
  have:=hp.nv;rw [hns,Ak] at this;omega
 have e2:a.ls.length=xss.length:=by
  have:=hp.nl;rw [hxs,Ak] at this;omega
 obtain ⟨E1,g1,g2,g3,g4⟩:=GY ns h hb
 obtain ⟨E2,f1,f2,f3⟩:=HW (Er:=Er) a.ls xss e2 g2 g3 hns.symm (fun i li xs k1 k2=>by
  obtain ⟨ys,q1,q2⟩:=hp.ls i li k1;rw [hxs,AG (by omega)] at q1;rw [show sg.pl.length+i-Es.χ.length=i from by omega,k2] at q1;cases q1
  exact q2)
 have hEr:({({Es with ρ:=Es.ρ++ns}:En) with χ:=Es.χ++xss}:En)=Er:=by
  have k1:Es.θ=Er.θ:=by
   obtain ⟨q,hq⟩:=hp.le.θ;have:=hp.θ;rw [hq] at this;rw [hp.θ];exact (List.append_eq_nil_iff.1 this).1
  have k2:Es.κ=Er.κ:=by
   obtain ⟨q,hq⟩:=hp.le.κ;have:=hp.κ;rw [hq] at this;rw [hp.κ];exact (List.append_eq_nil_iff.1 this).1
  obtain ⟨a1,a2,a3,a4⟩:=Er;simp only at hns hxs k1 k2;rw [hns,hxs,k1,k2]
 rw [hEr,e1] at f3;rw [e1] at f2;split at ha
 ·rename_i x hx;cases ha;have hk:=f2.ju (Ma f3 hp.fs)
  have hup:=Kv f2 f3 (l:=a.up) fun q hq=>by
   obtain ⟨xs,q1,q2⟩:=hp.up q hq;exact ⟨xs,hp.le.χg q1,q2⟩
  have hex:=LA f2 hk.fs f3 (l:=a.ex) fun q hq=>by
   obtain ⟨xs,n,v,q1,q2,q3,q4,q5⟩:=hp.ex q hq;exact ⟨xs,n,v,hp.le.χg q1,q2,q3,q4,q5⟩
  exact ⟨E2,g1.trans f1,⟨hk.nv,hk.nl,hk.no,hk.nt,hk.ls,fun q hq=>(AA.1 hq).elim (hex q) fun hq=>(AA.1 hq).elim (hup q) (hk.el q),hk.fr,hk.ob,hk.nd,hk.lt,hk.tk,hk.fs,hk.gl⟩,My f3 a.r hx hp.r⟩
 ·cases ha
def tL (sg:az) (M:Mt):List Alt->Option (List (SV×AS))
 |[]=>some []
 |a::as=>match wy sg M a with
  |some p=>(match tL sg M as with
   |some ps=>some (p::ps)
   |none=>none)
  |none=>none
def uO {sg:az} {a:Alt}:∀ {as:List Alt} {L:List (SV×AS)},tL sg M as=some L->a∈as->∃ p∈L,wy sg M a=some p
 |[],L,_,h=>by cases h
 |b::as,L,h,hm=>by
  unfold tL at h;split at h
  ·rename_i p hp;split at h
   ·rename_i ps hps;cases h;rcases Ab.1 hm with rfl|hm
    ·exact ⟨p,by simp,hp⟩
    ·obtain ⟨q,q1,q2⟩:=uO hps hm;exact ⟨q,by simp [q1],q2⟩
   ·cases h
  ·cases h
def Qm (p:aa->Bool) (pc:List (List aa)):Bool:=
 match pc with
 |[]=>true
 |_=>kQ (mf p) pc
def Lt {p:aa->Bool} {pc:List (List aa)} (h:Qm p pc=true) (hne:pc≠[]):∃ f∈pc,mf p f=true:=by
 unfold Qm at h;split at h
 ·exact absurd rfl hne
 ·exact iu h
def zH (A:AS) (x:SV):List jD->Option (List (List aa))
 |[]=>none
 | .e X _ y _::r=>(match sq x y with
  |true=>(match nth A.ls X with
   |some li=>(match Γ li.e,x with
    | .rf _ css,.a xs=>some (tz (lF A.ls xs) css)
    |_,_=>none)
   |none=>none)
  |false=>zH A x r)
 | .p ..::r=>zH A x r
 | .z ..::r=>zH A x r
def NX {σ:List aa}:∀ {css:List (List (Int×List (Nat×Int)))} {f:List (Int×List (Nat×Int))},f∈css->D9 σ (lu f)∈tz σ css:=fun h=>rY h
def xI {A:AS} (h:Gm gl E A F S) {x:SV} {v:AV} (hx:x.rel E v) {d:List (List aa)}:∀ {l:List jD},(∀ q∈l,lZ E q)->zH A x l=some d->∃ fs∈d,aH E.ρ fs
 |[],_,hd=>by cases hd
 | .e X i y s::r,hl,hd=>by
  unfold zH at hd;split at hd
  ·rename_i hs;have hs:=Da hs;subst hs;split at hd
   ·rename_i li hli;rw [cP] at hli;obtain ⟨xs,h1,h2⟩:=h.ls X li hli;obtain ⟨xs',n,w,e1,e2,e3,e4,e5,_⟩:=hl (.e X i x s) (by simp);rw [h1] at e1;cases e1;split at hd
    ·rename_i css ys hG;cases hd;have ht:=h2.el.get e4;obtain ⟨vs,rfl,_,f,hf1,hf2⟩:=(tv hG).1 ht;simp only [SV.rel] at e5;obtain ⟨ws,k1,k2⟩:=e5;cases k2;exact ⟨_,NX hf1,yI (fun m e he=>qB h k1 m e he) (by rw [oA,Ad,bV k1]) hf2⟩
    ·cases hd
   ·cases hd
  ·exact xI h hx (l:=r) (fun q hq=>hl q (by simp [hq])) hd
 | .p ..::r,hl,hd=>xI h hx (l:=r) (fun q hq=>hl q (by simp [hq])) (by simpa [zH] using hd)
 | .z ..::r,hl,hd=>xI h hx (l:=r) (fun q hq=>hl q (by simp [hq])) (by simpa [zH] using hd)
def zp (A:AS):List SV->List (List aa)
 |[]=>[[]]
 |x::xs=>match zH A x A.el with
  |some d=>d
  |none=>zp A xs
def zj {A:AS} (h:Gm gl E A F S):∀ {xs:List SV} {vs:List AV},ba E xs vs->∃ fs∈zp A xs,aH E.ρ fs
 |[],_,_=>⟨[],by simp [zp],aH.nil _⟩
 |x::xs,vs,hr=>by
  obtain ⟨w,ws,h1,h2,rfl⟩:=aO.1 hr;unfold zp;split
  ·rename_i d hd;exact xI h h1 h.el hd
  ·exact zj h h2
def pcS (A:AS) (M:Mt) (sg:az) (args:List SV):Bool:=
 (zp A args).all fun fs=>kQ (mf (fun e=>da sg.pv e.ts && kQ (fun f=>f.beq (sb 0 M.σ e)) fs)) sg.pc
def pcA (A:AS) (M:Mt) (sg:az) (args:List SV):Bool:=
 match (match sg.pc with
  |[]=>true
  |_::_=>pcS A M sg args) with
 |true=>true
 |false=>match Qm (fun e=>da sg.pv e.ts && cO M.A.fs (sb 0 M.σ e)) sg.pc with
 |true=>true
 |false=>(zp A args).all fun fs=>Qm (fun e=>da sg.pv e.ts && cO (fs++M.A.fs) (sb 0 M.σ e)) sg.pc
def yM (Tb:List (Nat×(az×Bool))) (cur:aa) (A:AS) (f:Nat) (args:List SV):Option (List (SV×AS)):=
 match lk f Tb with
 |some (sg,rc)=>(match tg c0 sg.pl ⟨A,[],[],[]⟩ sg.ps args with
  |some M=>if Nat.beq M.σ.length sg.pv && (Nat.beq M.τ.length sg.pl.length && (Nat.beq M.υ.length 0 && (pcA A M sg args && (mf (fun e=>da sg.pv e.ts && LL M.A.fs (sb 0 M.σ e)) sg.pf && (!rc||(da sg.pv sg.me.ts && (cO M.A.fs ((cur.sub (sb 0 M.σ sg.me)).aG (-1)) && cO M.A.fs (cur.aG (-1))))))))) then tL sg M sg.alts else none
  |none=>none)
 |none=>none
def Bd.em (E:En) (A:AS):Bd c0 Em E ⟨A,[],[],[]⟩ Em:=⟨ad7 E,rfl,rfl,rfl,rfl,⟨[],rfl,rfl,fun i e h=>by cases h⟩,⟨[],rfl,rfl,fun i e h=>by cases h⟩,rfl,⟨[],rfl,rfl,fun i e h=>by cases h⟩⟩
def wq {P:Program} {A:AS} {Tb:List (Nat×(az×Bool))} {cur:aa} {cv:Int} (hc:cur.is E.ρ cv) (hT:∀ f sg rc,lk f Tb=some (sg,rc)->Spec P gl f sg fun m=>rc=true->m.toNat<cv.toNat) (h:Gm gl E A F S)
  {f:Nat} {args:List SV} {vs:List AV} (ha:ba E args vs) {L:List (SV×AS)} (hL:yM Tb cur A f args=some L):∃ r,Pure P gl f vs (.ok r)/\∃ p∈L,fM gl E S F p r:=by
 unfold yM at hL;split at hL
 ·rename_i sg rc hsg;split at hL
  ·rename_i M hM;split at hL
   ·rename_i hc';simp only [Aa] at hc';obtain ⟨c1,c2,c3,c6,c4,c5⟩:=hc';obtain ⟨E1,Es,g1,g2,g3,g4,g5,g6⟩:=(lT (M:=⟨A,[],[],[]⟩) sg.ps h (Bd.em E A) (fun i li hi=>by simp at hi) ha hM).h;have n1:Es.ρ.length=sg.pv:=by rw [g4.len,aq.1 c1];exact Aw _
    have n2:Es.χ.length=sg.pl.length:=by rw [g4.Jb,aq.1 c2];exact Aw _
    have n3:Es.κ=[]:=by
     have:=g4.I2;rw [aq.1 c3] at this;exact A3 this
    have hpre:NM sg Es vs:=by
     have key:∀ {fs:List aa},mf (fun e=>da sg.pv e.ts && cO M.A.fs (sb 0 M.σ e)) fs=true->aH Es.ρ fs:=fun hfs e he=>by
      have h3:=j7 hfs e he;simp only [Aa] at h3;have h4:e.is Es.ρ (e.val Es.ρ):=⟨by rw [n1];exact h3.1,rfl⟩;exact ⟨_,h4,bB g3.fs (eQ g4 h4) h3.2⟩
     have key8:∀ {fs:List aa},mf (fun e=>da sg.pv e.ts && LL M.A.fs (sb 0 M.σ e)) fs=true->aH Es.ρ fs:=fun hfs e he=>by
      have h3:=j7 hfs e he;simp only [Aa] at h3;have h4:e.is Es.ρ (e.val Es.ρ):=⟨by rw [n1];exact h3.1,rfl⟩;exact ⟨_,h4,Mw g3.fs (eQ g4 h4) h3.2⟩
     refine ⟨n1,n2,g4.θ,n3,fun X li hli=>?_,g6,key8 c4,fun hne=>?_⟩
     ·obtain ⟨xs,q1,q2⟩:=g5 X li (by rw [aq.1 c2];exact gP hli) hli;exact ⟨xs,by simpa using q1,q2⟩
     ·unfold pcA at c6;split at c6
      ·rename_i hS;split at hS
       ·exact absurd ‹sg.pc=[]› hne
       obtain ⟨fs,d1,d2⟩:=zj h ha;obtain ⟨cs,k1,k2⟩:=iu (AO.1 hS fs d1);refine ⟨cs,k1,fun e he=>?_⟩;have h3:=j7 k2 e he;simp only [Aa] at h3;obtain ⟨f,f1,f2⟩:=iu h3.2;have h4:e.is Es.ρ (e.val Es.ρ):=⟨by rw [n1];exact h3.1,rfl⟩;obtain ⟨y,y1,y2⟩:=d2 f f1;rw [aa.dD f2] at y1;have:=(y1.le g1).uniq (eQ g4 h4);exact ⟨_,h4,by omega⟩
      split at c6
      ·obtain ⟨cs,k1,k2⟩:=Lt ‹_› hne;exact ⟨cs,k1,key k2⟩
      ·obtain ⟨fs,d1,d2⟩:=zj h ha;obtain ⟨cs,k1,k2⟩:=Lt (AO.1 c6 fs d1) hne;refine ⟨cs,k1,fun e he=>?_⟩;have h3:=j7 k2 e he;simp only [Aa] at h3;have h4:e.is Es.ρ (e.val Es.ρ):=⟨by rw [n1];exact h3.1,rfl⟩
       have d3:aH E1.ρ fs:=fun f hf=>by
        obtain ⟨y,y1,y2⟩:=d2 f hf;exact ⟨y,y1.le g1,y2⟩
       exact ⟨_,h4,bB (d3.app g3.fs) (eQ g4 h4) h3.2⟩
    obtain ⟨r,hr1,alt,hr2,Er,hr3⟩:=hT f sg rc hsg Es vs hpre (fun m hm hrc=>by
     subst hrc;simp only [Ca,Bool.false_or,Aa] at c5;have h1:=bB g3.fs (((hc.le g1).sub (eQ g4 hm)).aG (-1)) c5.2.1;have h2:=bB g3.fs ((hc.le g1).aG (-1)) c5.2.2
     omega)
    obtain ⟨p,hp1,hp2⟩:=uO hL hr2;obtain ⟨E2,f1,f2,f3⟩:=(Mm g3 g4 n1 n2 hr3 hp2).h;exact ⟨r,hr1,p,hp1,E2,g1.trans f1,f2,f3⟩
   ·cases hL
  ·cases hL
 ·cases hL
end
end Go.Proofs.YtoopnalhhfmgaaaGreatDoor
namespace Go.Proofs.YtoopnalhhfmgaaaGreatDoor
open Go Go.V
def AS.put (A:AS) (d:Option Nat) (x:SV):AS:=match d with
 |some t=>{A with fr:=(t,x)::A.fr}
 |none=>A
def sQ (d:Option Nat):List (SV×AS)->List AS
 |[]=>[]
 |(x,B)::r=>B.put d x::sQ d r
def mF {d:Option Nat} {p:SV×AS}:∀ {l:List (SV×AS)},p∈l->p.2.put d p.1∈sQ d l
 |[],h=>by cases h
 |(x,B)::r,h=>by
  rcases Ab.1 h with rfl|h
  ·simp [sQ]
  ·exact Ao _ (mF h)
def o7 {α:Type} (p:α->α->Bool):List α->List α->Bool
 |[],[]=>true
 |x::xs,y::ys=>(match p x y with
  |true=>o7 p xs ys
  |false=>false)
 |_,_=>false
def mO {α:Type} {p:α->α->Bool} (hp:∀ {x y},p x y=true->x=y):∀ {xs ys:List α},o7 p xs ys=true->xs=ys
 |[],[],_=>rfl
 |[],_::_,h=>by simp [o7] at h
 |_::_,[],h=>by simp [o7] at h
 |x::xs,y::ys,h=>by
  unfold o7 at h;split at h
  ·rename_i h1;rw [hp h1,mO hp h]
  ·cases h
def liq (a b:LI):Bool:=Nat.beq a.k b.k && (Nat.beq a.e b.e && (a.n.beq b.n && a.z.beq b.z))
def ZO {a b:LI} (h:liq a b=true):a=b:=by
 obtain ⟨a1,a2,a3,a4⟩:=a;obtain ⟨b1,b2,b3,b4⟩:=b;simp only [liq,Aa] at h;rw [aq.1 h.1,aq.1 h.2.1,aa.dD h.2.2.1,aa.dD h.2.2.2]
def Ko:jD->jD->Bool
 | .e X i x s,.e Y j y t=>Nat.beq X Y && (i.beq j && (s.beq t && sq x y))
 | .p X m b,.p Y n c=>Nat.beq X Y && (Nat.beq m n && b.beq c)
 | .z X i w,.z Y j v=>Nat.beq X Y && (i.beq j && w.beq v)
 |_,_=>false
def abm:∀ {a b:jD},Ko a b=true->a=b
 | .e X i x s,b,h=>by
  cases b<;>simp only [Ko,Ah,Aa] at h
  rw [aq.1 h.1,aa.dD h.2.1,aa.dD h.2.2.1,Da h.2.2.2]
 | .p X m c,b,h=>by
  cases b<;>simp only [Ko,Ah,Aa] at h
  rw [aq.1 h.1,aq.1 h.2.1,aa.dD h.2.2]
 | .z X i w,b,h=>by
  cases b<;>simp only [Ko,Ah,Aa] at h
  rw [aq.1 h.1,aa.dD h.2.1,aa.dD h.2.2]
def Nz (a b:Nat×SV):Bool:=Nat.beq a.1 b.1 && sq a.2 b.2
def RO {a b:Nat×SV} (h:Nz a b=true):a=b:=by
 obtain ⟨a1,a2⟩:=a;obtain ⟨b1,b2⟩:=b;simp only [Nz,Aa] at h;rw [aq.1 h.1,Da h.2]
def AS.sm (A B:AS):Bool:=Nat.beq A.nv B.nv && (Nat.beq A.nt B.nt && (o7 Nz A.fr B.fr && (o7 liq A.ls B.ls && (o7 sf A.ob B.ob && (o7 Ko A.el B.el && o7 Nat.beq A.lv B.lv)))))
def AS.aeI {A B:AS} (h:A.sm B=true):A={B with fs:=A.fs}:=by
 obtain ⟨a1,a2,a3,a4,a5,a6,a7,a8⟩:=A;obtain ⟨b1,b2,b3,b4,b5,b6,b7,b8⟩:=B;simp only [AS.sm,Aa] at h;obtain ⟨h1,h2,h3,h4,h5,h6,h7⟩:=h;rw [aq.1 h1,aq.1 h2,mO RO h3,mO ZO h4,mO nL h5,mO abm h6,mO (fun h=>aq.1 h) h7]
def xu (vs:List Nat):Ts->Bool
 |[]=>true
 |(v,_)::ts=>match gx v vs with
  |true=>xu vs ts
  |false=>false
def yy (vs:List Nat):List aa->Bool
 |[]=>true
 |f::fs=>match xu vs f.ts with
  |true=>yy vs fs
  |false=>false
def kB (vs:List Nat):Nat->List aa->List aa->Option (List aa)
 |0,_,_=>none
 |_+1,[],gs=>(match yy vs gs with
  |true=>some []
  |false=>none)
 |_+1,fs,[]=>(match yy vs fs with
  |true=>some []
  |false=>none)
 |n+1,f::fs,g::gs=>match f.beq g with
  |true=>(match kB vs n fs gs with
   |some r=>some (f::r)
   |none=>none)
  |false=>(match xu vs f.ts with
   |true=>kB vs n fs (g::gs)
   |false=>(match xu vs g.ts with
    |true=>kB vs n (f::fs) gs
    |false=>none))
def lL {vs:List Nat}:∀ {n:Nat} {fs gs r:List aa},kB vs n fs gs=some r->(∀ f∈r,f∈fs)/\(∀ f∈r,f∈gs)
 |0,_,_,_,h=>by simp [kB] at h
 |_+1,[],gs,r,h=>by
  simp only [kB] at h;split at h
  ·cases h;exact ⟨(fun f hf=>by cases hf),fun f hf=>by cases hf⟩
  ·cases h
 |_+1,f::fs,[],r,h=>by
  simp only [kB] at h;split at h
  ·cases h;exact ⟨(fun f hf=>by cases hf),fun f hf=>by cases hf⟩
  ·cases h
 |n+1,f::fs,g::gs,r,h=>by
  simp only [kB] at h;split at h
  ·rename_i hb;split at h
   ·rename_i r' hr;cases h;obtain ⟨h1,h2⟩:=lL hr;refine ⟨fun x hx=>?_,fun x hx=>?_⟩
    ·rcases Ab.1 hx with rfl|hx
     ·simp
     ·exact Ao _ (h1 x hx)
    ·rcases Ab.1 hx with rfl|hx
     ·rw [aa.dD hb];simp
     ·exact Ao _ (h2 x hx)
   ·cases h
  ·split at h
   ·obtain ⟨h1,h2⟩:=lL h;exact ⟨fun x hx=>Ao _ (h1 x hx),h2⟩
   ·split at h
    ·obtain ⟨h1,h2⟩:=lL h;exact ⟨h1,fun x hx=>Ao _ (h2 x hx)⟩
    ·cases h
def oH (vs:List Nat) (A:AS):List AS->List AS
 |[]=>[A]
 |B::r=>match kB vs 1000 A.fs B.fs with
  |some fs=>(match A.sm B with
   |true=>{B with fs:=fs}::r
   |false=>B::oH vs A r)
  |none=>B::oH vs A r
def yq (vs:List Nat):List AS->List AS
 |[]=>[]
 |A::r=>oH vs A (yq vs r)
def Gm.less {gl:List (Nat×List AV)} {E:En} {A:AS} {F:Fr} {S:St} (h:Gm gl E A F S) {fs:List aa} (hf:∀ f∈fs,f∈A.fs):Gm gl E {A with fs:=fs} F S:=⟨h.nv,h.nl,h.no,h.nt,h.ls,h.el,h.fr,h.ob,h.nd,h.lt,h.tk,fun f hm=>h.fs f (hf f hm),h.gl⟩
def sT {vs:List Nat} {gl:List (Nat×List AV)} {E:En} {A:AS} {F:Fr} {S:St} (h:Gm gl E A F S):∀ L:List AS,∃ B∈oH vs A L,Gm gl E B F S
 |[]=>⟨A,by simp [oH],h⟩
 |B::r=>by
  unfold oH;split
  ·rename_i fs hfs;split
   ·rename_i hs;refine ⟨_,A4,?_⟩;have e:=AS.aeI hs;have h2:=h.less (fs:=fs) (lL hfs).1;rw [e] at h2;exact h2
   ·obtain ⟨C,h1,h2⟩:=sT h r;exact ⟨C,Ao _ h1,h2⟩
  ·obtain ⟨C,h1,h2⟩:=sT h r;exact ⟨C,Ao _ h1,h2⟩
def sv {vs:List Nat} {gl:List (Nat×List AV)} {E:En} {A C:AS} {F:Fr} {S:St} (h:Gm gl E C F S):∀ {L:List AS},C∈L->∃ B∈oH vs A L,Gm gl E B F S
 |B::r,hm=>by
  unfold oH;split
  ·rename_i fs hfs;split
   ·rcases Ab.1 hm with rfl|hm
    ·exact ⟨_,A4,h.less (lL hfs).2⟩
    ·exact ⟨C,Ao _ hm,h⟩
   ·rcases Ab.1 hm with rfl|hm
    ·exact ⟨_,A4,h⟩
    ·obtain ⟨D,h1,h2⟩:=sv h hm;exact ⟨D,Ao _ h1,h2⟩
  ·rcases Ab.1 hm with rfl|hm
   ·exact ⟨_,A4,h⟩
   ·obtain ⟨D,h1,h2⟩:=sv h hm;exact ⟨D,Ao _ h1,h2⟩
def wg {vs:List Nat} {gl:List (Nat×List AV)} {E:En} {A:AS} {F:Fr} {S:St} (h:Gm gl E A F S):∀ {L:List AS},A∈L->∃ B∈yq vs L,Gm gl E B F S
 |B::r,hm=>by
  unfold yq;rcases Ab.1 hm with rfl|hm
  ·exact sT h _
  ·obtain ⟨C,h1,h2⟩:=wg h hm;exact sv h2 h1
def PU:Nat->List AS->Bool
 |_,[]=>false
 |0,_=>true
 |n+1,_::r=>PU n r
def QQ (ls:List LI):SV->List Nat
 | .i _ e=>e.ts.map (·.1)
 | .s e=>e.ts.map (·.1)
 | .l _ X _=>(match nth ls X with
  |some li=>li.n.ts.map (·.1)
  |none=>[])
 |_=>[]
def Qd (ls:List LI):SV->List Nat
 | .a xs=>xs.flatMap (QQ ls)
 |x=>QQ ls x
def Qs (A:AS):List aj->List Nat
 |[]=>[]
 |x::r=>(match cn A x with
  |some s=>Qd A.ls s
  |none=>[])++Qs A r
def IF (cur:aa) (o:aX) (L:List AS):List AS:=
 match o.op,L with
 | .call _ as,A::_=>(match PU 40 L with
  |true=>yq (Qs A as) L
  |false=>L)
 | .k (.rI _ _ _),A::_=>(match decide (3<=cur.c),A.el with
  |true,.e _ _ x _::_=>yq (Qd A.ls x) L
  |_,_=>L)
 |_,L=>L
def GN {gl:List (Nat×List AV)} {E:En} {A:AS} {F:Fr} {S:St} (h:Gm gl E A F S) {cur:aa} {o:aX} {L:List AS} (hm:A∈L):∃ B∈IF cur o L,Gm gl E B F S:=by
 unfold IF;split
 ·split
  ·exact wg h hm
  ·exact ⟨A,hm,h⟩
 ·split
  ·exact wg h hm
  ·exact ⟨A,hm,h⟩
 ·exact ⟨A,hm,h⟩
abbrev kI:=List (Nat×(az×Bool))
def oF (Tb:kI) (cur:aa) (A:AS) (o:aX):Option (List AS):=
 match o.op with
 | .k m=>(match ek A m with
  |some L=>some (sQ o.dst L)
  |none=>none)
 | .call c as=>(match cn A c,qz A as with
  |some (.fn (.func f) first caps),some xs=>(match yM Tb cur A f (first++(xs++caps)) with
   |some L=>some (sQ o.dst L)
   |none=>none)
  |_,_=>none)
 |_=>none
def Dk:MX->Bool
 | .k m=>XJ m
 |_=>false
def LM (P:Program) (o:aX) (F:Fr) (S:St) (F':Fr) (S':St):Prop:=∀ (K:Option AV->Fr->St->Prop) (nx:Fr->St->Prop),nx F' S'->bl P o K nx F S
def US (P:Program) (o:aX) (F:Fr) (S:St) (F':Fr) (S':St):Prop:=(∃ F0,(∀ t want,o.gd=some (t,want)->F.get t= .bool want)/\(∀ x:aj,x.ev F0=x.ev F)/\LM P o F0 S F' S'/\∀ (stp nx:Fr->St->Prop),stp F0 S->bA o stp nx F S)∨(∀ (stp nx:Fr->St->Prop),nx F' S'->bA o stp nx F S)
def re (st:Bool) (S S':St):Prop:=S.n<=S'.n/\(st=false->∀ l,l<S.n->S'.get l=S.get l)
def re.trans {a b:Bool} {S S1 S2:St} (h:re a S S1) (h2:re b S1 S2):re (a||b) S S2:=⟨AH h.1 h2.1,fun e l hl=>by
 simp only [Bool.or_eq_false_iff] at e
 rw [h2.2 e.2 l (Cd hl h.1),h.2 e.1 l hl]⟩
section
variable {P:Program} {gl:List (Nat×List AV)} {Tb:kI} {cur:aa} {cv:Int} {E E':En} {A:AS} {F:Fr} {S:St}
def Gm.put (h:Gm gl E A F S) {d:Option Nat} {x:SV} {v:AV} (hx:x.rel E v):Gm gl E (A.put d x) (aT d v F) S:=by
 cases d with
 |none=>exact h
 |some t=>
  refine ⟨h.nv,h.nl,h.no,h.nt,h.ls,h.el,fun u y e=>?_,h.ob,h.nd,h.lt,h.tk,h.fs,h.gl⟩;simp only [AS.put,lk] at e;show ∃ w,List.lookup u ((t,v)::F)=some w/\_;rw [gS];split at e
  ·rename_i hu;cases e;rw [if_pos (aq.1 hu)];exact ⟨v,rfl,hx⟩
  ·rename_i hu;rw [if_neg fun e2=>by rw [e2,Bg] at hu;cases hu];exact h.fr u y e
def vI (P:Program) (gl:List (Nat×List AV)) (Tb:kI) (cv:Int):Prop:=∀ f sg rc,lk f Tb=some (sg,rc)->Spec P gl f sg fun m=>rc=true->m.toNat<cv.toNat
def Fo (hgn:ae gl) (hT:vI P gl Tb cv) (hc:cur.is E.ρ cv) (h:Gm gl E A F S) {o:aX} {L:List AS} (hL:oF Tb cur A o=some L):
  ∃ B∈L,∃ E' F' S',E.le E'/\Gm gl E' B F' S'/\LM P o F S F' S'/\re (Dk o.op) S S':=by
 unfold oF at hL;obtain ⟨ix,d,gd,op⟩:=o;simp only at hL;split at hL
 ·rename_i m;split at hL
  ·rename_i L' hL';cases hL;obtain ⟨p,hp,E',v,S',h1,h2,h3,h4,h5,h6,h7⟩:=(Tl h hL').h;refine ⟨_,mF hp,E',_,S',h3,h4.put h5,fun K nx hn=>?_,h6,h7⟩;simp only [bl];exact ⟨h1,by rw [h2];exact hn⟩
  ·cases hL
 ·rename_i c as;split at hL
  ·rename_i f first caps xs hcf has;split at hL
   ·rename_i L' hL';cases hL;have g1:=bf h hcf;have g2:=kV h has;simp only [SV.rel] at g1;obtain ⟨vf,vc,g3,g4,g5⟩:=g1;obtain ⟨r,hr,p,hp,E',h3,h4,h5⟩:=wq hc hT h (iU g3 (iU g2 g4)) hL';refine ⟨_,mF hp,E',_,S,h3,h4.put h5,fun K nx hn=>?_,Af _,fun _ _ _=>rfl⟩;simp only [bl,g5];rw [<-AL] at hr;refine (hr.at h.gl hgn).mono ?_;rintro o' S' ⟨rfl,rfl⟩;exact hn
   ·cases hL
  ·cases hL
 ·cases hL
def Di (Tb:kI) (cur:aa) (o:aX) (t:Nat) (want:Bool):List (Bool×AS)->Option (List AS)
 |[]=>some []
 |(b,B)::r=>match (if b==want then oF Tb cur (B.put (some t) (.b (.k want))) o else some [(B.put (some t) (.b (.k (!want)))).put o.dst (.aF [])]),Di Tb cur o t want r with
  |some L,some L'=>some (L++L')
  |_,_=>none
def mW (Tb:kI) (cur:aa) (A:AS) (o:aX):Option (List AS):=
 match o.gd with
 |none=>oF Tb cur A o
 |some (t,want)=>match lk t A.fr with
  |some (.b x)=>Di Tb cur o t want (fork A x)
  |some (.aF [])=>some [A.put o.dst (.aF [])]
  |_=>none
def RS {t:Nat} {v:AV} (h:F.get t=v) (x:aj):x.ev ((t,v)::F)=x.ev F:=by
 cases x with
 |t n=>
  simp only [aj.ev,Fr.kS];split
  ·rename_i e;rw [e,h]
  ·rfl
 |uX n rows=>
  simp only [aj.ev,Fr.kS];split
  ·rename_i e;rw [e,h]
  ·rfl
 |_=>rfl
def zQ {o:aX} {t:Nat} {want:Bool} {b:Bool} {B:AS}:∀ {l:List (Bool×AS)} {L:List AS},Di Tb cur o t want l=some L->(b,B)∈l->∃ L1,(if b==want then oF Tb cur (B.put (some t) (.b (.k want))) o else some [(B.put (some t) (.b (.k (!want)))).put o.dst (.aF [])])=some L1/\∀ C∈L1,C∈L
 |[],L,_,h=>by cases h
 |(b',B')::r,L,h,hm=>by
  unfold Di at h;split at h
  ·rename_i L1 L2 h1 h2;cases h;rcases Ab.1 hm with e|hm
   ·cases e;exact ⟨L1,h1,fun C hC=>AW _ hC⟩
   ·obtain ⟨L3,h3,h4⟩:=zQ h2 hm;exact ⟨L3,h3,fun C hC=>Bc _ (h4 C hC)⟩
  ·cases h
def wk (hgn:ae gl) (hT:vI P gl Tb cv) (hc:cur.is E.ρ cv) (h:Gm gl E A F S) {o:aX} {L:List AS} (hL:mW Tb cur A o=some L):
  ∃ B∈L,∃ E' F' S',E.le E'/\Gm gl E' B F' S'/\US P o F S F' S'/\re (Dk o.op) S S':=by
 unfold mW at hL;split at hL
 ·rename_i hgd;obtain ⟨B,h1,E',F',S',h2,h3,h4,h5⟩:=Fo hgn hT hc h hL;refine ⟨B,h1,E',F',S',h2,h3,.inl ⟨F,fun t want e=>(by rw [hgd] at e;cases e),fun _=>rfl,h4,fun stp nx hs=>?_⟩,h5⟩;simp only [bA,hgd];exact hs
 ·rename_i t want hgd;split at hL
  ·rename_i x hx;obtain ⟨v,q1,q2⟩:=h.fr t _ hx;simp only [SV.rel] at q2;obtain ⟨b,q2,rfl⟩:=q2;obtain ⟨B,q3,q4⟩:=mT h q2;obtain ⟨L1,q5,q6⟩:=zQ hL q3;have hget:F.get t= .bool b:=by simp only [Fr.get,q1,Option.getD_some]
   split at q5
   ·rename_i hb;have hb:b=want:=by simpa using hb
    subst hb;have q7:Gm gl E (B.put (some t) (.b (.k b))) ((t,.bool b)::F) S:=q4.put (d:=some t) (by simp only [SV.rel];exact ⟨b,rfl,rfl⟩);obtain ⟨C,h1,E',F',S',h2,h3,h4,h5⟩:=Fo hgn hT hc q7 q5;refine ⟨C,q6 C h1,E',F',S',h2,h3,.inl ⟨_,fun t want e=>(by rw [hgd] at e;cases e;exact hget),fun x=>RS hget x,h4,fun stp nx hs=>?_⟩,h5⟩;simp only [bA,hgd,hget];exact ⟨fun _=>hs,fun e=>by simp at e⟩
   ·rename_i hb;have hb:b= !want:=by cases b<;>cases want<;>simp_all
    cases q5
    have q7:Gm gl E ((B.put (some t) (.b (.k (!want)))).put o.dst (.aF [])) (aT o.dst (.aF []) ((t,.bool (!want))::F)) S:=
     (q4.put (d:=some t) (v:= .bool (!want)) (by simp only [SV.rel];exact ⟨_,rfl,rfl⟩)).put (by simp only [SV.rel];exact ⟨[],aV.2 rfl,rfl⟩)
    refine ⟨_,q6 _ (by simp),E,_,S,.refl E,q7,.inr fun stp nx hn=>?_,Af _,fun _ _ _=>rfl⟩;simp only [bA,hgd,hget];exact ⟨fun e=>by subst hb;simp at e,fun _=>hn⟩
  ·rename_i hx;cases hL;obtain ⟨v,q1,q2⟩:=h.fr t _ hx;simp only [SV.rel] at q2;obtain ⟨vs,q2,rfl⟩:=q2;rw [aV.1 q2] at q1;have hget:F.get t= .aF []:=by simp only [Fr.get,q1,Option.getD_some]
   refine ⟨A.put o.dst (.aF []),by simp,E,aT o.dst (.aF []) F,S,.refl E,h.put (by simp only [SV.rel];exact ⟨[],aV.2 rfl,rfl⟩),.inr fun stp nx hn=>?_,Af _,fun _ _ _=>rfl⟩;simp only [bA,hgd,hget];exact hn
  ·cases hL
def NN:Option (List AS)->Option (List AS)->Option (List AS)
 |some a,some b=>some (a++b)
 |_,_=>none
def EG (f:AS->Option (List AS)):List AS->Option (List AS)
 |[]=>some []
 |B::r=>NN (f B) (EG f r)
def UF {a b:Option (List AS)} {L:List AS} (h:NN a b=some L):∃ x y,a=some x/\b=some y/\L=x++y:=by
 cases a<;>cases b<;>simp only [NN,reduceCtorEq,Ae] at h
 exact ⟨_,_,rfl,rfl,h.symm⟩
def qx {f:AS->Option (List AS)} {B:AS}:∀ {l:List AS} {L:List AS},EG f l=some L->B∈l->∃ L1,f B=some L1/\∀ C∈L1,C∈L
 |[],_,_,h=>by cases h
 |C::r,L,h,hm=>by
  obtain ⟨x,y,h1,h2,rfl⟩:=UF h;rcases Ab.1 hm with rfl|hm
  ·exact ⟨x,h1,fun C hC=>AW _ hC⟩
  ·obtain ⟨L1,h3,h4⟩:=qx h2 hm;exact ⟨L1,h3,fun C hC=>Bc _ (h4 C hC)⟩
def Dd (Tb:kI) (cur:aa):List aX->List AS->Option (List AS)
 |[],L=>some L
 |o::l,L=>match EG (fun A=>mW Tb cur A o) L with
  |some L'=>Dd Tb cur l (IF cur o L')
  |none=>none
def DP (hgn:ae gl) (hT:vI P gl Tb cv):∀ {l:List aX} {L0:List AS} {E:En} {A:AS} {F:Fr} {S:St},A∈L0->cur.is E.ρ cv->Gm gl E A F S->∀ {L:List AS},Dd Tb cur l L0=some L->
  ∃ B∈L,∃ E' F' S',E.le E'/\Gm gl E' B F' S'/\∀ K:Option AV->Fr->St->Prop,K none F' S'->cB P l K F S
 |[],L0,E,A,F,S,hA,_,h,L,hL=>by
  cases hL;exact ⟨A,hA,E,F,S,.refl E,h,fun K hk=>hk⟩
 |o::l,L0,E,A,F,S,hA,hc,h,L,hL=>by
  unfold Dd at hL;split at hL
  ·rename_i L' hL';obtain ⟨L1,h1,h2⟩:=qx hL' hA;obtain ⟨B,b1,E1,F1,S1,b2,b3,b4,_⟩:=wk hgn hT hc h h1;obtain ⟨B',d1,d2⟩:=GN (cur:=cur) (o:=o) b3 (h2 B b1);obtain ⟨C,c1,E2,F2,S2,c2,c3,c4⟩:=DP hgn hT d1 (hc.le b2) d2 hL;refine ⟨C,c1,E2,F2,S2,b2.trans c2,c3,fun K hk=>?_⟩;simp only [cB];rcases b4 with ⟨F0,_,_,k1,k2⟩|k
   ·exact k2 _ _ (k1 _ _ (c4 K hk))
   ·exact k _ _ (c4 K hk)
  ·cases hL
def G4 (A:AS):List Nat->Option (List Nat)
 |[]=>some []
 |t::ts=>match lk t A.fr,G4 A ts with
  |some (.p j _),some r=>some (j::r)
  |some (.c _),_=>none
  |some _,some r=>some r
  |_,_=>none
def FN (h:Gm gl E A F S):∀ {pr js:List Nat},G4 A pr=some js->∀ l,(l∈ft F pr↔∃ j∈js,E.θ[j]? =some l)/\(l∈ft F pr->l<S.n)
 |[],js,e,l=>by
  cases e;rw [xP];exact ⟨⟨fun h=>(AD h).elim,fun ⟨j,h,_⟩=>(AD h).elim⟩,fun h=>(AD h).elim⟩
 |t::ts,js,e,l=>by
  unfold G4 at e;split at e
  ·rename_i j o r h1 h2;cases e;obtain ⟨v,q1,q2⟩:=h.fr t _ h1;simp only [SV.rel] at q2;obtain ⟨l',q2,rfl⟩:=q2;have hget:F.get t= .ptr l' o:=by simp only [Fr.get,q1,Option.getD_some]
   obtain ⟨ih1,ih2⟩:=FN h h2 l;rw [oX,hget];simp only [Ab];refine ⟨⟨fun h=>?_,fun ⟨i,hi,hi2⟩=>?_⟩,fun h3=>?_⟩
   ·rcases h with rfl|h
    ·exact ⟨j,.inl rfl,q2⟩
    ·obtain ⟨i,a,b⟩:=ih1.1 h;exact ⟨i,.inr a,b⟩
   ·rcases hi with rfl|hi
    ·rw [q2] at hi2;cases hi2;exact .inl rfl
    ·exact .inr (ih1.2 ⟨i,hi,hi2⟩)
   ·rcases h3 with rfl|h3
    ·exact h.lt l (Aj q2)
    ·exact ih2 h3
  ·cases e
  ·rename_i x r hn1 hn2 h1 h2;cases e;obtain ⟨v,q1,q2⟩:=h.fr t _ h1;have hget:F.get t=v:=by simp only [Fr.get,q1,Option.getD_some]
   have:ft F (t::ts)=ft F ts:=by
    rw [oX,hget]
    cases x with
    |c w=>exact (hn2 w rfl).elim
    |p j o=>exact (hn1 j o rfl).elim
    |_=>
     simp only [SV.rel] at q2
     first
      |(obtain ⟨_,_,rfl⟩:=q2;rfl)
      |(obtain ⟨_,_,_,rfl⟩:=q2;rfl)
      |(obtain ⟨_,_,_,_,rfl⟩:=q2;rfl)
   rw [this];exact FN h h2 l
  ·cases e
def FM (h:Gm gl E A F S):∀ {pr js:List Nat},G4 A pr=some js->∀ j∈js,∃ l,E.θ[j]? =some l
 |[],js,e,j,hj=>by cases e;cases hj
 |t::ts,js,e,j,hj=>by
  unfold G4 at e;split at e
  ·rename_i i o r h1 h2;cases e;obtain ⟨v,q1,q2⟩:=h.fr t _ h1;simp only [SV.rel] at q2;obtain ⟨l',q2,rfl⟩:=q2;rcases Ab.1 hj with rfl|hj
   ·exact ⟨l',q2⟩
   ·exact FM h h2 j hj
  ·cases e
  ·rename_i h2;cases e;exact FM h h2 j hj
  ·cases e
def Ip (A:AS) (js:List Nat) (o:aX):Bool:=
 match o.op with
 | .k (.load _ _ p)=>(match cn A p with
  |some (.p j _)=>gx j js
  |some (.e _ _ _ _)=>true
  |_=>false)
 |_=>true
def NT (h:Gm gl E A F S) {js Ls:List Nat} {o:aX} {F0:Fr} (hF:∀ x:aj,x.ev F0=x.ev F) {Eb:En} (hEb:Eb.le E) (hLs:∀ l,(∃ j∈js,Eb.θ[j]? =some l)->l∈Ls) (hjs:∀ j∈js,∃ l,Eb.θ[j]? =some l) (hs:Ip A js o=true):iy Ls o F0:=by
 unfold Ip at hs;unfold iy;split at hs
 ·rename_i n ag p hop;simp only [hop];split at hs
  ·rename_i j o' hp;have g:=bf h hp;simp only [SV.rel] at g;obtain ⟨l,g1,g2⟩:=g;rw [hF,g2];refine hLs l ⟨j,jL hs,?_⟩;obtain ⟨l',hl'⟩:=hjs j (jL hs);have:=hEb.θg hl';rw [g1] at this;cases this;exact hl'
  ·rename_i hp;have g:=bf h hp;simp only [SV.rel] at g;obtain ⟨xs,l,g1,g3,g2⟩:=g;rw [hF,g2];trivial
  ·cases hs
 ·rename_i hne;split
  ·rename_i n ag p hop;exact (hne n ag p hop).elim
  ·trivial
def Je (A:AS) (o:aX):Bool:=
 match o.gd with
 |some (t,want)=>(match lk t A.fr with
  |some (.b (.k b))=> !(b==want)
  |some (.aF [])=>true
  |_=>false)
 |none=>false
def OH (h:Gm gl E A F S) {o:aX} (hs:Je A o=true) (hw:∀ t want,o.gd=some (t,want)->F.get t= .bool want):False:=by
 unfold Je at hs;split at hs
 ·rename_i t want hgd;have h1:=hw t want hgd;split at hs
  ·rename_i b hb;obtain ⟨v,q1,q2⟩:=h.fr t _ hb;simp only [SV.rel,BE.is] at q2;obtain ⟨u,rfl,rfl⟩:=q2;simp only [Fr.get,q1,Option.getD_some,AV.bool.injEq] at h1;rw [h1] at hs;simp at hs
  ·rename_i hb;obtain ⟨v,q1,q2⟩:=h.fr t _ hb;simp only [SV.rel] at q2;obtain ⟨u,_,rfl⟩:=q2;simp only [Fr.get,q1,Option.getD_some] at h1;cases h1
  ·cases hs
 ·cases hs
def uJ:aj->aj->Bool
 | .t a,.t b=>Nat.beq a b
 | .c v,.c w=>v.gr w
 | .f a,.f b=>Nat.beq a b
 |_,_=>false
def lP {a b:aj} (h:uJ a b=true):a=b:=by
 cases a<;>cases b<;>simp only [uJ,Ah] at h
 ·rw [aq.1 h]
 ·rw [AV.ng h]
 ·rw [aq.1 h]
def DB:List aj->List aj->Bool
 |[],[]=>true
 |a::as,b::bs=>uJ a b && DB as bs
 |_,_=>false
def Hz:∀ {as bs:List aj},DB as bs=true->as=bs
 |[],[],_=>rfl
 |a::as,b::bs,h=>by
  simp only [DB,Aa] at h;rw [lP h.1,Hz h.2]
 |[],_::_,h=>by cases h
 |_::_,[],h=>by cases h
def PY:MX->MX->Bool
 | .k (.ou a),.k (.ou b)=>uJ a b
 | .k (.ext a i),.k (.ext b j)=>uJ a b && Nat.beq i j
 | .k (.store n a b),.k (.store m c d)=>Nat.beq n m && (uJ a c && uJ b d)
 | .k (.rB n a),.k (.rB m c)=>Nat.beq n m && uJ a c
 | .k (.load n ag a),.k (.load m ag' c)=>Nat.beq n m && (ag==ag' && uJ a c)
 | .k (.alloc z),.k (.alloc w)=>AV.iz z w
 | .call a as,.call b bs=>uJ a b && DB as bs
 |_,_=>false
def KM {a b:MX} (h:PY a b=true):a=b:=by
 unfold PY at h;split at h
 ·rw [lP h]
 ·rw [Aa] at h;rw [lP h.1,aq.1 h.2]
 ·simp only [Aa] at h;rw [aq.1 h.1,lP h.2.1,lP h.2.2]
 ·rw [Aa] at h;rw [aq.1 h.1,lP h.2]
 ·simp only [Aa,beq_iff_eq] at h;rw [aq.1 h.1,h.2.1,lP h.2.2]
 ·rw [AV.fE h]
 ·rw [Aa] at h;rw [lP h.1,Hz h.2]
 ·cases h
def Mo:Option Nat->Option Nat->Bool
 |none,none=>true
 |some a,some b=>Nat.beq a b
 |_,_=>false
def EH {a b:Option Nat} (h:Mo a b=true):a=b:=by
 cases a<;>cases b<;>simp only [Mo,Ah] at h
 ·rfl
 ·rw [aq.1 h]
def Qp (a b:aX):Bool:=Nat.beq a.ix b.ix && (Mo a.dst b.dst && (a.gd.isNone && (b.gd.isNone && PY a.op b.op)))
def L9 {a b:aX} (h:Qp a b=true):a=b/\a.gd=none:=by
 simp only [Qp,Aa,BD] at h;obtain ⟨h1,h2,h3,h4,h5⟩:=h;obtain ⟨i,d,g,o⟩:=a;obtain ⟨i',d',g',o'⟩:=b;simp only at h1 h2 h3 h4 h5;rw [aq.1 h1,EH h2,h3,h4,KM h5];exact ⟨rfl,rfl⟩
def P4:bC->bC->Bool
 | .done,.done=>true
 | .one o lo nd r,.one o' lo' nd' r'=>Qp o o' && (lo==lo' && (nd==nd' && P4 r r'))
 |_,_=>false
def K3:∀ {a b:bC},P4 a b=true->a=b
 | .done,.done,_=>rfl
 | .one o lo nd r,.one o' lo' nd' r',h=>by
  simp only [P4,Aa,beq_iff_eq] at h;rw [(L9 h.1).1,h.2.1,h.2.2.1,K3 h.2.2.2]
 | .done,.one ..,h=>by cases h
 | .done,.two ..,h=>by cases h
 | .one ..,.done,h=>by cases h
 | .one ..,.two ..,h=>by cases h
 | .two ..,.done,h=>by cases h
 | .two ..,.one ..,h=>by cases h
 | .two ..,.two ..,h=>by cases h
 | .iB ..,.done,h=>by cases h
 | .iB ..,.one ..,h=>by cases h
 | .iB ..,.two ..,h=>by cases h
 | .iB ..,.iB ..,h=>by cases h
 | .done,.iB ..,h=>by cases h
 | .one ..,.iB ..,h=>by cases h
 | .two ..,.iB ..,h=>by cases h
def Zh (d:Nat) (o:aX):Bool:=(match o.op with
 | .k (.ou (.t a))=> !(Nat.beq a d)
 | .k (.ou (.c _))=>true
 | .k (.ext (.t a) _)=> !(Nat.beq a d)
 |_=>false) && (match o.dst with
 |some e=> !(Nat.beq e d)
 |none=>true)
def par (d:Nat) (z:List AV):bC->bC->Bool
 | .one o lo nd r,t=>(match o.op with
  | .k (.alloc w)=>AV.iz w z && (Mo o.dst (some d) && (o.gd.isNone && P4 r t))
  |_=>(match t with
   | .one o' _ _ t'=>Zh d o && (Qp o o' && par d z r t')
   |_=>false))
 |_,_=>false
def kv {a b:Nat} (h:(!(Nat.beq a b))=true):a≠b:=fun e=>by
 subst e;rw [Bg] at h;cases h
def xo {K:Option AV->Fr->St->Prop} (hK:∀ o,eS (K o)) {S0:St} {Ls:List Nat} {d:Nat} {z:List AV} (hI:aY S0 Ls S) (hI2:aY S0 Ls {S with n:=S.n+1,obj:=(S.n,z)::S.obj}):∀ {r t:bC} {F1 F2:Fr},par d z r t=true->iq (aT (some d) (.ptr S.n 0) F1) F2->bg P K S0 Ls t F2 {S with n:=S.n+1,obj:=(S.n,z)::S.obj}->bg P K S0 Ls r F1 S
 | .one o lo nd r,t,F1,F2,hp,hF,h=>by
  unfold par at hp;split at hp
  ·rename_i w hop;simp only [Aa,BD] at hp;obtain ⟨p1,p2,p3,p4⟩:=hp;have e1:=AV.fE p1;have e2:=EH p2;have e3:=K3 p4;subst e1 e3;simp only [bg,bA,p3];refine ⟨fun _=>⟨by unfold iy;rw [hop];trivial,hI⟩,?_⟩;simp only [bl,hop];refine ⟨trivial,fun _=>hI2,?_⟩;rw [e2];exact j5 hK _ _ _ _ hF.symm h
  ·split at hp
   ·rename_i o' lo' nd' t';simp only [Aa] at hp;obtain ⟨p1,p2,p3⟩:=hp;obtain ⟨e1,e2⟩:=L9 p2;subst e1;simp only [bg,bA,e2] at h ⊢
    have hg:∀ u,u≠d->F1.get u=F2.get u:=fun u hu=>by
     rw [<-hF.get u];simp only [aT,Fr.kS];rw [if_neg hu]
    simp only [Zh,Aa] at p1
    have hdst:∀ v,iq (aT (some d) (.ptr S.n 0) (aT o.dst v F1)) (aT o.dst v F2):=fun v=>by
     intro u
     have h1:=iq.swap F1 (d:=some d) (e:=o.dst) (.ptr S.n 0) v (fun x hx hx2=>by
      injection hx with hx
      subst hx;have:=p1.2;rw [hx2] at this
      exact kv this rfl) u
     rw [h1];exact hF.put o.dst v u
    obtain ⟨_,hst⟩:=h;refine ⟨fun _=>⟨?_,hI⟩,?_⟩
    ·unfold iy;have:=p1.1
     split at this<;>first
      |(rename_i hop;rw [hop];trivial)
      |cases this
    ·have hop:=p1.1;split at hop
     ·rename_i a hop2;simp only [bl,hop2,MK.ev,MK.ob,aj.ev] at hst ⊢;rw [hg a (kv hop)];exact ⟨trivial,fun _=>hI,xo hK hI hI2 p3 (hdst _) hst.2.2⟩
     ·rename_i v hop2;simp only [bl,hop2,MK.ev,MK.ob,aj.ev] at hst ⊢;exact ⟨trivial,fun _=>hI,xo hK hI hI2 p3 (hdst _) hst.2.2⟩
     ·rename_i a i hop2;simp only [bl,hop2,MK.ev,MK.ob,aj.ev] at hst ⊢;rw [hg a (kv hop)]
      cases he:kh i (F2.get a) with
      |none=>rw [he] at hst;exact hst.2.elim
      |some v=>
       rw [he] at hst;simp only [Option.map_some] at hst ⊢;exact ⟨trivial,fun _=>hI,xo hK hI hI2 p3 (hdst _) hst.2.2⟩
     ·cases hop
   ·cases hp
 | .done,_,_,_,hp,_,_=>by cases hp
 | .two ..,_,_,_,hp,_,_=>by cases hp
 | .iB ..,_,_,_,hp,_,_=>by cases hp
def uE (Tb:kI) (cur:aa) (js:List Nat):bC->Bool->List AS->Option (List AS)
 | .done,_,L=>some L
 | .one o lo nd r,st,L=>if (!lo||(!st && L.all fun A=>Je A o||Ip A js o)) && (!nd|| !(st||Dk o.op)) then (match EG (fun A=>mW Tb cur A o) L with
  |some L'=>uE Tb cur js r (st||Dk o.op) (IF cur o L')
  |none=>none) else none
 | .two ⟨_,some d1,none,.call c as⟩ _ r1 ⟨_,some d,none,.k (.alloc z)⟩ _ (.one o lo nd t),st,L=>
  if !st && (xN (rS z) && (!(Nat.beq d1 d) && (PY o.op (.call c as) && (Mo o.dst (some d1) && (o.gd.isNone && (!lo && ((DB (c::as) (c::as) && (c::as).all (fun x=>match x with
   | .t a=> !(Nat.beq a d)
   | .c _=>true
   | .f _=>true
   |_=>false)) && par d z r1 t))))))) then (match EG (fun A=>mW Tb cur A o) (L.map fun A=>(A.obj (rS z)).2.put (some d) (A.obj (rS z)).1) with
   |some L'=>uE Tb cur js t false L'
   |none=>none) else none
 | .two ..,_,_=>none
 | .iB ..,_,_=>none
def Ix (hT:vI P gl Tb cv) (hc:cur.is E.ρ cv) (h:Gm gl E A F S) {o:aX} {c:aj} {as:List aj} (ho:o.op= .call c as) {L:List AS} (hL:oF Tb cur A o=some L):
  ∃ B∈L,∃ E' f first caps r,E.le E'/\Gm gl E' B (aT o.dst r F) S/\c.ev F= .fn (.func f) first caps/\Pure P gl f (first++as.map (aj.ev F)++caps) (.ok r):=by
 unfold oF at hL;rw [ho] at hL;simp only at hL;split at hL
 ·rename_i f first caps xs hcf has;split at hL
  ·rename_i L' hL';cases hL;have g1:=bf h hcf;have g2:=kV h has;simp only [SV.rel] at g1;obtain ⟨vf,vc,g3,g4,g5⟩:=g1;obtain ⟨r,hr,p,hp,E',h3,h4,h5⟩:=wq hc hT h (iU g3 (iU g2 g4)) hL';refine ⟨_,mF hp,E',f,vf,vc,r,h3,h4.put h5,g5,?_⟩;rw [AL];exact hr
  ·cases hL
 ·cases hL
def Om (hgn:ae gl) (hT:vI P gl Tb cv) {S0:St} {Ls js:List Nat} {Eb:En} (hLs:∀ l,(l∈Ls↔∃ j∈js,Eb.θ[j]? =some l)/\(l∈Ls->l<S0.n)) (hjs:∀ j∈js,∃ l,Eb.θ[j]? =some l) (h0:S0.gl=gl):∀ (N:Nat) {pl:bC} {st:Bool} {L0:List AS} {E:En} {A:AS} {F:Fr} {S:St},pl.depth<N->A∈L0->cur.is E.ρ cv->Gm gl E A F S->Eb.le E->re st S0 S->∀ {L:List AS},uE Tb cur js pl st L0=some L->
  ∃ B∈L,∃ E' F' S',E.le E'/\Gm gl E' B F' S'/\∀ K:Option AV->Fr->St->Prop,(∀ o,eS (K o))->K none F' S'->bg P K S0 Ls pl F S:=by
 have inv:∀ {b:Bool} {T:St},b=false->T.gl=gl->re b S0 T->aY S0 Ls T:=fun hb hg hst=>⟨hg.trans h0.symm,fun l hl=>hst.2 hb l ((hLs l).2 hl)⟩;intro N
 induction N with
 |zero=>exact fun hN=>absurd hN (Ck _)
 |succ N ihN=>
 intro pl
 cases pl with
 |done=>
  intro st L0 E A F S _ hA _ h _ _ L hL;cases hL;exact ⟨A,hA,E,F,S,.refl E,h,fun K _ hk=>hk⟩
 |one o lo nd r=>
  intro st L0 E A F S hN hA hc h hEb hS L hL;have ih:= @ihN r;unfold uE at hL;split at hL
  ·rename_i hcnd;simp only [Aa,AI,Bb] at hcnd;obtain ⟨hlo,hnd⟩:=hcnd;split at hL
   ·rename_i L' hL';obtain ⟨L1,h1,h2⟩:=qx hL' hA;obtain ⟨B,b1,E1,F1,S1,b2,b3,b4,b5⟩:=wk hgn hT hc h h1;have hS1:=hS.trans b5;obtain ⟨B',d1,d2⟩:=GN (cur:=cur) (o:=o) b3 (h2 B b1);obtain ⟨C,c1,E2,F2,S2,c2,c3,c4⟩:=ih (by simp only [bC.depth] at hN;omega) d1 (hc.le b2) d2 (hEb.trans b2) hS1 hL
    have hndI:nd=true->aY S0 Ls S1:=fun e=>by
     rcases hnd with hnd|hnd
     ·rw [e] at hnd;cases hnd
     ·exact inv hnd b3.gl hS1
    refine ⟨C,c1,E2,F2,S2,b2.trans c2,c3,fun K hR hk=>?_⟩;have hnx:=c4 K hR hk;simp only [bg];rcases b4 with ⟨F0,kw,k0,k1,k2⟩|k
    ·refine k2 _ _ ⟨fun e=>?_,k1 _ _ ⟨hndI,hnx⟩⟩;rcases hlo with hlo|⟨hst,hsh⟩
     ·rw [e] at hlo;cases hlo
     ·have h9:=AO.1 hsh A hA;simp only [AI] at h9;rcases h9 with h9|h9
      ·exact (OH h h9 kw).elim
      ·exact ⟨NT h k0 hEb (fun l hl=>(hLs l).1.2 hl) hjs h9,inv hst h.gl hS⟩
    ·exact k _ _ ⟨hndI,hnx⟩
   ·cases hL
  ·cases hL
 |iB=>
  intro st L0 E A F S hN hA hc h hEb hS L hL;cases hL
 |two o1 n1 r1 o2 n2 r2=>
  intro st L0 E A F S hN hA hc h hEb hS L hL;unfold uE at hL;split at hL
  ·cases ‹bC.two _ _ _ _ _ _=bC.done›
  ·cases ‹bC.two _ _ _ _ _ _=bC.one _ _ _ _›
  ·rename_i ix1 d1 c as n1' r1' ix2 d z n2' o lo nd t e;injection e with e1 e2 e3 e4 e5 e6
   subst e1 e2 e3 e4 e5 e6;split at hL
   ·rename_i hcnd;simp only [Aa,Bb,BD] at hcnd;obtain ⟨q1,q2,q3,q4,q5,q6,q7,⟨_,q8⟩,q9⟩:=hcnd;have hop:=KM q4;have hdst:=EH q5;have hne:d1≠d:=kv (by rw [q3];rfl);split at hL
    ·rename_i L' hL';have gA:=(h.obj (pt E z) q2).put (d:=some d) (h.NR (rS z));have hEa:=E.xL S.n;obtain ⟨L1,h1,h2⟩:=qx hL' (Ai.2 ⟨A,hA,rfl⟩);have h1:oF Tb cur ((A.obj (rS z)).2.put (some d) (A.obj (rS z)).1) o=some L1:=by simpa only [mW,q6] using h1
     obtain ⟨B,b1,E1,f,first,caps,r,b2,b3,b4,b5⟩:=Ix hT (hc.le hEa) gA hop h1
     have hSa:re false S0 {S with n:=S.n+1,obj:=(S.n,z)::S.obj}:=by
      refine ⟨AH hS.1 (Nat.le_succ _),fun _ l hl=>?_⟩;rw [s4 (Cd hl hS.1)];exact hS.2 q1 l hl
     obtain ⟨C,c1,E2,F2,S2,c2,c3,c4⟩:= @ihN t false L' E1 B _ _ (by
      simp only [bC.depth] at hN;have:t.depth+1<=Nat.max r1.depth (t.depth+1):=Nat.le_max_right _ _
      omega) (h2 B b1) ((hc.le hEa).le b2) b3 ((hEb.trans hEa).trans b2) hSa L hL
     refine ⟨C,c1,E2,F2,S2,(hEa.trans b2).trans c2,c3,fun K hR hk=>?_⟩;have ht:=c4 K hR hk;rw [hdst] at ht;have hIa:aY S0 Ls {S with n:=S.n+1,obj:=(S.n,z)::S.obj}:=inv rfl gA.gl hSa;have hI:aY S0 Ls S:=inv q1 h.gl hS
     have hev:∀ x∈c::as,x.ev (aT (some d) (.ptr S.n 0) F)=x.ev F:=by
      intro x hx;have h3:=AO.1 q8 x hx
      cases x with
      |t a=>
       simp only [aj.ev,aT,Fr.kS];rw [if_neg (kv h3)]
      |c v=>rfl
      |f n=>rfl
      |g n=>cases h3
      |uX a b=>cases h3
     have hc1:c.ev F= .fn (.func f) first caps:=by rw [<-hev c (by simp)];exact b4
     have has:as.map (aj.ev (aT (some d) (.ptr S.n 0) F))=as.map (aj.ev F):=Bh fun x hx=>hev x (by simp [hx]);rw [has] at b5;simp only [bg];refine ⟨?_,?_⟩
     ·
      simp only [bA,bl,hc1];refine (b5.at h.gl hgn).mono ?_;rintro o' S' ⟨rfl,rfl⟩;refine ⟨fun _=>hI,?_⟩;refine xo hR hI hIa q9 (F2:=aT (some d1) r (aT (some d) (.ptr S'.n 0) F)) ?_ ht;exact iq.swap F (d:=some d) (e:=some d1) _ _ (fun x hx e=>by injection hx with hx;injection e with e;exact hne (e.trans hx.symm))
     ·
      simp only [bA,bl,MK.ob,MK.ev];refine ⟨trivial,fun _=>hIa,?_⟩;simp only [bg,bA,q6];refine ⟨fun e=>(by rw [q7] at e;cases e),?_⟩;simp only [bl,hop,b4,has,hdst];refine (b5.at gA.gl hgn).mono ?_;rintro o' S' ⟨rfl,rfl⟩;exact ⟨fun _=>hIa,ht⟩
    ·cases hL
   ·cases hL
  ·cases hL
  ·cases hL
end
end Go.Proofs.YtoopnalhhfmgaaaGreatDoor
namespace Go.Proofs.YtoopnalhhfmgaaaGreatDoor
open Go Go.V
section
variable {P:Program} {gl:List (Nat×List AV)} {Tb:kI} {cur:aa} {cv:Int} {E E':En} {A:AS} {F:Fr} {S:St}
def xA (fr:List (Nat×SV)):List Nat->List (Nat×SV)
 |[]=>[]
 |t::ts=>match lk t fr with
  |some x=>(t,x)::xA fr ts
  |none=>xA fr ts
def vF {fr:List (Nat×SV)} {t:Nat} {x:SV}:∀ {kp:List Nat},lk t (xA fr kp)=some x->t∈kp/\lk t fr=some x
 |[],h=>by cases h
 |u::us,h=>by
  unfold xA at h;split at h
  ·rename_i y hy;simp only [lk] at h;split at h
   ·rename_i hu;cases h;rw [aq.1 hu];exact ⟨by simp,hy⟩
   ·obtain ⟨h1,h2⟩:=vF h;exact ⟨by simp [h1],h2⟩
  ·obtain ⟨h1,h2⟩:=vF h;exact ⟨by simp [h1],h2⟩
def D0 {t:Nat} {v:AV} (h:F.lookup t=some v):∀ {kp:List Nat},t∈kp->(cu kp F).lookup t=some v
 |[],hm=>by cases hm
 |u::us,hm=>by
  simp only [cu]
  by_cases htu:t=u
  ·subst htu;rw [h];simp only [List.lookup_cons,beq_self_eq_true]
  ·have hm:t∈us:=by
    rcases Ab.1 hm with e|e
    ·exact absurd e htu
    ·exact e
   have ih:=D0 h hm;have hb:(t==u)=false:=by simpa using htu
   split
   ·simp only [List.lookup_cons,hb];exact ih
   ·exact ih
def AS.cz (A:AS) (kp:List Nat):AS:={A with fr:=xA A.fr kp}
def Gm.cz (h:Gm gl E A F S) (kp:List Nat):Gm gl E (A.cz kp) (cu kp F) S:=
 ⟨h.nv,h.nl,h.no,h.nt,h.ls,h.el,fun t x e=>by
  obtain ⟨h1,h2⟩:=vF e;obtain ⟨v,h3,h4⟩:=h.fr t x h2
  exact ⟨v,D0 h3 h1,h4⟩,h.ob,h.nd,h.lt,h.tk,h.fs,h.gl⟩
structure Tq where
 dn:Nat
 pl:List LI
 dt:Nat
 ob:List (List SV)
 fr:List (Nat×SV)
 nf:List aa
 pe:List (Nat×Nat×aa)
 ze:List (Nat×aa)
def Tq.n (q:Tq):Nat:=q.dn+q.ze.length
def HN:Nat->Nat->List Nat
 |_,0=>[]
 |a,n+1=>a::HN (a+1) n
def ua {j:Nat}:∀ {n a:Nat},j∈HN a n->a<=j/\j<a+n
 |0,a,h=>by cases h
 |n+1,a,h=>by
  rcases Ab.1 h with rfl|h
  ·omega
  ·have:=ua h;omega
def Zt:List (Nat×Nat×aa)->List jD
 |[]=>[]
 |(X,e,b)::r=> .p X e b::Zt r
def zeL (a:Nat):List (Nat×aa)->List jD
 |[]=>[]
 |(X,i)::r=> .z X i (.var a)::zeL (a+1) r
def Me (ls:List LI) (a:Nat):List (Nat×aa)->List aa
 |[]=>[]
 |(X,_)::r=> .var a::(match nth ls X with
  |some li=>[li.z.sub (.var a)]
  |none=>[])++Me ls (a+1) r
def AS.tm (A:AS) (q:Tq):AS:=⟨A.nv+q.n,A.ls++q.pl,q.ob,A.nt+q.dt,HN A.nt q.dt,zeL (A.nv+q.dn) q.ze++(Zt q.pe++A.el),q.fr,Me A.ls (A.nv+q.dn) q.ze++(q.nf++A.fs)⟩
def AS.cm (A:AS):Cm:=⟨A.nv,A.ls.length,A.ob.length,A.nt⟩
def P0 (c:Cm) (pl:List LI) (fr:List (Nat×SV)):Mt->List (Nat×SV)->Option Mt
 |M,[]=>some M
 |M,(t,p)::r=>match lk t fr with
  |some x=>(match mt c pl M p x with
   |some M2=>P0 c pl fr M2 r
   |none=>none)
  |none=>none
def PC (c:Cm) (pl:List LI):Mt->List (List SV)->List (List SV)->Option Mt
 |M,[],_=>some M
 |M,p::ps,x::xs=>(match tg c pl M p x with
  |some M2=>PC c pl M2 ps xs
  |none=>none)
 |_,_::_,[]=>none
def qK (X e:Nat):List jD->List aa
 |[]=>[]
 | .p Y e' b::r=>if Nat.beq X Y && Nat.beq e e' then b::qK X e r else qK X e r
 | .e ..::r=>qK X e r
 | .z ..::r=>qK X e r
def Qj (A0:AS) (dn:Nat) (M:Mt):List (Nat×Nat×aa)->Bool
 |[]=>true
 |(X,e,b)::r=>(da (A0.nv+dn) b.ts && (Nat.blt X A0.ls.length && (let n:=sb A0.nv M.σ b
  cO M.A.fs (n.bG (-1))||mg M.A.fs X e n M.A.el||kQ (fun m=>cO M.A.fs ((m.sub n).aG 1) && (match seen X m M.A.el with
   |some (x,_)=>isAll M.A (kT x).length (Γ e) [x]
   |none=>false)) (.aZ 0::qK X e M.A.el)))) && Qj A0 dn M r
def xE:List Nat->Bool
 |[]=>true
 |u::us=>(Nat.beq u 1|| !(gx u us)) && xE us
def PN (A0:AS) (dn:Nat):Mt->List (Nat×aa)->Option Mt
 |M,[]=>some M
 |M,(X,i)::r=>if Nat.blt X A0.ls.length && da (A0.nv+dn) i.ts then (match IS M.A X (sb A0.nv M.σ i) with
  |some w=>PN A0 dn {M with σ:=M.σ++[w]} r
  |none=>none) else none
def lO (A0:AS) (q:Tq) (A:AS):Option Mt:=
 match P0 A0.cm q.pl A.fr ⟨A,[],[],[]⟩ q.fr with
 |some M1=>(match PC A0.cm q.pl M1 q.ob A.ob with
  |some M=>if Nat.beq M.σ.length q.dn && (Nat.beq M.τ.length q.pl.length && (Nat.beq M.υ.length q.dt && (Nat.beq q.ob.length A0.ob.length && (xE M.υ && (q.ob.all xN && Qj A0 q.dn M q.pe))))) then (match PN A0 q.dn M q.ze with
   |some M'=>if mf (fun e=>da (A0.nv+q.n) e.ts && cO M'.A.fs (sb A0.nv M'.σ e)) q.nf then some M' else none
   |none=>none) else none
  |none=>none)
 |none=>none
structure Bs (E:En) (A:AS):Prop where
 nv:E.ρ.length=A.nv
 nl:E.χ.length=A.ls.length
 no:E.θ.length=A.ob.length
 nt:E.κ.length=A.nt
 ls:∀ (X:Nat) li,A.ls[X]? =some li->∃ xs,E.χ[X]? =some xs/\gv E li xs
 el:∀ q∈A.el,lZ E q
 nd:E.θ.Nodup
 fs:aH E.ρ A.fs
def Gm.bs (h:Gm gl E A F S):Bs E A:=⟨h.nv,h.nl,h.no,h.nt,h.ls,h.el,h.nd,h.fs⟩
variable {c:Cm} {E0 Ep:En} {M:Mt} {pl:List LI}
def MH {fr:List (Nat×SV)} (hfr:∀ t x,lk t fr=some x->∃ v,F.lookup t=some v/\x.rel E v):∀ {ps:List (Nat×SV)} {E1 Ep:En} {M M':Mt},E.le E1->Gm gl E1 M.A F S->Bd c E0 E1 M Ep->Bl pl c M Ep->P0 c pl fr M ps=some M'->
  MR gl c pl E0 E1 M' Ep F S fun Ep'=>∀ t p,lk t ps=some p->∃ v,F.lookup t=some v/\p.rel Ep' v
 |[],E1,Ep,M,M',hE,h,hb,hl,hm=>by
  cases hm;exact ⟨E1,Ep,.refl E1,.refl Ep,h,hb,hl,fun t p e=>by cases e⟩
 |(t,p)::r,E1,Ep,M,M',hE,h,hb,hl,hm=>by
  unfold P0 at hm;split at hm
  ·rename_i x hx;split at hm
   ·rename_i M2 hM2;obtain ⟨v,v1,v2⟩:=hfr t x hx;obtain ⟨E2,Ep2,g1,g2,g3,g4,g5,g6⟩:=(IQ p h hb hl (v2.le hE) hM2).h;obtain ⟨E3,Ep3,f1,f2,f3,f4,f5,f6⟩:=(MH hfr (hE.trans g1) g3 g4 g5 hm).h;refine ⟨E3,Ep3,g1.trans f1,g2.trans f2,f3,f4,f5,fun u y e=>?_⟩;simp only [lk] at e;split at e
    ·rename_i hu;cases e;rw [aq.1 hu];exact ⟨v,v1,g6.le f2⟩
    ·exact f6 u y e
   ·cases hm
  ·cases hm
def LN:∀ {ps xss:List (List SV)} {vss:List (List AV)} {E1 Ep:En} {M M':Mt},E.le E1->(∀ (j:Nat) cs,xss[j]? =some cs->∃ vs,vss[j]? =some vs/\ba E cs vs)->Gm gl E1 M.A F S->Bd c E0 E1 M Ep->Bl pl c M Ep->PC c pl M ps xss=some M'->
  MR gl c pl E0 E1 M' Ep F S fun Ep'=>∀ (j:Nat) cs,ps[j]? =some cs->∃ vs,vss[j]? =some vs/\ba Ep' cs vs
 |[],xss,vss,E1,Ep,M,M',hE,_,h,hb,hl,hm=>by
  cases hm;exact ⟨E1,Ep,.refl E1,.refl Ep,h,hb,hl,fun j cs e=>by cases e⟩
 |p::ps,[],vss,E1,Ep,M,M',hE,_,h,hb,hl,hm=>by cases hm
 |p::ps,x::xss,vss,E1,Ep,M,M',hE,hx,h,hb,hl,hm=>by
  unfold PC at hm;split at hm
  ·rename_i M2 hM2;obtain ⟨vs,v1,v2⟩:=hx 0 x rfl;obtain ⟨E2,Ep2,g1,g2,g3,g4,g5,g6⟩:=(lT p h hb hl (ba.le hE _ v2) hM2).h
   obtain ⟨E3,Ep3,f1,f2,f3,f4,f5,f6⟩:=(LN (ps:=ps) (xss:=xss) (vss:=vss.drop 1) (hE.trans g1) (fun j cs e=>by
    obtain ⟨ws,w1,w2⟩:=hx (j+1) cs (by simpa using e)
    exact ⟨ws,by rw [AR,Nat.add_comm];exact w1,w2⟩) g3 g4 g5 hm).h
   refine ⟨E3,Ep3,g1.trans f1,g2.trans f2,f3,f4,f5,fun j cs e=>?_⟩
   cases j with
   |zero=>
    simp at e;subst e;exact ⟨vs,v1,ba.le f2 _ g6⟩
   |succ j=>
    obtain ⟨ws,w1,w2⟩:=f6 j cs (by simpa using e);exact ⟨ws,by rw [AR,Nat.add_comm] at w1;exact w1,w2⟩
  ·cases hm
def vC:∀ {us:List Nat} {i j:Nat} {u:Nat},xE us=true->us[i]? =some u->us[j]? =some u->i≠j->u=1
 |[],_,_,_,_,h,_,_=>by cases h
 |w::us,0,0,u,_,_,_,h=>(h rfl).elim
 |w::us,0,j+1,u,hd,h1,h2,_=>by
  simp only [xE,Aa,AI] at hd;simp at h1 h2;subst h1;rcases hd.1 with h|h
  ·exact aq.1 h
  ·have:gx w us=true:=by
    have hm:=Aj h2;clear h h2 hd
    induction us with
    |nil=>cases hm
    |cons a us ih=>
     unfold gx;split
     ·rfl
     ·rename_i hne;rcases Ab.1 hm with rfl|hm
      ·rw [Bg] at hne;cases hne
      ·exact ih hm
   rw [this] at h;cases h
 |w::us,i+1,0,u,hd,h1,h2,hne=>vC (us:=w::us) (i:=0) (j:=i+1) hd h2 h1 (fun e=>by cases e)
 |w::us,i+1,j+1,u,hd,h1,h2,hne=>by
  simp only [xE,Aa] at hd;exact vC hd.2 (by simpa using h1) (by simpa using h2) fun e=>hne (by rw [e])
def nQ {X e:Nat} {b:aa}:∀ {l:List jD},b∈qK X e l-> .p X e b∈l
 |[],h=>by cases h
 | .p Y e' b'::r,h=>by
  unfold qK at h;split at h
  ·rename_i hc;simp only [Aa] at hc;rcases Ab.1 h with rfl|h
   ·rw [aq.1 hc.1,aq.1 hc.2];simp
   ·exact Ao _ (nQ h)
  ·exact Ao _ (nQ h)
 | .e ..::r,h=>Ao _ (nQ (l:=r) (by simpa [qK] using h))
 | .z ..::r,h=>Ao _ (nQ (l:=r) (by simpa [qK] using h))
def L4 {A0:AS} {dn:Nat} {E2:En} (hB:Bs E0 A0) (h:Gm gl E2 M.A F S) (hb:Bd A0.cm E0 E2 M Ep) (hE:E0.le E2) (hn:Ep.ρ.length=A0.nv+dn):∀ {l:List (Nat×Nat×aa)},Qj A0 dn M l=true->∀ q∈Zt l,lZ Ep q
 |[],_,q,hq=>by cases hq
 |(X,e,b)::r,hp,q,hq=>by
  simp only [Qj,Aa] at hp;obtain ⟨⟨c1,c2,c3⟩,c4⟩:=hp;rcases Ab.1 hq with rfl|hq
  ·have hbi:b.is Ep.ρ (b.val Ep.ρ):=⟨by rw [hn];exact c1,rfl⟩;have hsb:=eQ hb hbi;have hX:X<E0.χ.length:=by rw [hB.nl];exact dx.1 c2
   obtain ⟨xs,hxs⟩:=aK hX;obtain ⟨χr,hχr,_⟩:=hb.χ;have h2:E2.χ[X]? =some xs:=hE.χg hxs;refine ⟨xs,_,by rw [hχr];exact gb hxs,hbi,?_⟩;simp only [AI] at c3;rcases c3 with (c3|c3)|c3
   ·have:=bB h.fs (hsb.bG (-1)) c3;intro j v hj;omega
   ·exact jU h.fs hsb h2 h.el c3
   ·obtain ⟨m,m1,m2⟩:=iu c3;simp only [Aa] at m2;obtain ⟨m2,m3⟩:=m2;split at m3
    ·rename_i x s0 hx;obtain ⟨ys,i,w,k1,k2,k3,k4,k5,_⟩:=h.el _ (j0 hx);rw [h2] at k1;cases k1;have h5:=bB h.fs ((k2.sub hsb).aG 1) m2;have h6:=jQ h rfl [x] m3 (aO.2 ⟨w,[],k5,aV.2 rfl,rfl⟩);have hw:Tp (.e e) w:=h6.e w (by simp);intro j v hj hv
     by_cases hji:j=i.toNat
     ·subst hji;rw [k4] at hv;cases hv;exact hw
     ·rcases Ab.1 m1 with rfl|m1
      ·have:=k2.uniq (aa.bX _ 0);omega
      ·obtain ⟨zs,n,z1,z2,z3⟩:=h.el _ (nQ m1);rw [h2] at z1;cases z1;have:=z2.uniq k2;exact z3 j v (by omega) hv
    ·cases m3
  ·exact L4 hB h hb hE hn c4 q hq
def Kn {A0:AS} {dn:Nat} {E2:En} (hB:Bs E0 A0) (hE:E0.le E2):∀ {l:List (Nat×aa)} {M M':Mt} {Ep:En},Gm gl E2 M.A F S->Bd A0.cm E0 E2 M Ep->E0.le Ep->A0.nv+dn<=Ep.ρ.length->PN A0 dn M l=some M'->
  M'.A=M.A/\M'.τ=M.τ/\M'.υ=M.υ/\∃ Ep',Ep.le Ep'/\Bd A0.cm E0 E2 M' Ep'/\Ep'.ρ.length=Ep.ρ.length+l.length/\(∀ q∈zeL Ep.ρ.length l,lZ Ep' q)/\aH Ep'.ρ (Me A0.ls Ep.ρ.length l)
 |[],M,M',Ep,h,hb,hEp,hn,hm=>by
  cases hm;exact ⟨rfl,rfl,rfl,Ep,.refl Ep,hb,rfl,fun q hq=>(by cases hq),aH.nil _⟩
 |(X,i)::r,M,M',Ep,h,hb,hEp,hn,hm=>by
  unfold PN at hm;split at hm
  ·rename_i hc;simp only [Aa] at hc;split at hm
   ·rename_i w hw;have hX:=dx.1 hc.1;obtain ⟨li,hli⟩:=aK hX;obtain ⟨xs,x1,x2⟩:=hB.ls X li hli;have hi:i.is Ep.ρ (i.val Ep.ρ):=⟨we hn hc.2,rfl⟩;have hw:=Ht h (eQ hb hi) (hE.χg x1) hw;obtain ⟨b1,b2⟩:=hb.num hw;have hlen:(Ep.num (bh (xs.take (i.val Ep.ρ).toNat):Nat)).ρ.length=Ep.ρ.length+1:=by simp [En.num]
    obtain ⟨m1,m2,m3,Ep',m5,m6,m7,m8,m9⟩:=Kn hB hE (M:={M with σ:=M.σ++[w]}) h b1 (hEp.trans (Ep.cb _)) (by rw [hlen];omega) hm;rw [hlen] at m7 m8 m9;have e1:A0.cm.n+M.σ.length=Ep.ρ.length:=hb.len.symm;rw [e1] at b2;have b2:=b2.le m5;obtain ⟨z,z1,z2⟩:=x2.z;have ht:=rX (i.val Ep.ρ).toNat xs;refine ⟨m1,m2,m3,Ep',(Ep.cb _).trans m5,m6,by rw [m7,List.length_cons];omega,fun q hq=>?_,?_⟩
    ·rcases Ab.1 hq with rfl|hq
     ·exact ⟨xs,_,((Ep.cb _).trans m5).χg (hEp.χg x1),hi.le ((Ep.cb _).trans m5),b2⟩
     ·exact m8 q hq
    ·unfold Me;rw [cP,hli];refine aH.cons ?_ b2 (by omega);refine aH.app ?_ m9;exact (aH.nil _).cons (((z1.le hEp).le ((Ep.cb _).trans m5)).sub b2) (by omega)
   ·cases hm
  ·cases hm
def Fy {A0 A:AS} {q:Tq} (hB:Bs E0 A0) (hE:E0.le E) (h:Gm gl E A F S) {M:Mt} (hm:lO A0 q A=some M):∃ E' Ep,E.le E'/\E0.le Ep/\Gm gl Ep (A0.tm q) F S/\Gm gl E' M.A F S/\Bd A0.cm E0 E' M Ep:=by
 unfold lO at hm;split at hm
 ·rename_i M1 hM1;split at hm
  ·rename_i M2 hM2;split at hm
   ·rename_i hc;split at hm;rotate_left
    ·cases hm
    rename_i M3 hM3;split at hm;rotate_left
    ·cases hm
    rename_i c6;cases hm;simp only [Aa] at hc;obtain ⟨c1,c2,c3,c4,c5,c7,c8⟩:=hc;have b0:Bd A0.cm E0 E ⟨A,[],[],[]⟩ E0:=⟨hE,hB.nv,hB.nl,hB.no,hB.nt,⟨[],by simp,rfl,fun i e h=>by cases h⟩,⟨[],by simp,rfl,fun i e h=>by cases h⟩,rfl,⟨[],by simp,rfl,fun i e h=>by cases h⟩⟩;obtain ⟨E1,Ep1,g1,g2,g3,g4,g5,g6⟩:=(MH (pl:=q.pl) (M:=⟨A,[],[],[]⟩) h.fr (.refl E) h b0 (fun i li hi=>by simp at hi) hM1).h
    have hvss:∃ vss:List (List AV),∀ (j:Nat) cs,A.ob[j]? =some cs->∃ l vs,E.θ[j]? =some l/\S.get l=some vs/\vss[j]? =some vs/\ba E cs vs:=by
     refine ⟨E.θ.map fun l=>(S.get l).getD [],fun j cs e=>?_⟩;obtain ⟨l,vs,k1,k2,k3,k4⟩:=h.ob j cs e;exact ⟨l,vs,k1,k2,by simp [k1,k2],k4⟩
    obtain ⟨vss,hvss⟩:=hvss
    obtain ⟨E2,Ep2,f1,f2,f3,f4,f5,f6⟩:=(LN (vss:=vss) g1 (fun j cs e=>by
     obtain ⟨l,vs,_,_,k3,k4⟩:=hvss j cs e
     exact ⟨vs,k3,k4⟩) g3 g4 g5 hM2).h
    have hEE:E.le E2:=g1.trans f1;have hEp2:E0.le Ep2:=g2.trans f2;have n0:Ep2.ρ.length=A0.nv+q.dn:=by rw [f4.len,aq.1 c1];rfl
    have c8:=L4 hB f3 f4 (hE.trans hEE) n0 c8;obtain ⟨m1,m2,m3,Ep3,m5,m6,m7,m8,m9⟩:=Kn hB (hE.trans hEE) f3 f4 hEp2 (by rw [n0];exact Af _) hM3;rw [n0] at m7 m8 m9;have f5:=f5.le m5 m2;have f2:=f2.trans m5;have hEp:=hEp2.trans m5
    have f6:∀ (j:Nat) cs,q.ob[j]? =some cs->∃ vs,vss[j]? =some vs/\ba Ep3 cs vs:=fun j cs e=>by
     obtain ⟨vs,k1,k2⟩:=f6 j cs e;exact ⟨vs,k1,ba.le m5 _ k2⟩
    rw [<-m1] at f3;rw [<-m2] at c2;rw [<-m3] at c3 c5;have f4:=m6;have n1:Ep3.ρ.length=A0.nv+q.n:=by rw [m7];unfold Tq.n;omega
    have n2:Ep3.χ.length=A0.ls.length+q.pl.length:=by rw [f4.Jb,aq.1 c2];rfl
    have n3:Ep3.κ.length=A0.nt+q.dt:=by rw [f4.I2,aq.1 c3];rfl
    obtain ⟨θr,hθr⟩:=hE.θ;obtain ⟨κr,hκr⟩:=hE.κ;refine ⟨E2,Ep3,hEE,hEp,⟨n1,by rw [n2];simp [AS.tm],by rw [f4.θ,hB.no];exact (aq.1 c4).symm,n3,fun X li e=>?_,fun p hp=>(AA.1 hp).elim (m8 p) (fun hp=>(AA.1 hp).elim (fun hp=>(c8 p hp).le m5) (fun hp=>(hB.el p hp).le hEp)),?_,fun j cs e=>?_,by rw [f4.θ];exact hB.nd,fun l hl=>?_,?_,fun e he=>?_,h.gl⟩,f3,f4⟩
    ·have e:(A0.ls++q.pl)[X]? =some li:=e;rcases Al X A0.ls.length with hX|hX
     ·rw [AF hX] at e;obtain ⟨xs,k1,k2⟩:=hB.ls X li e;exact ⟨xs,hEp.χg k1,k2.le hEp⟩
     ·rw [AG hX] at e;obtain ⟨xs,k1,k2⟩:=f5 (X-A0.ls.length) li (by rw [aq.1 c2];exact gP e) e;refine ⟨xs,?_,k2⟩;have:A0.cm.m+(X-A0.ls.length)=X:=by show A0.ls.length+_=_;omega
      rw [this] at k1;exact k1
    ·intro t x e;obtain ⟨v,k1,k2⟩:=g6 t x e;exact ⟨v,k1,k2.le f2⟩
    ·have e:q.ob[j]? =some cs:=e;obtain ⟨vs,k1,k2⟩:=f6 j cs e;have hj:=gP e;rw [aq.1 c4] at hj;have hpl:xN cs=true:=AO.1 c7 cs (Aj e)
     have hjA:j<A.ob.length:=by
      have h1:=h.no;rw [hθr,Ak,hB.no] at h1;omega
     obtain ⟨l,ws,m1,m2,m3,m4⟩:=hvss j (A.ob[j]) (by simp [hjA]);rw [m3] at k1;cases k1;refine ⟨l,_,?_,m2,D5 k2 hpl,k2⟩;rw [f4.θ];rw [hθr,AF (by rw [hB.no];exact hj)] at m1;exact m1
    ·rw [f4.θ] at hl;exact h.lt l (by rw [hθr];exact AW _ hl)
    ·obtain ⟨r,r1,r2,r3⟩:=f4.κ
     have hnew:∀ j,j∈(A0.tm q).lv->∃ u tk,M.υ[j-A0.nt]? =some u/\Ep3.κ[j]? =some tk/\rT E2 u tk/\nj M.A u=true:=by
      intro j hj;have hj:=ua (show j∈HN A0.nt q.dt from hj);obtain ⟨u,hu⟩:=aK (show j-A0.nt<M.υ.length by rw [aq.1 c3];omega);obtain ⟨tk,t1,t2,t3⟩:=r3 _ _ hu;refine ⟨u,tk,hu,?_,t2,t3⟩;rw [r1,AG (by rw [hB.nt];omega),hB.nt];exact t1
     refine ⟨fun j hj=>?_,fun j n e=>?_,fun i hi j hj hij n e1 e2=>?_⟩
     ·obtain ⟨u,tk,_,k2,k3,k4⟩:=hnew j hj;exact ⟨tk,k2,pL f3 k3 k4⟩
     ·rcases Al j A0.nt with hlt|hge
      ·rw [r1,AF (by rw [hB.nt];exact hlt)] at e;refine h.tk.lt j n ?_;rw [hκr,AF (by rw [hB.nt];exact hlt)];exact e
      ·have hlt:=gP e;rw [n3] at hlt;rw [r1,AG (by rw [hB.nt];exact hge),hB.nt] at e;obtain ⟨u,hu⟩:=aK (show j-A0.nt<M.υ.length by rw [aq.1 c3];omega);obtain ⟨tk,t1,t2,t3⟩:=r3 _ _ hu;rw [e] at t1;cases t1
       match u,t2,t3 with
       |0,_,t3=>cases t3
       |1,t2,_=>exact absurd (show bD.tok n=bD.exact from t2) (by simp)
       |i+2,t2,_=>exact f3.tk.lt i n t2
     ·obtain ⟨u,tk,k1,k2,k3,k4⟩:=hnew i hi;obtain ⟨u',tk',k1',k2',k3',k4'⟩:=hnew j hj;rw [e1] at k2;rw [e2] at k2';cases k2;cases k2';have hi:=ua (show i∈HN A0.nt q.dt from hi);have hj:=ua (show j∈HN A0.nt q.dt from hj)
      match u,k3,k4,u',k3',k4' with
      |0,_,k4,_,_,_=>cases k4
      |1,k3,_,_,_,_=>exact absurd (show bD.tok n=bD.exact from k3) (by simp)
      |_+2,_,_,0,_,k4'=>cases k4'
      |_+2,_,_,1,k3',_=>exact absurd (show bD.tok n=bD.exact from k3') (by simp)
      |a+2,k3,k4,b+2,k3',k4'=>
       have hab:a≠b:=fun e=>by
        subst e;have:=vC c5 k1 k1' (by omega);omega
       exact f3.tk.ne a (jL k4) b (jL k4') hab n k3 k3'
    ·have he:e∈Me A0.ls (A0.nv+q.dn) q.ze++(q.nf++A0.fs):=he;rcases AA.1 he with he|he
     ·exact m9 e he
     rcases AA.1 he with he|he
     ·have h3:=j7 c6 e he;simp only [Aa] at h3;have h4:e.is Ep3.ρ (e.val Ep3.ρ):=⟨by rw [n1];exact h3.1,rfl⟩;exact ⟨_,h4,bB f3.fs (eQ f4 h4) h3.2⟩
     ·obtain ⟨x,x1,x2⟩:=hB.fs e he;exact ⟨x,x1.le hEp,x2⟩
   ·cases hm
  ·cases hm
 ·cases hm
end
end Go.Proofs.YtoopnalhhfmgaaaGreatDoor
namespace Go.Proofs.YtoopnalhhfmgaaaGreatDoor
open Go Go.V
inductive Kd where
 |nx
 |ex (i:Nat)
 |rt
abbrev fq:=List (Kd×AS)
def yK:Option fq->Option fq->Option fq
 |some a,some b=>some (a++b)
 |_,_=>none
def tq {a b:Option fq} {L:fq} (h:yK a b=some L):∃ x y,a=some x/\b=some y/\L=x++y:=by
 cases a<;>cases b<;>simp only [yK,reduceCtorEq,Ae] at h
 exact ⟨_,_,rfl,rfl,h.symm⟩
def KG (f:AS->AS):List AS->fq
 |[]=>[]
 |A::r=>(.nx,f A)::KG f r
def yZ {f:AS->AS} {A:AS}:∀ {l:List AS},A∈l->(.nx,f A)∈KG f l
 |[],h=>by cases h
 |B::r,h=>by
  rcases Ab.1 h with rfl|h
  ·simp [KG]
  ·exact Ao _ (yZ h)
def uY:fq->List AS
 |[]=>[]
 |(.nx,A)::r=>A::uY r
 |_::r=>uY r
def mU {A:AS}:∀ {l:fq},(.nx,A)∈l->A∈uY l
 |[],h=>by cases h
 |(.nx,B)::r,h=>by
  rcases Ab.1 h with h|h
  ·cases h;simp [uY]
  ·exact Ao _ (mU h)
 |(.ex i,B)::r,h=>by
  rcases Ab.1 h with h|h
  ·cases h
  ·show A∈uY r;exact mU h
 |(.rt,B)::r,h=>by
  rcases Ab.1 h with h|h
  ·cases h
  ·show A∈uY r;exact mU h
def pk:fq->fq
 |[]=>[]
 |(.nx,_)::r=>pk r
 |x::r=>x::pk r
def kW {k:Kd} {A:AS} (hk:k≠ .nx):∀ {l:fq},(k,A)∈l->(k,A)∈pk l
 |[],h=>by cases h
 |(.nx,B)::r,h=>by
  rcases Ab.1 h with h|h
  ·cases h;exact (hk rfl).elim
  ·show (k,A)∈pk r;exact kW hk h
 |(.ex i,B)::r,h=>by
  rcases Ab.1 h with h|h
  ·cases h;simp [pk]
  ·exact Ao _ (kW hk h)
 |(.rt,B)::r,h=>by
  rcases Ab.1 h with h|h
  ·cases h;simp [pk]
  ·exact Ao _ (kW hk h)
def YL (f:AS->Option fq):List AS->Option fq
 |[]=>some []
 |B::r=>yK (f B) (YL f r)
def GF {f:AS->Option fq} {B:AS}:∀ {l:List AS} {L:fq},YL f l=some L->B∈l->∃ L1,f B=some L1/\∀ C∈L1,C∈L
 |[],_,_,h=>by cases h
 |C::r,L,h,hm=>by
  obtain ⟨x,y,h1,h2,rfl⟩:=tq h;rcases Ab.1 hm with rfl|hm
  ·exact ⟨x,h1,fun C hC=>AW _ hC⟩
  ·obtain ⟨L1,h3,h4⟩:=GF h2 hm;exact ⟨L1,h3,fun C hC=>Bc _ (h4 C hC)⟩
def vq (i:Nat):fq->fq
 |[]=>[]
 |(.ex j,A)::r=>(if Nat.beq i j then .nx else .ex j,A)::vq i r
 |x::r=>x::vq i r
def qZ {i:Nat} {k:Kd} {A:AS}:∀ {l:fq},(k,A)∈l->((match k with
  | .ex j=>if Nat.beq i j then .nx else .ex j
  |k=>k),A)∈vq i l
 |[],h=>by cases h
 |(.nx,B)::r,h=>by
  rcases Ab.1 h with h|h
  ·cases h;simp [vq]
  ·exact Ao _ (qZ h)
 |(.ex j,B)::r,h=>by
  rcases Ab.1 h with h|h
  ·cases h;simp [vq]
  ·exact Ao _ (qZ h)
 |(.rt,B)::r,h=>by
  rcases Ab.1 h with h|h
  ·cases h;simp [vq]
  ·exact Ao _ (qZ h)
def YQ (f:Bool->AS->Option fq):List (Bool×AS)->Option fq
 |[]=>some []
 |(t,B)::r=>yK (f t B) (YQ f r)
def HB {f:Bool->AS->Option fq} {t:Bool} {B:AS}:∀ {l:List (Bool×AS)} {L:fq},YQ f l=some L->(t,B)∈l->∃ L1,f t B=some L1/\∀ C∈L1,C∈L
 |[],_,_,h=>by cases h
 |(u,C)::r,L,h,hm=>by
  obtain ⟨x,y,h1,h2,rfl⟩:=tq h;rcases Ab.1 hm with e|hm
  ·cases e;exact ⟨x,h1,fun C hC=>AW _ hC⟩
  ·obtain ⟨L1,h3,h4⟩:=HB h2 hm;exact ⟨L1,h3,fun C hC=>Bc _ (h4 C hC)⟩
def back (A0:AS) (q:Tq) (me:aa) (B:AS):Bool:=
 match lO A0 q B with
 |some M=>cO M.A.fs ((me.sub (sb A0.nv M.σ me)).aG (-1)) && cO M.A.fs (me.aG (-1))
 |none=>false
structure zO where
 lp:Nat->AS->Option (Tq×aa)
 jn:Nat->AS->List AS->Option Tq
def exec (Tb:kI) (cur:aa) (O:zO):MC->Nat->AS->Option fq
 | .skip,_,A=>some [(.nx,A)]
 | .iF l kp,_,A=>(match Dd Tb cur l [A] with
  |some L=>some (KG (fun B=>B.cz kp) L)
  |none=>none)
 | .any pl pr kp,_,A=>(match G4 A pr with
  |some js=>(match uE Tb cur js pl false [A] with
   |some L=>some (KG (fun B=>B.cz kp) L)
   |none=>none)
  |none=>none)
 | .seq a b,p,A=>(match exec Tb cur O a (2*p) A with
  |some os=>(match O.jn p A (uY os) with
   |none=>yK (some (pk os)) (YL (fun B=>exec Tb cur O b (2*p+1) B) (uY os))
   |some q=>if (uY os).all fun B=>(lO A q B).isSome then yK (some (pk os)) (exec Tb cur O b (2*p+1) (A.tm q)) else none)
  |none=>none)
 | .cond c a b,p,A=>(match cn A c with
  |some (.b x)=>YQ (fun t B=>if t then exec Tb cur O a (2*p) B else exec Tb cur O b (2*p+1) B) (fork A x)
  |_=>none)
 | .block i a,p,A=>(match exec Tb cur O a (2*p) A with
  |some os=>some (vq i os)
  |none=>none)
 | .exit i,_,A=>some [(.ex i,A)]
 | .ret,_,A=>some [(.rt,A)]
 | .named kp a,p,A=>exec Tb cur O a (2*p) (A.cz kp)
 | .loop a,p,A=>(match O.lp p A with
  |some (q,me)=>if (lO A q A).isSome && da (A.nv+q.n) me.ts then (match exec Tb cur O a (2*p) (A.tm q) with
   |some os=>if (uY os).all (back A q me) then some (pk os) else none
   |none=>none) else none
  |none=>none)
 |_,_,_=>none
section
variable {P:Program} {gl:List (Nat×List AV)} {Tb:kI} {cur:aa} {cv:Int} {n:Nat} {R:Fr->St->Prop}
def ik (P:Program) (n:Nat) (R:Fr->St->Prop) (k:List MI) (F:Fr) (S:St):Prop:=∃ F' S',R F' S'/\af P n k [] F S (Qx none [] F' S')
def O2 (P:Program) (n:Nat) (R:Fr->St->Prop) (k:List MI) (F:Fr) (S:St):Kd->Prop
 | .nx=>ik P n R k F S
 | .ex i=>match fC i k with
  |some k'=>ik P n R k' F S
  |none=>False
 | .rt=>R F S
def ik.to {k k':List MI} {F F':Fr} {S S':St} (h:ik P n R k' F' S') (hs:∀ Q:er,af P n k' [] F' S' Q->af P n k [] F S Q):ik P n R k F S:=by
 obtain ⟨F1,S1,h1,h2⟩:=h;exact ⟨F1,S1,h1,hs _ h2⟩
def ik.of {k:List MI} {F:Fr} {S:St} (h:R F S) (hs:∀ Q:er,Q none [] F S->af P n k [] F S Q):ik P n R k F S:=⟨F,S,h,hs _ ⟨rfl,rfl,rfl,fun _ _ e=>e⟩⟩
def iZ (hgn:ae gl) (hT:vI P gl Tb cv) {O:zO}:∀ (c:MC) {p:Nat} {A:AS} {E:En} {F:Fr} {S:St} {k:List MI} {os:fq},cur.is E.ρ cv->Gm gl E A F S->exec Tb cur O c p A=some os->
  (∀ kd B,(kd,B)∈os->∀ E' F' S',E.le E'->Gm gl E' B F' S'->O2 P n R k F' S' kd)->ik P n R (.code c::k) F S
 | .skip,p,A,E,F,S,k,os,hc,h,he,hk=>by
  cases he;exact ik.to (hk .nx A (by simp) E F S (.refl E) h) fun Q hq=> .skip hq
 | .iF l kp,p,A,E,F,S,k,os,hc,h,he,hk=>by
  simp only [exec] at he;split at he
  ·rename_i L hL;cases he;obtain ⟨B,b1,E',F',S',b2,b3,b4⟩:=DP hgn hT (by simp) hc h hL;exact ik.to (hk .nx _ (yZ b1) E' _ S' b2 (b3.cz kp)) fun Q hq=> .iF (b4 _ hq)
  ·cases he
 | .any pl pr kp,p,A,E,F,S,k,os,hc,h,he,hk=>by
  simp only [exec] at he;split at he
  ·rename_i js hjs;split at he
   ·rename_i L hL;cases he;obtain ⟨B,b1,E',F',S',b2,b3,b4⟩:=Om hgn hT (FN h hjs) (FM h hjs) h.gl (pl.depth+1) (Bp _) (by simp) hc h (.refl E) ⟨Af _,fun _ _ _=>rfl⟩ hL
    exact ik.to (hk .nx _ (yZ b1) E' _ S' b2 (b3.cz kp)) fun Q hq=> .Is (Q1:=fun _ _ _ _=>False) (fun _ _ _ _ _ _ h=>h) (fun _ _ _ h=>h.elim) (b4 _ (fun o Fa Fb T hab hk=>by
     cases o with
     |some v=>exact hk
     |none=>
      simp only at hk ⊢;rw [rp (F1:=Fb) (F2:=Fa) fun t _=>(hab t).symm]
      exact hk) hq)
   ·cases he
  ·cases he
 | .seq a b,p,A,E,F,S,k,os,hc,h,he,hk=>by
  simp only [exec] at he;split at he
  ·rename_i os1 h1;refine ik.to (iZ hgn hT a (k:= .code b::k) hc h h1 fun kd B hB E' F' S' hE hG=>?_) fun Q hq=> .seq hq;have hoff:∀ {k':Kd},k'≠ .nx->((k',B)∈pk os1->(k',B)∈os)->(k',B)∈os1->O2 P n R k F' S' k':=fun hk' hi hm=>hk _ B (hi (kW hk' hm)) E' F' S' hE hG;split at he
   ·obtain ⟨x,y,e1,e2,rfl⟩:=tq he;cases e1
    cases kd with
    |nx=>
     obtain ⟨L1,q1,q2⟩:=GF e2 (mU hB);exact iZ hgn hT b (hc.le hE) hG q1 fun kd' C hC E2 F2 S2 hE2 hG2=>hk kd' C (Bc _ (q2 _ hC)) E2 F2 S2 (hE.trans hE2) hG2
    |ex i=>exact hoff (k':= .ex i) (fun e=>by cases e) (fun h=>AW _ h) hB
    |rt=>exact hoff (k':= .rt) (fun e=>by cases e) (fun h=>AW _ h) hB
   ·rename_i q hq;split at he
    ·rename_i hall;obtain ⟨x,y,e1,e2,rfl⟩:=tq he;cases e1
     cases kd with
     |nx=>
      have h2:=AO.1 hall B (mU hB);obtain ⟨M,hM⟩:=Bn.1 h2;obtain ⟨E1,Ep,g1,g2,g3,g4,g5⟩:=Fy h.bs hE hG hM;exact iZ hgn hT b (hc.le g2) g3 e2 fun kd' C hC E2 F2 S2 hE2 hG2=>hk kd' C (Bc _ hC) E2 F2 S2 (g2.trans hE2) hG2
     |ex i=>exact hoff (k':= .ex i) (fun e=>by cases e) (fun h=>AW _ h) hB
     |rt=>exact hoff (k':= .rt) (fun e=>by cases e) (fun h=>AW _ h) hB
    ·cases he
  ·cases he
 | .cond c a b,p,A,E,F,S,k,os,hc,h,he,hk=>by
  simp only [exec] at he;split at he
  ·rename_i x hx;have g:=bf h hx;simp only [SV.rel] at g;obtain ⟨t,g1,g2⟩:=g;obtain ⟨B,b1,b2⟩:=mT h g1;obtain ⟨L1,q1,q2⟩:=HB he b1
   cases t with
   |true=>refine ik.to (iZ hgn hT a hc b2 q1 fun kd' C hC E2 F2 S2 hE2 hG2=>hk kd' C (q2 _ hC) E2 F2 S2 hE2 hG2) fun Q hq=> .cond g2 (fun _=>hq) (fun e=>by cases e)
   |false=>refine ik.to (iZ hgn hT b hc b2 q1 fun kd' C hC E2 F2 S2 hE2 hG2=>hk kd' C (q2 _ hC) E2 F2 S2 hE2 hG2) fun Q hq=> .cond g2 (fun e=>by cases e) (fun _=>hq)
  ·cases he
 | .block i a,p,A,E,F,S,k,os,hc,h,he,hk=>by
  simp only [exec] at he;split at he
  ·rename_i os1 h1;cases he;refine ik.to (iZ hgn hT a (k:= .inBlock i::k) hc h h1 fun kd B hB E' F' S' hE hG=>?_) fun Q hq=> .block hq;have hm:=hk _ B (qZ (i:=i) hB) E' F' S' hE hG
   cases kd with
   |nx=>exact ik.to hm fun Q hq=> .inBlock hq
   |ex j=>
    show match fC j (.inBlock i::k) with
     |some k'=>ik P n R k' F' S'
     |none=>False
    rw [rV];simp only at hm
    by_cases hij:i=j
    ·subst hij;rw [Bg,if_pos rfl] at hm;rw [if_pos rfl];exact hm
    ·have hb:Nat.beq i j=false:=by
      cases e:Nat.beq i j with
      |true=>exact absurd (aq.1 e) hij
      |false=>rfl
     rw [hb,if_neg (by simp)] at hm;rw [if_neg hij];exact hm
   |rt=>exact hm
  ·cases he
 | .exit i,p,A,E,F,S,k,os,hc,h,he,hk=>by
  cases he;have hm:=hk (.ex i) A (by simp) E F S (.refl E) h;simp only [O2] at hm;split at hm
  ·rename_i k' hk';exact ik.to hm fun Q hq=> .exit hk' hq
  ·exact hm.elim
 | .ret,p,A,E,F,S,k,os,hc,h,he,hk=>by
  cases he;have hm:=hk .rt A (by simp) E F S (.refl E) h;exact ik.of hm fun Q hq=> .ret hq
 | .named kp a,p,A,E,F,S,k,os,hc,h,he,hk=>by
  simp only [exec] at he;exact ik.to (iZ hgn hT a hc (h.cz kp) he hk) fun Q hq=> .named hq
 | .loop a,p,A,E,F,S,k,os,hc,h,he,hk=>by
  simp only [exec] at he;split at he
  ·rename_i q me hq;split at he
   ·rename_i hent;simp only [Aa] at hent;split at he
    ·rename_i os1 h1;split at he
     ·rename_i hall;cases he
      have key:∀ (m:Nat) {Ep:En} {F:Fr} {S:St},E.le Ep->Gm gl Ep (A.tm q) F S->(me.val Ep.ρ).toNat=m->ik P n R (.code a:: .inLoop a::k) F S:=by
       intro m
       induction m using Nat.strongRecOn with
       |_ m ih=>
        intro Ep F S hE hG hm;refine iZ hgn hT a (k:= .inLoop a::k) (hc.le hE) hG h1 fun kd B hB E' F' S' hE' hG'=>?_
        cases kd with
        |nx=>
         have h2:=AO.1 hall B (mU hB);unfold back at h2;split at h2
         ·rename_i M hM;simp only [Aa] at h2;obtain ⟨E2,Ep2,g1,g2,g3,g4,g5⟩:=Fy h.bs (hE.trans hE') hG' hM;have me1:me.is Ep.ρ (me.val Ep.ρ):=⟨by rw [hG.nv];exact hent.2,rfl⟩;have me2:me.is Ep2.ρ (me.val Ep2.ρ):=⟨by rw [g3.nv];exact hent.2,rfl⟩;have m1:=bB g4.fs (((me1.le (hE'.trans g1)).sub (eQ g5 me2)).aG (-1)) h2.1;have m2:=bB g4.fs ((me1.le (hE'.trans g1)).aG (-1)) h2.2;exact ik.to (ih _ (by omega) g2 g3 rfl) fun Q hq=> .inLoop hq
         ·cases h2
        |ex i=>
         have hm:=hk (.ex i) B (kW (fun e=>by cases e) hB) E' F' S' (hE.trans hE') hG'
         show match fC i (.inLoop a::k) with
          |some k'=>ik P n R k' F' S'
          |none=>False
         rw [sS];exact hm
        |rt=>exact hk .rt B (kW (fun e=>by cases e) hB) E' F' S' (hE.trans hE') hG'
      obtain ⟨M,hM⟩:=Bn.1 hent.1;obtain ⟨E1,Ep,g1,g2,g3,g4,g5⟩:=Fy h.bs (.refl E) h hM;exact ik.to (key _ g2 g3 rfl) fun Q hq=> .ej hq
     ·cases he
    ·cases he
   ·cases he
  ·cases he
 | .bad,p,A,E,F,S,k,os,hc,h,he,hk=>by simp [exec] at he
 | .yg ..,p,A,E,F,S,k,os,hc,h,he,hk=>by simp [exec] at he
end
end Go.Proofs.YtoopnalhhfmgaaaGreatDoor
namespace Go.Proofs.YtoopnalhhfmgaaaGreatDoor
open Go Go.V
def Tp.fg {t:TT} {v:AV} (h:Tp t v):Tp t v.fg:=by
 induction h with
 |int k n h=>exact .int k n h
 |bool b=>exact .bool b
 |str h=>exact .str h
 | @sl k e xs t hl hz hk h ih=>
  rw [fj];refine .sl (by simpa using hl) (by rw [jX];exact hz) (fun x hx=>?_) (fun x hx=>?_)
  ·obtain ⟨y,hy,rfl⟩:=Ai.1 hx;rw [kL,Ad];exact hk y hy
  ·obtain ⟨y,hy,rfl⟩:=Ai.1 hx;exact ih y hy
 |sc hg h ih=>exact .sc hg ih
 | @st e cs vs hg hl h ih=>
  rw [cY];refine .st hg (by simpa using hl) fun m c v e1 e2=>?_;rw [Ap,Ag] at e2;obtain ⟨w,e2,rfl⟩:=e2;exact ih m c w e1 e2
 | @rf e cs css vs hg hl h hc ih=>
  rw [cY];refine .rf hg (by simpa using hl) (fun m c v e1 e2=>?_) ?_
  ·rw [Ap,Ag] at e2;obtain ⟨w,e2,rfl⟩:=e2;exact ih m c w e1 e2
  ·obtain ⟨f,hf,hf2⟩:=hc;refine ⟨f,hf,?_⟩;rw [AY,show (gX∘AV.fg)=gX from funext GV];exact hf2
def Tp.ZE {t:TT} {w:AV} (h:Tp t w):∀ v:AV,v.fg=w->Tp t v:=by
 induction h with
 |int k n h=>intro v e;cases v<;>simp [AV.fg] at e;obtain ⟨rfl,rfl⟩:=e;exact .int _ _ h
 |bool b=>intro v e;cases v<;>simp [AV.fg] at e;subst e;exact .bool _
 |str h=>intro v e;cases v<;>simp [AV.fg] at e;subst e;exact .str h
 | @sl k e xs t hl hz hk h ih=>
  intro v e;cases v<;>simp only [AV.fg,reduceCtorEq] at e
  rename_i k' ys t';injection e with e1 e2 e3
  rw [di] at e2;subst e1 e2;refine .sl (by simpa using hl) (by rw [jX] at hz;exact hz) (fun x hx=>?_) (fun x hx=>?_)
  ·have:=hk x.fg (BF hx);rw [kL,Ad] at this;exact this
  ·exact ih x.fg (BF hx) x rfl
 |sc hg h ih=>exact fun v e=> .sc hg (ih v e)
 | @st e cs vs hg hl h ih=>
  intro v e;cases v<;>simp only [AV.fg,reduceCtorEq] at e
  injection e with e
  rw [di] at e;subst e;exact .st hg (by simpa using hl) fun m c v e1 e2=>ih m c v.fg e1 (by simp [e2]) v rfl
 | @rf e cs css vs hg hl h hc ih=>
  intro v e;cases v<;>simp only [AV.fg,reduceCtorEq] at e
  injection e with e
  rw [di] at e;subst e;refine .rf hg (by simpa using hl) (fun m c v e1 e2=>ih m c v.fg e1 (by simp [e2]) v rfl) ?_;obtain ⟨f,hf,hf2⟩:=hc;refine ⟨f,hf,?_⟩;rw [AY] at hf2;rw [show (gX∘AV.fg)=gX from funext GV] at hf2;exact hf2
def Tp.nr {t:TT} {v:AV} (h:Tp t v):al v.fg/\∀ c∈v.fg.cells,al c:=by
 induction h with
 |int k n h=>exact ⟨.int _ _,by simp [AV.fg,AV.cells,al.int_eq]⟩
 |bool b=>exact ⟨.bool _,by simp [AV.fg,AV.cells,al.uC]⟩
 |str h=>exact ⟨.str _,by simp [AV.fg,AV.cells,al.fA]⟩
 | @sl k e xs t hl hz hk h ih=>
  have:al (AV.fg (.sl k xs t)):=by
   rw [fj];refine .sl (fun x hx=>?_) (.inl rfl);obtain ⟨y,hy,rfl⟩:=Ai.1 hx;exact (ih y hy).2
  refine ⟨this,fun c hc=>?_⟩;rw [fj] at hc this;simp only [AV.cells,Ab,AD,or_false] at hc;subst hc;exact this
 |sc hg h ih=>exact ih
 | @st e cs vs hg hl h ih=>
  rw [cY]
  have key:∀ c∈vs.map AV.fg,al c:=fun x hx=>by
   obtain ⟨y,hy,rfl⟩:=Ai.1 hx;obtain ⟨m,hm,rfl⟩:=Bf.1 hy;exact (ih m (cs[m]'(by omega)) _ (by simp) (by simp)).1
  exact ⟨.agg key,key⟩
 | @rf e cs css vs hg hl h hc ih=>
  rw [cY]
  have key:∀ c∈vs.map AV.fg,al c:=fun x hx=>by
   obtain ⟨y,hy,rfl⟩:=Ai.1 hx;obtain ⟨m,hm,rfl⟩:=Bf.1 hy;exact (ih m (cs[m]'(by omega)) _ (by simp) (by simp)).1
  exact ⟨.agg key,key⟩
def ew.fg {k e:Nat} {xs:List AV} (h:ew k e xs):ew k e (xs.map AV.fg):=⟨fun x hx=>by
 obtain ⟨y,hy,rfl⟩:=Ai.1 hx;rw [kL,Ad]
 exact h.k y hy,fun x hx=>by
 obtain ⟨y,hy,rfl⟩:=Ai.1 hx
 exact (h.e y hy).fg⟩
def ew.nr {k e:Nat} {xs:List AV} (h:ew k e xs):al (.sl k (xs.map AV.fg) .ai):= .sl (fun x hx=>by
 obtain ⟨y,hy,rfl⟩:=Ai.1 hx
 exact (h.e y hy).nr.2) (.inl rfl)
structure M9 (m:Nat) (E E':En):Prop where
 ρ:E'.ρ=E.ρ
 χ:∀ X xs,m<=X->E.χ[X]? =some xs->E'.χ[X]? =some (xs.map AV.fg)
def gv.fg {m:Nat} {E E':En} (h:M9 m E E') {li:LI} {xs:List AV} (hl:gv E li xs):gv E' li (xs.map AV.fg):=by
 refine ⟨hl.el.fg,?_,?_⟩
 ·rw [h.ρ,Ad];exact hl.n
 ·obtain ⟨z,h1,h2⟩:=hl.z;exact ⟨z,by rw [h.ρ];exact h1,by rw [jX];exact h2⟩
def MD:AV->Bool
 | .str _| .bool _| .int _ _| .cS| .fw| .cV=>true
 |_=>false
mutual
def jj (m:Nat):SV->Bool
 | .c v=>MD v
 | .i _ _=>true
 | .b _=>true
 | .s _=>true
 | .l _ X t=>Nat.beq t 0 && Nat.ble m X
 | .lit _ xs t=>Nat.beq t 0 && qG m xs
 | .a xs=>qG m xs
 | .aF xs=>qG m xs
 | .fn _ [] []=>true
 |_=>false
def qG (m:Nat):List SV->Bool
 |[]=>true
 |x::xs=>jj m x && qG m xs
end
def zP {v:AV} (h:MD v=true):v.fg=v/\al v/\v.cells=[v]:=by
 cases v<;>first
  |exact ⟨rfl,.str _,rfl⟩
  |exact ⟨rfl,.bool _,rfl⟩
  |exact ⟨rfl,.int _ _,rfl⟩
  |exact ⟨rfl,.cS,rfl⟩
  |exact ⟨rfl,.fw,rfl⟩
  |exact ⟨rfl,.cV,rfl⟩
  |cases h
section
variable {m:Nat} {E E':En}
mutual
def Nb (hF:M9 m E E'):∀ (x:SV) {v:AV},jj m x=true->x.rel E v->x.rel E' v.fg
 | .c w,v,h,hr=>by
  simp only [SV.rel] at hr ⊢;subst hr;simp only [jj] at h;exact (zP h).1
 | .i k e,v,h,hr=>by
  simp only [SV.rel] at hr ⊢;obtain ⟨n,h1,h2,rfl⟩:=hr;exact ⟨n,by rw [hF.ρ];exact h1,h2,rfl⟩
 | .b x,v,h,hr=>by
  simp only [SV.rel] at hr ⊢;obtain ⟨n,h1,rfl⟩:=hr;exact ⟨n,by rw [hF.ρ];exact h1,rfl⟩
 | .s e,v,h,hr=>by
  simp only [SV.rel] at hr ⊢;obtain ⟨n,h1,rfl⟩:=hr;exact ⟨n,by rw [hF.ρ];exact h1,rfl⟩
 | .l k X t,v,h,hr=>by
  simp only [SV.rel] at hr ⊢;simp only [jj,Aa] at h;obtain ⟨xs,tk,h1,h2,rfl⟩:=hr;rw [fj];exact ⟨_,.ai,hF.χ X xs (A6 h.2) h1,by rw [aq.1 h.1];trivial,rfl⟩
 | .lit k xs t,v,h,hr=>by
  simp only [SV.rel] at hr ⊢;simp only [jj,Aa] at h;obtain ⟨vs,tk,h1,h2,rfl⟩:=hr;rw [fj];exact ⟨_,.ai,pJ hF xs h.2 h1,by rw [aq.1 h.1];trivial,rfl⟩
 | .a xs,v,h,hr=>by
  simp only [SV.rel] at hr ⊢;simp only [jj] at h;obtain ⟨vs,h1,rfl⟩:=hr;rw [cY];exact ⟨_,pJ hF xs h h1,rfl⟩
 | .aF xs,v,h,hr=>by
  simp only [SV.rel] at hr ⊢;simp only [jj] at h;obtain ⟨vs,h1,rfl⟩:=hr;rw [yf];exact ⟨_,pJ hF xs h h1,rfl⟩
 | .fn f [] [],v,h,hr=>by
  simp only [SV.rel] at hr ⊢;obtain ⟨as,cs,h1,h2,rfl⟩:=hr;rw [aV.1 h1,aV.1 h2];exact ⟨[],[],aV.2 rfl,aV.2 rfl,rfl⟩
 | .fn f (_::_) _,v,h,hr=>by simp [jj] at h
 | .fn f [] (_::_),v,h,hr=>by simp [jj] at h
 | .p _ _,v,h,hr=>by simp [jj] at h
 | .e _ _ _ _,v,h,hr=>by simp [jj] at h
def pJ (hF:M9 m E E'):∀ (xs:List SV) {vs:List AV},qG m xs=true->ba E xs vs->ba E' xs (vs.map AV.fg)
 |[],vs,h,hr=>by
  rw [aV.1 hr];exact aV.2 rfl
 |x::xs,vs,h,hr=>by
  obtain ⟨w,ws,h1,h2,rfl⟩:=aO.1 hr;simp only [qG,Aa] at h;exact aO.2 ⟨w.fg,ws.map AV.fg,Nb hF x h.1 h1,pJ hF xs h.2 h2,rfl⟩
end
mutual
def Mb (hl:∀ (X:Nat) xs,m<=X->E.χ[X]? =some xs->∃ k e,ew k e xs):∀ (x:SV) {v:AV},jj m x=true->x.rel E v->al v.fg/\∀ c∈v.fg.cells,al c
 | .c w,v,h,hr=>by
  simp only [SV.rel] at hr;subst hr;simp only [jj] at h;obtain ⟨h1,h2,h3⟩:=zP h;rw [h1,h3];exact ⟨h2,by simpa using h2⟩
 | .i k e,v,h,hr=>by
  simp only [SV.rel] at hr;obtain ⟨n,h1,h2,rfl⟩:=hr;exact ⟨.int _ _,by simp [AV.fg,AV.cells,al.int_eq]⟩
 | .b x,v,h,hr=>by
  simp only [SV.rel] at hr;obtain ⟨n,h1,rfl⟩:=hr;exact ⟨.bool _,by simp [AV.fg,AV.cells,al.uC]⟩
 | .s e,v,h,hr=>by
  simp only [SV.rel] at hr;obtain ⟨n,h1,rfl⟩:=hr;exact ⟨.str _,by simp [AV.fg,AV.cells,al.fA]⟩
 | .l k X t,v,h,hr=>by
  simp only [SV.rel] at hr;simp only [jj,Aa] at h;obtain ⟨xs,tk,h1,h2,rfl⟩:=hr;obtain ⟨k',e,he⟩:=hl X xs (A6 h.2) h1;rw [fj]
  have:al (.sl k (xs.map AV.fg) .ai):= .sl (fun x hx=>by
   obtain ⟨y,hy,rfl⟩:=Ai.1 hx
   exact (he.e y hy).nr.2) (.inl rfl)
  exact ⟨this,by simpa [AV.cells] using this⟩
 | .lit k xs t,v,h,hr=>by
  simp only [SV.rel] at hr;simp only [jj,Aa] at h;obtain ⟨vs,tk,h1,h2,rfl⟩:=hr;have ih:=pG hl xs h.2 h1;rw [fj];have:al (.sl k (vs.map AV.fg) .ai):= .sl (fun x hx=>(ih x hx).2) (.inl rfl);exact ⟨this,by simpa [AV.cells] using this⟩
 | .a xs,v,h,hr=>by
  simp only [SV.rel] at hr;simp only [jj] at h;obtain ⟨vs,h1,rfl⟩:=hr;have ih:=pG hl xs h h1;rw [cY];exact ⟨.agg fun c hc=>(ih c hc).1,fun c hc=>(ih c hc).1⟩
 | .aF xs,v,h,hr=>by
  simp only [SV.rel] at hr;simp only [jj] at h;obtain ⟨vs,h1,rfl⟩:=hr;have ih:=pG hl xs h h1;rw [yf];have:al (.aF (vs.map AV.fg)):= .aF fun c hc=>(ih c hc).1;exact ⟨this,by simpa [AV.cells] using this⟩
 | .fn f [] [],v,h,hr=>by
  simp only [SV.rel] at hr;obtain ⟨as,cs,h1,h2,rfl⟩:=hr;rw [aV.1 h1,aV.1 h2];have:al (.fn f [] []):= .func (by simp) (by simp);exact ⟨this,by simpa [AV.fg,AV.cells] using this⟩
 | .fn f (_::_) _,v,h,hr=>by simp [jj] at h
 | .fn f [] (_::_),v,h,hr=>by simp [jj] at h
 | .p _ _,v,h,hr=>by simp [jj] at h
 | .e _ _ _ _,v,h,hr=>by simp [jj] at h
def pG (hl:∀ (X:Nat) xs,m<=X->E.χ[X]? =some xs->∃ k e,ew k e xs):∀ (xs:List SV) {vs:List AV},qG m xs=true->ba E xs vs->∀ v∈vs.map AV.fg,al v/\∀ c∈v.cells,al c
 |[],vs,h,hr=>by
  rw [aV.1 hr];simp
 |x::xs,vs,h,hr=>by
  obtain ⟨w,ws,h1,h2,rfl⟩:=aO.1 hr;simp only [qG,Aa] at h;intro v hv;rw [List.map_cons] at hv;rcases Ab.1 hv with rfl|hv
  ·exact Mb hl x h.1 h1
  ·exact pG hl xs h.2 h2 v hv
end
end
def Iz:Nat->List SV->List (Nat×SV)
 |_,[]=>[]
 |i,x::xs=>(i,x)::Iz (i+1) xs
def Ha {E:En}:∀ {xs:List SV} {vs:List AV} {i:Nat},ba E xs vs->∀ t x,lk t (Iz i xs)=some x->∃ v,(jr i vs).lookup t=some v/\x.rel E v
 |[],vs,i,h,t,x,e=>by cases e
 |y::ys,vs,i,h,t,x,e=>by
  obtain ⟨w,ws,h1,h2,rfl⟩:=aO.1 h;simp only [Iz,lk] at e;show ∃ v,List.lookup t ((i,w)::jr (i+1) ws)=some v/\_;rw [gS];split at e
  ·rename_i hu;cases e;rw [if_pos (aq.1 hu)];exact ⟨w,rfl,h1⟩
  ·rename_i hu;rw [if_neg fun e2=>by rw [e2,Bg] at hu;cases hu];exact Ha h2 t x e
def az.st (sg:az) (cs:List aa):AS:=⟨sg.pv,sg.pl,[],0,[],[],Iz 0 sg.ps,cs++sg.pf⟩
def rvS (A:AS):RV->Option SV
 | .t n=>lk n A.fr
 | .c a n ag=>(match lk a A.fr with
  |some x=>tA A n ag x
  |none=>none)
def DC (A:AS):List RV->Option (List SV)
 |[]=>some []
 |r::rs=>(match rvS A r,DC A rs with
  |some x,some xs=>some (x::xs)
  |_,_=>none)
def nG:List SV->SV
 |[x]=>x
 |xs=> .aF xs
def Pz (m:Nat) (B:AS):List (Nat×Nat)->Bool
 |[]=>true
 |(X,e)::r=>(Nat.blt X m && (match nth B.ls X with
  |some li=>Nat.beq li.e e||mg B.fs X e li.n B.el
  |none=>false)) && Pz m B r
def PH (m n:Nat) (σ:aa->aa) (A:AS):List (Nat×aa×Nat)->Bool
 |[]=>true
 |(X,i,e)::r=>(Nat.blt X m && (da n i.ts && (match seen X (σ i) A.el with
  |some (x,_)=>isAll A (kT x).length (Γ e) [x]
  |none=>false))) && PH m n σ A r
def akG (sg:az) (a:Alt) (M:Mt):Bool:=PH sg.pl.length a.nv (fun i=>sb sg.pv M.σ i) M.A a.ex
def I9 (A0:AS) (sg:az) (B:AS) (r:SV) (a:Alt):Bool:=
 match mt A0.cm a.ls ⟨B,[],[],[]⟩ a.r r with
 |some M=>Nat.beq (sg.pv+M.σ.length) a.nv && (Nat.beq M.τ.length a.ls.length && (Nat.beq M.υ.length 0 && (jj sg.pl.length a.r && (Pz sg.pl.length B a.up && (akG sg a M && mf (fun e=>da a.nv e.ts && LL M.A.fs (sb sg.pv M.σ e)) a.fs)))))
 |none=>false
def pP:List SV->Option (List SV×BE×List SV)
 |[]=>none
 | .b (.k t)::r=>(match pP r with
  |some (p,x,q)=>some (.b (.k t)::p,x,q)
  |none=>none)
 | .b x::r=>some ([],x,r)
 |y::r=>(match pP r with
  |some (p,x,q)=>some (y::p,x,q)
  |none=>none)
def z7:∀ {xs p q:List SV} {x:BE},pP xs=some (p,x,q)->xs=p++ .b x::q
 |[],p,q,x,h=>by cases h
 |y::r,p,q,x,h=>by
  have key:(match pP r with
   |some (p,x,q)=>some (y::p,x,q)
   |none=>none)=some (p,x,q)->y::r=p++ .b x::q:=fun h=>by
   split at h
   ·rename_i p' x' q' h1;cases h;rw [z7 h1];rfl
   ·cases h
  unfold pP at h;split at h
  ·rename_i e;cases e
  ·rename_i t r' e;cases e;exact key h
  ·rename_i x' r' _ e;cases e;cases h;rfl
  ·rename_i e;cases e;exact key h
def C6 (p:Bool->AS->Bool):List (Bool×AS)->Bool
 |[]=>true
 |(t,B)::r=>match p t B with
  |true=>C6 p r
  |false=>false
def EZ {p:Bool->AS->Bool} {t:Bool} {B:AS}:∀ {l:List (Bool×AS)},C6 p l=true->(t,B)∈l->p t B=true
 |[],_,h=>by cases h
 |(u,C)::r,h,hm=>by
  unfold C6 at h;split at h
  ·rcases Ab.1 hm with e|hm
   ·cases e;assumption
   ·exact EZ h hm
  ·cases h
def DV (sg:az):Nat->AS->List SV->Bool
 |0,B,xs=>kQ (I9 (sg.st []) sg B (nG xs)) sg.alts
 |n+1,B,xs=>match kQ (I9 (sg.st []) sg B (nG xs)) sg.alts with
  |true=>true
  |false=>(match pP xs with
   |some (p,x,q)=>C6 (fun t C=>DV sg n C (p++ .b (.k t)::q)) (fork B x)
   |none=>false)
def ahL (sg:az) (rv:List RV):Kd×AS->Bool
 |(.ex _,_)=>false
 |(_,B)=>(match DC B rv with
  |some xs=>DV sg 3 B xs
  |none=>false)
def I8 (p:Kd×AS->Bool):fq->Bool
 |[]=>true
 |x::xs=>match p x with
  |true=>I8 p xs
  |false=>false
def zu {p:Kd×AS->Bool}:∀ {fs:fq},I8 p fs=true->∀ f∈fs,p f=true
 |[],_,f,h=>by cases h
 |g::fs,h,f,hm=>by
  unfold I8 at h;split at h
  ·rcases Ab.1 hm with rfl|hm
   ·assumption
   ·exact zu h f hm
  ·cases h
def Fm (p:List aa->Bool) (l:List (List aa)):Bool:=
 match l with
 |[]=>p []
 |_=>l.all p
def Lg {p:List aa->Bool} {l:List (List aa)} {ρ:List Int} (h:Fm p l=true) (hc:l≠[]->∃ f∈l,aH ρ f):∃ f,aH ρ f/\p f=true:=by
 unfold Fm at h;split at h
 ·exact ⟨[],aH.nil _,h⟩
 ·rename_i hne;obtain ⟨f,h1,h2⟩:=hc (fun e=>hne e);exact ⟨f,h2,AO.1 h f h1⟩
def kx (Tb:kI) (O:zO) (sg:az) (m:MC) (rv:List RV):Bool:=
 qG 0 sg.ps && (da sg.pv sg.me.ts && Fm (fun cs=>match exec Tb sg.me O m 1 (sg.st cs) with
  |some os=>I8 (ahL sg rv) os
  |none=>false) sg.pc)
section
variable {P:Program} {gl:List (Nat×List AV)} {Tb:kI} {cv:Int} {E:En} {F:Fr} {S:St}
def KH {B:AS} (h:Gm gl E B F S):∀ {rv:List RV} {xs:List SV},DC B rv=some xs->∃ vs,ba E xs vs/\∀ F1,(∀ t v,F.lookup t=some v->F1.lookup t=some v)->fB F1 S rv=some vs
 |[],xs,e=>by
  cases e;exact ⟨[],aV.2 rfl,fun _ _=>rfl⟩
 |r::rs,xs,e=>by
  unfold DC at e;split at e
  ·rename_i x xs' h1 h2;cases e;obtain ⟨vs,g1,g2⟩:=KH h h2
   have key:∃ v,x.rel E v/\∀ F1,(∀ t v,F.lookup t=some v->F1.lookup t=some v)->jJ F1 S r=some v:=by
    cases r with
    |t n=>
     obtain ⟨v,k1,k2⟩:=h.fr n x h1;exact ⟨v,k2,fun F1 hF=>by simp only [jJ,Fr.get,hF n v k1,Option.getD_some]⟩
    |c a n ag=>
     simp only [rvS] at h1;split at h1
     ·rename_i y hy;obtain ⟨v,k1,k2⟩:=h.fr a y hy;obtain ⟨r,q1,q2⟩:=yj h k2 h1;refine ⟨r,q2,fun F1 hF=>?_⟩;simp only [jJ,Fr.get,hF a v k1,Option.getD_some]
      cases e1:v.there S with
      |none=>rw [e1] at q1;cases q1
      |some cs=>
       rw [e1] at q1;simp only [Option.bind_some] at q1 ⊢
       cases e2:cA n ag cs with
       |none=>rw [e2] at q1;cases q1
       |some w=>rw [e2] at q1;simpa using q1
     ·cases h1
   obtain ⟨v,k1,k2⟩:=key;refine ⟨v::vs,aO.2 ⟨v,vs,k1,g1,rfl⟩,fun F1 hF=>?_⟩;simp only [fB,k2 F1 hF,g2 F1 hF,Option.bind_some,Option.map_some]
  ·cases e
def TI {xs:List SV} {vs:List AV} (h:ba E xs vs):(nG xs).rel E (dw vs):=by
 match xs,vs,h with
 |[],vs,h=>rw [aV.1 h];simp only [nG,dw,SV.rel];exact ⟨[],aV.2 rfl,rfl⟩
 |[x],vs,h=>
  obtain ⟨w,ws,h1,h2,rfl⟩:=aO.1 h;rw [aV.1 h2];exact h1
 |x::y::xs,vs,h=>
  obtain ⟨w,ws,h1,h2,rfl⟩:=aO.1 h;obtain ⟨w',ws',h3,h4,rfl⟩:=aO.1 h2;simp only [nG,dw,SV.rel];exact ⟨_,h,rfl⟩
def LR {m:Nat} {B:AS} (h:Gm gl E B F S):∀ {l:List (Nat×Nat)},Pz m B l=true->∀ q∈l,q.1<m/\∃ ys,E.χ[q.1]? =some ys/\∀ v∈ys,Tp (.e q.2) v
 |[],_,q,hq=>by cases hq
 |(X,e)::r,hc,q,hq=>by
  simp only [Pz,Aa] at hc;obtain ⟨⟨c1,c2⟩,c3⟩:=hc;rcases Ab.1 hq with rfl|hq
  ·refine ⟨dx.1 c1,?_⟩;rw [cP] at c2;split at c2
   ·rename_i li hli;obtain ⟨ys,h1,h2⟩:=h.ls X li hli;refine ⟨ys,h1,?_⟩;simp only [AI] at c2;rcases c2 with c2|c2
    ·have:=h2.el.e;rw [aq.1 c2] at this;exact this
    ·intro v hv;obtain ⟨j,hj,rfl⟩:=Bf.1 hv;exact jU h.fs h2.n h1 h.el c2 j _ (by omega) (by simp [hj])
   ·cases c2
  ·exact LR h c3 q hq
def GK {m n:Nat} {σ:aa->aa} {A:AS} {X e:Nat} {i:aa}:∀ {l:List (Nat×aa×Nat)},PH m n σ A l=true->(X,i,e)∈l->X<m/\da n i.ts=true/\∃ x s,seen X (σ i) A.el=some (x,s)/\isAll A (kT x).length (Γ e) [x]=true
 |[],_,hq=>by cases hq
 |(Y,j,e')::r,hc,hq=>by
  simp only [PH,Aa] at hc;obtain ⟨⟨c1,c2,c3⟩,c4⟩:=hc;rcases Ab.1 hq with hq|hq
  ·cases hq;split at c3
   ·rename_i x s hx;exact ⟨dx.1 c1,c2,x,s,hx,c3⟩
   ·cases c3
  ·exact GK c4 hq
def OD {p q:List SV} {x:BE}:∀ {vs:List AV},ba E (p++ .b x::q) vs->∃ t,x.is E.ρ t/\ba E (p++ .b (.k t)::q) vs:=by
 induction p with
 |nil=>
  intro vs h;obtain ⟨w,ws,h1,h2,rfl⟩:=aO.1 h;simp only [SV.rel] at h1;obtain ⟨t,h3,rfl⟩:=h1;exact ⟨t,h3,aO.2 ⟨_,ws,by simp only [SV.rel];exact ⟨t,rfl,rfl⟩,h2,rfl⟩⟩
 |cons a p ih=>
  intro vs h;obtain ⟨w,ws,h1,h2,rfl⟩:=aO.1 h;obtain ⟨t,h3,h4⟩:=ih h2;exact ⟨t,h3,aO.2 ⟨w,ws,h1,h4,rfl⟩⟩
def HF {sg:az}:∀ {n:Nat} {B:AS} {xs:List SV} {vs:List AV},Gm gl E B F S->ba E xs vs->DV sg n B xs=true->∃ B' xs',Gm gl E B' F S/\ba E xs' vs/\∃ alt∈sg.alts,I9 (sg.st []) sg B' (nG xs') alt=true
 |0,B,xs,vs,h,hr,he=>by
  obtain ⟨alt,h1,h2⟩:=iu he;exact ⟨B,xs,h,hr,alt,h1,h2⟩
 |n+1,B,xs,vs,h,hr,he=>by
  unfold DV at he;split at he
  ·rename_i he';obtain ⟨alt,h1,h2⟩:=iu he';exact ⟨B,xs,h,hr,alt,h1,h2⟩
  ·split at he
   ·rename_i p x q hs;rw [z7 hs] at hr;obtain ⟨t,h1,h2⟩:=OD hr;obtain ⟨C,h3,h4⟩:=mT h h1;exact HF h4 h2 (EZ he h3)
   ·cases he
def R5 (hgn:ae gl) {f:FuncId} {n:Nat} {m:MC} {rv:List RV} (hf:aD P f n m rv) {sg:az} (hn:sg.ps.length<=n) {O:zO} (hb:kx Tb O sg m rv=true) (hT:vI P gl Tb cv) {Es:En} {as:List AV} (hp:NM sg Es as) (hcv:sg.me.is Es.ρ cv):
  ∃ r,Pure P gl f as (.ok r)/\∃ alt∈sg.alts,∃ Er,Jd sg Es alt Er r:=by
 simp only [kx,Aa] at hb;obtain ⟨hb1,hb2,hb3⟩:=hb;obtain ⟨cs,hcs,hb3⟩:=Lg hb3 hp.pc;split at hb3
 ·rename_i os hos
  let E0:En:={Es with χ:=Es.χ.map fun xs=>xs.map AV.fg}
  have hF:M9 0 Es E0:=⟨rfl,fun X xs _ e=>by simp [E0,e]⟩
  have hls:∀ (X:Nat) li,sg.pl[X]? =some li->∃ xs,E0.χ[X]? =some xs/\gv E0 li xs:=fun X li e=>by
   obtain ⟨xs,h1,h2⟩:=hp.ls X li e;exact ⟨_,hF.χ X xs (Au _) h1,h2.fg hF⟩
  have hty:∀ (X:Nat) xs,0<=X->Es.χ[X]? =some xs->∃ k e,ew k e xs:=fun X xs _ e=>by
   have hX:=gP e;rw [hp.nl] at hX;obtain ⟨li,hli⟩:=aK hX;obtain ⟨ys,h1,h2⟩:=hp.ls X li hli;rw [e] at h1;cases h1;exact ⟨_,_,h2.el⟩
  have hG:Gm gl E0 (sg.st cs) (jr 0 (as.map AV.fg)) (.none gl):=by refine ⟨hp.nv,by simp [E0,az.st,hp.nl],by simp [E0,az.st,hp.θ],by simp [E0,az.st,hp.κ],hls,fun q hq=>(AD hq).elim,Ha (pJ hF sg.ps hb1 hp.as),fun j cs e=>(by simp [az.st] at e),by simp [E0,hp.θ],fun l hl=>(by simp [E0,hp.θ] at hl),⟨fun j hj=>(AD hj).elim,fun j n e=>(by simp [E0,hp.κ] at e),fun i hi=>(AD hi).elim⟩,hcs.app hp.fs,rfl⟩
  have hrun:=iZ (n:=n) (R:=fun F S=>∃ B E1,E0.le E1/\Gm gl E1 B F S/\∃ kd,(kd,B)∈os/\(∀ i,kd≠ .ex i)) hgn hT m (k:=[]) (by exact hcv) hG hos fun kd B hB E1 F1 S1 hE hG1=>by
   cases kd with
   |nx=>exact ik.of ⟨B,E1,hE,hG1,.nx,hB,fun i e=>by cases e⟩ fun Q hq=> .done hq
   |ex i=>
    have:=zu hb3 _ hB;cases this
   |rt=>exact ⟨B,E1,hE,hG1,.rt,hB,fun i e=>by cases e⟩
  obtain ⟨F1,S1,⟨B,E1,hE,hG1,kd,hB,hkd⟩,hrun⟩:=hrun;have hend:=zu hb3 _ hB
  have hend:(match DC B rv with
   |some xs=>DV sg 3 B xs
   |none=>false)=true:=by
   cases kd with
   |ex i=>exact absurd rfl (hkd i)
   |nx=>exact hend
   |rt=>exact hend
  split at hend
  ·rename_i xs hxs;obtain ⟨vs,v0,v2⟩:=KH hG1 hxs;obtain ⟨B,xs,hG1,v1,alt,halt,hab⟩:=HF hG1 v0 hend;unfold I9 at hab;split at hab
   ·rename_i M hM;simp only [Aa] at hab;obtain ⟨c1,c2,c3,c4,c6,c7,c5⟩:=hab;have b0:Bd (sg.st []).cm E0 E1 ⟨B,[],[],[]⟩ E0:=⟨hE,hG.nv,hG.nl,hG.no,hG.nt,⟨[],by simp,rfl,fun i e h=>by cases h⟩,⟨[],by simp,rfl,fun i e h=>by cases h⟩,rfl,⟨[],by simp,rfl,fun i e h=>by cases h⟩⟩;obtain ⟨E2,Ep,g1,g2,g3,g4,g5,g6⟩:=(IQ (M:=⟨B,[],[],[]⟩) alt.r hG1 b0 (fun i li hi=>by simp at hi) (TI v1) hM).h;have n1:Ep.ρ.length=alt.nv:=by rw [g4.len];exact aq.1 c1
    have n2:Ep.χ.length=sg.pl.length+alt.ls.length:=by rw [g4.Jb,aq.1 c2];rfl
    have n3:Ep.κ=[]:=by
     have:=g4.I2;rw [aq.1 c3] at this;exact A3 this
    obtain ⟨ρr,hρr⟩:=g2.ρ;obtain ⟨χr,hχr⟩:=g2.χ
    let Er:En:=⟨Ep.ρ,Es.χ++χr.map fun xs=>xs.map AV.fg,[],[]⟩
    have hFr:M9 sg.pl.length Ep Er:=by
     refine ⟨rfl,fun X xs hX e=>?_⟩;rw [hχr,AG (by simp [E0,hp.nl];exact hX)] at e;show (Es.χ++_)[X]? =_;rw [AG (by rw [hp.nl];exact hX),Ap];rw [show E0.χ.length=Es.χ.length by simp [E0]] at e;rw [e];rfl
    have hlsE:∀ (i:Nat) li,alt.ls[i]? =some li->∃ xs,Ep.χ[sg.pl.length+i]? =some xs/\gv Ep li xs:=fun i li e=>by
     obtain ⟨xs,q1,q2⟩:=g5 i li (by rw [aq.1 c2];exact gP e) e;exact ⟨xs,q1,q2⟩
    have hr:=Nb hFr alt.r c4 g6
    have hnr:al (dw vs).fg:=by
     refine (Mb (m:=sg.pl.length) (E:=Ep) (fun X xs hX e=>?_) alt.r c4 g6).1;have hlt:=gP e;rw [n2] at hlt;obtain ⟨li,hli⟩:=aK (show X-sg.pl.length<alt.ls.length by omega);obtain ⟨ys,q1,q2⟩:=hlsE _ li hli;rw [show sg.pl.length+(X-sg.pl.length)=X by omega,e] at q1;cases q1;exact ⟨_,_,q2.el⟩
    have hna:∀ a∈as.map AV.fg,al a:=fun a ha=>(pG hty sg.ps hb1 hp.as a ha).1;refine ⟨(dw vs).fg,⟨?_,hna,hnr⟩,alt,halt,Er,⟨⟨⟨ρr,hρr⟩,⟨_,rfl⟩,⟨[],by simp [Er,hp.θ]⟩,⟨[],by simp [Er,hp.κ]⟩⟩,n1,?_,rfl,rfl,fun i li e=>?_,hr,fun e he=>?_,fun q hq=>?_,fun q hq=>?_⟩⟩
    ·refine ao.oz (K':=fun o _=>o= .ok (dw vs)) (.aC hf ?_ (af.post hrun ?_)) (fun r' S' h=>by injection h with h;rw [h]) (fun r' S' h=>by cases h)
     ·rw [Ad,bV hp.as];exact hn
     ·rintro e1 D1 F2 S2 ⟨rfl,rfl,rfl,hlk⟩;refine ⟨rfl,?_⟩;rw [v2 F2 hlk]
    ·show (Es.χ++_).length=_;have h1:=n2;rw [hχr,Ak] at h1;simp only [E0,Ad] at h1;rw [Ak,Ad];exact h1
    ·obtain ⟨xs,q1,q2⟩:=hlsE i li e;exact ⟨_,hFr.χ _ xs (by omega) q1,q2.fg hFr⟩
    ·have h3:=j7 c5 e he;simp only [Aa] at h3;have h4:e.is Ep.ρ (e.val Ep.ρ):=⟨by rw [n1];exact h3.1,rfl⟩;exact ⟨_,h4,Mw g3.fs (eQ g4 h4) h3.2⟩
    ·obtain ⟨X,e⟩:=q;obtain ⟨hX,ys,y1,y2⟩:=LR hG1 c6 (X,e) hq;obtain ⟨xs,hxs⟩:=aK (show X<Es.χ.length by rw [hp.nl];exact hX);have h5:=hE.χg (hF.χ X xs (Au _) hxs);simp only at y1;rw [h5] at y1;cases y1;exact ⟨xs,hxs,fun v hv=>(y2 v.fg (BF hv)).ZE v rfl⟩
    ·obtain ⟨X,i,e⟩:=q;obtain ⟨hX,hok,x,s0,hx,hall⟩:=GK c7 hq;obtain ⟨xs,hxs⟩:=aK (show X<Es.χ.length by rw [hp.nl];exact hX);have h5:=g1.χg (hE.χg (hF.χ X xs (Au _) hxs));obtain ⟨ys,n,w,k1,k2,k3,k4,k5,_⟩:=g3.el _ (j0 hx);rw [h5] at k1;cases k1;have h4:i.is Ep.ρ (i.val Ep.ρ):=⟨by rw [n1];exact hok,rfl⟩;have hni:=k2.uniq (eQ g4 h4);have h6:=jQ g3 rfl [x] hall (aO.2 ⟨w,[],k5,aV.2 rfl,rfl⟩);have hw:Tp (.e e) w:=h6.e w (by simp);rw [Ap,Ag] at k4;obtain ⟨v,hv,hvw⟩:=k4;exact ⟨xs,n,v,hxs,by rw [hni];exact h4,k3,hv,hw.ZE v hvw⟩
   ·cases hab
  ·cases hend
 ·cases hb3
structure Fe where
 f:FuncId
 n:Nat
 m:MC
 rv:List RV
 sg:az
 O:zO
def sw:List Fe->kI
 |[]=>[]
 |e::es=>(e.f,(e.sg,true))::sw es
def tj:List (Nat×az)->kI
 |[]=>[]
 |(f,sg)::es=>(f,(sg,false))::tj es
def mK (P:Program) (gl:List (Nat×List AV)):List (Nat×az)->Prop
 |[]=>True
 |(f,sg)::es=>Spec P gl f sg (fun _=>True)/\mK P gl es
def tu (P:Program) (Tb:kI):List Fe->Prop
 |[]=>True
 |e::es=>(aD P e.f e.n e.m e.rv/\(Nat.ble e.sg.ps.length e.n && kx Tb e.O e.sg e.m e.rv)=true)/\tu P Tb es
def KS {α:Type} {t:Nat} {x:α}:∀ {l r:List (Nat×α)},lk t (l++r)=some x->lk t l=some x∨lk t r=some x
 |[],r,h=> .inr h
 |(u,y)::l,r,h=>by
  simp only [List.cons_append,lk] at h ⊢;split at h
  ·exact .inl h
  ·exact KS h
def MY {f:Nat} {sg:az} {rc:Bool}:∀ {es:List Fe},lk f (sw es)=some (sg,rc)->rc=true/\∃ e∈es,e.f=f/\e.sg=sg
 |[],h=>by cases h
 |e::es,h=>by
  simp only [sw,lk] at h;split at h
  ·rename_i hu;cases h;exact ⟨rfl,e,by simp,(aq.1 hu).symm,rfl⟩
  ·obtain ⟨h1,e',h2,h3⟩:=MY h;exact ⟨h1,e',by simp [h2],h3⟩
def K6 {f:Nat} {sg:az} {rc:Bool}:∀ {es:List (Nat×az)},mK P gl es->lk f (tj es)=some (sg,rc)->Spec P gl f sg (fun _=>True)
 |[],_,h=>by cases h
 |(g,sg')::es,hE,h=>by
  simp only [tj,lk] at h;split at h
  ·rename_i hu;cases h;rw [aq.1 hu];exact hE.1
  ·exact K6 hE.2 h
def zd {e:Fe}:∀ {es:List Fe},tu P Tb es->e∈es->aD P e.f e.n e.m e.rv/\(Nat.ble e.sg.ps.length e.n && kx Tb e.O e.sg e.m e.rv)=true
 |[],_,h=>by cases h
 |a::es,hE,h=>by
  rcases Ab.1 h with rfl|h
  ·exact hE.1
  ·exact zd hE.2 h
def MB (hgn:ae gl) (L:List Fe) (X:List (Nat×az)) (hX:mK P gl X) (hL:tu P (sw L++tj X) L):∀ e∈L,Spec P gl e.f e.sg (fun _=>True):=by
 have key:∀ N:Nat,∀ e∈L,Spec P gl e.f e.sg (fun m=>m.toNat<N):=by
  intro N
  induction N with
  |zero=>
   intro e he Es as hp hm;obtain ⟨h1,h2⟩:=zd hL he;simp only [Aa,kx] at h2;have:=hm (e.sg.me.val Es.ρ) ⟨by rw [hp.nv];exact h2.2.2.1,rfl⟩;exact absurd this (Ck _)
  |succ N ih=>
   intro e he Es as hp hm;obtain ⟨h1,h2⟩:=zd hL he;simp only [Aa] at h2;have h3:=h2.2;simp only [Aa,kx] at h3;have hme:e.sg.me.is Es.ρ (e.sg.me.val Es.ρ):=⟨by rw [hp.nv];exact h3.2.1,rfl⟩;have hlt:=hm _ hme;refine R5 hgn h1 (A6 h2.1) h2.2 (cv:=e.sg.me.val Es.ρ) ?_ hp hme;intro g sg rc hg;rcases KS hg with hg|hg
   ·obtain ⟨hrc,e',k1,k2,k3⟩:=MY hg;subst k2 k3;intro Es' as' hp' hm';refine ih e' k1 Es' as' hp' fun m' hm2=>?_;have:=hm' m' hm2 hrc;omega
   ·intro Es' as' hp' hm';exact K6 hX hg Es' as' hp' fun _ _=>trivial
 intro e he Es as hp _;exact key ((e.sg.me.val Es.ρ).toNat+1) e he Es as hp fun m hm=>by rw [hm.2];omega
end
def mE {P:Program} {gl:List (Nat×List AV)} (hgn:ae gl) {f:FuncId} {n:Nat} {m:MC} {rv:List RV} {sg:az} {X:List (Nat×az)} (O:zO) (hX:mK P gl X) (h1:aD P f n m rv) (h2:(Nat.ble sg.ps.length n && kx (sw [⟨f,n,m,rv,sg,O⟩]++tj X) O sg m rv)=true):Spec P gl f sg (fun _=>True):=MB hgn [⟨f,n,m,rv,sg,O⟩] X hX ⟨⟨h1,h2⟩,trivial⟩ _ (.head _)
def ay {P : Program} {gl : List (Nat × List AV)} (hgn : ae gl) {f : FuncId} {sg : az} {X : List (Nat × az)} {fn : Func} (O : zO) (hX : mK P gl X) (n : Nat) (m : MC) (rv : List RV) (hf : P.funcs[f]? = some fn) (h : ((fn.name != "runtime.NumGoroutine" && xS P n m rv fn) && (Nat.ble sg.ps.length n && kx (sw [⟨f,n,m,rv,sg,O⟩] ++ tj X) O sg m rv)) = true) : Spec P gl f sg (fun _ => True) := by
 rw [Aa] at h;exact mE hgn O hX (.o2 hf h.1) h.2
def xn {P:Program} {gl:List (Nat×List AV)}:mK P gl []:=trivial
def xc {P:Program} {gl:List (Nat×List AV)} {f:Nat} {sg:az} {X:List (Nat×az)} (h:Spec P gl f sg (fun _=>True)) (hX:mK P gl X):mK P gl ((f,sg)::X):=⟨h,hX⟩
end Go.Proofs.YtoopnalhhfmgaaaGreatDoor
namespace Go.Proofs.YtoopnalhhfmgaaaGreatDoor
open Go Go.V
inductive Tm where
 |v (t i:Nat)
 |o (j i:Nat)
 |v0 (t i:Nat)
 |o0 (j i:Nat)
 |z (n:Nat)
 |s (t i:Nat)
 |s0 (t i:Nat)
 |so (j i:Nat)
 |so0 (j i:Nat)
structure Fa where
 c:Int
 ts:List (Int×Tm)
structure An where
 p:Nat
 md:List Nat
 mo:List (Nat×List Nat)
 dr:List Nat
 ty:List (Nat×Nat)
 nt:List Nat
 fs:List Fa
 me:Fa
 pe:List (Tm×Nat×Fa)
 ze:List (Tm×Fa)
structure rU where
 dn:Nat
 pl:List LI
 dt:Nat
 nf:List aa
def gnS (A B:AS) (ty:List (Nat×Nat)) (nk:List Nat) (key:Nat) (b:rU):SV->Option (SV×rU)
 | .i k _=>some (.i k (.var (A.nv+b.dn)),{b with dn:=b.dn+1})
 | .b _=>let v:=aa.var (A.nv+b.dn)
  some (.b (.eq (v.aG (-1))),{b with dn:=b.dn+1,nf:=v::(v.bG (-1)).aG 1::b.nf})
 | .s _=>let v:=aa.var (A.nv+b.dn)
  some (.s v,{b with dn:=b.dn+1,nf:=v::b.nf})
 | .c (.str _)=>let v:=aa.var (A.nv+b.dn)
  some (.s v,{b with dn:=b.dn+1,nf:=v::b.nf})
 | .l k X t=>(match nth B.ls X with
  |some li=>let t:=if gx key nk then 0 else t
   let v:=aa.var (A.nv+b.dn)
   some (.l k (A.ls.length+b.pl.length) (if Nat.beq t 0 then 0 else A.nt+b.dt+2),{dn:=b.dn+2,pl:=b.pl++[⟨k,li.e,v,.var (A.nv+b.dn+1)⟩],dt:=if Nat.beq t 0 then b.dt else b.dt+1,nf:=v:: .var (A.nv+b.dn+1)::b.nf})
  |none=>none)
 | .lit k _ t=>(match lk key ty with
  |some e=>let t:=if gx key nk then 0 else t
   let v:=aa.var (A.nv+b.dn)
   some (.l k (A.ls.length+b.pl.length) (if Nat.beq t 0 then 0 else A.nt+b.dt+2),{dn:=b.dn+2,pl:=b.pl++[⟨k,e,v,.var (A.nv+b.dn+1)⟩],dt:=if Nat.beq t 0 then b.dt else b.dt+1,nf:=v:: .var (A.nv+b.dn+1)::b.nf})
  |none=>none)
 |_=>none
def Nl (A B:AS) (ty:List (Nat×Nat)) (nk:List Nat) (md:Option (List Nat)) (key i:Nat) (b:rU):List SV->Option (List SV×rU)
 |[]=>some ([],b)
 |x::xs=>match (if (match md with
   |some l=>gx i l
   |none=>true) then gnS A B ty nk (key+i) b x else some (x,b)) with
  |some (y,b1)=>(match Nl A B ty nk md key (i+1) b1 xs with
   |some (ys,b2)=>some (y::ys,b2)
   |none=>none)
  |none=>none
def gnV (A B:AS) (ty:List (Nat×Nat)) (nk:List Nat) (key:Nat) (b:rU):SV->Option (SV×rU)
 | .a xs=>(match Nl A B ty nk none key 0 b xs with
  |some (ys,b1)=>some (.a ys,b1)
  |none=>none)
 |x=>gnS A B ty nk key b x
def smS (A:AS) (b:rU):SV->SV×rU
 | .l k X (_+2)=>(.l k X (A.nt+b.dt+2),{b with dt:=b.dt+1})
 | .l k X _=>(.l k X 0,b)
 | .lit k xs (_+2)=>(.lit k xs (A.nt+b.dt+2),{b with dt:=b.dt+1})
 |x=>(x,b)
def ZR (A B:AS) (an:An) (b:rU):List (Nat×SV)->Option (List (Nat×SV)×rU)
 |[]=>some ([],b)
 |(t,x)::r=>if gx t an.dr then ZR A B an b r else match (if gx t an.md then gnV A B an.ty an.nt (64*t) b x else some (smS A b x)) with
  |some (y,b1)=>(match ZR A B an b1 r with
   |some (ys,b2)=>some ((t,y)::ys,b2)
   |none=>none)
  |none=>none
def gnO (A B:AS) (an:An) (j:Nat) (b:rU):List (List SV)->Option (List (List SV)×rU)
 |[]=>some ([],b)
 |x::xs=>match (match lk j an.mo with
   |some l=>Nl A B an.ty an.nt (some l) (64*(1000+j)) 0 b x
   |none=>some (x,b)) with
  |some (y,b1)=>(match gnO A B an (j+1) b1 xs with
   |some (ys,b2)=>some (y::ys,b2)
   |none=>none)
  |none=>none
def abo (ls:List LI):SV->Option aa
 | .i _ e=>some e
 | .l _ X _=>(match nth ls X with
  |some li=>some li.n
  |none=>none)
 | .lit _ xs _=>some (.aZ (xs.length:Nat))
 | .b (.eq e)=>some (e.aG 1)
 |x=>kr x
def JZ (ls:List LI) (i:Nat) (x:SV):Option aa:=
 match x with
 | .a xs=>(match nth xs i with
  |some y=>abo ls y
  |none=>none)
 |x=>abo ls x
def Ji (ls:List LI) (i:Nat) (x:SV):Option aa:=
 match (match x with
  | .a xs=>nth xs i
  |x=>some x) with
 |some (.l _ X _)=>(match nth ls X with
  |some li=>some li.z
  |none=>none)
 |some (.lit k xs _)=>some (nC ls xs)
 |_=>none
def tmL (A T:AS):Tm->Option aa
 | .v t i=>(match lk t T.fr with
  |some x=>JZ T.ls i x
  |none=>none)
 | .o j i=>(match nth T.ob j with
  |some cs=>JZ T.ls i (.a cs)
  |none=>none)
 | .s t i=>(match lk t T.fr with
  |some x=>Ji T.ls i x
  |none=>none)
 | .s0 t i=>(match lk t A.fr with
  |some x=>Ji A.ls i x
  |none=>none)
 | .so j i=>(match nth T.ob j with
  |some cs=>Ji T.ls i (.a cs)
  |none=>none)
 | .so0 j i=>(match nth A.ob j with
  |some cs=>Ji A.ls i (.a cs)
  |none=>none)
 | .z n=>(match nth T.el n with
  |some (.z _ _ w)=>some w
  |_=>none)
 | .v0 t i=>(match lk t A.fr with
  |some x=>JZ A.ls i x
  |none=>none)
 | .o0 j i=>(match nth A.ob j with
  |some cs=>JZ A.ls i (.a cs)
  |none=>none)
def KK (A T:AS) (c:Int):List (Int×Tm)->Option aa
 |[]=>some (.aZ c)
 |(a,t)::r=>match tmL A T t,KK A T c r with
  |some e,some f=>some ((e.bG a).add f)
  |_,_=>none
def OA (A T:AS):List Fa->List aa
 |[]=>[]
 |f::r=>match KK A T f.c f.ts with
  |some e=>e::OA A T r
  |none=>OA A T r
def takeN {α:Type}:Nat->List α->List α
 |0,_=>[]
 |_,[]=>[]
 |n+1,x::xs=>x::takeN n xs
def Wf (i:Nat):SV->Option Nat
 | .a xs=>(match nth xs i with
  |some (.l _ X _)=>some X
  |_=>none)
 | .l _ X _=>some X
 |_=>none
def tmX (A:AS):Tm->Option Nat
 | .v t i| .v0 t i=>(match lk t A.fr with
  |some x=>Wf i x
  |none=>none)
 | .o j i| .o0 j i=>(match nth A.ob j with
  |some cs=>Wf i (.a cs)
  |none=>none)
 |_=>none
def Pa (A T:AS):List (Tm×Nat×Fa)->List (Nat×Nat×aa)
 |[]=>[]
 |(t,e,f)::r=>match tmX A t,KK A T f.c f.ts with
  |some X,some b=>(X,e,b)::Pa A T r
  |_,_=>Pa A T r
def Oq (A T:AS):List (Tm×Fa)->List (Nat×aa)
 |[]=>[]
 |(t,f)::r=>match tmX A t,KK A T f.c f.ts with
  |some X,some b=>(X,b)::Oq A T r
  |_,_=>Oq A T r
def mkQ (A B:AS) (an:An):Option Tq:=
 match ZR A B an ⟨0,[],0,[]⟩ B.fr with
 |some (fr,b1)=>(match gnO A B an 0 b1 (takeN A.ob.length B.ob) with
  |some (ob,b2)=>
   let q:Tq:=⟨b2.dn,b2.pl,b2.dt,ob,fr,b2.nf,[],[]⟩
   let q:={q with ze:=Oq A (A.tm q) an.ze}
   some {q with nf:=OA A (A.tm q) an.fs++b2.nf,pe:=Pa A (A.tm q) an.pe}
  |none=>none)
 |none=>none
def Yt (l:List An) (p:Nat) (A:AS):Option (Tq×aa):=
 match l with
 |[]=>none
 |an::r=>if Nat.beq an.p p then (match mkQ A A an with
  |some q=>(match KK A (A.tm q) an.me.c an.me.ts with
   |some me=>some (q,me)
   |none=>none)
  |none=>none) else Yt r p A
def V7 (l:List An) (p:Nat) (A:AS) (Bs:List AS):Option Tq:=
 match l with
 |[]=>none
 |an::r=>if Nat.beq an.p p then (match Bs with
  |B::_=>mkQ A B an
  |[]=>none) else V7 r p A Bs
inductive PT where
 |c (c:CT)
 |a (cs:List CT)
structure Ps where
 n:Nat
 m:Nat
 ls:List LI
 fs:List aa
def ge (v:Nat):aa:=⟨0,[(v,1)]⟩
def le (v:Nat) (n:Int):aa:=⟨n,[(v,-1)]⟩
def sZ (e:Nat):Bool:=gx e [3,26,32,103,139,141,252,1032] && !u9 e
def jl (lim:Int) (s:Ps):CT->SV×Ps
 | .i .u8=>(.i .u8 (.var s.n),{s with n:=s.n+1,fs:=ge s.n::le s.n 255::s.fs})
 | .i k=>(.i k (.var s.n),{s with n:=s.n+1})
 | .b=>(.b (.eq ((aa.var s.n).aG (-1))),{s with n:=s.n+1,fs:=ge s.n::le s.n 1::s.fs})
 | .s=>(.s (.var s.n),{s with n:=s.n+1,fs:=ge s.n::le s.n lim::s.fs})
 | .l k e=>(.l k s.m 0,⟨s.n+2,s.m+1,s.ls++[⟨k,e,.var s.n,.var (s.n+1)⟩],ge s.n::ge (s.n+1)::le s.n lim::(if sZ e then le (s.n+1) 16777216::s.fs else s.fs)⟩)
def ma (lim:Int) (s:Ps):List CT->List SV×Ps
 |[]=>([],s)
 |c::cs=>match jl lim s c with
  |(x,s1)=>match ma lim s1 cs with
   |(xs,s2)=>(x::xs,s2)
def mr (lim:Int) (s:Ps):PT->SV×Ps
 | .c c=>jl lim s c
 | .a cs=>match ma lim s cs with
  |(xs,s1)=>(.a xs,s1)
def cX (lim:Int) (s:Ps):List PT->List SV×Ps
 |[]=>([],s)
 |c::cs=>match mr lim s c with
  |(x,s1)=>match cX lim s1 cs with
   |(xs,s2)=>(x::xs,s2)
def bw (ps rs:List PT) (lim out:Int) (me:aa) (ef ea:List aa):az:=
 match cX lim ⟨0,0,[],[]⟩ ps with
 |(xs,s)=>match cX out ⟨s.n,s.m,[],[]⟩ rs with
  |(ys,t)=>⟨s.n,s.ls,xs,ef++s.fs,me,[⟨t.n,t.ls,nG ys,ea++t.fs,[],[]⟩],[]⟩
abbrev tE:PT:= .a [.i .i64,.s,.s,.s,.i .i64,.i .i64,.s,.l 2 252,.i .i64,.i .i64,.i .i64,.l 12 32]
abbrev tC:PT:= .a [.l 4 80,.l 18 84,.l 18 84,.l 18 84]
abbrev tF:PT:= .a [.s,.s,.i .i64,.l 2 252,.s,.i .i64,.s,.s,.s,.i .i64,.i .i64,.s,.l 2 252,.i .i64,.i .i64,.i .i64,.l 12 32,.i .i64]
abbrev tH:PT:= .a [.i .i64,.s,.s,.l 4 103,.i .i64,.s,.s,.i .i64,.l 2 252,.s,.i .i64,.s,.s,.s,.i .i64,.i .i64,.s,.l 2 252,.i .i64,.i .i64,.i .i64,.l 12 32,.i .i64,.s]
abbrev tV:PT:= .a [.i .i64,.i .i64,.s]
abbrev tT:PT:= .a [.i .i64,.l 2 252,.s]
abbrev tW:PT:= .a [.i .i64,.i .u64]
abbrev tX:PT:= .a [.i .i64,.s,.s,.s,.i .i64,.i .i64,.s,.l 2 252,.i .i64,.i .i64,.i .i64,.l 12 1032]
abbrev bz (ps rs:List PT):az:=bw ps rs 1048576 1048576 (.aZ 0) [] []
def Xt (sg:az) (v:Nat) (fs:List aa) (up:List (Nat×Nat)) (ex:List (Nat×aa×Nat)):az:=
 {sg with alts:=match sg.alts with
  |[a]=>[{a with fs:=fs++a.fs,up:=up,ex:=ex},{a with fs:=⟨-1,[(v,1)]⟩::a.fs}]
  |l=>l}
def Qw (vs:List Nat):List aa->List aa
 |[]=>[]
 |f::r=>if kQ (fun v=>f.beq (le v 16777216)) vs then Qw vs r else f::Qw vs r
def Lj (vs:List Nat) (g:az):az:={g with pf:=Qw vs g.pf,alts:=g.alts.map fun a=>{a with fs:=Qw vs a.fs}}
def aJ (l j:List An):zO:=⟨Yt l,V7 j⟩
end Go.Proofs.YtoopnalhhfmgaaaGreatDoor
namespace Go.Proofs.YtoopnalhhfmgaaaGreatDoor
open Go Go.V
def jv (lim:Int):CT->AV->Prop
 | .i k,v=>∃ n,v= .int k n/\U8 k n
 | .b,v=>∃ t,v= .bool t
 | .s,v=>∃ s:Bytes,v= .str s/\((s.length:Nat):Int)<=lim
 | .l k e,v=>∃ xs t,v= .sl k xs t/\ew k e xs/\((xs.length:Nat):Int)<=lim/\(sZ e=true->bh xs<=16777216)
def kj (lim:Int):List CT->List AV->Prop
 |[],vs=>vs=[]
 |c::cs,vs=>∃ w ws,vs=w::ws/\jv lim c w/\kj lim cs ws
def jo (lim:Int):PT->AV->Prop
 | .c c,v=>jv lim c v
 | .a cs,v=>∃ vs,v= .agg vs/\kj lim cs vs
def cU (lim:Int):List PT->List AV->Prop
 |[],vs=>vs=[]
 |p::ps,vs=>∃ w ws,vs=w::ws/\jo lim p w/\cU lim ps ws
def mq:AV->List Int
 | .int _ n=>[n]
 | .bool t=>[if t then 1 else 0]
 | .str s=>[((s.length:Nat):Int)]
 | .sl _ xs _=>[((xs.length:Nat):Int),((bh xs:Nat):Int)]
 |_=>[]
def wK:AV->List (List AV)
 | .sl _ xs _=>[xs]
 |_=>[]
def mi:List AV->List Int
 |[]=>[]
 |v::vs=>mq v++mi vs
def vw:List AV->List (List AV)
 |[]=>[]
 |v::vs=>wK v++vw vs
def sD:AV->List Int
 | .agg vs=>mi vs
 |v=>mq v
def J9:AV->List (List AV)
 | .agg vs=>vw vs
 |v=>wK v
def eJ:List AV->List Int
 |[]=>[]
 |v::vs=>sD v++eJ vs
def nS:List AV->List (List AV)
 |[]=>[]
 |v::vs=>J9 v++nS vs
def En.ext (E:En) (ns:List Int) (xs:List (List AV)):En:={E with ρ:=E.ρ++ns,χ:=E.χ++xs}
def En.s9 (E:En) (ns:List Int) (xs:List (List AV)):E.le (E.ext ns xs):=⟨⟨ns,rfl⟩,⟨xs,rfl⟩,⟨[],by simp [En.ext]⟩,⟨[],by simp [En.ext]⟩⟩
def En.tD (E:En) (a b:List Int) (x y:List (List AV)):(E.ext a x).ext b y=E.ext (a++b) (x++y):=by simp [En.ext]
def mJ {ρ:List Int} {v:Nat} {x:Int} (h:ρ[v]? =some x):(ge v).is ρ x:=aa.iI h
def jE {ρ:List Int} {v:Nat} {x:Int} (h:ρ[v]? =some x) (n:Int):(le v n).is ρ (n-x):=by
 have:=((aa.iI h).bG (-1)).aG n;have e1:((aa.var v).bG (-1)).aG n=le v n:=by simp [aa.var,aa.bG,aa.aG,le,sH,show rR (-1) 1=false from rfl,show rR (-1) 0=false from rfl]
 rw [e1] at this;have e2:(-1:Int)*x+n=n-x:=by omega
 rw [e2] at this;exact this
structure rL (m0:Nat) (s:Ps) (E:En):Prop where
 nv:E.ρ.length=s.n
 nl:E.χ.length=s.m
 len:s.m=m0+s.ls.length
 ls:∀ (X:Nat) li,s.ls[X]? =some li->∃ xs,E.χ[m0+X]? =some xs/\gv E li xs
 fs:aH E.ρ s.fs
section
variable {lim:Int} {m0:Nat} {s:Ps} {E:En}
def KP {ρ ns:List Int} {n:Nat} (h:ρ.length=n) (i:Nat):(ρ++ns)[n+i]? =ns[i]? :=by
 rw [AG (by omega),h]
 congr 1
 omega
def rL.put (h:rL m0 s E) {ns:List Int} {fs:List aa} {n:Nat} (hn:n=s.n+ns.length) (hf:aH (E.ρ++ns) fs):rL m0 {s with n:=n,fs:=fs++s.fs} (E.ext ns []):=by
 have hE:=E.s9 ns [];refine ⟨by simp [En.ext,h.nv,hn],by simp [En.ext,h.nl],h.len,fun X li e=>?_,fun f hm=>?_⟩
 ·obtain ⟨xs,h1,h2⟩:=h.ls X li e;exact ⟨xs,hE.χg h1,h2.le hE⟩
 ·rcases AA.1 hm with hm|hm
  ·exact hf f hm
  ·obtain ⟨x,h1,h2⟩:=h.fs f hm;exact ⟨x,h1.mono,h2⟩
def K8 (h:rL m0 s E) {c:CT} {v:AV} (hv:jv lim c v):rL m0 (jl lim s c).2 (E.ext (mq v) (wK v))/\(jl lim s c).1.rel (E.ext (mq v) (wK v)) v:=by
 have a0:∀ {x:Int} {ns:List Int},(E.ρ++(x::ns))[s.n]? =some x:=fun {x ns}=>by
  have:=KP (ns:=x::ns) h.nv 0;simpa using this
 cases c with
 |i k=>
  obtain ⟨n,rfl,hu⟩:=hv
  have hr:(SV.i k (.var s.n)).rel (E.ext (mq (.int k n)) (wK (.int k n))) (.int k n):=by
   simp only [SV.rel];exact ⟨n,aa.iI a0,hu,rfl⟩
  cases k<;>first
   |exact ⟨h.put (fs:=[]) rfl (aH.nil _),hr⟩
   |(have hu:=hu.b
     refine ⟨h.put (fs:=[ge s.n,le s.n 255]) rfl ?_,hr⟩
     exact ((aH.nil _).cons (jE a0 255) (by omega)).cons (mJ a0) (by omega))
 |b=>
  obtain ⟨t,rfl⟩:=hv;refine ⟨h.put (fs:=[ge s.n,le s.n 1]) rfl ?_,?_⟩
  ·exact ((aH.nil _).cons (jE a0 1) (by split<;>omega)).cons (mJ a0) (by split<;>omega)
  ·show (SV.b (.eq ((aa.var s.n).aG (-1)))).rel _ _;simp only [SV.rel,BE.is];refine ⟨t,⟨_,(aa.iI a0).aG (-1),?_⟩,rfl⟩;cases t<;>simp
 |s=>
  obtain ⟨t,rfl,hl⟩:=hv;refine ⟨h.put (fs:=[ge s.n,le s.n lim]) rfl ?_,?_⟩
  ·exact ((aH.nil _).cons (jE a0 lim) (by omega)).cons (mJ a0) (by omega)
  ·show (SV.s (.var s.n)).rel _ _;simp only [SV.rel];exact ⟨t,aa.iI a0,rfl⟩
 |l k e=>
  obtain ⟨xs,t,rfl,h1,h2,h3⟩:=hv
  have a1:(E.ρ++[((xs.length:Nat):Int),((bh xs:Nat):Int)])[s.n+1]? =some ((bh xs:Nat):Int):=by
   have:=KP (ns:=[((xs.length:Nat):Int),((bh xs:Nat):Int)]) h.nv 1;simpa using this
  have hE:=E.s9 (mq (.sl k xs t)) (wK (.sl k xs t))
  have hx:(E.ext (mq (.sl k xs t)) (wK (.sl k xs t))).χ[s.m]? =some xs:=by
   show (E.χ++[xs])[s.m]? =_;rw [<-h.nl];simp
  refine ⟨⟨?_,?_,?_,fun X li hli=>?_,?_⟩,?_⟩
  ·show (E.ρ++[_,_]).length=s.n+2;simp [h.nv]
  ·show (E.χ++[xs]).length=s.m+1;simp [h.nl]
  ·show s.m+1=m0+(s.ls++[_]).length;simp [h.len];omega
  ·have hli:(s.ls++[(⟨k,e,.var s.n,.var (s.n+1)⟩:LI)])[X]? =some li:=hli;rcases iR hli with hli|⟨rfl,rfl⟩
   ·obtain ⟨ys,h4,h5⟩:=h.ls X li hli;exact ⟨ys,hE.χg h4,h5.le hE⟩
   ·rw [<-h.len];exact ⟨xs,hx,h1,aa.iI a0,_,aa.iI a1,Ay _⟩
  ·show aH (E.ρ++[((xs.length:Nat):Int),((bh xs:Nat):Int)]) (ge s.n::ge (s.n+1)::le s.n lim::(if sZ e then le (s.n+1) 16777216::s.fs else s.fs));have h0:aH (E.ρ++[((xs.length:Nat):Int),((bh xs:Nat):Int)]) s.fs:=h.fs.mono;refine aH.cons (aH.cons (aH.cons ?_ (jE a0 lim) (by omega)) (mJ a1) (by omega)) (mJ a0) (by omega);split
   ·rename_i hi;have:=h3 hi;exact h0.cons (jE a1 16777216) (by omega)
   ·exact h0
  ·show (SV.l k s.m 0).rel _ _;simp only [SV.rel];exact ⟨xs,t,hx,trivial,rfl⟩
def GX:∀ {cs:List CT} {vs:List AV} {s:Ps} {E:En},rL m0 s E->kj lim cs vs->rL m0 (ma lim s cs).2 (E.ext (mi vs) (vw vs))/\ba (E.ext (mi vs) (vw vs)) (ma lim s cs).1 vs
 |[],vs,s,E,h,hv=>by
  cases hv;refine ⟨?_,rfl⟩;have:E.ext (mi []) (vw [])=E:=by simp [En.ext,mi,vw]
  rw [this];exact h
 |c::cs,vs,s,E,h,hv=>by
  obtain ⟨w,ws,rfl,h1,h2⟩:=hv;obtain ⟨h3,h4⟩:=K8 h h1;obtain ⟨h5,h6⟩:=GX h3 h2;rw [En.tD] at h5 h6;refine ⟨h5,?_⟩;have hE:=(E.ext (mq w) (wK w)).s9 (mi ws) (vw ws);rw [En.tD] at hE;exact aO.2 ⟨w,ws,h4.le hE,h6,rfl⟩
def CX {c:CT} {v:AV} (h:jv lim c v):sD v=mq v/\J9 v=wK v:=by
 cases c<;>simp only [jv] at h
 ·obtain ⟨_,rfl,_⟩:=h;exact ⟨rfl,rfl⟩
 ·obtain ⟨_,rfl⟩:=h;exact ⟨rfl,rfl⟩
 ·obtain ⟨_,rfl,_⟩:=h;exact ⟨rfl,rfl⟩
 ·obtain ⟨_,_,rfl,_⟩:=h;exact ⟨rfl,rfl⟩
def Zv (h:rL m0 s E) {p:PT} {v:AV} (hv:jo lim p v):rL m0 (mr lim s p).2 (E.ext (sD v) (J9 v))/\(mr lim s p).1.rel (E.ext (sD v) (J9 v)) v:=by
 cases p with
 |c c=>
  obtain ⟨h1,h2⟩:=CX (c:=c) hv;rw [h1,h2];exact K8 h hv
 |a cs=>
  obtain ⟨vs,rfl,h1⟩:=hv;obtain ⟨h2,h3⟩:=GX h h1;refine ⟨h2,?_⟩;show (SV.a (ma lim s cs).1).rel _ _;simp only [SV.rel];exact ⟨vs,h3,rfl⟩
def ue:∀ {ps:List PT} {vs:List AV} {s:Ps} {E:En},rL m0 s E->cU lim ps vs->rL m0 (cX lim s ps).2 (E.ext (eJ vs) (nS vs))/\ba (E.ext (eJ vs) (nS vs)) (cX lim s ps).1 vs
 |[],vs,s,E,h,hv=>by
  cases hv;refine ⟨?_,rfl⟩;have:E.ext (eJ []) (nS [])=E:=by simp [En.ext,eJ,nS]
  rw [this];exact h
 |c::cs,vs,s,E,h,hv=>by
  obtain ⟨w,ws,rfl,h1,h2⟩:=hv;obtain ⟨h3,h4⟩:=Zv h h1;obtain ⟨h5,h6⟩:=ue h3 h2;rw [En.tD] at h5 h6;refine ⟨h5,?_⟩;have hE:=(E.ext (sD w) (J9 w)).s9 (eJ ws) (nS ws);rw [En.tD] at hE;exact aO.2 ⟨w,ws,h4.le hE,h6,rfl⟩
def rC (ρ:List Int) (n:Nat):AV->Prop
 | .int _ x=>ρ[n]? =some x
 | .bool t=>ρ[n]? =some (if t then 1 else 0)
 | .str s=>ρ[n]? =some ((s.length:Nat):Int)
 | .sl _ xs _=>ρ[n]? =some ((xs.length:Nat):Int)/\∃ z:Int,ρ[n+1]? =some z/\((bh xs:Nat):Int)<=z
 |_=>True
def qy (ρ:List Int) (n:Nat):List AV->Prop
 |[]=>True
 |v::vs=>rC ρ n v/\qy ρ (n+(mq v).length) vs
def zn (ρ:List Int) (n:Nat):AV->Prop
 | .agg vs=>qy ρ n vs
 |v=>rC ρ n v
def nY (ρ:List Int) (n:Nat):List AV->Prop
 |[]=>True
 |v::vs=>zn ρ n v/\nY ρ (n+(sD v).length) vs
structure Ps.le (s t:Ps):Prop where
 ls:∃ r,t.ls=s.ls++r/\t.m=s.m+r.length
 fs:∀ f∈s.fs,f∈t.fs
def Ps.le.refl (s:Ps):s.le s:=⟨⟨[],by simp⟩,fun _ h=>h⟩
def Ps.le.trans {s t u:Ps} (h:s.le t) (h2:t.le u):s.le u:=by
 obtain ⟨⟨r,a,b⟩,c⟩:=h;obtain ⟨⟨r2,a2,b2⟩,c2⟩:=h2;exact ⟨⟨r++r2,by rw [a2,a,AL],by rw [b2,b,Ak,A2]⟩,fun f hf=>c2 f (c f hf)⟩
def KD (s:Ps) (c:CT):s.le (jl lim s c).2:=by
 cases c with
 |i k=>cases k<;>exact ⟨⟨[],by simp [jl]⟩,fun f hf=>by simp [jl,hf]⟩
 |b=>exact ⟨⟨[],by simp [jl]⟩,fun f hf=>by simp [jl,hf]⟩
 |s=>exact ⟨⟨[],by simp [jl]⟩,fun f hf=>by simp [jl,hf]⟩
 |l k e=>exact ⟨⟨[_],rfl,rfl⟩,fun f hf=>by simp only [jl];split<;>simp [hf]⟩
def zx:∀ (cs:List CT) (s:Ps),s.le (ma lim s cs).2
 |[],s=> .refl s
 |c::cs,s=>(KD s c).trans (zx cs _)
def Zw (s:Ps) (p:PT):s.le (mr lim s p).2:=by
 cases p with
 |c c=>exact KD s c
 |a cs=>exact zx cs s
def GC:∀ (ps:List PT) (s:Ps),s.le (cX lim s ps).2
 |[],s=> .refl s
 |p::ps,s=>(Zw s p).trans (GC ps _)
structure xk (m0:Nat) (t:Ps) (E:En):Prop where
 ls:∀ (X:Nat) li,t.ls[X]? =some li->∃ xs,E.χ[m0+X]? =some xs/\gv E li xs
 fs:aH E.ρ t.fs
def xk.mono {t u:Ps} (h:xk m0 u E) (hl:t.le u):xk m0 t E:=by
 obtain ⟨⟨r,a,_⟩,c⟩:=hl;exact ⟨fun X li e=>h.ls X li (by rw [a];exact gb e),fun f hf=>h.fs f (c f hf)⟩
def pU {ρ:List Int} {v:Nat} {x:Int} (h:(aa.var v).is ρ x):ρ[v]? =some x:=by
 obtain ⟨h1,h2⟩:=h;simp only [aa.var,da,BS] at h1;have hv:v<ρ.length:=dx.1 h1;rw [AJ hv];simp only [aa.val,aa.var,b9,vr,AJ hv,Option.getD_some] at h2
 congr 1
 omega
def C4 {ρ:List Int} {v:Nat} {n x:Int} {fs:List aa} (hf:aH ρ fs) (hm:le v n∈fs) (h:ρ[v]? =some x):x<=n:=by
 obtain ⟨y,h1,h2⟩:=hf _ hm;have:=h1.uniq (jE h n);omega
def ad5 {ρ:List Int} {v:Nat} {x:Int} {fs:List aa} (hf:aH ρ fs) (hm:ge v∈fs) (h:ρ[v]? =some x):0<=x:=by
 obtain ⟨y,h1,h2⟩:=hf _ hm;have:=h1.uniq (mJ h);omega
def LW {c:CT} {v:AV} (hl:s.m=m0+s.ls.length) (h:xk m0 (jl lim s c).2 E) (hr:(jl lim s c).1.rel E v):jv lim c v/\rC E.ρ s.n v/\(jl lim s c).2.n=s.n+(mq v).length/\(jl lim s c).2.m=m0+(jl lim s c).2.ls.length:=by
 cases c with
 |i k=>
  have e:(jl lim s (.i k)).1= .i k (.var s.n)/\(jl lim s (.i k)).2.n=s.n+1/\(jl lim s (.i k)).2.m=s.m/\(jl lim s (.i k)).2.ls=s.ls:=by cases k<;>exact ⟨rfl,rfl,rfl,rfl⟩
  rw [e.1] at hr;simp only [SV.rel] at hr;obtain ⟨n,h1,h2,rfl⟩:=hr;refine ⟨⟨n,rfl,h2⟩,pU h1,by rw [e.2.1];rfl,by rw [e.2.2.1,e.2.2.2];exact hl⟩
 |b=>
  have hr:(SV.b (.eq ((aa.var s.n).aG (-1)))).rel E v:=hr;simp only [SV.rel,BE.is] at hr;obtain ⟨t,⟨x,h1,rfl⟩,rfl⟩:=hr
  have h2:(aa.var s.n).is E.ρ (x+1):=by
   have:=h1.aG 1;simpa [aa.aG,aa.var] using this
  have h3:=pU h2;have g1:=ad5 h.fs (show ge s.n∈ge s.n::le s.n 1::s.fs by simp) h3;have g2:=C4 h.fs (show le s.n 1∈ge s.n::le s.n 1::s.fs by simp) h3;refine ⟨⟨_,rfl⟩,?_,rfl,hl⟩;simp only [rC,decide_eq_true_eq];rw [h3]
  congr 1
  split<;>omega
 |s=>
  have hr:(SV.s (.var s.n)).rel E v:=hr;simp only [SV.rel] at hr;obtain ⟨t,h1,rfl⟩:=hr;have h3:=pU h1;have g2:=C4 h.fs (show le s.n lim∈ge s.n::le s.n lim::s.fs by simp) h3;exact ⟨⟨t,rfl,g2⟩,h3,rfl,hl⟩
 |l k e=>
  have hr:(SV.l k s.m 0).rel E v:=hr;simp only [SV.rel] at hr;obtain ⟨xs,t,h1,_,rfl⟩:=hr;obtain ⟨ys,h2,h3⟩:=h.ls s.ls.length ⟨k,e,.var s.n,.var (s.n+1)⟩ (by simp [jl]);rw [<-hl,h1] at h2;cases h2;have h4:=pU h3.n;obtain ⟨z,h5,h6⟩:=h3.z;have h7:=pU h5;have g2:=C4 h.fs (show le s.n lim∈ge s.n::ge (s.n+1)::le s.n lim::(if sZ e then le (s.n+1) 16777216::s.fs else s.fs) by simp) h4;refine ⟨⟨xs,t,rfl,h3.el,g2,fun hi=>?_⟩,⟨h4,z,h7,h6⟩,rfl,?_⟩
  ·have g3:=C4 h.fs (show le (s.n+1) 16777216∈ge s.n::ge (s.n+1)::le s.n lim::(if sZ e then le (s.n+1) 16777216::s.fs else s.fs) by simp [hi]) h7;omega
  ·show s.m+1=m0+(s.ls++[_]).length;simp [hl];omega
def HI:∀ {cs:List CT} {vs:List AV} {s:Ps},s.m=m0+s.ls.length->xk m0 (ma lim s cs).2 E->ba E (ma lim s cs).1 vs->kj lim cs vs/\qy E.ρ s.n vs/\(ma lim s cs).2.n=s.n+(mi vs).length/\(ma lim s cs).2.m=m0+(ma lim s cs).2.ls.length
 |[],vs,s,hl,h,hr=>by
  rw [aV.1 hr];exact ⟨rfl,trivial,rfl,hl⟩
 |c::cs,vs,s,hl,h,hr=>by
  obtain ⟨w,ws,h1,h2,rfl⟩:=aO.1 hr;obtain ⟨a1,a2,a3,a4⟩:=LW hl (h.mono (zx cs _)) h1;obtain ⟨b1,b2,b3,b4⟩:=HI a4 h h2;rw [a3] at b2 b3;refine ⟨⟨w,ws,rfl,a1,b1⟩,⟨a2,b2⟩,?_,b4⟩;show _=s.n+(mq w++mi ws).length;rw [Ak,<-A2];exact b3
def Wh {p:PT} {v:AV} (hl:s.m=m0+s.ls.length) (h:xk m0 (mr lim s p).2 E) (hr:(mr lim s p).1.rel E v):jo lim p v/\zn E.ρ s.n v/\(mr lim s p).2.n=s.n+(sD v).length/\(mr lim s p).2.m=m0+(mr lim s p).2.ls.length:=by
 cases p with
 |c c=>
  obtain ⟨a1,a2,a3,a4⟩:=LW (c:=c) hl h hr;rw [(CX a1).1];refine ⟨a1,?_,a3,a4⟩;cases c<;>simp only [jv] at a1
  ·obtain ⟨_,rfl,_⟩:=a1;exact a2
  ·obtain ⟨_,rfl⟩:=a1;exact a2
  ·obtain ⟨_,rfl,_⟩:=a1;exact a2
  ·obtain ⟨_,_,rfl,_⟩:=a1;exact a2
 |a cs=>
  have hr:(SV.a (ma lim s cs).1).rel E v:=hr;simp only [SV.rel] at hr;obtain ⟨vs,h1,rfl⟩:=hr;obtain ⟨a1,a2,a3,a4⟩:=HI hl h h1;exact ⟨⟨vs,rfl,a1⟩,a2,a3,a4⟩
def tG:∀ {ps:List PT} {vs:List AV} {s:Ps},s.m=m0+s.ls.length->xk m0 (cX lim s ps).2 E->ba E (cX lim s ps).1 vs->cU lim ps vs/\nY E.ρ s.n vs/\(cX lim s ps).2.n=s.n+(eJ vs).length/\(cX lim s ps).2.m=m0+(cX lim s ps).2.ls.length
 |[],vs,s,hl,h,hr=>by
  rw [aV.1 hr];exact ⟨rfl,trivial,rfl,hl⟩
 |c::cs,vs,s,hl,h,hr=>by
  obtain ⟨w,ws,h1,h2,rfl⟩:=aO.1 hr;obtain ⟨a1,a2,a3,a4⟩:=Wh hl (h.mono (GC cs _)) h1;obtain ⟨b1,b2,b3,b4⟩:=tG a4 h h2;rw [a3] at b2 b3;refine ⟨⟨w,ws,rfl,a1,b1⟩,⟨a2,b2⟩,?_,b4⟩;show _=s.n+(sD w++eJ ws).length;rw [Ak,<-A2];exact b3
end
variable {P:Program} {gl:List (Nat×List AV)} {f:FuncId} {ps qs:List PT} {lim out:Int} {me:aa} {ef ea:List aa} {b:Int->Prop}
def Mc {E:En}:∀ {xs:List SV} {v:AV},(nG xs).rel E v->(∃ x,xs=[x]/\x.rel E v)∨(xs.length≠1/\∃ vs,v= .aF vs/\ba E xs vs)
 |[],v,h=> .inr ⟨by simp,by
  have h:(SV.aF []).rel E v:=h;simp only [SV.rel] at h;obtain ⟨vs,h1,h2⟩:=h
  exact ⟨vs,h2,h1⟩⟩
 |[x],v,h=> .inl ⟨x,rfl,h⟩
 |x::y::r,v,h=> .inr ⟨by simp,by
  have h:(SV.aF (x::y::r)).rel E v:=h;simp only [SV.rel] at h;obtain ⟨vs,h1,h2⟩:=h
  exact ⟨vs,h2,h1⟩⟩
def dy (hs:Spec P gl f (bw ps qs lim out me ef ea) (fun _=>True)) {as:List AV} (ha:cU lim ps as) (hef:aH (eJ as) ef):
  ∃ rs,Pure P gl f as (.ok (dw rs))/\cU out qs rs/\∃ ρ,nY (eJ as++ρ) (eJ as).length rs/\aH (eJ as++ρ) ea:=by
 obtain ⟨h1,h2⟩:=ue (m0:=0) (lim:=lim) (s:=⟨0,0,[],[]⟩) (E:=Em) ⟨rfl,rfl,rfl,fun X li e=>by simp at e,aH.nil _⟩ ha;have hρ:(Em.ext (eJ as) (nS as)).ρ=eJ as:=by simp [En.ext,Em]
 obtain ⟨r,h3,alt,h4,Er,h5⟩:=hs (Em.ext (eJ as) (nS as)) as ⟨h1.nv,by rw [h1.nl,h1.len,Aw];rfl,rfl,rfl,fun X li e=>by
  obtain ⟨xs,a,b⟩:=h1.ls X li e
  exact ⟨xs,by simpa using a,b⟩,h2,fun e he=>by
   rcases AA.1 he with he|he
   ·rw [hρ];exact hef e he
   ·exact h1.fs e he,fun h=>absurd rfl h⟩ (fun _ _=>trivial)
 have h4:alt=_:=Ax.1 h4;subst h4;obtain ⟨ρ,hr⟩:=h5.le.ρ;rw [hρ] at hr;have hm:(cX lim ⟨0,0,[],[]⟩ ps).2.m=(cX lim ⟨0,0,[],[]⟩ ps).2.ls.length:=by rw [h1.len,Aw]
 have hJ:xk (cX lim ⟨0,0,[],[]⟩ ps).2.m (cX out ⟨(cX lim ⟨0,0,[],[]⟩ ps).2.n,(cX lim ⟨0,0,[],[]⟩ ps).2.m,[],[]⟩ qs).2 Er:=⟨fun X li e=>by rw [hm];exact h5.ls X li e,fun e he=>h5.fs e (Bc _ he)⟩
 have hea:aH (eJ as++ρ) ea:=by
  rw [<-hr];exact fun e he=>h5.fs e (AW _ he)
 have hn:(cX lim ⟨0,0,[],[]⟩ ps).2.n=(eJ as).length:=by rw [<-h1.nv,hρ]
 rcases Mc h5.r with ⟨x,e1,e2⟩|⟨e1,vs,rfl,e2⟩
 ·have e3:ba Er (cX out ⟨(cX lim ⟨0,0,[],[]⟩ ps).2.n,(cX lim ⟨0,0,[],[]⟩ ps).2.m,[],[]⟩ qs).1 [r]:=by
   rw [e1];exact aO.2 ⟨r,[],e2,aV.2 rfl,rfl⟩
  obtain ⟨a1,a2,_,_⟩:=tG rfl hJ e3;rw [hr,hn] at a2;exact ⟨[r],h3,a1,ρ,a2,hea⟩
 ·obtain ⟨a1,a2,_,_⟩:=tG rfl hJ e2;rw [hr,hn] at a2;refine ⟨vs,?_,a1,ρ,a2,hea⟩;have e4:=bV e2
  have:dw vs= .aF vs:=by
   match vs,e4 with
   |[],_=>rfl
   |[x],e4=>exact absurd e4.symm e1
   |_::_::_,_=>rfl
  rw [this];exact h3
def gJ (h:∀ ρ as,cU lim ps as->nY ρ 0 as->ρ.length=(eJ as).length->aH ρ ef->∃ rs,Pure P gl f as (.ok (dw rs))/\cU out qs rs/\aH (ρ++eJ rs) ea) (hq:∀ rs,cU out qs rs->∀ E:En,ba E (cX out ⟨(cX lim ⟨0,0,[],[]⟩ ps).2.n,(cX lim ⟨0,0,[],[]⟩ ps).2.m,[],[]⟩ qs).1 rs->(nG (cX out ⟨(cX lim ⟨0,0,[],[]⟩ ps).2.n,(cX lim ⟨0,0,[],[]⟩ ps).2.m,[],[]⟩ qs).1).rel E (dw rs)):Spec P gl f (bw ps qs lim out me ef ea) b:=by
 intro Es as hp _
 have hJ:xk 0 (cX lim ⟨0,0,[],[]⟩ ps).2 Es:=⟨fun X li e=>by
  obtain ⟨xs,a,b⟩:=hp.ls X li e
  exact ⟨xs,by simpa using a,b⟩,fun e he=>hp.fs e (Bc _ he)⟩
 obtain ⟨a1,a2,a3,a4⟩:=tG (s:=⟨0,0,[],[]⟩) rfl hJ hp.as;obtain ⟨rs,h1,h2,h3⟩:=h Es.ρ as a1 a2 (hp.nv.trans (a3.trans (Aw _))) (fun e he=>hp.fs e (AW _ he));have hI:rL (cX lim ⟨0,0,[],[]⟩ ps).2.m ⟨(cX lim ⟨0,0,[],[]⟩ ps).2.n,(cX lim ⟨0,0,[],[]⟩ ps).2.m,[],[]⟩ Es:=⟨hp.nv,hp.nl.trans (a4.trans (Aw _)).symm,rfl,fun X li e=>by simp at e,aH.nil _⟩;obtain ⟨h4,h5⟩:=ue hI h2;refine ⟨_,h1,_,Ax.2 rfl,Es.ext (eJ rs) (nS rs),⟨Es.s9 _ _,h4.nv,?_,hp.θ,hp.κ,fun i li e=>?_,hq rs h2 _ h5,fun e he=>?_,fun q hq=>(by cases hq),fun q hq=>(by cases hq)⟩⟩
 ·rw [h4.nl,h4.len,a4,Aw];rfl
 ·obtain ⟨xs,a,b⟩:=h4.ls i li e;refine ⟨xs,?_,b⟩;have:(cX lim ⟨0,0,[],[]⟩ ps).2.m=(cX lim ⟨0,0,[],[]⟩ ps).2.ls.length:=by rw [a4,Aw]
  rw [this] at a;exact a
 ·rcases AA.1 he with he|he
  ·exact h3 e he
  ·exact h4.fs e he
def qF {s:Ps} {q:PT} {rs:List AV} {E:En} (h:ba E (cX out s [q]).1 rs):(nG (cX out s [q]).1).rel E (dw rs):=by
 obtain ⟨w,ws,h1,h2,rfl⟩:=aO.1 (show ba E [(mr out s q).1] rs from h);rw [aV.1 h2];exact h1
def aaf {s:Ps} {q q':PT} {rs:List AV} {E:En} (h:ba E (cX out s [q,q']).1 rs):(nG (cX out s [q,q']).1).rel E (dw rs):=by
 have h:ba E [(mr out s q).1,(mr out (mr out s q).2 q').1] rs:=h;obtain ⟨w,ws,h1,h2,rfl⟩:=aO.1 h;obtain ⟨w2,ws2,h3,h4,rfl⟩:=aO.1 h2;have h5:=aV.1 h4;subst h5;show (SV.aF [(mr out s q).1,(mr out (mr out s q).2 q').1]).rel E (.aF [w,w2]);simp only [SV.rel];exact ⟨_,h,rfl⟩
end Go.Proofs.YtoopnalhhfmgaaaGreatDoor
namespace Go.Proofs.YtoopnalhhfmgaaaGreatDoor
open Go Go.V
set_option maxRecDepth 100000
variable {gl:List (Nat×List AV)}
def jB (t:Nat) (d:List Nat) (v:Nat):Nat:=if v=t then 1 else d.getD v 0+1
def eR (t i:Nat) (p:List Nat×Bool) (v:Nat):List Nat×Bool:=if jB t p.1 v<p.1.getD i 0 then (p.1.set i (jB t p.1 v),true) else p
def ie (t i:Nat):List Nat->List Nat×Bool->List Nat×Bool
 |[],p=>p
 |v::r,p=>ie t i r (eR t i p v)
def gF (t:Nat):Nat->List (List Nat)->List Nat×Bool->List Nat×Bool
 |_,[],p=>p
 |i,r::rs,p=>gF t (i+1) rs (ie t i r p)
def tZ (t:Nat) (rows:List (List Nat)):Nat->List Nat->List Nat
 |0,d=>d
 |f+1,d=>match gF t 0 rows (d,false) with
  |(e,true)=>tZ t rows f e
  |(e,false)=>e
def jG:List Nat->Nat
 |[]=>0
 |x::xs=>x+jG xs
def fm (rows:List (List Nat)) (t:Nat):List Nat:=tZ t rows (1000*rows.length+1) (List.replicate rows.length 1000)
def rn (d:List Nat) (i n j:Nat):(d.set i n).getD j 0=if i=j/\j<d.length then n else d.getD j 0:=by
 simp only [AU,List.getElem?_set]
 by_cases h:i=j
 ·subst h
  by_cases h2:i<d.length
  ·simp [h2]
  ·simp [h2]
 ·simp [h]
def Gw:∀ (d:List Nat) (i n:Nat),n<d.getD i 0->jG (d.set i n)<jG d
 |[],i,n,h=>by simp at h
 |x::d,0,n,h=>by
  simp only [List.getD_cons_zero] at h;simp only [List.set_cons_zero,jG];omega
 |x::d,i+1,n,h=>by
  simp only [List.getD_cons_succ] at h;have:=Gw d i n h;simp only [List.set_cons_succ,jG];omega
structure Rd (p q:List Nat×Bool):Prop where
 len:q.1.length=p.1.length
 le:∀ j,q.1.getD j 0<=p.1.getD j 0
 pos:(∀ j,j<p.1.length->1<=p.1.getD j 0)->∀ j,j<q.1.length->1<=q.1.getD j 0
 same:q=p∨(q.2=true/\jG q.1<jG p.1)
def Rd.refl (p:List Nat×Bool):Rd p p:=⟨rfl,fun _=>Af _,fun h=>h,.inl rfl⟩
def Rd.trans {p q r:List Nat×Bool} (h:Rd p q) (h2:Rd q r):Rd p r:=by
 refine ⟨h2.len.trans h.len,fun j=>AH (h2.le j) (h.le j),fun hp=>h2.pos (h.pos hp),?_⟩;rcases h.same with rfl|⟨a,b⟩
 ·exact h2.same
 ·rcases h2.same with rfl|⟨c,d⟩
  ·exact .inr ⟨a,b⟩
  ·exact .inr ⟨c,Nat.lt_trans d b⟩
def U3 (t:Nat) (d:List Nat) (v:Nat):1<=jB t d v:=by unfold jB;split<;>omega
def qE (t i:Nat) (p:List Nat×Bool) (v:Nat):Rd p (eR t i p v):=by
 unfold eR;split
 ·rename_i h;refine ⟨by simp,fun j=>?_,fun hp j hj=>?_,.inr ⟨rfl,Gw _ _ _ h⟩⟩
  ·simp only [rn];split
   ·rename_i h2;rw [<-h2.1];omega
   ·exact Af _
  ·simp only [rn];simp only [BQ] at hj;split
   ·exact U3 _ _ _
   ·exact hp j hj
 ·exact Rd.refl p
def ur (t i:Nat):∀ (r:List Nat) (p:List Nat×Bool),Rd p (ie t i r p)
 |[],p=>Rd.refl p
 |v::r,p=>(qE t i p v).trans (ur t i r _)
def ow (t:Nat):∀ (rs:List (List Nat)) (i:Nat) (p:List Nat×Bool),Rd p (gF t i rs p)
 |[],_,p=>Rd.refl p
 |r::rs,i,p=>(ur t i r p).trans (ow t rs (i+1) _)
def ME {t:Nat} {d e:List Nat} (h:∀ j,e.getD j 0<=d.getD j 0) (v:Nat):jB t e v<=jB t d v:=by
 unfold jB;split
 ·exact Af _
 ·have:=h v;omega
def DE (t:Nat) (rows:List (List Nat)) (d:List Nat):Prop:=∀ i,i<rows.length->d.getD i 0=1000∨∃ v∈rows.getD i [],jB t d v<=d.getD i 0
def Md {t i:Nat} {rows:List (List Nat)} {p:List Nat×Bool} {v:Nat} (hv:v∈rows.getD i []) (hl:p.1.length=rows.length) (h:DE t rows p.1):DE t rows (eR t i p v).1:=by
 intro j hj;have hle:=(qE t i p v).le;unfold eR at*;split at hle
 ·rename_i hn;rw [if_pos hn]
  by_cases hij:i=j
  ·subst hij;refine .inr ⟨v,hv,?_⟩;have h1:=ME hle v (t:=t);have h2:(p.1.set i (jB t p.1 v)).getD i 0=jB t p.1 v:=by rw [rn,if_pos ⟨rfl,by omega⟩]
   rw [h2];exact h1
  ·have h2:(p.1.set i (jB t p.1 v)).getD j 0=p.1.getD j 0:=by rw [rn,if_neg (fun e=>hij e.1)]
   rw [h2];rcases h j hj with h3|⟨w,h3,h4⟩
   ·exact .inl h3
   ·exact .inr ⟨w,h3,AH (ME hle w) h4⟩
 ·rename_i hn;rw [if_neg hn];exact h j hj
def Eu {t i:Nat} {rows:List (List Nat)}:∀ {r:List Nat} {p:List Nat×Bool},(∀ v∈r,v∈rows.getD i [])->p.1.length=rows.length->DE t rows p.1->DE t rows (ie t i r p).1
 |[],_,_,_,h=>h
 |v::r,p,hr,hl,h=>Eu (r:=r) (p:=eR t i p v) (fun w hw=>hr w (by simp [hw])) (by rw [(qE t i p v).len,hl]) (Md (hr v (by simp)) hl h)
def yp {t:Nat} {rows:List (List Nat)}:∀ {rs:List (List Nat)} {i:Nat} {p:List Nat×Bool},rows.drop i=rs->p.1.length=rows.length->DE t rows p.1->DE t rows (gF t i rs p).1
 |[],_,_,_,_,h=>h
 |r::rs,i,p,hd,hl,h=>by
  have hi:rows[i]? =some r:=by
   have:(rows.drop i)[0]? =some r:=by rw [hd];rfl
   simpa using this
  refine yp (rs:=rs) ?_ (by rw [(ur t i r p).len,hl]) (Eu (fun v hv=>?_) hl h)
  ·rw [<-Bk,hd];rfl
  ·rw [AU,hi];exact hv
def FO {t i:Nat}:∀ {r:List Nat} {p:List Nat×Bool},p.2=false->(ie t i r p).2=false->ie t i r p=p/\∀ v∈r,p.1.getD i 0<=jB t p.1 v
 |[],p,_,_=>⟨rfl,fun v hv=>by cases hv⟩
 |v::r,p,h0,h=>by
  have h1:eR t i p v=p/\p.1.getD i 0<=jB t p.1 v:=by
   by_cases hn:jB t p.1 v<p.1.getD i 0
   ·have e:(eR t i p v).2=true:=by unfold eR;rw [if_pos hn]
    have h2:=(ur t i r (eR t i p v)).same;have h:(ie t i r (eR t i p v)).2=false:=h;rcases h2 with h2|h2
    ·rw [h2,e] at h;cases h
    ·rw [h2.1] at h;cases h
   ·exact ⟨by unfold eR;rw [if_neg hn],Am hn⟩
  have h:(ie t i r (eR t i p v)).2=false:=h;rw [h1.1] at h;obtain ⟨h3,h4⟩:=FO h0 h;refine ⟨?_,fun w hw=>?_⟩
  ·show ie t i r (eR t i p v)=p;rw [h1.1,h3]
  ·rcases Ab.1 hw with rfl|hw
   ·exact h1.2
   ·exact h4 w hw
def xG {t:Nat} {rows:List (List Nat)}:∀ {rs:List (List Nat)} {i:Nat} {p:List Nat×Bool},rows.drop i=rs->p.2=false->(gF t i rs p).2=false->gF t i rs p=p/\∀ j,i<=j->∀ v∈rows.getD j [],p.1.getD j 0<=jB t p.1 v
 |[],i,p,hd,_,_=>⟨rfl,fun j hj v hv=>by
  have:rows.length<=i:=by
   have:=congrArg List.length hd;simp at this;omega
  rw [AU,As (by omega)] at hv
  cases hv⟩
 |r::rs,i,p,hd,h0,h=>by
  have hi:rows[i]? =some r:=by
   have:(rows.drop i)[0]? =some r:=by rw [hd];rfl
   simpa using this
  have h:(gF t (i+1) rs (ie t i r p)).2=false:=h
  have h1:(ie t i r p).2=false:=by
   rcases (ow t rs (i+1) (ie t i r p)).same with h2|h2
   ·rw [h2] at h;exact h
   ·rw [h2.1] at h;cases h
  obtain ⟨h2,h3⟩:=FO h0 h1;rw [h2] at h;obtain ⟨h4,h5⟩:=xG (rows:=rows) (rs:=rs) (by rw [<-Bk,hd];rfl) h0 h;refine ⟨?_,fun j hj v hv=>?_⟩
  ·show gF t (i+1) rs (ie t i r p)=p;rw [h2,h4]
  ·rcases Al i j with hij|hij
   ·exact h5 j hij v hv
   ·have:j=i:=by omega
    subst this;rw [AU,hi] at hv;exact h3 v hv
structure Zb (rows:List (List Nat)) (t:Nat) (d:List Nat):Prop where
 len:d.length=rows.length
 le:∀ j,d.getD j 0<=1000
 pos:∀ j,j<d.length->1<=d.getD j 0
 by':∀ i,i<rows.length->d.getD i 0=1000∨∃ v∈rows.getD i [],jB t d v=d.getD i 0
def Et {t:Nat} {rows:List (List Nat)}:∀ {f:Nat} {d:List Nat},jG d<f->d.length=rows.length->(∀ j,d.getD j 0<=1000)->(∀ j,j<d.length->1<=d.getD j 0)->DE t rows d->Zb rows t (tZ t rows f d)
 |0,_,h,_,_,_,_=>absurd h (Ck _)
 |f+1,d,h,hl,hle,hp,hw=>by
  have hr:=ow t rows 0 (d,false);have hw2:=yp (t:=t) (rows:=rows) (rs:=rows) (i:=0) (p:=(d,false)) rfl hl hw;unfold tZ;split
  ·rename_i e he;rw [he] at hr hw2
   have hs:jG e<jG d:=by
    rcases hr.same with h1|h1
    ·cases h1
    ·exact h1.2
   exact Et (by omega) (hr.len.trans hl) (fun j=>AH (hr.le j) (hle j)) (hr.pos hp) hw2
  ·rename_i e he;have hf:=xG (t:=t) (rows:=rows) (rs:=rows) (i:=0) (p:=(d,false)) rfl rfl (by rw [he]);rw [he] at hf;obtain ⟨h1,h2⟩:=hf;cases h1;refine ⟨hl,hle,hp,fun i hi=>?_⟩;rcases hw i hi with h3|⟨v,h3,h4⟩
   ·exact .inl h3
   ·exact .inr ⟨v,h3,Nat.le_antisymm h4 (h2 i (Au _) v h3)⟩
def G7 (n k:Nat):jG (List.replicate n k)=k*n:=by
 induction n with
 |zero=>rfl
 |succ n ih=>
  rw [List.replicate_succ,jG,ih,Nat.mul_succ];omega
def qu (n k j:Nat):(List.replicate n k).getD j 0=if j<n then k else 0:=by
 rw [AU,List.getElem?_replicate];split<;>rfl
def sE (rows:List (List Nat)) (t:Nat):Zb rows t (fm rows t):=by
 refine Et ?_ (by simp) (fun j=>?_) (fun j hj=>?_) (fun i hi=>?_)
 ·rw [G7];omega
 ·rw [qu];split<;>omega
 ·rw [qu];simp at hj;rw [if_pos hj];omega
 ·rw [qu,if_pos hi];exact .inl rfl
def mz (rows:List (List Nat)) (d:List Nat):Nat->Nat->List Nat
 |0,_=>[]
 |n+1,x=>match (rows.getD x []).find? (fun v=>d.getD v 0==n+1) with
  |some v=>v::mz rows d n v
  |none=>[]
def KZ {rows:List (List Nat)} {t:Nat} {d:List Nat} (h:Zb rows t d) {x n:Nat} (hx:x<rows.length) (hd:d.getD x 0=n+1+1) (hn:n+2<1000):∃ v,(rows.getD x []).find? (fun v=>d.getD v 0==n+1)=some v:=by
 rcases h.by' x hx with h1|⟨v,h1,h2⟩
 ·omega
 ·have:d.getD v 0=n+1:=by
   unfold jB at h2;split at h2<;>omega
  cases hf:(rows.getD x []).find? (fun v=>d.getD v 0==n+1) with
  |some w=>exact ⟨w,rfl⟩
  |none=>
   have:=List.find?_eq_none.1 hf v h1
   simp_all
mutual
def P7:∀ v:AV,v.fg.fg=v.fg
 | .sl k xs t=>by simp only [AV.fg,px xs]
 | .agg cs=>by simp only [AV.fg,px cs]
 | .aF cs=>by simp only [AV.fg,px cs]
 | .cH t v=>by simp only [AV.fg,P7 v]
 | .dd| .bool _| .int _ _| .str _| .cS| .ptr _ _| .gp _ _| .eX _ _ _ _| .fn _ _ _| .fw| .cV| .bu _| .aL _ _ _ _| .aM _ _ _ _| .bZ ..| .mp _| .gL| .eV _ _| .jy ..=>by simp [AV.fg]
def px:∀ xs:List AV,AV.bx (AV.bx xs)=AV.bx xs
 |[]=>by simp [AV.bx]
 |x::xs=>by simp only [AV.bx,P7 x,px xs]
end
def jW (xs:List AV):(xs.map AV.fg).map AV.fg=xs.map AV.fg:=by
 have:=px xs;simpa only [di] using this
def jv.fg {lim:Int} {c:CT} {v:AV} (h:jv lim c v):jv lim c v.fg:=by
 cases c with
 |i k=>obtain ⟨n,rfl,h⟩:=h;exact ⟨n,rfl,h⟩
 |b=>obtain ⟨n,rfl⟩:=h;exact ⟨n,rfl⟩
 |s=>obtain ⟨n,rfl,h⟩:=h;exact ⟨n,rfl,h⟩
 |l k e=>
  obtain ⟨xs,t,rfl,h1,h2,h3⟩:=h;exact ⟨xs.map AV.fg,.ai,by simp [AV.fg,di],h1.fg,by rw [Ad];exact h2,fun hi=>by rw [jX];exact h3 hi⟩
def kj.fg {lim:Int}:∀ {cs:List CT} {vs:List AV},kj lim cs vs->kj lim cs (vs.map AV.fg)
 |[],vs,h=>by cases h;rfl
 |c::cs,vs,h=>by
  obtain ⟨w,ws,rfl,h1,h2⟩:=h;exact ⟨w.fg,ws.map AV.fg,rfl,h1.fg,h2.fg⟩
def jo.fg {lim:Int} {p:PT} {v:AV} (h:jo lim p v):jo lim p v.fg:=by
 cases p with
 |c c=>exact jv.fg (c:=c) h
 |a cs=>
  obtain ⟨vs,rfl,h⟩:=h;exact ⟨vs.map AV.fg,by simp [AV.fg,di],h.fg⟩
def cU.fg {lim:Int}:∀ {ps:List PT} {vs:List AV},cU lim ps vs->cU lim ps (vs.map AV.fg)
 |[],vs,h=>by cases h;rfl
 |c::cs,vs,h=>by
  obtain ⟨w,ws,rfl,h1,h2⟩:=h;exact ⟨w.fg,ws.map AV.fg,rfl,h1.fg,h2.fg⟩
def jv.nr {lim:Int} {c:CT} {v:AV} (h:jv lim c v):al v.fg:=by
 cases c with
 |i k=>obtain ⟨n,rfl,h⟩:=h;exact .int _ _
 |b=>obtain ⟨n,rfl⟩:=h;exact .bool _
 |s=>obtain ⟨n,rfl,h⟩:=h;exact .str _
 |l k e=>
  obtain ⟨xs,t,rfl,h1,h2,h3⟩:=h;rw [fj];exact h1.nr
def kj.nr {lim:Int}:∀ {cs:List CT} {vs:List AV},kj lim cs vs->∀ v∈vs.map AV.fg,al v
 |[],vs,h=>by cases h;intro v hv;cases hv
 |c::cs,vs,h=>by
  obtain ⟨w,ws,rfl,h1,h2⟩:=h;intro v hv;rcases Ab.1 hv with rfl|hv
  ·exact h1.nr
  ·exact h2.nr v hv
def jo.nr {lim:Int} {p:PT} {v:AV} (h:jo lim p v):al v.fg:=by
 cases p with
 |c c=>exact jv.nr (c:=c) h
 |a cs=>
  obtain ⟨vs,rfl,h⟩:=h;rw [cY];exact .agg h.nr
def cU.nr {lim:Int}:∀ {ps:List PT} {vs:List AV},cU lim ps vs->∀ v∈vs.map AV.fg,al v
 |[],vs,h=>by cases h;intro v hv;cases hv
 |c::cs,vs,h=>by
  obtain ⟨w,ws,rfl,h1,h2⟩:=h;intro v hv;rcases Ab.1 hv with rfl|hv
  ·exact h1.nr
  ·exact h2.nr v hv
def M8 (v:AV):mq v.fg=mq v:=by
 cases v<;>simp [AV.fg,mq,di]
 exact_mod_cast jX _
def GM:∀ vs:List AV,mi (vs.map AV.fg)=mi vs
 |[]=>rfl
 |v::vs=>by simp only [List.map_cons,mi,M8,GM vs]
def aaN (v:AV):sD v.fg=sD v:=by
 cases v with
 |agg cs=>rw [cY];exact GM cs
 |_=>simp only [AV.fg,sD,mq,di,Ad,jX]
def rC.fg {ρ:List Int} {n:Nat} {v:AV} (h:rC ρ n v):rC ρ n v.fg:=by
 cases v<;>simp only [AV.fg,rC] at h ⊢<;>try exact h
 rw [di,Ad,jX];exact h
def qy.fg {ρ:List Int}:∀ {vs:List AV} {n:Nat},qy ρ n vs->qy ρ n (vs.map AV.fg)
 |[],_,_=>trivial
 |v::vs,n,h=>⟨h.1.fg,by rw [M8];exact h.2.fg⟩
def zn.fg {ρ:List Int} {n:Nat} {v:AV} (h:zn ρ n v):zn ρ n v.fg:=by
 cases v with
 |agg cs=>rw [cY];exact qy.fg h
 |sl k xs t=>
  simp only [AV.fg,zn,rC,di,Ad,jX] at h ⊢;exact h
 |cH _ _|aF _=>simp only [AV.fg];trivial
 |_=>simpa only [AV.fg] using h
def nY.fg {ρ:List Int}:∀ {vs:List AV} {n:Nat},nY ρ n vs->nY ρ n (vs.map AV.fg)
 |[],_,_=>trivial
 |v::vs,n,h=>⟨h.1.fg,by rw [aaN];exact h.2.fg⟩
variable {P:Program} {gl:List (Nat×List AV)} {f:FuncId} {as:List AV}
def _root_.Go.V.Pure.fgR {r:AV} (h:Pure P gl f as (.ok r)) (hn:al r.fg):Pure P gl f as (.ok r.fg):=⟨h.call.oz (fun r' S' e=>by injection e with e;rw [e]) (fun r' S' e=>by cases e),h.na,hn⟩
def Fk (rs:List AV):(dw rs).fg=dw (rs.map AV.fg):=by
 match rs with
 |[]=>rfl
 |[x]=>rfl
 |x::y::r=>show (AV.aF _).fg=_;rw [yf];rfl
def lf {ps qs:List PT} {lim out:Int} {me:aa} {ef ea:List aa} (hs:Spec P gl f (bw ps qs lim out me ef ea) (fun _=>True)) (ha:cU lim ps as) (hef:aH (eJ as) ef):
  ∃ rs,Pure P gl f as (.ok (dw rs))/\rs.map AV.fg=rs/\cU out qs rs/\∃ ρ,nY (eJ as++ρ) (eJ as).length rs/\aH (eJ as++ρ) ea:=by
 obtain ⟨rs,h1,h2,ρ,h3,h4⟩:=dy hs ha hef;have hn:=h2.nr;refine ⟨rs.map AV.fg,?_,jW rs,h2.fg,ρ,h3.fg,h4⟩
 have h5:=h1.fgR (by
  rw [Fk];generalize rs.map AV.fg=us at hn
  match us,hn with
  |[],hn=>exact .aF hn
  |[x],hn=>exact hn x (Ax.2 rfl)
  |x::y::r,hn=>exact .aF hn)
 rw [Fk] at h5;exact h5
def Qh {x y:AV} {t:Nat} (hxy:x.Le y) {post:Fr}:∀ {pre:Fr} {u:Nat} {v':AV},List.lookup u (pre++(t,y)::post)=some v'->∃ v,List.lookup u (pre++(t,x)::post)=some v/\v.Le v'
 |[],u,v',e=>by
  simp only [List.nil_append,List.lookup_cons] at e ⊢;split at e
  ·cases e;rename_i h;exact ⟨x,rfl,hxy⟩
  ·rename_i h;exact ⟨v',e,.refl _⟩
 |(w,z)::pre,u,v',e=>by
  simp only [List.cons_append,List.lookup_cons] at e ⊢;split at e
  ·cases e;exact ⟨_,rfl,.refl _⟩
  ·exact Qh hxy (pre:=pre) e
def _root_.Go.V.af.IK {n:Nat} {k:List MI} {D:ep} {S:St} {Q:er} {x y:AV} {t:Nat} (pre:Fr) {post:Fr} (hxy:x.Le y) (h:af P n k D (pre++(t,y)::post) S Q):af P n k D (pre++(t,x)::post) S Q:=h.imp fun _ _ e=>Qh hxy e
def _root_.Go.V.AV.Le.cap (k n l o c:Nat):(AV.bZ k n l o c).Le (.aM k n l o):=fun G v h=>by
 cases h with
 |bZ _ h1 h2 h3=>exact .aM k h1 h2 h3
def _root_.Go.V.ah.cap {G:Gh} {k n l o:Nat} {v:Value} (h:ah G (.aM k n l o) v):∃ c,n<=c/\ah G (.bZ k n l o c) v:=by
 cases h with
 |aM _ h1 h2 h3=>exact ⟨_,h2,.bZ k h1 h2 h3⟩
def qT {t:Nat} {x y:AV} {post:Fr}:∀ {pre:Fr} {u:Nat} {v:AV},List.lookup t pre=none->List.lookup u (pre++(t,y)::post)=some v->(u=t/\v=y)∨List.lookup u (pre++(t,x)::post)=some v
 |[],u,v,_,e=>by
  simp only [List.nil_append,List.lookup_cons] at e ⊢;split at e
  ·cases e;rename_i h;exact .inl ⟨by simpa using h,rfl⟩
  ·exact .inr e
 |(w,z)::pre,u,v,hp,e=>by
  simp only [List.lookup_cons] at hp;split at hp
  ·cases hp
  ·simp only [List.cons_append,List.lookup_cons] at e ⊢;split at e
   ·exact .inr e
   ·exact qT (pre:=pre) hp e
def kg {t:Nat} {x:AV} {post:Fr}:∀ {pre:Fr},List.lookup t pre=none->List.lookup t (pre++(t,x)::post)=some x
 |[],_=>by simp
 |(w,z)::pre,hp=>by
  simp only [List.lookup_cons] at hp;split at hp
  ·cases hp
  ·rename_i h;simp only [List.cons_append,List.lookup_cons,h];exact kg hp
def _root_.Go.V.af.wU {n:Nat} {kk:List MI} {D:ep} {S:St} {Q:er} {t k m l o:Nat} (pre:Fr) {post:Fr} (hp:List.lookup t pre=none) (h:∀ c,m<=c->af P n kk D (pre++(t,.bZ k m l o c)::post) S Q):af P n kk D (pre++(t,.aM k m l o)::post) S Q:=by
 intro wb G w a b cs todo hb hf hR;obtain ⟨h1,h2⟩:=hR.fr.rel t _ (kg hp);obtain ⟨c,hc,h3⟩:=h2.cap;refine h c hc wb G w a b cs todo hb hf ⟨hR.st,⟨fun u v e=>?_⟩,hR.sz,hR.df⟩;rcases qT (x:= .aM k m l o) hp e with ⟨rfl,rfl⟩|e
 ·exact ⟨h1,h3⟩
 ·exact hR.fr.rel u v e
def jN (live:List Nat):bD->List Nat
 | .tok n=>live.filter (· !=n)
 | .new n=>live.filter (· !=n)
 |_=>live
def gi (n:Nat) (ob:List (Nat×List AV)) (nt:Nat) (live:List Nat) (gl:List (Nat×List AV)) (t:bD):St.use ⟨n,ob,nt,live,gl⟩ t=⟨n,ob,nt+1,nt::jN live t,gl⟩:=by cases t<;>rfl
def mH (o:Out) (r:AV):Prop:=match o with
 | .ok r'=>r'.fg=r
 | .eF _=>False
def mH.mk' {r' r:AV} (h:r'.fg=r):mH (.ok r') r:=h
def _root_.Go.V.Pure.O3 {r:AV} (h:ao P f (as.map AV.fg) (.none gl) fun o' _=>mH o' r) (hn:∀ a∈as.map AV.fg,al a) (hr:al r):Pure P gl f as (.ok r):=⟨h.oz (fun r' S' e=>congrArg Out.ok e) (fun r' S' e=>e.elim),hn,hr⟩
def gI (lo hi:Nat) (live:List Nat) (t:bD):Prop:=t= .exact∨∃ a,t= .tok a/\a∈live/\lo<=a/\a<hi
def gI.ti {lo hi n nt:Nat} {live:List Nat} {ob:List (Nat×List AV)} {t:bD} (h:gI lo hi live t):zo ⟨n,ob,nt,live,gl⟩ t:=by
 rcases h with rfl|⟨a,rfl,h,_⟩
 ·exact .inl rfl
 ·exact .inr ⟨a,rfl,h⟩
def gI.up {lo hi hi':Nat} {live:List Nat} {t:bD} (h:gI lo hi live t) (hh:hi<=hi'):gI lo hi' live t:=by
 rcases h with rfl|⟨a,rfl,h,h1,h2⟩
 ·exact .inl rfl
 ·exact .inr ⟨a,rfl,h,h1,Cd h2 hh⟩
def gI.cz {lo hi lo2 hi2 n:Nat} {live:List Nat} {t t2:bD} (h:gI lo hi live t) (h2:gI lo2 hi2 live t2) (hh:hi<=lo2):gI lo hi (n::jN live t2) t:=by
 rcases h with rfl|⟨a,rfl,h,h1,h3⟩
 ·exact .inl rfl
 ·refine .inr ⟨a,rfl,Ao _ ?_,h1,h3⟩;rcases h2 with rfl|⟨b,rfl,_,h4,_⟩
  ·exact h
  ·simp only [jN,BH,bne_iff_ne];exact ⟨h,fun e=>by omega⟩
def gI.new (lo n:Nat) (live:List Nat) (h:lo<=n):gI lo (n+1) (n::live) (.tok n):= .inr ⟨n,rfl,A4,h,Bp _⟩
end Go.Proofs.YtoopnalhhfmgaaaGreatDoor
