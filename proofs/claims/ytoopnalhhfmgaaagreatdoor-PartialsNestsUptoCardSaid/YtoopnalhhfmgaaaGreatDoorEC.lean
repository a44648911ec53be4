/- Every operation in outline. -/
import Derived.Test.YtoopnalhhfmgaaaGreatDoorEA
set_option linter.defProp false
set_option linter.unusedSimpArgs false
set_option linter.unusedVariables false
namespace Go.Proofs.YtoopnalhhfmgaaaGreatDoor
open Go Go.V
section
variable {gl:List (Nat×List AV)} {E E':En} {A:AS} {F:Fr} {S:St}
def F5:∀ (n:Nat) (xs:List AV),bg (xs.drop n)<=bg xs
 |0,xs=>by simp
 |n+1,[]=>by simp
 |n+1,x::xs=>by
  have:=F5 n xs;simp only [bg,Cf,List.cons.sizeOf_spec] at*;omega
def F6:∀ (n:Nat) (xs:List AV),bg (xs.take n)<=bg xs
 |0,[]=>by simp
 |0,x::xs=>by simp only [bg,List.take_zero,List.cons.sizeOf_spec,List.nil.sizeOf_spec];omega
 |n+1,[]=>by simp
 |n+1,x::xs=>by
  have:=F6 n xs;simp only [bg,List.take_succ_cons,List.cons.sizeOf_spec] at*;omega
def qC (d:aa):Option SV->Option aa
 |none=>some d
 |some (.i _ e)=>some e
 |_=>none
def pj (E:En):Option SV->Option AV->Prop
 |none,v=>v=none
 |some x,v=>∃ w,v=some w/\x.rel E w
def kR {d:aa} {dv:Int} (hd:d.is E.ρ dv) {x:Option SV} {v:Option AV} (hx:pj E x v) {e:aa} (he:qC d x=some e):∃ n,cU dv v=some n/\e.is E.ρ n/\v.isSome=x.isSome:=by
 unfold qC at he;split at he
 ·cases he;have hx:v=none:=hx;subst hx;exact ⟨dv,rfl,hd,rfl⟩
 ·cases he;obtain ⟨w,rfl,hw⟩:=hx;simp only [SV.rel] at hw;obtain ⟨n,h1,_,rfl⟩:=hw;exact ⟨n,rfl,h1,rfl⟩
 ·cases he
def isZ (e:aa):Bool:=match e.ts with
 |[]=>decide (e.c=0)
 |_=>false
def DO (A:AS) (k:Nat) (x:SV) (lo hi mx:Option SV):Option (SV×AS):=
 match x with
 | .l k' X t=>if Nat.beq k' k then (match nth A.ls X with
  |some li=>(match qC (.aY 0) lo,qC li.n hi with
   |some l,some h=>if cQ A.fs l && (cQ A.fs (h.sub l) && cQ A.fs (li.n.sub h)) then (match mx with
    |none=>some (.l k A.ls.length (if lo.isNone && hi.isNone then t else 0),A.ej ⟨li.k,li.e,h.sub l,li.z⟩)
    |some m=>(match qC (.aY 0) (some m) with
     |some m=>if hi.isSome && (cQ A.fs (m.sub h) && cQ A.fs (li.n.sub m)) then some (.l k A.ls.length (if isZ (m.sub h) then 1 else 0),A.ej ⟨li.k,li.e,h.sub l,li.z⟩) else none
     |none=>none)) else none
   |_,_=>none)
  |none=>none) else none
 |_=>none
def Km (h:Gm gl E A F S) {k:Nat} {x:SV} {lo hi mx:Option SV} {v:AV} {lo' hi' mx':Option AV} (hx:x.rel E v) (hlo:pj E lo lo') (hhi:pj E hi hi') (hmx:pj E mx mx') {p:SV×AS} (hp:DO A k x lo hi mx=some p):
  ∃ r,cS k v lo' hi' mx'=some r/\cG v lo' hi' mx'/\fM gl E S F p r:=by
 unfold DO at hp;split at hp
 ·rename_i k' X t;split at hp
  ·rename_i hk;obtain rfl:=aq.1 hk;split at hp
   ·rename_i li hli;rw [cR] at hli;obtain ⟨xs,h1,h2⟩:=h.ls X li hli;simp only [SV.rel] at hx;obtain ⟨xs',tk,h3,h4,rfl⟩:=hx;rw [h1] at h3;cases h3;split at hp
    ·rename_i l hh el eh;obtain ⟨a,ea,ia,na⟩:=kR (aa.bZ _ 0) hlo el;obtain ⟨b,eb,ib,nb⟩:=kR h2.n hhi eh;split at hp
     ·rename_i hc;simp only [Aa] at hc;have c1:=bB h.fs ia hc.1;have c2:=bB h.fs (ib.sub ia) hc.2.1;have c3:=bB h.fs (h2.n.sub ib) hc.2.2;have hE:=E.iu ((xs.take b.toNat).drop a.toNat)
      have hL:gx E ⟨li.k,li.e,hh.sub l,li.z⟩ ((xs.take b.toNat).drop a.toNat):=by
       refine ⟨(h2.el.take _).drop _,?_,?_⟩
       ·have:((((xs.take b.toNat).drop a.toNat).length:Nat):Int)=b-a:=by
         simp only [AK,Av];omega
        rw [this];exact ib.sub ia
       ·obtain ⟨z,q1,q2⟩:=h2.z;refine ⟨z,q1,?_⟩;have r1:=F5 a.toNat (xs.take b.toNat);have r2:=F6 b.toNat xs;omega
      have g:=h.ej hL;split at hp
      ·cases hp;have hmx:mx'=none:=hmx;subst hmx;refine ⟨_,by simp only [cS,if_true,ea,eb,Option.bind_some];rfl,?_,_,hE,g,?_⟩
       ·simp only [cG,ea,eb];exact ⟨c1,by omega,by omega,trivial⟩
       ·simp only [SV.rel];refine ⟨_,_,h.rn _,?_,rfl⟩;have e1:lo'.isNone=lo.isNone:=by cases lo'<;>cases lo<;>simp_all
        have e2:hi'.isNone=hi.isNone:=by cases hi'<;>cases hi<;>simp_all
        rw [e1,e2];split
        ·exact h4.le hE
        ·trivial
      ·rename_i m;split at hp
       ·rename_i mm em;obtain ⟨d,ed,id',nd⟩:=kR (aa.bZ _ 0) hmx em;obtain ⟨w,rfl,_⟩:=hmx;split at hp
        ·rename_i hc2;cases hp;simp only [Aa] at hc2;have d1:=bB h.fs (id'.sub ib) hc2.2.1;have d2:=bB h.fs (h2.n.sub id') hc2.2.2;refine ⟨_,by simp only [cS,if_true,ea,eb,Option.bind_some,ed,Option.map_some];rfl,?_,_,hE,g,?_⟩
         ·simp only [cG,ea,eb,ed];exact ⟨c1,by omega,by omega,by omega,by omega,nb.trans hc2.1⟩
         ·simp only [SV.rel];refine ⟨_,_,h.rn _,?_,rfl⟩;split
          ·rename_i hz
           have hdb:d=b:=by
            have h5:=id'.sub ib;unfold isZ at hz;split at hz
            ·rename_i hts;have h6:=h5.2;simp only [aa.val,hts,cb] at h6;have hz:(mm.sub hh).c=0:=by simpa using hz
             omega
            ·cases hz
           subst hdb;show (if d=d then bE.exact else bE.ai)=bE.exact;simp
          ·trivial
        ·cases hp
       ·cases hp
     ·cases hp
    ·cases hp
   ·cases hp
  ·cases hp
 ·cases hp
def DM (k:Nat) (x:SV) (lo hi mx:Option SV):Option SV:=
 match x,mx with
 | .lit k' xs t,none=>(match qC (.aY 0) lo,qC (.aY (xs.length:Nat)) hi with
  |some ⟨l,[]⟩,some ⟨h,[]⟩=>if Nat.beq k' k && (decide (0<=l) && (decide (l<=h) && decide (h<=(xs.length:Nat)))) then some (.lit k ((xs.take h.toNat).drop l.toNat) (if lo.isNone && hi.isNone then t else 0)) else none
  |_,_=>none)
 |_,_=>none
def GP {c:Int} {x:Int} (h:(⟨c,[]⟩:aa).is E.ρ x):x=c:=by
 rw [<-h.2];simp [aa.val,cb]
def Kk {k:Nat} {x r:SV} {lo hi mx:Option SV} {v:AV} {lo' hi' mx':Option AV} (hx:x.rel E v) (hlo:pj E lo lo') (hhi:pj E hi hi') (hmx:pj E mx mx') (hp:DM k x lo hi mx=some r):
  ∃ w,cS k v lo' hi' mx'=some w/\cG v lo' hi' mx'/\r.rel E w:=by
 unfold DM at hp;split at hp
 ·rename_i k' xs t;have hmx:mx'=none:=hmx;subst hmx;simp only [SV.rel] at hx;obtain ⟨ys,tk,h1,h2,rfl⟩:=hx;split at hp
  ·rename_i l hh el eh;obtain ⟨a,ea,ia,na⟩:=kR (aa.bZ _ 0) hlo el;obtain ⟨b,eb,ib,nb⟩:=kR (aa.bZ E.ρ ((xs.length:Nat):Int)) hhi eh;rw [<-bV h1] at eb;have ha:=GP ia;have hb:=GP ib;subst ha hb;split at hp
   ·rename_i hc;cases hp;simp only [Aa,decide_eq_true_eq] at hc;obtain ⟨c0,c1,c2,c3⟩:=hc;obtain rfl:=aq.1 c0;rw [<-bV h1] at c3;refine ⟨_,by simp only [cS,if_true,ea,eb,Option.bind_some];rfl,?_,?_⟩
    ·simp only [cG,ea,eb];exact ⟨c1,c2,c3,trivial⟩
    ·simp only [SV.rel];refine ⟨_,_,iZ _ (oO _ h1),?_,rfl⟩;have e1:lo'.isNone=lo.isNone:=by cases lo'<;>cases lo<;>simp_all
     have e2:hi'.isNone=hi.isNone:=by cases hi'<;>cases hi<;>simp_all
     rw [e1,e2];split
     ·exact h2
     ·trivial
   ·cases hp
  ·cases hp
 ·cases hp
def DN (A:AS) (x:SV) (lo hi:Option SV):Option (SV×AS):=
 match kC x with
 |some n=>(match qC (.aY 0) lo,qC n hi with
  |some l,some h=>if cQ A.fs l && (cQ A.fs (h.sub l) && cQ A.fs (n.sub h)) then some (.s (h.sub l),A) else none
  |_,_=>none)
 |none=>none
def Kl (h:Gm gl E A F S) {x:SV} {lo hi:Option SV} {v:AV} {lo' hi':Option AV} (hx:x.rel E v) (hlo:pj E lo lo') (hhi:pj E hi hi') {p:SV×AS} (hp:DN A x lo hi=some p):
  ∃ r,gQ v lo' hi'=some r/\fU v lo' hi'/\fM gl E S F p r:=by
 unfold DN at hp;split at hp
 ·rename_i n hn;obtain ⟨s,rfl,hs⟩:=gJ hn hx;split at hp
  ·rename_i l hh el eh;obtain ⟨a,ea,ia,na⟩:=kR (aa.bZ _ 0) hlo el;obtain ⟨b,eb,ib,nb⟩:=kR hs hhi eh;split at hp
   ·rename_i hc;cases hp;simp only [Aa] at hc;have c1:=bB h.fs ia hc.1;have c2:=bB h.fs (ib.sub ia) hc.2.1;have c3:=bB h.fs (hs.sub ib) hc.2.2;refine ⟨_,by simp only [gQ,ea,eb,Option.bind_some,Option.map_some];rfl,?_,.same h ?_⟩
    ·simp only [fU,ea,eb];exact ⟨c1,by omega,by omega⟩
    ·simp only [SV.rel];refine ⟨_,?_,rfl⟩
     have:((((s.take b.toNat).drop a.toNat).length:Nat):Int)=b-a:=by
      simp only [AK,Av];omega
     rw [this];exact ib.sub ia
   ·cases hp
  ·cases hp
 ·cases hp
def JI (k:Nat):List SV->Bool
 |[]=>true
 |x::xs=>wm x && (Nat.beq (kT x).length k && JI k xs)
def HH {k:Nat}:∀ {xs:List SV} {vs:List AV},aZ E xs vs->JI k xs=true->iH k vs=true
 |[],vs,h,_=>by rw [aU.1 h];rfl
 |x::xs,vs,h,hc=>by
  obtain ⟨w,ws,h1,h2,rfl⟩:=aO.1 h;simp only [JI,Aa] at hc;obtain ⟨g1,g2⟩:=pK h1 hc.1;have:=HH h2 hc.2.2;simp only [iH,List.all_cons,Aa] at this ⊢;exact ⟨⟨g1,by rw [bV g2,aq.1 hc.2.1];simp⟩,this⟩
def DI (A:AS) (s:Bool) (x:SV):Option SV:=
 match x with
 | .l _ X _=>if s then none else (match nth A.ls X with
  |some li=>some (.i .i64 li.n)
  |none=>none)
 | .lit _ xs _=>if s then none else some (.i .i64 (.aY (xs.length:Nat)))
 |x=>if s then (match kC x with
  |some n=>some (.i .i64 n)
  |none=>none) else none
def Ki (h:Gm gl E A F S) {s:Bool} {x r:SV} {v:AV} (hx:x.rel E v) (hr:DI A s x=some r):∃ w,isStr v=s/\eg v=some w/\r.rel E w:=by
 unfold DI at hr;split at hr
 ·rename_i k X t;split at hr
  ·cases hr
  ·rename_i hs;split at hr
   ·rename_i li hli;cases hr;rw [cR] at hli;obtain ⟨xs,h1,h2⟩:=h.ls X li hli;simp only [SV.rel] at hx;obtain ⟨xs',tk,h3,h4,rfl⟩:=hx;rw [h1] at h3;cases h3;exact ⟨_,by simpa [isStr] using hs,rfl,by simp only [SV.rel];exact ⟨_,h2.n,iw _,rfl⟩⟩
   ·cases hr
 ·split at hr
  ·cases hr
  ·rename_i hs;cases hr;simp only [SV.rel] at hx;obtain ⟨ys,tk,h1,h2,rfl⟩:=hx;exact ⟨_,by simpa [isStr] using hs,rfl,by simp only [SV.rel];exact ⟨_,by rw [<-bV h1];exact aa.bZ _ _,iw _,rfl⟩⟩
 ·split at hr
  ·rename_i hs;split at hr
   ·rename_i n hn;cases hr;obtain ⟨t,rfl,ht⟩:=gJ hn hx;exact ⟨_,hs.symm,rfl,by simp only [SV.rel];exact ⟨_,ht,iw _,rfl⟩⟩
   ·cases hr
  ·cases hr
def XG:MK->Bool
 | .store ..| .Ef ..| .ins ..| .o9 ..| .qB ..| .qA ..| .sk ..=>true
 |_=>false
structure Vx (gl:List (Nat×List AV)) (E:En) (F:Fr) (S:St) (m:MK) (L:List (SV×AS)):Prop where
 h:∃ p∈L,∃ E' v S',m.ob F S/\m.ev F S=some (v,S')/\E.le E'/\Gm gl E' p.2 F S'/\p.1.rel E' v/\S.n<=S'.n/\(XG m=false->∀ l,l<S.n->S'.get l=S.get l)
def Vx.val {m:MK} {p:SV×AS} {v:AV} (hs:fM gl E S F p v) (ho:m.ob F S) (he:m.ev F S=some (v,S)):Vx gl E F S m [p]:=by
 obtain ⟨E',h1,h2,h3⟩:=hs.h;exact ⟨p,by simp,E',v,S,ho,he,h1,h2,h3,Af _,fun _ _ _=>rfl⟩
def ml:Option (SV×AS)->Option (List (SV×AS))
 |some p=>some [p]
 |none=>none
def ph (A:AS):Option SV->Option (List (SV×AS))
 |some x=>some [(x,A)]
 |none=>none
def qx (A:AS):Option aj->Option (Option SV)
 |none=>some none
 |some x=>match cp A x with
  |some s=>some (some s)
  |none=>none
def iJ (h:Gm gl E A F S) {x:Option aj} {s:Option SV} (e:qx A x=some s):pj E s (x.map (aj.ev F)):=by
 unfold qx at e;split at e
 ·cases e;exact rfl
 ·split at e
  ·cases e;exact ⟨_,rfl,bb h ‹_›⟩
  ·cases e
def xW (x y:SV):List (Bool×AS)->List (SV×AS)
 |[]=>[]
 |(t,B)::r=>(if t then x else y,B)::xW x y r
def oN {x y:SV} {t:Bool} {B:AS}:∀ {l:List (Bool×AS)},(t,B)∈l->(if t then x else y,B)∈xW x y l
 |[],h=>by cases h
 |(u,C)::r,h=>by
  rcases Ab.1 h with h|h
  ·cases h;simp [xW]
  ·exact Ao _ (oN h)
def Dm (x:SV) (B:AS):List (List aa)->List (SV×AS)
 |[]=>[]
 |fs::r=>(x,B.jy fs)::Dm x B r
def z7 {x:SV} {B:AS} {fs:List aa}:∀ {l:List (List aa)},fs∈l->(x,B.jy fs)∈Dm x B l
 |[],h=>by cases h
 |g::r,h=>by
  rcases Ab.1 h with rfl|h
  ·simp [Dm]
  ·exact Ao _ (z7 h)
def GG (A:AS) (k:Nat) (x i:SV):Option (List (SV×AS)):=
 match x,i with
 | .l k' X _,.i _ e=>if Nat.beq k' k then (match A.at X e with
  |some (B,fss)=>some (Dm (.e k X e 0) B fss)
  |none=>none) else none
 |_,_=>none
def wL (A:AS) (x y:SV) (mx:Bool):Option (List (SV×AS)):=
 match x,y with
 | .i k a,.i k' b=>if lg k k' then some (xW y x (fork A (.ED (((if mx then b.sub a else a.sub b)).aG (-1))))) else none
 |_,_=>none
def Kg (A:AS) (k:Nat) (neg:Bool) (x y:SV):Option (SV×AS):=
 match k,x,y with
 |0,.b _,.b _=>some (yO A)
 |2,.p _ _,.c .cV=>some (.b (.k (neg !=false)),A)
 |2,.e _ _ _ _,.c .cV=>some (.b (.k (neg !=false)),A)
 |2,.c .cV,.c .cV=>some (.b (.k (neg !=true)),A)
 |_,_,_=>none
def Ko (i:Nat):SV->Option SV
 | .aF vs=>nth vs i
 |_=>none
def wJ (off n:Nat) (ag:Bool):SV->Option SV
 | .a cs=>xX n ag (cs.drop off)
 |_=>none
def eu (A:AS):MK->Option (List (SV×AS))
 | .oL x=>ph A (cp A x)
 | .pick c a b=>(match cp A c,cp A a,cp A b with
  |some (.b t),some x,some y=>some (xW x y (fork A t))
  |_,_,_=>none)
 | .alloc z=>if xZ (r7 z) then some [A.obj (r7 z)] else none
 | .box x=>(match cp A x with
  |some s=>if wm s && xZ (kT s) then some [A.obj (kT s)] else none
  |none=>none)
 | .build z ps=>(match qz A (r7 z) ps with
  |some cs=>some [(.a cs,A)]
  |none=>none)
 | .rj k _ xs=>(match qy A xs with
  |some ss=>if JI k ss then some [(.lit k ss 1,A)] else none
  |none=>none)
 | .Fp _ kz vz n=>some [(.lit 1 (r7 (List.replicate n (.int kz vz))) 0,A)]
 | .load n ag p=>(match cp A p with
  |some s=>ph A (tK A n ag s)
  |none=>none)
 | .store n p x=>(match cp A p,cp A x with
  |some s,some t=>(match vq A n s t with
   |some B=>some [(.aF [],B)]
   |none=>none)
  |_,_=>none)
 | .bin op x y=>(match cp A x,cp A y with
  |some s,some t=>ml (DG A op s t)
  |_,_=>none)
 | .eqv ks _ x y=>(match cp A x,cp A y with
  |some s,some t=>ml (DH A ks s t)
  |_,_=>none)
 | .un op x=>(match cp A x with
  |some s=>ml (Ip A op s)
  |none=>none)
 | .conv k x=>(match cp A x with
  |some s=>ml (GF A k s)
  |none=>none)
 | .qK off x=>(match cp A x with
  |some s=>ph A (tJ off s)
  |none=>none)
 | .Ha off n ag x=>(match cp A x with
  |some s=>ph A (wJ off n ag s)
  |none=>none)
 | .qR k x i=>(match cp A x,cp A i with
  |some s,some t=>GG A k s t
  |_,_=>none)
 | .vI k ln ag x (.c (.int _ n))=>(match cp A x with
  |some s=>if decide (0<=n) && decide (n<ln) then ph A (wJ (n.toNat*k) k ag s) else none
  |none=>none)
 | .mI k ln x (.c (.int _ n))=>(match cp A x with
  |some s=>if decide (0<=n) && decide (n<ln) then ph A (tJ (n.toNat*k) s) else none
  |none=>none)
 | .sH x i=>(match cp A x,cp A i with
  |some s,some t=>ml (yM A s t)
  |_,_=>none)
 | .yq x lo hi=>(match cp A x,qx A lo,qx A hi with
  |some s,some l,some h=>ml (DN A s l h)
  |_,_,_=>none)
 | .yr k x lo hi mx=>(match cp A x,qx A lo,qx A hi,qx A mx with
  |some s,some l,some h,some m=>(match DM k s l h m with
   |some r=>some [(r,A)]
   |none=>ml (DO A k s l h m))
  |_,_,_,_=>none)
 | .len s x=>(match cp A x with
  |some t=>ph A (DI A s t)
  |none=>none)
 | .app k bytes x y=>(match cp A x,cp A y with
  |some s,some t=>(match kC t with
   |some n=>ml (yK A k bytes s n)
   |none=>ml (DE A k bytes s t))
  |_,_=>none)
 | .HJ x=>(match cp A x with
  |some s=>ml (DL A s)
  |none=>none)
 | .DX x=>(match cp A x with
  |some s=>ph A (DF A s)
  |none=>none)
 | .MY x=>(match cp A x with
  |some s=>if (kC s).isSome then some [(s,A)] else none
  |none=>none)
 | .ext x i=>(match cp A x with
  |some s=>ph A (Ko i s)
  |none=>none)
 | .min x y=>(match cp A x,cp A y with
  |some s,some t=>wL A s t false
  |_,_=>none)
 | .max x y=>(match cp A x,cp A y with
  |some s,some t=>wL A s t true
  |_,_=>none)
 | .cmp k neg x y=>(match cp A x,cp A y with
  |some s,some t=>ml (Kg A k neg s t)
  |_,_=>none)
 | .func f a c=>(match qy A a,qy A c with
  |some s,some t=>some [(.fn f s t,A)]
  |_,_=>none)
 |_=>none
def gO {o:Option (SV×AS)} {L:List (SV×AS)} (h:ml o=some L):∃ p,o=some p/\L=[p]:=by
 cases o with
 |none=>cases h
 |some p=>cases h;exact ⟨p,rfl,rfl⟩
def jh {o:Option SV} {L:List (SV×AS)} (h:ph A o=some L):∃ p,o=some p/\L=[(p,A)]:=by
 cases o with
 |none=>cases h
 |some p=>cases h;exact ⟨p,rfl,rfl⟩
def sB {vs:List AV} {l:Nat} (hl:l<S.n):St.get {S with n:=S.n+1,obj:=(S.n,vs)::S.obj} l=S.get l:=by
 have hb:(l==S.n)=false:=by
  have:l≠S.n:=by omega
  simpa using this
 simp only [St.get,List.lookup_cons,hb]
def Wb (v:AV) (F:Fr):(aj.c v).ev F=v:=rfl
def Q9 (h:Gm gl E A F S) {m:MK} {L:List (SV×AS)} (hL:eu A m=some L):Vx gl E F S m L:=by
 cases m with
 |oL x=>
  obtain ⟨s,h1,rfl⟩:=jh hL;exact .val (.same h (bb h h1)) trivial rfl
 |pick c a b=>
  simp only [eu] at hL;split at hL
  ·rename_i t x y h1 h2 h3;cases hL;have g1:=bb h h1;simp only [SV.rel] at g1;obtain ⟨u,g2,g3⟩:=g1;obtain ⟨B,g4,g5⟩:=mV h g2;refine ⟨_,oN g4,E,if u then a.ev F else b.ev F,S,trivial,by simp only [MK.ev,g3],.refl E,g5,?_,Af _,fun _ _ _=>rfl⟩;cases u
   ·exact bb h h3
   ·exact bb h h2
  ·cases hL
 |alloc z=>
  simp only [eu] at hL;split at hL
  ·rename_i hc;cases hL;exact ⟨_,by simp,_,_,_,trivial,rfl,E.xx _,h.obj (qf E z) hc,h.OM _,Nat.le_succ _,fun _ l hl=>sB hl⟩
  ·cases hL
 |box x=>
  simp only [eu] at hL;split at hL
  ·rename_i s h1;split at hL
   ·rename_i hc;cases hL;simp only [Aa] at hc;obtain ⟨g1,g2⟩:=pK (bb h h1) hc.1;exact ⟨_,by simp,_,_,_,trivial,by simp only [MK.ev,g1,if_true],E.xx _,h.obj g2 hc.2,h.OM _,Nat.le_succ _,fun _ l hl=>sB hl⟩
   ·cases hL
  ·cases hL
 |build z ps=>
  simp only [eu] at hL;split at hL
  ·rename_i cs h1;cases hL;obtain ⟨ws,g1,g2⟩:=uR h (qf E z) h1;exact .val (v:= .agg ws) (.same h (by simp only [SV.rel];exact ⟨ws,g2,rfl⟩)) trivial (by simp only [MK.ev,g1,Option.map_some])
  ·cases hL
 |rj k z xs=>
  simp only [eu] at hL;split at hL
  ·rename_i ss h1;split at hL
   ·rename_i hc;cases hL;have g:=kP h h1;exact .val (v:= .sl k (xs.map (aj.ev F)) .exact) (.same h (by simp only [SV.rel];exact ⟨_,.exact,g,rfl,rfl⟩)) trivial (by simp only [MK.ev,HH g hc,if_true])
   ·cases hL
  ·cases hL
 |Fp b kz vz n=>
  simp only [eu] at hL;cases hL;exact .val (v:= .sl 1 (List.replicate n (.int kz vz)) .ai) (.same h (by simp only [SV.rel];exact ⟨_,.ai,qf E _,trivial,rfl⟩)) trivial rfl
 |load n ag p=>
  simp only [eu] at hL;split at hL
  ·rename_i s h1;obtain ⟨x,h2,rfl⟩:=jh hL;obtain ⟨r,g1,g2⟩:=wK h (bb h h1) h2;exact .val (.same h g2) trivial g1
  ·cases hL
 |store n p x=>
  simp only [eu] at hL;split at hL
  ·rename_i s t h1 h2;split at hL
   ·rename_i B h3;cases hL;obtain ⟨S',g1,g2,g3⟩:=Ge h (bb h h1) (bb h h2) h3;exact ⟨(.aF [],B),by simp,E,.aF [],S',trivial,by simp only [MK.ev,g1,Option.map_some],.refl E,g2,by simp only [SV.rel];exact ⟨[],aU.2 rfl,rfl⟩,by omega,fun e=>by cases e⟩
   ·cases hL
  ·cases hL
 |bin op x y=>
  simp only [eu] at hL;split at hL
  ·rename_i s t h1 h2;obtain ⟨p,h3,rfl⟩:=gO hL;obtain ⟨r,g1,g2,g3⟩:=Kf h (bb h h1) (bb h h2) h3;exact .val g3 g2 (by simp only [MK.ev,g1,Option.map_some])
  ·cases hL
 |eqv ks neg x y=>
  simp only [eu] at hL;split at hL
  ·rename_i s t h1 h2;obtain ⟨p,h3,rfl⟩:=gO hL;obtain ⟨r,g1,g3⟩:=Kh (neg:=neg) h (bb h h1) (bb h h2) h3;exact .val g3 trivial (by simp only [MK.ev,g1,Option.map_some])
  ·cases hL
 |un op x=>
  simp only [eu] at hL;split at hL
  ·rename_i s h1;obtain ⟨p,h3,rfl⟩:=gO hL;obtain ⟨r,g1,g3⟩:=Nx h (bb h h1) h3;exact .val g3 trivial (by simp only [MK.ev,g1,Option.map_some])
  ·cases hL
 |conv k x=>
  simp only [eu] at hL;split at hL
  ·rename_i s h1;obtain ⟨p,h3,rfl⟩:=gO hL;have g:=bb h h1;unfold GF at h3;split at h3
   ·cases h3;simp only [SV.rel] at g;obtain ⟨n,g1,_,g2⟩:=g;exact .val (uJ h g1) trivial (by simp only [MK.ev,g2])
   ·cases h3
  ·cases hL
 |qK off x=>
  simp only [eu] at hL;split at hL
  ·rename_i s h1;obtain ⟨p,h3,rfl⟩:=jh hL;obtain ⟨r,g1,g2⟩:=wI (bb h h1) h3;exact .val (.same h g2) trivial (by simp only [MK.ev,g1,Option.map_some])
  ·cases hL
 |Ha off n ag x=>
  simp only [eu] at hL;split at hL
  ·rename_i s h1;obtain ⟨p,h3,rfl⟩:=jh hL;have g:=bb h h1;unfold wJ at h3;split at h3
   ·simp only [SV.rel] at g;obtain ⟨vs,g1,g2⟩:=g;obtain ⟨r,g3,g4⟩:=rC (iZ off g1) h3;exact .val (.same h g4) trivial (by simp only [MK.ev,g2,lx,g3,Option.map_some])
   ·cases h3
  ·cases hL
 |qR k x i=>
  simp only [eu] at hL;split at hL
  ·rename_i s t h1 h2;have g:=bb h h1;have g':=bb h h2;unfold GG at hL;split at hL
   ·rename_i k' X t' k2 e;split at hL
    ·rename_i hk;obtain rfl:=aq.1 hk;split at hL
     ·rename_i B fss hB;cases hL;simp only [SV.rel] at g g';obtain ⟨xs',tk,g1,_,g2⟩:=g;obtain ⟨n,g3,_,g4⟩:=g';obtain ⟨li,xs,q1,q2,q3,q4,q5,E1,q6,q7,fs,q8,q9⟩:=abD h g3 hB;rw [q2] at g1;cases g1;refine ⟨_,z7 q8,E1,.eZ k' xs' n.toNat 0,S,?_,?_,q6,q7.jy q9,?_,Af _,fun _ _ _=>rfl⟩
      ·simp only [MK.ob,g2,g4];exact ⟨q4,q5⟩
      ·simp only [MK.ev,g2,g4,if_true]
      ·simp only [SV.rel];exact ⟨xs',n,q6.χg q2,g3.le q6,rfl⟩
     ·cases hL
    ·cases hL
   ·cases hL
  ·cases hL
 |vI k ln ag x i=>
  unfold eu at hL
  split at hL<;>first
   |(rename_i e;cases e;done)
   |cases ‹MK.vI _ _ _ _ _=_›
   |(cases hL;done)
  rename_i n;split at hL
  ·rename_i s h1;split at hL
   ·rename_i hc;simp only [Aa,decide_eq_true_eq] at hc;obtain ⟨p,h3,rfl⟩:=jh hL;have g:=bb h h1;unfold wJ at h3;split at h3
    ·simp only [SV.rel] at g;obtain ⟨vs,g1,g2⟩:=g;obtain ⟨r,g3,g4⟩:=rC (iZ _ g1) h3;exact .val (.same h g4) trivial (by simp only [MK.ev,Wb,g2,jE,if_pos hc,g3,Option.map_some])
    ·cases h3
   ·cases hL
  ·cases hL
 |mI k ln x i=>
  unfold eu at hL
  split at hL<;>first
   |(rename_i e;cases e;done)
   |cases ‹MK.mI _ _ _ _=_›
   |(cases hL;done)
  rename_i n;split at hL
  ·rename_i s h1;split at hL
   ·rename_i hc;simp only [Aa,decide_eq_true_eq] at hc;obtain ⟨p,h3,rfl⟩:=jh hL;obtain ⟨r,g1,g2⟩:=wI (bb h h1) h3;exact .val (.same h g2) (by simp only [MK.ob,Wb];exact hc) (by simp only [MK.ev,Wb,g1,Option.map_some])
   ·cases hL
  ·cases hL
 |sH x i=>
  simp only [eu] at hL;split at hL
  ·rename_i s t h1 h2;obtain ⟨p,h3,rfl⟩:=gO hL;obtain ⟨s,k,n,b,g1,g2,g3,g4,g5⟩:=Im h (bb h h1) (bb h h2) h3;exact .val g5 (by simp only [MK.ob,g2];exact g3) (by simp only [MK.ev,g1,g2,g4,Option.map_some])
  ·cases hL
 |yq x lo hi=>
  simp only [eu] at hL;split at hL
  ·rename_i s l hh h1 h2 h3;obtain ⟨p,h4,rfl⟩:=gO hL;obtain ⟨r,g1,g2,g3⟩:=Kl h (bb h h1) (iJ h h2) (iJ h h3) h4;exact .val g3 g2 (by simp only [MK.ev,g1,Option.map_some])
  ·cases hL
 |yr k x lo hi mx=>
  simp only [eu] at hL;split at hL
  ·rename_i s l hh m h1 h2 h3 h5;split at hL
   ·rename_i r hr;cases hL;obtain ⟨w,g1,g2,g3⟩:=Kk (bb h h1) (iJ h h2) (iJ h h3) (iJ h h5) hr;exact .val (.same h g3) g2 (by simp only [MK.ev,g1,Option.map_some])
   ·obtain ⟨p,h4,rfl⟩:=gO hL;obtain ⟨r,g1,g2,g3⟩:=Km h (bb h h1) (iJ h h2) (iJ h h3) (iJ h h5) h4;exact .val g3 g2 (by simp only [MK.ev,g1,Option.map_some])
  ·cases hL
 |len s x=>
  simp only [eu] at hL;split at hL
  ·rename_i t h1;obtain ⟨p,h3,rfl⟩:=jh hL;obtain ⟨w,g1,g2,g3⟩:=Ki h (bb h h1) h3;exact .val (.same h g3) trivial (by simp only [MK.ev,g1,if_true,g2,Option.map_some])
  ·cases hL
 |app k bytes x y=>
  simp only [eu] at hL;split at hL
  ·rename_i s t h1 h2;split at hL
   ·rename_i n hn;obtain ⟨p,h3,rfl⟩:=gO hL;obtain ⟨u,hu,hn2⟩:=gJ hn (bb h h2);obtain ⟨r,S',E',g1,g2,g3,g4,g5,g6,g7⟩:=Il h (bb h h1) hn2 h3;exact ⟨p,by simp,E',r,S',by simp only [MK.ob,hu];exact g2,by simp only [MK.ev,hu];exact g1,g3,g4,g5,by omega,fun _ l _=>by simp only [St.get,g7]⟩
   ·obtain ⟨p,h3,rfl⟩:=gO hL;obtain ⟨r,S',E',g1,g2,g3,g4,g5,g6,g7⟩:=Kc h (bb h h1) (bb h h2) h3;exact ⟨p,by simp,E',r,S',g2,g1,g3,g4,g5,by omega,fun _ l _=>by simp only [St.get,g7]⟩
  ·cases hL
 |HJ x=>
  simp only [eu] at hL;split at hL
  ·rename_i s h1;obtain ⟨p,h3,rfl⟩:=gO hL;obtain ⟨u,g1,g2⟩:=Kj h (bb h h1) h3;exact .val g2 trivial (by simp only [MK.ev,g1])
  ·cases hL
 |DX x=>
  simp only [eu] at hL;split at hL
  ·rename_i s h1;obtain ⟨p,h3,rfl⟩:=jh hL;obtain ⟨xs,t,u,g1,g2,g3⟩:=Ke h (bb h h1) h3;exact .val (.same h g3) trivial (by simp only [MK.ev,g1,if_true,g2,Option.map_some])
  ·cases hL
 |MY x=>
  simp only [eu] at hL;split at hL
  ·rename_i s h1;split at hL
   ·rename_i hc;cases hL;obtain ⟨n,hn⟩:=Bu.1 hc;obtain ⟨u,g1,_⟩:=gJ hn (bb h h1);refine .val (.same h (bb h h1)) trivial (by simp only [MK.ev,g1])
   ·cases hL
  ·cases hL
 |ext x i=>
  simp only [eu] at hL;split at hL
  ·rename_i s h1;obtain ⟨p,h3,rfl⟩:=jh hL;have g:=bb h h1;unfold Ko at h3;split at h3
   ·simp only [SV.rel] at g;obtain ⟨vs,g1,g2⟩:=g;rw [cR] at h3;obtain ⟨v,g3,g4⟩:=wc g1 h3;exact .val (.same h g4) trivial (by simp only [MK.ev,g2,kr,g3,Option.map_some])
   ·cases h3
  ·cases hL
 |min x y=>
  simp only [eu] at hL;split at hL
  ·rename_i s t h1 h2;have g:=bb h h1;have g':=bb h h2;unfold wL at hL;split at hL
   ·rename_i k a k' b;split at hL
    ·rename_i hk;cases hL;have hk:k=k':=by simpa [lg] using hk
     subst hk;have g0:=g;have g0':=g';simp only [SV.rel] at g g';obtain ⟨n,g1,_,g2⟩:=g;obtain ⟨n',g3,_,g4⟩:=g';obtain ⟨B,g5,g6⟩:=mV h (pR ((g1.sub g3).aG (-1)));refine ⟨_,oN g5,E,.int k (if n'<n then n' else n),S,trivial,by simp only [MK.ev,g2,g4,lE,Option.map_some],.refl E,g6,?_,Af _,fun _ _ _=>rfl⟩
     by_cases hlt:n'<n
     ·rw [decide_eq_true (by omega),if_pos rfl,if_pos hlt];rw [g4] at g0';exact g0'
     ·rw [decide_eq_false (by omega),if_neg (by simp),if_neg hlt];rw [g2] at g0;exact g0
    ·cases hL
   ·cases hL
  ·cases hL
 |max x y=>
  simp only [eu] at hL;split at hL
  ·rename_i s t h1 h2;have g:=bb h h1;have g':=bb h h2;unfold wL at hL;split at hL
   ·rename_i k a k' b;split at hL
    ·rename_i hk;cases hL;have hk:k=k':=by simpa [lg] using hk
     subst hk;have g0:=g;have g0':=g';simp only [SV.rel] at g g';obtain ⟨n,g1,_,g2⟩:=g;obtain ⟨n',g3,_,g4⟩:=g';obtain ⟨B,g5,g6⟩:=mV h (pR ((g3.sub g1).aG (-1)));refine ⟨_,oN g5,E,.int k (if n'>n then n' else n),S,trivial,by simp only [MK.ev,g2,g4,Dq,Option.map_some],.refl E,g6,?_,Af _,fun _ _ _=>rfl⟩
     by_cases hlt:n'>n
     ·rw [decide_eq_true (by omega),if_pos rfl,if_pos hlt];rw [g4] at g0';exact g0'
     ·rw [decide_eq_false (by omega),if_neg (by simp),if_neg hlt];rw [g2] at g0;exact g0
    ·cases hL
   ·cases hL
  ·cases hL
 |cmp k neg x y=>
  simp only [eu] at hL;split at hL
  ·rename_i s t h1 h2;obtain ⟨p,h3,rfl⟩:=gO hL;have g:=bb h h1;have g':=bb h h2;unfold Kg at h3;split at h3
   ·cases h3;simp only [SV.rel] at g g';obtain ⟨a,_,g1⟩:=g;obtain ⟨b,_,g2⟩:=g';exact .val (jW h (neg !=(a==b))) trivial (by simp only [MK.ev,g1,g2,qG,Option.map_some])
   ·cases h3;simp only [SV.rel] at g g';obtain ⟨l,_,g1⟩:=g;exact .val (v:= .bool (neg !=false)) (.same h (by simp only [SV.rel];exact ⟨_,rfl,rfl⟩)) trivial (by simp only [MK.ev,g1,g',qG,Option.map_some])
   ·cases h3;simp only [SV.rel] at g g';obtain ⟨xs,l,_,_,g1⟩:=g;exact .val (v:= .bool (neg !=false)) (.same h (by simp only [SV.rel];exact ⟨_,rfl,rfl⟩)) trivial (by simp only [MK.ev,g1,g',qG,Option.map_some])
   ·cases h3;simp only [SV.rel] at g g';exact .val (v:= .bool (neg !=true)) (.same h (by simp only [SV.rel];exact ⟨_,rfl,rfl⟩)) trivial (by simp only [MK.ev,g,g',qG,Option.map_some])
   ·cases h3
  ·cases hL
 |func f a c=>
  simp only [eu] at hL;split at hL
  ·rename_i s t h1 h2;cases hL;exact .val (v:= .fn f (a.map (aj.ev F)) (c.map (aj.ev F))) (.same h (by simp only [SV.rel];exact ⟨_,_,kP h h1,kP h h2,rfl⟩)) trivial rfl
  ·cases hL
 |_=>cases hL
end
end Go.Proofs.YtoopnalhhfmgaaaGreatDoor
namespace Go.Proofs.YtoopnalhhfmgaaaGreatDoor
open Go Go.V
structure Mt where
 A:AS
 σ:List aa
 τ:List Nat
 υ:List Nat
structure Cm where
 n:Nat
 m:Nat
 o:Nat
 t:Nat
def HL (n:Nat) (σ:List aa):Ts->aa
 |[]=> .aY 0
 |(v,a)::ts=>if Nat.blt v n then (HL n σ ts).add ⟨0,[(v,a)]⟩ else match nth σ (v-n) with
  |some e=>(HL n σ ts).add (e.bG a)
  |none=>HL n σ ts
def sb (n:Nat) (σ:List aa) (e:aa):aa:=(HL n σ e.ts).aG e.c
structure Bd (c:Cm) (E0 E:En) (M:Mt) (Ep:En):Prop where
 le:E0.le E
 n:E0.ρ.length=c.n
 m:E0.χ.length=c.m
 o:E0.θ.length=c.o
 t:E0.κ.length=c.t
 ρ:∃ r,Ep.ρ=E0.ρ++r/\r.length=M.σ.length/\∀ (i:Nat) e,M.σ[i]? =some e->∃ x,r[i]? =some x/\e.is E.ρ x
 χ:∃ r,Ep.χ=E0.χ++r/\r.length=M.τ.length/\∀ (i:Nat) Y,M.τ[i]? =some Y->∃ xs,r[i]? =some xs/\E.χ[Y]? =some xs
 θ:Ep.θ=E0.θ
 κ:∃ r,Ep.κ=E0.κ++r/\r.length=M.υ.length/\∀ (i:Nat) u,M.υ[i]? =some u->∃ tk,r[i]? =some tk/\r9 E u tk/\np M.A u=true
section
variable {gl:List (Nat×List AV)} {c:Cm} {E0 E E' Ep:En} {M:Mt} {F:Fr} {S:St}
def M4 (hb:Bd c E0 E M Ep):∀ {ts:Ts},dd Ep.ρ.length ts=true->(HL c.n M.σ ts).is E.ρ (cb Ep.ρ ts)
 |[],_=>aa.bZ _ 0
 |(v,a)::ts,h=>by
  simp only [dd,Aa] at h;have ih:=M4 hb h.2;obtain ⟨r,h1,h2,h3⟩:=hb.ρ;obtain ⟨q,hq⟩:=hb.le.ρ;unfold HL;split
  ·rename_i hv;have hv:v<E0.ρ.length:=by rw [hb.n];exact dz.1 hv
   have e1:vr Ep.ρ v=vr E0.ρ v:=by rw [h1];exact Gc hv
   have e2:vr E.ρ v=vr E0.ρ v:=by rw [hq];exact Gc hv
   have:(⟨0,[(v,a)]⟩:aa).is E.ρ (a*vr Ep.ρ v):=by
    refine ⟨?_,?_⟩
    ·simp only [dd,BS];refine dz.2 ?_;rw [hq,Ak];omega
    ·simp only [aa.val,cb];rw [e1,e2];omega
   have:=ih.add this;simp only [cb];rw [BT];exact this
  ·rename_i hv
   have hv:c.n<=v:=by
    rcases Al v c.n with h4|h4
    ·exact absurd (dz.2 h4) hv
    ·exact h4
   have hlt:=dz.1 h.1;rw [h1,Ak,hb.n] at hlt;obtain ⟨e,he⟩:=aK (show v-c.n<M.σ.length by omega);rw [cR,he];obtain ⟨x,k1,k2⟩:=h3 _ _ he
   have e1:vr Ep.ρ v=x:=by
    unfold vr;rw [h1,AG (by rw [hb.n];exact hv),hb.n,k1];rfl
   have:=ih.add (k2.bG a);simp only [cb];rw [e1,BT];exact this
def eW (hb:Bd c E0 E M Ep) {e:aa} {x:Int} (h:e.is Ep.ρ x):(sb c.n M.σ e).is E.ρ x:=by
 have:=(M4 hb h.1).aG e.c;rw [<-h.2];unfold aa.val;rw [BT];exact this
def Bd.mono (hE:E.le E') (hb:Bd c E0 E M Ep) {A':AS} (ha:∀ u,np M.A u=true->np A' u=true):Bd c E0 E' {M with A:=A'} Ep:=by
 refine ⟨hb.le.trans hE,hb.n,hb.m,hb.o,hb.t,?_,?_,hb.θ,?_⟩
 ·obtain ⟨r,h1,h2,h3⟩:=hb.ρ;exact ⟨r,h1,h2,fun i e he=>by obtain ⟨x,a,b⟩:=h3 i e he;exact ⟨x,a,b.le hE⟩⟩
 ·obtain ⟨r,h1,h2,h3⟩:=hb.χ;exact ⟨r,h1,h2,fun i e he=>by obtain ⟨x,a,b⟩:=h3 i e he;exact ⟨x,a,hE.χg b⟩⟩
 ·obtain ⟨r,h1,h2,h3⟩:=hb.κ;exact ⟨r,h1,h2,fun i e he=>by obtain ⟨x,a,b,d⟩:=h3 i e he;exact ⟨x,a,b.le hE,ha _ d⟩⟩
def Ku (c:Cm) (M:Mt) (e x:aa):Option Mt:=
 if e.beq (.var (c.n+M.σ.length)) then some {M with σ:=M.σ++[x]} else
  if dd (c.n+M.σ.length) e.ts then
   let f:=sb c.n M.σ e
   if f.beq x||(u7 M.A.fs f x && u7 M.A.fs x f) then some M else none
  else none
def Bd.len (hb:Bd c E0 E M Ep):Ep.ρ.length=c.n+M.σ.length:=by
 obtain ⟨r,h1,h2,_⟩:=hb.ρ;rw [h1,Ak,hb.n,h2]
def Bd.Jd (hb:Bd c E0 E M Ep):Ep.χ.length=c.m+M.τ.length:=by
 obtain ⟨r,h1,h2,_⟩:=hb.χ;rw [h1,Ak,hb.m,h2]
def Bd.Jc (hb:Bd c E0 E M Ep):Ep.κ.length=c.t+M.υ.length:=by
 obtain ⟨r,h1,h2,_⟩:=hb.κ;rw [h1,Ak,hb.t,h2]
def Bd.num (hb:Bd c E0 E M Ep) {x:aa} {n:Int} (hx:x.is E.ρ n):Bd c E0 E {M with σ:=M.σ++[x]} (Ep.num n)/\(aa.var (c.n+M.σ.length)).is (Ep.num n).ρ n:=by
 obtain ⟨r,h1,h2,h3⟩:=hb.ρ;refine ⟨⟨hb.le,hb.n,hb.m,hb.o,hb.t,⟨r++[n],by simp [En.num,h1],by simp [h2],fun i e he=>?_⟩,hb.χ,hb.θ,hb.κ⟩,?_⟩
 ·rcases iP he with he|⟨e1,e2⟩
  ·obtain ⟨y,a,b⟩:=h3 i e he;exact ⟨y,gh a,b⟩
  ·subst e1 e2;exact ⟨n,by rw [<-h2];exact cX,hx⟩
 ·refine aa.iR ?_;have:(Ep.num n).ρ=Ep.ρ++[n]:=rfl;rw [this];have e1:c.n+M.σ.length=Ep.ρ.length:=by rw [h1,Ak,hb.n,h2]
  rw [e1];exact cX
def DY (h:Gm gl E M.A F S) (hb:Bd c E0 E M Ep) {e x:aa} {n:Int} (hx:x.is E.ρ n) {M':Mt} (hm:Ku c M e x=some M'):(M'.A=M.A/\M'.τ=M.τ/\M'.υ=M.υ)/\∃ Ep',Ep.le Ep'/\Bd c E0 E M' Ep'/\e.is Ep'.ρ n:=by
 unfold Ku at hm;split at hm
 ·rename_i he;cases hm;have he:=aa.dG he;obtain ⟨g1,g2⟩:=hb.num hx;rw [he];exact ⟨⟨rfl,rfl,rfl⟩,_,Ep.cf n,g1,g2⟩
 ·split at hm
  ·rename_i hs;simp only at hm;split at hm
   ·rename_i hc;cases hm;rw [<-hb.len] at hs;have g:=eW hb (e:=e) (x:=e.val Ep.ρ) ⟨hs,rfl⟩;refine ⟨⟨rfl,rfl,rfl⟩,Ep,.refl Ep,hb,hs,?_⟩;simp only [AI,Aa] at hc;rcases hc with hc|⟨hc1,hc2⟩
    ·rw [aa.dG hc] at g;exact g.uniq hx
    ·have a1:=lU h.fs g hx hc1;have a2:=lU h.fs hx g hc2;omega
   ·cases hm
  ·cases hm
def VB (c:Cm) (M:Mt) (e x:aa):Option Mt:=
 if e.beq (.var (c.n+M.σ.length)) then some {M with σ:=M.σ++[x]} else
  if dd (c.n+M.σ.length) e.ts && u7 M.A.fs x (sb c.n M.σ e) then some M else none
def VC (h:Gm gl E M.A F S) (hb:Bd c E0 E M Ep) {e x:aa} {n:Int} (hx:x.is E.ρ n) {M':Mt} (hm:VB c M e x=some M'):(M'.A=M.A/\M'.τ=M.τ/\M'.υ=M.υ)/\∃ Ep',Ep.le Ep'/\Bd c E0 E M' Ep'/\∃ z,e.is Ep'.ρ z/\n<=z:=by
 unfold VB at hm;split at hm
 ·rename_i he;cases hm;have he:=aa.dG he;obtain ⟨g1,g2⟩:=hb.num hx;rw [he];exact ⟨⟨rfl,rfl,rfl⟩,_,Ep.cf n,g1,n,g2,Ax _⟩
 ·split at hm
  ·rename_i hc;cases hm;simp only [Aa] at hc;have hs:=hc.1;rw [<-hb.len] at hs;have g:=eW hb (e:=e) (x:=e.val Ep.ρ) ⟨hs,rfl⟩;exact ⟨⟨rfl,rfl,rfl⟩,Ep,.refl Ep,hb,_,⟨hs,rfl⟩,lU h.fs hx g hc.2⟩
  ·cases hm
def Bl (pl:List LI) (c:Cm) (M:Mt) (Ep:En):Prop:=∀ (i:Nat) li,i<M.τ.length->pl[i]? =some li->∃ xs,Ep.χ[c.m+i]? =some xs/\gx Ep li xs
def Bl.le {pl:List LI} {Ep':En} (hE:Ep.le Ep') {M':Mt} (ht:M'.τ=M.τ) (h:Bl pl c M Ep):Bl pl c M' Ep':=fun i li hi hl=>by
 rw [ht] at hi;obtain ⟨xs,h1,h2⟩:=h i li hi hl;exact ⟨xs,hE.χg h1,h2.le hE⟩
structure MR (gl:List (Nat×List AV)) (c:Cm) (pl:List LI) (E0 E:En) (M':Mt) (Ep:En) (F:Fr) (S:St) (R:En->Prop):Prop where
 h:∃ E' Ep',E.le E'/\Ep.le Ep'/\Gm gl E' M'.A F S/\Bd c E0 E' M' Ep'/\Bl pl c M' Ep'/\R Ep'
def bdB (M:Mt):BE->Mt
 | .k t=>{M with σ:=M.σ++[.aY (if t then 1 else 0)]}
 |_=>{M with A:=M.A.upto 1,σ:=M.σ++[.var M.A.nv]}
def VA {pl:List LI} (h:Gm gl E M.A F S) (hb:Bd c E0 E M Ep) (hl:Bl pl c M Ep) {x:BE} {t:Bool} (hx:x.is E.ρ t):MR gl c pl E0 E (bdB M x) Ep F S fun Ep'=>(BE.eq ((aa.var (c.n+M.σ.length)).aG (-1))).is Ep'.ρ t:=by
 have key:∀ u:Bool,∃ y:Int,y=(if u then 1 else 0)/\0<=y/\y<=1/\u=decide (y+ -1=0):=fun u=>⟨_,rfl,by cases u<;>decide,by cases u<;>decide,by cases u<;>rfl⟩
 have gen:MR gl c pl E0 E {M with A:=M.A.upto 1,σ:=M.σ++[.var M.A.nv]} Ep F S fun Ep'=>(BE.eq ((aa.var (c.n+M.σ.length)).aG (-1))).is Ep'.ρ t:=by
  obtain ⟨y,_,y1,y2,y3⟩:=key t;have g:=h.upto y1 y2
  have hb':=hb.mono (E.cf y) (A':=M.A.upto 1) (fun u hu=>by cases u with
   |zero=>exact hu
   |succ u=>cases u<;>exact hu)
  obtain ⟨g1,g2⟩:=hb'.num (h.new y);exact ⟨_,_,E.cf y,Ep.cf y,g,g1,hl.le (Ep.cf y) rfl,_,g2.aG (-1),y3⟩
 cases x with
 |k u=>
  have hx:t=u:=hx;subst hx;obtain ⟨y,y0,y1,y2,y3⟩:=key t;obtain ⟨g1,g2⟩:=hb.num (aa.bZ E.ρ (if t then 1 else 0));refine ⟨E,_,.refl E,Ep.cf _,h,g1,hl.le (Ep.cf _) rfl,_,g2.aG (-1),?_⟩;rw [<-y0];exact y3
 |ge e=>exact gen
 |eq e=>exact gen
 |ne e=>exact gen
def L5 (c:Cm) (M:Mt) (t t':Nat):Option Mt:=
 match t with
 |0=>some M
 |1=>if Nat.beq t' 1 then some M else none
 |j+2=>if Nat.beq j (c.t+M.υ.length) && (np M.A t' && (Nat.beq t' 1|| !(gz t' M.υ))) then some {M with υ:=M.υ++[t']} else none
def Fv {pl:List LI} (h:Gm gl E M.A F S) (hb:Bd c E0 E M Ep) (hl:Bl pl c M Ep) {t t':Nat} {tk:bE} (ht:r9 E t' tk) {M':Mt} (hm:L5 c M t t'=some M'):MR gl c pl E0 E M' Ep F S fun Ep'=>r9 Ep' t tk:=by
 unfold L5 at hm;split at hm
 ·cases hm;exact ⟨E,Ep,.refl E,.refl Ep,h,hb,hl,trivial⟩
 ·split at hm
  ·rename_i hc;cases hm;obtain rfl:=aq.1 hc;exact ⟨E,Ep,.refl E,.refl Ep,h,hb,hl,ht⟩
  ·cases hm
 ·rename_i j;split at hm
  ·rename_i hc;cases hm;simp only [Aa] at hc;obtain ⟨c1,c2,_⟩:=hc;have hlen:=hb.Jc;obtain ⟨r,h1,h2,h3⟩:=hb.κ;refine ⟨E,Ep.tok tk,.refl E,Ep.p7 tk,h,⟨hb.le,hb.n,hb.m,hb.o,hb.t,hb.ρ,hb.χ,hb.θ,⟨r++[tk],by simp [En.tok,h1],by simp [h2],fun i u hu=>?_⟩⟩,hl.le (Ep.p7 tk) rfl,?_⟩
   ·rcases iP hu with hu|⟨e1,e2⟩
    ·obtain ⟨y,a,b,d⟩:=h3 i u hu;exact ⟨y,gh a,b,d⟩
    ·subst e1 e2;exact ⟨tk,by rw [<-h2];exact cX,ht,c2⟩
   ·show (Ep.κ++[tk])[j]? =some tk;rw [aq.1 c1,<-hlen];exact cX
  ·cases hm
def isX (c:Cm) (M:Mt) (X Y:Nat):Bool:=
 if Nat.blt X c.m then Nat.beq X Y else (match nth M.τ (X-c.m) with
  |some Z=>Nat.beq Z Y
  |none=>false)
def mtL (c:Cm) (pl:List LI) (M:Mt) (k X t:Nat) (y:SV):Option Mt:=
 if Nat.beq X (c.m+M.τ.length) then (match nth pl M.τ.length with
  |some li=>if Nat.beq li.k k then (match HY M.A k li.e y with
   |some (Y,t',B)=>(match nth B.ls Y with
    |some lj=>(match Ku c {M with A:=B,τ:=M.τ++[Y]} li.n lj.n with
     |some M2=>(match VB c M2 li.z lj.z with
      |some M3=>L5 c M3 t t'
      |none=>none)
     |none=>none)
    |none=>none)
   |none=>none) else none
  |none=>none)
 else (match y with
  | .l k' Y t'=>if Nat.beq k' k && isX c M X Y then L5 c M t t' else none
  |_=>none)
def aaf {pl:List LI} (h:Gm gl E M.A F S) (hb:Bd c E0 E M Ep) (hl:Bl pl c M Ep) {k X t:Nat} {y:SV} {v:AV} (hy:y.rel E v) {M':Mt} (hm:mtL c pl M k X t y=some M'):MR gl c pl E0 E M' Ep F S fun Ep'=>(SV.l k X t).rel Ep' v:=by
 unfold mtL at hm;split at hm
 ·rename_i hX;obtain rfl:=aq.1 hX;rw [cR] at hm;split at hm
  ·rename_i li hli;split at hm
   ·rename_i hk;split at hm
    ·rename_i Y t' B hB;obtain ⟨E1,xs,tk,lj,g1,g2,rfl,g3,g4,g5,g6,g7,g8,g9,g10,g11⟩:=yw h hy hB;have hlj:nth B.ls Y=some lj:=by rw [cR];exact g5
     simp only [hlj] at hm
     have hb1:=hb.mono g1 (A':=B) (fun u hu=>by
      match u,hu with
      |0,hu=>exact hu
      |1,hu=>exact hu
      |u+2,hu=>simp only [np,g9] at hu ⊢;exact hu)
     have hb2:Bd c E0 E1 {M with A:=B,τ:=M.τ++[Y]} (Ep.ej xs):=by
      obtain ⟨r,q1,q2,q3⟩:=hb1.χ;refine ⟨hb1.le,hb1.n,hb1.m,hb1.o,hb1.t,hb1.ρ,⟨r++[xs],by simp [En.ej,q1],by simp [q2],fun i u hu=>?_⟩,hb1.θ,hb1.κ⟩;rcases iP hu with hu|⟨e1,e2⟩
      ·obtain ⟨y,a,b⟩:=q3 i u hu;exact ⟨y,gh a,b⟩
      ·subst e1 e2;exact ⟨xs,by rw [<-q2];exact cX,g3⟩
     split at hm
     ·rename_i M2 hM2;obtain ⟨⟨a1,a2,a3⟩,Ep2,a4,a5,a6⟩:=DY (M:={M with A:=B,τ:=M.τ++[Y]}) g2 hb2 g6.n hM2;split at hm
      ·rename_i M3 hM3;obtain ⟨z,hz1,hz2⟩:=g6.z;obtain ⟨⟨b1,b2,b3⟩,Ep3,b4,b5,zz,b6,b7⟩:=VC (by rw [a1];exact g2) a5 hz1 hM3;have hEp:Ep.le Ep3:=((Ep.iu xs).trans a4).trans b4
       have hxs:Ep3.χ[c.m+M.τ.length]? =some xs:=by
        rw [<-hb.Jd];exact (a4.trans b4).χg cX
       have hl3:Bl pl c M3 Ep3:=by
        intro i lk hi hlk;rw [b2,a2] at hi;simp only [Ak,List.length_cons,List.length_nil] at hi;rcases Al i M.τ.length with hi'|hi'
        ·obtain ⟨ys,q1,q2⟩:=hl i lk hi' hlk;exact ⟨ys,hEp.χg q1,q2.le hEp⟩
        ·have:i=M.τ.length:=by omega
         subst this;rw [hli] at hlk;cases hlk;refine ⟨xs,hxs,⟨?_,a6.le b4,zz,b6,by omega⟩⟩;have:=g6.el;rw [g7,g8] at this;rw [aq.1 hk];exact this
       obtain ⟨E4,Ep4,c1,c2,c3,c4,c5,c6⟩:=(Fv (by rw [b1,a1];exact g2) b5 hl3 g4 hm).h;refine ⟨E4,Ep4,g1.trans c1,hEp.trans c2,c3,c4,c5,?_⟩;simp only [SV.rel];exact ⟨xs,tk,c2.χg hxs,c6,rfl⟩
      ·cases hm
     ·cases hm
    ·cases hm
   ·cases hm
  ·cases hm
 ·split at hm
  ·rename_i k' Y t';split at hm
   ·rename_i hc;simp only [Aa] at hc;obtain rfl:=aq.1 hc.1;simp only [SV.rel] at hy;obtain ⟨xs,tk,q1,q2,rfl⟩:=hy
    have hX:Ep.χ[X]? =some xs:=by
     have hc2:=hc.2;unfold isX at hc2;obtain ⟨r,h1,h2,h3⟩:=hb.χ;split at hc2
     ·rename_i hlt;obtain rfl:=aq.1 hc2;have hlt:=dz.1 hlt;obtain ⟨q,hq⟩:=hb.le.χ;rw [h1,AF (by rw [hb.m];exact hlt)];rw [hq,AF (by rw [hb.m];exact hlt)] at q1;exact q1
     ·rename_i hlt;rw [cR] at hc2;split at hc2
      ·rename_i Z hZ;obtain rfl:=aq.1 hc2;obtain ⟨ys,a,b⟩:=h3 _ _ hZ;rw [q1] at b;cases b
       have hge:c.m<=X:=by
        rcases Al X c.m with h4|h4
        ·exact absurd (dz.2 h4) hlt
        ·exact h4
       rw [h1,AG (by rw [hb.m];exact hge),hb.m];exact a
      ·cases hc2
    obtain ⟨E4,Ep4,c1,c2,c3,c4,c5,c6⟩:=(Fv h hb hl q2 hm).h;refine ⟨E4,Ep4,c1,c2,c3,c4,c5,?_⟩;simp only [SV.rel];exact ⟨xs,tk,c2.χg hX,c6,rfl⟩
   ·cases hm
  ·cases hm
def LY (c:Cm) (M:Mt):BE->BE->Bool
 | .k a,.k b=>a==b
 | .ge e,.ge x=>dd (c.n+M.σ.length) e.ts && (sb c.n M.σ e).beq x
 | .eq e,.eq x=>dd (c.n+M.σ.length) e.ts && (sb c.n M.σ e).beq x
 | .ne e,.ne x=>dd (c.n+M.σ.length) e.ts && (sb c.n M.σ e).beq x
 |_,_=>false
def aad (hb:Bd c E0 E M Ep) {p x:BE} {t:Bool} (hx:x.is E.ρ t) (h:LY c M p x=true):p.is Ep.ρ t:=by
 have key:∀ {e y:aa} {n:Int},(dd (c.n+M.σ.length) e.ts && (sb c.n M.σ e).beq y)=true->y.is E.ρ n->e.is Ep.ρ n:=by
  intro e y n hc hy;simp only [Aa] at hc;have hs:=hc.1;rw [<-hb.len] at hs;have g:=eW hb (e:=e) (x:=e.val Ep.ρ) ⟨hs,rfl⟩;rw [aa.dG hc.2] at g;exact ⟨hs,g.uniq hy⟩
 cases p<;>cases x<;>simp only [LY,Ah] at h
 ·rw [show t=_ from hx];rw [beq_iff_eq] at h;exact h.symm
 ·obtain ⟨n,h1,h2⟩:=hx;exact ⟨n,key h h1,h2⟩
 ·obtain ⟨n,h1,h2⟩:=hx;exact ⟨n,key h h1,h2⟩
 ·obtain ⟨n,h1,h2⟩:=hx;exact ⟨n,key h h1,h2⟩
def PZ:Fn->Fn->Bool
 | .func f,.func g=>Nat.beq f g
 |_,_=>false
mutual
def mt (c:Cm) (pl:List LI) (M:Mt):SV->SV->Option Mt
 | .i k e,.i k' x=>if lg k k' then Ku c M e x else none
 | .b p,.b x=>(match p with
  | .eq e=>if e.beq ((aa.var (c.n+M.σ.length)).aG (-1)) then some (bdB M x) else if LY c M p x then some M else none
  |p=>if LY c M p x then some M else none)
 | .s e,y=>(match kC y with
  |some x=>Ku c M e x
  |none=>none)
 | .c v,.c w=>if v.gq w then some M else none
 | .l k X t,y=>mtL c pl M k X t y
 | .lit k xs t,.lit k' ys t'=>if Nat.beq k' k then (match sS c pl M xs ys with
  |some M2=>L5 c M2 t t'
  |none=>none) else none
 | .p j o,.p j' o'=>if Nat.beq j j' && (Nat.beq o o' && Nat.blt j c.o) then some M else none
 | .a xs,.a ys=>sS c pl M xs ys
 | .aF xs,.aF ys=>sS c pl M xs ys
 | .fn f a b,.fn g a' b'=>if PZ f g then (match sS c pl M a a' with
  |some M2=>sS c pl M2 b b'
  |none=>none) else none
 |_,_=>none
def sS (c:Cm) (pl:List LI) (M:Mt):List SV->List SV->Option Mt
 |[],[]=>some M
 |x::xs,y::ys=>(match mt c pl M x y with
  |some M2=>sS c pl M2 xs ys
  |none=>none)
 |_,_=>none
end
def La {f g:Fn} (h:PZ f g=true):f=g:=by
 cases f<;>cases g<;>simp only [PZ,Ah] at h
 rw [aq.1 h]
mutual
def Jz {pl:List LI}:∀ (p:SV) {E Ep:En} {M M':Mt} {y:SV} {v:AV},Gm gl E M.A F S->Bd c E0 E M Ep->Bl pl c M Ep->y.rel E v->mt c pl M p y=some M'->MR gl c pl E0 E M' Ep F S fun Ep'=>p.rel Ep' v
 | .i k e,E,Ep,M,M',y,v,h,hb,hl,hy,hm=>by
  cases y<;>simp only [mt,reduceCtorEq] at hm
  split at hm
  ·rename_i hk;have hk:=hk;simp only [lg,decide_eq_true_eq] at hk;subst hk;simp only [SV.rel] at hy;obtain ⟨n,h1,h2,rfl⟩:=hy;obtain ⟨⟨a1,a2,a3⟩,Ep2,a4,a5,a6⟩:=DY h hb h1 hm;exact ⟨E,Ep2,.refl E,a4,by rw [a1];exact h,a5,hl.le a4 a2,by simp only [SV.rel];exact ⟨n,a6,h2,rfl⟩⟩
  ·cases hm
 | .b p,E,Ep,M,M',y,v,h,hb,hl,hy,hm=>by
  cases y<;>simp only [mt,reduceCtorEq] at hm
  simp only [SV.rel] at hy;obtain ⟨t,h1,rfl⟩:=hy;have key:∀ {x:BE},x.is E.ρ t->LY c M p x=true->MR gl c pl E0 E M Ep F S fun Ep'=>(SV.b p).rel Ep' (.bool t):=fun hx hc=>⟨E,Ep,.refl E,.refl Ep,h,hb,hl,by simp only [SV.rel];exact ⟨t,aad hb hx hc,rfl⟩⟩;split at hm
  ·split at hm
   ·rename_i hc;cases hm;obtain ⟨E1,Ep1,g1,g2,g3,g4,g5,g6⟩:=(VA h hb hl h1).h;exact ⟨E1,Ep1,g1,g2,g3,g4,g5,by simp only [SV.rel];rw [aa.dG hc];exact ⟨t,g6,rfl⟩⟩
   ·split at hm
    ·rename_i hc;cases hm;exact key h1 hc
    ·cases hm
  ·split at hm
   ·rename_i hc;cases hm;exact key h1 hc
   ·cases hm
 | .s e,E,Ep,M,M',y,v,h,hb,hl,hy,hm=>by
  simp only [mt] at hm;split at hm
  ·rename_i x hx;obtain ⟨s,rfl,h1⟩:=gJ hx hy;obtain ⟨⟨a1,a2,a3⟩,Ep2,a4,a5,a6⟩:=DY h hb h1 hm;exact ⟨E,Ep2,.refl E,a4,by rw [a1];exact h,a5,hl.le a4 a2,by simp only [SV.rel];exact ⟨s,a6,rfl⟩⟩
  ·cases hm
 | .c w,E,Ep,M,M',y,v,h,hb,hl,hy,hm=>by
  cases y<;>simp only [mt,reduceCtorEq] at hm
  split at hm
  ·rename_i hc;cases hm;simp only [SV.rel] at hy;subst hy;have:=AV.nD hc;subst this;exact ⟨E,Ep,.refl E,.refl Ep,h,hb,hl,by simp only [SV.rel]⟩
  ·cases hm
 | .l k X t,E,Ep,M,M',y,v,h,hb,hl,hy,hm=>by
  simp only [mt] at hm;exact aaf h hb hl hy hm
 | .lit k xs t,E,Ep,M,M',y,v,h,hb,hl,hy,hm=>by
  cases y<;>simp only [mt,reduceCtorEq] at hm
  split at hm
  ·rename_i hk;obtain rfl:=aq.1 hk;split at hm
   ·rename_i M2 h2;simp only [SV.rel] at hy;obtain ⟨vs,tk,q1,q2,rfl⟩:=hy;obtain ⟨E1,Ep1,g1,g2,g3,g4,g5,g6⟩:=(lV xs h hb hl q1 h2).h;obtain ⟨E2,Ep2,f1,f2,f3,f4,f5,f6⟩:=(Fv g3 g4 g5 (q2.le g1) hm).h;exact ⟨E2,Ep2,g1.trans f1,g2.trans f2,f3,f4,f5,by simp only [SV.rel];exact ⟨vs,tk,aZ.le f2 _ g6,f6,rfl⟩⟩
   ·cases hm
  ·cases hm
 | .p j o,E,Ep,M,M',y,v,h,hb,hl,hy,hm=>by
  cases y<;>simp only [mt,reduceCtorEq] at hm
  split at hm
  ·rename_i hc;cases hm;simp only [Aa] at hc;obtain ⟨c1,c2,c3⟩:=hc;obtain rfl:=aq.1 c1;obtain rfl:=aq.1 c2;simp only [SV.rel] at hy;obtain ⟨l,q1,rfl⟩:=hy;refine ⟨E,Ep,.refl E,.refl Ep,h,hb,hl,?_⟩;simp only [SV.rel];refine ⟨l,?_,rfl⟩;obtain ⟨q,hq⟩:=hb.le.θ;rw [hb.θ];rw [hq,AF (by rw [hb.o];exact dz.1 c3)] at q1;exact q1
  ·cases hm
 | .e k X i o,E,Ep,M,M',y,v,h,hb,hl,hy,hm=>by cases y<;>simp [mt] at hm
 | .a xs,E,Ep,M,M',y,v,h,hb,hl,hy,hm=>by
  cases y<;>simp only [mt,reduceCtorEq] at hm
  simp only [SV.rel] at hy;obtain ⟨vs,q1,rfl⟩:=hy;obtain ⟨E1,Ep1,g1,g2,g3,g4,g5,g6⟩:=(lV xs h hb hl q1 hm).h;exact ⟨E1,Ep1,g1,g2,g3,g4,g5,by simp only [SV.rel];exact ⟨vs,g6,rfl⟩⟩
 | .aF xs,E,Ep,M,M',y,v,h,hb,hl,hy,hm=>by
  cases y<;>simp only [mt,reduceCtorEq] at hm
  simp only [SV.rel] at hy;obtain ⟨vs,q1,rfl⟩:=hy;obtain ⟨E1,Ep1,g1,g2,g3,g4,g5,g6⟩:=(lV xs h hb hl q1 hm).h;exact ⟨E1,Ep1,g1,g2,g3,g4,g5,by simp only [SV.rel];exact ⟨vs,g6,rfl⟩⟩
 | .fn f a b,E,Ep,M,M',y,v,h,hb,hl,hy,hm=>by
  cases y<;>simp only [mt,reduceCtorEq] at hm
  split at hm
  ·rename_i hf;have:=La hf;subst this;split at hm
   ·rename_i M2 h2;simp only [SV.rel] at hy;obtain ⟨vs,ws,q1,q2,rfl⟩:=hy;obtain ⟨E1,Ep1,g1,g2,g3,g4,g5,g6⟩:=(lV a h hb hl q1 h2).h;obtain ⟨E2,Ep2,f1,f2,f3,f4,f5,f6⟩:=(lV b g3 g4 g5 (aZ.le g1 _ q2) hm).h;exact ⟨E2,Ep2,g1.trans f1,g2.trans f2,f3,f4,f5,by simp only [SV.rel];exact ⟨vs,ws,aZ.le f2 _ g6,f6,rfl⟩⟩
   ·cases hm
  ·cases hm
def lV {pl:List LI}:∀ (ps:List SV) {E Ep:En} {M M':Mt} {ys:List SV} {vs:List AV},Gm gl E M.A F S->Bd c E0 E M Ep->Bl pl c M Ep->aZ E ys vs->sS c pl M ps ys=some M'->MR gl c pl E0 E M' Ep F S fun Ep'=>aZ Ep' ps vs
 |[],E,Ep,M,M',ys,vs,h,hb,hl,hy,hm=>by
  cases ys<;>simp only [sS,reduceCtorEq,Ae] at hm
  subst hm;rw [aU.1 hy];exact ⟨E,Ep,.refl E,.refl Ep,h,hb,hl,aU.2 rfl⟩
 |p::ps,E,Ep,M,M',ys,vs,h,hb,hl,hy,hm=>by
  cases ys<;>simp only [sS,reduceCtorEq] at hm
  obtain ⟨w,ws,q1,q2,rfl⟩:=aO.1 hy;split at hm
  ·rename_i M2 h2;obtain ⟨E1,Ep1,g1,g2,g3,g4,g5,g6⟩:=(Jz p h hb hl q1 h2).h;obtain ⟨E2,Ep2,f1,f2,f3,f4,f5,f6⟩:=(lV ps g3 g4 g5 (aZ.le g1 _ q2) hm).h;exact ⟨E2,Ep2,g1.trans f1,g2.trans f2,f3,f4,f5,aO.2 ⟨w,ws,g6.le f2,f6,rfl⟩⟩
  ·cases hm
end
end
end Go.Proofs.YtoopnalhhfmgaaaGreatDoor
namespace Go.Proofs.YtoopnalhhfmgaaaGreatDoor
open Go Go.V
def bq:BE->BE->Bool
 | .k a,.k b=>a==b
 | .ge e,.ge f=>e.beq f
 | .eq e,.eq f=>e.beq f
 | .ne e,.ne f=>e.beq f
 |_,_=>false
def abE:∀ {x y:BE},bq x y=true->x=y
 | .k a,y,h=>by cases y<;>simp_all [bq]
 | .ge e,y,h=>by cases y<;>simp only [bq,Ah] at h;rw [aa.dG h]
 | .eq e,y,h=>by cases y<;>simp only [bq,Ah] at h;rw [aa.dG h]
 | .ne e,y,h=>by cases y<;>simp only [bq,Ah] at h;rw [aa.dG h]
mutual
def sq:SV->SV->Bool
 | .c v,.c w=>v.gq w
 | .i k m,.i k' n=>lg k k' && m.beq n
 | .b x,.b y=>bq x y
 | .s m,.s n=>m.beq n
 | .l k X t,.l k' X' t'=>Nat.beq k k' && (Nat.beq X X' && Nat.beq t t')
 | .lit k xs t,.lit k' ys t'=>Nat.beq k k' && (Nat.beq t t' && tl xs ys)
 | .p j o,.p j' o'=>Nat.beq j j' && Nat.beq o o'
 | .e k X i o,.e k' X' i' o'=>Nat.beq k k' && (Nat.beq X X' && (Nat.beq o o' && i.beq i'))
 | .a xs,.a ys=>tl xs ys
 | .aF xs,.aF ys=>tl xs ys
 | .fn f a c,.fn g a' c'=>PZ f g && (tl a a' && tl c c')
 |_,_=>false
def tl:List SV->List SV->Bool
 |[],[]=>true
 |x::xs,y::ys=>(match sq x y with
  |true=>tl xs ys
  |false=>false)
 |_,_=>false
end
mutual
def Dw:∀ {x y:SV},sq x y=true->x=y
 | .c v,y,h=>by cases y<;>simp only [sq,Ah] at h;rw [AV.nD h]
 | .i k m,y,h=>by
  cases y<;>simp only [sq,Ah,Aa] at h
  rw [aa.dG h.2,show k=_ from of_decide_eq_true h.1]
 | .b x,y,h=>by cases y<;>simp only [sq,Ah] at h;rw [abE h]
 | .s m,y,h=>by cases y<;>simp only [sq,Ah] at h;rw [aa.dG h]
 | .l k X t,y,h=>by
  cases y<;>simp only [sq,Ah,Aa] at h
  rw [aq.1 h.1,aq.1 h.2.1,aq.1 h.2.2]
 | .lit k xs t,y,h=>by
  cases y<;>simp only [sq,Ah,Aa] at h
  rw [aq.1 h.1,aq.1 h.2.1,nX h.2.2]
 | .p j o,y,h=>by
  cases y<;>simp only [sq,Ah,Aa] at h
  rw [aq.1 h.1,aq.1 h.2]
 | .e k X i o,y,h=>by
  cases y<;>simp only [sq,Ah,Aa] at h
  rw [aq.1 h.1,aq.1 h.2.1,aq.1 h.2.2.1,aa.dG h.2.2.2]
 | .a xs,y,h=>by cases y<;>simp only [sq,Ah] at h;rw [nX h]
 | .aF xs,y,h=>by cases y<;>simp only [sq,Ah] at h;rw [nX h]
 | .fn f a c,y,h=>by
  cases y<;>simp only [sq,Ah,Aa] at h
  rw [La h.1,nX h.2.1,nX h.2.2]
def nX:∀ {xs ys:List SV},tl xs ys=true->xs=ys
 |[],[],_=>rfl
 |[],_::_,h=>by simp [tl] at h
 |_::_,[],h=>by simp [tl] at h
 |x::xs,y::ys,h=>by
  unfold tl at h;split at h
  ·rename_i h1;rw [Dw h1,nX h]
  ·cases h
end
structure Alt where
 nv:Nat
 ls:List LI
 r:SV
 fs:List aa
 up:List (Nat×Nat):=[]
 ex:List (Nat×aa×Nat):=[]
structure az where
 pv:Nat
 pl:List LI
 ps:List SV
 pf:List aa
 me:aa
 alts:List Alt
 pc:List (List aa):=[]
structure Nt (sg:az) (Es:En) (as:List AV):Prop where
 nv:Es.ρ.length=sg.pv
 nl:Es.χ.length=sg.pl.length
 θ:Es.θ=[]
 κ:Es.κ=[]
 ls:∀ (X:Nat) li,sg.pl[X]? =some li->∃ xs,Es.χ[X]? =some xs/\gx Es li xs
 as:aZ Es sg.ps as
 fs:aH Es.ρ sg.pf
 pc:sg.pc≠[]->∃ f∈sg.pc,aH Es.ρ f
structure Ij (sg:az) (Es:En) (alt:Alt) (Er:En) (r:AV):Prop where
 le:Es.le Er
 nv:Er.ρ.length=alt.nv
 nl:Er.χ.length=sg.pl.length+alt.ls.length
 θ:Er.θ=[]
 κ:Er.κ=[]
 ls:∀ (i:Nat) li,alt.ls[i]? =some li->∃ xs,Er.χ[sg.pl.length+i]? =some xs/\gx Er li xs
 r:alt.r.rel Er r
 fs:aH Er.ρ alt.fs
 up:∀ q∈alt.up,∃ xs,Es.χ[q.1]? =some xs/\∀ v∈xs,Tp (.e q.2) v
 ex:∀ q∈alt.ex,∃ xs n v,Es.χ[q.1]? =some xs/\q.2.1.is Er.ρ n/\0<=n/\xs[n.toNat]? =some v/\Tp (.e q.2.2) v
def Spec (P:Program) (gl:List (Nat×List AV)) (f:FuncId) (sg:az) (b:Int->Prop):Prop:=∀ Es as,Nt sg Es as->(∀ m,sg.me.is Es.ρ m->b m)->∃ r,Pure P gl f as (.ok r)/\∃ alt∈sg.alts,∃ Er,Ij sg Es alt Er r
mutual
def lX (σ:List aa) (τ:List Nat):SV->Option SV
 | .i k e=>some (.i k (sb 0 σ e))
 | .b (.k t)=>some (.b (.k t))
 | .b (.ge e)=>some (.b (.ge (sb 0 σ e)))
 | .b (.eq e)=>some (.b (.eq (sb 0 σ e)))
 | .b (.ne e)=>some (.b (.ne (sb 0 σ e)))
 | .s e=>some (.s (sb 0 σ e))
 | .c v=>some (.c v)
 | .l k X _=>(match nth τ X with
  |some Y=>some (.l k Y 0)
  |none=>none)
 | .lit k xs _=>(match wh σ τ xs with
  |some ys=>some (.lit k ys 0)
  |none=>none)
 | .a xs=>(match wh σ τ xs with
  |some ys=>some (.a ys)
  |none=>none)
 | .aF xs=>(match wh σ τ xs with
  |some ys=>some (.aF ys)
  |none=>none)
 |_=>none
def wh (σ:List aa) (τ:List Nat):List SV->Option (List SV)
 |[]=>some []
 |x::xs=>(match lX σ τ x with
  |some y=>(match wh σ τ xs with
   |some ys=>some (y::ys)
   |none=>none)
  |none=>none)
end
def Em:En:=⟨[],[],[],[]⟩
def abC (E:En):Em.le E:=⟨⟨E.ρ,rfl⟩,⟨E.χ,rfl⟩,⟨E.θ,rfl⟩,⟨E.κ,rfl⟩⟩
abbrev c0:Cm:=⟨0,0,0,0⟩
section
variable {gl:List (Nat×List AV)} {E E' Er:En} {M:Mt} {F:Fr} {S:St}
mutual
def M0 (hb:Bd c0 Em E M Er):∀ (x:SV) {y:SV} {v:AV},lX M.σ M.τ x=some y->x.rel Er v->y.rel E v
 | .i k e,y,v,h,hr=>by
  simp only [lX,Ae] at h;subst h;simp only [SV.rel] at hr ⊢;obtain ⟨n,h1,h2,rfl⟩:=hr;exact ⟨n,eW hb h1,h2,rfl⟩
 | .b (.k t),y,v,h,hr=>by
  simp only [lX,Ae] at h;subst h;simp only [SV.rel] at hr ⊢;exact hr
 | .b (.ge e),y,v,h,hr=>by
  simp only [lX,Ae] at h;subst h;simp only [SV.rel] at hr ⊢;obtain ⟨t,⟨n,h1,h2⟩,rfl⟩:=hr;exact ⟨t,⟨n,eW hb h1,h2⟩,rfl⟩
 | .b (.eq e),y,v,h,hr=>by
  simp only [lX,Ae] at h;subst h;simp only [SV.rel] at hr ⊢;obtain ⟨t,⟨n,h1,h2⟩,rfl⟩:=hr;exact ⟨t,⟨n,eW hb h1,h2⟩,rfl⟩
 | .b (.ne e),y,v,h,hr=>by
  simp only [lX,Ae] at h;subst h;simp only [SV.rel] at hr ⊢;obtain ⟨t,⟨n,h1,h2⟩,rfl⟩:=hr;exact ⟨t,⟨n,eW hb h1,h2⟩,rfl⟩
 | .s e,y,v,h,hr=>by
  simp only [lX,Ae] at h;subst h;simp only [SV.rel] at hr ⊢;obtain ⟨n,h1,rfl⟩:=hr;exact ⟨n,eW hb h1,rfl⟩
 | .c w,y,v,h,hr=>by
  simp only [lX,Ae] at h;subst h;simp only [SV.rel] at hr ⊢;exact hr
 | .l k X t,y,v,h,hr=>by
  simp only [lX,cR] at h;split at h
  ·rename_i Y hY;cases h;simp only [SV.rel] at hr ⊢;obtain ⟨xs,tk,h1,h2,rfl⟩:=hr;obtain ⟨r,q1,q2,q3⟩:=hb.χ;obtain ⟨ys,a,b⟩:=q3 _ _ hY;have q1:Er.χ=r:=by simpa [Em] using q1
   rw [q1,a] at h1;cases h1;exact ⟨_,tk,b,trivial,rfl⟩
  ·cases h
 | .lit k xs t,y,v,h,hr=>by
  simp only [lX] at h;split at h
  ·rename_i ys hY;cases h;simp only [SV.rel] at hr ⊢;obtain ⟨vs,tk,h1,h2,rfl⟩:=hr;exact ⟨_,tk,uC hb xs hY h1,trivial,rfl⟩
  ·cases h
 | .a xs,y,v,h,hr=>by
  simp only [lX] at h;split at h
  ·rename_i ys hY;cases h;simp only [SV.rel] at hr ⊢;obtain ⟨vs,h1,rfl⟩:=hr;exact ⟨_,uC hb xs hY h1,rfl⟩
  ·cases h
 | .aF xs,y,v,h,hr=>by
  simp only [lX] at h;split at h
  ·rename_i ys hY;cases h;simp only [SV.rel] at hr ⊢;obtain ⟨vs,h1,rfl⟩:=hr;exact ⟨_,uC hb xs hY h1,rfl⟩
  ·cases h
 | .p _ _,y,v,h,hr=>by simp [lX] at h
 | .e _ _ _ _,y,v,h,hr=>by simp [lX] at h
 | .fn _ _ _,y,v,h,hr=>by simp [lX] at h
def uC (hb:Bd c0 Em E M Er):∀ (xs:List SV) {ys:List SV} {vs:List AV},wh M.σ M.τ xs=some ys->aZ Er xs vs->aZ E ys vs
 |[],ys,vs,h,hr=>by
  simp only [wh,Ae] at h;subst h;rw [aU.1 hr];exact aU.2 rfl
 |x::xs,ys,vs,h,hr=>by
  simp only [wh] at h;obtain ⟨w,ws,h1,h2,rfl⟩:=aO.1 hr;split at h
  ·rename_i y hy;split at h
   ·rename_i ys' hys;cases h;exact aO.2 ⟨w,ws,M0 hb x hy h1,uC hb xs hys h2,rfl⟩
   ·cases h
  ·cases h
end
def DR:Nat->Mt->Mt
 |0,M=>M
 |k+1,M=>DR k {M with A:=M.A.num [],σ:=M.σ++[.var M.A.nv]}
def GI:∀ (ns:List Int) {E Ep:En} {M:Mt},Gm gl E M.A F S->Bd c0 Em E M Ep->∃ E',E.le E'/\Gm gl E' (DR ns.length M).A F S/\Bd c0 Em E' (DR ns.length M) {Ep with ρ:=Ep.ρ++ns}/\(DR ns.length M).τ=M.τ
 |[],E,Ep,M,h,hb=>⟨E,.refl E,h,by show Bd c0 Em E M _;rw [AB];exact hb,rfl⟩
 |n::ns,E,Ep,M,h,hb=>by
  have h1:=h.num (x:=n) (aH.nil _)
  have hb1:=hb.mono (E.cf n) (A':=M.A.num []) (fun u hu=>by cases u with
   |zero=>exact hu
   |succ u=>cases u<;>exact hu)
  obtain ⟨g1,g2⟩:=hb1.num (h.new n);obtain ⟨E',k1,k2,k3,k4⟩:=GI ns (M:={M with A:=M.A.num [],σ:=M.σ++[.var M.A.nv]}) h1 g1;refine ⟨E',(E.cf n).trans k1,k2,?_,k4⟩;have e:({Ep with ρ:=Ep.ρ++(n::ns)}:En)={(Ep.num n) with ρ:=(Ep.num n).ρ++ns}:=by simp [En.num]
  rw [e];exact k3
def Iq:List LI->Mt->Mt
 |[],M=>M
 |li::ls,M=>Iq ls {M with A:=M.A.ej ⟨li.k,li.e,sb 0 M.σ li.n,sb 0 M.σ li.z⟩,τ:=M.τ++[M.A.ls.length]}
def GH {Er:En}:∀ (ls:List LI) (xss:List (List AV)) {E Ep:En} {M:Mt},ls.length=xss.length->Gm gl E M.A F S->Bd c0 Em E M Ep->Ep.ρ=Er.ρ->(∀ (i:Nat) li xs,ls[i]? =some li->xss[i]? =some xs->gx Er li xs)->
  ∃ E',E.le E'/\Gm gl E' (Iq ls M).A F S/\Bd c0 Em E' (Iq ls M) {Ep with χ:=Ep.χ++xss}
 |[],[],E,Ep,M,_,h,hb,_,_=>⟨E,.refl E,h,by show Bd c0 Em E M _;rw [AB];exact hb⟩
 |[],_::_,_,_,_,e,_,_,_,_=>by cases e
 |_::_,[],_,_,_,e,_,_,_,_=>by cases e
 |li::ls,xs::xss,E,Ep,M,e,h,hb,hρ,hl=>by
  have h0:=hl 0 li xs rfl rfl
  have hL:gx E ⟨li.k,li.e,sb 0 M.σ li.n,sb 0 M.σ li.z⟩ xs:=by
   refine ⟨h0.el,eW hb (by rw [hρ];exact h0.n),?_⟩;obtain ⟨z,z1,z2⟩:=h0.z;exact ⟨z,eW hb (by rw [hρ];exact z1),z2⟩
  have h1:=h.ej hL
  have hb1:=hb.mono (E.iu xs) (A':=M.A.ej ⟨li.k,li.e,sb 0 M.σ li.n,sb 0 M.σ li.z⟩) (fun u hu=>by cases u with
   |zero=>exact hu
   |succ u=>cases u<;>exact hu)
  have hb2:Bd c0 Em (E.ej xs) {M with A:=M.A.ej ⟨li.k,li.e,sb 0 M.σ li.n,sb 0 M.σ li.z⟩,τ:=M.τ++[M.A.ls.length]} (Ep.ej xs):=by
   obtain ⟨r,q1,q2,q3⟩:=hb1.χ;refine ⟨hb1.le,hb1.n,hb1.m,hb1.o,hb1.t,hb1.ρ,⟨r++[xs],by simp [En.ej,q1],by simp [q2],fun i u hu=>?_⟩,hb1.θ,hb1.κ⟩;rcases iP hu with hu|⟨e1,e2⟩
   ·obtain ⟨y,a,b⟩:=q3 i u hu;exact ⟨y,gh a,b⟩
   ·subst e1 e2;exact ⟨xs,by rw [<-q2];exact cX,h.rn xs⟩
  obtain ⟨E',k1,k2,k3⟩:=GH ls xss (Ep:=Ep.ej xs) (by simpa using e) h1 hb2 hρ fun i lj ys e1 e2=>hl (i+1) lj ys (by simpa using e1) (by simpa using e2);refine ⟨E',(E.iu xs).trans k1,k2,?_⟩;have e:({Ep with χ:=Ep.χ++(xs::xss)}:En)={(Ep.ej xs) with χ:=(Ep.ej xs).χ++xss}:=by simp [En.ej]
  rw [e];exact k3
def QS (σ:List aa):List aa->List aa
 |[]=>[]
 |f::fs=>sb 0 σ f::QS σ fs
def MZ (hb:Bd c0 Em E M Er):∀ {fs:List aa},aH Er.ρ fs->aH E.ρ (QS M.σ fs)
 |[],_=>aH.nil _
 |f::fs,h=>by
  obtain ⟨x,h1,h2⟩:=h f (by simp);exact (MZ hb fun g hg=>h g (by simp [hg])).cons (eW hb h1) h2
def H3 (ls:List LI) (τ:List Nat):List (Nat×Nat)->List jA
 |[]=>[]
 |(X,e)::r=>match nth τ X with
  |some Y=>(match nth ls Y with
   |some li=> .p Y e li.n::H3 ls τ r
   |none=>H3 ls τ r)
  |none=>H3 ls τ r
def Nl (h:Gm gl E M.A F S) (hb:Bd c0 Em E M Er):∀ {l:List (Nat×Nat)},(∀ q∈l,∃ xs,Er.χ[q.1]? =some xs/\∀ v∈xs,Tp (.e q.2) v)->∀ q∈H3 M.A.ls M.τ l,l5 E q
 |[],_,q,hq=>by cases hq
 |(X,e)::r,hl,q,hq=>by
  have ih:=Nl h hb (l:=r) fun q hq=>hl q (by simp [hq]);unfold H3 at hq;split at hq
  ·rename_i Y hY;split at hq
   ·rename_i li hli;rcases Ab.1 hq with rfl|hq
    ·rw [cR] at hY hli;obtain ⟨xs,h1,h2⟩:=hl (X,e) (by simp);obtain ⟨r',q1,q2,q3⟩:=hb.χ;obtain ⟨ys,a,b⟩:=q3 _ _ hY;have q1:Er.χ=r':=by simpa [Em] using q1
     rw [q1,a] at h1;cases h1;obtain ⟨zs,k1,k2⟩:=h.ls Y li hli;rw [b] at k1;cases k1;exact ⟨_,_,b,k2.n,fun j v _ hv=>h2 v (Aj hv)⟩
    ·exact ih q hq
   ·exact ih q hq
  ·exact ih q hq
def G4 (fs:List aa) (el:List jA) (σ:List aa) (τ:List Nat):List (Nat×aa×Nat)->List jA
 |[]=>[]
 |(X,i,e)::r=>match nth τ X with
  |some Y=>(match cQ fs ((sb 0 σ i).bG (-1))||mq fs Y e (sb 0 σ i) el with
   |true=> .p Y e ((sb 0 σ i).aG 1)::G4 fs el σ τ r
   |false=>G4 fs el σ τ r)
  |none=>G4 fs el σ τ r
def K2 {fs:List aa} (h:Gm gl E M.A F S) (hf:aH E.ρ fs) (hb:Bd c0 Em E M Er):∀ {l:List (Nat×aa×Nat)},(∀ q∈l,∃ xs n v,Er.χ[q.1]? =some xs/\q.2.1.is Er.ρ n/\0<=n/\xs[n.toNat]? =some v/\Tp (.e q.2.2) v)->∀ q∈G4 fs M.A.el M.σ M.τ l,l5 E q
 |[],_,q,hq=>by cases hq
 |(X,i,e)::r,hl,q,hq=>by
  have ih:=K2 h hf hb (l:=r) fun q hq=>hl q (by simp [hq]);unfold G4 at hq;split at hq
  ·rename_i Y hY;split at hq
   ·rename_i hc;rcases Ab.1 hq with rfl|hq
    ·rw [cR] at hY;obtain ⟨xs,n,v,h1,h2,h3,h4,h5⟩:=hl (X,i,e) (by simp);obtain ⟨r',q1,q2,q3⟩:=hb.χ;obtain ⟨ys,a,b⟩:=q3 _ _ hY;have q1:Er.χ=r':=by simpa [Em] using q1
     rw [q1,a] at h1;cases h1;have hsb:(sb 0 M.σ i).is E.ρ n:=eW hb h2;refine ⟨_,_,b,hsb.aG 1,fun j w hj hw=>?_⟩
     by_cases hjn:j=n.toNat
     ·subst hjn;rw [h4] at hw;cases hw;exact h5
     ·simp only [AI] at hc;rcases hc with hc|hc
      ·have:=bB hf (hsb.bG (-1)) hc;omega
      ·exact kf hf hsb b h.el hc j w (by omega) hw
    ·exact ih q hq
   ·exact ih q hq
  ·exact ih q hq
def wG (sg:az) (M:Mt) (a:Alt):Option (SV×AS):=
 let M2:=Iq a.ls (DR (a.nv-sg.pv) M)
 match lX M2.σ M2.τ a.r with
 |some x=>some (x,{M2.A.jy (QS M2.σ a.fs) with el:=G4 (M2.A.jy (QS M2.σ a.fs)).fs M2.A.el M2.σ M2.τ a.ex++(H3 M2.A.ls M2.τ a.up++M2.A.el)})
 |none=>none
def Kb {sg:az} {Es:En} (h:Gm gl E M.A F S) (hb:Bd c0 Em E M Es) (hv:Es.ρ.length=sg.pv) (hx:Es.χ.length=sg.pl.length) {a:Alt} {r:AV} (hp:Ij sg Es a Er r) {p:SV×AS} (ha:wG sg M a=some p):fM gl E S F p r:=by
 unfold wG at ha;simp only at ha;obtain ⟨ns,hns⟩:=hp.le.ρ;obtain ⟨xss,hxs⟩:=hp.le.χ
 have e1:ns.length=a.nv-sg.pv:=by
  have:=hp.nv;rw [hns,Ak] at this;omega
 have e2:a.ls.length=xss.length:=by
  have:=hp.nl;rw [hxs,Ak] at this;omega
 obtain ⟨E1,g1,g2,g3,g4⟩:=GI ns h hb
 obtain ⟨E2,f1,f2,f3⟩:=GH (Er:=Er) a.ls xss e2 g2 g3 hns.symm (fun i li xs k1 k2=>by
  obtain ⟨ys,q1,q2⟩:=hp.ls i li k1;rw [hxs,AG (by omega)] at q1;rw [show sg.pl.length+i-Es.χ.length=i from by omega,k2] at q1;cases q1
  exact q2)
 have hEr:({({Es with ρ:=Es.ρ++ns}:En) with χ:=Es.χ++xss}:En)=Er:=by
  have k1:Es.θ=Er.θ:=by
   obtain ⟨q,hq⟩:=hp.le.θ;have:=hp.θ;rw [hq] at this;rw [hp.θ];exact (List.append_eq_nil_iff.1 this).1
  have k2:Es.κ=Er.κ:=by
   obtain ⟨q,hq⟩:=hp.le.κ;have:=hp.κ;rw [hq] at this;rw [hp.κ];exact (List.append_eq_nil_iff.1 this).1
  obtain ⟨a1,a2,a3,a4⟩:=Er;simp only at hns hxs k1 k2;rw [hns,hxs,k1,k2]
 rw [hEr,e1] at f3;rw [e1] at f2;split at ha
 ·rename_i x hx;cases ha;have hk:=f2.jy (MZ f3 hp.fs)
  have hup:=Nl f2 f3 (l:=a.up) fun q hq=>by
   obtain ⟨xs,q1,q2⟩:=hp.up q hq;exact ⟨xs,hp.le.χg q1,q2⟩
  have hex:=K2 f2 hk.fs f3 (l:=a.ex) fun q hq=>by
   obtain ⟨xs,n,v,q1,q2,q3,q4,q5⟩:=hp.ex q hq;exact ⟨xs,n,v,hp.le.χg q1,q2,q3,q4,q5⟩
  exact ⟨E2,g1.trans f1,⟨hk.nv,hk.nl,hk.no,hk.nt,hk.ls,fun q hq=>(AA.1 hq).elim (hex q) fun hq=>(AA.1 hq).elim (hup q) (hk.el q),hk.fr,hk.ob,hk.nd,hk.lt,hk.tk,hk.fs,hk.gl⟩,M0 f3 a.r hx hp.r⟩
 ·cases ha
def tI (sg:az) (M:Mt):List Alt->Option (List (SV×AS))
 |[]=>some []
 |a::as=>match wG sg M a with
  |some p=>(match tI sg M as with
   |some ps=>some (p::ps)
   |none=>none)
  |none=>none
def uQ {sg:az} {a:Alt}:∀ {as:List Alt} {L:List (SV×AS)},tI sg M as=some L->a∈as->∃ p∈L,wG sg M a=some p
 |[],L,_,h=>by cases h
 |b::as,L,h,hm=>by
  unfold tI at h;split at h
  ·rename_i p hp;split at h
   ·rename_i ps hps;cases h;rcases Ab.1 hm with rfl|hm
    ·exact ⟨p,by simp,hp⟩
    ·obtain ⟨q,q1,q2⟩:=uQ hps hm;exact ⟨q,by simp [q1],q2⟩
   ·cases h
  ·cases h
def QM (p:aa->Bool) (pc:List (List aa)):Bool:=
 match pc with
 |[]=>true
 |_=>kQ (ma p) pc
def Mq {p:aa->Bool} {pc:List (List aa)} (h:QM p pc=true) (hne:pc≠[]):∃ f∈pc,ma p f=true:=by
 unfold QM at h;split at h
 ·exact absurd rfl hne
 ·exact iy h
def zQ (A:AS) (x:SV):List jA->Option (List (List aa))
 |[]=>none
 | .e X _ y _::r=>(match sq x y with
  |true=>(match nth A.ls X with
   |some li=>(match Γ li.e,x with
    | .rf _ css,.a xs=>some (tN (lG A.ls xs) css)
    |_,_=>none)
   |none=>none)
  |false=>zQ A x r)
 | .p ..::r=>zQ A x r
 | .z ..::r=>zQ A x r
def Nz {σ:List aa}:∀ {css:List (List (Int×List (Nat×Int)))} {f:List (Int×List (Nat×Int))},f∈css->Ea σ (lK f)∈tN σ css:=fun h=>sh h
def wY {A:AS} (h:Gm gl E A F S) {x:SV} {v:AV} (hx:x.rel E v) {d:List (List aa)}:∀ {l:List jA},(∀ q∈l,l5 E q)->zQ A x l=some d->∃ fs∈d,aH E.ρ fs
 |[],_,hd=>by cases hd
 | .e X i y s::r,hl,hd=>by
  unfold zQ at hd;split at hd
  ·rename_i hs;have hs:=Dw hs;subst hs;split at hd
   ·rename_i li hli;rw [cR] at hli;obtain ⟨xs,h1,h2⟩:=h.ls X li hli;obtain ⟨xs',n,w,e1,e2,e3,e4,e5,_⟩:=hl (.e X i x s) (by simp);rw [h1] at e1;cases e1;split at hd
    ·rename_i css ys hG;cases hd;have ht:=h2.el.get e4;obtain ⟨vs,rfl,_,f,hf1,hf2⟩:=(uH hG).1 ht;simp only [SV.rel] at e5;obtain ⟨ws,k1,k2⟩:=e5;cases k2;exact ⟨_,Nz hf1,yV (fun m e he=>rq h k1 m e he) (by rw [oM,Ad,bV k1]) hf2⟩
    ·cases hd
   ·cases hd
  ·exact wY h hx (l:=r) (fun q hq=>hl q (by simp [hq])) hd
 | .p ..::r,hl,hd=>wY h hx (l:=r) (fun q hq=>hl q (by simp [hq])) (by simpa [zQ] using hd)
 | .z ..::r,hl,hd=>wY h hx (l:=r) (fun q hq=>hl q (by simp [hq])) (by simpa [zQ] using hd)
def yY (A:AS):List SV->List (List aa)
 |[]=>[[]]
 |x::xs=>match zQ A x A.el with
  |some d=>d
  |none=>yY A xs
def yZ {A:AS} (h:Gm gl E A F S):∀ {xs:List SV} {vs:List AV},aZ E xs vs->∃ fs∈yY A xs,aH E.ρ fs
 |[],_,_=>⟨[],by simp [yY],aH.nil _⟩
 |x::xs,vs,hr=>by
  obtain ⟨w,ws,h1,h2,rfl⟩:=aO.1 hr;unfold yY;split
  ·rename_i d hd;exact wY h h1 h.el hd
  ·exact yZ h h2
def pcS (A:AS) (M:Mt) (sg:az) (args:List SV):Bool:=
 (yY A args).all fun fs=>kQ (ma (fun e=>dd sg.pv e.ts && kQ (fun f=>f.beq (sb 0 M.σ e)) fs)) sg.pc
def pcA (A:AS) (M:Mt) (sg:az) (args:List SV):Bool:=
 match (match sg.pc with
  |[]=>true
  |_::_=>pcS A M sg args) with
 |true=>true
 |false=>match QM (fun e=>dd sg.pv e.ts && cQ M.A.fs (sb 0 M.σ e)) sg.pc with
 |true=>true
 |false=>(yY A args).all fun fs=>QM (fun e=>dd sg.pv e.ts && cQ (fs++M.A.fs) (sb 0 M.σ e)) sg.pc
def yL (Tb:List (Nat×(az×Bool))) (cur:aa) (A:AS) (f:Nat) (args:List SV):Option (List (SV×AS)):=
 match lk f Tb with
 |some (sg,rc)=>(match sS c0 sg.pl ⟨A,[],[],[]⟩ sg.ps args with
  |some M=>if Nat.beq M.σ.length sg.pv && (Nat.beq M.τ.length sg.pl.length && (Nat.beq M.υ.length 0 && (pcA A M sg args && (ma (fun e=>dd sg.pv e.ts && Lc M.A.fs (sb 0 M.σ e)) sg.pf && (!rc||(dd sg.pv sg.me.ts && (cQ M.A.fs ((cur.sub (sb 0 M.σ sg.me)).aG (-1)) && cQ M.A.fs (cur.aG (-1))))))))) then tI sg M sg.alts else none
  |none=>none)
 |none=>none
def Bd.em (E:En) (A:AS):Bd c0 Em E ⟨A,[],[],[]⟩ Em:=⟨abC E,rfl,rfl,rfl,rfl,⟨[],rfl,rfl,fun i e h=>by cases h⟩,⟨[],rfl,rfl,fun i e h=>by cases h⟩,rfl,⟨[],rfl,rfl,fun i e h=>by cases h⟩⟩
def wH {P:Program} {A:AS} {Tb:List (Nat×(az×Bool))} {cur:aa} {cv:Int} (hc:cur.is E.ρ cv) (hT:∀ f sg rc,lk f Tb=some (sg,rc)->Spec P gl f sg fun m=>rc=true->m.toNat<cv.toNat) (h:Gm gl E A F S)
  {f:Nat} {args:List SV} {vs:List AV} (ha:aZ E args vs) {L:List (SV×AS)} (hL:yL Tb cur A f args=some L):∃ r,Pure P gl f vs (.ok r)/\∃ p∈L,fM gl E S F p r:=by
 unfold yL at hL;split at hL
 ·rename_i sg rc hsg;split at hL
  ·rename_i M hM;split at hL
   ·rename_i hc';simp only [Aa] at hc';obtain ⟨c1,c2,c3,c6,c4,c5⟩:=hc';obtain ⟨E1,Es,g1,g2,g3,g4,g5,g6⟩:=(lV (M:=⟨A,[],[],[]⟩) sg.ps h (Bd.em E A) (fun i li hi=>by simp at hi) ha hM).h;have n1:Es.ρ.length=sg.pv:=by rw [g4.len,aq.1 c1];exact Aw _
    have n2:Es.χ.length=sg.pl.length:=by rw [g4.Jd,aq.1 c2];exact Aw _
    have n3:Es.κ=[]:=by
     have:=g4.Jc;rw [aq.1 c3] at this;exact A2 this
    have hpre:Nt sg Es vs:=by
     have key:∀ {fs:List aa},ma (fun e=>dd sg.pv e.ts && cQ M.A.fs (sb 0 M.σ e)) fs=true->aH Es.ρ fs:=fun hfs e he=>by
      have h3:=jV hfs e he;simp only [Aa] at h3;have h4:e.is Es.ρ (e.val Es.ρ):=⟨by rw [n1];exact h3.1,rfl⟩;exact ⟨_,h4,bB g3.fs (eW g4 h4) h3.2⟩
     have key8:∀ {fs:List aa},ma (fun e=>dd sg.pv e.ts && Lc M.A.fs (sb 0 M.σ e)) fs=true->aH Es.ρ fs:=fun hfs e he=>by
      have h3:=jV hfs e he;simp only [Aa] at h3;have h4:e.is Es.ρ (e.val Es.ρ):=⟨by rw [n1];exact h3.1,rfl⟩;exact ⟨_,h4,Ld g3.fs (eW g4 h4) h3.2⟩
     refine ⟨n1,n2,g4.θ,n3,fun X li hli=>?_,g6,key8 c4,fun hne=>?_⟩
     ·obtain ⟨xs,q1,q2⟩:=g5 X li (by rw [aq.1 c2];exact gH hli) hli;exact ⟨xs,by simpa using q1,q2⟩
     ·unfold pcA at c6;split at c6
      ·rename_i hS;split at hS
       ·exact absurd ‹sg.pc=[]› hne
       obtain ⟨fs,d1,d2⟩:=yZ h ha;obtain ⟨cs,k1,k2⟩:=iy (AN.1 hS fs d1);refine ⟨cs,k1,fun e he=>?_⟩;have h3:=jV k2 e he;simp only [Aa] at h3;obtain ⟨f,f1,f2⟩:=iy h3.2;have h4:e.is Es.ρ (e.val Es.ρ):=⟨by rw [n1];exact h3.1,rfl⟩;obtain ⟨y,y1,y2⟩:=d2 f f1;rw [aa.dG f2] at y1;have:=(y1.le g1).uniq (eW g4 h4);exact ⟨_,h4,by omega⟩
      split at c6
      ·obtain ⟨cs,k1,k2⟩:=Mq ‹_› hne;exact ⟨cs,k1,key k2⟩
      ·obtain ⟨fs,d1,d2⟩:=yZ h ha;obtain ⟨cs,k1,k2⟩:=Mq (AN.1 c6 fs d1) hne;refine ⟨cs,k1,fun e he=>?_⟩;have h3:=jV k2 e he;simp only [Aa] at h3;have h4:e.is Es.ρ (e.val Es.ρ):=⟨by rw [n1];exact h3.1,rfl⟩
       have d3:aH E1.ρ fs:=fun f hf=>by
        obtain ⟨y,y1,y2⟩:=d2 f hf;exact ⟨y,y1.le g1,y2⟩
       exact ⟨_,h4,bB (d3.app g3.fs) (eW g4 h4) h3.2⟩
    obtain ⟨r,hr1,alt,hr2,Er,hr3⟩:=hT f sg rc hsg Es vs hpre (fun m hm hrc=>by
     subst hrc;simp only [B7,Bool.false_or,Aa] at c5;have h1:=bB g3.fs (((hc.le g1).sub (eW g4 hm)).aG (-1)) c5.2.1;have h2:=bB g3.fs ((hc.le g1).aG (-1)) c5.2.2
     omega)
    obtain ⟨p,hp1,hp2⟩:=uQ hL hr2;obtain ⟨E2,f1,f2,f3⟩:=(Kb g3 g4 n1 n2 hr3 hp2).h;exact ⟨r,hr1,p,hp1,E2,g1.trans f1,f2,f3⟩
   ·cases hL
  ·cases hL
 ·cases hL
end
end Go.Proofs.YtoopnalhhfmgaaaGreatDoor
namespace Go.Proofs.YtoopnalhhfmgaaaGreatDoor
open Go Go.V
def AS.put (A:AS) (d:Option Nat) (x:SV):AS:=match d with
 |some t=>{A with fr:=(t,x)::A.fr}
 |none=>A
def sX (d:Option Nat):List (SV×AS)->List AS
 |[]=>[]
 |(x,B)::r=>B.put d x::sX d r
def mN {d:Option Nat} {p:SV×AS}:∀ {l:List (SV×AS)},p∈l->p.2.put d p.1∈sX d l
 |[],h=>by cases h
 |(x,B)::r,h=>by
  rcases Ab.1 h with rfl|h
  ·simp [sX]
  ·exact Ao _ (mN h)
def oU {α:Type} (p:α->α->Bool):List α->List α->Bool
 |[],[]=>true
 |x::xs,y::ys=>(match p x y with
  |true=>oU p xs ys
  |false=>false)
 |_,_=>false
def mU {α:Type} {p:α->α->Bool} (hp:∀ {x y},p x y=true->x=y):∀ {xs ys:List α},oU p xs ys=true->xs=ys
 |[],[],_=>rfl
 |[],_::_,h=>by simp [oU] at h
 |_::_,[],h=>by simp [oU] at h
 |x::xs,y::ys,h=>by
  unfold oU at h;split at h
  ·rename_i h1;rw [hp h1,mU hp h]
  ·cases h
def XN (a b:LI):Bool:=Nat.beq a.k b.k && (Nat.beq a.e b.e && (a.n.beq b.n && a.z.beq b.z))
def XO {a b:LI} (h:XN a b=true):a=b:=by
 obtain ⟨a1,a2,a3,a4⟩:=a;obtain ⟨b1,b2,b3,b4⟩:=b;simp only [XN,Aa] at h;rw [aq.1 h.1,aq.1 h.2.1,aa.dG h.2.2.1,aa.dG h.2.2.2]
def KU:jA->jA->Bool
 | .e X i x s,.e Y j y t=>Nat.beq X Y && (i.beq j && (s.beq t && sq x y))
 | .p X m b,.p Y n c=>Nat.beq X Y && (Nat.beq m n && b.beq c)
 | .z X i w,.z Y j v=>Nat.beq X Y && (i.beq j && w.beq v)
 |_,_=>false
def Wa:∀ {a b:jA},KU a b=true->a=b
 | .e X i x s,b,h=>by
  cases b<;>simp only [KU,Ah,Aa] at h
  rw [aq.1 h.1,aa.dG h.2.1,aa.dG h.2.2.1,Dw h.2.2.2]
 | .p X m c,b,h=>by
  cases b<;>simp only [KU,Ah,Aa] at h
  rw [aq.1 h.1,aq.1 h.2.1,aa.dG h.2.2]
 | .z X i w,b,h=>by
  cases b<;>simp only [KU,Ah,Aa] at h
  rw [aq.1 h.1,aa.dG h.2.1,aa.dG h.2.2]
def Pw (a b:Nat×SV):Bool:=Nat.beq a.1 b.1 && sq a.2 b.2
def Vr {a b:Nat×SV} (h:Pw a b=true):a=b:=by
 obtain ⟨a1,a2⟩:=a;obtain ⟨b1,b2⟩:=b;simp only [Pw,Aa] at h;rw [aq.1 h.1,Dw h.2]
def AS.sm (A B:AS):Bool:=Nat.beq A.nv B.nv && (Nat.beq A.nt B.nt && (oU Pw A.fr B.fr && (oU XN A.ls B.ls && (oU tl A.ob B.ob && (oU KU A.el B.el && oU Nat.beq A.lv B.lv)))))
def AS.aeV {A B:AS} (h:A.sm B=true):A={B with fs:=A.fs}:=by
 obtain ⟨a1,a2,a3,a4,a5,a6,a7,a8⟩:=A;obtain ⟨b1,b2,b3,b4,b5,b6,b7,b8⟩:=B;simp only [AS.sm,Aa] at h;obtain ⟨h1,h2,h3,h4,h5,h6,h7⟩:=h;rw [aq.1 h1,aq.1 h2,mU Vr h3,mU XO h4,mU nX h5,mU Wa h6,mU (fun h=>aq.1 h) h7]
def yz (vs:List Nat):Ts->Bool
 |[]=>true
 |(v,_)::ts=>match gz v vs with
  |true=>yz vs ts
  |false=>false
def zE (vs:List Nat):List aa->Bool
 |[]=>true
 |f::fs=>match yz vs f.ts with
  |true=>zE vs fs
  |false=>false
def ko (vs:List Nat):Nat->List aa->List aa->Option (List aa)
 |0,_,_=>none
 |_+1,[],gs=>(match zE vs gs with
  |true=>some []
  |false=>none)
 |_+1,fs,[]=>(match zE vs fs with
  |true=>some []
  |false=>none)
 |n+1,f::fs,g::gs=>match f.beq g with
  |true=>(match ko vs n fs gs with
   |some r=>some (f::r)
   |none=>none)
  |false=>(match yz vs f.ts with
   |true=>ko vs n fs (g::gs)
   |false=>(match yz vs g.ts with
    |true=>ko vs n (f::fs) gs
    |false=>none))
def lN {vs:List Nat}:∀ {n:Nat} {fs gs r:List aa},ko vs n fs gs=some r->(∀ f∈r,f∈fs)/\(∀ f∈r,f∈gs)
 |0,_,_,_,h=>by simp [ko] at h
 |_+1,[],gs,r,h=>by
  simp only [ko] at h;split at h
  ·cases h;exact ⟨(fun f hf=>by cases hf),fun f hf=>by cases hf⟩
  ·cases h
 |_+1,f::fs,[],r,h=>by
  simp only [ko] at h;split at h
  ·cases h;exact ⟨(fun f hf=>by cases hf),fun f hf=>by cases hf⟩
  ·cases h
 |n+1,f::fs,g::gs,r,h=>by
  simp only [ko] at h;split at h
  ·rename_i hb;split at h
   ·rename_i r' hr;cases h;obtain ⟨h1,h2⟩:=lN hr;refine ⟨fun x hx=>?_,fun x hx=>?_⟩
    ·rcases Ab.1 hx with rfl|hx
     ·simp
     ·exact Ao _ (h1 x hx)
    ·rcases Ab.1 hx with rfl|hx
     ·rw [aa.dG hb];simp
     ·exact Ao _ (h2 x hx)
   ·cases h
  ·split at h
   ·obtain ⟨h1,h2⟩:=lN h;exact ⟨fun x hx=>Ao _ (h1 x hx),h2⟩
   ·split at h
    ·obtain ⟨h1,h2⟩:=lN h;exact ⟨h1,fun x hx=>Ao _ (h2 x hx)⟩
    ·cases h
def oI (vs:List Nat) (A:AS):List AS->List AS
 |[]=>[A]
 |B::r=>match ko vs 1000 A.fs B.fs with
  |some fs=>(match A.sm B with
   |true=>{B with fs:=fs}::r
   |false=>B::oI vs A r)
  |none=>B::oI vs A r
def xK (vs:List Nat):List AS->List AS
 |[]=>[]
 |A::r=>oI vs A (xK vs r)
def Gm.less {gl:List (Nat×List AV)} {E:En} {A:AS} {F:Fr} {S:St} (h:Gm gl E A F S) {fs:List aa} (hf:∀ f∈fs,f∈A.fs):Gm gl E {A with fs:=fs} F S:=⟨h.nv,h.nl,h.no,h.nt,h.ls,h.el,h.fr,h.ob,h.nd,h.lt,h.tk,fun f hm=>h.fs f (hf f hm),h.gl⟩
def sO {vs:List Nat} {gl:List (Nat×List AV)} {E:En} {A:AS} {F:Fr} {S:St} (h:Gm gl E A F S):∀ L:List AS,∃ B∈oI vs A L,Gm gl E B F S
 |[]=>⟨A,by simp [oI],h⟩
 |B::r=>by
  unfold oI;split
  ·rename_i fs hfs;split
   ·rename_i hs;refine ⟨_,A3,?_⟩;have e:=AS.aeV hs;have h2:=h.less (fs:=fs) (lN hfs).1;rw [e] at h2;exact h2
   ·obtain ⟨C,h1,h2⟩:=sO h r;exact ⟨C,Ao _ h1,h2⟩
  ·obtain ⟨C,h1,h2⟩:=sO h r;exact ⟨C,Ao _ h1,h2⟩
def sP {vs:List Nat} {gl:List (Nat×List AV)} {E:En} {A C:AS} {F:Fr} {S:St} (h:Gm gl E C F S):∀ {L:List AS},C∈L->∃ B∈oI vs A L,Gm gl E B F S
 |B::r,hm=>by
  unfold oI;split
  ·rename_i fs hfs;split
   ·rcases Ab.1 hm with rfl|hm
    ·exact ⟨_,A3,h.less (lN hfs).2⟩
    ·exact ⟨C,Ao _ hm,h⟩
   ·rcases Ab.1 hm with rfl|hm
    ·exact ⟨_,A3,h⟩
    ·obtain ⟨D,h1,h2⟩:=sP h hm;exact ⟨D,Ao _ h1,h2⟩
  ·rcases Ab.1 hm with rfl|hm
   ·exact ⟨_,A3,h⟩
   ·obtain ⟨D,h1,h2⟩:=sP h hm;exact ⟨D,Ao _ h1,h2⟩
def vS {vs:List Nat} {gl:List (Nat×List AV)} {E:En} {A:AS} {F:Fr} {S:St} (h:Gm gl E A F S):∀ {L:List AS},A∈L->∃ B∈xK vs L,Gm gl E B F S
 |B::r,hm=>by
  unfold xK;rcases Ab.1 hm with rfl|hm
  ·exact sO h _
  ·obtain ⟨C,h1,h2⟩:=vS h hm;exact sP h2 h1
def QB:Nat->List AS->Bool
 |_,[]=>false
 |0,_=>true
 |n+1,_::r=>QB n r
def Q3 (ls:List LI):SV->List Nat
 | .i _ e=>e.ts.map (·.1)
 | .s e=>e.ts.map (·.1)
 | .l _ X _=>(match nth ls X with
  |some li=>li.n.ts.map (·.1)
  |none=>[])
 |_=>[]
def QZ (ls:List LI):SV->List Nat
 | .a xs=>xs.flatMap (Q3 ls)
 |x=>Q3 ls x
def Q2 (A:AS):List aj->List Nat
 |[]=>[]
 |x::r=>(match cp A x with
  |some s=>QZ A.ls s
  |none=>[])++Q2 A r
def IK (cur:aa) (o:aV) (L:List AS):List AS:=
 match o.op,L with
 | .call _ as,A::_=>(match QB 40 L with
  |true=>xK (Q2 A as) L
  |false=>L)
 | .k (.qR _ _ _),A::_=>(match decide (3<=cur.c),A.el with
  |true,.e _ _ x _::_=>xK (QZ A.ls x) L
  |_,_=>L)
 |_,L=>L
def GQ {gl:List (Nat×List AV)} {E:En} {A:AS} {F:Fr} {S:St} (h:Gm gl E A F S) {cur:aa} {o:aV} {L:List AS} (hm:A∈L):∃ B∈IK cur o L,Gm gl E B F S:=by
 unfold IK;split
 ·split
  ·exact vS h hm
  ·exact ⟨A,hm,h⟩
 ·split
  ·exact vS h hm
  ·exact ⟨A,hm,h⟩
 ·exact ⟨A,hm,h⟩
abbrev kL:=List (Nat×(az×Bool))
def oh (Tb:kL) (cur:aa) (A:AS) (o:aV):Option (List AS):=
 match o.op with
 | .k m=>(match eu A m with
  |some L=>some (sX o.dst L)
  |none=>none)
 | .call c as=>(match cp A c,qy A as with
  |some (.fn (.func f) first caps),some xs=>(match yL Tb cur A f (first++(xs++caps)) with
   |some L=>some (sX o.dst L)
   |none=>none)
  |_,_=>none)
 |_=>none
def Dl:MX->Bool
 | .k m=>XG m
 |_=>false
def Ka (P:Program) (o:aV) (F:Fr) (S:St) (F':Fr) (S':St):Prop:=∀ (K:Option AV->Fr->St->Prop) (nx:Fr->St->Prop),nx F' S'->bj P o K nx F S
def Q5 (P:Program) (o:aV) (F:Fr) (S:St) (F':Fr) (S':St):Prop:=(∃ F0,(∀ t want,o.gd=some (t,want)->F.get t= .bool want)/\(∀ x:aj,x.ev F0=x.ev F)/\Ka P o F0 S F' S'/\∀ (stp nx:Fr->St->Prop),stp F0 S->bC o stp nx F S)∨(∀ (stp nx:Fr->St->Prop),nx F' S'->bC o stp nx F S)
def qw (st:Bool) (S S':St):Prop:=S.n<=S'.n/\(st=false->∀ l,l<S.n->S'.get l=S.get l)
def qw.trans {a b:Bool} {S S1 S2:St} (h:qw a S S1) (h2:qw b S1 S2):qw (a||b) S S2:=⟨AH h.1 h2.1,fun e l hl=>by
 simp only [Bool.or_eq_false_iff] at e
 rw [h2.2 e.2 l (Co hl h.1),h.2 e.1 l hl]⟩
section
variable {P:Program} {gl:List (Nat×List AV)} {Tb:kL} {cur:aa} {cv:Int} {E E':En} {A:AS} {F:Fr} {S:St}
def Gm.put (h:Gm gl E A F S) {d:Option Nat} {x:SV} {v:AV} (hx:x.rel E v):Gm gl E (A.put d x) (aS d v F) S:=by
 cases d with
 |none=>exact h
 |some t=>
  refine ⟨h.nv,h.nl,h.no,h.nt,h.ls,h.el,fun u y e=>?_,h.ob,h.nd,h.lt,h.tk,h.fs,h.gl⟩;simp only [AS.put,lk] at e;show ∃ w,List.lookup u ((t,v)::F)=some w/\_;rw [gV];split at e
  ·rename_i hu;cases e;rw [if_pos (aq.1 hu)];exact ⟨v,rfl,hx⟩
  ·rename_i hu;rw [if_neg fun e2=>by rw [e2,Bk] at hu;cases hu];exact h.fr u y e
def vp (P:Program) (gl:List (Nat×List AV)) (Tb:kL) (cv:Int):Prop:=∀ f sg rc,lk f Tb=some (sg,rc)->Spec P gl f sg fun m=>rc=true->m.toNat<cv.toNat
def DK (hgn:ae gl) (hT:vp P gl Tb cv) (hc:cur.is E.ρ cv) (h:Gm gl E A F S) {o:aV} {L:List AS} (hL:oh Tb cur A o=some L):
  ∃ B∈L,∃ E' F' S',E.le E'/\Gm gl E' B F' S'/\Ka P o F S F' S'/\qw (Dl o.op) S S':=by
 unfold oh at hL;obtain ⟨ix,d,gd,op⟩:=o;simp only at hL;split at hL
 ·rename_i m;split at hL
  ·rename_i L' hL';cases hL;obtain ⟨p,hp,E',v,S',h1,h2,h3,h4,h5,h6,h7⟩:=(Q9 h hL').h;refine ⟨_,mN hp,E',_,S',h3,h4.put h5,fun K nx hn=>?_,h6,h7⟩;simp only [bj];exact ⟨h1,by rw [h2];exact hn⟩
  ·cases hL
 ·rename_i c as;split at hL
  ·rename_i f first caps xs hcf has;split at hL
   ·rename_i L' hL';cases hL;have g1:=bb h hcf;have g2:=kP h has;simp only [SV.rel] at g1;obtain ⟨vf,vc,g3,g4,g5⟩:=g1;obtain ⟨r,hr,p,hp,E',h3,h4,h5⟩:=wH hc hT h (iY g3 (iY g2 g4)) hL';refine ⟨_,mN hp,E',_,S,h3,h4.put h5,fun K nx hn=>?_,Af _,fun _ _ _=>rfl⟩;simp only [bj,g5];rw [<-AL] at hr;refine (hr.at h.gl hgn).mono ?_;rintro o' S' ⟨rfl,rfl⟩;exact hn
   ·cases hL
  ·cases hL
 ·cases hL
def Dd (Tb:kL) (cur:aa) (o:aV) (t:Nat) (want:Bool):List (Bool×AS)->Option (List AS)
 |[]=>some []
 |(b,B)::r=>match (if b==want then oh Tb cur (B.put (some t) (.b (.k want))) o else some [(B.put (some t) (.b (.k (!want)))).put o.dst (.aF [])]),Dd Tb cur o t want r with
  |some L,some L'=>some (L++L')
  |_,_=>none
def mT (Tb:kL) (cur:aa) (A:AS) (o:aV):Option (List AS):=
 match o.gd with
 |none=>oh Tb cur A o
 |some (t,want)=>match lk t A.fr with
  |some (.b x)=>Dd Tb cur o t want (fork A x)
  |some (.aF [])=>some [A.put o.dst (.aF [])]
  |_=>none
def Ro {t:Nat} {v:AV} (h:F.get t=v) (x:aj):x.ev ((t,v)::F)=x.ev F:=by
 cases x with
 |t n=>
  simp only [aj.ev,Fr.kY];split
  ·rename_i e;rw [e,h]
  ·rfl
 |vb n rows=>
  simp only [aj.ev,Fr.kY];split
  ·rename_i e;rw [e,h]
  ·rfl
 |_=>rfl
def zK {o:aV} {t:Nat} {want:Bool} {b:Bool} {B:AS}:∀ {l:List (Bool×AS)} {L:List AS},Dd Tb cur o t want l=some L->(b,B)∈l->∃ L1,(if b==want then oh Tb cur (B.put (some t) (.b (.k want))) o else some [(B.put (some t) (.b (.k (!want)))).put o.dst (.aF [])])=some L1/\∀ C∈L1,C∈L
 |[],L,_,h=>by cases h
 |(b',B')::r,L,h,hm=>by
  unfold Dd at h;split at h
  ·rename_i L1 L2 h1 h2;cases h;rcases Ab.1 hm with e|hm
   ·cases e;exact ⟨L1,h1,fun C hC=>AW _ hC⟩
   ·obtain ⟨L3,h3,h4⟩:=zK h2 hm;exact ⟨L3,h3,fun C hC=>A9 _ (h4 C hC)⟩
  ·cases h
def wM (hgn:ae gl) (hT:vp P gl Tb cv) (hc:cur.is E.ρ cv) (h:Gm gl E A F S) {o:aV} {L:List AS} (hL:mT Tb cur A o=some L):
  ∃ B∈L,∃ E' F' S',E.le E'/\Gm gl E' B F' S'/\Q5 P o F S F' S'/\qw (Dl o.op) S S':=by
 unfold mT at hL;split at hL
 ·rename_i hgd;obtain ⟨B,h1,E',F',S',h2,h3,h4,h5⟩:=DK hgn hT hc h hL;refine ⟨B,h1,E',F',S',h2,h3,.inl ⟨F,fun t want e=>(by rw [hgd] at e;cases e),fun _=>rfl,h4,fun stp nx hs=>?_⟩,h5⟩;simp only [bC,hgd];exact hs
 ·rename_i t want hgd;split at hL
  ·rename_i x hx;obtain ⟨v,q1,q2⟩:=h.fr t _ hx;simp only [SV.rel] at q2;obtain ⟨b,q2,rfl⟩:=q2;obtain ⟨B,q3,q4⟩:=mV h q2;obtain ⟨L1,q5,q6⟩:=zK hL q3;have hget:F.get t= .bool b:=by simp only [Fr.get,q1,Option.getD_some]
   split at q5
   ·rename_i hb;have hb:b=want:=by simpa using hb
    subst hb;have q7:Gm gl E (B.put (some t) (.b (.k b))) ((t,.bool b)::F) S:=q4.put (d:=some t) (by simp only [SV.rel];exact ⟨b,rfl,rfl⟩);obtain ⟨C,h1,E',F',S',h2,h3,h4,h5⟩:=DK hgn hT hc q7 q5;refine ⟨C,q6 C h1,E',F',S',h2,h3,.inl ⟨_,fun t want e=>(by rw [hgd] at e;cases e;exact hget),fun x=>Ro hget x,h4,fun stp nx hs=>?_⟩,h5⟩;simp only [bC,hgd,hget];exact ⟨fun _=>hs,fun e=>by simp at e⟩
   ·rename_i hb;have hb:b= !want:=by cases b<;>cases want<;>simp_all
    cases q5
    have q7:Gm gl E ((B.put (some t) (.b (.k (!want)))).put o.dst (.aF [])) (aS o.dst (.aF []) ((t,.bool (!want))::F)) S:=
     (q4.put (d:=some t) (v:= .bool (!want)) (by simp only [SV.rel];exact ⟨_,rfl,rfl⟩)).put (by simp only [SV.rel];exact ⟨[],aU.2 rfl,rfl⟩)
    refine ⟨_,q6 _ (by simp),E,_,S,.refl E,q7,.inr fun stp nx hn=>?_,Af _,fun _ _ _=>rfl⟩;simp only [bC,hgd,hget];exact ⟨fun e=>by subst hb;simp at e,fun _=>hn⟩
  ·rename_i hx;cases hL;obtain ⟨v,q1,q2⟩:=h.fr t _ hx;simp only [SV.rel] at q2;obtain ⟨vs,q2,rfl⟩:=q2;rw [aU.1 q2] at q1;have hget:F.get t= .aF []:=by simp only [Fr.get,q1,Option.getD_some]
   refine ⟨A.put o.dst (.aF []),by simp,E,aS o.dst (.aF []) F,S,.refl E,h.put (by simp only [SV.rel];exact ⟨[],aU.2 rfl,rfl⟩),.inr fun stp nx hn=>?_,Af _,fun _ _ _=>rfl⟩;simp only [bC,hgd,hget];exact hn
  ·cases hL
def NH:Option (List AS)->Option (List AS)->Option (List AS)
 |some a,some b=>some (a++b)
 |_,_=>none
def Fk (f:AS->Option (List AS)):List AS->Option (List AS)
 |[]=>some []
 |B::r=>NH (f B) (Fk f r)
def Rb {a b:Option (List AS)} {L:List AS} (h:NH a b=some L):∃ x y,a=some x/\b=some y/\L=x++y:=by
 cases a<;>cases b<;>simp only [NH,reduceCtorEq,Ae] at h
 exact ⟨_,_,rfl,rfl,h.symm⟩
def qZ {f:AS->Option (List AS)} {B:AS}:∀ {l:List AS} {L:List AS},Fk f l=some L->B∈l->∃ L1,f B=some L1/\∀ C∈L1,C∈L
 |[],_,_,h=>by cases h
 |C::r,L,h,hm=>by
  obtain ⟨x,y,h1,h2,rfl⟩:=Rb h;rcases Ab.1 hm with rfl|hm
  ·exact ⟨x,h1,fun C hC=>AW _ hC⟩
  ·obtain ⟨L1,h3,h4⟩:=qZ h2 hm;exact ⟨L1,h3,fun C hC=>A9 _ (h4 C hC)⟩
def De (Tb:kL) (cur:aa):List aV->List AS->Option (List AS)
 |[],L=>some L
 |o::l,L=>match Fk (fun A=>mT Tb cur A o) L with
  |some L'=>De Tb cur l (IK cur o L')
  |none=>none
def DJ (hgn:ae gl) (hT:vp P gl Tb cv):∀ {l:List aV} {L0:List AS} {E:En} {A:AS} {F:Fr} {S:St},A∈L0->cur.is E.ρ cv->Gm gl E A F S->∀ {L:List AS},De Tb cur l L0=some L->
  ∃ B∈L,∃ E' F' S',E.le E'/\Gm gl E' B F' S'/\∀ K:Option AV->Fr->St->Prop,K none F' S'->cD P l K F S
 |[],L0,E,A,F,S,hA,_,h,L,hL=>by
  cases hL;exact ⟨A,hA,E,F,S,.refl E,h,fun K hk=>hk⟩
 |o::l,L0,E,A,F,S,hA,hc,h,L,hL=>by
  unfold De at hL;split at hL
  ·rename_i L' hL';obtain ⟨L1,h1,h2⟩:=qZ hL' hA;obtain ⟨B,b1,E1,F1,S1,b2,b3,b4,_⟩:=wM hgn hT hc h h1;obtain ⟨B',d1,d2⟩:=GQ (cur:=cur) (o:=o) b3 (h2 B b1);obtain ⟨C,c1,E2,F2,S2,c2,c3,c4⟩:=DJ hgn hT d1 (hc.le b2) d2 hL;refine ⟨C,c1,E2,F2,S2,b2.trans c2,c3,fun K hk=>?_⟩;simp only [cD];rcases b4 with ⟨F0,_,_,k1,k2⟩|k
   ·exact k2 _ _ (k1 _ _ (c4 K hk))
   ·exact k _ _ (c4 K hk)
  ·cases hL
def HC (A:AS):List Nat->Option (List Nat)
 |[]=>some []
 |t::ts=>match lk t A.fr,HC A ts with
  |some (.p j _),some r=>some (j::r)
  |some (.c _),_=>none
  |some _,some r=>some r
  |_,_=>none
def FG (h:Gm gl E A F S):∀ {pr js:List Nat},HC A pr=some js->∀ l,(l∈fA F pr↔∃ j∈js,E.θ[j]? =some l)/\(l∈fA F pr->l<S.n)
 |[],js,e,l=>by
  cases e;rw [x9];exact ⟨⟨fun h=>(AD h).elim,fun ⟨j,h,_⟩=>(AD h).elim⟩,fun h=>(AD h).elim⟩
 |t::ts,js,e,l=>by
  unfold HC at e;split at e
  ·rename_i j o r h1 h2;cases e;obtain ⟨v,q1,q2⟩:=h.fr t _ h1;simp only [SV.rel] at q2;obtain ⟨l',q2,rfl⟩:=q2;have hget:F.get t= .ptr l' o:=by simp only [Fr.get,q1,Option.getD_some]
   obtain ⟨ih1,ih2⟩:=FG h h2 l;rw [pk,hget];simp only [Ab];refine ⟨⟨fun h=>?_,fun ⟨i,hi,hi2⟩=>?_⟩,fun h3=>?_⟩
   ·rcases h with rfl|h
    ·exact ⟨j,.inl rfl,q2⟩
    ·obtain ⟨i,a,b⟩:=ih1.1 h;exact ⟨i,.inr a,b⟩
   ·rcases hi with rfl|hi
    ·rw [q2] at hi2;cases hi2;exact .inl rfl
    ·exact .inr (ih1.2 ⟨i,hi,hi2⟩)
   ·rcases h3 with rfl|h3
    ·exact h.lt l (Aj q2)
    ·exact ih2 h3
  ·cases e
  ·rename_i x r hn1 hn2 h1 h2;cases e;obtain ⟨v,q1,q2⟩:=h.fr t _ h1;have hget:F.get t=v:=by simp only [Fr.get,q1,Option.getD_some]
   have:fA F (t::ts)=fA F ts:=by
    rw [pk,hget]
    cases x with
    |c w=>exact (hn2 w rfl).elim
    |p j o=>exact (hn1 j o rfl).elim
    |_=>
     simp only [SV.rel] at q2
     first
      |(obtain ⟨_,_,rfl⟩:=q2;rfl)
      |(obtain ⟨_,_,_,rfl⟩:=q2;rfl)
      |(obtain ⟨_,_,_,_,rfl⟩:=q2;rfl)
   rw [this];exact FG h h2 l
  ·cases e
def FF (h:Gm gl E A F S):∀ {pr js:List Nat},HC A pr=some js->∀ j∈js,∃ l,E.θ[j]? =some l
 |[],js,e,j,hj=>by cases e;cases hj
 |t::ts,js,e,j,hj=>by
  unfold HC at e;split at e
  ·rename_i i o r h1 h2;cases e;obtain ⟨v,q1,q2⟩:=h.fr t _ h1;simp only [SV.rel] at q2;obtain ⟨l',q2,rfl⟩:=q2;rcases Ab.1 hj with rfl|hj
   ·exact ⟨l',q2⟩
   ·exact FF h h2 j hj
  ·cases e
  ·rename_i h2;cases e;exact FF h h2 j hj
  ·cases e
def JW (A:AS) (js:List Nat) (o:aV):Bool:=
 match o.op with
 | .k (.load _ _ p)=>(match cp A p with
  |some (.p j _)=>gz j js
  |some (.e _ _ _ _)=>true
  |_=>false)
 |_=>true
def Pu (h:Gm gl E A F S) {js Ls:List Nat} {o:aV} {F0:Fr} (hF:∀ x:aj,x.ev F0=x.ev F) {Eb:En} (hEb:Eb.le E) (hLs:∀ l,(∃ j∈js,Eb.θ[j]? =some l)->l∈Ls) (hjs:∀ j∈js,∃ l,Eb.θ[j]? =some l) (hs:JW A js o=true):iB Ls o F0:=by
 unfold JW at hs;unfold iB;split at hs
 ·rename_i n ag p hop;simp only [hop];split at hs
  ·rename_i j o' hp;have g:=bb h hp;simp only [SV.rel] at g;obtain ⟨l,g1,g2⟩:=g;rw [hF,g2];refine hLs l ⟨j,jL hs,?_⟩;obtain ⟨l',hl'⟩:=hjs j (jL hs);have:=hEb.θg hl';rw [g1] at this;cases this;exact hl'
  ·rename_i hp;have g:=bb h hp;simp only [SV.rel] at g;obtain ⟨xs,l,g1,g3,g2⟩:=g;rw [hF,g2];trivial
  ·cases hs
 ·rename_i hne;split
  ·rename_i n ag p hop;exact (hne n ag p hop).elim
  ·trivial
def JY (A:AS) (o:aV):Bool:=
 match o.gd with
 |some (t,want)=>(match lk t A.fr with
  |some (.b (.k b))=> !(b==want)
  |some (.aF [])=>true
  |_=>false)
 |none=>false
def Pv (h:Gm gl E A F S) {o:aV} (hs:JY A o=true) (hw:∀ t want,o.gd=some (t,want)->F.get t= .bool want):False:=by
 unfold JY at hs;split at hs
 ·rename_i t want hgd;have h1:=hw t want hgd;split at hs
  ·rename_i b hb;obtain ⟨v,q1,q2⟩:=h.fr t _ hb;simp only [SV.rel,BE.is] at q2;obtain ⟨u,rfl,rfl⟩:=q2;simp only [Fr.get,q1,Option.getD_some,AV.bool.injEq] at h1;rw [h1] at hs;simp at hs
  ·rename_i hb;obtain ⟨v,q1,q2⟩:=h.fr t _ hb;simp only [SV.rel] at q2;obtain ⟨u,_,rfl⟩:=q2;simp only [Fr.get,q1,Option.getD_some] at h1;cases h1
  ·cases hs
 ·cases hs
def uS:aj->aj->Bool
 | .t a,.t b=>Nat.beq a b
 | .c v,.c w=>v.gq w
 | .f a,.f b=>Nat.beq a b
 |_,_=>false
def lS {a b:aj} (h:uS a b=true):a=b:=by
 cases a<;>cases b<;>simp only [uS,Ah] at h
 ·rw [aq.1 h]
 ·rw [AV.nD h]
 ·rw [aq.1 h]
def Ev:List aj->List aj->Bool
 |[],[]=>true
 |a::as,b::bs=>uS a b && Ev as bs
 |_,_=>false
def GY:∀ {as bs:List aj},Ev as bs=true->as=bs
 |[],[],_=>rfl
 |a::as,b::bs,h=>by
  simp only [Ev,Aa] at h;rw [lS h.1,GY h.2]
 |[],_::_,h=>by cases h
 |_::_,[],h=>by cases h
def PS:MX->MX->Bool
 | .k (.oL a),.k (.oL b)=>uS a b
 | .k (.ext a i),.k (.ext b j)=>uS a b && Nat.beq i j
 | .k (.store n a b),.k (.store m c d)=>Nat.beq n m && (uS a c && uS b d)
 | .k (.qK n a),.k (.qK m c)=>Nat.beq n m && uS a c
 | .k (.load n ag a),.k (.load m ag' c)=>Nat.beq n m && (ag==ag' && uS a c)
 | .k (.alloc z),.k (.alloc w)=>AV.iD z w
 | .call a as,.call b bs=>uS a b && Ev as bs
 |_,_=>false
def K1 {a b:MX} (h:PS a b=true):a=b:=by
 unfold PS at h;split at h
 ·rw [lS h]
 ·rw [Aa] at h;rw [lS h.1,aq.1 h.2]
 ·simp only [Aa] at h;rw [aq.1 h.1,lS h.2.1,lS h.2.2]
 ·rw [Aa] at h;rw [aq.1 h.1,lS h.2]
 ·simp only [Aa,beq_iff_eq] at h;rw [aq.1 h.1,h.2.1,lS h.2.2]
 ·rw [AV.fD h]
 ·rw [Aa] at h;rw [lS h.1,GY h.2]
 ·cases h
def KV:Option Nat->Option Nat->Bool
 |none,none=>true
 |some a,some b=>Nat.beq a b
 |_,_=>false
def Eu {a b:Option Nat} (h:KV a b=true):a=b:=by
 cases a<;>cases b<;>simp only [KV,Ah] at h
 ·rfl
 ·rw [aq.1 h]
def PO (a b:aV):Bool:=Nat.beq a.ix b.ix && (KV a.dst b.dst && (a.gd.isNone && (b.gd.isNone && PS a.op b.op)))
def KY {a b:aV} (h:PO a b=true):a=b/\a.gd=none:=by
 simp only [PO,Aa,BF] at h;obtain ⟨h1,h2,h3,h4,h5⟩:=h;obtain ⟨i,d,g,o⟩:=a;obtain ⟨i',d',g',o'⟩:=b;simp only at h1 h2 h3 h4 h5;rw [aq.1 h1,Eu h2,h3,h4,K1 h5];exact ⟨rfl,rfl⟩
def PQ:bD->bD->Bool
 | .done,.done=>true
 | .one o lo nd r,.one o' lo' nd' r'=>PO o o' && (lo==lo' && (nd==nd' && PQ r r'))
 |_,_=>false
def KZ:∀ {a b:bD},PQ a b=true->a=b
 | .done,.done,_=>rfl
 | .one o lo nd r,.one o' lo' nd' r',h=>by
  simp only [PQ,Aa,beq_iff_eq] at h;rw [(KY h.1).1,h.2.1,h.2.2.1,KZ h.2.2.2]
 | .done,.one ..,h=>by cases h
 | .done,.two ..,h=>by cases h
 | .one ..,.done,h=>by cases h
 | .one ..,.two ..,h=>by cases h
 | .two ..,.done,h=>by cases h
 | .two ..,.one ..,h=>by cases h
 | .two ..,.two ..,h=>by cases h
 | .iI ..,.done,h=>by cases h
 | .iI ..,.one ..,h=>by cases h
 | .iI ..,.two ..,h=>by cases h
 | .iI ..,.iI ..,h=>by cases h
 | .done,.iI ..,h=>by cases h
 | .one ..,.iI ..,h=>by cases h
 | .two ..,.iI ..,h=>by cases h
def Xk (d:Nat) (o:aV):Bool:=(match o.op with
 | .k (.oL (.t a))=> !(Nat.beq a d)
 | .k (.oL (.c _))=>true
 | .k (.ext (.t a) _)=> !(Nat.beq a d)
 |_=>false) && (match o.dst with
 |some e=> !(Nat.beq e d)
 |none=>true)
def par (d:Nat) (z:List AV):bD->bD->Bool
 | .one o lo nd r,t=>(match o.op with
  | .k (.alloc w)=>AV.iD w z && (KV o.dst (some d) && (o.gd.isNone && PQ r t))
  |_=>(match t with
   | .one o' _ _ t'=>Xk d o && (PO o o' && par d z r t')
   |_=>false))
 |_,_=>false
def kH {a b:Nat} (h:(!(Nat.beq a b))=true):a≠b:=fun e=>by
 subst e;rw [Bk] at h;cases h
def xU {K:Option AV->Fr->St->Prop} (hK:∀ o,eQ (K o)) {S0:St} {Ls:List Nat} {d:Nat} {z:List AV} (hI:aX S0 Ls S) (hI2:aX S0 Ls {S with n:=S.n+1,obj:=(S.n,z)::S.obj}):∀ {r t:bD} {F1 F2:Fr},par d z r t=true->im (aS (some d) (.ptr S.n 0) F1) F2->bf P K S0 Ls t F2 {S with n:=S.n+1,obj:=(S.n,z)::S.obj}->bf P K S0 Ls r F1 S
 | .one o lo nd r,t,F1,F2,hp,hF,h=>by
  unfold par at hp;split at hp
  ·rename_i w hop;simp only [Aa,BF] at hp;obtain ⟨p1,p2,p3,p4⟩:=hp;have e1:=AV.fD p1;have e2:=Eu p2;have e3:=KZ p4;subst e1 e3;simp only [bf,bC,p3];refine ⟨fun _=>⟨by unfold iB;rw [hop];trivial,hI⟩,?_⟩;simp only [bj,hop];refine ⟨trivial,fun _=>hI2,?_⟩;rw [e2];exact ke hK _ _ _ _ hF.symm h
  ·split at hp
   ·rename_i o' lo' nd' t';simp only [Aa] at hp;obtain ⟨p1,p2,p3⟩:=hp;obtain ⟨e1,e2⟩:=KY p2;subst e1;simp only [bf,bC,e2] at h ⊢
    have hg:∀ u,u≠d->F1.get u=F2.get u:=fun u hu=>by
     rw [<-hF.get u];simp only [aS,Fr.kY];rw [if_neg hu]
    simp only [Xk,Aa] at p1
    have hdst:∀ v,im (aS (some d) (.ptr S.n 0) (aS o.dst v F1)) (aS o.dst v F2):=fun v=>by
     intro u
     have h1:=im.swap F1 (d:=some d) (e:=o.dst) (.ptr S.n 0) v (fun x hx hx2=>by
      injection hx with hx
      subst hx;have:=p1.2;rw [hx2] at this
      exact kH this rfl) u
     rw [h1];exact hF.put o.dst v u
    obtain ⟨_,hst⟩:=h;refine ⟨fun _=>⟨?_,hI⟩,?_⟩
    ·unfold iB;have:=p1.1
     split at this<;>first
      |(rename_i hop;rw [hop];trivial)
      |cases this
    ·have hop:=p1.1;split at hop
     ·rename_i a hop2;simp only [bj,hop2,MK.ev,MK.ob,aj.ev] at hst ⊢;rw [hg a (kH hop)];exact ⟨trivial,fun _=>hI,xU hK hI hI2 p3 (hdst _) hst.2.2⟩
     ·rename_i v hop2;simp only [bj,hop2,MK.ev,MK.ob,aj.ev] at hst ⊢;exact ⟨trivial,fun _=>hI,xU hK hI hI2 p3 (hdst _) hst.2.2⟩
     ·rename_i a i hop2;simp only [bj,hop2,MK.ev,MK.ob,aj.ev] at hst ⊢;rw [hg a (kH hop)]
      cases he:kr i (F2.get a) with
      |none=>rw [he] at hst;exact hst.2.elim
      |some v=>
       rw [he] at hst;simp only [Option.map_some] at hst ⊢;exact ⟨trivial,fun _=>hI,xU hK hI hI2 p3 (hdst _) hst.2.2⟩
     ·cases hop
   ·cases hp
 | .done,_,_,_,hp,_,_=>by cases hp
 | .two ..,_,_,_,hp,_,_=>by cases hp
 | .iI ..,_,_,_,hp,_,_=>by cases hp
def tL (Tb:kL) (cur:aa) (js:List Nat):bD->Bool->List AS->Option (List AS)
 | .done,_,L=>some L
 | .one o lo nd r,st,L=>if (!lo||(!st && L.all fun A=>JY A o||JW A js o)) && (!nd|| !(st||Dl o.op)) then (match Fk (fun A=>mT Tb cur A o) L with
  |some L'=>tL Tb cur js r (st||Dl o.op) (IK cur o L')
  |none=>none) else none
 | .two ⟨_,some d1,none,.call c as⟩ _ r1 ⟨_,some d,none,.k (.alloc z)⟩ _ (.one o lo nd t),st,L=>
  if !st && (xZ (r7 z) && (!(Nat.beq d1 d) && (PS o.op (.call c as) && (KV o.dst (some d1) && (o.gd.isNone && (!lo && ((Ev (c::as) (c::as) && (c::as).all (fun x=>match x with
   | .t a=> !(Nat.beq a d)
   | .c _=>true
   | .f _=>true
   |_=>false)) && par d z r1 t))))))) then (match Fk (fun A=>mT Tb cur A o) (L.map fun A=>(A.obj (r7 z)).2.put (some d) (A.obj (r7 z)).1) with
   |some L'=>tL Tb cur js t false L'
   |none=>none) else none
 | .two ..,_,_=>none
 | .iI ..,_,_=>none
def Io (hT:vp P gl Tb cv) (hc:cur.is E.ρ cv) (h:Gm gl E A F S) {o:aV} {c:aj} {as:List aj} (ho:o.op= .call c as) {L:List AS} (hL:oh Tb cur A o=some L):
  ∃ B∈L,∃ E' f first caps r,E.le E'/\Gm gl E' B (aS o.dst r F) S/\c.ev F= .fn (.func f) first caps/\Pure P gl f (first++as.map (aj.ev F)++caps) (.ok r):=by
 unfold oh at hL;rw [ho] at hL;simp only at hL;split at hL
 ·rename_i f first caps xs hcf has;split at hL
  ·rename_i L' hL';cases hL;have g1:=bb h hcf;have g2:=kP h has;simp only [SV.rel] at g1;obtain ⟨vf,vc,g3,g4,g5⟩:=g1;obtain ⟨r,hr,p,hp,E',h3,h4,h5⟩:=wH hc hT h (iY g3 (iY g2 g4)) hL';refine ⟨_,mN hp,E',f,vf,vc,r,h3,h4.put h5,g5,?_⟩;rw [AL];exact hr
  ·cases hL
 ·cases hL
def Nw (hgn:ae gl) (hT:vp P gl Tb cv) {S0:St} {Ls js:List Nat} {Eb:En} (hLs:∀ l,(l∈Ls↔∃ j∈js,Eb.θ[j]? =some l)/\(l∈Ls->l<S0.n)) (hjs:∀ j∈js,∃ l,Eb.θ[j]? =some l) (h0:S0.gl=gl):∀ (N:Nat) {pl:bD} {st:Bool} {L0:List AS} {E:En} {A:AS} {F:Fr} {S:St},pl.depth<N->A∈L0->cur.is E.ρ cv->Gm gl E A F S->Eb.le E->qw st S0 S->∀ {L:List AS},tL Tb cur js pl st L0=some L->
  ∃ B∈L,∃ E' F' S',E.le E'/\Gm gl E' B F' S'/\∀ K:Option AV->Fr->St->Prop,(∀ o,eQ (K o))->K none F' S'->bf P K S0 Ls pl F S:=by
 have inv:∀ {b:Bool} {T:St},b=false->T.gl=gl->qw b S0 T->aX S0 Ls T:=fun hb hg hst=>⟨hg.trans h0.symm,fun l hl=>hst.2 hb l ((hLs l).2 hl)⟩;intro N
 induction N with
 |zero=>exact fun hN=>absurd hN (Cp _)
 |succ N ihN=>
 intro pl
 cases pl with
 |done=>
  intro st L0 E A F S _ hA _ h _ _ L hL;cases hL;exact ⟨A,hA,E,F,S,.refl E,h,fun K _ hk=>hk⟩
 |one o lo nd r=>
  intro st L0 E A F S hN hA hc h hEb hS L hL;have ih:= @ihN r;unfold tL at hL;split at hL
  ·rename_i hcnd;simp only [Aa,AI,A7] at hcnd;obtain ⟨hlo,hnd⟩:=hcnd;split at hL
   ·rename_i L' hL';obtain ⟨L1,h1,h2⟩:=qZ hL' hA;obtain ⟨B,b1,E1,F1,S1,b2,b3,b4,b5⟩:=wM hgn hT hc h h1;have hS1:=hS.trans b5;obtain ⟨B',d1,d2⟩:=GQ (cur:=cur) (o:=o) b3 (h2 B b1);obtain ⟨C,c1,E2,F2,S2,c2,c3,c4⟩:=ih (by simp only [bD.depth] at hN;omega) d1 (hc.le b2) d2 (hEb.trans b2) hS1 hL
    have hndI:nd=true->aX S0 Ls S1:=fun e=>by
     rcases hnd with hnd|hnd
     ·rw [e] at hnd;cases hnd
     ·exact inv hnd b3.gl hS1
    refine ⟨C,c1,E2,F2,S2,b2.trans c2,c3,fun K hR hk=>?_⟩;have hnx:=c4 K hR hk;simp only [bf];rcases b4 with ⟨F0,kw,k0,k1,k2⟩|k
    ·refine k2 _ _ ⟨fun e=>?_,k1 _ _ ⟨hndI,hnx⟩⟩;rcases hlo with hlo|⟨hst,hsh⟩
     ·rw [e] at hlo;cases hlo
     ·have h9:=AN.1 hsh A hA;simp only [AI] at h9;rcases h9 with h9|h9
      ·exact (Pv h h9 kw).elim
      ·exact ⟨Pu h k0 hEb (fun l hl=>(hLs l).1.2 hl) hjs h9,inv hst h.gl hS⟩
    ·exact k _ _ ⟨hndI,hnx⟩
   ·cases hL
  ·cases hL
 |iI=>
  intro st L0 E A F S hN hA hc h hEb hS L hL;cases hL
 |two o1 n1 r1 o2 n2 r2=>
  intro st L0 E A F S hN hA hc h hEb hS L hL;unfold tL at hL;split at hL
  ·cases ‹bD.two _ _ _ _ _ _=bD.done›
  ·cases ‹bD.two _ _ _ _ _ _=bD.one _ _ _ _›
  ·rename_i ix1 d1 c as n1' r1' ix2 d z n2' o lo nd t e;injection e with e1 e2 e3 e4 e5 e6
   subst e1 e2 e3 e4 e5 e6;split at hL
   ·rename_i hcnd;simp only [Aa,A7,BF] at hcnd;obtain ⟨q1,q2,q3,q4,q5,q6,q7,⟨_,q8⟩,q9⟩:=hcnd;have hop:=K1 q4;have hdst:=Eu q5;have hne:d1≠d:=kH (by rw [q3];rfl);split at hL
    ·rename_i L' hL';have gA:=(h.obj (qf E z) q2).put (d:=some d) (h.OM (r7 z));have hEa:=E.xx S.n;obtain ⟨L1,h1,h2⟩:=qZ hL' (Ai.2 ⟨A,hA,rfl⟩);have h1:oh Tb cur ((A.obj (r7 z)).2.put (some d) (A.obj (r7 z)).1) o=some L1:=by simpa only [mT,q6] using h1
     obtain ⟨B,b1,E1,f,first,caps,r,b2,b3,b4,b5⟩:=Io hT (hc.le hEa) gA hop h1
     have hSa:qw false S0 {S with n:=S.n+1,obj:=(S.n,z)::S.obj}:=by
      refine ⟨AH hS.1 (Nat.le_succ _),fun _ l hl=>?_⟩;rw [sB (Co hl hS.1)];exact hS.2 q1 l hl
     obtain ⟨C,c1,E2,F2,S2,c2,c3,c4⟩:= @ihN t false L' E1 B _ _ (by
      simp only [bD.depth] at hN;have:t.depth+1<=Nat.max r1.depth (t.depth+1):=Nat.le_max_right _ _
      omega) (h2 B b1) ((hc.le hEa).le b2) b3 ((hEb.trans hEa).trans b2) hSa L hL
     refine ⟨C,c1,E2,F2,S2,(hEa.trans b2).trans c2,c3,fun K hR hk=>?_⟩;have ht:=c4 K hR hk;rw [hdst] at ht;have hIa:aX S0 Ls {S with n:=S.n+1,obj:=(S.n,z)::S.obj}:=inv rfl gA.gl hSa;have hI:aX S0 Ls S:=inv q1 h.gl hS
     have hev:∀ x∈c::as,x.ev (aS (some d) (.ptr S.n 0) F)=x.ev F:=by
      intro x hx;have h3:=AN.1 q8 x hx
      cases x with
      |t a=>
       simp only [aj.ev,aS,Fr.kY];rw [if_neg (kH h3)]
      |c v=>rfl
      |f n=>rfl
      |g n=>cases h3
      |vb a b=>cases h3
     have hc1:c.ev F= .fn (.func f) first caps:=by rw [<-hev c (by simp)];exact b4
     have has:as.map (aj.ev (aS (some d) (.ptr S.n 0) F))=as.map (aj.ev F):=Bi fun x hx=>hev x (by simp [hx]);rw [has] at b5;simp only [bf];refine ⟨?_,?_⟩
     ·
      simp only [bC,bj,hc1];refine (b5.at h.gl hgn).mono ?_;rintro o' S' ⟨rfl,rfl⟩;refine ⟨fun _=>hI,?_⟩;refine xU hR hI hIa q9 (F2:=aS (some d1) r (aS (some d) (.ptr S'.n 0) F)) ?_ ht;exact im.swap F (d:=some d) (e:=some d1) _ _ (fun x hx e=>by injection hx with hx;injection e with e;exact hne (e.trans hx.symm))
     ·
      simp only [bC,bj,MK.ob,MK.ev];refine ⟨trivial,fun _=>hIa,?_⟩;simp only [bf,bC,q6];refine ⟨fun e=>(by rw [q7] at e;cases e),?_⟩;simp only [bj,hop,b4,has,hdst];refine (b5.at gA.gl hgn).mono ?_;rintro o' S' ⟨rfl,rfl⟩;exact ⟨fun _=>hIa,ht⟩
    ·cases hL
   ·cases hL
  ·cases hL
  ·cases hL
end
end Go.Proofs.YtoopnalhhfmgaaaGreatDoor
namespace Go.Proofs.YtoopnalhhfmgaaaGreatDoor
open Go Go.V
section
variable {P:Program} {gl:List (Nat×List AV)} {Tb:kL} {cur:aa} {cv:Int} {E E':En} {A:AS} {F:Fr} {S:St}
def xu (fr:List (Nat×SV)):List Nat->List (Nat×SV)
 |[]=>[]
 |t::ts=>match lk t fr with
  |some x=>(t,x)::xu fr ts
  |none=>xu fr ts
def vO {fr:List (Nat×SV)} {t:Nat} {x:SV}:∀ {kp:List Nat},lk t (xu fr kp)=some x->t∈kp/\lk t fr=some x
 |[],h=>by cases h
 |u::us,h=>by
  unfold xu at h;split at h
  ·rename_i y hy;simp only [lk] at h;split at h
   ·rename_i hu;cases h;rw [aq.1 hu];exact ⟨by simp,hy⟩
   ·obtain ⟨h1,h2⟩:=vO h;exact ⟨by simp [h1],h2⟩
  ·obtain ⟨h1,h2⟩:=vO h;exact ⟨by simp [h1],h2⟩
def EP {t:Nat} {v:AV} (h:F.lookup t=some v):∀ {kp:List Nat},t∈kp->(cu kp F).lookup t=some v
 |[],hm=>by cases hm
 |u::us,hm=>by
  simp only [cu]
  by_cases htu:t=u
  ·subst htu;rw [h];simp only [List.lookup_cons,beq_self_eq_true]
  ·have hm:t∈us:=by
    rcases Ab.1 hm with e|e
    ·exact absurd e htu
    ·exact e
   have ih:=EP h hm;have hb:(t==u)=false:=by simpa using htu
   split
   ·simp only [List.lookup_cons,hb];exact ih
   ·exact ih
def AS.cB (A:AS) (kp:List Nat):AS:={A with fr:=xu A.fr kp}
def Gm.cB (h:Gm gl E A F S) (kp:List Nat):Gm gl E (A.cB kp) (cu kp F) S:=
 ⟨h.nv,h.nl,h.no,h.nt,h.ls,h.el,fun t x e=>by
  obtain ⟨h1,h2⟩:=vO e;obtain ⟨v,h3,h4⟩:=h.fr t x h2
  exact ⟨v,EP h3 h1,h4⟩,h.ob,h.nd,h.lt,h.tk,h.fs,h.gl⟩
structure Tq where
 dn:Nat
 pl:List LI
 dt:Nat
 ob:List (List SV)
 fr:List (Nat×SV)
 nf:List aa
 pe:List (Nat×Nat×aa)
 ze:List (Nat×aa)
def Tq.n (q:Tq):Nat:=q.dn+q.ze.length
def H4:Nat->Nat->List Nat
 |_,0=>[]
 |a,n+1=>a::H4 (a+1) n
def uI {j:Nat}:∀ {n a:Nat},j∈H4 a n->a<=j/\j<a+n
 |0,a,h=>by cases h
 |n+1,a,h=>by
  rcases Ab.1 h with rfl|h
  ·omega
  ·have:=uI h;omega
def peL:List (Nat×Nat×aa)->List jA
 |[]=>[]
 |(X,e,b)::r=> .p X e b::peL r
def zeL (a:Nat):List (Nat×aa)->List jA
 |[]=>[]
 |(X,i)::r=> .z X i (.var a)::zeL (a+1) r
def Np (ls:List LI) (a:Nat):List (Nat×aa)->List aa
 |[]=>[]
 |(X,_)::r=> .var a::(match nth ls X with
  |some li=>[li.z.sub (.var a)]
  |none=>[])++Np ls (a+1) r
def AS.tm (A:AS) (q:Tq):AS:=⟨A.nv+q.n,A.ls++q.pl,q.ob,A.nt+q.dt,H4 A.nt q.dt,zeL (A.nv+q.dn) q.ze++(peL q.pe++A.el),q.fr,Np A.ls (A.nv+q.dn) q.ze++(q.nf++A.fs)⟩
def AS.cm (A:AS):Cm:=⟨A.nv,A.ls.length,A.ob.length,A.nt⟩
def QD (c:Cm) (pl:List LI) (fr:List (Nat×SV)):Mt->List (Nat×SV)->Option Mt
 |M,[]=>some M
 |M,(t,p)::r=>match lk t fr with
  |some x=>(match mt c pl M p x with
   |some M2=>QD c pl fr M2 r
   |none=>none)
  |none=>none
def QE (c:Cm) (pl:List LI):Mt->List (List SV)->List (List SV)->Option Mt
 |M,[],_=>some M
 |M,p::ps,x::xs=>(match sS c pl M p x with
  |some M2=>QE c pl M2 ps xs
  |none=>none)
 |_,_::_,[]=>none
def qE (X e:Nat):List jA->List aa
 |[]=>[]
 | .p Y e' b::r=>if Nat.beq X Y && Nat.beq e e' then b::qE X e r else qE X e r
 | .e ..::r=>qE X e r
 | .z ..::r=>qE X e r
def QN (A0:AS) (dn:Nat) (M:Mt):List (Nat×Nat×aa)->Bool
 |[]=>true
 |(X,e,b)::r=>(dd (A0.nv+dn) b.ts && (Nat.blt X A0.ls.length && (let n:=sb A0.nv M.σ b
  cQ M.A.fs (n.bG (-1))||mq M.A.fs X e n M.A.el||kQ (fun m=>cQ M.A.fs ((m.sub n).aG 1) && (match seen X m M.A.el with
   |some (x,_)=>isAll M.A (kT x).length (Γ e) [x]
   |none=>false)) (.aY 0::qE X e M.A.el)))) && QN A0 dn M r
def wW:List Nat->Bool
 |[]=>true
 |u::us=>(Nat.beq u 1|| !(gz u us)) && wW us
def QF (A0:AS) (dn:Nat):Mt->List (Nat×aa)->Option Mt
 |M,[]=>some M
 |M,(X,i)::r=>if Nat.blt X A0.ls.length && dd (A0.nv+dn) i.ts then (match J8 M.A X (sb A0.nv M.σ i) with
  |some w=>QF A0 dn {M with σ:=M.σ++[w]} r
  |none=>none) else none
def lR (A0:AS) (q:Tq) (A:AS):Option Mt:=
 match QD A0.cm q.pl A.fr ⟨A,[],[],[]⟩ q.fr with
 |some M1=>(match QE A0.cm q.pl M1 q.ob A.ob with
  |some M=>if Nat.beq M.σ.length q.dn && (Nat.beq M.τ.length q.pl.length && (Nat.beq M.υ.length q.dt && (Nat.beq q.ob.length A0.ob.length && (wW M.υ && (q.ob.all xZ && QN A0 q.dn M q.pe))))) then (match QF A0 q.dn M q.ze with
   |some M'=>if ma (fun e=>dd (A0.nv+q.n) e.ts && cQ M'.A.fs (sb A0.nv M'.σ e)) q.nf then some M' else none
   |none=>none) else none
  |none=>none)
 |none=>none
structure Bs (E:En) (A:AS):Prop where
 nv:E.ρ.length=A.nv
 nl:E.χ.length=A.ls.length
 no:E.θ.length=A.ob.length
 nt:E.κ.length=A.nt
 ls:∀ (X:Nat) li,A.ls[X]? =some li->∃ xs,E.χ[X]? =some xs/\gx E li xs
 el:∀ q∈A.el,l5 E q
 nd:E.θ.Nodup
 fs:aH E.ρ A.fs
def Gm.bs (h:Gm gl E A F S):Bs E A:=⟨h.nv,h.nl,h.no,h.nt,h.ls,h.el,h.nd,h.fs⟩
variable {c:Cm} {E0 Ep:En} {M:Mt} {pl:List LI}
def LZ {fr:List (Nat×SV)} (hfr:∀ t x,lk t fr=some x->∃ v,F.lookup t=some v/\x.rel E v):∀ {ps:List (Nat×SV)} {E1 Ep:En} {M M':Mt},E.le E1->Gm gl E1 M.A F S->Bd c E0 E1 M Ep->Bl pl c M Ep->QD c pl fr M ps=some M'->
  MR gl c pl E0 E1 M' Ep F S fun Ep'=>∀ t p,lk t ps=some p->∃ v,F.lookup t=some v/\p.rel Ep' v
 |[],E1,Ep,M,M',hE,h,hb,hl,hm=>by
  cases hm;exact ⟨E1,Ep,.refl E1,.refl Ep,h,hb,hl,fun t p e=>by cases e⟩
 |(t,p)::r,E1,Ep,M,M',hE,h,hb,hl,hm=>by
  unfold QD at hm;split at hm
  ·rename_i x hx;split at hm
   ·rename_i M2 hM2;obtain ⟨v,v1,v2⟩:=hfr t x hx;obtain ⟨E2,Ep2,g1,g2,g3,g4,g5,g6⟩:=(Jz p h hb hl (v2.le hE) hM2).h;obtain ⟨E3,Ep3,f1,f2,f3,f4,f5,f6⟩:=(LZ hfr (hE.trans g1) g3 g4 g5 hm).h;refine ⟨E3,Ep3,g1.trans f1,g2.trans f2,f3,f4,f5,fun u y e=>?_⟩;simp only [lk] at e;split at e
    ·rename_i hu;cases e;rw [aq.1 hu];exact ⟨v,v1,g6.le f2⟩
    ·exact f6 u y e
   ·cases hm
  ·cases hm
def L4:∀ {ps xss:List (List SV)} {vss:List (List AV)} {E1 Ep:En} {M M':Mt},E.le E1->(∀ (j:Nat) cs,xss[j]? =some cs->∃ vs,vss[j]? =some vs/\aZ E cs vs)->Gm gl E1 M.A F S->Bd c E0 E1 M Ep->Bl pl c M Ep->QE c pl M ps xss=some M'->
  MR gl c pl E0 E1 M' Ep F S fun Ep'=>∀ (j:Nat) cs,ps[j]? =some cs->∃ vs,vss[j]? =some vs/\aZ Ep' cs vs
 |[],xss,vss,E1,Ep,M,M',hE,_,h,hb,hl,hm=>by
  cases hm;exact ⟨E1,Ep,.refl E1,.refl Ep,h,hb,hl,fun j cs e=>by cases e⟩
 |p::ps,[],vss,E1,Ep,M,M',hE,_,h,hb,hl,hm=>by cases hm
 |p::ps,x::xss,vss,E1,Ep,M,M',hE,hx,h,hb,hl,hm=>by
  unfold QE at hm;split at hm
  ·rename_i M2 hM2;obtain ⟨vs,v1,v2⟩:=hx 0 x rfl;obtain ⟨E2,Ep2,g1,g2,g3,g4,g5,g6⟩:=(lV p h hb hl (aZ.le hE _ v2) hM2).h
   obtain ⟨E3,Ep3,f1,f2,f3,f4,f5,f6⟩:=(L4 (ps:=ps) (xss:=xss) (vss:=vss.drop 1) (hE.trans g1) (fun j cs e=>by
    obtain ⟨ws,w1,w2⟩:=hx (j+1) cs (by simpa using e)
    exact ⟨ws,by rw [AO,Nat.add_comm];exact w1,w2⟩) g3 g4 g5 hm).h
   refine ⟨E3,Ep3,g1.trans f1,g2.trans f2,f3,f4,f5,fun j cs e=>?_⟩
   cases j with
   |zero=>
    simp at e;subst e;exact ⟨vs,v1,aZ.le f2 _ g6⟩
   |succ j=>
    obtain ⟨ws,w1,w2⟩:=f6 j cs (by simpa using e);exact ⟨ws,by rw [AO,Nat.add_comm] at w1;exact w1,w2⟩
  ·cases hm
def vD:∀ {us:List Nat} {i j:Nat} {u:Nat},wW us=true->us[i]? =some u->us[j]? =some u->i≠j->u=1
 |[],_,_,_,_,h,_,_=>by cases h
 |w::us,0,0,u,_,_,_,h=>(h rfl).elim
 |w::us,0,j+1,u,hd,h1,h2,_=>by
  simp only [wW,Aa,AI] at hd;simp at h1 h2;subst h1;rcases hd.1 with h|h
  ·exact aq.1 h
  ·have:gz w us=true:=by
    have hm:=Aj h2;clear h h2 hd
    induction us with
    |nil=>cases hm
    |cons a us ih=>
     unfold gz;split
     ·rfl
     ·rename_i hne;rcases Ab.1 hm with rfl|hm
      ·rw [Bk] at hne;cases hne
      ·exact ih hm
   rw [this] at h;cases h
 |w::us,i+1,0,u,hd,h1,h2,hne=>vD (us:=w::us) (i:=0) (j:=i+1) hd h2 h1 (fun e=>by cases e)
 |w::us,i+1,j+1,u,hd,h1,h2,hne=>by
  simp only [wW,Aa] at hd;exact vD hd.2 (by simpa using h1) (by simpa using h2) fun e=>hne (by rw [e])
def nu {X e:Nat} {b:aa}:∀ {l:List jA},b∈qE X e l-> .p X e b∈l
 |[],h=>by cases h
 | .p Y e' b'::r,h=>by
  unfold qE at h;split at h
  ·rename_i hc;simp only [Aa] at hc;rcases Ab.1 h with rfl|h
   ·rw [aq.1 hc.1,aq.1 hc.2];simp
   ·exact Ao _ (nu h)
  ·exact Ao _ (nu h)
 | .e ..::r,h=>Ao _ (nu (l:=r) (by simpa [qE] using h))
 | .z ..::r,h=>Ao _ (nu (l:=r) (by simpa [qE] using h))
def Mr {A0:AS} {dn:Nat} {E2:En} (hB:Bs E0 A0) (h:Gm gl E2 M.A F S) (hb:Bd A0.cm E0 E2 M Ep) (hE:E0.le E2) (hn:Ep.ρ.length=A0.nv+dn):∀ {l:List (Nat×Nat×aa)},QN A0 dn M l=true->∀ q∈peL l,l5 Ep q
 |[],_,q,hq=>by cases hq
 |(X,e,b)::r,hp,q,hq=>by
  simp only [QN,Aa] at hp;obtain ⟨⟨c1,c2,c3⟩,c4⟩:=hp;rcases Ab.1 hq with rfl|hq
  ·have hbi:b.is Ep.ρ (b.val Ep.ρ):=⟨by rw [hn];exact c1,rfl⟩;have hsb:=eW hb hbi;have hX:X<E0.χ.length:=by rw [hB.nl];exact dz.1 c2
   obtain ⟨xs,hxs⟩:=aK hX;obtain ⟨χr,hχr,_⟩:=hb.χ;have h2:E2.χ[X]? =some xs:=hE.χg hxs;refine ⟨xs,_,by rw [hχr];exact gh hxs,hbi,?_⟩;simp only [AI] at c3;rcases c3 with (c3|c3)|c3
   ·have:=bB h.fs (hsb.bG (-1)) c3;intro j v hj;omega
   ·exact kf h.fs hsb h2 h.el c3
   ·obtain ⟨m,m1,m2⟩:=iy c3;simp only [Aa] at m2;obtain ⟨m2,m3⟩:=m2;split at m3
    ·rename_i x s0 hx;obtain ⟨ys,i,w,k1,k2,k3,k4,k5,_⟩:=h.el _ (kg hx);rw [h2] at k1;cases k1;have h5:=bB h.fs ((k2.sub hsb).aG 1) m2;have h6:=jM h rfl [x] m3 (aO.2 ⟨w,[],k5,aU.2 rfl,rfl⟩);have hw:Tp (.e e) w:=h6.e w (by simp);intro j v hj hv
     by_cases hji:j=i.toNat
     ·subst hji;rw [k4] at hv;cases hv;exact hw
     ·rcases Ab.1 m1 with rfl|m1
      ·have:=k2.uniq (aa.bZ _ 0);omega
      ·obtain ⟨zs,n,z1,z2,z3⟩:=h.el _ (nu m1);rw [h2] at z1;cases z1;have:=z2.uniq k2;exact z3 j v (by omega) hv
    ·cases m3
  ·exact Mr hB h hb hE hn c4 q hq
def L6 {A0:AS} {dn:Nat} {E2:En} (hB:Bs E0 A0) (hE:E0.le E2):∀ {l:List (Nat×aa)} {M M':Mt} {Ep:En},Gm gl E2 M.A F S->Bd A0.cm E0 E2 M Ep->E0.le Ep->A0.nv+dn<=Ep.ρ.length->QF A0 dn M l=some M'->
  M'.A=M.A/\M'.τ=M.τ/\M'.υ=M.υ/\∃ Ep',Ep.le Ep'/\Bd A0.cm E0 E2 M' Ep'/\Ep'.ρ.length=Ep.ρ.length+l.length/\(∀ q∈zeL Ep.ρ.length l,l5 Ep' q)/\aH Ep'.ρ (Np A0.ls Ep.ρ.length l)
 |[],M,M',Ep,h,hb,hEp,hn,hm=>by
  cases hm;exact ⟨rfl,rfl,rfl,Ep,.refl Ep,hb,rfl,fun q hq=>(by cases hq),aH.nil _⟩
 |(X,i)::r,M,M',Ep,h,hb,hEp,hn,hm=>by
  unfold QF at hm;split at hm
  ·rename_i hc;simp only [Aa] at hc;split at hm
   ·rename_i w hw;have hX:=dz.1 hc.1;obtain ⟨li,hli⟩:=aK hX;obtain ⟨xs,x1,x2⟩:=hB.ls X li hli;have hi:i.is Ep.ρ (i.val Ep.ρ):=⟨vZ hn hc.2,rfl⟩;have hw:=Ic h (eW hb hi) (hE.χg x1) hw;obtain ⟨b1,b2⟩:=hb.num hw;have hlen:(Ep.num (bg (xs.take (i.val Ep.ρ).toNat):Nat)).ρ.length=Ep.ρ.length+1:=by simp [En.num]
    obtain ⟨m1,m2,m3,Ep',m5,m6,m7,m8,m9⟩:=L6 hB hE (M:={M with σ:=M.σ++[w]}) h b1 (hEp.trans (Ep.cf _)) (by rw [hlen];omega) hm;rw [hlen] at m7 m8 m9;have e1:A0.cm.n+M.σ.length=Ep.ρ.length:=hb.len.symm;rw [e1] at b2;have b2:=b2.le m5;obtain ⟨z,z1,z2⟩:=x2.z;have ht:=tu (i.val Ep.ρ).toNat xs;refine ⟨m1,m2,m3,Ep',(Ep.cf _).trans m5,m6,by rw [m7,List.length_cons];omega,fun q hq=>?_,?_⟩
    ·rcases Ab.1 hq with rfl|hq
     ·exact ⟨xs,_,((Ep.cf _).trans m5).χg (hEp.χg x1),hi.le ((Ep.cf _).trans m5),b2⟩
     ·exact m8 q hq
    ·unfold Np;rw [cR,hli];refine aH.cons ?_ b2 (by omega);refine aH.app ?_ m9;exact (aH.nil _).cons (((z1.le hEp).le ((Ep.cf _).trans m5)).sub b2) (by omega)
   ·cases hm
  ·cases hm
def Et {A0 A:AS} {q:Tq} (hB:Bs E0 A0) (hE:E0.le E) (h:Gm gl E A F S) {M:Mt} (hm:lR A0 q A=some M):∃ E' Ep,E.le E'/\E0.le Ep/\Gm gl Ep (A0.tm q) F S/\Gm gl E' M.A F S/\Bd A0.cm E0 E' M Ep:=by
 unfold lR at hm;split at hm
 ·rename_i M1 hM1;split at hm
  ·rename_i M2 hM2;split at hm
   ·rename_i hc;split at hm;rotate_left
    ·cases hm
    rename_i M3 hM3;split at hm;rotate_left
    ·cases hm
    rename_i c6;cases hm;simp only [Aa] at hc;obtain ⟨c1,c2,c3,c4,c5,c7,c8⟩:=hc;have b0:Bd A0.cm E0 E ⟨A,[],[],[]⟩ E0:=⟨hE,hB.nv,hB.nl,hB.no,hB.nt,⟨[],by simp,rfl,fun i e h=>by cases h⟩,⟨[],by simp,rfl,fun i e h=>by cases h⟩,rfl,⟨[],by simp,rfl,fun i e h=>by cases h⟩⟩;obtain ⟨E1,Ep1,g1,g2,g3,g4,g5,g6⟩:=(LZ (pl:=q.pl) (M:=⟨A,[],[],[]⟩) h.fr (.refl E) h b0 (fun i li hi=>by simp at hi) hM1).h
    have hvss:∃ vss:List (List AV),∀ (j:Nat) cs,A.ob[j]? =some cs->∃ l vs,E.θ[j]? =some l/\S.get l=some vs/\vss[j]? =some vs/\aZ E cs vs:=by
     refine ⟨E.θ.map fun l=>(S.get l).getD [],fun j cs e=>?_⟩;obtain ⟨l,vs,k1,k2,k3,k4⟩:=h.ob j cs e;exact ⟨l,vs,k1,k2,by simp [k1,k2],k4⟩
    obtain ⟨vss,hvss⟩:=hvss
    obtain ⟨E2,Ep2,f1,f2,f3,f4,f5,f6⟩:=(L4 (vss:=vss) g1 (fun j cs e=>by
     obtain ⟨l,vs,_,_,k3,k4⟩:=hvss j cs e
     exact ⟨vs,k3,k4⟩) g3 g4 g5 hM2).h
    have hEE:E.le E2:=g1.trans f1;have hEp2:E0.le Ep2:=g2.trans f2;have n0:Ep2.ρ.length=A0.nv+q.dn:=by rw [f4.len,aq.1 c1];rfl
    have c8:=Mr hB f3 f4 (hE.trans hEE) n0 c8;obtain ⟨m1,m2,m3,Ep3,m5,m6,m7,m8,m9⟩:=L6 hB (hE.trans hEE) f3 f4 hEp2 (by rw [n0];exact Af _) hM3;rw [n0] at m7 m8 m9;have f5:=f5.le m5 m2;have f2:=f2.trans m5;have hEp:=hEp2.trans m5
    have f6:∀ (j:Nat) cs,q.ob[j]? =some cs->∃ vs,vss[j]? =some vs/\aZ Ep3 cs vs:=fun j cs e=>by
     obtain ⟨vs,k1,k2⟩:=f6 j cs e;exact ⟨vs,k1,aZ.le m5 _ k2⟩
    rw [<-m1] at f3;rw [<-m2] at c2;rw [<-m3] at c3 c5;have f4:=m6;have n1:Ep3.ρ.length=A0.nv+q.n:=by rw [m7];unfold Tq.n;omega
    have n2:Ep3.χ.length=A0.ls.length+q.pl.length:=by rw [f4.Jd,aq.1 c2];rfl
    have n3:Ep3.κ.length=A0.nt+q.dt:=by rw [f4.Jc,aq.1 c3];rfl
    obtain ⟨θr,hθr⟩:=hE.θ;obtain ⟨κr,hκr⟩:=hE.κ;refine ⟨E2,Ep3,hEE,hEp,⟨n1,by rw [n2];simp [AS.tm],by rw [f4.θ,hB.no];exact (aq.1 c4).symm,n3,fun X li e=>?_,fun p hp=>(AA.1 hp).elim (m8 p) (fun hp=>(AA.1 hp).elim (fun hp=>(c8 p hp).le m5) (fun hp=>(hB.el p hp).le hEp)),?_,fun j cs e=>?_,by rw [f4.θ];exact hB.nd,fun l hl=>?_,?_,fun e he=>?_,h.gl⟩,f3,f4⟩
    ·have e:(A0.ls++q.pl)[X]? =some li:=e;rcases Al X A0.ls.length with hX|hX
     ·rw [AF hX] at e;obtain ⟨xs,k1,k2⟩:=hB.ls X li e;exact ⟨xs,hEp.χg k1,k2.le hEp⟩
     ·rw [AG hX] at e;obtain ⟨xs,k1,k2⟩:=f5 (X-A0.ls.length) li (by rw [aq.1 c2];exact gH e) e;refine ⟨xs,?_,k2⟩;have:A0.cm.m+(X-A0.ls.length)=X:=by show A0.ls.length+_=_;omega
      rw [this] at k1;exact k1
    ·intro t x e;obtain ⟨v,k1,k2⟩:=g6 t x e;exact ⟨v,k1,k2.le f2⟩
    ·have e:q.ob[j]? =some cs:=e;obtain ⟨vs,k1,k2⟩:=f6 j cs e;have hj:=gH e;rw [aq.1 c4] at hj;have hpl:xZ cs=true:=AN.1 c7 cs (Aj e)
     have hjA:j<A.ob.length:=by
      have h1:=h.no;rw [hθr,Ak,hB.no] at h1;omega
     obtain ⟨l,ws,m1,m2,m3,m4⟩:=hvss j (A.ob[j]) (by simp [hjA]);rw [m3] at k1;cases k1;refine ⟨l,_,?_,m2,FD k2 hpl,k2⟩;rw [f4.θ];rw [hθr,AF (by rw [hB.no];exact hj)] at m1;exact m1
    ·rw [f4.θ] at hl;exact h.lt l (by rw [hθr];exact AW _ hl)
    ·obtain ⟨r,r1,r2,r3⟩:=f4.κ
     have hnew:∀ j,j∈(A0.tm q).lv->∃ u tk,M.υ[j-A0.nt]? =some u/\Ep3.κ[j]? =some tk/\r9 E2 u tk/\np M.A u=true:=by
      intro j hj;have hj:=uI (show j∈H4 A0.nt q.dt from hj);obtain ⟨u,hu⟩:=aK (show j-A0.nt<M.υ.length by rw [aq.1 c3];omega);obtain ⟨tk,t1,t2,t3⟩:=r3 _ _ hu;refine ⟨u,tk,hu,?_,t2,t3⟩;rw [r1,AG (by rw [hB.nt];omega),hB.nt];exact t1
     refine ⟨fun j hj=>?_,fun j n e=>?_,fun i hi j hj hij n e1 e2=>?_⟩
     ·obtain ⟨u,tk,_,k2,k3,k4⟩:=hnew j hj;exact ⟨tk,k2,pE f3 k3 k4⟩
     ·rcases Al j A0.nt with hlt|hge
      ·rw [r1,AF (by rw [hB.nt];exact hlt)] at e;refine h.tk.lt j n ?_;rw [hκr,AF (by rw [hB.nt];exact hlt)];exact e
      ·have hlt:=gH e;rw [n3] at hlt;rw [r1,AG (by rw [hB.nt];exact hge),hB.nt] at e;obtain ⟨u,hu⟩:=aK (show j-A0.nt<M.υ.length by rw [aq.1 c3];omega);obtain ⟨tk,t1,t2,t3⟩:=r3 _ _ hu;rw [e] at t1;cases t1
       match u,t2,t3 with
       |0,_,t3=>cases t3
       |1,t2,_=>exact absurd (show bE.tok n=bE.exact from t2) (by simp)
       |i+2,t2,_=>exact f3.tk.lt i n t2
     ·obtain ⟨u,tk,k1,k2,k3,k4⟩:=hnew i hi;obtain ⟨u',tk',k1',k2',k3',k4'⟩:=hnew j hj;rw [e1] at k2;rw [e2] at k2';cases k2;cases k2';have hi:=uI (show i∈H4 A0.nt q.dt from hi);have hj:=uI (show j∈H4 A0.nt q.dt from hj)
      match u,k3,k4,u',k3',k4' with
      |0,_,k4,_,_,_=>cases k4
      |1,k3,_,_,_,_=>exact absurd (show bE.tok n=bE.exact from k3) (by simp)
      |_+2,_,_,0,_,k4'=>cases k4'
      |_+2,_,_,1,k3',_=>exact absurd (show bE.tok n=bE.exact from k3') (by simp)
      |a+2,k3,k4,b+2,k3',k4'=>
       have hab:a≠b:=fun e=>by
        subst e;have:=vD c5 k1 k1' (by omega);omega
       exact f3.tk.ne a (jL k4) b (jL k4') hab n k3 k3'
    ·have he:e∈Np A0.ls (A0.nv+q.dn) q.ze++(q.nf++A0.fs):=he;rcases AA.1 he with he|he
     ·exact m9 e he
     rcases AA.1 he with he|he
     ·have h3:=jV c6 e he;simp only [Aa] at h3;have h4:e.is Ep3.ρ (e.val Ep3.ρ):=⟨by rw [n1];exact h3.1,rfl⟩;exact ⟨_,h4,bB f3.fs (eW f4 h4) h3.2⟩
     ·obtain ⟨x,x1,x2⟩:=hB.fs e he;exact ⟨x,x1.le hEp,x2⟩
   ·cases hm
  ·cases hm
 ·cases hm
end
end Go.Proofs.YtoopnalhhfmgaaaGreatDoor
namespace Go.Proofs.YtoopnalhhfmgaaaGreatDoor
open Go Go.V
inductive Kd where
 |nx
 |ex (i:Nat)
 |rt
abbrev fq:=List (Kd×AS)
def yU:Option fq->Option fq->Option fq
 |some a,some b=>some (a++b)
 |_,_=>none
def tP {a b:Option fq} {L:fq} (h:yU a b=some L):∃ x y,a=some x/\b=some y/\L=x++y:=by
 cases a<;>cases b<;>simp only [yU,reduceCtorEq,Ae] at h
 exact ⟨_,_,rfl,rfl,h.symm⟩
def Mg (f:AS->AS):List AS->fq
 |[]=>[]
 |A::r=>(.nx,f A)::Mg f r
def zm {f:AS->AS} {A:AS}:∀ {l:List AS},A∈l->(.nx,f A)∈Mg f l
 |[],h=>by cases h
 |B::r,h=>by
  rcases Ab.1 h with rfl|h
  ·simp [Mg]
  ·exact Ao _ (zm h)
def vd:fq->List AS
 |[]=>[]
 |(.nx,A)::r=>A::vd r
 |_::r=>vd r
def mZ {A:AS}:∀ {l:fq},(.nx,A)∈l->A∈vd l
 |[],h=>by cases h
 |(.nx,B)::r,h=>by
  rcases Ab.1 h with h|h
  ·cases h;simp [vd]
  ·exact Ao _ (mZ h)
 |(.ex i,B)::r,h=>by
  rcases Ab.1 h with h|h
  ·cases h
  ·show A∈vd r;exact mZ h
 |(.rt,B)::r,h=>by
  rcases Ab.1 h with h|h
  ·cases h
  ·show A∈vd r;exact mZ h
def pd:fq->fq
 |[]=>[]
 |(.nx,_)::r=>pd r
 |x::r=>x::pd r
def lh {k:Kd} {A:AS} (hk:k≠ .nx):∀ {l:fq},(k,A)∈l->(k,A)∈pd l
 |[],h=>by cases h
 |(.nx,B)::r,h=>by
  rcases Ab.1 h with h|h
  ·cases h;exact (hk rfl).elim
  ·show (k,A)∈pd r;exact lh hk h
 |(.ex i,B)::r,h=>by
  rcases Ab.1 h with h|h
  ·cases h;simp [pd]
  ·exact Ao _ (lh hk h)
 |(.rt,B)::r,h=>by
  rcases Ab.1 h with h|h
  ·cases h;simp [pd]
  ·exact Ao _ (lh hk h)
def onB (f:AS->Option fq):List AS->Option fq
 |[]=>some []
 |B::r=>yU (f B) (onB f r)
def Hx {f:AS->Option fq} {B:AS}:∀ {l:List AS} {L:fq},onB f l=some L->B∈l->∃ L1,f B=some L1/\∀ C∈L1,C∈L
 |[],_,_,h=>by cases h
 |C::r,L,h,hm=>by
  obtain ⟨x,y,h1,h2,rfl⟩:=tP h;rcases Ab.1 hm with rfl|hm
  ·exact ⟨x,h1,fun C hC=>AW _ hC⟩
  ·obtain ⟨L1,h3,h4⟩:=Hx h2 hm;exact ⟨L1,h3,fun C hC=>A9 _ (h4 C hC)⟩
def v8 (i:Nat):fq->fq
 |[]=>[]
 |(.ex j,A)::r=>(if Nat.beq i j then .nx else .ex j,A)::v8 i r
 |x::r=>x::v8 i r
def rz {i:Nat} {k:Kd} {A:AS}:∀ {l:fq},(k,A)∈l->((match k with
  | .ex j=>if Nat.beq i j then .nx else .ex j
  |k=>k),A)∈v8 i l
 |[],h=>by cases h
 |(.nx,B)::r,h=>by
  rcases Ab.1 h with h|h
  ·cases h;simp [v8]
  ·exact Ao _ (rz h)
 |(.ex j,B)::r,h=>by
  rcases Ab.1 h with h|h
  ·cases h;simp [v8]
  ·exact Ao _ (rz h)
 |(.rt,B)::r,h=>by
  rcases Ab.1 h with h|h
  ·cases h;simp [v8]
  ·exact Ao _ (rz h)
def onF (f:Bool->AS->Option fq):List (Bool×AS)->Option fq
 |[]=>some []
 |(t,B)::r=>yU (f t B) (onF f r)
def Hy {f:Bool->AS->Option fq} {t:Bool} {B:AS}:∀ {l:List (Bool×AS)} {L:fq},onF f l=some L->(t,B)∈l->∃ L1,f t B=some L1/\∀ C∈L1,C∈L
 |[],_,_,h=>by cases h
 |(u,C)::r,L,h,hm=>by
  obtain ⟨x,y,h1,h2,rfl⟩:=tP h;rcases Ab.1 hm with e|hm
  ·cases e;exact ⟨x,h1,fun C hC=>AW _ hC⟩
  ·obtain ⟨L1,h3,h4⟩:=Hy h2 hm;exact ⟨L1,h3,fun C hC=>A9 _ (h4 C hC)⟩
def back (A0:AS) (q:Tq) (me:aa) (B:AS):Bool:=
 match lR A0 q B with
 |some M=>cQ M.A.fs ((me.sub (sb A0.nv M.σ me)).aG (-1)) && cQ M.A.fs (me.aG (-1))
 |none=>false
structure zJ where
 lp:Nat->AS->Option (Tq×aa)
 jn:Nat->AS->List AS->Option Tq
def exec (Tb:kL) (cur:aa) (O:zJ):MC->Nat->AS->Option fq
 | .skip,_,A=>some [(.nx,A)]
 | .iG l kp,_,A=>(match De Tb cur l [A] with
  |some L=>some (Mg (fun B=>B.cB kp) L)
  |none=>none)
 | .any pl pr kp,_,A=>(match HC A pr with
  |some js=>(match tL Tb cur js pl false [A] with
   |some L=>some (Mg (fun B=>B.cB kp) L)
   |none=>none)
  |none=>none)
 | .seq a b,p,A=>(match exec Tb cur O a (2*p) A with
  |some os=>(match O.jn p A (vd os) with
   |none=>yU (some (pd os)) (onB (fun B=>exec Tb cur O b (2*p+1) B) (vd os))
   |some q=>if (vd os).all fun B=>(lR A q B).isSome then yU (some (pd os)) (exec Tb cur O b (2*p+1) (A.tm q)) else none)
  |none=>none)
 | .cond c a b,p,A=>(match cp A c with
  |some (.b x)=>onF (fun t B=>if t then exec Tb cur O a (2*p) B else exec Tb cur O b (2*p+1) B) (fork A x)
  |_=>none)
 | .block i a,p,A=>(match exec Tb cur O a (2*p) A with
  |some os=>some (v8 i os)
  |none=>none)
 | .exit i,_,A=>some [(.ex i,A)]
 | .ret,_,A=>some [(.rt,A)]
 | .named kp a,p,A=>exec Tb cur O a (2*p) (A.cB kp)
 | .loop a,p,A=>(match O.lp p A with
  |some (q,me)=>if (lR A q A).isSome && dd (A.nv+q.n) me.ts then (match exec Tb cur O a (2*p) (A.tm q) with
   |some os=>if (vd os).all (back A q me) then some (pd os) else none
   |none=>none) else none
  |none=>none)
 |_,_,_=>none
section
variable {P:Program} {gl:List (Nat×List AV)} {Tb:kL} {cur:aa} {cv:Int} {n:Nat} {R:Fr->St->Prop}
def il (P:Program) (n:Nat) (R:Fr->St->Prop) (k:List MI) (F:Fr) (S:St):Prop:=∃ F' S',R F' S'/\ah P n k [] F S (Qx none [] F' S')
def Nq (P:Program) (n:Nat) (R:Fr->St->Prop) (k:List MI) (F:Fr) (S:St):Kd->Prop
 | .nx=>il P n R k F S
 | .ex i=>match fF i k with
  |some k'=>il P n R k' F S
  |none=>False
 | .rt=>R F S
def il.to {k k':List MI} {F F':Fr} {S S':St} (h:il P n R k' F' S') (hs:∀ Q:er,ah P n k' [] F' S' Q->ah P n k [] F S Q):il P n R k F S:=by
 obtain ⟨F1,S1,h1,h2⟩:=h;exact ⟨F1,S1,h1,hs _ h2⟩
def il.of {k:List MI} {F:Fr} {S:St} (h:R F S) (hs:∀ Q:er,Q none [] F S->ah P n k [] F S Q):il P n R k F S:=⟨F,S,h,hs _ ⟨rfl,rfl,rfl,fun _ _ e=>e⟩⟩
def je (hgn:ae gl) (hT:vp P gl Tb cv) {O:zJ}:∀ (c:MC) {p:Nat} {A:AS} {E:En} {F:Fr} {S:St} {k:List MI} {os:fq},cur.is E.ρ cv->Gm gl E A F S->exec Tb cur O c p A=some os->
  (∀ kd B,(kd,B)∈os->∀ E' F' S',E.le E'->Gm gl E' B F' S'->Nq P n R k F' S' kd)->il P n R (.code c::k) F S
 | .skip,p,A,E,F,S,k,os,hc,h,he,hk=>by
  cases he;exact il.to (hk .nx A (by simp) E F S (.refl E) h) fun Q hq=> .skip hq
 | .iG l kp,p,A,E,F,S,k,os,hc,h,he,hk=>by
  simp only [exec] at he;split at he
  ·rename_i L hL;cases he;obtain ⟨B,b1,E',F',S',b2,b3,b4⟩:=DJ hgn hT (by simp) hc h hL;exact il.to (hk .nx _ (zm b1) E' _ S' b2 (b3.cB kp)) fun Q hq=> .iG (b4 _ hq)
  ·cases he
 | .any pl pr kp,p,A,E,F,S,k,os,hc,h,he,hk=>by
  simp only [exec] at he;split at he
  ·rename_i js hjs;split at he
   ·rename_i L hL;cases he;obtain ⟨B,b1,E',F',S',b2,b3,b4⟩:=Nw hgn hT (FG h hjs) (FF h hjs) h.gl (pl.depth+1) (Br _) (by simp) hc h (.refl E) ⟨Af _,fun _ _ _=>rfl⟩ hL
    exact il.to (hk .nx _ (zm b1) E' _ S' b2 (b3.cB kp)) fun Q hq=> .Iu (Q1:=fun _ _ _ _=>False) (fun _ _ _ _ _ _ h=>h) (fun _ _ _ h=>h.elim) (b4 _ (fun o Fa Fb T hab hk=>by
     cases o with
     |some v=>exact hk
     |none=>
      simp only at hk ⊢;rw [qX (F1:=Fb) (F2:=Fa) fun t _=>(hab t).symm]
      exact hk) hq)
   ·cases he
  ·cases he
 | .seq a b,p,A,E,F,S,k,os,hc,h,he,hk=>by
  simp only [exec] at he;split at he
  ·rename_i os1 h1;refine il.to (je hgn hT a (k:= .code b::k) hc h h1 fun kd B hB E' F' S' hE hG=>?_) fun Q hq=> .seq hq;have hoff:∀ {k':Kd},k'≠ .nx->((k',B)∈pd os1->(k',B)∈os)->(k',B)∈os1->Nq P n R k F' S' k':=fun hk' hi hm=>hk _ B (hi (lh hk' hm)) E' F' S' hE hG;split at he
   ·obtain ⟨x,y,e1,e2,rfl⟩:=tP he;cases e1
    cases kd with
    |nx=>
     obtain ⟨L1,q1,q2⟩:=Hx e2 (mZ hB);exact je hgn hT b (hc.le hE) hG q1 fun kd' C hC E2 F2 S2 hE2 hG2=>hk kd' C (A9 _ (q2 _ hC)) E2 F2 S2 (hE.trans hE2) hG2
    |ex i=>exact hoff (k':= .ex i) (fun e=>by cases e) (fun h=>AW _ h) hB
    |rt=>exact hoff (k':= .rt) (fun e=>by cases e) (fun h=>AW _ h) hB
   ·rename_i q hq;split at he
    ·rename_i hall;obtain ⟨x,y,e1,e2,rfl⟩:=tP he;cases e1
     cases kd with
     |nx=>
      have h2:=AN.1 hall B (mZ hB);obtain ⟨M,hM⟩:=Bu.1 h2;obtain ⟨E1,Ep,g1,g2,g3,g4,g5⟩:=Et h.bs hE hG hM;exact je hgn hT b (hc.le g2) g3 e2 fun kd' C hC E2 F2 S2 hE2 hG2=>hk kd' C (A9 _ hC) E2 F2 S2 (g2.trans hE2) hG2
     |ex i=>exact hoff (k':= .ex i) (fun e=>by cases e) (fun h=>AW _ h) hB
     |rt=>exact hoff (k':= .rt) (fun e=>by cases e) (fun h=>AW _ h) hB
    ·cases he
  ·cases he
 | .cond c a b,p,A,E,F,S,k,os,hc,h,he,hk=>by
  simp only [exec] at he;split at he
  ·rename_i x hx;have g:=bb h hx;simp only [SV.rel] at g;obtain ⟨t,g1,g2⟩:=g;obtain ⟨B,b1,b2⟩:=mV h g1;obtain ⟨L1,q1,q2⟩:=Hy he b1
   cases t with
   |true=>refine il.to (je hgn hT a hc b2 q1 fun kd' C hC E2 F2 S2 hE2 hG2=>hk kd' C (q2 _ hC) E2 F2 S2 hE2 hG2) fun Q hq=> .cond g2 (fun _=>hq) (fun e=>by cases e)
   |false=>refine il.to (je hgn hT b hc b2 q1 fun kd' C hC E2 F2 S2 hE2 hG2=>hk kd' C (q2 _ hC) E2 F2 S2 hE2 hG2) fun Q hq=> .cond g2 (fun e=>by cases e) (fun _=>hq)
  ·cases he
 | .block i a,p,A,E,F,S,k,os,hc,h,he,hk=>by
  simp only [exec] at he;split at he
  ·rename_i os1 h1;cases he;refine il.to (je hgn hT a (k:= .inBlock i::k) hc h h1 fun kd B hB E' F' S' hE hG=>?_) fun Q hq=> .block hq;have hm:=hk _ B (rz (i:=i) hB) E' F' S' hE hG
   cases kd with
   |nx=>exact il.to hm fun Q hq=> .inBlock hq
   |ex j=>
    show match fF j (.inBlock i::k) with
     |some k'=>il P n R k' F' S'
     |none=>False
    rw [rZ];simp only at hm
    by_cases hij:i=j
    ·subst hij;rw [Bk,if_pos rfl] at hm;rw [if_pos rfl];exact hm
    ·have hb:Nat.beq i j=false:=by
      cases e:Nat.beq i j with
      |true=>exact absurd (aq.1 e) hij
      |false=>rfl
     rw [hb,if_neg (by simp)] at hm;rw [if_neg hij];exact hm
   |rt=>exact hm
  ·cases he
 | .exit i,p,A,E,F,S,k,os,hc,h,he,hk=>by
  cases he;have hm:=hk (.ex i) A (by simp) E F S (.refl E) h;simp only [Nq] at hm;split at hm
  ·rename_i k' hk';exact il.to hm fun Q hq=> .exit hk' hq
  ·exact hm.elim
 | .ret,p,A,E,F,S,k,os,hc,h,he,hk=>by
  cases he;have hm:=hk .rt A (by simp) E F S (.refl E) h;exact il.of hm fun Q hq=> .ret hq
 | .named kp a,p,A,E,F,S,k,os,hc,h,he,hk=>by
  simp only [exec] at he;exact il.to (je hgn hT a hc (h.cB kp) he hk) fun Q hq=> .named hq
 | .loop a,p,A,E,F,S,k,os,hc,h,he,hk=>by
  simp only [exec] at he;split at he
  ·rename_i q me hq;split at he
   ·rename_i hent;simp only [Aa] at hent;split at he
    ·rename_i os1 h1;split at he
     ·rename_i hall;cases he
      have key:∀ (m:Nat) {Ep:En} {F:Fr} {S:St},E.le Ep->Gm gl Ep (A.tm q) F S->(me.val Ep.ρ).toNat=m->il P n R (.code a:: .inLoop a::k) F S:=by
       intro m
       induction m using Nat.strongRecOn with
       |_ m ih=>
        intro Ep F S hE hG hm;refine je hgn hT a (k:= .inLoop a::k) (hc.le hE) hG h1 fun kd B hB E' F' S' hE' hG'=>?_
        cases kd with
        |nx=>
         have h2:=AN.1 hall B (mZ hB);unfold back at h2;split at h2
         ·rename_i M hM;simp only [Aa] at h2;obtain ⟨E2,Ep2,g1,g2,g3,g4,g5⟩:=Et h.bs (hE.trans hE') hG' hM;have me1:me.is Ep.ρ (me.val Ep.ρ):=⟨by rw [hG.nv];exact hent.2,rfl⟩;have me2:me.is Ep2.ρ (me.val Ep2.ρ):=⟨by rw [g3.nv];exact hent.2,rfl⟩;have m1:=bB g4.fs (((me1.le (hE'.trans g1)).sub (eW g5 me2)).aG (-1)) h2.1;have m2:=bB g4.fs ((me1.le (hE'.trans g1)).aG (-1)) h2.2;exact il.to (ih _ (by omega) g2 g3 rfl) fun Q hq=> .inLoop hq
         ·cases h2
        |ex i=>
         have hm:=hk (.ex i) B (lh (fun e=>by cases e) hB) E' F' S' (hE.trans hE') hG'
         show match fF i (.inLoop a::k) with
          |some k'=>il P n R k' F' S'
          |none=>False
         rw [sQ];exact hm
        |rt=>exact hk .rt B (lh (fun e=>by cases e) hB) E' F' S' (hE.trans hE') hG'
      obtain ⟨M,hM⟩:=Bu.1 hent.1;obtain ⟨E1,Ep,g1,g2,g3,g4,g5⟩:=Et h.bs (.refl E) h hM;exact il.to (key _ g2 g3 rfl) fun Q hq=> .ek hq
     ·cases he
    ·cases he
   ·cases he
  ·cases he
 | .bad,p,A,E,F,S,k,os,hc,h,he,hk=>by simp [exec] at he
 | .yd ..,p,A,E,F,S,k,os,hc,h,he,hk=>by simp [exec] at he
end
end Go.Proofs.YtoopnalhhfmgaaaGreatDoor
namespace Go.Proofs.YtoopnalhhfmgaaaGreatDoor
open Go Go.V
def Tp.fg {t:TT} {v:AV} (h:Tp t v):Tp t v.fg:=by
 induction h with
 |int k n h=>exact .int k n h
 |bool b=>exact .bool b
 |str h=>exact .str h
 | @sl k e xs t hl hz hk h ih=>
  rw [fp];refine .sl (by simpa using hl) (by rw [kh];exact hz) (fun x hx=>?_) (fun x hx=>?_)
  ·obtain ⟨y,hy,rfl⟩:=Ai.1 hx;rw [kV,Ad];exact hk y hy
  ·obtain ⟨y,hy,rfl⟩:=Ai.1 hx;exact ih y hy
 |sc hg h ih=>exact .sc hg ih
 | @st e cs vs hg hl h ih=>
  rw [db];refine .st hg (by simpa using hl) fun m c v e1 e2=>?_;rw [Ap,Ag] at e2;obtain ⟨w,e2,rfl⟩:=e2;exact ih m c w e1 e2
 | @rf e cs css vs hg hl h hc ih=>
  rw [db];refine .rf hg (by simpa using hl) (fun m c v e1 e2=>?_) ?_
  ·rw [Ap,Ag] at e2;obtain ⟨w,e2,rfl⟩:=e2;exact ih m c w e1 e2
  ·obtain ⟨f,hf,hf2⟩:=hc;refine ⟨f,hf,?_⟩;rw [AY,show (hO∘AV.fg)=hO from funext Hv];exact hf2
def Tp.abr {t:TT} {w:AV} (h:Tp t w):∀ v:AV,v.fg=w->Tp t v:=by
 induction h with
 |int k n h=>intro v e;cases v<;>simp [AV.fg] at e;obtain ⟨rfl,rfl⟩:=e;exact .int _ _ h
 |bool b=>intro v e;cases v<;>simp [AV.fg] at e;subst e;exact .bool _
 |str h=>intro v e;cases v<;>simp [AV.fg] at e;subst e;exact .str h
 | @sl k e xs t hl hz hk h ih=>
  intro v e;cases v<;>simp only [AV.fg,reduceCtorEq] at e
  rename_i k' ys t';injection e with e1 e2 e3
  rw [di] at e2;subst e1 e2;refine .sl (by simpa using hl) (by rw [kh] at hz;exact hz) (fun x hx=>?_) (fun x hx=>?_)
  ·have:=hk x.fg (BA hx);rw [kV,Ad] at this;exact this
  ·exact ih x.fg (BA hx) x rfl
 |sc hg h ih=>exact fun v e=> .sc hg (ih v e)
 | @st e cs vs hg hl h ih=>
  intro v e;cases v<;>simp only [AV.fg,reduceCtorEq] at e
  injection e with e
  rw [di] at e;subst e;exact .st hg (by simpa using hl) fun m c v e1 e2=>ih m c v.fg e1 (by simp [e2]) v rfl
 | @rf e cs css vs hg hl h hc ih=>
  intro v e;cases v<;>simp only [AV.fg,reduceCtorEq] at e
  injection e with e
  rw [di] at e;subst e;refine .rf hg (by simpa using hl) (fun m c v e1 e2=>ih m c v.fg e1 (by simp [e2]) v rfl) ?_;obtain ⟨f,hf,hf2⟩:=hc;refine ⟨f,hf,?_⟩;rw [AY] at hf2;rw [show (hO∘AV.fg)=hO from funext Hv] at hf2;exact hf2
def Tp.nr {t:TT} {v:AV} (h:Tp t v):al v.fg/\∀ c∈v.fg.cells,al c:=by
 induction h with
 |int k n h=>exact ⟨.int _ _,by simp [AV.fg,AV.cells,al.int_eq]⟩
 |bool b=>exact ⟨.bool _,by simp [AV.fg,AV.cells,al.tO]⟩
 |str h=>exact ⟨.str _,by simp [AV.fg,AV.cells,al.fC]⟩
 | @sl k e xs t hl hz hk h ih=>
  have:al (AV.fg (.sl k xs t)):=by
   rw [fp];refine .sl (fun x hx=>?_) (.inl rfl);obtain ⟨y,hy,rfl⟩:=Ai.1 hx;exact (ih y hy).2
  refine ⟨this,fun c hc=>?_⟩;rw [fp] at hc this;simp only [AV.cells,Ab,AD,or_false] at hc;subst hc;exact this
 |sc hg h ih=>exact ih
 | @st e cs vs hg hl h ih=>
  rw [db]
  have key:∀ c∈vs.map AV.fg,al c:=fun x hx=>by
   obtain ⟨y,hy,rfl⟩:=Ai.1 hx;obtain ⟨m,hm,rfl⟩:=Bj.1 hy;exact (ih m (cs[m]'(by omega)) _ (by simp) (by simp)).1
  exact ⟨.agg key,key⟩
 | @rf e cs css vs hg hl h hc ih=>
  rw [db]
  have key:∀ c∈vs.map AV.fg,al c:=fun x hx=>by
   obtain ⟨y,hy,rfl⟩:=Ai.1 hx;obtain ⟨m,hm,rfl⟩:=Bj.1 hy;exact (ih m (cs[m]'(by omega)) _ (by simp) (by simp)).1
  exact ⟨.agg key,key⟩
def eC.fg {k e:Nat} {xs:List AV} (h:eC k e xs):eC k e (xs.map AV.fg):=⟨fun x hx=>by
 obtain ⟨y,hy,rfl⟩:=Ai.1 hx;rw [kV,Ad]
 exact h.k y hy,fun x hx=>by
 obtain ⟨y,hy,rfl⟩:=Ai.1 hx
 exact (h.e y hy).fg⟩
def eC.nr {k e:Nat} {xs:List AV} (h:eC k e xs):al (.sl k (xs.map AV.fg) .ai):= .sl (fun x hx=>by
 obtain ⟨y,hy,rfl⟩:=Ai.1 hx
 exact (h.e y hy).nr.2) (.inl rfl)
structure J9 (m:Nat) (E E':En):Prop where
 ρ:E'.ρ=E.ρ
 χ:∀ X xs,m<=X->E.χ[X]? =some xs->E'.χ[X]? =some (xs.map AV.fg)
def gx.fg {m:Nat} {E E':En} (h:J9 m E E') {li:LI} {xs:List AV} (hl:gx E li xs):gx E' li (xs.map AV.fg):=by
 refine ⟨hl.el.fg,?_,?_⟩
 ·rw [h.ρ,Ad];exact hl.n
 ·obtain ⟨z,h1,h2⟩:=hl.z;exact ⟨z,by rw [h.ρ];exact h1,by rw [kh];exact h2⟩
def Mw:AV->Bool
 | .str _| .bool _| .int _ _| .cV| .fw| .cY=>true
 |_=>false
mutual
def jr (m:Nat):SV->Bool
 | .c v=>Mw v
 | .i _ _=>true
 | .b _=>true
 | .s _=>true
 | .l _ X t=>Nat.beq t 0 && Nat.ble m X
 | .lit _ xs t=>Nat.beq t 0 && rp m xs
 | .a xs=>rp m xs
 | .aF xs=>rp m xs
 | .fn _ [] []=>true
 |_=>false
def rp (m:Nat):List SV->Bool
 |[]=>true
 |x::xs=>jr m x && rp m xs
end
def CN {v:AV} (h:Mw v=true):v.fg=v/\al v/\v.cells=[v]:=by
 cases v<;>first
  |exact ⟨rfl,.str _,rfl⟩
  |exact ⟨rfl,.bool _,rfl⟩
  |exact ⟨rfl,.int _ _,rfl⟩
  |exact ⟨rfl,.cV,rfl⟩
  |exact ⟨rfl,.fw,rfl⟩
  |exact ⟨rfl,.cY,rfl⟩
  |cases h
section
variable {m:Nat} {E E':En}
mutual
def MH (hF:J9 m E E'):∀ (x:SV) {v:AV},jr m x=true->x.rel E v->x.rel E' v.fg
 | .c w,v,h,hr=>by
  simp only [SV.rel] at hr ⊢;subst hr;simp only [jr] at h;exact (CN h).1
 | .i k e,v,h,hr=>by
  simp only [SV.rel] at hr ⊢;obtain ⟨n,h1,h2,rfl⟩:=hr;exact ⟨n,by rw [hF.ρ];exact h1,h2,rfl⟩
 | .b x,v,h,hr=>by
  simp only [SV.rel] at hr ⊢;obtain ⟨n,h1,rfl⟩:=hr;exact ⟨n,by rw [hF.ρ];exact h1,rfl⟩
 | .s e,v,h,hr=>by
  simp only [SV.rel] at hr ⊢;obtain ⟨n,h1,rfl⟩:=hr;exact ⟨n,by rw [hF.ρ];exact h1,rfl⟩
 | .l k X t,v,h,hr=>by
  simp only [SV.rel] at hr ⊢;simp only [jr,Aa] at h;obtain ⟨xs,tk,h1,h2,rfl⟩:=hr;rw [fp];exact ⟨_,.ai,hF.χ X xs (A6 h.2) h1,by rw [aq.1 h.1];trivial,rfl⟩
 | .lit k xs t,v,h,hr=>by
  simp only [SV.rel] at hr ⊢;simp only [jr,Aa] at h;obtain ⟨vs,tk,h1,h2,rfl⟩:=hr;rw [fp];exact ⟨_,.ai,qj hF xs h.2 h1,by rw [aq.1 h.1];trivial,rfl⟩
 | .a xs,v,h,hr=>by
  simp only [SV.rel] at hr ⊢;simp only [jr] at h;obtain ⟨vs,h1,rfl⟩:=hr;rw [db];exact ⟨_,qj hF xs h h1,rfl⟩
 | .aF xs,v,h,hr=>by
  simp only [SV.rel] at hr ⊢;simp only [jr] at h;obtain ⟨vs,h1,rfl⟩:=hr;rw [xi];exact ⟨_,qj hF xs h h1,rfl⟩
 | .fn f [] [],v,h,hr=>by
  simp only [SV.rel] at hr ⊢;obtain ⟨as,cs,h1,h2,rfl⟩:=hr;rw [aU.1 h1,aU.1 h2];exact ⟨[],[],aU.2 rfl,aU.2 rfl,rfl⟩
 | .fn f (_::_) _,v,h,hr=>by simp [jr] at h
 | .fn f [] (_::_),v,h,hr=>by simp [jr] at h
 | .p _ _,v,h,hr=>by simp [jr] at h
 | .e _ _ _ _,v,h,hr=>by simp [jr] at h
def qj (hF:J9 m E E'):∀ (xs:List SV) {vs:List AV},rp m xs=true->aZ E xs vs->aZ E' xs (vs.map AV.fg)
 |[],vs,h,hr=>by
  rw [aU.1 hr];exact aU.2 rfl
 |x::xs,vs,h,hr=>by
  obtain ⟨w,ws,h1,h2,rfl⟩:=aO.1 hr;simp only [rp,Aa] at h;exact aO.2 ⟨w.fg,ws.map AV.fg,MH hF x h.1 h1,qj hF xs h.2 h2,rfl⟩
end
mutual
def MJ (hl:∀ (X:Nat) xs,m<=X->E.χ[X]? =some xs->∃ k e,eC k e xs):∀ (x:SV) {v:AV},jr m x=true->x.rel E v->al v.fg/\∀ c∈v.fg.cells,al c
 | .c w,v,h,hr=>by
  simp only [SV.rel] at hr;subst hr;simp only [jr] at h;obtain ⟨h1,h2,h3⟩:=CN h;rw [h1,h3];exact ⟨h2,by simpa using h2⟩
 | .i k e,v,h,hr=>by
  simp only [SV.rel] at hr;obtain ⟨n,h1,h2,rfl⟩:=hr;exact ⟨.int _ _,by simp [AV.fg,AV.cells,al.int_eq]⟩
 | .b x,v,h,hr=>by
  simp only [SV.rel] at hr;obtain ⟨n,h1,rfl⟩:=hr;exact ⟨.bool _,by simp [AV.fg,AV.cells,al.tO]⟩
 | .s e,v,h,hr=>by
  simp only [SV.rel] at hr;obtain ⟨n,h1,rfl⟩:=hr;exact ⟨.str _,by simp [AV.fg,AV.cells,al.fC]⟩
 | .l k X t,v,h,hr=>by
  simp only [SV.rel] at hr;simp only [jr,Aa] at h;obtain ⟨xs,tk,h1,h2,rfl⟩:=hr;obtain ⟨k',e,he⟩:=hl X xs (A6 h.2) h1;rw [fp]
  have:al (.sl k (xs.map AV.fg) .ai):= .sl (fun x hx=>by
   obtain ⟨y,hy,rfl⟩:=Ai.1 hx
   exact (he.e y hy).nr.2) (.inl rfl)
  exact ⟨this,by simpa [AV.cells] using this⟩
 | .lit k xs t,v,h,hr=>by
  simp only [SV.rel] at hr;simp only [jr,Aa] at h;obtain ⟨vs,tk,h1,h2,rfl⟩:=hr;have ih:=qk hl xs h.2 h1;rw [fp];have:al (.sl k (vs.map AV.fg) .ai):= .sl (fun x hx=>(ih x hx).2) (.inl rfl);exact ⟨this,by simpa [AV.cells] using this⟩
 | .a xs,v,h,hr=>by
  simp only [SV.rel] at hr;simp only [jr] at h;obtain ⟨vs,h1,rfl⟩:=hr;have ih:=qk hl xs h h1;rw [db];exact ⟨.agg fun c hc=>(ih c hc).1,fun c hc=>(ih c hc).1⟩
 | .aF xs,v,h,hr=>by
  simp only [SV.rel] at hr;simp only [jr] at h;obtain ⟨vs,h1,rfl⟩:=hr;have ih:=qk hl xs h h1;rw [xi];have:al (.aF (vs.map AV.fg)):= .aF fun c hc=>(ih c hc).1;exact ⟨this,by simpa [AV.cells] using this⟩
 | .fn f [] [],v,h,hr=>by
  simp only [SV.rel] at hr;obtain ⟨as,cs,h1,h2,rfl⟩:=hr;rw [aU.1 h1,aU.1 h2];have:al (.fn f [] []):= .func (by simp) (by simp);exact ⟨this,by simpa [AV.fg,AV.cells] using this⟩
 | .fn f (_::_) _,v,h,hr=>by simp [jr] at h
 | .fn f [] (_::_),v,h,hr=>by simp [jr] at h
 | .p _ _,v,h,hr=>by simp [jr] at h
 | .e _ _ _ _,v,h,hr=>by simp [jr] at h
def qk (hl:∀ (X:Nat) xs,m<=X->E.χ[X]? =some xs->∃ k e,eC k e xs):∀ (xs:List SV) {vs:List AV},rp m xs=true->aZ E xs vs->∀ v∈vs.map AV.fg,al v/\∀ c∈v.cells,al c
 |[],vs,h,hr=>by
  rw [aU.1 hr];simp
 |x::xs,vs,h,hr=>by
  obtain ⟨w,ws,h1,h2,rfl⟩:=aO.1 hr;simp only [rp,Aa] at h;intro v hv;rw [List.map_cons] at hv;rcases Ab.1 hv with rfl|hv
  ·exact MJ hl x h.1 h1
  ·exact qk hl xs h.2 h2 v hv
end
end
def Iw:Nat->List SV->List (Nat×SV)
 |_,[]=>[]
 |i,x::xs=>(i,x)::Iw (i+1) xs
def GJ {E:En}:∀ {xs:List SV} {vs:List AV} {i:Nat},aZ E xs vs->∀ t x,lk t (Iw i xs)=some x->∃ v,(jx i vs).lookup t=some v/\x.rel E v
 |[],vs,i,h,t,x,e=>by cases e
 |y::ys,vs,i,h,t,x,e=>by
  obtain ⟨w,ws,h1,h2,rfl⟩:=aO.1 h;simp only [Iw,lk] at e;show ∃ v,List.lookup t ((i,w)::jx (i+1) ws)=some v/\_;rw [gV];split at e
  ·rename_i hu;cases e;rw [if_pos (aq.1 hu)];exact ⟨w,rfl,h1⟩
  ·rename_i hu;rw [if_neg fun e2=>by rw [e2,Bk] at hu;cases hu];exact GJ h2 t x e
def az.st (sg:az) (cs:List aa):AS:=⟨sg.pv,sg.pl,[],0,[],[],Iw 0 sg.ps,cs++sg.pf⟩
def rvS (A:AS):RV->Option SV
 | .t n=>lk n A.fr
 | .c a n ag=>(match lk a A.fr with
  |some x=>tK A n ag x
  |none=>none)
def FQ (A:AS):List RV->Option (List SV)
 |[]=>some []
 |r::rs=>(match rvS A r,FQ A rs with
  |some x,some xs=>some (x::xs)
  |_,_=>none)
def nV:List SV->SV
 |[x]=>x
 |xs=> .aF xs
def QY (m:Nat) (B:AS):List (Nat×Nat)->Bool
 |[]=>true
 |(X,e)::r=>(Nat.blt X m && (match nth B.ls X with
  |some li=>Nat.beq li.e e||mq B.fs X e li.n B.el
  |none=>false)) && QY m B r
def PU (m n:Nat) (σ:aa->aa) (A:AS):List (Nat×aa×Nat)->Bool
 |[]=>true
 |(X,i,e)::r=>(Nat.blt X m && (dd n i.ts && (match seen X (σ i) A.el with
  |some (x,_)=>isAll A (kT x).length (Γ e) [x]
  |none=>false))) && PU m n σ A r
def agO (sg:az) (a:Alt) (M:Mt):Bool:=PU sg.pl.length a.nv (fun i=>sb sg.pv M.σ i) M.A a.ex
def Is (A0:AS) (sg:az) (B:AS) (r:SV) (a:Alt):Bool:=
 match mt A0.cm a.ls ⟨B,[],[],[]⟩ a.r r with
 |some M=>Nat.beq (sg.pv+M.σ.length) a.nv && (Nat.beq M.τ.length a.ls.length && (Nat.beq M.υ.length 0 && (jr sg.pl.length a.r && (QY sg.pl.length B a.up && (agO sg a M && ma (fun e=>dd a.nv e.ts && Lc M.A.fs (sb sg.pv M.σ e)) a.fs)))))
 |none=>false
def qo:List SV->Option (List SV×BE×List SV)
 |[]=>none
 | .b (.k t)::r=>(match qo r with
  |some (p,x,q)=>some (.b (.k t)::p,x,q)
  |none=>none)
 | .b x::r=>some ([],x,r)
 |y::r=>(match qo r with
  |some (p,x,q)=>some (y::p,x,q)
  |none=>none)
def CZ:∀ {xs p q:List SV} {x:BE},qo xs=some (p,x,q)->xs=p++ .b x::q
 |[],p,q,x,h=>by cases h
 |y::r,p,q,x,h=>by
  have key:(match qo r with
   |some (p,x,q)=>some (y::p,x,q)
   |none=>none)=some (p,x,q)->y::r=p++ .b x::q:=fun h=>by
   split at h
   ·rename_i p' x' q' h1;cases h;rw [CZ h1];rfl
   ·cases h
  unfold qo at h;split at h
  ·rename_i e;cases e
  ·rename_i t r' e;cases e;exact key h
  ·rename_i x' r' _ e;cases e;cases h;rfl
  ·rename_i e;cases e;exact key h
def Df (p:Bool->AS->Bool):List (Bool×AS)->Bool
 |[]=>true
 |(t,B)::r=>match p t B with
  |true=>Df p r
  |false=>false
def DS {p:Bool->AS->Bool} {t:Bool} {B:AS}:∀ {l:List (Bool×AS)},Df p l=true->(t,B)∈l->p t B=true
 |[],_,h=>by cases h
 |(u,C)::r,h,hm=>by
  unfold Df at h;split at h
  ·rcases Ab.1 hm with e|hm
   ·cases e;assumption
   ·exact DS h hm
  ·cases h
def Eo (sg:az):Nat->AS->List SV->Bool
 |0,B,xs=>kQ (Is (sg.st []) sg B (nV xs)) sg.alts
 |n+1,B,xs=>match kQ (Is (sg.st []) sg B (nV xs)) sg.alts with
  |true=>true
  |false=>(match qo xs with
   |some (p,x,q)=>Df (fun t C=>Eo sg n C (p++ .b (.k t)::q)) (fork B x)
   |none=>false)
def agM (sg:az) (rv:List RV):Kd×AS->Bool
 |(.ex _,_)=>false
 |(_,B)=>(match FQ B rv with
  |some xs=>Eo sg 3 B xs
  |none=>false)
def Ir (p:Kd×AS->Bool):fq->Bool
 |[]=>true
 |x::xs=>match p x with
  |true=>Ir p xs
  |false=>false
def yN {p:Kd×AS->Bool}:∀ {fs:fq},Ir p fs=true->∀ f∈fs,p f=true
 |[],_,f,h=>by cases h
 |g::fs,h,f,hm=>by
  unfold Ir at h;split at h
  ·rcases Ab.1 hm with rfl|hm
   ·assumption
   ·exact yN h f hm
  ·cases h
def D9 (p:List aa->Bool) (l:List (List aa)):Bool:=
 match l with
 |[]=>p []
 |_=>l.all p
def KA {p:List aa->Bool} {l:List (List aa)} {ρ:List Int} (h:D9 p l=true) (hc:l≠[]->∃ f∈l,aH ρ f):∃ f,aH ρ f/\p f=true:=by
 unfold D9 at h;split at h
 ·exact ⟨[],aH.nil _,h⟩
 ·rename_i hne;obtain ⟨f,h1,h2⟩:=hc (fun e=>hne e);exact ⟨f,h2,AN.1 h f h1⟩
def kt (Tb:kL) (O:zJ) (sg:az) (m:MC) (rv:List RV):Bool:=
 rp 0 sg.ps && (dd sg.pv sg.me.ts && D9 (fun cs=>match exec Tb sg.me O m 1 (sg.st cs) with
  |some os=>Ir (agM sg rv) os
  |none=>false) sg.pc)
section
variable {P:Program} {gl:List (Nat×List AV)} {Tb:kL} {cv:Int} {E:En} {F:Fr} {S:St}
def MW {B:AS} (h:Gm gl E B F S):∀ {rv:List RV} {xs:List SV},FQ B rv=some xs->∃ vs,aZ E xs vs/\∀ F1,(∀ t v,F.lookup t=some v->F1.lookup t=some v)->fG F1 S rv=some vs
 |[],xs,e=>by
  cases e;exact ⟨[],aU.2 rfl,fun _ _=>rfl⟩
 |r::rs,xs,e=>by
  unfold FQ at e;split at e
  ·rename_i x xs' h1 h2;cases e;obtain ⟨vs,g1,g2⟩:=MW h h2
   have key:∃ v,x.rel E v/\∀ F1,(∀ t v,F.lookup t=some v->F1.lookup t=some v)->jS F1 S r=some v:=by
    cases r with
    |t n=>
     obtain ⟨v,k1,k2⟩:=h.fr n x h1;exact ⟨v,k2,fun F1 hF=>by simp only [jS,Fr.get,hF n v k1,Option.getD_some]⟩
    |c a n ag=>
     simp only [rvS] at h1;split at h1
     ·rename_i y hy;obtain ⟨v,k1,k2⟩:=h.fr a y hy;obtain ⟨r,q1,q2⟩:=wK h k2 h1;refine ⟨r,q2,fun F1 hF=>?_⟩;simp only [jS,Fr.get,hF a v k1,Option.getD_some]
      cases e1:v.there S with
      |none=>rw [e1] at q1;cases q1
      |some cs=>
       rw [e1] at q1;simp only [Option.bind_some] at q1 ⊢
       cases e2:cC n ag cs with
       |none=>rw [e2] at q1;cases q1
       |some w=>rw [e2] at q1;simpa using q1
     ·cases h1
   obtain ⟨v,k1,k2⟩:=key;refine ⟨v::vs,aO.2 ⟨v,vs,k1,g1,rfl⟩,fun F1 hF=>?_⟩;simp only [fG,k2 F1 hF,g2 F1 hF,Option.bind_some,Option.map_some]
  ·cases e
def U5 {xs:List SV} {vs:List AV} (h:aZ E xs vs):(nV xs).rel E (dE vs):=by
 match xs,vs,h with
 |[],vs,h=>rw [aU.1 h];simp only [nV,dE,SV.rel];exact ⟨[],aU.2 rfl,rfl⟩
 |[x],vs,h=>
  obtain ⟨w,ws,h1,h2,rfl⟩:=aO.1 h;rw [aU.1 h2];exact h1
 |x::y::xs,vs,h=>
  obtain ⟨w,ws,h1,h2,rfl⟩:=aO.1 h;obtain ⟨w',ws',h3,h4,rfl⟩:=aO.1 h2;simp only [nV,dE,SV.rel];exact ⟨_,h,rfl⟩
def Nj {m:Nat} {B:AS} (h:Gm gl E B F S):∀ {l:List (Nat×Nat)},QY m B l=true->∀ q∈l,q.1<m/\∃ ys,E.χ[q.1]? =some ys/\∀ v∈ys,Tp (.e q.2) v
 |[],_,q,hq=>by cases hq
 |(X,e)::r,hc,q,hq=>by
  simp only [QY,Aa] at hc;obtain ⟨⟨c1,c2⟩,c3⟩:=hc;rcases Ab.1 hq with rfl|hq
  ·refine ⟨dz.1 c1,?_⟩;rw [cR] at c2;split at c2
   ·rename_i li hli;obtain ⟨ys,h1,h2⟩:=h.ls X li hli;refine ⟨ys,h1,?_⟩;simp only [AI] at c2;rcases c2 with c2|c2
    ·have:=h2.el.e;rw [aq.1 c2] at this;exact this
    ·intro v hv;obtain ⟨j,hj,rfl⟩:=Bj.1 hv;exact kf h.fs h2.n h1 h.el c2 j _ (by omega) (by simp [hj])
   ·cases c2
  ·exact Nj h c3 q hq
def G3 {m n:Nat} {σ:aa->aa} {A:AS} {X e:Nat} {i:aa}:∀ {l:List (Nat×aa×Nat)},PU m n σ A l=true->(X,i,e)∈l->X<m/\dd n i.ts=true/\∃ x s,seen X (σ i) A.el=some (x,s)/\isAll A (kT x).length (Γ e) [x]=true
 |[],_,hq=>by cases hq
 |(Y,j,e')::r,hc,hq=>by
  simp only [PU,Aa] at hc;obtain ⟨⟨c1,c2,c3⟩,c4⟩:=hc;rcases Ab.1 hq with hq|hq
  ·cases hq;split at c3
   ·rename_i x s hx;exact ⟨dz.1 c1,c2,x,s,hx,c3⟩
   ·cases c3
  ·exact G3 c4 hq
def O2 {p q:List SV} {x:BE}:∀ {vs:List AV},aZ E (p++ .b x::q) vs->∃ t,x.is E.ρ t/\aZ E (p++ .b (.k t)::q) vs:=by
 induction p with
 |nil=>
  intro vs h;obtain ⟨w,ws,h1,h2,rfl⟩:=aO.1 h;simp only [SV.rel] at h1;obtain ⟨t,h3,rfl⟩:=h1;exact ⟨t,h3,aO.2 ⟨_,ws,by simp only [SV.rel];exact ⟨t,rfl,rfl⟩,h2,rfl⟩⟩
 |cons a p ih=>
  intro vs h;obtain ⟨w,ws,h1,h2,rfl⟩:=aO.1 h;obtain ⟨t,h3,h4⟩:=ih h2;exact ⟨t,h3,aO.2 ⟨w,ws,h1,h4,rfl⟩⟩
def GW {sg:az}:∀ {n:Nat} {B:AS} {xs:List SV} {vs:List AV},Gm gl E B F S->aZ E xs vs->Eo sg n B xs=true->∃ B' xs',Gm gl E B' F S/\aZ E xs' vs/\∃ alt∈sg.alts,Is (sg.st []) sg B' (nV xs') alt=true
 |0,B,xs,vs,h,hr,he=>by
  obtain ⟨alt,h1,h2⟩:=iy he;exact ⟨B,xs,h,hr,alt,h1,h2⟩
 |n+1,B,xs,vs,h,hr,he=>by
  unfold Eo at he;split at he
  ·rename_i he';obtain ⟨alt,h1,h2⟩:=iy he';exact ⟨B,xs,h,hr,alt,h1,h2⟩
  ·split at he
   ·rename_i p x q hs;rw [CZ hs] at hr;obtain ⟨t,h1,h2⟩:=O2 hr;obtain ⟨C,h3,h4⟩:=mV h h1;exact GW h4 h2 (DS he h3)
   ·cases he
def TM (hgn:ae gl) {f:FuncId} {n:Nat} {m:MC} {rv:List RV} (hf:aD P f n m rv) {sg:az} (hn:sg.ps.length<=n) {O:zJ} (hb:kt Tb O sg m rv=true) (hT:vp P gl Tb cv) {Es:En} {as:List AV} (hp:Nt sg Es as) (hcv:sg.me.is Es.ρ cv):
  ∃ r,Pure P gl f as (.ok r)/\∃ alt∈sg.alts,∃ Er,Ij sg Es alt Er r:=by
 simp only [kt,Aa] at hb;obtain ⟨hb1,hb2,hb3⟩:=hb;obtain ⟨cs,hcs,hb3⟩:=KA hb3 hp.pc;split at hb3
 ·rename_i os hos
  let E0:En:={Es with χ:=Es.χ.map fun xs=>xs.map AV.fg}
  have hF:J9 0 Es E0:=⟨rfl,fun X xs _ e=>by simp [E0,e]⟩
  have hls:∀ (X:Nat) li,sg.pl[X]? =some li->∃ xs,E0.χ[X]? =some xs/\gx E0 li xs:=fun X li e=>by
   obtain ⟨xs,h1,h2⟩:=hp.ls X li e;exact ⟨_,hF.χ X xs (Au _) h1,h2.fg hF⟩
  have hty:∀ (X:Nat) xs,0<=X->Es.χ[X]? =some xs->∃ k e,eC k e xs:=fun X xs _ e=>by
   have hX:=gH e;rw [hp.nl] at hX;obtain ⟨li,hli⟩:=aK hX;obtain ⟨ys,h1,h2⟩:=hp.ls X li hli;rw [e] at h1;cases h1;exact ⟨_,_,h2.el⟩
  have hG:Gm gl E0 (sg.st cs) (jx 0 (as.map AV.fg)) (.none gl):=by refine ⟨hp.nv,by simp [E0,az.st,hp.nl],by simp [E0,az.st,hp.θ],by simp [E0,az.st,hp.κ],hls,fun q hq=>(AD hq).elim,GJ (qj hF sg.ps hb1 hp.as),fun j cs e=>(by simp [az.st] at e),by simp [E0,hp.θ],fun l hl=>(by simp [E0,hp.θ] at hl),⟨fun j hj=>(AD hj).elim,fun j n e=>(by simp [E0,hp.κ] at e),fun i hi=>(AD hi).elim⟩,hcs.app hp.fs,rfl⟩
  have hrun:=je (n:=n) (R:=fun F S=>∃ B E1,E0.le E1/\Gm gl E1 B F S/\∃ kd,(kd,B)∈os/\(∀ i,kd≠ .ex i)) hgn hT m (k:=[]) (by exact hcv) hG hos fun kd B hB E1 F1 S1 hE hG1=>by
   cases kd with
   |nx=>exact il.of ⟨B,E1,hE,hG1,.nx,hB,fun i e=>by cases e⟩ fun Q hq=> .done hq
   |ex i=>
    have:=yN hb3 _ hB;cases this
   |rt=>exact ⟨B,E1,hE,hG1,.rt,hB,fun i e=>by cases e⟩
  obtain ⟨F1,S1,⟨B,E1,hE,hG1,kd,hB,hkd⟩,hrun⟩:=hrun;have hend:=yN hb3 _ hB
  have hend:(match FQ B rv with
   |some xs=>Eo sg 3 B xs
   |none=>false)=true:=by
   cases kd with
   |ex i=>exact absurd rfl (hkd i)
   |nx=>exact hend
   |rt=>exact hend
  split at hend
  ·rename_i xs hxs;obtain ⟨vs,v0,v2⟩:=MW hG1 hxs;obtain ⟨B,xs,hG1,v1,alt,halt,hab⟩:=GW hG1 v0 hend;unfold Is at hab;split at hab
   ·rename_i M hM;simp only [Aa] at hab;obtain ⟨c1,c2,c3,c4,c6,c7,c5⟩:=hab;have b0:Bd (sg.st []).cm E0 E1 ⟨B,[],[],[]⟩ E0:=⟨hE,hG.nv,hG.nl,hG.no,hG.nt,⟨[],by simp,rfl,fun i e h=>by cases h⟩,⟨[],by simp,rfl,fun i e h=>by cases h⟩,rfl,⟨[],by simp,rfl,fun i e h=>by cases h⟩⟩;obtain ⟨E2,Ep,g1,g2,g3,g4,g5,g6⟩:=(Jz (M:=⟨B,[],[],[]⟩) alt.r hG1 b0 (fun i li hi=>by simp at hi) (U5 v1) hM).h;have n1:Ep.ρ.length=alt.nv:=by rw [g4.len];exact aq.1 c1
    have n2:Ep.χ.length=sg.pl.length+alt.ls.length:=by rw [g4.Jd,aq.1 c2];rfl
    have n3:Ep.κ=[]:=by
     have:=g4.Jc;rw [aq.1 c3] at this;exact A2 this
    obtain ⟨ρr,hρr⟩:=g2.ρ;obtain ⟨χr,hχr⟩:=g2.χ
    let Er:En:=⟨Ep.ρ,Es.χ++χr.map fun xs=>xs.map AV.fg,[],[]⟩
    have hFr:J9 sg.pl.length Ep Er:=by
     refine ⟨rfl,fun X xs hX e=>?_⟩;rw [hχr,AG (by simp [E0,hp.nl];exact hX)] at e;show (Es.χ++_)[X]? =_;rw [AG (by rw [hp.nl];exact hX),Ap];rw [show E0.χ.length=Es.χ.length by simp [E0]] at e;rw [e];rfl
    have hlsE:∀ (i:Nat) li,alt.ls[i]? =some li->∃ xs,Ep.χ[sg.pl.length+i]? =some xs/\gx Ep li xs:=fun i li e=>by
     obtain ⟨xs,q1,q2⟩:=g5 i li (by rw [aq.1 c2];exact gH e) e;exact ⟨xs,q1,q2⟩
    have hr:=MH hFr alt.r c4 g6
    have hnr:al (dE vs).fg:=by
     refine (MJ (m:=sg.pl.length) (E:=Ep) (fun X xs hX e=>?_) alt.r c4 g6).1;have hlt:=gH e;rw [n2] at hlt;obtain ⟨li,hli⟩:=aK (show X-sg.pl.length<alt.ls.length by omega);obtain ⟨ys,q1,q2⟩:=hlsE _ li hli;rw [show sg.pl.length+(X-sg.pl.length)=X by omega,e] at q1;cases q1;exact ⟨_,_,q2.el⟩
    have hna:∀ a∈as.map AV.fg,al a:=fun a ha=>(qk hty sg.ps hb1 hp.as a ha).1;refine ⟨(dE vs).fg,⟨?_,hna,hnr⟩,alt,halt,Er,⟨⟨⟨ρr,hρr⟩,⟨_,rfl⟩,⟨[],by simp [Er,hp.θ]⟩,⟨[],by simp [Er,hp.κ]⟩⟩,n1,?_,rfl,rfl,fun i li e=>?_,hr,fun e he=>?_,fun q hq=>?_,fun q hq=>?_⟩⟩
    ·refine ao.oD (K':=fun o _=>o= .ok (dE vs)) (.aC hf ?_ (ah.post hrun ?_)) (fun r' S' h=>by injection h with h;rw [h]) (fun r' S' h=>by cases h)
     ·rw [Ad,bV hp.as];exact hn
     ·rintro e1 D1 F2 S2 ⟨rfl,rfl,rfl,hlk⟩;refine ⟨rfl,?_⟩;rw [v2 F2 hlk]
    ·show (Es.χ++_).length=_;have h1:=n2;rw [hχr,Ak] at h1;simp only [E0,Ad] at h1;rw [Ak,Ad];exact h1
    ·obtain ⟨xs,q1,q2⟩:=hlsE i li e;exact ⟨_,hFr.χ _ xs (by omega) q1,q2.fg hFr⟩
    ·have h3:=jV c5 e he;simp only [Aa] at h3;have h4:e.is Ep.ρ (e.val Ep.ρ):=⟨by rw [n1];exact h3.1,rfl⟩;exact ⟨_,h4,Ld g3.fs (eW g4 h4) h3.2⟩
    ·obtain ⟨X,e⟩:=q;obtain ⟨hX,ys,y1,y2⟩:=Nj hG1 c6 (X,e) hq;obtain ⟨xs,hxs⟩:=aK (show X<Es.χ.length by rw [hp.nl];exact hX);have h5:=hE.χg (hF.χ X xs (Au _) hxs);simp only at y1;rw [h5] at y1;cases y1;exact ⟨xs,hxs,fun v hv=>(y2 v.fg (BA hv)).abr v rfl⟩
    ·obtain ⟨X,i,e⟩:=q;obtain ⟨hX,hok,x,s0,hx,hall⟩:=G3 c7 hq;obtain ⟨xs,hxs⟩:=aK (show X<Es.χ.length by rw [hp.nl];exact hX);have h5:=g1.χg (hE.χg (hF.χ X xs (Au _) hxs));obtain ⟨ys,n,w,k1,k2,k3,k4,k5,_⟩:=g3.el _ (kg hx);rw [h5] at k1;cases k1;have h4:i.is Ep.ρ (i.val Ep.ρ):=⟨by rw [n1];exact hok,rfl⟩;have hni:=k2.uniq (eW g4 h4);have h6:=jM g3 rfl [x] hall (aO.2 ⟨w,[],k5,aU.2 rfl,rfl⟩);have hw:Tp (.e e) w:=h6.e w (by simp);rw [Ap,Ag] at k4;obtain ⟨v,hv,hvw⟩:=k4;exact ⟨xs,n,v,hxs,by rw [hni];exact h4,k3,hv,hw.abr v hvw⟩
   ·cases hab
  ·cases hend
 ·cases hb3
structure Fe where
 f:FuncId
 n:Nat
 m:MC
 rv:List RV
 sg:az
 O:zJ
def sZ:List Fe->kL
 |[]=>[]
 |e::es=>(e.f,(e.sg,true))::sZ es
def sv:List (Nat×az)->kL
 |[]=>[]
 |(f,sg)::es=>(f,(sg,false))::sv es
def mD (P:Program) (gl:List (Nat×List AV)):List (Nat×az)->Prop
 |[]=>True
 |(f,sg)::es=>Spec P gl f sg (fun _=>True)/\mD P gl es
def tD (P:Program) (Tb:kL):List Fe->Prop
 |[]=>True
 |e::es=>(aD P e.f e.n e.m e.rv/\(Nat.ble e.sg.ps.length e.n && kt Tb e.O e.sg e.m e.rv)=true)/\tD P Tb es
def Ly {α:Type} {t:Nat} {x:α}:∀ {l r:List (Nat×α)},lk t (l++r)=some x->lk t l=some x∨lk t r=some x
 |[],r,h=> .inr h
 |(u,y)::l,r,h=>by
  simp only [List.cons_append,lk] at h ⊢;split at h
  ·exact .inl h
  ·exact Ly h
def LA {f:Nat} {sg:az} {rc:Bool}:∀ {es:List Fe},lk f (sZ es)=some (sg,rc)->rc=true/\∃ e∈es,e.f=f/\e.sg=sg
 |[],h=>by cases h
 |e::es,h=>by
  simp only [sZ,lk] at h;split at h
  ·rename_i hu;cases h;exact ⟨rfl,e,by simp,(aq.1 hu).symm,rfl⟩
  ·obtain ⟨h1,e',h2,h3⟩:=LA h;exact ⟨h1,e',by simp [h2],h3⟩
def Lz {f:Nat} {sg:az} {rc:Bool}:∀ {es:List (Nat×az)},mD P gl es->lk f (sv es)=some (sg,rc)->Spec P gl f sg (fun _=>True)
 |[],_,h=>by cases h
 |(g,sg')::es,hE,h=>by
  simp only [sv,lk] at h;split at h
  ·rename_i hu;cases h;rw [aq.1 hu];exact hE.1
  ·exact Lz hE.2 h
def y6 {e:Fe}:∀ {es:List Fe},tD P Tb es->e∈es->aD P e.f e.n e.m e.rv/\(Nat.ble e.sg.ps.length e.n && kt Tb e.O e.sg e.m e.rv)=true
 |[],_,h=>by cases h
 |a::es,hE,h=>by
  rcases Ab.1 h with rfl|h
  ·exact hE.1
  ·exact y6 hE.2 h
def Lb (hgn:ae gl) (L:List Fe) (X:List (Nat×az)) (hX:mD P gl X) (hL:tD P (sZ L++sv X) L):∀ e∈L,Spec P gl e.f e.sg (fun _=>True):=by
 have key:∀ N:Nat,∀ e∈L,Spec P gl e.f e.sg (fun m=>m.toNat<N):=by
  intro N
  induction N with
  |zero=>
   intro e he Es as hp hm;obtain ⟨h1,h2⟩:=y6 hL he;simp only [Aa,kt] at h2;have:=hm (e.sg.me.val Es.ρ) ⟨by rw [hp.nv];exact h2.2.2.1,rfl⟩;exact absurd this (Cp _)
  |succ N ih=>
   intro e he Es as hp hm;obtain ⟨h1,h2⟩:=y6 hL he;simp only [Aa] at h2;have h3:=h2.2;simp only [Aa,kt] at h3;have hme:e.sg.me.is Es.ρ (e.sg.me.val Es.ρ):=⟨by rw [hp.nv];exact h3.2.1,rfl⟩;have hlt:=hm _ hme;refine TM hgn h1 (A6 h2.1) h2.2 (cv:=e.sg.me.val Es.ρ) ?_ hp hme;intro g sg rc hg;rcases Ly hg with hg|hg
   ·obtain ⟨hrc,e',k1,k2,k3⟩:=LA hg;subst k2 k3;intro Es' as' hp' hm';refine ih e' k1 Es' as' hp' fun m' hm2=>?_;have:=hm' m' hm2 hrc;omega
   ·intro Es' as' hp' hm';exact Lz hX hg Es' as' hp' fun _ _=>trivial
 intro e he Es as hp _;exact key ((e.sg.me.val Es.ρ).toNat+1) e he Es as hp fun m hm=>by rw [hm.2];omega
end
def mG {P:Program} {gl:List (Nat×List AV)} (hgn:ae gl) {f:FuncId} {n:Nat} {m:MC} {rv:List RV} {sg:az} {X:List (Nat×az)} (O:zJ) (hX:mD P gl X) (h1:aD P f n m rv) (h2:(Nat.ble sg.ps.length n && kt (sZ [⟨f,n,m,rv,sg,O⟩]++sv X) O sg m rv)=true):Spec P gl f sg (fun _=>True):=Lb hgn [⟨f,n,m,rv,sg,O⟩] X hX ⟨⟨h1,h2⟩,trivial⟩ _ (.head _)
def ay {P : Program} {gl : List (Nat × List AV)} (hgn : ae gl) {f : FuncId} {sg : az} {X : List (Nat × az)} {fn : Func} (O : zJ) (hX : mD P gl X) (n : Nat) (m : MC) (rv : List RV) (hf : P.funcs[f]? = some fn) (h : ((fn.name != "runtime.NumGoroutine" && xm P n m rv fn) && (Nat.ble sg.ps.length n && kt (sZ [⟨f,n,m,rv,sg,O⟩] ++ sv X) O sg m rv)) = true) : Spec P gl f sg (fun _ => True) := by
 rw [Aa] at h;exact mG hgn O hX (.o2 hf h.1) h.2
def xn {P:Program} {gl:List (Nat×List AV)}:mD P gl []:=trivial
def xc {P:Program} {gl:List (Nat×List AV)} {f:Nat} {sg:az} {X:List (Nat×az)} (h:Spec P gl f sg (fun _=>True)) (hX:mD P gl X):mD P gl ((f,sg)::X):=⟨h,hX⟩
end Go.Proofs.YtoopnalhhfmgaaaGreatDoor
namespace Go.Proofs.YtoopnalhhfmgaaaGreatDoor
open Go Go.V
inductive Tm where
 |v (t i:Nat)
 |o (j i:Nat)
 |v0 (t i:Nat)
 |o0 (j i:Nat)
 |z (n:Nat)
 |s (t i:Nat)
 |s0 (t i:Nat)
 |so (j i:Nat)
 |so0 (j i:Nat)
structure Fa where
 c:Int
 ts:List (Int×Tm)
structure An where
 p:Nat
 md:List Nat
 mo:List (Nat×List Nat)
 dr:List Nat
 ty:List (Nat×Nat)
 nt:List Nat
 fs:List Fa
 me:Fa
 pe:List (Tm×Nat×Fa)
 ze:List (Tm×Fa)
structure rQ where
 dn:Nat
 pl:List LI
 dt:Nat
 nf:List aa
def gnS (A B:AS) (ty:List (Nat×Nat)) (nk:List Nat) (key:Nat) (b:rQ):SV->Option (SV×rQ)
 | .i k _=>some (.i k (.var (A.nv+b.dn)),{b with dn:=b.dn+1})
 | .b _=>let v:=aa.var (A.nv+b.dn)
  some (.b (.eq (v.aG (-1))),{b with dn:=b.dn+1,nf:=v::(v.bG (-1)).aG 1::b.nf})
 | .s _=>let v:=aa.var (A.nv+b.dn)
  some (.s v,{b with dn:=b.dn+1,nf:=v::b.nf})
 | .c (.str _)=>let v:=aa.var (A.nv+b.dn)
  some (.s v,{b with dn:=b.dn+1,nf:=v::b.nf})
 | .l k X t=>(match nth B.ls X with
  |some li=>let t:=if gz key nk then 0 else t
   let v:=aa.var (A.nv+b.dn)
   some (.l k (A.ls.length+b.pl.length) (if Nat.beq t 0 then 0 else A.nt+b.dt+2),{dn:=b.dn+2,pl:=b.pl++[⟨k,li.e,v,.var (A.nv+b.dn+1)⟩],dt:=if Nat.beq t 0 then b.dt else b.dt+1,nf:=v:: .var (A.nv+b.dn+1)::b.nf})
  |none=>none)
 | .lit k _ t=>(match lk key ty with
  |some e=>let t:=if gz key nk then 0 else t
   let v:=aa.var (A.nv+b.dn)
   some (.l k (A.ls.length+b.pl.length) (if Nat.beq t 0 then 0 else A.nt+b.dt+2),{dn:=b.dn+2,pl:=b.pl++[⟨k,e,v,.var (A.nv+b.dn+1)⟩],dt:=if Nat.beq t 0 then b.dt else b.dt+1,nf:=v:: .var (A.nv+b.dn+1)::b.nf})
  |none=>none)
 |_=>none
def N8 (A B:AS) (ty:List (Nat×Nat)) (nk:List Nat) (md:Option (List Nat)) (key i:Nat) (b:rQ):List SV->Option (List SV×rQ)
 |[]=>some ([],b)
 |x::xs=>match (if (match md with
   |some l=>gz i l
   |none=>true) then gnS A B ty nk (key+i) b x else some (x,b)) with
  |some (y,b1)=>(match N8 A B ty nk md key (i+1) b1 xs with
   |some (ys,b2)=>some (y::ys,b2)
   |none=>none)
  |none=>none
def gnV (A B:AS) (ty:List (Nat×Nat)) (nk:List Nat) (key:Nat) (b:rQ):SV->Option (SV×rQ)
 | .a xs=>(match N8 A B ty nk none key 0 b xs with
  |some (ys,b1)=>some (.a ys,b1)
  |none=>none)
 |x=>gnS A B ty nk key b x
def smS (A:AS) (b:rQ):SV->SV×rQ
 | .l k X (_+2)=>(.l k X (A.nt+b.dt+2),{b with dt:=b.dt+1})
 | .l k X _=>(.l k X 0,b)
 | .lit k xs (_+2)=>(.lit k xs (A.nt+b.dt+2),{b with dt:=b.dt+1})
 |x=>(x,b)
def Xj (A B:AS) (an:An) (b:rQ):List (Nat×SV)->Option (List (Nat×SV)×rQ)
 |[]=>some ([],b)
 |(t,x)::r=>if gz t an.dr then Xj A B an b r else match (if gz t an.md then gnV A B an.ty an.nt (64*t) b x else some (smS A b x)) with
  |some (y,b1)=>(match Xj A B an b1 r with
   |some (ys,b2)=>some ((t,y)::ys,b2)
   |none=>none)
  |none=>none
def gnO (A B:AS) (an:An) (j:Nat) (b:rQ):List (List SV)->Option (List (List SV)×rQ)
 |[]=>some ([],b)
 |x::xs=>match (match lk j an.mo with
   |some l=>N8 A B an.ty an.nt (some l) (64*(1000+j)) 0 b x
   |none=>some (x,b)) with
  |some (y,b1)=>(match gnO A B an (j+1) b1 xs with
   |some (ys,b2)=>some (y::ys,b2)
   |none=>none)
  |none=>none
def aav (ls:List LI):SV->Option aa
 | .i _ e=>some e
 | .l _ X _=>(match nth ls X with
  |some li=>some li.n
  |none=>none)
 | .lit _ xs _=>some (.aY (xs.length:Nat))
 | .b (.eq e)=>some (e.aG 1)
 |x=>kC x
def JF (ls:List LI) (i:Nat) (x:SV):Option aa:=
 match x with
 | .a xs=>(match nth xs i with
  |some y=>aav ls y
  |none=>none)
 |x=>aav ls x
def JX (ls:List LI) (i:Nat) (x:SV):Option aa:=
 match (match x with
  | .a xs=>nth xs i
  |x=>some x) with
 |some (.l _ X _)=>(match nth ls X with
  |some li=>some li.z
  |none=>none)
 |some (.lit k xs _)=>some (nY ls xs)
 |_=>none
def tmL (A T:AS):Tm->Option aa
 | .v t i=>(match lk t T.fr with
  |some x=>JF T.ls i x
  |none=>none)
 | .o j i=>(match nth T.ob j with
  |some cs=>JF T.ls i (.a cs)
  |none=>none)
 | .s t i=>(match lk t T.fr with
  |some x=>JX T.ls i x
  |none=>none)
 | .s0 t i=>(match lk t A.fr with
  |some x=>JX A.ls i x
  |none=>none)
 | .so j i=>(match nth T.ob j with
  |some cs=>JX T.ls i (.a cs)
  |none=>none)
 | .so0 j i=>(match nth A.ob j with
  |some cs=>JX A.ls i (.a cs)
  |none=>none)
 | .z n=>(match nth T.el n with
  |some (.z _ _ w)=>some w
  |_=>none)
 | .v0 t i=>(match lk t A.fr with
  |some x=>JF A.ls i x
  |none=>none)
 | .o0 j i=>(match nth A.ob j with
  |some cs=>JF A.ls i (.a cs)
  |none=>none)
def K3 (A T:AS) (c:Int):List (Int×Tm)->Option aa
 |[]=>some (.aY c)
 |(a,t)::r=>match tmL A T t,K3 A T c r with
  |some e,some f=>some ((e.bG a).add f)
  |_,_=>none
def NT (A T:AS):List Fa->List aa
 |[]=>[]
 |f::r=>match K3 A T f.c f.ts with
  |some e=>e::NT A T r
  |none=>NT A T r
def takeN {α:Type}:Nat->List α->List α
 |0,_=>[]
 |_,[]=>[]
 |n+1,x::xs=>x::takeN n xs
def XP (i:Nat):SV->Option Nat
 | .a xs=>(match nth xs i with
  |some (.l _ X _)=>some X
  |_=>none)
 | .l _ X _=>some X
 |_=>none
def tmX (A:AS):Tm->Option Nat
 | .v t i| .v0 t i=>(match lk t A.fr with
  |some x=>XP i x
  |none=>none)
 | .o j i| .o0 j i=>(match nth A.ob j with
  |some cs=>XP i (.a cs)
  |none=>none)
 |_=>none
def OT (A T:AS):List (Tm×Nat×Fa)->List (Nat×Nat×aa)
 |[]=>[]
 |(t,e,f)::r=>match tmX A t,K3 A T f.c f.ts with
  |some X,some b=>(X,e,b)::OT A T r
  |_,_=>OT A T r
def PC (A T:AS):List (Tm×Fa)->List (Nat×aa)
 |[]=>[]
 |(t,f)::r=>match tmX A t,K3 A T f.c f.ts with
  |some X,some b=>(X,b)::PC A T r
  |_,_=>PC A T r
def mkQ (A B:AS) (an:An):Option Tq:=
 match Xj A B an ⟨0,[],0,[]⟩ B.fr with
 |some (fr,b1)=>(match gnO A B an 0 b1 (takeN A.ob.length B.ob) with
  |some (ob,b2)=>
   let q:Tq:=⟨b2.dn,b2.pl,b2.dt,ob,fr,b2.nf,[],[]⟩
   let q:={q with ze:=PC A (A.tm q) an.ze}
   some {q with nf:=NT A (A.tm q) an.fs++b2.nf,pe:=OT A (A.tm q) an.pe}
  |none=>none)
 |none=>none
def aaa (l:List An) (p:Nat) (A:AS):Option (Tq×aa):=
 match l with
 |[]=>none
 |an::r=>if Nat.beq an.p p then (match mkQ A A an with
  |some q=>(match K3 A (A.tm q) an.me.c an.me.ts with
   |some me=>some (q,me)
   |none=>none)
  |none=>none) else aaa r p A
def Z9 (l:List An) (p:Nat) (A:AS) (Bs:List AS):Option Tq:=
 match l with
 |[]=>none
 |an::r=>if Nat.beq an.p p then (match Bs with
  |B::_=>mkQ A B an
  |[]=>none) else Z9 r p A Bs
inductive PT where
 |c (c:CT)
 |a (cs:List CT)
structure Ps where
 n:Nat
 m:Nat
 ls:List LI
 fs:List aa
def ge (v:Nat):aa:=⟨0,[(v,1)]⟩
def le (v:Nat) (n:Int):aa:=⟨n,[(v,-1)]⟩
def sF (e:Nat):Bool:=gz e [3,26,32,103,139,141,252,1032] && !uV e
def jt (lim:Int) (s:Ps):CT->SV×Ps
 | .i .u8=>(.i .u8 (.var s.n),{s with n:=s.n+1,fs:=ge s.n::le s.n 255::s.fs})
 | .i k=>(.i k (.var s.n),{s with n:=s.n+1})
 | .b=>(.b (.eq ((aa.var s.n).aG (-1))),{s with n:=s.n+1,fs:=ge s.n::le s.n 1::s.fs})
 | .s=>(.s (.var s.n),{s with n:=s.n+1,fs:=ge s.n::le s.n lim::s.fs})
 | .l k e=>(.l k s.m 0,⟨s.n+2,s.m+1,s.ls++[⟨k,e,.var s.n,.var (s.n+1)⟩],ge s.n::ge (s.n+1)::le s.n lim::(if sF e then le (s.n+1) 16777216::s.fs else s.fs)⟩)
def mn (lim:Int) (s:Ps):List CT->List SV×Ps
 |[]=>([],s)
 |c::cs=>match jt lim s c with
  |(x,s1)=>match mn lim s1 cs with
   |(xs,s2)=>(x::xs,s2)
def mC (lim:Int) (s:Ps):PT->SV×Ps
 | .c c=>jt lim s c
 | .a cs=>match mn lim s cs with
  |(xs,s1)=>(.a xs,s1)
def cZ (lim:Int) (s:Ps):List PT->List SV×Ps
 |[]=>([],s)
 |c::cs=>match mC lim s c with
  |(x,s1)=>match cZ lim s1 cs with
   |(xs,s2)=>(x::xs,s2)
def bx (ps rs:List PT) (lim out:Int) (me:aa) (ef ea:List aa):az:=
 match cZ lim ⟨0,0,[],[]⟩ ps with
 |(xs,s)=>match cZ out ⟨s.n,s.m,[],[]⟩ rs with
  |(ys,t)=>⟨s.n,s.ls,xs,ef++s.fs,me,[⟨t.n,t.ls,nV ys,ea++t.fs,[],[]⟩],[]⟩
abbrev tE:PT:= .a [.i .i64,.s,.s,.s,.i .i64,.i .i64,.s,.l 2 252,.i .i64,.i .i64,.i .i64,.l 12 32]
abbrev tC:PT:= .a [.l 4 80,.l 18 84,.l 18 84,.l 18 84]
abbrev tF:PT:= .a [.s,.s,.i .i64,.l 2 252,.s,.i .i64,.s,.s,.s,.i .i64,.i .i64,.s,.l 2 252,.i .i64,.i .i64,.i .i64,.l 12 32,.i .i64]
abbrev tH:PT:= .a [.i .i64,.s,.s,.l 4 103,.i .i64,.s,.s,.i .i64,.l 2 252,.s,.i .i64,.s,.s,.s,.i .i64,.i .i64,.s,.l 2 252,.i .i64,.i .i64,.i .i64,.l 12 32,.i .i64,.s]
abbrev tV:PT:= .a [.i .i64,.i .i64,.s]
abbrev tT:PT:= .a [.i .i64,.l 2 252,.s]
abbrev tW:PT:= .a [.i .i64,.i .u64]
abbrev tX:PT:= .a [.i .i64,.s,.s,.s,.i .i64,.i .i64,.s,.l 2 252,.i .i64,.i .i64,.i .i64,.l 12 1032]
abbrev bA (ps rs:List PT):az:=bx ps rs 1048576 1048576 (.aY 0) [] []
def okx (sg:az) (v:Nat) (fs:List aa) (up:List (Nat×Nat)) (ex:List (Nat×aa×Nat)):az:=
 {sg with alts:=match sg.alts with
  |[a]=>[{a with fs:=fs++a.fs,up:=up,ex:=ex},{a with fs:=⟨-1,[(v,1)]⟩::a.fs}]
  |l=>l}
def QI (vs:List Nat):List aa->List aa
 |[]=>[]
 |f::r=>if kQ (fun v=>f.beq (le v 16777216)) vs then QI vs r else f::QI vs r
def Md (vs:List Nat) (g:az):az:={g with pf:=QI vs g.pf,alts:=g.alts.map fun a=>{a with fs:=QI vs a.fs}}
def aJ (l j:List An):zJ:=⟨aaa l,Z9 j⟩
end Go.Proofs.YtoopnalhhfmgaaaGreatDoor
namespace Go.Proofs.YtoopnalhhfmgaaaGreatDoor
open Go Go.V
def ju (lim:Int):CT->AV->Prop
 | .i k,v=>∃ n,v= .int k n/\U8 k n
 | .b,v=>∃ t,v= .bool t
 | .s,v=>∃ s:Bytes,v= .str s/\((s.length:Nat):Int)<=lim
 | .l k e,v=>∃ xs t,v= .sl k xs t/\eC k e xs/\((xs.length:Nat):Int)<=lim/\(sF e=true->bg xs<=16777216)
def kj (lim:Int):List CT->List AV->Prop
 |[],vs=>vs=[]
 |c::cs,vs=>∃ w ws,vs=w::ws/\ju lim c w/\kj lim cs ws
def jw (lim:Int):PT->AV->Prop
 | .c c,v=>ju lim c v
 | .a cs,v=>∃ vs,v= .agg vs/\kj lim cs vs
def cW (lim:Int):List PT->List AV->Prop
 |[],vs=>vs=[]
 |p::ps,vs=>∃ w ws,vs=w::ws/\jw lim p w/\cW lim ps ws
def mA:AV->List Int
 | .int _ n=>[n]
 | .bool t=>[if t then 1 else 0]
 | .str s=>[((s.length:Nat):Int)]
 | .sl _ xs _=>[((xs.length:Nat):Int),((bg xs:Nat):Int)]
 |_=>[]
def xA:AV->List (List AV)
 | .sl _ xs _=>[xs]
 |_=>[]
def mj:List AV->List Int
 |[]=>[]
 |v::vs=>mA v++mj vs
def vR:List AV->List (List AV)
 |[]=>[]
 |v::vs=>xA v++vR vs
def sT:AV->List Int
 | .agg vs=>mj vs
 |v=>mA v
def LC:AV->List (List AV)
 | .agg vs=>vR vs
 |v=>xA v
def eO:List AV->List Int
 |[]=>[]
 |v::vs=>sT v++eO vs
def nK:List AV->List (List AV)
 |[]=>[]
 |v::vs=>LC v++nK vs
def En.ext (E:En) (ns:List Int) (xs:List (List AV)):En:={E with ρ:=E.ρ++ns,χ:=E.χ++xs}
def En.sJ (E:En) (ns:List Int) (xs:List (List AV)):E.le (E.ext ns xs):=⟨⟨ns,rfl⟩,⟨xs,rfl⟩,⟨[],by simp [En.ext]⟩,⟨[],by simp [En.ext]⟩⟩
def En.tY (E:En) (a b:List Int) (x y:List (List AV)):(E.ext a x).ext b y=E.ext (a++b) (x++y):=by simp [En.ext]
def mH {ρ:List Int} {v:Nat} {x:Int} (h:ρ[v]? =some x):(ge v).is ρ x:=aa.iR h
def jJ {ρ:List Int} {v:Nat} {x:Int} (h:ρ[v]? =some x) (n:Int):(le v n).is ρ (n-x):=by
 have:=((aa.iR h).bG (-1)).aG n;have e1:((aa.var v).bG (-1)).aG n=le v n:=by simp [aa.var,aa.bG,aa.aG,le,th,show rX (-1) 1=false from rfl,show rX (-1) 0=false from rfl]
 rw [e1] at this;have e2:(-1:Int)*x+n=n-x:=by omega
 rw [e2] at this;exact this
structure rT (m0:Nat) (s:Ps) (E:En):Prop where
 nv:E.ρ.length=s.n
 nl:E.χ.length=s.m
 len:s.m=m0+s.ls.length
 ls:∀ (X:Nat) li,s.ls[X]? =some li->∃ xs,E.χ[m0+X]? =some xs/\gx E li xs
 fs:aH E.ρ s.fs
section
variable {lim:Int} {m0:Nat} {s:Ps} {E:En}
def Kt {ρ ns:List Int} {n:Nat} (h:ρ.length=n) (i:Nat):(ρ++ns)[n+i]? =ns[i]? :=by
 rw [AG (by omega),h]
 congr 1
 omega
def rT.put (h:rT m0 s E) {ns:List Int} {fs:List aa} {n:Nat} (hn:n=s.n+ns.length) (hf:aH (E.ρ++ns) fs):rT m0 {s with n:=n,fs:=fs++s.fs} (E.ext ns []):=by
 have hE:=E.sJ ns [];refine ⟨by simp [En.ext,h.nv,hn],by simp [En.ext,h.nl],h.len,fun X li e=>?_,fun f hm=>?_⟩
 ·obtain ⟨xs,h1,h2⟩:=h.ls X li e;exact ⟨xs,hE.χg h1,h2.le hE⟩
 ·rcases AA.1 hm with hm|hm
  ·exact hf f hm
  ·obtain ⟨x,h1,h2⟩:=h.fs f hm;exact ⟨x,h1.mono,h2⟩
def MA (h:rT m0 s E) {c:CT} {v:AV} (hv:ju lim c v):rT m0 (jt lim s c).2 (E.ext (mA v) (xA v))/\(jt lim s c).1.rel (E.ext (mA v) (xA v)) v:=by
 have a0:∀ {x:Int} {ns:List Int},(E.ρ++(x::ns))[s.n]? =some x:=fun {x ns}=>by
  have:=Kt (ns:=x::ns) h.nv 0;simpa using this
 cases c with
 |i k=>
  obtain ⟨n,rfl,hu⟩:=hv
  have hr:(SV.i k (.var s.n)).rel (E.ext (mA (.int k n)) (xA (.int k n))) (.int k n):=by
   simp only [SV.rel];exact ⟨n,aa.iR a0,hu,rfl⟩
  cases k<;>first
   |exact ⟨h.put (fs:=[]) rfl (aH.nil _),hr⟩
   |(have hu:=hu.b
     refine ⟨h.put (fs:=[ge s.n,le s.n 255]) rfl ?_,hr⟩
     exact ((aH.nil _).cons (jJ a0 255) (by omega)).cons (mH a0) (by omega))
 |b=>
  obtain ⟨t,rfl⟩:=hv;refine ⟨h.put (fs:=[ge s.n,le s.n 1]) rfl ?_,?_⟩
  ·exact ((aH.nil _).cons (jJ a0 1) (by split<;>omega)).cons (mH a0) (by split<;>omega)
  ·show (SV.b (.eq ((aa.var s.n).aG (-1)))).rel _ _;simp only [SV.rel,BE.is];refine ⟨t,⟨_,(aa.iR a0).aG (-1),?_⟩,rfl⟩;cases t<;>simp
 |s=>
  obtain ⟨t,rfl,hl⟩:=hv;refine ⟨h.put (fs:=[ge s.n,le s.n lim]) rfl ?_,?_⟩
  ·exact ((aH.nil _).cons (jJ a0 lim) (by omega)).cons (mH a0) (by omega)
  ·show (SV.s (.var s.n)).rel _ _;simp only [SV.rel];exact ⟨t,aa.iR a0,rfl⟩
 |l k e=>
  obtain ⟨xs,t,rfl,h1,h2,h3⟩:=hv
  have a1:(E.ρ++[((xs.length:Nat):Int),((bg xs:Nat):Int)])[s.n+1]? =some ((bg xs:Nat):Int):=by
   have:=Kt (ns:=[((xs.length:Nat):Int),((bg xs:Nat):Int)]) h.nv 1;simpa using this
  have hE:=E.sJ (mA (.sl k xs t)) (xA (.sl k xs t))
  have hx:(E.ext (mA (.sl k xs t)) (xA (.sl k xs t))).χ[s.m]? =some xs:=by
   show (E.χ++[xs])[s.m]? =_;rw [<-h.nl];simp
  refine ⟨⟨?_,?_,?_,fun X li hli=>?_,?_⟩,?_⟩
  ·show (E.ρ++[_,_]).length=s.n+2;simp [h.nv]
  ·show (E.χ++[xs]).length=s.m+1;simp [h.nl]
  ·show s.m+1=m0+(s.ls++[_]).length;simp [h.len];omega
  ·have hli:(s.ls++[(⟨k,e,.var s.n,.var (s.n+1)⟩:LI)])[X]? =some li:=hli;rcases iP hli with hli|⟨rfl,rfl⟩
   ·obtain ⟨ys,h4,h5⟩:=h.ls X li hli;exact ⟨ys,hE.χg h4,h5.le hE⟩
   ·rw [<-h.len];exact ⟨xs,hx,h1,aa.iR a0,_,aa.iR a1,Ax _⟩
  ·show aH (E.ρ++[((xs.length:Nat):Int),((bg xs:Nat):Int)]) (ge s.n::ge (s.n+1)::le s.n lim::(if sF e then le (s.n+1) 16777216::s.fs else s.fs));have h0:aH (E.ρ++[((xs.length:Nat):Int),((bg xs:Nat):Int)]) s.fs:=h.fs.mono;refine aH.cons (aH.cons (aH.cons ?_ (jJ a0 lim) (by omega)) (mH a1) (by omega)) (mH a0) (by omega);split
   ·rename_i hi;have:=h3 hi;exact h0.cons (jJ a1 16777216) (by omega)
   ·exact h0
  ·show (SV.l k s.m 0).rel _ _;simp only [SV.rel];exact ⟨xs,t,hx,trivial,rfl⟩
def HE:∀ {cs:List CT} {vs:List AV} {s:Ps} {E:En},rT m0 s E->kj lim cs vs->rT m0 (mn lim s cs).2 (E.ext (mj vs) (vR vs))/\aZ (E.ext (mj vs) (vR vs)) (mn lim s cs).1 vs
 |[],vs,s,E,h,hv=>by
  cases hv;refine ⟨?_,rfl⟩;have:E.ext (mj []) (vR [])=E:=by simp [En.ext,mj,vR]
  rw [this];exact h
 |c::cs,vs,s,E,h,hv=>by
  obtain ⟨w,ws,rfl,h1,h2⟩:=hv;obtain ⟨h3,h4⟩:=MA h h1;obtain ⟨h5,h6⟩:=HE h3 h2;rw [En.tY] at h5 h6;refine ⟨h5,?_⟩;have hE:=(E.ext (mA w) (xA w)).sJ (mj ws) (vR ws);rw [En.tY] at hE;exact aO.2 ⟨w,ws,h4.le hE,h6,rfl⟩
def zP {c:CT} {v:AV} (h:ju lim c v):sT v=mA v/\LC v=xA v:=by
 cases c<;>simp only [ju] at h
 ·obtain ⟨_,rfl,_⟩:=h;exact ⟨rfl,rfl⟩
 ·obtain ⟨_,rfl⟩:=h;exact ⟨rfl,rfl⟩
 ·obtain ⟨_,rfl,_⟩:=h;exact ⟨rfl,rfl⟩
 ·obtain ⟨_,_,rfl,_⟩:=h;exact ⟨rfl,rfl⟩
def aaJ (h:rT m0 s E) {p:PT} {v:AV} (hv:jw lim p v):rT m0 (mC lim s p).2 (E.ext (sT v) (LC v))/\(mC lim s p).1.rel (E.ext (sT v) (LC v)) v:=by
 cases p with
 |c c=>
  obtain ⟨h1,h2⟩:=zP (c:=c) hv;rw [h1,h2];exact MA h hv
 |a cs=>
  obtain ⟨vs,rfl,h1⟩:=hv;obtain ⟨h2,h3⟩:=HE h h1;refine ⟨h2,?_⟩;show (SV.a (mn lim s cs).1).rel _ _;simp only [SV.rel];exact ⟨vs,h3,rfl⟩
def uA:∀ {ps:List PT} {vs:List AV} {s:Ps} {E:En},rT m0 s E->cW lim ps vs->rT m0 (cZ lim s ps).2 (E.ext (eO vs) (nK vs))/\aZ (E.ext (eO vs) (nK vs)) (cZ lim s ps).1 vs
 |[],vs,s,E,h,hv=>by
  cases hv;refine ⟨?_,rfl⟩;have:E.ext (eO []) (nK [])=E:=by simp [En.ext,eO,nK]
  rw [this];exact h
 |c::cs,vs,s,E,h,hv=>by
  obtain ⟨w,ws,rfl,h1,h2⟩:=hv;obtain ⟨h3,h4⟩:=aaJ h h1;obtain ⟨h5,h6⟩:=uA h3 h2;rw [En.tY] at h5 h6;refine ⟨h5,?_⟩;have hE:=(E.ext (sT w) (LC w)).sJ (eO ws) (nK ws);rw [En.tY] at hE;exact aO.2 ⟨w,ws,h4.le hE,h6,rfl⟩
def qu (ρ:List Int) (n:Nat):AV->Prop
 | .int _ x=>ρ[n]? =some x
 | .bool t=>ρ[n]? =some (if t then 1 else 0)
 | .str s=>ρ[n]? =some ((s.length:Nat):Int)
 | .sl _ xs _=>ρ[n]? =some ((xs.length:Nat):Int)/\∃ z:Int,ρ[n+1]? =some z/\((bg xs:Nat):Int)<=z
 |_=>True
def qv (ρ:List Int) (n:Nat):List AV->Prop
 |[]=>True
 |v::vs=>qu ρ n v/\qv ρ (n+(mA v).length) vs
def yI (ρ:List Int) (n:Nat):AV->Prop
 | .agg vs=>qv ρ n vs
 |v=>qu ρ n v
def oe (ρ:List Int) (n:Nat):List AV->Prop
 |[]=>True
 |v::vs=>yI ρ n v/\oe ρ (n+(sT v).length) vs
structure Ps.le (s t:Ps):Prop where
 ls:∃ r,t.ls=s.ls++r/\t.m=s.m+r.length
 fs:∀ f∈s.fs,f∈t.fs
def Ps.le.refl (s:Ps):s.le s:=⟨⟨[],by simp⟩,fun _ h=>h⟩
def Ps.le.trans {s t u:Ps} (h:s.le t) (h2:t.le u):s.le u:=by
 obtain ⟨⟨r,a,b⟩,c⟩:=h;obtain ⟨⟨r2,a2,b2⟩,c2⟩:=h2;exact ⟨⟨r++r2,by rw [a2,a,AL],by rw [b2,b,Ak,A4]⟩,fun f hf=>c2 f (c f hf)⟩
def My (s:Ps) (c:CT):s.le (jt lim s c).2:=by
 cases c with
 |i k=>cases k<;>exact ⟨⟨[],by simp [jt]⟩,fun f hf=>by simp [jt,hf]⟩
 |b=>exact ⟨⟨[],by simp [jt]⟩,fun f hf=>by simp [jt,hf]⟩
 |s=>exact ⟨⟨[],by simp [jt]⟩,fun f hf=>by simp [jt,hf]⟩
 |l k e=>exact ⟨⟨[_],rfl,rfl⟩,fun f hf=>by simp only [jt];split<;>simp [hf]⟩
def zq:∀ (cs:List CT) (s:Ps),s.le (mn lim s cs).2
 |[],s=> .refl s
 |c::cs,s=>(My s c).trans (zq cs _)
def aaH (s:Ps) (p:PT):s.le (mC lim s p).2:=by
 cases p with
 |c c=>exact My s c
 |a cs=>exact zq cs s
def HF:∀ (ps:List PT) (s:Ps),s.le (cZ lim s ps).2
 |[],s=> .refl s
 |p::ps,s=>(aaH s p).trans (HF ps _)
structure wz (m0:Nat) (t:Ps) (E:En):Prop where
 ls:∀ (X:Nat) li,t.ls[X]? =some li->∃ xs,E.χ[m0+X]? =some xs/\gx E li xs
 fs:aH E.ρ t.fs
def wz.mono {t u:Ps} (h:wz m0 u E) (hl:t.le u):wz m0 t E:=by
 obtain ⟨⟨r,a,_⟩,c⟩:=hl;exact ⟨fun X li e=>h.ls X li (by rw [a];exact gh e),fun f hf=>h.fs f (c f hf)⟩
def qt {ρ:List Int} {v:Nat} {x:Int} (h:(aa.var v).is ρ x):ρ[v]? =some x:=by
 obtain ⟨h1,h2⟩:=h;simp only [aa.var,dd,BS] at h1;have hv:v<ρ.length:=dz.1 h1;rw [AJ hv];simp only [aa.val,aa.var,cb,vr,AJ hv,Option.getD_some] at h2
 congr 1
 omega
def Dn {ρ:List Int} {v:Nat} {n x:Int} {fs:List aa} (hf:aH ρ fs) (hm:le v n∈fs) (h:ρ[v]? =some x):x<=n:=by
 obtain ⟨y,h1,h2⟩:=hf _ hm;have:=h1.uniq (jJ h n);omega
def ac3 {ρ:List Int} {v:Nat} {x:Int} {fs:List aa} (hf:aH ρ fs) (hm:ge v∈fs) (h:ρ[v]? =some x):0<=x:=by
 obtain ⟨y,h1,h2⟩:=hf _ hm;have:=h1.uniq (mH h);omega
def Mz {c:CT} {v:AV} (hl:s.m=m0+s.ls.length) (h:wz m0 (jt lim s c).2 E) (hr:(jt lim s c).1.rel E v):ju lim c v/\qu E.ρ s.n v/\(jt lim s c).2.n=s.n+(mA v).length/\(jt lim s c).2.m=m0+(jt lim s c).2.ls.length:=by
 cases c with
 |i k=>
  have e:(jt lim s (.i k)).1= .i k (.var s.n)/\(jt lim s (.i k)).2.n=s.n+1/\(jt lim s (.i k)).2.m=s.m/\(jt lim s (.i k)).2.ls=s.ls:=by cases k<;>exact ⟨rfl,rfl,rfl,rfl⟩
  rw [e.1] at hr;simp only [SV.rel] at hr;obtain ⟨n,h1,h2,rfl⟩:=hr;refine ⟨⟨n,rfl,h2⟩,qt h1,by rw [e.2.1];rfl,by rw [e.2.2.1,e.2.2.2];exact hl⟩
 |b=>
  have hr:(SV.b (.eq ((aa.var s.n).aG (-1)))).rel E v:=hr;simp only [SV.rel,BE.is] at hr;obtain ⟨t,⟨x,h1,rfl⟩,rfl⟩:=hr
  have h2:(aa.var s.n).is E.ρ (x+1):=by
   have:=h1.aG 1;simpa [aa.aG,aa.var] using this
  have h3:=qt h2;have g1:=ac3 h.fs (show ge s.n∈ge s.n::le s.n 1::s.fs by simp) h3;have g2:=Dn h.fs (show le s.n 1∈ge s.n::le s.n 1::s.fs by simp) h3;refine ⟨⟨_,rfl⟩,?_,rfl,hl⟩;simp only [qu,decide_eq_true_eq];rw [h3]
  congr 1
  split<;>omega
 |s=>
  have hr:(SV.s (.var s.n)).rel E v:=hr;simp only [SV.rel] at hr;obtain ⟨t,h1,rfl⟩:=hr;have h3:=qt h1;have g2:=Dn h.fs (show le s.n lim∈ge s.n::le s.n lim::s.fs by simp) h3;exact ⟨⟨t,rfl,g2⟩,h3,rfl,hl⟩
 |l k e=>
  have hr:(SV.l k s.m 0).rel E v:=hr;simp only [SV.rel] at hr;obtain ⟨xs,t,h1,_,rfl⟩:=hr;obtain ⟨ys,h2,h3⟩:=h.ls s.ls.length ⟨k,e,.var s.n,.var (s.n+1)⟩ (by simp [jt]);rw [<-hl,h1] at h2;cases h2;have h4:=qt h3.n;obtain ⟨z,h5,h6⟩:=h3.z;have h7:=qt h5;have g2:=Dn h.fs (show le s.n lim∈ge s.n::ge (s.n+1)::le s.n lim::(if sF e then le (s.n+1) 16777216::s.fs else s.fs) by simp) h4;refine ⟨⟨xs,t,rfl,h3.el,g2,fun hi=>?_⟩,⟨h4,z,h7,h6⟩,rfl,?_⟩
  ·have g3:=Dn h.fs (show le (s.n+1) 16777216∈ge s.n::ge (s.n+1)::le s.n lim::(if sF e then le (s.n+1) 16777216::s.fs else s.fs) by simp [hi]) h7;omega
  ·show s.m+1=m0+(s.ls++[_]).length;simp [hl];omega
def HD:∀ {cs:List CT} {vs:List AV} {s:Ps},s.m=m0+s.ls.length->wz m0 (mn lim s cs).2 E->aZ E (mn lim s cs).1 vs->kj lim cs vs/\qv E.ρ s.n vs/\(mn lim s cs).2.n=s.n+(mj vs).length/\(mn lim s cs).2.m=m0+(mn lim s cs).2.ls.length
 |[],vs,s,hl,h,hr=>by
  rw [aU.1 hr];exact ⟨rfl,trivial,rfl,hl⟩
 |c::cs,vs,s,hl,h,hr=>by
  obtain ⟨w,ws,h1,h2,rfl⟩:=aO.1 hr;obtain ⟨a1,a2,a3,a4⟩:=Mz hl (h.mono (zq cs _)) h1;obtain ⟨b1,b2,b3,b4⟩:=HD a4 h h2;rw [a3] at b2 b3;refine ⟨⟨w,ws,rfl,a1,b1⟩,⟨a2,b2⟩,?_,b4⟩;show _=s.n+(mA w++mj ws).length;rw [Ak,<-A4];exact b3
def aaI {p:PT} {v:AV} (hl:s.m=m0+s.ls.length) (h:wz m0 (mC lim s p).2 E) (hr:(mC lim s p).1.rel E v):jw lim p v/\yI E.ρ s.n v/\(mC lim s p).2.n=s.n+(sT v).length/\(mC lim s p).2.m=m0+(mC lim s p).2.ls.length:=by
 cases p with
 |c c=>
  obtain ⟨a1,a2,a3,a4⟩:=Mz (c:=c) hl h hr;rw [(zP a1).1];refine ⟨a1,?_,a3,a4⟩;cases c<;>simp only [ju] at a1
  ·obtain ⟨_,rfl,_⟩:=a1;exact a2
  ·obtain ⟨_,rfl⟩:=a1;exact a2
  ·obtain ⟨_,rfl,_⟩:=a1;exact a2
  ·obtain ⟨_,_,rfl,_⟩:=a1;exact a2
 |a cs=>
  have hr:(SV.a (mn lim s cs).1).rel E v:=hr;simp only [SV.rel] at hr;obtain ⟨vs,h1,rfl⟩:=hr;obtain ⟨a1,a2,a3,a4⟩:=HD hl h h1;exact ⟨⟨vs,rfl,a1⟩,a2,a3,a4⟩
def uz:∀ {ps:List PT} {vs:List AV} {s:Ps},s.m=m0+s.ls.length->wz m0 (cZ lim s ps).2 E->aZ E (cZ lim s ps).1 vs->cW lim ps vs/\oe E.ρ s.n vs/\(cZ lim s ps).2.n=s.n+(eO vs).length/\(cZ lim s ps).2.m=m0+(cZ lim s ps).2.ls.length
 |[],vs,s,hl,h,hr=>by
  rw [aU.1 hr];exact ⟨rfl,trivial,rfl,hl⟩
 |c::cs,vs,s,hl,h,hr=>by
  obtain ⟨w,ws,h1,h2,rfl⟩:=aO.1 hr;obtain ⟨a1,a2,a3,a4⟩:=aaI hl (h.mono (HF cs _)) h1;obtain ⟨b1,b2,b3,b4⟩:=uz a4 h h2;rw [a3] at b2 b3;refine ⟨⟨w,ws,rfl,a1,b1⟩,⟨a2,b2⟩,?_,b4⟩;show _=s.n+(sT w++eO ws).length;rw [Ak,<-A4];exact b3
end
variable {P:Program} {gl:List (Nat×List AV)} {f:FuncId} {ps qs:List PT} {lim out:Int} {me:aa} {ef ea:List aa} {b:Int->Prop}
def MM {E:En}:∀ {xs:List SV} {v:AV},(nV xs).rel E v->(∃ x,xs=[x]/\x.rel E v)∨(xs.length≠1/\∃ vs,v= .aF vs/\aZ E xs vs)
 |[],v,h=> .inr ⟨by simp,by
  have h:(SV.aF []).rel E v:=h;simp only [SV.rel] at h;obtain ⟨vs,h1,h2⟩:=h
  exact ⟨vs,h2,h1⟩⟩
 |[x],v,h=> .inl ⟨x,rfl,h⟩
 |x::y::r,v,h=> .inr ⟨by simp,by
  have h:(SV.aF (x::y::r)).rel E v:=h;simp only [SV.rel] at h;obtain ⟨vs,h1,h2⟩:=h
  exact ⟨vs,h2,h1⟩⟩
def dA (hs:Spec P gl f (bx ps qs lim out me ef ea) (fun _=>True)) {as:List AV} (ha:cW lim ps as) (hef:aH (eO as) ef):
  ∃ rs,Pure P gl f as (.ok (dE rs))/\cW out qs rs/\∃ ρ,oe (eO as++ρ) (eO as).length rs/\aH (eO as++ρ) ea:=by
 obtain ⟨h1,h2⟩:=uA (m0:=0) (lim:=lim) (s:=⟨0,0,[],[]⟩) (E:=Em) ⟨rfl,rfl,rfl,fun X li e=>by simp at e,aH.nil _⟩ ha;have hρ:(Em.ext (eO as) (nK as)).ρ=eO as:=by simp [En.ext,Em]
 obtain ⟨r,h3,alt,h4,Er,h5⟩:=hs (Em.ext (eO as) (nK as)) as ⟨h1.nv,by rw [h1.nl,h1.len,Aw];rfl,rfl,rfl,fun X li e=>by
  obtain ⟨xs,a,b⟩:=h1.ls X li e
  exact ⟨xs,by simpa using a,b⟩,h2,fun e he=>by
   rcases AA.1 he with he|he
   ·rw [hρ];exact hef e he
   ·exact h1.fs e he,fun h=>absurd rfl h⟩ (fun _ _=>trivial)
 have h4:alt=_:=Ay.1 h4;subst h4;obtain ⟨ρ,hr⟩:=h5.le.ρ;rw [hρ] at hr;have hm:(cZ lim ⟨0,0,[],[]⟩ ps).2.m=(cZ lim ⟨0,0,[],[]⟩ ps).2.ls.length:=by rw [h1.len,Aw]
 have hJ:wz (cZ lim ⟨0,0,[],[]⟩ ps).2.m (cZ out ⟨(cZ lim ⟨0,0,[],[]⟩ ps).2.n,(cZ lim ⟨0,0,[],[]⟩ ps).2.m,[],[]⟩ qs).2 Er:=⟨fun X li e=>by rw [hm];exact h5.ls X li e,fun e he=>h5.fs e (A9 _ he)⟩
 have hea:aH (eO as++ρ) ea:=by
  rw [<-hr];exact fun e he=>h5.fs e (AW _ he)
 have hn:(cZ lim ⟨0,0,[],[]⟩ ps).2.n=(eO as).length:=by rw [<-h1.nv,hρ]
 rcases MM h5.r with ⟨x,e1,e2⟩|⟨e1,vs,rfl,e2⟩
 ·have e3:aZ Er (cZ out ⟨(cZ lim ⟨0,0,[],[]⟩ ps).2.n,(cZ lim ⟨0,0,[],[]⟩ ps).2.m,[],[]⟩ qs).1 [r]:=by
   rw [e1];exact aO.2 ⟨r,[],e2,aU.2 rfl,rfl⟩
  obtain ⟨a1,a2,_,_⟩:=uz rfl hJ e3;rw [hr,hn] at a2;exact ⟨[r],h3,a1,ρ,a2,hea⟩
 ·obtain ⟨a1,a2,_,_⟩:=uz rfl hJ e2;rw [hr,hn] at a2;refine ⟨vs,?_,a1,ρ,a2,hea⟩;have e4:=bV e2
  have:dE vs= .aF vs:=by
   match vs,e4 with
   |[],_=>rfl
   |[x],e4=>exact absurd e4.symm e1
   |_::_::_,_=>rfl
  rw [this];exact h3
def gR (h:∀ ρ as,cW lim ps as->oe ρ 0 as->ρ.length=(eO as).length->aH ρ ef->∃ rs,Pure P gl f as (.ok (dE rs))/\cW out qs rs/\aH (ρ++eO rs) ea) (hq:∀ rs,cW out qs rs->∀ E:En,aZ E (cZ out ⟨(cZ lim ⟨0,0,[],[]⟩ ps).2.n,(cZ lim ⟨0,0,[],[]⟩ ps).2.m,[],[]⟩ qs).1 rs->(nV (cZ out ⟨(cZ lim ⟨0,0,[],[]⟩ ps).2.n,(cZ lim ⟨0,0,[],[]⟩ ps).2.m,[],[]⟩ qs).1).rel E (dE rs)):Spec P gl f (bx ps qs lim out me ef ea) b:=by
 intro Es as hp _
 have hJ:wz 0 (cZ lim ⟨0,0,[],[]⟩ ps).2 Es:=⟨fun X li e=>by
  obtain ⟨xs,a,b⟩:=hp.ls X li e
  exact ⟨xs,by simpa using a,b⟩,fun e he=>hp.fs e (A9 _ he)⟩
 obtain ⟨a1,a2,a3,a4⟩:=uz (s:=⟨0,0,[],[]⟩) rfl hJ hp.as;obtain ⟨rs,h1,h2,h3⟩:=h Es.ρ as a1 a2 (hp.nv.trans (a3.trans (Aw _))) (fun e he=>hp.fs e (AW _ he));have hI:rT (cZ lim ⟨0,0,[],[]⟩ ps).2.m ⟨(cZ lim ⟨0,0,[],[]⟩ ps).2.n,(cZ lim ⟨0,0,[],[]⟩ ps).2.m,[],[]⟩ Es:=⟨hp.nv,hp.nl.trans (a4.trans (Aw _)).symm,rfl,fun X li e=>by simp at e,aH.nil _⟩;obtain ⟨h4,h5⟩:=uA hI h2;refine ⟨_,h1,_,Ay.2 rfl,Es.ext (eO rs) (nK rs),⟨Es.sJ _ _,h4.nv,?_,hp.θ,hp.κ,fun i li e=>?_,hq rs h2 _ h5,fun e he=>?_,fun q hq=>(by cases hq),fun q hq=>(by cases hq)⟩⟩
 ·rw [h4.nl,h4.len,a4,Aw];rfl
 ·obtain ⟨xs,a,b⟩:=h4.ls i li e;refine ⟨xs,?_,b⟩;have:(cZ lim ⟨0,0,[],[]⟩ ps).2.m=(cZ lim ⟨0,0,[],[]⟩ ps).2.ls.length:=by rw [a4,Aw]
  rw [this] at a;exact a
 ·rcases AA.1 he with he|he
  ·exact h3 e he
  ·exact h4.fs e he
def rE {s:Ps} {q:PT} {rs:List AV} {E:En} (h:aZ E (cZ out s [q]).1 rs):(nV (cZ out s [q]).1).rel E (dE rs):=by
 obtain ⟨w,ws,h1,h2,rfl⟩:=aO.1 (show aZ E [(mC out s q).1] rs from h);rw [aU.1 h2];exact h1
def aaN {s:Ps} {q q':PT} {rs:List AV} {E:En} (h:aZ E (cZ out s [q,q']).1 rs):(nV (cZ out s [q,q']).1).rel E (dE rs):=by
 have h:aZ E [(mC out s q).1,(mC out (mC out s q).2 q').1] rs:=h;obtain ⟨w,ws,h1,h2,rfl⟩:=aO.1 h;obtain ⟨w2,ws2,h3,h4,rfl⟩:=aO.1 h2;have h5:=aU.1 h4;subst h5;show (SV.aF [(mC out s q).1,(mC out (mC out s q).2 q').1]).rel E (.aF [w,w2]);simp only [SV.rel];exact ⟨_,h,rfl⟩
end Go.Proofs.YtoopnalhhfmgaaaGreatDoor
namespace Go.Proofs.YtoopnalhhfmgaaaGreatDoor
open Go Go.V
set_option maxRecDepth 100000
variable {gl:List (Nat×List AV)}
def jF (t:Nat) (d:List Nat) (v:Nat):Nat:=if v=t then 1 else d.getD v 0+1
def eV (t i:Nat) (p:List Nat×Bool) (v:Nat):List Nat×Bool:=if jF t p.1 v<p.1.getD i 0 then (p.1.set i (jF t p.1 v),true) else p
def ic (t i:Nat):List Nat->List Nat×Bool->List Nat×Bool
 |[],p=>p
 |v::r,p=>ic t i r (eV t i p v)
def gP (t:Nat):Nat->List (List Nat)->List Nat×Bool->List Nat×Bool
 |_,[],p=>p
 |i,r::rs,p=>gP t (i+1) rs (ic t i r p)
def uj (t:Nat) (rows:List (List Nat)):Nat->List Nat->List Nat
 |0,d=>d
 |f+1,d=>match gP t 0 rows (d,false) with
  |(e,true)=>uj t rows f e
  |(e,false)=>e
def jT:List Nat->Nat
 |[]=>0
 |x::xs=>x+jT xs
def fB (rows:List (List Nat)) (t:Nat):List Nat:=uj t rows (1000*rows.length+1) (List.replicate rows.length 1000)
def qQ (d:List Nat) (i n j:Nat):(d.set i n).getD j 0=if i=j/\j<d.length then n else d.getD j 0:=by
 simp only [AU,List.getElem?_set]
 by_cases h:i=j
 ·subst h
  by_cases h2:i<d.length
  ·simp [h2]
  ·simp [h2]
 ·simp [h]
def HX:∀ (d:List Nat) (i n:Nat),n<d.getD i 0->jT (d.set i n)<jT d
 |[],i,n,h=>by simp at h
 |x::d,0,n,h=>by
  simp only [List.getD_cons_zero] at h;simp only [List.set_cons_zero,jT];omega
 |x::d,i+1,n,h=>by
  simp only [List.getD_cons_succ] at h;have:=HX d i n h;simp only [List.set_cons_succ,jT];omega
structure Rd (p q:List Nat×Bool):Prop where
 len:q.1.length=p.1.length
 le:∀ j,q.1.getD j 0<=p.1.getD j 0
 pos:(∀ j,j<p.1.length->1<=p.1.getD j 0)->∀ j,j<q.1.length->1<=q.1.getD j 0
 same:q=p∨(q.2=true/\jT q.1<jT p.1)
def Rd.refl (p:List Nat×Bool):Rd p p:=⟨rfl,fun _=>Af _,fun h=>h,.inl rfl⟩
def Rd.trans {p q r:List Nat×Bool} (h:Rd p q) (h2:Rd q r):Rd p r:=by
 refine ⟨h2.len.trans h.len,fun j=>AH (h2.le j) (h.le j),fun hp=>h2.pos (h.pos hp),?_⟩;rcases h.same with rfl|⟨a,b⟩
 ·exact h2.same
 ·rcases h2.same with rfl|⟨c,d⟩
  ·exact .inr ⟨a,b⟩
  ·exact .inr ⟨c,Nat.lt_trans d b⟩
def US (t:Nat) (d:List Nat) (v:Nat):1<=jF t d v:=by unfold jF;split<;>omega
def rD (t i:Nat) (p:List Nat×Bool) (v:Nat):Rd p (eV t i p v):=by
 unfold eV;split
 ·rename_i h;refine ⟨by simp,fun j=>?_,fun hp j hj=>?_,.inr ⟨rfl,HX _ _ _ h⟩⟩
  ·simp only [qQ];split
   ·rename_i h2;rw [<-h2.1];omega
   ·exact Af _
  ·simp only [qQ];simp only [BL] at hj;split
   ·exact US _ _ _
   ·exact hp j hj
 ·exact Rd.refl p
def uB (t i:Nat):∀ (r:List Nat) (p:List Nat×Bool),Rd p (ic t i r p)
 |[],p=>Rd.refl p
 |v::r,p=>(rD t i p v).trans (uB t i r _)
def oP (t:Nat):∀ (rs:List (List Nat)) (i:Nat) (p:List Nat×Bool),Rd p (gP t i rs p)
 |[],_,p=>Rd.refl p
 |r::rs,i,p=>(uB t i r p).trans (oP t rs (i+1) _)
def Mf {t:Nat} {d e:List Nat} (h:∀ j,e.getD j 0<=d.getD j 0) (v:Nat):jF t e v<=jF t d v:=by
 unfold jF;split
 ·exact Af _
 ·have:=h v;omega
def DC (t:Nat) (rows:List (List Nat)) (d:List Nat):Prop:=∀ i,i<rows.length->d.getD i 0=1000∨∃ v∈rows.getD i [],jF t d v<=d.getD i 0
def ML {t i:Nat} {rows:List (List Nat)} {p:List Nat×Bool} {v:Nat} (hv:v∈rows.getD i []) (hl:p.1.length=rows.length) (h:DC t rows p.1):DC t rows (eV t i p v).1:=by
 intro j hj;have hle:=(rD t i p v).le;unfold eV at*;split at hle
 ·rename_i hn;rw [if_pos hn]
  by_cases hij:i=j
  ·subst hij;refine .inr ⟨v,hv,?_⟩;have h1:=Mf hle v (t:=t);have h2:(p.1.set i (jF t p.1 v)).getD i 0=jF t p.1 v:=by rw [qQ,if_pos ⟨rfl,by omega⟩]
   rw [h2];exact h1
  ·have h2:(p.1.set i (jF t p.1 v)).getD j 0=p.1.getD j 0:=by rw [qQ,if_neg (fun e=>hij e.1)]
   rw [h2];rcases h j hj with h3|⟨w,h3,h4⟩
   ·exact .inl h3
   ·exact .inr ⟨w,h3,AH (Mf hle w) h4⟩
 ·rename_i hn;rw [if_neg hn];exact h j hj
def FM {t i:Nat} {rows:List (List Nat)}:∀ {r:List Nat} {p:List Nat×Bool},(∀ v∈r,v∈rows.getD i [])->p.1.length=rows.length->DC t rows p.1->DC t rows (ic t i r p).1
 |[],_,_,_,h=>h
 |v::r,p,hr,hl,h=>FM (r:=r) (p:=eV t i p v) (fun w hw=>hr w (by simp [hw])) (by rw [(rD t i p v).len,hl]) (ML (hr v (by simp)) hl h)
def yg {t:Nat} {rows:List (List Nat)}:∀ {rs:List (List Nat)} {i:Nat} {p:List Nat×Bool},rows.drop i=rs->p.1.length=rows.length->DC t rows p.1->DC t rows (gP t i rs p).1
 |[],_,_,_,_,h=>h
 |r::rs,i,p,hd,hl,h=>by
  have hi:rows[i]? =some r:=by
   have:(rows.drop i)[0]? =some r:=by rw [hd];rfl
   simpa using this
  refine yg (rs:=rs) ?_ (by rw [(uB t i r p).len,hl]) (FM (fun v hv=>?_) hl h)
  ·rw [<-Bg,hd];rfl
  ·rw [AU,hi];exact hv
def FL {t i:Nat}:∀ {r:List Nat} {p:List Nat×Bool},p.2=false->(ic t i r p).2=false->ic t i r p=p/\∀ v∈r,p.1.getD i 0<=jF t p.1 v
 |[],p,_,_=>⟨rfl,fun v hv=>by cases hv⟩
 |v::r,p,h0,h=>by
  have h1:eV t i p v=p/\p.1.getD i 0<=jF t p.1 v:=by
   by_cases hn:jF t p.1 v<p.1.getD i 0
   ·have e:(eV t i p v).2=true:=by unfold eV;rw [if_pos hn]
    have h2:=(uB t i r (eV t i p v)).same;have h:(ic t i r (eV t i p v)).2=false:=h;rcases h2 with h2|h2
    ·rw [h2,e] at h;cases h
    ·rw [h2.1] at h;cases h
   ·exact ⟨by unfold eV;rw [if_neg hn],Am hn⟩
  have h:(ic t i r (eV t i p v)).2=false:=h;rw [h1.1] at h;obtain ⟨h3,h4⟩:=FL h0 h;refine ⟨?_,fun w hw=>?_⟩
  ·show ic t i r (eV t i p v)=p;rw [h1.1,h3]
  ·rcases Ab.1 hw with rfl|hw
   ·exact h1.2
   ·exact h4 w hw
def yf {t:Nat} {rows:List (List Nat)}:∀ {rs:List (List Nat)} {i:Nat} {p:List Nat×Bool},rows.drop i=rs->p.2=false->(gP t i rs p).2=false->gP t i rs p=p/\∀ j,i<=j->∀ v∈rows.getD j [],p.1.getD j 0<=jF t p.1 v
 |[],i,p,hd,_,_=>⟨rfl,fun j hj v hv=>by
  have:rows.length<=i:=by
   have:=congrArg List.length hd;simp at this;omega
  rw [AU,As (by omega)] at hv
  cases hv⟩
 |r::rs,i,p,hd,h0,h=>by
  have hi:rows[i]? =some r:=by
   have:(rows.drop i)[0]? =some r:=by rw [hd];rfl
   simpa using this
  have h:(gP t (i+1) rs (ic t i r p)).2=false:=h
  have h1:(ic t i r p).2=false:=by
   rcases (oP t rs (i+1) (ic t i r p)).same with h2|h2
   ·rw [h2] at h;exact h
   ·rw [h2.1] at h;cases h
  obtain ⟨h2,h3⟩:=FL h0 h1;rw [h2] at h;obtain ⟨h4,h5⟩:=yf (rows:=rows) (rs:=rs) (by rw [<-Bg,hd];rfl) h0 h;refine ⟨?_,fun j hj v hv=>?_⟩
  ·show gP t (i+1) rs (ic t i r p)=p;rw [h2,h4]
  ·rcases Al i j with hij|hij
   ·exact h5 j hij v hv
   ·have:j=i:=by omega
    subst this;rw [AU,hi] at hv;exact h3 v hv
structure Vy (rows:List (List Nat)) (t:Nat) (d:List Nat):Prop where
 len:d.length=rows.length
 le:∀ j,d.getD j 0<=1000
 pos:∀ j,j<d.length->1<=d.getD j 0
 by':∀ i,i<rows.length->d.getD i 0=1000∨∃ v∈rows.getD i [],jF t d v=d.getD i 0
def EM {t:Nat} {rows:List (List Nat)}:∀ {f:Nat} {d:List Nat},jT d<f->d.length=rows.length->(∀ j,d.getD j 0<=1000)->(∀ j,j<d.length->1<=d.getD j 0)->DC t rows d->Vy rows t (uj t rows f d)
 |0,_,h,_,_,_,_=>absurd h (Cp _)
 |f+1,d,h,hl,hle,hp,hw=>by
  have hr:=oP t rows 0 (d,false);have hw2:=yg (t:=t) (rows:=rows) (rs:=rows) (i:=0) (p:=(d,false)) rfl hl hw;unfold uj;split
  ·rename_i e he;rw [he] at hr hw2
   have hs:jT e<jT d:=by
    rcases hr.same with h1|h1
    ·cases h1
    ·exact h1.2
   exact EM (by omega) (hr.len.trans hl) (fun j=>AH (hr.le j) (hle j)) (hr.pos hp) hw2
  ·rename_i e he;have hf:=yf (t:=t) (rows:=rows) (rs:=rows) (i:=0) (p:=(d,false)) rfl rfl (by rw [he]);rw [he] at hf;obtain ⟨h1,h2⟩:=hf;cases h1;refine ⟨hl,hle,hp,fun i hi=>?_⟩;rcases hw i hi with h3|⟨v,h3,h4⟩
   ·exact .inl h3
   ·exact .inr ⟨v,h3,Nat.le_antisymm h4 (h2 i (Au _) v h3)⟩
def HV (n k:Nat):jT (List.replicate n k)=k*n:=by
 induction n with
 |zero=>rfl
 |succ n ih=>
  rw [List.replicate_succ,jT,ih,Nat.mul_succ];omega
def qP (n k j:Nat):(List.replicate n k).getD j 0=if j<n then k else 0:=by
 rw [AU,List.getElem?_replicate];split<;>rfl
def tq (rows:List (List Nat)) (t:Nat):Vy rows t (fB rows t):=by
 refine EM ?_ (by simp) (fun j=>?_) (fun j hj=>?_) (fun i hi=>?_)
 ·rw [HV];omega
 ·rw [qP];split<;>omega
 ·rw [qP];simp at hj;rw [if_pos hj];omega
 ·rw [qP,if_pos hi];exact .inl rfl
def mR (rows:List (List Nat)) (d:List Nat):Nat->Nat->List Nat
 |0,_=>[]
 |n+1,x=>match (rows.getD x []).find? (fun v=>d.getD v 0==n+1) with
  |some v=>v::mR rows d n v
  |none=>[]
def Nn {rows:List (List Nat)} {t:Nat} {d:List Nat} (h:Vy rows t d) {x n:Nat} (hx:x<rows.length) (hd:d.getD x 0=n+1+1) (hn:n+2<1000):∃ v,(rows.getD x []).find? (fun v=>d.getD v 0==n+1)=some v:=by
 rcases h.by' x hx with h1|⟨v,h1,h2⟩
 ·omega
 ·have:d.getD v 0=n+1:=by
   unfold jF at h2;split at h2<;>omega
  cases hf:(rows.getD x []).find? (fun v=>d.getD v 0==n+1) with
  |some w=>exact ⟨w,rfl⟩
  |none=>
   have:=List.find?_eq_none.1 hf v h1
   simp_all
mutual
def PY:∀ v:AV,v.fg.fg=v.fg
 | .sl k xs t=>by simp only [AV.fg,pQ xs]
 | .agg cs=>by simp only [AV.fg,pQ cs]
 | .aF cs=>by simp only [AV.fg,pQ cs]
 | .cI t v=>by simp only [AV.fg,PY v]
 | .de| .bool _| .int _ _| .str _| .cV| .ptr _ _| .gp _ _| .eZ _ _ _ _| .fn _ _ _| .fw| .cY| .bu _| .aL _ _ _ _| .aN _ _ _ _| .b9 ..| .mp _| .gM| .eX _ _| .jH ..=>by simp [AV.fg]
def pQ:∀ xs:List AV,AV.bz (AV.bz xs)=AV.bz xs
 |[]=>by simp [AV.bz]
 |x::xs=>by simp only [AV.bz,PY x,pQ xs]
end
def j7 (xs:List AV):(xs.map AV.fg).map AV.fg=xs.map AV.fg:=by
 have:=pQ xs;simpa only [di] using this
def ju.fg {lim:Int} {c:CT} {v:AV} (h:ju lim c v):ju lim c v.fg:=by
 cases c with
 |i k=>obtain ⟨n,rfl,h⟩:=h;exact ⟨n,rfl,h⟩
 |b=>obtain ⟨n,rfl⟩:=h;exact ⟨n,rfl⟩
 |s=>obtain ⟨n,rfl,h⟩:=h;exact ⟨n,rfl,h⟩
 |l k e=>
  obtain ⟨xs,t,rfl,h1,h2,h3⟩:=h;exact ⟨xs.map AV.fg,.ai,by simp [AV.fg,di],h1.fg,by rw [Ad];exact h2,fun hi=>by rw [kh];exact h3 hi⟩
def kj.fg {lim:Int}:∀ {cs:List CT} {vs:List AV},kj lim cs vs->kj lim cs (vs.map AV.fg)
 |[],vs,h=>by cases h;rfl
 |c::cs,vs,h=>by
  obtain ⟨w,ws,rfl,h1,h2⟩:=h;exact ⟨w.fg,ws.map AV.fg,rfl,h1.fg,h2.fg⟩
def jw.fg {lim:Int} {p:PT} {v:AV} (h:jw lim p v):jw lim p v.fg:=by
 cases p with
 |c c=>exact ju.fg (c:=c) h
 |a cs=>
  obtain ⟨vs,rfl,h⟩:=h;exact ⟨vs.map AV.fg,by simp [AV.fg,di],h.fg⟩
def cW.fg {lim:Int}:∀ {ps:List PT} {vs:List AV},cW lim ps vs->cW lim ps (vs.map AV.fg)
 |[],vs,h=>by cases h;rfl
 |c::cs,vs,h=>by
  obtain ⟨w,ws,rfl,h1,h2⟩:=h;exact ⟨w.fg,ws.map AV.fg,rfl,h1.fg,h2.fg⟩
def ju.nr {lim:Int} {c:CT} {v:AV} (h:ju lim c v):al v.fg:=by
 cases c with
 |i k=>obtain ⟨n,rfl,h⟩:=h;exact .int _ _
 |b=>obtain ⟨n,rfl⟩:=h;exact .bool _
 |s=>obtain ⟨n,rfl,h⟩:=h;exact .str _
 |l k e=>
  obtain ⟨xs,t,rfl,h1,h2,h3⟩:=h;rw [fp];exact h1.nr
def kj.nr {lim:Int}:∀ {cs:List CT} {vs:List AV},kj lim cs vs->∀ v∈vs.map AV.fg,al v
 |[],vs,h=>by cases h;intro v hv;cases hv
 |c::cs,vs,h=>by
  obtain ⟨w,ws,rfl,h1,h2⟩:=h;intro v hv;rcases Ab.1 hv with rfl|hv
  ·exact h1.nr
  ·exact h2.nr v hv
def jw.nr {lim:Int} {p:PT} {v:AV} (h:jw lim p v):al v.fg:=by
 cases p with
 |c c=>exact ju.nr (c:=c) h
 |a cs=>
  obtain ⟨vs,rfl,h⟩:=h;rw [db];exact .agg h.nr
def cW.nr {lim:Int}:∀ {ps:List PT} {vs:List AV},cW lim ps vs->∀ v∈vs.map AV.fg,al v
 |[],vs,h=>by cases h;intro v hv;cases hv
 |c::cs,vs,h=>by
  obtain ⟨w,ws,rfl,h1,h2⟩:=h;intro v hv;rcases Ab.1 hv with rfl|hv
  ·exact h1.nr
  ·exact h2.nr v hv
def Mb (v:AV):mA v.fg=mA v:=by
 cases v<;>simp [AV.fg,mA,di]
 exact_mod_cast kh _
def Hs:∀ vs:List AV,mj (vs.map AV.fg)=mj vs
 |[]=>rfl
 |v::vs=>by simp only [List.map_cons,mj,Mb,Hs vs]
def aaq (v:AV):sT v.fg=sT v:=by
 cases v with
 |agg cs=>rw [db];exact Hs cs
 |_=>simp only [AV.fg,sT,mA,di,Ad,kh]
def qu.fg {ρ:List Int} {n:Nat} {v:AV} (h:qu ρ n v):qu ρ n v.fg:=by
 cases v<;>simp only [AV.fg,qu] at h ⊢<;>try exact h
 rw [di,Ad,kh];exact h
def qv.fg {ρ:List Int}:∀ {vs:List AV} {n:Nat},qv ρ n vs->qv ρ n (vs.map AV.fg)
 |[],_,_=>trivial
 |v::vs,n,h=>⟨h.1.fg,by rw [Mb];exact h.2.fg⟩
def yI.fg {ρ:List Int} {n:Nat} {v:AV} (h:yI ρ n v):yI ρ n v.fg:=by
 cases v with
 |agg cs=>rw [db];exact qv.fg h
 |sl k xs t=>
  simp only [AV.fg,yI,qu,di,Ad,kh] at h ⊢;exact h
 |cI _ _|aF _=>simp only [AV.fg];trivial
 |_=>simpa only [AV.fg] using h
def oe.fg {ρ:List Int}:∀ {vs:List AV} {n:Nat},oe ρ n vs->oe ρ n (vs.map AV.fg)
 |[],_,_=>trivial
 |v::vs,n,h=>⟨h.1.fg,by rw [aaq];exact h.2.fg⟩
variable {P:Program} {gl:List (Nat×List AV)} {f:FuncId} {as:List AV}
def U3 {r:AV} (h:Pure P gl f as (.ok r)) (hn:al r.fg):Pure P gl f as (.ok r.fg):=⟨h.call.oD (fun r' S' e=>by injection e with e;rw [e]) (fun r' S' e=>by cases e),h.na,hn⟩
def FI (rs:List AV):(dE rs).fg=dE (rs.map AV.fg):=by
 match rs with
 |[]=>rfl
 |[x]=>rfl
 |x::y::r=>show (AV.aF _).fg=_;rw [xi];rfl
def kS {ps qs:List PT} {lim out:Int} {me:aa} {ef ea:List aa} (hs:Spec P gl f (bx ps qs lim out me ef ea) (fun _=>True)) (ha:cW lim ps as) (hef:aH (eO as) ef):
  ∃ rs,Pure P gl f as (.ok (dE rs))/\rs.map AV.fg=rs/\cW out qs rs/\∃ ρ,oe (eO as++ρ) (eO as).length rs/\aH (eO as++ρ) ea:=by
 obtain ⟨rs,h1,h2,ρ,h3,h4⟩:=dA hs ha hef;have hn:=h2.nr;refine ⟨rs.map AV.fg,?_,j7 rs,h2.fg,ρ,h3.fg,h4⟩
 have h5:=U3 h1 (by
  rw [FI];generalize rs.map AV.fg=us at hn
  match us,hn with
  |[],hn=>exact .aF hn
  |[x],hn=>exact hn x (Ay.2 rfl)
  |x::y::r,hn=>exact .aF hn)
 rw [FI] at h5;exact h5
def Qt {x y:AV} {t:Nat} (hxy:x.Le y) {post:Fr}:∀ {pre:Fr} {u:Nat} {v':AV},List.lookup u (pre++(t,y)::post)=some v'->∃ v,List.lookup u (pre++(t,x)::post)=some v/\v.Le v'
 |[],u,v',e=>by
  simp only [List.nil_append,List.lookup_cons] at e ⊢;split at e
  ·cases e;rename_i h;exact ⟨x,rfl,hxy⟩
  ·rename_i h;exact ⟨v',e,.refl _⟩
 |(w,z)::pre,u,v',e=>by
  simp only [List.cons_append,List.lookup_cons] at e ⊢;split at e
  ·cases e;exact ⟨_,rfl,.refl _⟩
  ·exact Qt hxy (pre:=pre) e
def sR {n:Nat} {k:List MI} {D:ep} {S:St} {Q:er} {x y:AV} {t:Nat} (pre:Fr) {post:Fr} (hxy:x.Le y) (h:ah P n k D (pre++(t,y)::post) S Q):ah P n k D (pre++(t,x)::post) S Q:=h.imp fun _ _ e=>Qt hxy e
def jc (k n l o c:Nat):(AV.b9 k n l o c).Le (.aN k n l o):=fun G v h=>by
 cases h with
 |b9 _ h1 h2 h3=>exact .aN k h1 h2 h3
def Vs {G:Gh} {k n l o:Nat} {v:Value} (h:af G (.aN k n l o) v):∃ c,n<=c/\af G (.b9 k n l o c) v:=by
 cases h with
 |aN _ h1 h2 h3=>exact ⟨_,h2,.b9 k h1 h2 h3⟩
def qY {t:Nat} {x y:AV} {post:Fr}:∀ {pre:Fr} {u:Nat} {v:AV},List.lookup t pre=none->List.lookup u (pre++(t,y)::post)=some v->(u=t/\v=y)∨List.lookup u (pre++(t,x)::post)=some v
 |[],u,v,_,e=>by
  simp only [List.nil_append,List.lookup_cons] at e ⊢;split at e
  ·cases e;rename_i h;exact .inl ⟨by simpa using h,rfl⟩
  ·exact .inr e
 |(w,z)::pre,u,v,hp,e=>by
  simp only [List.lookup_cons] at hp;split at hp
  ·cases hp
  ·simp only [List.cons_append,List.lookup_cons] at e ⊢;split at e
   ·exact .inr e
   ·exact qY (pre:=pre) hp e
def kE {t:Nat} {x:AV} {post:Fr}:∀ {pre:Fr},List.lookup t pre=none->List.lookup t (pre++(t,x)::post)=some x
 |[],_=>by simp
 |(w,z)::pre,hp=>by
  simp only [List.lookup_cons] at hp;split at hp
  ·cases hp
  ·rename_i h;simp only [List.cons_append,List.lookup_cons,h];exact kE hp
def mM {n:Nat} {kk:List MI} {D:ep} {S:St} {Q:er} {t k m l o:Nat} (pre:Fr) {post:Fr} (hp:List.lookup t pre=none) (h:∀ c,m<=c->ah P n kk D (pre++(t,.b9 k m l o c)::post) S Q):ah P n kk D (pre++(t,.aN k m l o)::post) S Q:=by
 intro wb G w a b cs todo hb hf hR;obtain ⟨h1,h2⟩:=hR.fr.rel t _ (kE hp);obtain ⟨c,hc,h3⟩:=Vs h2;refine h c hc wb G w a b cs todo hb hf ⟨hR.st,⟨fun u v e=>?_⟩,hR.sz,hR.df⟩;rcases qY (x:= .aN k m l o) hp e with ⟨rfl,rfl⟩|e
 ·exact ⟨h1,h3⟩
 ·exact hR.fr.rel u v e
def jU (live:List Nat):bE->List Nat
 | .tok n=>live.filter (· !=n)
 | .new n=>live.filter (· !=n)
 |_=>live
def gw (n:Nat) (ob:List (Nat×List AV)) (nt:Nat) (live:List Nat) (gl:List (Nat×List AV)) (t:bE):St.use ⟨n,ob,nt,live,gl⟩ t=⟨n,ob,nt+1,nt::jU live t,gl⟩:=by cases t<;>rfl
def mE (o:Out) (r:AV):Prop:=match o with
 | .ok r'=>r'.fg=r
 | .eH _=>False
def mE.mk' {r' r:AV} (h:r'.fg=r):mE (.ok r') r:=h
def wa {r:AV} (h:ao P f (as.map AV.fg) (.none gl) fun o' _=>mE o' r) (hn:∀ a∈as.map AV.fg,al a) (hr:al r):Pure P gl f as (.ok r):=⟨h.oD (fun r' S' e=>congrArg Out.ok e) (fun r' S' e=>e.elim),hn,hr⟩
def gS (lo hi:Nat) (live:List Nat) (t:bE):Prop:=t= .exact∨∃ a,t= .tok a/\a∈live/\lo<=a/\a<hi
def gS.sf {lo hi n nt:Nat} {live:List Nat} {ob:List (Nat×List AV)} {t:bE} (h:gS lo hi live t):yF ⟨n,ob,nt,live,gl⟩ t:=by
 rcases h with rfl|⟨a,rfl,h,_⟩
 ·exact .inl rfl
 ·exact .inr ⟨a,rfl,h⟩
def gS.up {lo hi hi':Nat} {live:List Nat} {t:bE} (h:gS lo hi live t) (hh:hi<=hi'):gS lo hi' live t:=by
 rcases h with rfl|⟨a,rfl,h,h1,h2⟩
 ·exact .inl rfl
 ·exact .inr ⟨a,rfl,h,h1,Co h2 hh⟩
def gS.cB {lo hi lo2 hi2 n:Nat} {live:List Nat} {t t2:bE} (h:gS lo hi live t) (h2:gS lo2 hi2 live t2) (hh:hi<=lo2):gS lo hi (n::jU live t2) t:=by
 rcases h with rfl|⟨a,rfl,h,h1,h3⟩
 ·exact .inl rfl
 ·refine .inr ⟨a,rfl,Ao _ ?_,h1,h3⟩;rcases h2 with rfl|⟨b,rfl,_,h4,_⟩
  ·exact h
  ·simp only [jU,BN,bne_iff_ne];exact ⟨h,fun e=>by omega⟩
def gS.new (lo n:Nat) (live:List Nat) (h:lo<=n):gS lo (n+1) (n::live) (.tok n):= .inr ⟨n,rfl,A3,h,Br _⟩
end Go.Proofs.YtoopnalhhfmgaaaGreatDoor
