/- The by-value layer, part nine: slicing, lengths, conversions, structs written out, make. Over any program. -/
import Derived.Test.YtoopnalhhfmgaaaGreatDoorVA
import Derived.Laws.IdiomStrings
import Derived.Laws.MakeOwn
import Derived.RangeFuncRecord
import Derived.Maps.RangeRun
import Derived.Lib.AppendZerosOnto
import Derived.OrdersIn
import Derived.RangeFuncSeq
set_option linter.defProp false
set_option linter.unusedSimpArgs false
set_option linter.unusedVariables false
namespace Go.V
open Go
def cU (d:Int):Option AV->Option Int
 |none=>some d
 |some (.int _ n)=>some n
 |_=>none
def l9 (G:Gh):Option AV->Option Value->Prop
 |none,none=>True
 |some a,some v=>af G a v
 |_,_=>False
def run_sliceBound {P:Program} {w:World} {G:Gh} {a:AV} {v:Value} {n:Int} {y:Nat} {code:BoundsCode} (ha:af G a v) (hb:∀ d,cU d (some a)=some n) (h0:0<=n) (h1:n<=y):
  (Instr.sliceBound v y code).run P w= .ok n.toNat w:=by
 have:=hb 0
 cases ha<;>simp only [cU] at this<;>first
  |(cases this;done)
  |skip
 injection this with this
 subst this;simp [Instr.sliceBound,asIntOf,h0,h1]
def qD {d d':Int} {a:AV} {n:Int} (h:cU d (some a)=some n):cU d' (some a)=some n:=by cases a<;>simp_all [cU]
def gv {P:Program} {w:World} {G:Gh} {lo hi mx:Option AV} {lo' hi' mx':Option Value} (hlo:l9 G lo lo') (hhi:l9 G hi hi') (hmx:l9 G mx mx') {b:Bool} {len cap:Nat} {l h m:Int}
  (el:cU 0 lo=some l) (eh:cU len hi=some h) (em:cU cap mx=some m) (h0:0<=l) (h1:l<=h) (h2:h<=m) (h3:m<=cap) (hm:mx=none∨hi≠none):
  (Instr.sliceBounds b len cap lo' hi' mx').run P w= .ok (l.toNat,h.toNat,m.toNat) w:=by
 have rm:∀ (code:BoundsCode) (v:Value),mx'=some v->(Instr.sliceBound v cap code).run P w= .ok m.toNat w:=by
  intro code v hv;subst hv
  cases mx with
  |none=>exact hmx.elim
  |some a=>exact run_sliceBound hmx (fun d=>qD em) (by omega) h3
 have nm:mx'=none->m.toNat=cap:=by
  intro e;subst e
  cases mx with
  |none=>simp [cU] at em;subst em;simp
  |some a=>exact hmx.elim
 have rh:∀ y:Nat,h<=y->∀ (code:BoundsCode) (v:Value),hi'=some v->(Instr.sliceBound v y code).run P w= .ok h.toNat w:=by
  intro y hy code v hv;subst hv
  cases hi with
  |none=>exact hhi.elim
  |some a=>exact run_sliceBound hhi (fun d=>qD eh) (by omega) hy
 have nh:hi'=none->mx'=none/\h.toNat=len:=by
  intro e;subst e
  cases hi with
  |none=>
   have hmn:mx=none:=hm.resolve_right (by simp);subst hmn
   cases mx' with
   |some v=>exact hmx.elim
   |none=>simp [cU] at eh;subst eh;simp
  |some a=>exact hhi.elim
 have rl:∀ (code:BoundsCode) (v:Value),lo'=some v->(Instr.sliceBound v h.toNat code).run P w= .ok l.toNat w:=by
  intro code v hv;subst hv
  cases lo with
  |none=>exact hlo.elim
  |some a=>exact run_sliceBound hlo (fun d=>qD el) h0 (by omega)
 have nl:lo'=none->l.toNat=0:=by
  intro e;subst e
  cases lo with
  |none=>simp [cU] at el;subst el;simp
  |some a=>exact hlo.elim
 clear hlo hhi hmx;have hhm:h<=(m.toNat:Int):=by omega
 unfold Instr.sliceBounds
 cases hi' with
 |some v=>
  cases mx' with
  |some v2=>
   cases lo' with
   |some v3=>simp only [Sem.run_bind,rm _ v2 rfl,Result.andThen_ok,rh m.toNat hhm _ v rfl,rl _ v3 rfl,Sem.run_pure]
   |none=>simp only [Sem.run_bind,rm _ v2 rfl,Result.andThen_ok,rh m.toNat hhm _ v rfl,nl rfl,Sem.run_pure]
  |none=>
   rw [nm rfl] at hhm ⊢
   cases lo' with
   |some v3=>simp only [Sem.run_bind,Result.andThen_ok,rh cap hhm _ v rfl,rl _ v3 rfl,Sem.run_pure]
   |none=>simp only [Sem.run_bind,Result.andThen_ok,rh cap hhm _ v rfl,nl rfl,Sem.run_pure]
 |none=>
  obtain ⟨rfl,e⟩:=nh rfl;rw [nm rfl];rw [e] at rl ⊢
  cases lo' with
  |some v3=>simp only [Sem.run_bind,Result.andThen_ok,rl _ v3 rfl,Sem.run_pure]
  |none=>simp only [Sem.run_bind,Result.andThen_ok,nl rfl,Sem.run_pure]
def gQ (x:AV) (lo hi:Option AV):Option AV:=
 match x with
 | .str s=>(cU 0 lo).bind fun l=>(cU s.length hi).map fun h=> .str ((s.take h.toNat).drop l.toNat)
 |_=>none
def fU (x:AV) (lo hi:Option AV):Prop:=
 match x with
 | .str s=>match cU 0 lo,cU s.length hi with
  |some l,some h=>0<=l/\l<=h/\h<=s.length
  |_,_=>True
 |_=>True
def MS {P:Program} {w:World} {G:Gh} {t:TypeId} {x r:AV} {u:Value} {lo hi:Option AV} {lo' hi':Option Value} (hx:af G x u) (hlo:l9 G lo lo') (hhi:l9 G hi hi')
  (ht:P.underlying t=some .string) (aL:fU x lo hi) (he:gQ x lo hi=some r):∃ z,(Instr.sliceAt t u lo' hi' none).run P w= .ok z w/\af G r z:=by
 cases hx<;>simp only [gQ] at he<;>first
  |(cases he;done)
  |skip
 rename_i s;simp only [Ar,Ag] at he;obtain ⟨l,el,h,eh,rfl⟩:=he;simp only [fU,el,eh] at aL;obtain ⟨h0,h1,h2⟩:=aL;refine ⟨_,?_,.str _⟩;have hb:=gv (P:=P) (w:=w) (mx:=none) (mx':=none) (b:=false) (len:=s.length) (cap:=s.length) (m:=s.length) hlo hhi trivial el eh rfl h0 h1 h2 (Ax _) (.inl rfl);have hsz:(ByteArray.mk s.toArray).size=s.length:=by simp [ByteArray.size]
 simp only [Instr.sliceAt,Sem.run_bind,aQ ht,Result.andThen_ok,Instr.slice,hsz,hb,Option.isSome_none,Ah,if_false,Sem.run_pure]
 congr 2
 apply ByteArray.ext;apply Aq;simp [BW]
def cS (k:Nat) (x:AV) (lo hi mx:Option AV):Option AV:=
 match x with
 | .sl k' xs t=>
  if k'=k then
   (cU 0 lo).bind fun l=>(cU xs.length hi).bind fun h=>
    match mx with
    |none=>some (.sl k ((xs.take h.toNat).drop l.toNat) (if lo.isNone && hi.isNone then t else .ai))
    |some _=>(cU 0 mx).map fun m=> .sl k ((xs.take h.toNat).drop l.toNat) (if m=h then .exact else .ai)
  else none
 | .aN k' n ob o=>
  if k'=k then
   match mx with
   |none=>(cU 0 lo).bind fun l=>(cU n hi).map fun h=>if l<h then .aN k (h.toNat-l.toNat) ob (o+l.toNat*k) else .sl k [] .ai
   |some _=>none
  else none
 |_=>none
def cG (x:AV) (lo hi mx:Option AV):Prop:=
 match x with
 | .sl _ xs _=>match cU 0 lo,cU xs.length hi with
  |some l,some h=>0<=l/\l<=h/\h<=xs.length/\(match mx with
   |none=>True
   |some _=>match cU 0 mx with
    |some m=>h<=m/\m<=xs.length/\hi.isSome=true
    |none=>True)
  |_,_=>True
 | .aN _ n _ _=>match cU 0 lo,cU n hi with
  |some l,some h=>0<=l/\l<=h/\h<=n
  |_,_=>True
 |_=>True
def HN {G:Gh} {k:Nat} {xs:List AV} {r b:Nat} {f:Nat->Value} (hk:∀ x∈xs,x.cells.length=k)
  (hp:∀ (m:Nat) (c:AV),(flat xs)[m]? =some c->G.φ r (b+m)=some (f m))
  (ho:∀ (m:Nat) (c:AV),(flat xs)[m]? =some c->(f m).oneCell'=true)
  (hv:∀ (m:Nat) (c:AV),(flat xs)[m]? =some c->af G c (f m)) {l h:Nat} (hl:l<=h) (hh:h<=xs.length) {t:bE} {cap:Nat} (hc:h-l<=cap)
  (ht:Ik G t r (b+l*k+(h-l)*k) (b+l*k+cap*k)):af G (.sl k ((xs.take h).drop l) t) (.slice (some ⟨r,b+l*k,none⟩) (h-l) cap):=by
 have hlen:((xs.take h).drop l).length=h-l:=by simp;omega
 have hk':∀ x∈(xs.take h).drop l,x.cells.length=k:=fun x hx=>hk x (A5 (Ba hx))
 have key:∀ (m:Nat) (c:AV),(flat ((xs.take h).drop l))[m]? =some c->(flat xs)[l*k+m]? =some c:=by
  intro m c e;rcases Bq k with hk0|hk0
  ·have h0:(flat ((xs.take h).drop l)).length=0:=by rw [cO hk',hk0,Nat.mul_zero]
   rw [As (by omega)] at e;cases e
  ·have hm:m=m/k*k+m%k:=by have:=Nat.div_add_mod m k;rw [Nat.mul_comm] at this;omega
   rw [hm,flat_get hk' (B0 _ hk0)] at e;rw [hm,<-A4,<-AM,flat_get hk (B0 _ hk0)];rw [AO,Bh] at e;split at e
   ·exact e
   ·simp at e
 rw [<-hlen];refine .sl (fun m=>f (l*k+m)) hk' (fun m c e=>?_) (fun m c e=>ho _ c (key m c e)) (fun m c e=>hv _ c (key m c e)) (by omega) (by rw [hlen];exact ht);have:=hp _ c (key m c e)
 rwa [<-A4] at this
def Dv (tk:bE) (lo hi mx:Option AV) (m h:Int):bE:=if mx.isSome then (if m=h then .exact else .ai) else (if lo.isNone && hi.isNone then tk else .ai)
def CW {P:Program} {w:World} {G:Gh} {t e:TypeId} {k:Nat} {x r:AV} {u:Value} {lo hi mx:Option AV} {lo' hi' mx':Option Value} (hx:af G x u) (hlo:l9 G lo lo') (hhi:l9 G hi hi') (hmx:l9 G mx mx')
  (ht:P.underlying t=some (.slice e)) (hs:cg P e k=true) (aL:cG x lo hi mx) (he:cS k x lo hi mx=some r):∃ z,(Instr.sliceAt t u lo' hi' mx').run P w= .ok z w/\af G r z:=by
 by_cases hosl:∃ k' n ob o,x= .aN k' n ob o
 ·obtain ⟨k',n,ob,o,rfl⟩:=hosl
  cases hx with
  |aN _ h1 hc hz=>
   rename_i r cap;simp only [cS] at he;split at he;rotate_left
   ·cases he
   rename_i hk;subst hk
   cases mx with
   |some a=>simp at he
   |none=>
    simp only [Ar,Ag] at he;obtain ⟨l,el,h,eh,rfl⟩:=he;simp only [cG,el,eh] at aL;obtain ⟨h0,h2,h3⟩:=aL;have hb:=gv (P:=P) (w:=w) (b:=true) (len:=n) (cap:=cap) hlo hhi hmx el eh (show cU cap none=some (cap:Int) from rfl) h0 (by omega) (by omega) (Ax _) (.inl rfl)
    by_cases hlh:l<h
    ·rw [if_pos hlh];refine ⟨.slice (some ⟨r,o+l.toNat*k',none⟩) (h.toNat-l.toNat) ((cap:Int).toNat-l.toNat),?_,.aN _ h1 (by omega) ?_⟩
     ·simp only [Instr.sliceAt,Sem.run_bind,aQ ht,Result.andThen_ok,Instr.slice,hb,bR hs,Sem.run_pure];rw [if_neg (by omega)];simp [cE]
     ·refine AH (Nat.le_of_eq ?_) hz;rw [A4,<-AM]
      congr 2
      omega
    ·rw [if_neg hlh];refine ⟨.slice (if (cap:Int).toNat=l.toNat then some ⟨r,o,none⟩ else some ⟨r,o+l.toNat*k',none⟩) (h.toNat-l.toNat) ((cap:Int).toNat-l.toNat),?_,?_⟩
     ·simp only [Instr.sliceAt,Sem.run_bind,aQ ht,Result.andThen_ok,Instr.slice,hb,bR hs,Sem.run_pure];simp [cE]
     have e0:h.toNat-l.toNat=0:=by omega
     have key:∀ b c,af G (.sl k' [] .ai) (.slice (some ⟨r,b,none⟩) 0 c):=fun b c=> .sl (xs:=[]) (fun _=>undef) (by simp) (by simp) (by simp) (by simp) (by simp) trivial;rw [e0];split
     ·exact key _ _
     ·exact key _ _
 have hxs:∃ xs tk,x= .sl k xs tk:=by
  cases hx<;>simp only [cS] at he<;>first
   |(cases he;done)
   |exact absurd ⟨_,_,_,_,rfl⟩ hosl
   |(split at he
     ·rename_i hk;subst hk;exact ⟨_,_,rfl⟩
     ·cases he)
 obtain ⟨xs,tk,rfl⟩:=hxs;simp only [cS,if_true,Ar] at he;obtain ⟨l,el,h,eh,he⟩:=he;simp only [cG,el,eh] at aL;obtain ⟨h0,h1,h2,h3⟩:=aL
 obtain ⟨base,cap,rfl,hcap⟩:∃ base cap,u= .slice base xs.length cap/\xs.length<=cap:=by
  cases hx with
  |slnil=>exact ⟨_,0,rfl,Af _⟩
  |sl f hk hp ho hv hc htk=>exact ⟨_,_,rfl,hc⟩
 obtain ⟨m,em,h4,h5,hm,hr⟩:∃ m:Int,cU cap mx=some m/\h<=m/\m<=cap/\(mx=none∨hi≠none)/\
   r= .sl k ((xs.take h.toNat).drop l.toNat) (Dv tk lo hi mx m h):=by
  cases mx with
  |none=>
   simp only [Ae] at he;exact ⟨cap,rfl,by omega,Ax _,.inl rfl,he.symm⟩
  |some a=>
   simp only [Ag] at he;obtain ⟨m,em,he⟩:=he;rw [em] at h3;obtain ⟨h4,h5,h6⟩:=h3;exact ⟨m,qD em,h4,by omega,.inr (by intro e;rw [e] at h6;cases h6),he.symm⟩
 have hb:=gv (P:=P) (w:=w) (b:=true) (len:=xs.length) (cap:=cap) hlo hhi hmx el eh em h0 h1 h4 h5 hm;have hrun:(Instr.sliceAt t (.slice base xs.length cap) lo' hi' mx').run P w= .ok (.slice (if m.toNat=l.toNat then base else base.map (·.add (l.toNat*k))) (h.toNat-l.toNat) (m.toNat-l.toNat)) w:=by simp only [Instr.sliceAt,Sem.run_bind,aQ ht,Result.andThen_ok,Instr.slice,hb,bR hs,Sem.run_pure]
 refine ⟨_,hrun,?_⟩;subst hr;have hl':l.toNat<=h.toNat:=by omega
 have hh':h.toNat<=xs.length:=by omega
 cases hx with
 |slnil=>
  have e1:l.toNat=0:=by simp at hh';omega
  have e2:h.toNat=0:=by simpa using hh'
  have e3:m.toNat=0:=by omega
  simp only [e1,e2,e3,if_true,List.take_nil,List.drop_nil,BQ];exact .slnil _ _ _
 |sl f hk hp ho hv hc htk=>
  rename_i rb b
  by_cases hml:m.toNat=l.toNat
  ·have hhl:h.toNat=l.toNat:=by omega
   have hnil:(xs.take h.toNat).drop l.toNat=[]:=by
    apply A2;simp;omega
   simp only [hml,if_true,hhl,BQ]
   have hz:=af.sl (G:=G) (k:=k) (xs:=[]) (t:=Dv tk lo hi mx m h) (r:=rb) (b:=b) (cap:=0) f (by simp) (by simp) (by simp) (by simp) (Af _) (by
    unfold Dv
    cases mx with
    |some a=>
     simp only [Option.isSome_some,if_true];split
     ·rfl
     ·trivial
    |none=>
     simp only [Option.isSome_none,Ah,if_false];split
     ·rename_i hn;simp only [Aa,BF] at hn;obtain ⟨rfl,rfl⟩:=hn;simp only [cU,Ae] at em el eh;subst el em eh;have hc0:cap=0:=by simpa using hml
      have hx0:xs.length=0:=by omega
      simp only [hc0,hx0] at htk;simpa using htk
     ·trivial)
   simpa using hz
  ·simp only [hml,if_false,Option.map_some,cE];refine HN hk hp ho hv hl' hh' (by omega) ?_;unfold Dv
   cases mx with
   |some a=>
    simp only [Option.isSome_some,if_true];split
    ·rename_i hmh;subst hmh;rfl
    ·trivial
   |none=>
    simp only [Option.isSome_none,Ah,if_false];split
    ·rename_i hn;simp only [Aa,BF] at hn;obtain ⟨rfl,rfl⟩:=hn;simp only [cU,Ae] at em el eh;subst el em eh;simpa using htk
    ·trivial
end Go.V
namespace Go.V
open Go
def eg:AV->Option AV
 | .sl _ xs _=>some (.int .i64 xs.length)
 | .aN _ n _ _=>some (.int .i64 n)
 | .b9 _ n _ _ _=>some (.int .i64 n)
 | .str s=>some (.int .i64 s.length)
 |_=>none
def Jb (P:Program) (s:Bool) (t:TypeId):Bool:=
 match P.underlying t with
 |some .string=>s
 |some (.slice _)=> !s
 |_=>false
def isStr:AV->Bool
 | .str _=>true
 |_=>false
def Ve {P:Program} {w:World} {G:Gh} {t ty:TypeId} {x r:AV} {u:Value} (hx:af G x u) (ht:Jb P (isStr x) t=true) (he:eg x=some r):
  ∃ z,(Builtin.len_ #[t] ty #[u]).run P w= .ok z w/\af G r z:=by
 unfold Jb at ht
 cases hx<;>simp only [eg] at he<;>first
  |(cases he;done)
  |(injection he with he;subst he)
 all_goals
  split at ht
  ·rename_i h
   first
    |(cases ht;done)
    |(refine ⟨_,?_,.int _ _⟩
      have hsz:∀ s:List UInt8,(ByteArray.mk s.toArray).size=s.length:=fun s=>by simp [ByteArray.size]
      simp only [Builtin.len_,Sem.run_bind,Ch,List.getElem?_cons_zero,aQ h,Result.andThen_ok,goInt,hsz,Sem.run_pure])
  ·rename_i h
   first
    |(cases ht;done)
    |(refine ⟨_,?_,.int _ _⟩
      simp [Builtin.len_,aQ h,goInt])
  ·cases ht
def p6 (P:Program) (t:TypeId) (k:IntKind):Bool:=
 match P.underlying t with
 |some (.int k')=>k==k'
 |_=>false
def O5 {P:Program} {w:World} {G:Gh} {s d:TypeId} {k:IntKind} {x:AV} {u:Value} {n:Int} {k0:IntKind} (hx:af G x u) (e:x= .int k0 n) (hs:known P s=true) (hd:p6 P d k=true):
  (convert s d u).run P w= .ok (.int k (k.wrap n)) w:=by
 subst e;cases hx;unfold known at hs;unfold p6 at hd
 cases e1:P.underlying s with
 |none=>rw [e1] at hs;cases hs
 |some ds=>
  split at hd
  ·rename_i k' e2;have:k=k':=by simpa using hd
   subst this;simp only [convert,Sem.run_bind,aQ e1,aQ e2,Result.andThen_ok];rfl
  ·cases hd
def fh (P:Program) (t:TypeId):Bool:=
 match P.underlying t with
 |some .string=>true
 |_=>false
def Gu {P:Program} {w:World} {G:Gh} {s d:TypeId} {a:List UInt8} {u:Value} (hx:af G (.str a) u) (hs:fh P s=true) (hd:fh P d=true):
  (convert s d u).run P w= .ok u w:=by
 cases hx;unfold fh at hs hd;split at hs
 ·rename_i e1;split at hd
  ·rename_i e2;simp only [convert,Sem.run_bind,aQ e1,aQ e2,Result.andThen_ok];rfl
  ·cases hd
 ·cases hs
def tw:AV->Option UInt8
 | .int .u8 n=>if 0<=n/\n<256 then some (UInt8.ofNat n.toNat) else none
 |_=>none
def strOf:List AV->Option (List UInt8)
 |[]=>some []
 |x::xs=>(tw x).bind fun b=>(strOf xs).map fun s=>b::s
def Dc (b:UInt8):tw (ck b)=some b:=by
 have:(b.toNat:Int)<256:=by have:=b.toNat_lt;omega
 simp [tw,ck,this]
def GC (s:List UInt8):strOf (s.map ck)=some s:=by
 induction s with
 |nil=>rfl
 |cons b s ih=>simp [strOf,Dc,ih]
def pJ (P:Program) (t:TypeId):Bool:=
 match P.underlying t with
 |some (.slice e)=>p6 P e .u8 && cg P e 1
 |_=>false
def yt:∀ {xs:List AV} {s:List UInt8},strOf xs=some s->∃ ns:List Int,xs=ns.map (AV.int .u8)/\s=ns.map (fun n=>UInt8.ofNat n.toNat)
 |[],s,h=>by simp [strOf] at h;exact ⟨[],rfl,by simp [<-h]⟩
 |x::xs,s,h=>by
  simp only [strOf,Ar,Ag] at h;obtain ⟨b,h1,t,h2,rfl⟩:=h;obtain ⟨ns,rfl,rfl⟩:=yt h2;unfold tw at h1;split at h1
  ·rename_i n;split at h1
   ·injection h1 with h1
    exact ⟨n::ns,rfl,by simp [h1]⟩
   ·cases h1
  ·cases h1
def foldl_push (ns:List Int):∀ (b:ByteArray),ns.foldl (fun r n=>r.push (UInt8.ofNat n.toNat)) b=⟨b.data++(ns.map fun n=>UInt8.ofNat n.toNat).toArray⟩:=by
 induction ns with
 |nil=>intro b;cases b;simp
 |cons n ns ih=>
  intro b;rw [List.foldl_cons,ih]
  congr 1
  simp [ByteArray.push]
def U6 {P:Program} {wb:aT} {G:Gh} {S:St} {w:World} (h:ax wb G S w) {s d:TypeId} {xs:List AV} {tk:bE} {a:List UInt8} {u:Value} (hx:af G (.sl 1 xs tk) u) (ha:strOf xs=some a) (hs:pJ P s=true) (hd:fh P d=true):
  ∃ z,(convert s d u).run P w= .ok z w/\af G (.str a) z:=by
 unfold pJ at hs;split at hs
 ·rename_i e he;simp only [Aa] at hs;obtain ⟨hs1,hs2⟩:=hs
  have he2:P.underlying e=some (.int .u8):=by
   unfold p6 at hs1;split at hs1
   ·rename_i k' e2;have:IntKind.u8=k':=by simpa using hs1
    subst this;exact e2
   ·cases hs1
  have hd2:P.underlying d=some .string:=by
   unfold fh at hd;split at hd
   ·assumption
   ·cases hd
  refine ⟨_,?_,.str a⟩
  cases hx with
  |slnil=>
   simp [strOf] at ha;subst ha;rename_i ad;rw [run_convert_bytes_string w s d e ad 0 0 he he2 hd2];cases ad
   ·simp [Conv.bytesToString];rfl
   ·simp [Conv.bytesToString,loadCells,loadCellsFrom];rfl
  |sl f hk hp ho hv hc ht=>
   rename_i r b cap;obtain ⟨ns,rfl,rfl⟩:=yt ha;rw [run_convert_bytes_string w s d e _ _ _ he he2 hd2];have hat:At w G r b (flat (ns.map (AV.int .u8))):=At.Mk h hp ho hv
   have hfl:flat (ns.map (AV.int .u8))=ns.map (AV.int .u8):=by
    clear hk hp ho hv ha hat hc ht
    induction ns with
    |nil=>rfl
    |cons n ns ih=>rw [List.map_cons,dj,ih];rfl
   rw [hfl] at hat
   have hl:=run_loadCells_list (P:=P) w ⟨r,b,none⟩ (ns.map (Value.int .u8)) (fun j v e=>by
    rw [cE];simp only [Ap,Ag] at e;obtain ⟨n,hn,rfl⟩:=e;obtain ⟨v,h1,h2,_⟩:=hat j (.int .u8 n) (by simp [hn]);cases h2
    exact h1)
   rw [Ad] at hl;rw [Ad,run_bytesToString w _ _ _ ns hl,foldl_push]
   congr 3
   simp [ByteArray.empty,ByteArray.emptyWithCapacity];rfl
 ·cases hs
def s4 {P:Program} {w:World} {G:Gh} {t:TypeId} {n o:Nat} {ag:Bool} {cs:List AV} {vs:List Value} {r:AV} (hc:br G cs vs) (hk:known P t=true) (ha:eT P t=ag) (hs:cg P t n=true)
  (he:cC n ag (cs.drop o)=some r):∃ z,(part t vs.toArray o).run P w= .ok z w/\af G r z:=by
 simp only [part,Sem.run_bind,ie hk,Result.andThen_ok,ha];unfold cC at he
 cases ag with
 |true=>
  simp only [if_true] at he ⊢;split at he
  ·rename_i hn;injection he with he
   subst he;have hl:=hc.len;simp at hn;refine ⟨.agg ((vs.drop o).take n).toArray,?_,.agg (by simp;omega) ?_ ?_⟩
   ·simp only [Sem.run_bind,bR hs,Result.andThen_ok,Sem.run_pure]
    congr 2
    apply Aq;simp
   ·intro v hv;exact hc.one v (Ba (A5 hv))
   ·intro m c v h1 h2;rw [Bh,AO] at h1 h2
    by_cases hm:m<n
    ·rw [if_pos hm] at h1 h2;exact hc.rel _ c v h1 h2
    ·rw [if_neg hm] at h1;cases h1
  ·cases he
 |false=>
  simp only [Ah,if_false] at he ⊢;rw [AO] at he;obtain ⟨v,h1,h2,_⟩:=hc.get he;rw [Nat.add_zero] at h1;exact ⟨v,by simp [h1],h2⟩
def lx (off n:Nat) (ag:Bool):AV->Option AV
 | .agg cs=>cC n ag (cs.drop off)
 |_=>none
def IU (P:Program) (s:TypeId) (f off n:Nat) (ag:Bool):Bool:=
 match P.underlying s with
 |some (.struct fs)=>match fs[f]? with
  |some fd=>fd.offset==off && known P fd.type && (eT P fd.type==ag) && cg P fd.type n
  |none=>false
 |_=>false
def MQ {P:Program} {w:World} {G:Gh} {s:TypeId} {f off n:Nat} {ag:Bool} {x r:AV} {u:Value} (hx:af G x u) (ht:IU P s f off n ag=true) (he:lx off n ag x=some r):
  ∃ z,(Instr.field s u f).run P w= .ok z w/\af G r z:=by
 cases hx<;>simp only [lx] at he<;>first
  |(cases he;done)
  |skip
 rename_i cs vs hl ho hv;unfold IU at ht;split at ht
 ·rename_i fs hfs;split at ht
  ·rename_i fd hfd;simp only [Aa,beq_iff_eq] at ht;obtain ⟨⟨⟨h1,h2⟩,h3⟩,h4⟩:=ht;subst h1;obtain ⟨z,h5,h6⟩:=s4 (P:=P) (w:=w) (br.mk hl ho hv) h2 h3 h4 he;exact ⟨z,by simp only [Instr.field,Sem.run_bind,aQ hfs,Result.andThen_ok,hfd,asAgg,Sem.run_pure,h5],h6⟩
  ·cases ht
 ·cases ht
def jE (k len:Nat) (ag:Bool) (x i:AV):Option AV:=
 match x,i with
 | .agg cs,.int _ n=>if 0<=n/\n<len then cC k ag (cs.drop (n.toNat*k)) else none
 |_,_=>none
def EF (P:Program) (t:TypeId) (k len:Nat) (ag:Bool):Bool:=
 match P.underlying t with
 |some (.array n e)=>n==len && known P e && (eT P e==ag) && cg P e k
 |_=>false
def O6 {P:Program} {w:World} {G:Gh} {t:TypeId} {k len:Nat} {ag:Bool} {x i r:AV} {u v:Value} (hx:af G x u) (hi:af G i v) (ht:EF P t k len ag=true) (he:jE k len ag x i=some r):
  ∃ z,(Instr.index t u v).run P w= .ok z w/\af G r z:=by
 cases hx<;>cases hi<;>simp only [jE] at he<;>first
  |(cases he;done)
  |skip
 rename_i cs vs hl ho hv ki n;split at he
 ·rename_i hn;unfold EF at ht;split at ht
  ·rename_i m e hme;simp only [Aa,beq_iff_eq] at ht;obtain ⟨⟨⟨h1,h2⟩,h3⟩,h4⟩:=ht;subst h1;obtain ⟨z,h5,h6⟩:=s4 (P:=P) (w:=w) (br.mk hl ho hv) h2 h3 h4 he;exact ⟨z,by simp only [Instr.index,Sem.run_bind,asIntOf,Sem.run_pure,aQ hme,Result.andThen_ok,hn,and_self,if_true,bR h4,h5],h6⟩
  ·cases ht
 ·cases he
def kr (i:Nat):AV->Option AV
 | .aF vs=>vs[i]?
 |_=>none
def Vc {P:Program} {w:World} {G:Gh} {i:Nat} {x r:AV} {u:Value} (hx:af G x u) (he:kr i x=some r):∃ z,(Instr.extract u i).run P w= .ok z w/\af G r z:=by
 cases hx<;>simp only [kr] at he<;>first
  |(cases he;done)
  |skip
 rename_i cs vs hl hv
 have hi:i<vs.length:=by
  rcases Al i cs.length with h|h
  ·omega
  ·rw [As h] at he;cases he
 exact ⟨vs[i],by simp [Instr.extract,hi],hv i r _ he (by simp [hi])⟩
def qI (P:Program) (t:TypeId):Bool:=
 match P.underlying t with
 |some (.interface _)=>false
 |some _=>true
 |none=>false
def Vd {P:Program} {w:World} {t:TypeId} {u:Value} (ht:qI P t=true):(Instr.makeInterface t u).run P w= .ok (.iface t u) w:=by
 unfold qI at ht
 cases e:P.underlying t with
 |none=>rw [e] at ht;cases ht
 |some d=>
  rw [e] at ht;simp only [Instr.makeInterface,Sem.run_bind,aQ e,Result.andThen_ok]
  cases d<;>first
   |rfl
   |cases ht
def lE (x y:AV):Option AV:=
 match x,y with
 | .int k a,.int _ b=>some (.int k (if b<a then b else a))
 |_,_=>none
def Vg {P:Program} {w:World} {G:Gh} {ts:Array TypeId} {ty:TypeId} {x y r:AV} {u v:Value} (hx:af G x u) (hy:af G y v) (he:lE x y=some r):
  ∃ z,(Builtin.min_ ts ty #[u,v]).run P w= .ok z w/\af G r z:=by
 cases hx<;>cases hy<;>simp only [lE] at he<;>first
  |(cases he;done)
  |(injection he with he;subst he)
 exact ⟨_,rfl,.int _ _⟩
def nS:AV->Bool
 | .ptr _ _| .gp _ _| .eZ _ _ _ _=>true
 |_=>false
end Go.V
namespace Go.V
open Go
def dp (F:Fr):List AV->List (Nat×Nat×aj)->Option (List AV)
 |cs,[]=>some cs
 |cs,(o,n,x)::ps=>if (x.ev F).gB && (x.ev F).cells.length==n && decide (o+n<=cs.length) then dp F (cn cs o (x.ev F).cells) ps else none
def rB (places:Nat->Option (Nat×Nat)):List (Nat×Nat×aj)->List (Nat×Operand)->Bool
 |[],[]=>true
 |(o,n,x)::ps,(i,y)::qs=>decide (places i=some (o,n)) && x.fits y && rB places ps qs
 |_,_=>false
def Da {cs ds:List AV} {o:Nat} (h:o+ds.length<=cs.length):(cn cs o ds).length=cs.length:=by simp [cn];omega
def br.cn {G:Gh} {cs ds:List AV} {acc:Array Value} {us:List Value} (h:br G cs acc.toList) (hd:br G ds us) {o:Nat} (ho:o+ds.length<=cs.length):
  br G (V.cn cs o ds) ((us.zipIdx.foldl (fun (cs:Array Value) (x:Value×Nat)=>cs.setIfInBounds (o+x.2) x.1) acc)).toList:=by
 obtain ⟨h1,h2⟩:=Great.foldl_set o us 0 acc;have hl:=h.len;have hdl:=hd.len;simp at hl;refine ⟨(Da ho).trans (hl.trans (h1.symm.trans Array.length_toList.symm)),?_,?_⟩
 ·intro v hv;obtain ⟨m,hm⟩:=Cz.1 hv;rw [BG,h2 m] at hm;split at hm
  ·exact hd.one v (Cz.2 ⟨_,hm⟩)
  ·exact h.one v (Cz.2 ⟨m,by rw [BG];exact hm⟩)
 ·intro m c v hc hv;rw [J0 ho] at hc;rw [BG,h2 m] at hv;simp only [Nat.add_zero] at hv
  by_cases hin:o<=m/\m<o+ds.length
  ·rw [if_pos hin] at hc;rw [if_pos ⟨hin.1,by omega,by omega⟩] at hv;exact hd.rel _ c v hc hv
  ·rw [if_neg hin] at hc;rw [if_neg (by omega)] at hv;exact h.rel m c v hc (by rw [BG];exact hv)
def xj {G:Gh} {F:Fr} {a:Act} (hf:jv G F a) (places:Nat->Option (Nat×Nat)):∀ {ps:List (Nat×Nat×aj)} {qs:List (Nat×Operand)} {cs ds:List AV} {acc:Array Value},
  rB places ps qs=true->br G cs acc.toList->dp F cs ps=some ds->∃ r,Instr.fill places acc (qs.map fun p=>(p.1,a.eval p.2))=some r/\br G ds r.toList
 |[],[],cs,ds,acc,_,hc,hp=>by
  simp only [dp,Ae] at hp;subst hp;exact ⟨acc,rfl,hc⟩
 |[],_::_,_,_,_,h,_,_=>by cases h
 |_::_,[],_,_,_,h,_,_=>by cases h
 |(o,n,x)::ps,(i,y)::qs,cs,ds,acc,h,hc,hp=>by
  simp only [rB,Aa,decide_eq_true_eq] at h;obtain ⟨⟨h1,h2⟩,h3⟩:=h;simp only [dp] at hp;split at hp
  ·rename_i hcond;simp only [Aa,beq_iff_eq,decide_eq_true_eq] at hcond;obtain ⟨⟨h4,h5⟩,h6⟩:=hcond;have hx:=(aj.rel hf h2).cells h4;have hxl:(a.eval y).cells.size=n:=by have:=hx.len;simp at this;omega
   have hacc:acc.size=cs.length:=by have:=hc.len;simp at this;omega
   have hc':=hc.cn hx (o:=o) (by omega);obtain ⟨r,h7,h8⟩:=xj hf places h3 hc' hp;refine ⟨r,?_,h8⟩;simp only [List.map_cons];unfold Instr.fill;simp only [h1,hxl];rw [if_neg (by simp;omega),<-h7]
   congr 1
   rw [<-Array.foldl_toList,Array.toList_zipIdx]
  ·cases hp
def placesOf (P:Program) (t:TypeId):Option (Nat->Option (Nat×Nat)):=
 match P.underlying t with
 |some (.struct fs)=>some fun i=>match fs[i]? with
  |some f=>match P.info? f.type with
   |some j=>some (f.offset,j.size)
   |none=>none
  |none=>none
 |some (.array _ e)=>match P.info? e with
  |some j=>some fun i=>some (i*j.size,j.size)
  |none=>none
 |_=>none
def uU (P:Program) (t:TypeId):Bool:=
 match P.underlying t with
 |some (.struct fs)=>fs.all fun f=>(P.info? f.type).isSome
 |_=>true
def yT (P:Program) (t:TypeId) (z:List AV) (ps:List (Nat×Nat×aj)) (qs:List (Nat×Operand)):Bool:=
 fL P t z && uU P t && (match placesOf P t with
  |some pl=>rB pl ps qs
  |none=>false)
def oQ {P:Program} {w:World}:∀ (fs:List Field),(fs.all fun f=>(P.info? f.type).isSome)=true->
  (fs.mapM fun f=>do pure (f.offset,<-Go.sizeOf f.type):Sem (List (Nat×Nat))).run P w= .ok (fs.map fun f=>(f.offset,((P.info? f.type).map (·.size)).getD 0)) w
 |[],_=>by simp
 |f::fs,h=>by
  simp only [List.all_cons,Aa] at h;obtain ⟨j,hj⟩:=Bu.1 h.1;have ih:=oQ (P:=P) (w:=w) fs h.2;simp only [List.mapM_cons,Sem.run_bind,Go.sizeOf,typeInfo,run_program,hj,Result.andThen_ok,Sem.run_pure] at ih ⊢;rw [ih];simp [hj]
def run_build {P:Program} {w:World} {G:Gh} {F:Fr} {a:Act} (hf:jv G F a) {t:TypeId} {z ds:List AV} {ps:List (Nat×Nat×aj)} {qs:Array (Nat×Operand)} (ht:yT P t z ps qs.toList=true) (he:dp F z ps=some ds):
  ∃ v,(Instr.build t (qs.map fun p=>(p.1,a.eval p.2))).run P w= .ok v w/\af G (.agg ds) v:=by
 unfold yT at ht;simp only [Aa] at ht;obtain ⟨⟨h1,h2⟩,h3⟩:=ht;obtain ⟨zv,h4,h5⟩:=kJ h1 w;split at h3
 ·rename_i pl hpl;obtain ⟨r,h6,h7⟩:=xj hf pl h3 (acc:=zv.cells) (h5 G) he;have hqs:(qs.map fun p=>(p.1,a.eval p.2)).toList=qs.toList.map fun p=>(p.1,a.eval p.2):=by simp
  refine ⟨.agg r,?_,by have:=af.agg (G:=G) h7.len h7.one h7.rel;simpa using this⟩;unfold placesOf at hpl;split at hpl
  ·rename_i fs hfs;injection hpl with hpl
   unfold uU at h2;rw [hfs] at h2;simp only [Instr.build,Sem.run_bind,h4,Result.andThen_ok,aQ hfs]
   have hm:(fs.mapM fun f=>do pure (f.offset,<-Go.sizeOf f.type):Sem (Array (Nat×Nat))).run P w= .ok (fs.map fun f=>(f.offset,((P.info? f.type).map (·.size)).getD 0)) w:=by
    rw [<-Array.toArray_toList (xs:=fs),List.mapM_toArray];simp only [Sem.run_map];rw [oQ fs.toList (by simpa using h2)];simp only [Result.andThen_ok]
    congr 1
    apply Aq;simp
   rw [hm];simp only [Result.andThen_ok]
   have hpe:(fun i=>(fs.map fun f=>(f.offset,((P.info? f.type).map (·.size)).getD 0))[i]?)=pl:=by
    rw [<-hpl]
    funext i
    simp only [Array.getElem?_map]
    cases e:fs[i]? with
    |none=>rfl
    |some f=>
     have hall:=Array.all_eq_true_iff_forall_mem.1 h2 f (Array.mem_of_getElem? e);obtain ⟨j,hj⟩:=Bu.1 hall;simp [hj]
   rw [hqs,hpe,h6];simp
  ·rename_i n e hfs;split at hpl
   ·rename_i j hj;injection hpl with hpl
    have hs:(Go.sizeOf e).run P w= .ok j.size w:=by simp [Go.sizeOf,typeInfo,hj]
    simp only [Instr.build,Sem.run_bind,h4,Result.andThen_ok,aQ hfs,hs];rw [hqs,hpl,h6];simp
   ·cases hpl
  ·cases hpl
 ·cases h3
end Go.V
namespace Go.V
open Go
def Vp {P:Program} {wb:aT} {G:Gh} {S:St} {w:World} (h:ax wb G S w) {s d:TypeId} {b:List UInt8} {u:Value} (hx:af G (.str b) u) (hs:fh P s=true) (hd:pJ P d=true):
  dK P wb G (convert s d u) w (.sl 1 (b.map ck) .ai) S:=by
 cases hx;unfold fh at hs;split at hs
 ·rename_i e1;unfold pJ at hd;split at hd
  ·rename_i e he;simp only [Aa] at hd;obtain ⟨hk0,_⟩:=hd;unfold p6 at hk0;split at hk0
   ·rename_i k' hk1;have hk:P.underlying e=some (.int .u8):=by rw [hk1,<-(by simpa using hk0:IntKind.u8=k')]
    have hrun:=run_bytes_of_string (P:=P) w s d e ⟨b.toArray⟩ e1 he hk;generalize hcap:grownCap w (ByteArray.mk b.toArray).size 0 e=cap at hrun;have hge:b.length<=cap:=by rw [<-hcap];simpa [ByteArray.size] using grownCap_ge w (ByteArray.mk b.toArray).size 0 e
    have hrow:bytesRow (ByteArray.mk b.toArray) cap=((b.map fun x=>Value.int .u8 x.toNat)++List.replicate (cap-b.length) (Value.int .u8 0)).toArray:=by
     apply Aq;simp [bytesRow,ByteArray.size]
    rw [hrow] at hrun
    obtain ⟨G',h1,h2,h3,h4,h5⟩:=h.drew.promise (E:=e) (fr:=(((b.map fun x=>Value.int .u8 x.toNat)++List.replicate (cap-b.length) (Value.int .u8 0)).toArray.size,((b.map fun x=>Value.int .u8 x.toNat)++List.replicate (cap-b.length) (Value.int .u8 0)).toArray.size+1))
     (row:=(b.map fun x=>Value.int .u8 x.toNat)++List.replicate (cap-b.length) (Value.int .u8 0)) (vs:=b.map fun x=>Value.int .u8 x.toNat)
     (fun j v e'=>by
      rw [AF (by
       rcases Al j (b.map fun x=>Value.int .u8 x.toNat).length with h'|h'
       ·exact h'
       ·rw [As h'] at e';cases e')]
      exact e')
    refine ⟨_,_,G',hrun,h1,h4,?_⟩;have hsz:(ByteArray.mk b.toArray).size=(b.map ck).length:=by simp [ByteArray.size]
    rw [hsz]
    exact lY (G:=G') (k:=1) (xs:=b.map ck) (t:= .ai) (r:=w.heap.size) (b:=0) (cap:=cap) (fun x hm=>by obtain ⟨y,_,rfl⟩:=Ai.1 hm;rfl)
     (by rw [wS];exact (zM G' b)) (fun j v e'=>by rw [Aw];rw [show w.heap.size=w.drew.heap.size from rfl,h5];exact e') (by simpa using hge) trivial
   ·cases hk0
  ·cases hd
 ·cases hs
def M6 {P:Program} {wb:aT} {G:Gh} {S:St} {w:World} (h:ax wb G S w) {t e:TypeId} {i:TypeInfo} {z:Value} {k:Nat} {kl kc:IntKind} {c:Int} (ht:P.underlying t=some (.slice e)) (hi:P.info? e=some i) (hz:i.zero=some z)
  (h0:0<=c) (hb:(i.bytes:Int)*c<=281474976710656) (h63:c<=9223372036854775807) (hk:i.size=k):
  dK P wb G (Instr.makeSlice t (.int kl 0) (.int kc c)) w (.sl k [] (.tok S.nt)) {S with nt:=S.nt+1,live:=S.nt::S.live}:=by
 have hrun:=run_make (P:=P) w t e i z ht hi hz kl kc 0 c (Ax _) h0 hb h63;have hm:madeCells z.cells (c.toNat*i.size)=([]++(madeCells z.cells (c.toNat*i.size)).toList).toArray:=by simp
 obtain ⟨G',g1,g2,g3,g4,g5⟩:=h.MO (E:=e) (vs:=[]) (rest:=(madeCells z.cells (c.toNat*i.size)).toList);rw [hm] at hrun;refine ⟨_,_,G',hrun,g1,g5,?_⟩
 have:=af.sl (G:=G') (k:=k) (xs:=[]) (t:= .tok S.nt) (r:=w.heap.size) (b:=0) (cap:=c.toNat) (fun _=>undef) (by simp) (by simp) (by simp) (by simp) (Au _) (by
  show G'.τ S.nt=_;rw [g3]
  simp [size_madeCells,hk])
 simpa using this
def j8 (P:Program) (bytes:Nat) (z:AV) (t:TypeId):Bool:=
 match P.underlying t with
 |some (.slice e)=>fL P e [z] && (match P.info? e with
  |some i=>i.size==1 && i.bytes==bytes
  |none=>false)
 |_=>false
def mi (u:Value) (n:Nat):madeCells #[u] n=(List.replicate n u).toArray:=by
 unfold madeCells;apply Array.ext
 ·simp
 ·intro j h1 h2;simp [Nat.mod_one]
def Vo {P:Program} {wb:aT} {G:Gh} {S:St} {w:World} (h:ax wb G S w) {t:TypeId} {z:AV} {bytes:Nat} {kl kc:IntKind} {c:Int} (hf:j8 P bytes z t=true)
  (h0:0<=c) (hb:(bytes:Int)*c<=281474976710656) (h63:c<=9223372036854775807):
  dK P wb G (Instr.makeSlice t (.int kl c) (.int kc c)) w (.aN 1 c.toNat S.n 0) {S with n:=S.n+1,obj:=(S.n,List.replicate c.toNat z)::S.obj}:=by
 unfold j8 at hf;split at hf;rotate_left
 ·cases hf
 rename_i e ht;simp only [Aa] at hf;obtain ⟨hz,hi⟩:=hf;split at hi;rotate_left
 ·cases hi
 rename_i i hi';simp only [Aa,beq_iff_eq] at hi;obtain ⟨h1,h2⟩:=hi;subst h2;unfold fL at hz;rw [hi'] at hz;simp only at hz;split at hz;rotate_left
 ·cases hz
 rename_i v hzv;have hr:∀ G,br G [z] v.cells.toList:=fun G=>gE hz;have hrun:=run_make (P:=P) w t e i v ht hi' hzv kl kc c c h0 (Ax _) hb h63
 have hvc:∃ u,v.cells= #[u]:=by
  have hl:=(hr G).len;simp only [List.length_cons,List.length_nil,Array.length_toList] at hl
  match hc:v.cells,hl with
  |⟨[u]⟩,_=>exact ⟨u,rfl⟩
 obtain ⟨u,hu⟩:=hvc;rw [hu,h1,BD,mi] at hrun;have hr1:=hr G;rw [hu] at hr1
 have hcr:br G (List.replicate c.toNat z) (List.replicate c.toNat u):=by
  refine ⟨by simp,fun x hx=>hr1.one x (by rw [(Bb.1 hx).2];simp),fun m a b ha hb=>?_⟩;have e1:=(Bb.1 (Aj ha)).2;have e2:=(Bb.1 (Aj hb)).2;subst e1 e2;exact hr1.rel 0 _ _ rfl rfl
 obtain ⟨G',g1,g2,g3,g4⟩:=h.j9 (E:=e) (rest:=[]) hcr;rw [AB] at g4;refine ⟨_,_,G',hrun,g1,g4,?_⟩;exact af.aN (G:=G') 1 (n:=c.toNat) (o:=0) (cap:=c.toNat) g2 (Af _) (by rw [g3];simp)
def Vn {P:Program} {wb:aT} {G:Gh} {S:St} {w:World} (h:ax wb G S w) {t:TypeId} {kz:IntKind} {vz:Int} {bytes n:Nat} (hf:j8 P bytes (.int kz vz) t=true)
  (hb:bytes*n<=281474976710656) (h63:n<=9223372036854775807):
  dK P wb G (Instr.makeSlice t (.int .i64 (n:Nat)) (.int .i64 (n:Nat))) w (.sl 1 (List.replicate n (.int kz vz)) .ai) S:=by
 unfold j8 at hf;split at hf;rotate_left
 ·cases hf
 rename_i e ht;simp only [Aa] at hf;obtain ⟨hz,hi⟩:=hf;split at hi;rotate_left
 ·cases hi
 rename_i i hi';simp only [Aa,beq_iff_eq] at hi;obtain ⟨h1,h2⟩:=hi;subst h2;unfold fL at hz;rw [hi'] at hz;simp only at hz;split at hz;rotate_left
 ·cases hz
 rename_i v hzv;have hr:∀ G,br G [.int kz vz] v.cells.toList:=fun G=>gE hz;have hrun:=run_make (P:=P) w t e i v ht hi' hzv .i64 .i64 (n:Nat) (n:Nat) (by omega) (Ax _) (by rw [<-Int.natCast_mul];omega) (by omega)
 have hvc:∃ u,v.cells= #[u]:=by
  have hl:=(hr G).len;simp only [List.length_cons,List.length_nil,Array.length_toList] at hl
  match hc:v.cells,hl with
  |⟨[u]⟩,_=>exact ⟨u,rfl⟩
 obtain ⟨u,hu⟩:=hvc;rw [hu,h1,BD,mi] at hrun;obtain ⟨G',g1,g2,g3,g4,g5⟩:=h.promise (E:=e) (fr:=(0,0)) (row:=List.replicate ((n:Nat):Int).toNat u) (vs:=List.replicate ((n:Nat):Int).toNat u) (fun j v e'=>e');have hr1:=hr G';rw [hu] at hr1
 have hcr:br G' (List.replicate n (.int kz vz)) (List.replicate n u):=by
  refine ⟨by simp,fun x hx=>hr1.one x (by rw [(Bb.1 hx).2];simp),fun m a b ha hb=>?_⟩;have e1:=(Bb.1 (Aj ha)).2;have e2:=(Bb.1 (Aj hb)).2;subst e1 e2;exact hr1.rel 0 _ _ rfl rfl
 have hfl:∀ n:Nat,flat (List.replicate n (AV.int kz vz))=List.replicate n (AV.int kz vz):=fun n=>by
  induction n with
  |zero=>rfl
  |succ n ih=>rw [List.replicate_succ,dj,ih];rfl
 refine ⟨_,_,G',hrun,g1,g4,?_⟩;have:=lY (G:=G') (k:=1) (xs:=List.replicate n (.int kz vz)) (t:= .ai) (r:=w.heap.size) (b:=0) (cap:=n) (vs:=List.replicate n u) (fun x hx=>by rw [(Bb.1 hx).2];rfl) (by rw [hfl];exact hcr) (fun j v e'=>by rw [Aw,g5];simpa using e') (by simp) trivial;simpa using this
def qG:Nat->AV->AV->Option Bool
 |0,.bool a,.bool b=>some (a==b)
 |1,.cY,.cY=>some true
 |1,.cI _ _,.cY=>some false
 |2,.cV,.cV=>some true
 |2,.ptr _ _,.cV=>some false
 |2,.gp _ _,.cV=>some false
 |2,.eZ _ _ _ _,.cV=>some false
 |_,_,_=>none
def II (P:Program) (t:TypeId) (k:Nat) (y:Operand):Bool:=
 match P.underlying t with
 |some .bool=>k==0
 |some (.interface _)=>k==1 && (match y with
  | .const _=>true
  |_=>false)
 |some (.pointer _)=>k==2
 |_=>false
def iM (P:Program) (w:World) (t:TypeId) (d:TypeDesc) (hu:P.underlying t=some d) (x y:Value) (r:Bool)
  (h:∀ n,(Op.equalIn (n+1) t x y).run P w= .ok r w):(Op.equal t x y).run P w= .ok r w:=by
 unfold Op.equal Op.maxDepth;exact h 9999
def Va {P:Program} {w:World} {G:Gh} {t:TypeId} {neg:Bool} {k:Nat} {x y:AV} {ox oy:Operand} {u v:Value} {b:Bool} (hx:af G x u) (hy:af G y v) (ht:II P t k oy=true) (he:qG k x y=some b):
  ∃ z,(do eqGuard (if neg then .neq else .eql) t ox oy u v;binOp (if neg then .neq else .eql) t u v).run P w= .ok z w/\af G (.bool (neg !=b)) z:=by
 have fin:∀ (u v:Value),(∀ op:BinOp,(eqGuard op t ox oy u v).run P w= .ok () w)->(Op.equal t u v).run P w= .ok b w->(binOp .eql t u v=do pure (.bool (<-Op.equal t u v)))->(binOp .neq t u v=do pure (.bool (!(<-Op.equal t u v))))->
   ∃ z,(do eqGuard (if neg then .neq else .eql) t ox oy u v;binOp (if neg then .neq else .eql) t u v).run P w= .ok z w/\af G (.bool (neg !=b)) z:=by
  intro u v h1 h2 h3 h4;refine ⟨.bool (neg !=b),?_,.bool _⟩;cases neg
  ·simp only [Ah,if_false,Sem.run_bind,h1,Result.andThen_ok,h3,h2,Sem.run_pure];cases b<;>rfl
  ·simp only [if_true,Sem.run_bind,h1,Result.andThen_ok,h4,h2,Sem.run_pure];cases b<;>rfl
 unfold II at ht;unfold qG at he
 split at he<;>first
  |(cases he;done)
  |(injection he with he;subst he)
 ·cases hx;cases hy;split at ht
  ·rename_i hu;refine fin _ _ (fun op=>by unfold eqGuard;split<;>rfl) (iM P w t _ hu _ _ _ fun n=>?_) rfl rfl;simp only [Op.equalIn,Sem.run_bind,aQ hu,Result.andThen_ok,Sem.run_pure]
  all_goals (simp at ht)
 ·cases hx;cases hy;split at ht
  ·simp at ht
  ·rename_i ms hu;simp only [Aa] at ht;have ho:=ht.2;split at ho
   ·refine fin _ _ (fun op=>by unfold eqGuard;split<;>simp) (iM P w t _ hu _ _ _ fun n=>?_) rfl rfl;simp only [Op.equalIn,Sem.run_bind,aQ hu,Result.andThen_ok,Sem.run_pure]
   ·cases ho
  all_goals (simp at ht)
 ·cases hx;cases hy;split at ht
  ·simp at ht
  ·rename_i ms hu;refine fin _ _ (fun op=>by unfold eqGuard;split<;>rfl) (iM P w t _ hu _ _ _ fun n=>?_) rfl rfl;simp only [Op.equalIn,Sem.run_bind,aQ hu,Result.andThen_ok,Sem.run_pure]
  all_goals (simp at ht)
 all_goals
  cases hx;cases hy;split at ht
  ·simp at ht
  ·simp at ht
  ·rename_i el hu;refine fin _ _ (fun op=>by unfold eqGuard;split<;>rfl) (iM P w t _ hu _ _ _ fun n=>?_) rfl rfl;simp only [Op.equalIn,Sem.run_bind,aQ hu,Result.andThen_ok,Sem.run_pure,Option.isNone_none]
  ·simp at ht
def vX (neg:Bool):AV->Option AV
 | .sl _ (_::_) _=>some (.bool neg)
 | .aN _ _ _ _=>some (.bool neg)
 |_=>none
def OG (P:Program) (t:TypeId) (y:Operand):Bool:=
 (match P.underlying t with
  |some (.slice _)=>true
  |_=>false) && (match y with
  | .const (.slice none _ _)=>true
  |_=>false)
def aaO {P:Program} {w:World} {G:Gh} {t:TypeId} {neg:Bool} {x r:AV} {ox oy:Operand} {u:Value} {a:Act} (hx:af G x u) (ht:OG P t oy=true) (he:vX neg x=some r):
  ∃ z,(do eqGuard (if neg then .neq else .eql) t ox oy u (a.eval oy);binOp (if neg then .neq else .eql) t u (a.eval oy)).run P w= .ok z w/\af G r z:=by
 unfold OG at ht;simp only [Aa] at ht;obtain ⟨h1,h2⟩:=ht;split at h1;rotate_left
 ·cases h1
 rename_i e hu;split at h2;rotate_left
 ·cases h2
 have hbase:∃ ad n c,u= .slice (some ad) n c/\r= .bool neg:=by
  unfold vX at he;split at he
  ·injection he with he
   cases hx;exact ⟨_,_,_,rfl,he.symm⟩
  ·injection he with he
   cases hx;exact ⟨_,_,_,rfl,he.symm⟩
  ·cases he
 obtain ⟨ad,n,c,rfl,rfl⟩:=hbase;rename_i n1 c1;have heq:(Op.equal t (.slice (some ad) n c) (.slice none n1 c1)).run P w= .ok false w:=iM P w t _ hu _ _ _ fun n=>by simp only [Op.equalIn,Sem.run_bind,aQ hu,Result.andThen_ok,Sem.run_pure]
 refine ⟨.bool neg,?_,.bool _⟩;have hg:∀ op:BinOp,(eqGuard op t ox (.const (.slice none n1 c1)) (.slice (some ad) n c) (.slice none n1 c1)).run P w= .ok () w:=fun op=>by unfold eqGuard;split<;>rfl
 have e3:binOp .eql t (.slice (some ad) n c) (.slice none n1 c1)=(do pure (.bool (<-Op.equal t (.slice (some ad) n c) (.slice none n1 c1)))):=rfl;have e4:binOp .neq t (.slice (some ad) n c) (.slice none n1 c1)=(do pure (.bool (!(<-Op.equal t (.slice (some ad) n c) (.slice none n1 c1))))):=rfl;cases neg
 ·simp only [Ah,if_false,Sem.run_bind,Act.eval,hg,Result.andThen_ok,e3,heq,Sem.run_pure]
 ·simp only [if_true,Sem.run_bind,Act.eval,hg,Result.andThen_ok,e4,heq,Sem.run_pure];rfl
def C7 {G:Gh} {z:List AV} {v:Array Value} (h:br G z v.toList) (n:Nat) (hz:0<z.length):br G (flat (List.replicate n (.agg z))) (Builtin.zeroCells v n).toList:=by
 have hl:z.length=v.size:=by have:=h.len;simpa using this
 have hk:∀ x∈List.replicate n (AV.agg z),x.cells.length=z.length:=fun x hx=>by rw [BX hx];rfl
 have hlen:(flat (List.replicate n (AV.agg z))).length=n*z.length:=by rw [cO hk,Ci]
 have e:∀ m,m<n*v.size->(Builtin.zeroCells v n).toList[m]? =v.toList[m%v.size]? :=fun m hm=>by
  have hlt:m%v.size<v.size:=B0 _ (by omega);simp [Builtin.zeroCells,hm,getElem!_pos,hlt]
 have hsz:(Builtin.zeroCells v n).toList.length=n*v.size:=by simp [Builtin.zeroCells]
 refine ⟨by rw [hlen,hsz,hl],fun u hu=>?_,fun m c u h1 h2=>?_⟩
 ·obtain ⟨m,hm,e1⟩:=Bj.1 hu;have e2:(Builtin.zeroCells v n).toList[m]? =some u:=by rw [AJ hm,e1]
  rw [e m (by omega)] at e2;exact h.one u (Aj e2)
 ·have hm:m<n*v.size:=by
   rcases Al m (n*v.size) with h|h
   ·exact h
   ·rw [As (by omega)] at h2;cases h2
  rw [e m hm] at h2;have hd:m=m/z.length*z.length+m%z.length:=by have:=Nat.div_add_mod m z.length;rw [Nat.mul_comm] at this;omega
  rw [hd,flat_get hk (B0 _ hz),Ar] at h1;obtain ⟨x,h3,h4⟩:=h1;rw [BX (Aj h3)] at h4;rw [<-hl] at h2;exact h.rel _ c u h4 h2
def oq (k:Nat) (z:List AV) (S:St):AV->Option (AV×St)
 | .aN k' n l o=>if k'=k/\0<n then (S.get l).bind fun cs=>if aE cs then none else if o+n*k<=cs.length then some (.aF [],S.set l (cn cs o (flat (List.replicate n (.agg z))))) else none else none
 |_=>none
def IH (P:Program) (t:TypeId) (k:Nat) (z:List AV):Bool:=
 match P.underlying t with
 |some (.slice e)=>cg P e k && fL P e z && (z.length==k) && decide (0<k)
 |_=>false
def Vl {P:Program} {wb:aT} {G:Gh} {S S':St} {w:World} {t ty:TypeId} {k:Nat} {z:List AV} {x r:AV} {u:Value} (h:ax wb G S w) (hx:af G x u) (ht:IH P t k z=true) (he:oq k z S x=some (r,S')):
  dK P wb G (Builtin.clear_ #[t] ty #[u]) w r S':=by
 unfold IH at ht;split at ht;rotate_left
 ·cases ht
 rename_i e hu;simp only [Aa,beq_iff_eq,decide_eq_true_eq] at ht;obtain ⟨⟨⟨h1,h2⟩,h3⟩,h4⟩:=ht
 cases hx<;>simp only [oq] at he<;>first
  |(cases he;done)
  |skip
 rename_i k' n l o r0 cap hr hc hcz;split at he;rotate_left
 ·cases he
 rename_i hkn;obtain ⟨rfl,hn⟩:=hkn;simp only [Ar] at he;obtain ⟨cs,g1,he⟩:=he;split at he
 ·cases he
 rename_i hnb;have hnb:aE cs=false:=by simpa using hnb
 split at he;rotate_left
 ·cases he
 rename_i hle;injection he with he
 injection he with e1 e2
 subst e1 e2;obtain ⟨v,hv,hz⟩:=kJ h2 w;have hcr:=C7 (hz G) n (by omega);have hkr:∀ x∈List.replicate n (AV.agg z),x.cells.length=k':=fun x hx=>by rw [BX hx];exact h3
 have hlen:(flat (List.replicate n (AV.agg z))).length=n*k':=by rw [cO hkr,Ci]
 obtain ⟨r',hr',hm⟩:=h.obj l cs g1 hnb;obtain rfl:r0=r':=by rw [hr] at hr';exact AX hr'
 have hvl:=hcr.len
 have hst:=fj (P:=P) r0 o (Builtin.zeroCells v.cells n).toList w 0 hcr.one (fun j hj=>by
  obtain ⟨y,h5,_,_,h6⟩:=hm (o+0+j) (cs[o+0+j]'(by omega)) (by simp)
  exact ⟨⟨y,h5⟩,h6⟩)
 refine ⟨.tuple #[],putCells w r0 o (Builtin.zeroCells v.cells n).toList,G,?_,Gh.le_refl G,h.store g1 hr hcr (by omega) hnb,af.aF (vs:=[]) rfl (by simp)⟩;obtain ⟨n,rfl⟩:∃ m,n=m+1:=⟨n-1,by omega⟩;simp only [Builtin.clear_,Sem.run_bind,Ch,List.getElem?_cons_zero,aQ hu,Result.andThen_ok,hv,Nat.add_zero] at hst ⊢;rw [hst];rfl
end Go.V
namespace Go.V
open Go
def yD:AV->Value->Bool
 | .agg cs,.agg vs=>nw cs vs.toList
 |a,v=>constFits a v
def yE {G:Gh} {a:AV} {v:Value} (h:yD a v=true):af G a v:=by
 unfold yD at h;split at h
 ·rename_i cs vs;have hc:=gE (G:=G) h;have:=af.agg (G:=G) hc.len hc.one hc.rel;simpa using this
 ·exact mf h
def zC (P:Program) (t:TypeId) (z:AV):Bool:=
 (match P.underlying t with
  |some (.interface _)=>false
  |some _=>true
  |none=>false) && (match P.info? t with
  |some i=>(match i.zero with
   |some v=>yD z v
   |none=>false)
  |none=>false)
def mQ (t:TypeId) (z:AV):AV->Option AV
 | .cI t' v=>if t'=t then some (.aF [v,.bool true]) else some (.aF [z,.bool false])
 | .cY=>some (.aF [z,.bool false])
 |_=>none
def af.zD {G:Gh} {a b:AV} {u v:Value} (h1:af G a u) (h2:af G b v):af G (.aF [a,b]) (.tuple #[u,v]):=by
 have:=af.aF (G:=G) (cs:=[a,b]) (vs:=[u,v]) rfl (fun m c x e1 e2=>by
  match m with
  |0=>simp at e1 e2;subst e1 e2;exact h1
  |1=>simp at e1 e2;subst e1 e2;exact h2
  |m+2=>simp at e1)
 simpa using this
def Vi {P:Program} {w:World} {G:Gh} {t xt:TypeId} {z x r:AV} {u:Value} (hx:af G x u) (hf:zC P t z=true) (he:mQ t z x=some r):
  ∃ v,(Instr.typeAssert u xt t true).run P w= .ok v w/\af G r v:=by
 unfold zC at hf;simp only [Aa] at hf;obtain ⟨h1,h2⟩:=hf;split at h2;rotate_left
 ·cases h2
 rename_i i hi;split at h2;rotate_left
 ·cases h2
 rename_i zv hz;have hzv:(zeroValue t).run P w= .ok zv w:=by simp [zeroValue,typeInfo,hi,hz]
 have hzr:af G z zv:=yE h2
 have hni:∃ d,P.underlying t=some d/\∀ ms,d≠ .interface ms:=by
  split at h1
  ·cases h1
  ·rename_i d hn hd;exact ⟨d,hd,fun ms e=>hn ms e⟩
  ·cases h1
 obtain ⟨d,hd,hdi⟩:=hni;unfold mQ at he;split at he
 ·rename_i t' v;cases hx;rename_i v' hv';split at he
  ·rename_i ht;subst ht;injection he with he
   subst he;refine ⟨.tuple #[v',.bool true],?_,.zD hv' (.bool true)⟩;unfold Instr.typeAssert;simp only [Sem.run_bind,aQ hd,Result.andThen_ok]
   cases d with
   |interface ms=>exact absurd rfl (hdi ms)
   |_=>simp
  ·rename_i ht;injection he with he
   subst he;refine ⟨.tuple #[zv,.bool false],?_,.zD hzr (.bool false)⟩;unfold Instr.typeAssert;simp only [Sem.run_bind,aQ hd,Result.andThen_ok]
   cases d with
   |interface ms=>exact absurd rfl (hdi ms)
   |_=>simp [ht,hzv]
 ·cases hx;injection he with he
  subst he;refine ⟨.tuple #[zv,.bool false],?_,.zD hzr (.bool false)⟩;unfold Instr.typeAssert;simp only [Sem.run_bind,aQ hd,Result.andThen_ok]
  cases d with
  |interface ms=>exact absurd rfl (hdi ms)
  |_=>simp [hzv]
 ·cases he
def yR (P:Program) (t:TypeId):Bool:=
 t==yS && (match P.info? t with
  |some i=>(match i.zero with
   |some v=>(match v.cells.toList with
    |[.pointer none,.slice none 0 0]=>true
    |_=>false)
   |none=>false)
  |none=>false)
def ax.aao {wb:aT} {G:Gh} {S:St} {w:World} (h:ax wb G S w) (hno:∀ l s,S.get l≠some [.bu s]):
  ∃ G',G.le G'/\G'.σ S.n=some w.heap.size/\ax wb G' {S with n:=S.n+1,obj:=(S.n,[.bu []])::S.obj} (w.alloc (.cells #[.pointer none,.slice none 0 0] yS)):=by
 have hnone:G.σ S.n=none:=by
  cases e:G.σ S.n with
  |none=>rfl
  |some r=>have:=(h.bT _ _ e).1;omega
 let G':Gh:={G with σ:=eE G.σ S.n (some w.heap.size)}
 have hle:G.le G':=by
  refine ⟨fun _ _ _ e=>e,fun l r e=>?_,fun _ _ e=>e,rfl,fun _ _ _=>rfl⟩;have:l≠S.n:=fun e'=>by rw [e',hnone] at e;cases e
  simp [G',eE,this,e]
 have ha:=h.alloc (.cells #[.pointer none,.slice none 0 0] yS)
 have hφ:∀ o,G.φ w.heap.size o=none:=fun o=>by
  cases e:G.φ w.heap.size o with
  |none=>rfl
  |some v=>have:=h.lt e;omega
 have hold:∀ l cs,l≠S.n->List.lookup l ((S.n,[AV.bu []])::S.obj)=some cs->S.get l=some cs:=fun l cs hl e=>by
  have hb:(l==S.n)=false:=by simpa using hl
  simp only [List.lookup_cons,hb] at e;exact e
 refine ⟨G',hle,by simp [G'],?_⟩
 refine {prom:=ha.prom,room:=fun l cs r hg hnb e=>by
           by_cases hl:l=S.n
           ·subst hl;simp [St.get] at hg;subst hg;cases hnb
           ·simp only [G',eE,hl,if_false] at e
            exact ha.room l cs r (hold l cs hl hg) hnb e,apart:=?_,obj:=?_,inj:=?_,bT:=?_,tok:=?_,bQ:=ha.bQ,cP:=ha.cP,base:=ha.base,still:=ha.still,cH:=ha.cH,beta:=ha.beta,cF:=?_,bu:=?_,dy:=?_}
 ·intro l ds r o hget hd e
  by_cases hl:l=S.n
  ·subst hl;simp [G'] at e;subst e;exact hφ o
  ·simp only [G',eE,hl,if_false] at e;exact h.apart l ds r o (hold l ds hl hget) hd e
 ·intro l ds hl hnb
  by_cases hln:l=S.n
  ·subst hln;simp [St.get] at hl;subst hl;cases hnb
  ·obtain ⟨r,hr',hm⟩:=ha.obj l ds (hold l ds hln hl) hnb;exact ⟨r,hle.σ _ _ hr',fun m c hmc=>by obtain ⟨v,h1,h2,h3,h4⟩:=hm m c hmc;exact ⟨v,h1,h2.mono hle,h3,h4⟩⟩
 ·intro l l' r cs1 cs2 g1 g2 d1 d2 e e'
  by_cases hl:l=S.n<;>by_cases hl':l'=S.n
  ·rw [hl,hl']
  ·subst hl;simp only [G',cM] at e;simp only [G',eE,hl',if_false] at e';injection e with e
   have:=(h.bT _ _ e').2.2;omega
  ·subst hl';simp only [G',cM] at e';simp only [G',eE,hl,if_false] at e;injection e' with e'
   have:=(h.bT _ _ e).2.2;omega
  ·simp only [G',eE,hl,hl',if_false] at e e';exact h.inj l l' r cs1 cs2 (hold l _ hl g1) (hold l' _ hl' g2) d1 d2 e e'
 ·intro l r e
  by_cases hl:l=S.n
  ·subst hl;simp only [G',cM] at e;injection e with e
   subst e;have:=h.base.1;simp;omega
  ·simp only [G',eE,hl,if_false] at e;have:=ha.bT l r e;exact ⟨by simp;omega,this.2⟩
 ·intro t ht;obtain ⟨r,e,z,h1,h4⟩:=ha.tok t ht;refine ⟨r,e,z,h1,fun i h5 h6=>?_⟩;obtain ⟨h2,h3,h7,h8,h9⟩:=h4 i h5 h6;refine ⟨h2,fun l el=>?_,h7,h8,h9⟩
  by_cases hl:l=S.n
  ·subst hl;simp only [G',cM] at el;injection el with el
   have:=(h.bQ t _ h1).2 (by show e<z;omega);simp only at this;omega
  ·simp only [G',eE,hl,if_false] at el;exact h3 l el
 ·intro g cs hg m c hmc;obtain ⟨v,h1,h2,h3⟩:=ha.cF g cs hg m c hmc;exact ⟨v,h1,h2.mono hle,h3⟩
 ·intro l s hl hsp0
  by_cases hln:l=S.n
  ·subst hln;simp [St.get] at hl;subst hl;refine ⟨w.heap.size,by simp [G'],.pointer none,.slice none 0 0,.inl rfl,by simp [World.alloc,-World.alloc_eq],.inl ⟨rfl,rfl⟩⟩
  ·obtain ⟨r,hr,hb⟩:=h.bu l s (hold l _ hln hl) hsp0
   cases s with
   |bu s=>exact (hno l s (hold l _ hln hl)).elim
   |aL l' o ts vs=>
    obtain ⟨rfl,h2,h3,h4⟩:=hb;exact ⟨_,hle.σ _ _ hr,rfl,by rw [cj _ _ (h.bT _ _ hr).2.2];exact h2,h3,h4.mono hle⟩
   |eX ks vs=>
    obtain ⟨es,cl,es',c,h2,h3,h4,h5⟩:=hb;exact ⟨_,hle.σ _ _ hr,es,cl,es',c,by rw [cj _ _ (h.bT _ _ hr).2.2];exact h2,h3,h4.mono hle,h5⟩
   |jH E b=>
    obtain ⟨fz,h2⟩:=hb;exact ⟨_,hle.σ _ _ hr,fz,by rw [cj _ _ (h.bT _ _ hr).2.2];exact h2⟩
   |aF _=>exact ⟨_,hle.σ _ _ hr,trivial⟩
   |_=>cases hsp0
 ·intro l l' s s' h1 h2
  have key:∀ l s,List.lookup l ((S.n,[AV.bu []])::S.obj)=some [AV.bu s]->l=S.n:=fun l s e=>by
   by_cases hln:l=S.n
   ·exact hln
   ·exact (hno l s (hold l _ hln e)).elim
  rw [key l s h1,key l' s' h2]
def lF (S:St):Bool:=S.obj.all fun p=> !aE p.2
def OH {S:St} (h:lF S=true):∀ l s,S.get l≠some [.bu s]:=by
 intro l s e
 have key:∀ ob:List (Nat×List AV),ob.all (fun p=> !aE p.2)=true->List.lookup l ob≠some [.bu s]:=by
  intro ob
  induction ob with
  |nil=>intro _ h;cases h
  |cons p ob ih=>
   intro h e;simp only [List.all_cons,Aa] at h;obtain ⟨m,cs⟩:=p;rw [List.lookup_cons] at e;split at e
   ·injection e with e
    subst e;simp [aE] at h
   ·exact ih h.2 e
 exact key S.obj h e
def JU {P:Program} {wb:aT} {G:Gh} {S:St} {w:World} (h:ax wb G S w) {t:TypeId} (hz:yR P t=true) (hno:lF S=true):
  dK P wb G (Instr.alloc t true (.tuple #[])) w (.ptr S.n 0) {S with n:=S.n+1,obj:=(S.n,[.bu []])::S.obj}:=by
 unfold yR at hz;simp only [Aa,beq_iff_eq] at hz;obtain ⟨rfl,hz⟩:=hz;split at hz;rotate_left
 ·cases hz
 rename_i i hi;split at hz;rotate_left
 ·cases hz
 rename_i v hv;split at hz;rotate_left
 ·cases hz
 rename_i hc;have hcells:v.cells= #[.pointer none,.slice none 0 0]:=by apply Aq;simpa using hc
 obtain ⟨G',h1,h2,h3⟩:=h.aao (OH hno);refine ⟨.pointer (some ⟨w.heap.size,0,none⟩),w.alloc (.cells v.cells yS),G',?_,h1,by rw [hcells];exact h3,.ptr h2⟩;have hzv:(zeroValue yS).run P w= .ok v w:=by simp [zeroValue,typeInfo,hi,hv]
 simp only [Instr.alloc,Sem.run_bind,hzv,Result.andThen_ok];simp [newVar,newRow]
end Go.V
namespace Go.V
open Go
def Gf {w:World} {l r i:Nat} {o:Obj} {v:Value} (ho:w.heap[l]? =some o) (hn:jO o=true) (hc:w.cell? ⟨r,i,none⟩=some v):r≠l:=by
 rintro rfl;unfold World.cell? at hc;rw [show (Addr.mk r i none).block=r from rfl,ho] at hc
 cases o<;>first
  |(simp at hc;done)
  |(simp [jO] at hn;done)
def po {w:World} {l:Nat} (o:Obj) {r i:Nat} (h:r≠l):(w.putObj l o).cell? ⟨r,i,none⟩=w.cell? ⟨r,i,none⟩/\(w.putObj l o).frozen? ⟨r,i,none⟩=w.frozen? ⟨r,i,none⟩:=by
 have:=World.putObj_heap_other (w:=w) (o:=o) h;exact ⟨by simp only [World.cell?,this],by simp only [World.frozen?,this]⟩
def abi {w:World} {l r k:Nat} {o:Obj} (ho:w.heap[l]? =some o) (hn:jO o=true) (h:se w r k) (o':Obj):se (w.putObj l o') r k:=by
 have hne:r≠l:=by
  rintro rfl;obtain ⟨⟨T,h1⟩,_⟩:=h;unfold World.shape? at h1;rw [ho] at h1
  cases o<;>first
   |(simp at h1;done)
   |(simp [jO] at hn;done)
 exact h.to (by simp only [World.shape?,World.putObj_heap_other hne]) (po o' hne).2
def ax.nc {wb:aT} {G:Gh} {S:St} {w:World} (h:ax wb G S w) {k l:Nat} {c0 c':AV} (hk:S.get k=some [c0]) (hd0:eU [c0]=false) (hb':aE [c']=true) (hnb:∀ s,c'≠ .bu s) (h1:G.σ k=some l) {o o':Obj} (h2:w.heap[l]? =some o) (h3:jO o=true)
  (hs:pD wb G (S.set k [c']) (w.putObj l o') l c'):ax wb G (S.set k [c']) (w.putObj l o'):=by
 have hd:=h.bT k l h1
 have hc:∀ {r i:Nat} {v:Value},w.cell? ⟨r,i,none⟩=some v->(w.putObj l o').cell? ⟨r,i,none⟩=some v/\(w.putObj l o').frozen? ⟨r,i,none⟩=w.frozen? ⟨r,i,none⟩:=fun hv=>by
  have hne:=Gf h2 h3 hv;exact ⟨(po o' hne).1.trans hv,(po o' hne).2⟩
 have hget:∀ {k' cs},aE cs=false->(S.set k [c']).get k'=some cs->S.get k'=some cs:=fun {k' cs} hb e=>by
  simp only [St.get,St.set,List.lookup_cons] at e;split at e
  ·injection e with e
   subst e;rw [hb'] at hb;cases hb
  ·exact e
 refine {prom:=fun r o v e=>(hc (h.prom r o v e)).1,room:=fun k' cs r hg hb e=>by
           obtain ⟨q1,q2⟩:=h.room k' cs r (hget hb hg) hb e
           exact ⟨⟨q1.1,abi h2 h3 q1.2 o'⟩,fun m hm=>by
            obtain ⟨⟨v,q3⟩,q4⟩:=q2 m hm
            exact ⟨⟨v,(hc q3).1⟩,by rw [(hc q3).2];exact q4⟩⟩,apart:=?_,obj:=?_,inj:=fun a b r c1 c2 g1 g2 d1 d2=>by
           have key:∀ {k' cs},(S.set k [c']).get k'=some cs->eU cs=false->∃ cs',S.get k'=some cs'/\eU cs'=false:=fun {k' cs} e d=>by
            simp only [St.get,St.set,List.lookup_cons] at e;split at e
            ·rename_i hkk;have:k'=k:=by simpa using hkk
             subst this;exact ⟨_,hk,hd0⟩
            ·exact ⟨_,e,d⟩
           obtain ⟨_,p1,p2⟩:=key g1 d1;obtain ⟨_,p3,p4⟩:=key g2 d2
           exact h.inj a b r _ _ p1 p3 p2 p4,bT:=fun l r e=>by rw [World.putObj_size];exact h.bT l r e,tok:=?_,bQ:=fun t x e=>by rw [World.putObj_size];exact h.bQ t x e,cP:=h.cP,base:=⟨by rw [World.putObj_size];exact h.base.1,fun r hr=>?_⟩,cH:=h.cH,still:=h.still,beta:=h.beta,cF:=h.cF,bu:=?_,dy:=?_}
 ·intro k' cs r i hg hd e;simp only [St.get,St.set,List.lookup_cons] at hg;split at hg
  ·rename_i hkk;have:k'=k:=by simpa using hkk
   subst this;exact h.apart _ _ r i hk hd0 e
  ·exact h.apart k' cs r i hg hd e
 ·intro k' cs hg hb;obtain ⟨r,hr,hm⟩:=h.obj k' cs (hget hb hg) hb;refine ⟨r,hr,fun m c hmc=>?_⟩;obtain ⟨v,a1,a2,a3,a4⟩:=hm m c hmc;exact ⟨v,(hc a1).1,a2,a3,by rw [(hc a1).2];exact a4⟩
 ·intro t ht;obtain ⟨r,e,z,a1,a2⟩:=h.tok t ht;refine ⟨r,e,z,a1,fun i b1 b2=>?_⟩;obtain ⟨c1,c2,⟨v,c3⟩,c4,c5⟩:=a2 i b1 b2;exact ⟨c1,c2,⟨v,(hc c3).1⟩,by rw [(hc c3).2];exact c4,c5⟩
 ·rw [World.putObj_heap_other (by omega)];exact h.base.2 r hr
 ·intro k' c hg hb;simp only [St.get,St.set,List.lookup_cons] at hg;split at hg
  ·rename_i hkk;have:k'=k:=by simpa using hkk
   subst this;simp only [Ae,BV,and_true] at hg;subst hg;exact ⟨l,h1,hs⟩
  ·rename_i hkk;obtain ⟨r,hr,hs'⟩:=h.bu k' c hg hb
   cases hds:eU [c] with
   |true=>
    unfold eU at hds;split at hds
    ·rename_i e;injection e with e
     subst e;exact ⟨r,hr,trivial⟩
    ·cases hds
   |false=>
   refine ⟨r,hr,hs'.to (Gh.le_refl _) (fun _=>World.putObj_heap_other ?_) fun g _ _ _ hal=>⟨World.putObj_heap_other fun e=>hal.2.1 k (by rw [h1,e]),hal⟩⟩;rintro rfl;have:=h.inj _ _ _ _ _ hg hk hds hd0 hr h1;subst this;simp at hkk
 ·intro a b s s' ha hb
  have key:∀ {a s},(S.set k [c']).get a=some [.bu s]->S.get a=some [.bu s]:=fun {a s} e=>by
   simp only [St.get,St.set,List.lookup_cons] at e;split at e
   ·exact absurd (by simpa using e) (hnb _)
   ·exact e
  exact h.dy a b s s' (key ha) (key hb)
def ax.zj {wb:aT} {G:Gh} {S:St} {w:World} (h:ax wb G S w) {o:Obj} {c0:AV} (hb0:aE [c0]=true) (hnb:∀ s,c0≠ .bu s)
  (hs0:∀ G',G.le G'->pD wb G' {S with n:=S.n+1,obj:=(S.n,[c0])::S.obj} (w.alloc o) w.heap.size c0):∃ G',G.le G'/\G'.σ S.n=some w.heap.size/\ax wb G' {S with n:=S.n+1,obj:=(S.n,[c0])::S.obj} (w.alloc o):=by
 have hnone:G.σ S.n=none:=by
  cases e:G.σ S.n with
  |none=>rfl
  |some r=>have:=(h.bT _ _ e).1;omega
 let G':Gh:={G with σ:=eE G.σ S.n (some w.heap.size)}
 have hle:G.le G':=by
  refine ⟨fun _ _ _ e=>e,fun l r e=>?_,fun _ _ e=>e,rfl,fun _ _ _=>rfl⟩;have:l≠S.n:=fun e'=>by rw [e',hnone] at e;cases e
  simp [G',eE,this,e]
 have ha:=h.alloc o
 have hφ:∀ i,G.φ w.heap.size i=none:=fun i=>by
  cases e:G.φ w.heap.size i with
  |none=>rfl
  |some v=>have:=h.lt e;omega
 have hget:∀ {k' cs},k'≠S.n->List.lookup k' ((S.n,[c0])::S.obj)=some cs->S.get k'=some cs:=fun {k' cs} hne e=>by
  have hb:(k'==S.n)=false:=by simpa using hne
  rw [List.lookup_cons,hb] at e;exact e
 have hnew:∀ {cs},List.lookup S.n ((S.n,[c0])::S.obj)=some cs->cs=[c0]:=fun {cs} e=>by
  rw [List.lookup_cons,beq_self_eq_true] at e;exact (AX e).symm
 have hσ:∀ {l r},l≠S.n->G'.σ l=some r->G.σ l=some r:=fun {l r} hl e=>by simpa only [G',eE,hl,if_false] using e
 have hσn:∀ {r},G'.σ S.n=some r->r=w.heap.size:=fun {r} e=>by simp only [G',cM] at e;exact (AX e).symm
 have hroom:∀ k' cs r,List.lookup k' ((S.n,[c0])::S.obj)=some cs->aE cs=false->G'.σ k'=some r->(cs.length<=G'.κ k'/\se (w.alloc o) r (G'.κ k'))/\∀ m,m<G'.κ k'->(∃ v,(w.alloc o).cell? ⟨r,m,none⟩=some v)/\(w.alloc o).frozen? ⟨r,m,none⟩=false:=fun k' cs r hg hb e=>by
  by_cases hl:k'=S.n
  ·subst hl;rw [hnew hg,hb0] at hb;cases hb
  ·exact ha.room k' cs r (hget hl hg) hb (hσ hl e)
 refine ⟨G',hle,by simp [G'],{prom:=ha.prom,room:=hroom,apart:=?_,obj:=?_,inj:=?_,bT:=?_,tok:=?_,bQ:=ha.bQ,cP:=ha.cP,base:=ha.base,still:=ha.still,cH:=ha.cH,beta:=ha.beta,cF:=?_,bu:=?_,dy:=?_}⟩
 ·intro k' cs r i hg hd e
  by_cases hl:k'=S.n
  ·subst hl;rw [hσn e];exact hφ i
  ·exact h.apart k' cs r i (hget hl hg) hd (hσ hl e)
 ·intro k' cs hg hb
  by_cases hl:k'=S.n
  ·subst hl;rw [hnew hg,hb0] at hb;cases hb
  ·obtain ⟨r,hr,hm⟩:=ha.obj k' cs (hget hl hg) hb;exact ⟨r,hle.σ _ _ hr,fun m c hmc=>by obtain ⟨v,a1,a2,a3,a4⟩:=hm m c hmc;exact ⟨v,a1,a2.mono hle,a3,a4⟩⟩
 ·intro a b r c1 c2 g1 g2 d1 d2 ea eb
  by_cases h1:a=S.n<;>by_cases h2:b=S.n
  ·rw [h1,h2]
  ·subst h1;have e1:=hσn ea;have:=(h.bT _ _ (hσ h2 eb)).2.2;omega
  ·subst h2;have e1:=hσn eb;have:=(h.bT _ _ (hσ h1 ea)).2.2;omega
  ·exact h.inj _ _ _ _ _ (hget h1 g1) (hget h2 g2) d1 d2 (hσ h1 ea) (hσ h2 eb)
 ·intro a r ea
  by_cases h1:a=S.n
  ·subst h1;have e1:=hσn ea;have:=h.base.1;simp;omega
  ·have:=h.bT _ _ (hσ h1 ea);simp;omega
 ·intro t ht;obtain ⟨r,e,z,a1,a2⟩:=ha.tok t ht;refine ⟨r,e,z,a1,fun i b1 b2=>?_⟩;obtain ⟨c1,c2,c3⟩:=a2 i b1 b2;refine ⟨c1,fun a ea=>?_,c3⟩
  by_cases hl:a=S.n
  ·subst hl;have e1:=hσn ea;have:=(h.bQ t _ a1).2 (by show e<z;omega);simp only at this;omega
  ·exact c2 a (hσ hl ea)
 ·intro g cs hg m c hmc;obtain ⟨v,a1,a2,a3⟩:=ha.cF g cs hg m c hmc;exact ⟨v,a1,a2.mono hle,a3⟩
 ·intro k' c hg hb
  by_cases hl:k'=S.n
  ·subst hl;have:=hnew hg;simp only [BV,and_true] at this;subst this;exact ⟨w.heap.size,by simp [G'],hs0 G' hle⟩
  ·obtain ⟨r,hr,hs⟩:=h.bu k' c (hget hl hg) hb;refine ⟨r,hle.σ _ _ hr,hs.to hle (fun hlt=>cj _ _ hlt) fun g hg' _ _ hal=>⟨cj _ _ hg',hal.1,fun a ea=>?_,hal.2.2⟩⟩
   by_cases ha':a=S.n
   ·subst ha';have:=hσn ea;omega
   ·exact hal.2.1 a (hσ ha' ea)
 ·intro a b s s' h1 h2
  have key:∀ {a s},List.lookup a ((S.n,[c0])::S.obj)=some [AV.bu s]->S.get a=some [.bu s]:=fun {a s} e=>by
   by_cases hl:a=S.n
   ·subst hl;exact absurd (by simpa using (hnew e).symm) (hnb _)
   ·exact hget hl e
  exact h.dy a b s s' (key h1) (key h2)
def Dq (x y:AV):Option AV:=
 match x,y with
 | .int k a,.int _ b=>some (.int k (if b>a then b else a))
 |_,_=>none
def Vf {P:Program} {w:World} {G:Gh} {ts:Array TypeId} {ty:TypeId} {x y r:AV} {u v:Value} (hx:af G x u) (hy:af G y v) (he:Dq x y=some r):
  ∃ z,(Builtin.max_ ts ty #[u,v]).run P w= .ok z w/\af G r z:=by
 cases hx<;>cases hy<;>simp only [Dq] at he<;>first
  |(cases he;done)
  |(injection he with he;subst he)
 exact ⟨_,rfl,.int _ _⟩
def qc {wb:aT} {G:Gh} {S:St} {w:World} (h:ax wb G S w) {k r:Nat} {ks vs:List AV} (hk:S.get k=some [.eX ks vs]) (hr:G.σ k=some r):Ih G w r ks vs:=by
 obtain ⟨r',h1,h2⟩:=h.bu k _ hk rfl;rw [hr] at h1;cases h1;exact h2
def St.cK (S:St) (l:Nat) (cs:List AV):St:={S with obj:=S.obj.map fun p=>if p.1=l then (l,cs) else p}
def we {S:St} {l k:Nat} {cs c0:List AV} (h:S.get l=some c0):(S.cK l cs).get k=(S.set l cs).get k:=by
 have key:∀ ob:List (Nat×List AV),(ob.lookup l).isSome->List.lookup k (ob.map fun p=>if p.1=l then (l,cs) else p)=List.lookup k ((l,cs)::ob):=by
  intro ob
  induction ob with
  |nil=>intro h;cases h
  |cons p ob ih=>
   obtain ⟨a,b⟩:=p;intro hs
   by_cases ha:a=l
   ·subst ha
    by_cases hka:k=a
    ·subst hka;simp [List.lookup_cons]
    ·have hb:(k==a)=false:=by simpa using hka
     have:∀ o2:List (Nat×List AV),List.lookup k (o2.map fun p=>if p.1=a then (a,cs) else p)=List.lookup k o2:=by
      intro o2
      induction o2 with
      |nil=>rfl
      |cons q o2 ih2=>
       obtain ⟨a2,b2⟩:=q
       by_cases h2:a2=a
       ·subst h2;simp [List.lookup_cons,hb,ih2]
       ·simp [List.lookup_cons,h2,ih2]
     simp [List.lookup_cons,hb,this]
   ·have hla:(l==a)=false:=by simpa using fun e=>ha e.symm
    rw [List.lookup_cons,hla] at hs;have:=ih hs;simp only [List.map_cons,ha,if_false,List.lookup_cons] at this ⊢;rw [this]
    by_cases hka:k=a
    ·subst hka;have:(k==l)=false:=by simpa using ha
     simp [this]
    ·have hb:(k==a)=false:=by simpa using hka
     simp [hb]
 exact key S.obj (by unfold St.get at h;rw [h];rfl)
def ax.get_congr {wb:aT} {G:Gh} {S S':St} {w:World} (h:ax wb G S w) (hg:∀ l,S'.get l=S.get l) (h1:S'.n=S.n) (h2:S'.nt=S.nt) (h3:S'.live=S.live) (h4:S'.gl=S.gl):ax wb G S' w:=by
 refine {prom:=h.prom,room:=fun l cs r e=>h.room l cs r (hg l▸e),apart:=fun l cs r o e=>h.apart l cs r o (hg l▸e),obj:=fun l cs e=>h.obj l cs (hg l▸e),inj:=fun l l' r c c' e e'=>h.inj l l' r c c' (hg l▸e) (hg l'▸e'),bT:=by rw [h1];exact h.bT,tok:=by rw [h3];exact h.tok,bQ:=by rw [h2];exact h.bQ,cP:=by rw [h3];exact h.cP,base:=h.base,cH:=h.cH,still:=h.still,beta:=h.beta,cF:=by rw [h4];exact h.cF,bu:=fun l c e hb=>?_,dy:=fun l l' s s' e e'=>h.dy l l' s s' (hg l▸e) (hg l'▸e')};obtain ⟨r,a,b⟩:=h.bu l c (hg l▸e) hb;exact ⟨r,a,b.to (Gh.le_refl G) (fun _=>rfl) fun g _ _ _ hal=>⟨rfl,hal.1,hal.2.1,by rw [h3];exact hal.2.2⟩⟩
def ax.cK {wb:aT} {G:Gh} {S:St} {w:World} {l:Nat} {cs c0:List AV} (hg:S.get l=some c0) (h:ax wb G (S.set l cs) w):ax wb G (S.cK l cs) w:=h.get_congr (fun _=>we hg) rfl rfl rfl rfl
def iS:AV->AV->Option Bool
 | .int k a,.int k' b=>if k=k' then some (a==b) else none
 | .str a,.str b=>some (a==b)
 |_,_=>none
def lD:Bool->AV->Bool
 |false,.int _ _=>true
 |true,.str _=>true
 |_,_=>false
def mK (P:Program) (t:TypeId) (s:Bool):Bool:=
 match P.underlying t with
 |some (.int _)=> !s
 |some .string=>s
 |_=>false
def kG (P:Program) (t:TypeId) (s:Bool) (z:Option AV):Bool:=
 match P.underlying t with
 |some (.map k e)=>mK P k s && (match z with
  |none=>true
  |some z=>(match P.info? e with
   |some i=>(match i.zero with
    |some v=>yD z v
    |none=>false)
   |none=>false))
 |_=>false
def eK (x:AV):List AV->List AV->Option (Option AV)
 |[],[]=>some none
 |k::ks,v::vs=>match iS x k with
  |some true=>some (some v)
  |some false=>eK x ks vs
  |none=>none
 |_,_=>none
def wj (x y:AV):List AV->List AV->Option (Option (List AV))
 |[],[]=>some none
 |k::ks,v::vs=>match iS x k with
  |some true=>some (some (y::vs))
  |some false=>(wj x y ks vs).map (Option.map (v:: ·))
  |none=>none
 |_,_=>none
def oH:AV->Int->Bool
 | .int _ b,a=>decide (b<a)
 |_,_=>false
def du {α:Type} (a:Int) (y:α):List AV->List α->List α
 |k::ks,v::vs=>if oH k a then v::du a y ks vs else y::v::vs
 |_,vs=>y::vs
def mX (ok:Bool) (v:AV) (b:Bool):AV:=if ok then .aF [v,.bool b] else v
def nI (ok s:Bool) (z:AV) (S:St) (m x:AV):Option AV:=
 if lD s x then (match m with
  | .gM=>some (mX ok z false)
  | .mp l=>(match S.get l with
   |some [.eX ks vs]=>(eK x ks vs).map fun r=>match r with
    |some v=>mX ok v true
    |none=>mX ok z false
   |_=>none)
  |_=>none) else none
def ui (s:Bool) (S:St) (m x y:AV):Option St:=
 if lD s x then (match m with
  | .mp l=>(match S.get l with
   |some [.eX ks vs]=>(wj x y ks vs).map fun r=>match r with
    |some vs'=>S.cK l [.eX ks vs']
    |none=>S.cK l [.eX (ks++[x]) (vs++[y])]
   |_=>none)
  |_=>none) else none
def ew (q:IntKind) (a:Int) (S:St) (m y:AV):Option St:=
 match m with
 | .mp l=>(match S.get l with
  |some [.eX ks vs]=>(match eK (.int q a) ks vs with
   |some none=>some (S.cK l [.eX (du a (.int q a) ks ks) (du a y ks vs)])
   |_=>none)
  |_=>none)
 |_=>none
def ra {P:Program} {t:TypeId} {s:Bool} {z:Option AV} (h:kG P t s z=true):∃ k e,P.underlying t=some (.map k e)/\mK P k s=true/\∀ z0,z=some z0->∃ v,(∀ w,(zeroValue e).run P w= .ok v w)/\∀ G,af G z0 v:=by
 unfold kG at h;split at h
 ·rename_i k e he;rw [Aa] at h;refine ⟨k,e,he,h.1,fun z0 hz=>?_⟩;subst hz;have h2:=h.2;simp only at h2;split at h2
  ·rename_i i hi;split at h2
   ·rename_i v hv;exact ⟨v,fun w=>by simp [zeroValue,typeInfo,hi,hv],fun G=>yE h2⟩
   ·cases h2
  ·cases h2
 ·cases h
def run_checkKey {P:Program} {t:TypeId} {s:Bool} (ht:mK P t s=true) (b:Bool) (n:Nat) (v:Value) (w:World):(Instr.checkKey b (n+1) t v).run P w= .ok () w:=by
 unfold mK at ht;split at ht
 ·rename_i q hq;simp [Instr.checkKey,aQ hq]
 ·rename_i hq;simp [Instr.checkKey,aQ hq]
 ·cases ht
def mJ {G:Gh} {x k:AV} {u v:Value} {b:Bool} (hx:af G x u) (hk:af G k v) (he:iS x k=some b):(b=true↔u=v)/\∀ c,dH c v->dH c u:=by
 cases x<;>cases k<;>simp only [iS] at he<;>first
  |(cases he;done)
  |skip
 ·cases hx;cases hk;split at he
  ·rename_i h;subst h;injection he with he
   subst he;refine ⟨by simp,fun c hc=>?_⟩
   cases c with
   |some q=>obtain ⟨a,h⟩:=hc;cases h;exact ⟨_,rfl⟩
   |none=>obtain ⟨a,h⟩:=hc;cases h
  ·cases he
 ·cases hx;cases hk;injection he with he
  subst he;refine ⟨?_,fun c hc=>?_⟩
  ·simp only [beq_iff_eq,Value.string.injEq,ByteArray.mk.injEq];constructor
   ·intro h;rw [h]
   ·intro h;simpa using h
  ·cases c with
   |some q=>obtain ⟨a,h⟩:=hc;cases h
   |none=>exact ⟨_,rfl⟩
def oG {G:Gh} {x:AV} {u:Value} (hx:af G x u) {c:Option IntKind}:∀ {ks vs:List AV} {es:List MapEntry} {r:Option AV},eP G ks vs es->(∀ e∈es,dH c e.key)->eK x ks vs=some r->
  (es=[]∨dH c u)/\((r=none/\∀ e∈es,e.key≠u)∨∃ v e,r=some v/\e∈es/\e.key=u/\af G v e.val)
 |[],[],[],r,_,_,h=>by
  simp only [eK,Ae] at h;exact ⟨.inl rfl,.inl ⟨h.symm,by simp⟩⟩
 |k::ks,v::vs,e::es,r,hr,hc,h=>by
  simp only [eK] at h;split at h
  ·rename_i he;injection h with h
   obtain ⟨h1,h2⟩:=mJ hx hr.1.1 he;exact ⟨.inr (h2 c (hc e (by simp))),.inr ⟨v,e,h.symm,by simp,(h1.1 rfl).symm,hr.1.2⟩⟩
  ·rename_i he;obtain ⟨h1,h2⟩:=mJ hx hr.1.1 he;refine ⟨.inr (h2 c (hc e (by simp))),?_⟩;rcases (oG hx hr.2 (fun e' he'=>hc e' (by simp [he'])) h).2 with ⟨a1,a2⟩|⟨v',e',a1,a2,a3⟩
   ·refine .inl ⟨a1,fun e' he'=>?_⟩;rcases Ab.1 he' with rfl|he'
    ·exact fun h=>by simpa using h1.2 h.symm
    ·exact a2 e' he'
   ·exact .inr ⟨v',e',a1,by simp [a2],a3⟩
  ·cases h
 |[],[],_::_,_,hr,_,_=>hr.elim
 |[],_::_,es,_,hr,_,_=>by cases es<;>exact hr.elim
 |_::_,[],es,_,hr,_,_=>by cases es<;>exact hr.elim
 |_::_,_::_,[],_,hr,_,_=>hr.elim
def Gx {P:Program} {t:TypeId} {d:TypeDesc} {s:Bool} {c:Option IntKind} {u v:Value} (hd:P.underlying t=some d) (ht:mK P t s=true) (hs:(s=true/\c=none)∨(s=false/\∃ q,c=some q)) (hu:dH c u) (hv:dH c v):
  ∃ b,Instr.sameNow d u v=some b/\(b=true↔u=v):=by
 unfold mK at ht;rw [hd] at ht;rcases hs with ⟨rfl,rfl⟩|⟨rfl,q,rfl⟩
 ·obtain ⟨a,rfl⟩:=hu;obtain ⟨b,rfl⟩:=hv
  split at ht<;>first
   |(cases ht;done)
   |skip
  rename_i hq;cases hq;refine ⟨_,rfl,?_⟩;obtain ⟨⟨la⟩⟩:=a;obtain ⟨⟨lb⟩⟩:=b;show (ByteArray.mk la.toArray==ByteArray.mk lb.toArray)=true↔Value.string (ByteArray.mk la.toArray)=Value.string (ByteArray.mk lb.toArray);rw [beq_toListBytes,ByteArray.toList_mk,ByteArray.toList_mk];simp
 ·obtain ⟨a,rfl⟩:=hu;obtain ⟨b,rfl⟩:=hv
  split at ht<;>first
   |(cases ht;done)
   |skip
  rename_i hq;cases hq;exact ⟨a==b,by simp [Instr.sameNow],by simp⟩
def o5 {P:Program} {t:TypeId} {d:TypeDesc} {s:Bool} {c:Option IntKind} {u:Value} (hd:P.underlying t=some d) (ht:mK P t s=true) (hs:(s=true/\c=none)∨(s=false/\∃ q,c=some q)) (hu:dH c u):∀ (es:List MapEntry) (i:Nat),(∀ e∈es,dH c e.key)->
  ((∀ e∈es,e.key≠u)->Instr.findNow d u es i=some none)/\(∀ e∈es,e.key=u->es.Pairwise (fun a b=>a.key≠b.key)->∃ j,es[j]? =some e/\Instr.findNow d u es i=some (some (i+j,e.val)))
 |[],i,_=>⟨fun _=>rfl,fun e he=>by cases he⟩
 |e0::es,i,hc=>by
  obtain ⟨b,h1,h2⟩:=Gx hd ht hs hu (hc e0 (by simp));have ih:=o5 hd ht hs hu es (i+1) fun e he=>hc e (by simp [he]);refine ⟨fun hn=>?_,fun e he hk hp=>?_⟩
  ·have:b=false:=by
    cases b with
    |false=>rfl
    |true=>exact absurd (h2.1 rfl).symm (hn e0 (by simp))
   subst this;simp only [Instr.findNow,h1];exact ih.1 fun e he=>hn e (by simp [he])
  ·cases b with
   |true=>
    have h3:=h2.1 rfl;rcases Ab.1 he with rfl|he
    ·exact ⟨0,rfl,by simp [Instr.findNow,h1]⟩
    ·exact absurd (h3.symm.trans hk.symm) ((AQ.1 hp).1 e he)
   |false=>
    rcases Ab.1 he with rfl|he
    ·have:=h2.2 hk.symm;cases this
    ·obtain ⟨j,a1,a2⟩:=ih.2 e he hk (AQ.1 hp).2;refine ⟨j+1,by simpa using a1,?_⟩;simp only [Instr.findNow,h1];rw [a2]
     congr 3
     omega
def KJ {G:Gh} {x:AV} {u:Value} {s:Bool} {c:Option IntKind} (hx:af G x u) (ho:lD s x=true) (hu:dH c u):(s=true/\c=none)∨(s=false/\∃ q,c=some q):=by
 cases s<;>cases x<;>simp only [lD] at ho<;>first
  |(cases ho;done)
  |skip
 ·cases hx
  cases c with
  |some q=>exact .inr ⟨rfl,q,rfl⟩
  |none=>obtain ⟨_,h⟩:=hu;cases h
 ·cases hx
  cases c with
  |some q=>obtain ⟨_,h⟩:=hu;cases h
  |none=>exact .inl ⟨rfl,rfl⟩
def rG {P:Program} {t:TypeId} {s:Bool} {G:Gh} {x:AV} {u:Value} {c:Option IntKind} {ks vs:List AV} {es':List MapEntry} {es:Array MapEntry} {r:Option AV} (ht:mK P t s=true) (hx:af G x u) (ho:lD s x=true)
  (hp:es.toList.Perm es') (hr:eP G ks vs es') (hc:∀ e∈es',dH c e.key) (hn:es'.Pairwise fun a b=>a.key≠b.key) (h:eK x ks vs=some r) (w:World):
  (r=none/\(∀ e∈es',e.key≠u)/\(Instr.findKey t u es.toList).run P w= .ok none w)∨∃ v e j,r=some v/\e∈es'/\e.key=u/\af G v e.val/\es[j]? =some e/\(Instr.findKey t u es.toList).run P w= .ok (some (j,e.val)) w:=by
 cases hd:P.underlying t with
 |none=>simp [mK,hd] at ht
 |some d=>
  obtain ⟨h1,h2⟩:=oG hx hr hc h;have hc':∀ e∈es.toList,dH c e.key:=fun e he=>hc e (hp.mem_iff.1 he);have hn':es.toList.Pairwise fun a b=>a.key≠b.key:=(hp.pairwise_iff (fun h=>AT h)).2 hn;rcases h2 with ⟨a1,a2⟩|⟨v,e,a1,a2,a3,a4⟩
  ·refine .inl ⟨a1,a2,?_⟩;rcases h1 with h1|h1
   ·subst h1;have:es.toList=[]:=List.Perm.eq_nil hp;simp [Instr.findKey,aQ hd,this,Instr.findNow]
   ·have:=(o5 hd ht (KJ hx ho h1) h1 es.toList 0 hc').1 fun e he=>a2 e (hp.mem_iff.1 he);simp [Instr.findKey,aQ hd,this]
  ·have h1':dH c u:=a3▸hc e a2;obtain ⟨j,b1,b2⟩:=(o5 hd ht (KJ hx ho h1') h1' es.toList 0 hc').2 e (hp.mem_iff.2 a2) a3 hn';refine .inr ⟨v,e,j,a1,a2,a3,a4,by simpa using b1,?_⟩;rw [Aw] at b2;simp [Instr.findKey,aQ hd,b2]
def pa {G:Gh} (ok:Bool) {v:AV} {u:Value} (b:Bool) (h:af G v u):af G (mX ok v b) (if ok then .tuple #[u,.bool b] else u):=by
 cases ok
 ·exact h
 ·exact .zD h (.bool b)
def O7 {P:Program} {wb:aT} {w:World} {G:Gh} {S:St} {ok s:Bool} {z m x r:AV} {u v:Value} {t:TypeId} (hS:ax wb G S w) (ht:kG P t s (some z)=true) (hm:af G m u) (hx:af G x v) (he:nI ok s z S m x=some r):
  ∃ y,(Instr.lookup t u v ok).run P w= .ok y w/\af G r y:=by
 obtain ⟨k,e,h1,h2,h3⟩:=ra ht;obtain ⟨zv,hz,hzr⟩:=h3 z rfl;unfold nI at he;split at he;rotate_left
 ·cases he
 rename_i ho;split at he
 ·cases hm;injection he with he
  subst he;refine ⟨_,?_,pa ok false (hzr G)⟩
  have hf:(Instr.findKey k v []).run P w= .ok none w:=by
   rcases rG (es:= #[]) (es':=[]) (ks:=[]) (vs:=[]) (c:=none) (r:=none) h2 hx ho (.refl _) trivial (by simp) .nil rfl w with ⟨_,_,h⟩|⟨_,_,_,h,_⟩
   ·exact h
   ·cases h
  simp [Instr.lookup,aQ h1,run_checkKey h2,hf,hz]
 ·rename_i l;cases hm;rename_i q hq;split at he
  ·rename_i ks vs hg;obtain ⟨es,clock,es',c,a1,a2,a3,a4,a5,a6⟩:=qc hS hg hq;have hget:(getObj q).run P w= .ok (.map es clock) w:=by simp [getObj,Sem.run,a1]
   simp only [Ag] at he;obtain ⟨r0,hr0,rfl⟩:=he;rcases rG h2 hx ho a2 a3 a4 a5 hr0 w with ⟨rfl,_,hf⟩|⟨v0,e0,j,rfl,_,_,hv,_,hf⟩
   ·refine ⟨_,?_,pa ok false (hzr G)⟩;simp [Instr.lookup,aQ h1,hget,run_checkKey h2,hf,hz]
   ·refine ⟨_,?_,pa ok true hv⟩;simp [Instr.lookup,aQ h1,hget,run_checkKey h2,hf]
  ·cases he
 ·cases he
def CY {P:Program} {wb:aT} {w:World} {G:Gh} {S:St} (hS:ax wb G S w) (t:TypeId):dK P wb G (Instr.makeMap t none) w (.mp S.n) {S with n:=S.n+1,obj:=(S.n,[.eX [] []])::S.obj}:=by
 obtain ⟨G',h1,h2,h3⟩:=hS.zj (o:= .map #[] 0) (c0:= .eX [] []) rfl (by simp) fun G' _=>⟨#[],0,[],none,World.alloc_heap_new w _,.refl _,trivial,by simp,.nil,by simp,by simp⟩;exact ⟨_,_,G',rfl,h1,h3,.mp h2⟩
def yn {P:Program} {wb:aT} {w:World} {G:Gh} {S:St} (hS:ax wb G S w) {t:TypeId} {s:Bool} (ht:kG P t s none=true) (q:IntKind) (n:Int):dK P wb G (Instr.makeMap t (some (.int q n))) w (.mp S.n) {S with n:=S.n+1,obj:=(S.n,[.eX [] []])::S.obj}:=by
 obtain ⟨k,e,h1,_⟩:=ra ht;obtain ⟨v,w',G',a1,a2⟩:=CY (P:=P) hS t;refine ⟨v,w',G',?_,a2⟩;rw [<-a1];simp [Instr.makeMap,aQ h1,asInt,asIntOf]
def MU {P:Program} {c:Option IntKind} {u:Value} (hu:dH c u) (w:World):(Instr.keyThatStays u u).run P w= .ok u w:=by
 have:Instr.sameBits 10000 u u=true:=by
  cases c with
  |some q=>obtain ⟨a,rfl⟩:=hu;simp [Instr.sameBits]
  |none=>obtain ⟨a,rfl⟩:=hu;simp only [Instr.sameBits];rw [beq_toListBytes];simp
 simp [Instr.keyThatStays,this]
open Classical in
def FU {G:Gh} {x y:AV} {u z:Value} (hx:af G x u) (hy:af G y z):∀ {ks vs:List AV} {es:List MapEntry} {r:Option (List AV)},eP G ks vs es->(es.Pairwise fun a b=>a.key≠b.key)->wj x y ks vs=some r->
  ∃ o,eK x ks vs=some o/\(o.isSome=r.isSome)/\∀ vs',r=some vs'->eP G ks vs' (es.map fun e=>if e.key=u then {e with key:=u,val:=z} else e)
 |[],[],[],r,_,_,h=>by
  simp only [wj,Ae] at h;subst h;exact ⟨none,rfl,rfl,fun vs' h=>by cases h⟩
 |k::ks,v::vs,e::es,r,hr,hp,h=>by
  simp only [wj] at h;split at h
  ·rename_i he;injection h with h
   subst h;obtain ⟨h1,_⟩:=mJ hx hr.1.1 he;have h2:=h1.1 rfl;refine ⟨some v,by simp only [eK,he],rfl,fun vs' h=>?_⟩;injection h with h
   subst h;rw [List.map_cons,if_pos h2.symm];refine ⟨⟨h2▸hr.1.1,hy⟩,?_⟩
   have:(es.map fun e=>if e.key=u then {e with key:=u,val:=z} else e)=es:=by
    rw [Bi (g:=id)]
    ·simp
    ·intro e' he';rw [if_neg fun h=>(AQ.1 hp).1 e' he' (h2.symm.trans h.symm)];rfl
   rw [this];exact hr.2
  ·rename_i he;obtain ⟨h1,_⟩:=mJ hx hr.1.1 he;simp only [Ag] at h;obtain ⟨r',h2,rfl⟩:=h;obtain ⟨o,a1,a2,a3⟩:=FU hx hy hr.2 (AQ.1 hp).2 h2;refine ⟨o,by simp only [eK,he];exact a1,by cases r'<;>simpa using a2,fun vs' h=>?_⟩
   cases r' with
   |none=>cases h
   |some w=>
    injection h with h
    subst h;rw [List.map_cons,if_neg fun h=>by simpa using h1.2 h.symm];exact ⟨hr.1,a3 w rfl⟩
  ·cases h
 |[],[],_::_,_,hr,_,_=>hr.elim
 |[],_::_,es,_,hr,_,_=>by cases es<;>exact hr.elim
 |_::_,[],es,_,hr,_,_=>by cases es<;>exact hr.elim
 |_::_,_::_,[],_,hr,_,_=>hr.elim
def eP.snoc {G:Gh} {x y:AV} {e:MapEntry} (h:af G x e.key/\af G y e.val):∀ {ks vs:List AV} {es:List MapEntry},eP G ks vs es->eP G (ks++[x]) (vs++[y]) (es++[e])
 |[],[],[],_=>⟨h,trivial⟩
 |_::_,_::_,_::_,hr=>⟨hr.1,eP.snoc h hr.2⟩
 |[],[],_::_,hr=>hr.elim
 |[],_::_,es,hr=>by cases es<;>exact hr.elim
 |_::_,[],es,hr=>by cases es<;>exact hr.elim
 |_::_,_::_,[],hr=>hr.elim
def eP.ins {G:Gh} {x y:AV} {e:MapEntry} (a:Int) (h:af G x e.key/\af G y e.val):∀ {ks vs:List AV} {es:List MapEntry},eP G ks vs es->eP G (du a x ks ks) (du a y ks vs) (du a e ks es)
 |[],[],[],_=>⟨h,trivial⟩
 |k::ks,_::_,_::_,hr=>by
  simp only [du];split
  ·exact ⟨hr.1,eP.ins a h hr.2⟩
  ·exact ⟨h,hr.1,hr.2⟩
 |[],[],_::_,hr=>hr.elim
 |[],_::_,es,hr=>by cases es<;>exact hr.elim
 |_::_,[],es,hr=>by cases es<;>exact hr.elim
 |_::_,_::_,[],hr=>hr.elim
def CX {α:Type} (a:Int) (y:α):∀ (ks:List AV) (vs:List α),(du a y ks vs).Perm (y::vs)
 |[],_=> .refl _
 |_::_,[]=> .refl _
 |k::ks,v::vs=>by
  simp only [du];split
  ·exact ((CX a y ks vs).cons v).trans (.swap _ _ _)
  ·exact .refl _
def Fu {G:Gh} {u z:Value} {es:Array MapEntry} {es' es'':List MapEntry} {clock:Nat} {c c':Option IntKind} {w:World} {r:Nat} {ks' vs':List AV} (hlt:r<w.heap.size) (hb:Dy es clock) (hp:es.toList.Perm es') (hcu:dH c' u) (hc:∀ e∈es',dH c e.key) (hcc:es'=[]∨c=c')
  (hn:es'.Pairwise fun a b=>a.key≠b.key) (hnew:∀ e∈es',e.key≠u) (hpp:es''.Perm ({key:=u,val:=z,born:=clock}::es')) (hr:eP G ks' vs' es''):
  Ih G (w.putObj r (.map (es.push {key:=u,val:=z,born:=clock}) (clock+1))) r ks' vs':=by
 refine ⟨_,_,es'',c',World.putObj_heap_same hlt,?_,hr,fun e he=>?_,?_,?_,fun e he=>?_⟩
 ·rw [Cs];exact ((hp.append_right _).trans (CB)).trans hpp.symm
 ·rcases Ab.1 (hpp.mem_iff.1 he) with rfl|he
  ·exact hcu
  ·rcases hcc with h|h
   ·rw [h] at he;cases he
   ·exact h▸hc e he
 ·refine (hpp.pairwise_iff (fun h=>AT h)).2 (AQ.2 ⟨fun e he=>(hnew e he).symm,hn⟩)
 ·rw [Cs,AP,List.nodup_append];refine ⟨hb.1,by simp,fun a ha b hb'=>?_⟩;obtain ⟨e,he,rfl⟩:=Ai.1 ha;obtain rfl:=Ay.1 hb';exact Bt (hb.2 e he)
 ·rw [Cs] at he;rcases AA.1 he with he|he
  ·exact Nat.lt_succ_of_lt (hb.2 e he)
  ·obtain rfl:=Ay.1 he;exact Br _
def Lu {G:Gh} {s:Bool} {x:AV} {u:Value} (hx:af G x u) (ho:lD s x=true):∃ c,dH c u:=by
 cases s<;>cases x<;>simp only [lD] at ho<;>first
  |(cases ho;done)
  |skip
 ·cases hx;exact ⟨some _,_,rfl⟩
 ·cases hx;exact ⟨none,_,rfl⟩
def z6 {c c':Option IntKind} {u:Value} (h:dH c u) (h':dH c' u):c=c':=by cases c<;>cases c'<;>obtain ⟨_,rfl⟩:=h<;>obtain ⟨_,h'⟩:=h'<;>cases h'<;>rfl
open Classical in
def HM {P:Program} {wb:aT} {w:World} {G:Gh} {S S':St} {s:Bool} {m x y:AV} {u v z:Value} {t:TypeId} (hS:ax wb G S w) (ht:kG P t s none=true) (hm:af G m u) (hx:af G x v) (hy:af G y z) (he:ui s S m x y=some S'):
  ∃ w',(Instr.mapUpdate t u v z).run P w= .ok () w'/\ax wb G S' w':=by
 obtain ⟨k,e,h1,h2,_⟩:=ra ht;unfold ui at he;split at he;rotate_left
 ·cases he
 rename_i ho;split at he;rotate_left
 ·cases he
 rename_i l;cases hm;rename_i q hq;split at he;rotate_left
 ·cases he
 rename_i ks vs hg;obtain ⟨es,clock,es',c,a1,a2,a3,a4,a5,a6⟩:=qc hS hg hq;have hget:(getObj q).run P w= .ok (.map es clock) w:=by simp [getObj,Sem.run,a1]
 have hset:∀ o,(setObj q o).run P w= .ok () (w.putObj q o):=fun o=>by simp [setObj,Sem.run,a1,World.putObj]
 have hlt:q<w.heap.size:=(hS.bT _ _ hq).2.2;simp only [Ag] at he;obtain ⟨r,hr,rfl⟩:=he;obtain ⟨o,b1,b2,b3⟩:=FU hx hy a3 a5 hr;have hcu:=(oG hx a3 a4 b1).1;obtain ⟨c',hc'⟩:=Lu hx ho;rcases rG h2 hx ho a2 a3 a4 a5 b1 w with ⟨rfl,hno,hf⟩|⟨v0,e0,j,rfl,hm0,hk0,_,hj,hf⟩
 ·cases r with
  |some _=>cases b2
  |none=>
   refine ⟨w.putObj q (.map (es.push {key:=v,val:=z,born:=clock}) (clock+1)),by simp [Instr.mapUpdate,aQ h1,hget,run_checkKey h2,hf,hset],.cK hg (hS.nc hg rfl rfl (by simp) hq a1 rfl ?_)⟩;exact Fu (es'':=es'++[{key:=v,val:=z,born:=clock}]) hlt a6 a2 hc' a4 (hcu.imp id fun h=>z6 h hc') a5 hno (CB) (a3.snoc ⟨hx,hy⟩)
 ·cases r with
  |none=>cases b2
  |some vs'=>
   have hmod:(es.modify j fun e=>{e with key:=v,val:=z}).toList=es.toList.map fun e=>if e.key=v then {e with key:=v,val:=z} else e:=by
    apply List.ext_getElem?;intro i;rw [BG,Cq,Ap,BG];split
    ·rename_i hij;subst hij;rw [hj];simp [hk0]
    ·rename_i hij
     cases hi:es[i]? with
     |none=>rfl
     |some ei=>
      have hne:ei.key≠v:=by
       have hp5:es.toList.Pairwise fun a b=>a.key≠b.key:=(a2.pairwise_iff (fun h=>AT h)).2 a5;intro hkv;obtain ⟨hi1,hi2⟩:=Bz.1 (show es.toList[i]? =some ei by simpa using hi);obtain ⟨hj1,hj2⟩:=Bz.1 (show es.toList[j]? =some e0 by simpa using hj);rcases Nat.lt_or_gt_of_ne (AT hij) with h|h
       ·exact (List.pairwise_iff_getElem.1 hp5 i j hi1 hj1 h) (by rw [hi2,hj2,hkv,hk0])
       ·exact (List.pairwise_iff_getElem.1 hp5 j i hj1 hi1 h) (by rw [hi2,hj2,hkv,hk0])
      simp [hne]
   refine ⟨w.putObj q (.map (es.modify j fun e=>{e with key:=v,val:=z}) clock),?_,.cK hg (hS.nc hg rfl rfl (by simp) hq a1 rfl ⟨_,clock,es'.map fun e=>if e.key=v then {e with key:=v,val:=z} else e,c,World.putObj_heap_same hlt,?_,b3 vs' rfl,fun e he=>?_,?_,?_⟩)⟩
   ·simp [Instr.mapUpdate,aQ h1,hget,run_checkKey h2,hf,hj,hk0,MU hc' w,hset]
   ·rw [hmod];exact a2.map _
   ·obtain ⟨e1,h3,rfl⟩:=Ai.1 he;split
    ·rename_i h4;show dH c v;rw [<-h4];exact a4 e1 h3
    ·exact a4 e1 h3
   ·rw [List.pairwise_map];refine a5.imp fun {a b} hab=>?_;split<;>split
    ·rename_i h3 h4;exact absurd (h3.trans h4.symm) hab
    ·rename_i h3 h4;exact fun h=>h4 h.symm
    ·rename_i h3 h4;exact h3
    ·exact hab
   ·refine ⟨?_,fun e he=>?_⟩
    ·rw [hmod,AY,show ((fun e:MapEntry=>e.born)∘fun e:MapEntry=>if e.key=v then {e with key:=v,val:=z} else e)=fun e=>e.born from funext fun e=>by simp only [Function.comp];split<;>rfl];exact a6.1
    ·rw [hmod] at he;obtain ⟨e1,h3,rfl⟩:=Ai.1 he;have:=a6.2 e1 h3;split<;>exact this
def Pp {P:Program} {wb:aT} {w:World} {G:Gh} {S S':St} {q:IntKind} {a:Int} {m y:AV} {u z:Value} {t:TypeId} (hS:ax wb G S w) (ht:kG P t false none=true) (hm:af G m u) (hy:af G y z) (he:ew q a S m y=some S'):
  ∃ w',(Instr.mapUpdate t u (.int q a) z).run P w= .ok () w'/\ax wb G S' w':=by
 obtain ⟨k,e,h1,h2,_⟩:=ra ht;unfold ew at he;split at he;rotate_left
 ·cases he
 rename_i l;cases hm;rename_i r hq;split at he;rotate_left
 ·cases he
 rename_i ks vs hg;split at he;rotate_left
 ·cases he
 rename_i hl;injection he with he
 subst he;obtain ⟨es,clock,es',c,a1,a2,a3,a4,a5,a6⟩:=qc hS hg hq;have hget:(getObj r).run P w= .ok (.map es clock) w:=by simp [getObj,Sem.run,a1]
 have hset:∀ o,(setObj r o).run P w= .ok () (w.putObj r o):=fun o=>by simp [setObj,Sem.run,a1,World.putObj]
 have hlt:r<w.heap.size:=(hS.bT _ _ hq).2.2;have hx:af G (.int q a) (.int q a):= .int q a;have hcu:=(oG hx a3 a4 hl).1;rcases rG h2 hx rfl a2 a3 a4 a5 hl w with ⟨_,hno,hf⟩|⟨v0,e0,j,h,_⟩
 ·refine ⟨w.putObj r (.map (es.push {key:= .int q a,val:=z,born:=clock}) (clock+1)),by simp [Instr.mapUpdate,aQ h1,hget,run_checkKey h2,hf,hset],.cK hg (hS.nc hg rfl rfl (by simp) hq a1 rfl ?_)⟩;exact Fu (c':=some q) (es'':=du a {key:= .int q a,val:=z,born:=clock} ks es') hlt a6 a2 ⟨a,rfl⟩ a4 (hcu.imp id fun h=>z6 h ⟨a,rfl⟩) a5 hno (CX _ _ _ _) (a3.ins a ⟨hx,hy⟩)
 ·cases h
def Hp {k:AV} {a b:Int} (ha:oH k a=false) (hb:oH k b=true):a<b:=by
 cases k<;>simp only [oH] at ha hb<;>first
  |(cases hb;done)
  |(simp at ha hb;omega)
def tg {α:Type} {a b:Int} (hab:a≠b) (q q':IntKind) (y z:α):∀ (ks:List AV) (vs:List α),ks.length=vs.length->du a y (du b (.int q' b) ks ks) (du b z ks vs)=du b z (du a (.int q a) ks ks) (du a y ks vs)
 |[],[],_=>by
  rcases Cu hab with h|h
  ·simp [du,oH,h,By.2 (Bn h)]
  ·simp [du,oH,h,By.2 (Bn h)]
 |k::ks,v::vs,h=>by
  have ih:=tg hab q q' y z ks vs (by simpa using h);cases hka:oH k a<;>cases hkb:oH k b<;>simp only [du,hka,hkb,if_true,if_false,Ah]
  ·rcases Cu hab with h|h
   ·simp [du,oH,h,By.2 (Bn h),hka,hkb]
   ·simp [du,oH,h,By.2 (Bn h),hka,hkb]
  ·have h:=Hp hka hkb;simp [du,oH,h,hka,hkb]
  ·have h:=Hp hkb hka;simp [du,oH,h,hka,hkb]
  ·rw [ih]
 |[],_::_,h=>by cases h
 |_::_,[],h=>by cases h
def EU {x:AV}:∀ {ks vs:List AV} {r:Option AV},eK x ks vs=some r->r=none->ks.length=vs.length
 |[],[],_,_,_=>rfl
 |k::ks,v::vs,r,h,hr=>by
  simp only [eK] at h;split at h
  ·injection h with h;rw [hr] at h;cases h
  ·simp [EU h hr]
  ·cases h
 |[],_::_,_,h,_=>by simp [eK] at h
 |_::_,[],_,h,_=>by simp [eK] at h
def sK {x k0 y:AV} (a:Int):∀ {ks vs:List AV},ks.length=vs.length->(eK x (du a k0 ks ks) (du a y ks vs)=some none↔iS x k0=some false/\eK x ks vs=some none)
 |[],[],_=>by
  simp only [du,eK];split<;>simp_all
 |k::ks,v::vs,h=>by
  have ih:=sK (x:=x) (k0:=k0) (y:=y) a (ks:=ks) (vs:=vs) (by simpa using h);simp only [du];split
  ·simp only [eK];split
   ·simp_all
   ·rw [ih]
   ·simp_all
  ·simp only [eK]
   cases iS x k0 with
   |none=>simp
   |some b=>cases b<;>simp
 |[],_::_,h=>by cases h
 |_::_,[],h=>by cases h
def CR (S:St) (l:Nat) (c d:List AV):(S.cK l c).cK l d=S.cK l d:=by
 simp only [St.cK,AY]
 congr 1
 refine Bi fun p _=>?_;simp only [Function.comp];split<;>simp_all
def MN (S:St) {l l':Nat} (h:l≠l') (c d:List AV):(S.cK l c).cK l' d=(S.cK l' d).cK l c:=by
 simp only [St.cK,AY]
 congr 1
 refine Bi fun p _=>?_;simp only [Function.comp]
 by_cases h1:p.1=l
 ·have:p.1≠l':=fun e=>h (h1.symm.trans e);simp [h1,h]
 ·by_cases h2:p.1=l'
  ·simp [h2,AT h]
  ·simp [h1,h2]
def CS {S:St} {l:Nat} {c c0:List AV} (h:S.get l=some c0):(S.cK l c).get l=some c:=by rw [we h];simp [St.get,St.set]
def yc {S:St} {l k:Nat} {c c0:List AV} (h:S.get l=some c0) (hk:k≠l):(S.cK l c).get k=S.get k:=by
 have hb:(k==l)=false:=by simpa using hk
 rw [we h];simp [St.get,St.set,List.lookup_cons,hb]
def Lj {q q':IntKind} {a b:Int} {S S1 S2:St} {m m' y y':AV} (h1:ew q a S m y=some S1) (h2:ew q' b S1 m' y'=some S2):∃ T,ew q' b S m' y'=some T/\ew q a T m y=some S2:=by
 unfold ew at h1;split at h1;rotate_left
 ·cases h1
 rename_i l;split at h1;rotate_left
 ·cases h1
 rename_i ks vs hg;split at h1;rotate_left
 ·cases h1
 rename_i hl;injection h1 with h1
 subst h1;have hlen:=EU hl rfl;unfold ew at h2;split at h2;rotate_left
 ·cases h2
 rename_i l'
 by_cases hll:l'=l
 ·subst hll;rw [CS hg] at h2;simp only at h2;split at h2;rotate_left
  ·cases h2
  rename_i hl2;injection h2 with h2
  obtain ⟨h3,h4⟩:=(sK a hlen).1 hl2
  have h5:q'=q/\b≠a:=by
   simp only [iS] at h3;split at h3
   ·rename_i e;exact ⟨e,by simpa using h3⟩
   ·cases h3
  obtain ⟨rfl,hba⟩:=h5;have h6:iS (.int q' a) (.int q' b)=some false:=by simp [iS,AT hba]
  refine ⟨S.cK l' [.eX (du b (.int q' b) ks ks) (du b y' ks vs)],by simp only [ew,hg,h4],?_⟩;simp only [ew,CS hg,(sK b hlen).2 ⟨h6,hl⟩,CR];rw [<-h2,CR,tg (AT hba) q' q' _ _ ks ks rfl,tg (AT hba) q' q' y y' ks vs hlen]
 ·rw [yc hg hll] at h2;split at h2;rotate_left
  ·cases h2
  rename_i ks' vs' hg';split at h2;rotate_left
  ·cases h2
  rename_i hl';injection h2 with h2
  refine ⟨S.cK l' [.eX (du b (.int q' b) ks' ks') (du b y' ks' vs')],by simp only [ew,hg',hl'],?_⟩;simp only [ew,yc hg' (AT hll),hg,hl];rw [<-h2,MN S hll]
def Ig {wb:aT} {G:Gh} {S:St} {w:World} (h:ax wb G S w) {k r:Nat} {E:Nat} {b:Option Bool} (hk:S.get k=some [.jH E b]) (hr:G.σ k=some r):∃ fz,w.heap[r]? =some (.cells (vo b) E fz):=by
 obtain ⟨r',h1,h2⟩:=h.bu k _ hk rfl;rw [hr] at h1;cases h1;exact h2
def kK (E:Nat) (S:St):AV->Bool
 | .ptr l 0=>(match S.get l with
  |some [.jH E' _]=>E'==E
  |_=>false)
 |_=>false
def ku (S:St):AV->Bool
 | .ptr l 0=>(match S.get l with
  |some [.jH ..]=>true
  |_=>false)
 |_=>false
def PD (P:Program) (s:TypeId) (f:Nat):Bool:=
 (P.cellsOf s==0||byteOfCell P P.depth s 0==some 0) && (match P.underlying s with
  |some (.struct fs)=>(match fs[f]? with
   |some fd=>fd.offset==0 && fd.byteOffset==0 && cg P fd.type 0
   |none=>false)
  |_=>false)
def Gt {P:Program} {w:World} {r E:Nat} {vs:Array Value} {fz:Nat×Nat} (h:w.heap[r]? =some (.cells vs E fz)) (hE:P.cellsOf E=0∨byteOfCell P P.depth E 0=some 0):(byteOf ⟨r,0,none⟩).run P w= .ok 0 w:=by
 have hs:w.shape? r=some (E,vs.size):=by simp [World.shape?,h]
 have hp:(program).run P w= .ok P w:=rfl
 by_cases h0:P.cellsOf E=0
 ·simp [byteOf,noView,viewAt,shape,Sem.run,hs,hp,h0]
 ·have hE:=hE.resolve_left h0;simp [byteOf,noView,viewAt,shape,Sem.run,hs,hp,h0,hE]
def MV {P:Program} {w:World} {s f r:Nat} {vs:Array Value} {fz:Nat×Nat} (h:w.heap[r]? =some (.cells vs s fz)) (hf:PD P s f=true):(Instr.fieldAt s (.pointer (some ⟨r,0,none⟩)) f).run P w= .ok (.pointer (some ⟨r,0,none⟩)) w:=by
 unfold PD at hf;rw [Aa,AI,beq_iff_eq,beq_iff_eq] at hf;obtain ⟨hE,hf⟩:=hf;split at hf
 ·rename_i fs hu;split at hf
  ·rename_i fd hfd;simp only [Aa,beq_iff_eq] at hf;obtain ⟨⟨h1,h2⟩,h3⟩:=hf;have hb:=Gt (P:=P) h hE;simp [Instr.fieldAt,aQ hu,hfd,Instr.sureAddr,fieldPlace,bR h3,partAt,h1,h2,hb]
  ·cases hf
 ·cases hf
def od:AV->Option (Option Bool)
 | .agg []=>some none
 | .agg [.bool b]=>some (some b)
 |_=>none
def Pq {P:Program} {wb:aT} {w:World} {G:Gh} {S:St} (hS:ax wb G S w) (E:TypeId) {x:AV} {u:Value} {b:Option Bool} (hu:af G x u) (hb:od x=some b):dK P wb G (Instr.box E u) w (.ptr S.n 0) {S with n:=S.n+1,obj:=(S.n,[.jH E b])::S.obj}:=by
 obtain rfl:u= .agg (vo b):=by
  cases hu with
  |agg hl ho hv=>
   rename_i cs vs
   match cs,vs,hl,hb with
   |[],[],_,hb=>injection hb with hb;subst hb;rfl
   |[.bool c],[v],_,hb=>
    injection hb with hb
    subst hb;have:=hv 0 (.bool c) v rfl rfl;cases this;rfl
  |_=>cases hb
 obtain ⟨G',h1,h2,h3⟩:=hS.zj (o:= .cells (vo b) E) (c0:= .jH E b) rfl (by simp) fun G' _=>⟨_,World.alloc_heap_new w _⟩;exact ⟨_,_,G',rfl,h1,h3,.ptr h2⟩
def mS (S:St):AV->Option Bool
 | .ptr l 0=>(match S.get l with
  |some [.jH _ b]=>b
  |_=>none)
 |_=>none
def Vj {P:Program} {wb:aT} {w:World} {G:Gh} {S:St} (hS:ax wb G S w) {x:AV} {u:Value} {b:Bool} (hx:af G x u) (hb:mS S x=some b) {t:TypeId} {ag:Bool} (hk:known P t=true) (ha:eT P t=ag) (hs:cg P t 1=true):
  ∃ z,(Instr.loadAt t u).run P w= .ok z w/\af G (if ag then .agg [.bool b] else .bool b) z:=by
 unfold mS at hb;split at hb
 ·split at hb
  ·rename_i E b' hg;subst hb
   cases hx with
   |ptr hr=>
    obtain ⟨fz,h1⟩:=Ig hS hg hr;refine pq (o:=0) (cs:=[.bool b]) (fun m c hm=>?_) hk ha hs (by cases ag<;>rfl);rcases m with _|m
    ·injection hm with hm
     subst hm;exact ⟨.bool b,by simp [World.cell?,h1,vo],.bool b,rfl⟩
    ·cases hm
  ·cases hb
 ·cases hb
def lH {w:World} {r:Nat} {o:Obj} (h:w.heap[r]? =some o):w.putObj r o=w:=by
 have:w.heap.setIfInBounds r o=w.heap:=by
  apply Array.ext_getElem?;intro i;rw [Array.getElem?_setIfInBounds];split
  ·rename_i e;subst e;split
   ·exact h.symm
   ·rename_i e2;rw [Bf (Am e2)]
  ·rfl
 cases w;simp only [World.putObj] at this ⊢;rw [this]
def ax.aac {wb:aT} {G:Gh} {S:St} {w:World} (h:ax wb G S w) {k:Nat} {ks vs:List AV} (hk:S.get k=some [.eX ks vs]):
  ∃ bm es clock es' c,es.toList.Perm es'/\eP G ks vs es'/\(∀ e∈es',dH c e.key)/\es'.Pairwise (fun a b=>a.key≠b.key)/\Dy es clock/\ax wb G (S.cK k [.aL bm (.map es clock) [] []]) w:=by
 obtain ⟨r,hr,_⟩:=h.bu k _ hk rfl;obtain ⟨es,clock,es',c,a1,a2,a3,a4,a5,a6⟩:=qc h hk hr;refine ⟨r,es,clock,es',c,a2,a3,a4,a5,a6,.cK hk ?_⟩;have:=h.nc hk rfl (c':= .aL r (.map es clock) [] []) (o':= .map es clock) rfl (by simp) hr a1 rfl ⟨rfl,by rw [lH a1];exact a1,rfl,trivial⟩
 rwa [lH a1] at this
def ax.aeK {wb:aT} {G:Gh} {S:St} {w:World} (h:ax wb G S w) {k bm clock:Nat} {ks vs:List AV} {es:Array MapEntry} {es':List MapEntry} {c:Option IntKind} (hk:S.get k=some [.aL bm (.map es clock) [] []])
  (h1:es.toList.Perm es') (h2:eP G ks vs es') (h3:∀ e∈es',dH c e.key) (h4:es'.Pairwise fun a b=>a.key≠b.key) (h5:Dy es clock):ax wb G (S.cK k [.eX ks vs]) w:=by
 obtain ⟨r,hr,rfl,a1,_,_⟩:=h.bu k _ hk rfl;have:=h.nc hk rfl (c':= .eX ks vs) (o':= .map es clock) rfl (by simp) hr a1 rfl (by rw [lH a1];exact ⟨es,clock,es',c,a1,h1,h2,h3,h4,h5⟩);rw [lH a1] at this;exact .cK hk this
inductive MT where
 |FJ (x:aj)
 |Fx (x:aj)
 |lR (x:aj)
 |vP (x:aj)
 |Fq (bytes:Nat) (z:AV) (x:aj)
def MT.x:MT->aj
 | .FJ x| .Fx x| .lR x| .vP x| .Fq _ _ x=>x
def Jw (P:Program) (t:TypeId):Bool:=match P.underlying t with
 |some (.map _ _)=>true
 |_=>false
def MT.fits (P:Program):MT->Op->Bool
 | .FJ x,.range t y=>x.fits y && Jw P t
 | .Fx x,.next y b=>x.fits y && !b
 | .lR x,.entry y=>x.fits y
 | .vP x,.call c=>(match c.callee with
  | .builtin .len=>true
  |_=>false) && (match c.args.toList,c.argTypes.toList with
  |[y],[t]=>x.fits y && Jw P t
  |_,_=>false)
 | .Fq bytes z x,.makeSlice t l c=>(match l with
  | .const (.int _ 0)=>true
  |_=>false) && (x.fits c && j8 P bytes z t)
 |_,_=>false
def pY (m:MT) (nx:AV->St->Prop) (F:Fr) (S:St):Prop:=
 match m,m.x.ev F with
 | .FJ _,.mp k=>∃ bm es clock,S.get k=some [.aL bm (.map es clock) [] []]/\∀ ri,nx (.ptr S.n 0) {S with n:=S.n+1,obj:=(S.n,[.aL ri (.mapIter (some bm) clock #[] clock) [] []])::S.obj}
 | .Fx _,.ptr i 0=>∃ (ri bm since:Nat) (seen:Array Nat) (c0 k:Nat) (es:Array MapEntry) (clock:Nat),S.get i=some [.aL ri (.mapIter (some bm) since seen c0) [] []]/\S.get k=some [.aL bm (.map es clock) [] []]/\(∀ e∈es.toList,e.born<since)/\since<=c0/\
   ((leftOf es seen).size=0->nx (.aF [.bool false]) S)/\∀ e∈(leftOf es seen).toList,nx (.aF [.bool true,.de,.de]) (S.cK i [.aL ri (.mapIter (some bm) since (seen.push e.born) clock) [] []])
 | .lR _,.ptr i 0=>∃ (ri bm since:Nat) (seen:Array Nat) (c0 k:Nat) (es:Array MapEntry) (e:MapEntry) (kk vv:AV),S.get i=some [.aL ri (.mapIter (some bm) since (seen.push e.born) c0) [] []]/\S.get k=some [.aL bm (.map es c0) [] []]/\e∈es.toList/\(es.toList.map (·.born)).Nodup/\
   (∀ G,af G kk e.key)/\(∀ G,af G vv e.val)/\nx (.aF [kk,vv]) S
 | .vP _,.mp k=>∃ ks vs,S.get k=some [.eX ks vs]/\nx (.int .i64 (ks.length:Nat)) S
 | .Fq bytes z _,.int _ n=>0<=n/\(bytes:Int)*n<=281474976710656/\n<=9223372036854775807/\nx (.b9 1 0 S.n 0 n.toNat) {S with n:=S.n+1,obj:=(S.n,List.replicate n.toNat z)::S.obj}
 |_,_=>False
def EL {m:MT} {nx nx':AV->St->Prop} (h:∀ v S,nx v S->nx' v S) {F:Fr} {S:St} (hi:pY m nx F S):pY m nx' F S:=by
 unfold pY at hi ⊢;split at hi
 ·obtain ⟨bm,es,clock,h1,h2⟩:=hi;exact ⟨bm,es,clock,h1,fun ri=>h _ _ (h2 ri)⟩
 ·obtain ⟨ri,bm,since,seen,c0,k,es,clock,h1,h2,h3,h4,h5,h6⟩:=hi;exact ⟨ri,bm,since,seen,c0,k,es,clock,h1,h2,h3,h4,fun e=>h _ _ (h5 e),fun e he=>h _ _ (h6 e he)⟩
 ·obtain ⟨ri,bm,since,seen,c0,k,es,e,kk,vv,h1,h2,h3,h4,h5,h6,h7⟩:=hi;exact ⟨ri,bm,since,seen,c0,k,es,e,kk,vv,h1,h2,h3,h4,h5,h6,h _ _ h7⟩
 ·obtain ⟨ks,vs,h1,h2⟩:=hi;exact ⟨ks,vs,h1,h _ _ h2⟩
 ·exact ⟨hi.1,hi.2.1,hi.2.2.1,h _ _ hi.2.2.2⟩
 ·exact hi.elim
def mW {wb:aT} {G:Gh} {S:St} {w:World} (h:ax wb G S w) {k l:Nat} {o:Obj} {ts:List Nat} {vs:List AV} (hk:S.get k=some [.aL l o ts vs]):G.σ k=some l/\w.heap[l]? =some o/\jO o=true/\DA G o ts vs:=by
 obtain ⟨r,h1,rfl,h2,h3,h4⟩:=h.bu k _ hk rfl;exact ⟨h1,h2,h3,h4⟩
end Go.V
namespace Go.V
open Go
def uE (P:Program) (t:TypeId) (k:Nat):Bool:=
 match P.underlying t with
 |some (.slice e)=>cg P e k && decide (0<k)
 |_=>false
def gX:AV->Option AV
 | .b9 _ _ _ _ c=>some (.int .i64 c)
 |_=>none
def U9 {P:Program} {w:World} {G:Gh} {t ty:TypeId} {k:Nat} {x r:AV} {u:Value} (hx:af G x u) (ht:uE P t k=true) (he:gX x=some r):
  ∃ z,(Builtin.cap_ #[t] ty #[u]).run P w= .ok z w/\af G r z:=by
 unfold uE at ht;split at ht;rotate_left
 ·cases ht
 rename_i e hu
 cases hx<;>simp only [gX] at he<;>first
  |(cases he;done)
  |(injection he with he;subst he)
 exact ⟨_,by simp [Builtin.cap_,aQ hu,goInt],.int _ _⟩
def gb (k:Nat) (x:AV) (lo hi mx:Option AV):Option AV:=
 match x with
 | .b9 k' n l o c=>
  if k'=k then (cU 0 lo).bind fun a=>(cU n hi).bind fun h=>
   match mx with
   |some _=>(cU c mx).map fun _=> .de
   |none=>some (if lo.isNone then .b9 k h.toNat l o c else if a<h then .aN k (h.toNat-a.toNat) l (o+a.toNat*k) else .sl k [] .ai)
  else none
 |_=>cS k x lo hi mx
def fP (x:AV) (lo hi mx:Option AV):Prop:=
 match x with
 | .b9 _ n _ _ c=>match cU 0 lo,cU n hi,cU c mx with
  |some a,some h,some m=>0<=a/\a<=h/\h<=m/\m<=c/\(mx=none∨hi≠none)
  |_,_,_=>True
 |_=>cG x lo hi mx
def Vh {P:Program} {w:World} {G:Gh} {t e:TypeId} {k:Nat} {x r:AV} {u:Value} {lo hi mx:Option AV} {lo' hi' mx':Option Value} (hx:af G x u) (hlo:l9 G lo lo') (hhi:l9 G hi hi') (hmx:l9 G mx mx')
  (ht:P.underlying t=some (.slice e)) (hs:cg P e k=true) (aL:fP x lo hi mx) (he:gb k x lo hi mx=some r):∃ z,(Instr.sliceAt t u lo' hi' mx').run P w= .ok z w/\af G r z:=by
 by_cases hosl:∃ k' n l o c,x= .b9 k' n l o c
 rotate_left
 ·have e1:gb k x lo hi mx=cS k x lo hi mx:=by
   cases x<;>first
    |rfl
    |exact absurd ⟨_,_,_,_,_,rfl⟩ hosl
  have e2:fP x lo hi mx=cG x lo hi mx:=by
   cases x<;>first
    |rfl
    |exact absurd ⟨_,_,_,_,_,rfl⟩ hosl
  rw [e1] at he;rw [e2] at aL;exact CW hx hlo hhi hmx ht hs aL he
 obtain ⟨k',n,l,o,c,rfl⟩:=hosl
 cases hx with
 |b9 _ h1 hc hz=>
  rename_i r0;simp only [gb] at he;split at he;rotate_left
  ·cases he
  rename_i hk;subst hk;simp only [Ar] at he;obtain ⟨a,ea,h,eh,he⟩:=he
  cases mx with
  |some mv=>
   simp only [Ag] at he;obtain ⟨m,em,rfl⟩:=he;simp only [fP,ea,eh,em] at aL;obtain ⟨h0,h2,h3,h4,h5⟩:=aL;have hb:=gv (P:=P) (w:=w) (b:=true) (len:=n) (cap:=c) hlo hhi hmx ea eh em h0 h2 h3 h4 h5
   have key:∃ z,(Instr.sliceAt t (.slice (some ⟨r0,o,none⟩) n c) lo' hi' mx').run P w= .ok z w:=by
    simp only [Instr.sliceAt,Sem.run_bind,aQ ht,Result.andThen_ok,Instr.slice,hb,bR hs,Sem.run_pure];exact ⟨_,rfl⟩
   obtain ⟨z,hz2⟩:=key;exact ⟨z,hz2,.de z⟩
  |none=>
   simp only [Ae] at he;have em:cU c none=some (c:Int):=rfl;simp only [fP,ea,eh,em] at aL;obtain ⟨h0,h2,h3,h4,h5⟩:=aL;have hb:=gv (P:=P) (w:=w) (b:=true) (len:=n) (cap:=c) hlo hhi hmx ea eh em h0 h2 h3 h4 (.inl rfl)
   cases lo with
   |none=>
    simp only [cU,Ae] at ea;subst ea;simp only [Option.isNone_none,if_true] at he;subst he;refine ⟨.slice (some ⟨r0,o,none⟩) h.toNat c,?_,.b9 _ h1 (by omega) hz⟩;simp only [Instr.sliceAt,Sem.run_bind,aQ ht,Result.andThen_ok,Instr.slice,hb,bR hs,Sem.run_pure]
    by_cases hc0:c=0
    ·simp [hc0]
    ·have: ¬((c:Int).toNat=(0:Int).toNat):=by omega
     rw [if_neg this];simp [cE]
   |some lv=>
    simp only [Option.isNone_some,Ah,if_false] at he
    by_cases hlh:a<h
    ·rw [if_pos hlh] at he;subst he;refine ⟨.slice (some ⟨r0,o+a.toNat*k',none⟩) (h.toNat-a.toNat) ((c:Int).toNat-a.toNat),?_,.aN _ h1 (by omega) ?_⟩
     ·simp only [Instr.sliceAt,Sem.run_bind,aQ ht,Result.andThen_ok,Instr.slice,hb,bR hs,Sem.run_pure];rw [if_neg (by omega)];simp [cE]
     ·refine AH (Nat.le_of_eq ?_) hz;rw [A4,<-AM]
      congr 2
      omega
    ·rw [if_neg hlh] at he;subst he;refine ⟨.slice (if (c:Int).toNat=a.toNat then some ⟨r0,o,none⟩ else some ⟨r0,o+a.toNat*k',none⟩) (h.toNat-a.toNat) ((c:Int).toNat-a.toNat),?_,?_⟩
     ·simp only [Instr.sliceAt,Sem.run_bind,aQ ht,Result.andThen_ok,Instr.slice,hb,bR hs,Sem.run_pure];simp [cE]
     have e0:h.toNat-a.toNat=0:=by omega
     have key:∀ b c,af G (.sl k' [] .ai) (.slice (some ⟨r0,b,none⟩) 0 c):=fun b c=> .sl (xs:=[]) (fun _=>undef) (by simp) (by simp) (by simp) (by simp) (by simp) trivial;rw [e0];split
     ·exact key _ _
     ·exact key _ _
def nB (k N:Nat) (S:St):AV->Option (List AV)
 | .aN k' n l o=>if k'=k/\N<=n then bH k S (.aN k N l o) else none
 | .sl k' ys _=>if k'=k then some (flat (ys.take N)) else none
 |_=>none
def nW:AV->Option Nat
 | .aN _ n _ _=>some n
 | .sl _ xs _=>some xs.length
 |_=>none
def ot (k:Nat) (S:St) (d s:AV):Option (AV×St):=
 (nW d).bind fun nd=>(nW s).bind fun ns=>
  if Nat.min ns nd=0 then some (.int .i64 0,S) else match d with
  | .aN kd _ l o=>if kd=k then (nB k (Nat.min ns nd) S s).bind fun src=>(S.get l).bind fun cs=>if aE cs then none else if o<=cs.length then some (.int .i64 (Nat.min ns nd:Nat),S.set l (cn cs o src)) else none else none
  |_=>none
def HO {G:Gh} {x:AV} {v:Value} {n:Nat} (hx:af G x v) (h:nW x=some n):∃ b c,v= .slice b n c:=by
 cases hx<;>simp only [nW] at h<;>first
  |(cases h;done)
  |(injection h with h;subst h;exact ⟨_,_,rfl⟩)
def Eh {P:Program} {wb:aT} {G:Gh} {S:St} {w:World} (h:ax wb G S w) {k N:Nat} {y:AV} {cs:List AV} {v:Value} (hy:af G y v) (ha:nB k N S y=some cs) (hk:0<k) (hN:0<N) {n:Nat} (hn:nW y=some n) (hle:N<=n):
  ∃ us:List Value,br G cs us/\cs.length=N*k/\(Builtin.firstCells k N v).run P w= .ok us.toArray w:=by
 cases y<;>simp only [nB] at ha<;>first
  |(cases ha;done)
  |skip
 ·rename_i k' ys t;split at ha;rotate_left
  ·cases ha
  rename_i hkk;subst hkk;injection ha with ha
  subst ha;simp only [nW,Ae] at hn;subst hn;have hlen:(ys.take N).length=N:=by simp;omega
  cases hy with
  |slnil=>simp at hle;omega
  |sl f hk' hp ho hv hc ht=>
   rename_i r b cap;have hsub:=HN hk' hp ho hv (l:=0) (h:=N) (t:= .ai) (cap:=cap) (Au _) hle (by omega) trivial;simp only [BJ,Nat.zero_mul,Nat.add_zero,Nat.sub_zero] at hsub;obtain ⟨us,h1,h2,h3,h4⟩:=fX (P:=P) h hsub (show appArg k' (.sl k' (ys.take N) .ai)=some (ys.take N) by simp [appArg]) hk;rw [hlen] at h4;exact ⟨us,h1,by rw [cO h2,hlen],h4 w h.prom⟩
 ·rename_i k' n' l o;split at ha;rotate_left
  ·cases ha
  rename_i hkk;obtain ⟨rfl,hle2⟩:=hkk
  cases hy with
  |aN _ h1 hc hz=>
   rename_i r cap;have hsub:af G (.aN k' N l o) (.slice (some ⟨r,o,none⟩) N cap):= .aN k' h1 (by omega) hz;obtain ⟨us,c1,c2,c3,c4,c5⟩:=iK (P:=P) h hsub (show cq k' S (.aN k' N l o)=some (N,cs) by simp [cq,bO,ha]) hk;exact ⟨us,c1,c2,c4⟩
def Vm {P:Program} {wb:aT} {G:Gh} {S S':St} {w:World} (h:ax wb G S w) {t t2 ty:TypeId} {k:Nat} {x y r:AV} {u v:Value} (hx:af G x u) (hy:af G y v)
  (hty:uE P t k=true) (he:ot k S x y=some (r,S')):dK P wb G (Builtin.copy_ #[t,t2] ty #[u,v]) w r S':=by
 unfold uE at hty;split at hty;rotate_left
 ·cases hty
 rename_i e hu;simp only [Aa,decide_eq_true_eq] at hty;obtain ⟨hs,hk⟩:=hty;have hsz:=bR (w:=w) hs;simp only [ot,Ar] at he;obtain ⟨nd,hnd,ns,hns,he⟩:=he;obtain ⟨bd,cd,rfl⟩:=HO hx hnd;obtain ⟨bs,cs',rfl⟩:=HO hy hns;split at he
 ·rename_i h0;injection he with he
  injection he with e1 e2
  subst e1 e2;refine ⟨_,w,G,?_,Gh.le_refl G,h,.int _ _⟩
  have hfc:(Builtin.firstCells k 0 (.slice bs ns cs')).run P w= .ok #[] w:=by
   cases bs with
   |none=>rfl
   |some a=>simp [Builtin.firstCells,loadCells,loadCellsFrom]
  simp only [Builtin.copy_,Sem.run_bind,Ch,List.getElem?_cons_zero,List.getElem?_cons_succ,aQ hu,Result.andThen_ok,Builtin.lenOf,Sem.run_pure,h0,hsz,hfc]
  cases bd with
  |none=>rfl
  |some a=>simp [storeCells,goInt]
 ·rename_i h0
  cases hx<;>simp only [nW] at hnd<;>first
   |(cases hnd;done)
   |skip
  ·cases he
  ·cases he
  rename_i kd l o r0 h1 hc hz;simp only at he;split at he;rotate_left
  ·cases he
  rename_i hkk;subst hkk;simp only [Ar] at he;obtain ⟨src,hsrc,cs,hg,he⟩:=he;split at he
  ·cases he
  rename_i hnb;have hnb:aE cs=false:=by simpa using hnb
  split at he;rotate_left
  ·cases he
  rename_i hle;injection he with he
  injection he with e1 e2
  subst e1 e2;have hN:0<Nat.min ns nd:=by omega
  obtain ⟨us,c1,c2,c3⟩:=Eh (P:=P) h hy hsrc hk hN hns (Nat.min_le_left _ _);have hmn:Nat.min ns nd<=nd:=Nat.min_le_right _ _
  have hroom:o+src.length<=G.κ l:=by
   rw [c2];have h5:Nat.min ns nd*kd<=cd*kd:=Be kd (by omega);omega
  obtain ⟨_,k2⟩:=h.room l cs r0 hg hnb h1;have hlen:=c1.len
  have hst:=fj (P:=P) r0 o us w 0 c1.one (fun j hj=>by
   rw [Nat.add_zero]
   exact k2 (o+j) (by omega))
  rw [Nat.add_zero] at hst;refine ⟨_,putCells w r0 o us,G,?_,Gh.le_refl G,h.F4 hg h1 c1 hle hroom hnb,.int _ _⟩;simp only [Builtin.copy_,Sem.run_bind,Ch,List.getElem?_cons_zero,List.getElem?_cons_succ,aQ hu,Result.andThen_ok,Builtin.lenOf,Sem.run_pure,hsz,c3,hst,goInt]
def eG (k:Nat) (S:St) (x y:AV):Option (AV×St):=
 match x with
 | .b9 k' n l 0 c=>(cq k S y).bind fun p=>
  if p.1=0 then some (x,S) else if k'=k then (S.get l).bind fun cs=>if aE cs then none else if n*k<=cs.length then
   (if n+p.1<=c then some (.b9 k (n+p.1) l 0 c,S.set l (cn cs (n*k) p.2)) else some (.aN k (n+p.1) S.n 0,{S with n:=S.n+1,obj:=(S.n,cs.take (n*k)++p.2)::S.obj})) else none else none
 |_=>gk k S x y
def eR (k bytes:Nat) (x y:AV):Prop:=
 match x with
 | .b9 _ n' _ _ _=>(match bO y with
  |some n=>(n'+n)*bytes<=140737488355328/\n'+n<=9223372036854775807
  |none=>match appArg k y with
   |some ys=>(n'+ys.length)*bytes<=140737488355328/\n'+ys.length<=9223372036854775807
   |none=>True)
 |_=>gD k bytes x y
def xk {P:Program} {wb:aT} {G:Gh} {S:St} {w:World} (h:ax wb G S w) {k n l r c:Nat} {cs:List AV} (hg:S.get l=some cs) (hnb:aE cs=false) (h1:G.σ l=some r) (hle:n*k<=cs.length) (hk:0<k):
  ∃ os:List Value,br G (cs.take (n*k)) os/\(cs.take (n*k)).length=n*k/\(Builtin.firstCells k n (.slice (some ⟨r,0,none⟩) n c)).run P w.drew= .ok os.toArray w.drew:=by
 rcases Bq n with h0|h0
 ·subst h0;refine ⟨[],by simpa using br.nil G,by simp,?_⟩;simp [Builtin.firstCells,loadCells,loadCellsFrom]
 ·obtain ⟨q1,q2⟩:=h.room l cs r hg hnb h1;have hsub:af G (.aN k n l 0) (.slice (some ⟨r,0,none⟩) n n):= .aN k h1 (Af _) (by omega)
  obtain ⟨us,c1,c2,c3,c4,c5⟩:=iK (P:=P) h hsub (show cq k S (.aN k n l 0)=some (n,cs.take (n*k)) by
   simp only [cq,bO,bH,hg,Option.bind_some,hnb,Ah,if_false,BJ];rw [if_pos ⟨trivial,h0⟩,if_pos (by omega)]
   rfl) hk
  exact ⟨us,c1,c2,c5⟩
def Pm {P:Program} {wb:aT} {G:Gh} {S S':St} {w:World} (h:ax wb G S w) {t t2 ty:TypeId} {k bytes:Nat} {x y r:AV} {u v:Value} (hx:af G x u) (hy:af G y v)
  (hty:gW P t t2 k bytes=true) (aL:eR k bytes x y) (he:eG k S x y=some (r,S')):dK P wb G (Builtin.append_ #[t,t2] ty #[u,v]) w r S':=by
 by_cases hosl:∃ k' n l c,x= .b9 k' n l 0 c
 rotate_left
 ·have e1:eG k S x y=gk k S x y:=by
   cases x<;>first
    |rfl
    |(rename_i k' n l o c
      cases o with
      |zero=>exact absurd ⟨_,_,_,_,rfl⟩ hosl
      |succ o=>rfl)
  by_cases hc2:∃ k' n l o c,x= .b9 k' n l o c
  ·obtain ⟨k',n,l,o,c,rfl⟩:=hc2;rw [e1] at he;simp [gk] at he
  have e2:eR k bytes x y=gD k bytes x y:=by
   cases x<;>first
    |rfl
    |exact absurd ⟨_,_,_,_,_,rfl⟩ hc2
  rw [e1] at he;rw [e2] at aL;exact FR h hx hy hty aL he
 obtain ⟨k',n,l,c,rfl⟩:=hosl;simp only [eG,Ar] at he;unfold gW at hty;simp only [Aa] at hty;obtain ⟨hty,hty2⟩:=hty;split at hty;rotate_left
 ·cases hty
 rename_i e ht;split at hty;rotate_left
 ·cases hty
 rename_i i hi;simp only [Aa,beq_iff_eq,decide_eq_true_eq] at hty;obtain ⟨⟨⟨h1,h2⟩,h3⟩,h4⟩:=hty;split at h4;rotate_left
 ·cases h4
 rename_i z hz;have h4:z.cells.size=k:=by simpa using h4
 obtain ⟨d2,ht2,hd2⟩:∃ d2,P.underlying t2=some d2/\(d2= .string∨∃ x,d2= .slice x):=by
  split at hty2
  ·exact ⟨_,‹_›,.inl rfl⟩
  ·exact ⟨_,‹_›,.inr ⟨_,rfl⟩⟩
  ·cases hty2
 obtain ⟨⟨m,ys⟩,hsrc,he⟩:=he
 have hobn:(n+m)*bytes<=140737488355328/\n+m<=9223372036854775807:=by
  unfold cq at hsrc;unfold eR at aL;split at hsrc
  ·rename_i hn';rw [hn'] at aL;simp only [Ag,Ac] at hsrc;obtain ⟨_,_,rfl,_⟩:=hsrc;exact aL
  ·rename_i hn';rw [hn'] at aL;simp only [Ag,Ac] at hsrc;obtain ⟨_,e1,rfl,_⟩:=hsrc;rw [e1] at aL;exact aL
 obtain ⟨us,hus,hyl,hn,hfc,hfcd⟩:=iK (P:=P) h hy hsrc h3;have hx0:=hx
 cases hx with
 |b9 _ hσ hc hcz=>
 rename_i r0;split at he
 ·rename_i hm0;have hm0:m=0:=hm0;subst hm0;simp only [Ae,Ac] at he;obtain ⟨rfl,rfl⟩:=he
  have hu0:us=[]:=by
   have:=hus.len;rw [hyl] at this;simpa using this.symm
  subst hu0;exact ⟨_,w,G,eY (w':=w) ht hi ht2 hd2 hn (us:= #[]) (by rw [h1];exact hfc) (by omega) (fun a _=>by simp [storeCells]) (fun _=>rfl),Gh.le_refl G,h,hx0⟩
 rename_i hm0;have hm0: ¬m=0:=hm0;split at he;rotate_left
 ·cases he
 rename_i hkk;subst hkk;simp only [Ar] at he;obtain ⟨cs,hg,he⟩:=he;split at he
 ·cases he
 rename_i hnb;have hnb:aE cs=false:=by simpa using hnb
 split at he;rotate_left
 ·cases he
 rename_i hle;have hul:us.length=m*k':=by rw [<-hus.len];exact hyl
 obtain ⟨q1,q2⟩:=h.room l cs r0 hg hnb hσ;split at he
 ·rename_i hroom;have hroom:n+m<=c:=hroom;simp only [Ae,Ac] at he;obtain ⟨rfl,rfl⟩:=he
  have hkap:n*k'+m*k'<=G.κ l:=by
   rw [<-AM];refine AH (Be k' hroom) (by omega)
  refine ⟨_,putCells w r0 (n*k') us,G,eY (w':=putCells w r0 (n*k') us) ht hi ht2 hd2 hn (us:=us.toArray) (by rw [h1];exact hfc) hroom (fun a e=>?_) (fun e=>by cases e),Gh.le_refl G,h.F4 hg hσ hus hle (by rw [hyl];exact hkap) hnb,.b9 k' hσ hroom hcz⟩;injection e with e
  subst e;rw [cE,h1,Aw]
  have:=fj (P:=P) r0 (n*k') us w 0 hus.one (fun j hj=>by
   rw [Nat.add_zero]
   exact q2 (n*k'+j) (by omega))
  simpa using this
 ·rename_i hroom;have hroom: ¬n+m<=c:=hroom;simp only [Ae,Ac] at he;obtain ⟨rfl,rfl⟩:=he;obtain ⟨os,hos,hol,hfo⟩:=xk (P:=P) (c:=c) h hg hnb hσ hle h3;have hd:=h.drew
  have run:=jj (P:=P) (w:=w) (t:=t) (t2:=t2) (ty:=ty) ht hi hz ht2 hd2 (base:=some ⟨r0,0,none⟩) (sLen:=n) (sCap:=c) (us:=us.toArray) (os:=os.toArray) hn
   (by rw [h1];exact hfcd) (by rw [h1];exact hfo) hroom (by omega) (by rw [h2];exact hobn.1)
  have hc2:n+m<=grownCap w (n+m) c e:=by simp only [grownCap,Question.cut];omega
  generalize grownCap w (n+m) c e=c2 at run hc2;obtain ⟨G',g1,g2,g3,g4⟩:=hd.j9 (E:=e) (rest:=(Builtin.zeroCells z.cells (c2-(n+m))).toList) (hos.append hus);refine ⟨_,_,G',run,g1,?_,?_⟩
  ·have e1:(os++us++(Builtin.zeroCells z.cells (c2-(n+m))).toList).toArray=os.toArray++us.toArray++Builtin.zeroCells z.cells (c2-(n+m)):=by
    apply Aq;simp
   rw [e1] at g4;exact g4
  ·refine .aN k' g2 hc2 ?_;rw [g3];have e5:(Builtin.zeroCells z.cells (c2-(n+m))).toList.length=(c2-(n+m))*k':=by rw [<-h4,<-gT];exact Array.length_toList
   have e6:(os++us).length=(n+m)*k':=by rw [Ak,<-hos.len,hol,hul,AM]
   rw [e5,e6,<-AM,Aw];refine Be k' (by omega)
def su (k:Nat) (z:List AV) (S:St) (x y:AV):Option (AV×St):=
 match x,y with
 | .b9 k' n l 0 c,.int _ (.ofNat m)=>if k'=k/\0<m/\c<n+m then (S.get l).bind fun cs=>if aE cs then none else if n*k<=cs.length then
   some (.aN k (n+m) S.n 0,{S with n:=S.n+1,obj:=(S.n,cs.take (n*k)++flat (List.replicate m (.agg z)))::S.obj}) else none else none
 |_,_=>none
def wP (bytes:Nat) (x y:AV):Prop:=
 match x,y with
 | .b9 _ n _ _ _,.int _ m=>((n:Int)+m)*bytes<=140737488355328/\(n:Int)+m<=9223372036854775807
 |_,_=>True
def DU (P:Program) (t t2:TypeId) (k bytes:Nat) (z:List AV):Bool:=
 (match P.underlying t with
  |some (.slice e)=>fL P e z && (z.length==k) && (match P.info? e with
   |some i=>i.size==k && i.bytes==bytes && decide (0<k)
   |none=>false)
  |_=>false) &&
 (match P.underlying t2 with
  |some (.int _)=>true
  |_=>false)
def Po {P:Program} {wb:aT} {G:Gh} {S S':St} {w:World} (h:ax wb G S w) {t t2 ty:TypeId} {k bytes:Nat} {z:List AV} {x y r:AV} {u v:Value} (hx:af G x u) (hy:af G y v)
  (hty:DU P t t2 k bytes z=true) (aL:wP bytes x y) (he:su k z S x y=some (r,S')):dK P wb G (Builtin.append_ #[t,t2] ty #[u,v]) w r S':=by
 unfold su at he;split at he;rotate_left
 ·cases he
 rename_i k' n l c q m;split at he;rotate_left
 ·cases he
 rename_i hcnd;obtain ⟨rfl,hm,hcm⟩:=hcnd;simp only [Ar] at he;obtain ⟨cs,hg,he⟩:=he;split at he
 ·cases he
 rename_i hnb;have hnb:aE cs=false:=by simpa using hnb
 split at he;rotate_left
 ·cases he
 rename_i hle;simp only [Ae,Ac] at he;obtain ⟨rfl,rfl⟩:=he;unfold DU at hty;simp only [Aa] at hty;obtain ⟨hty,hty2⟩:=hty;split at hty;rotate_left
 ·cases hty
 rename_i e ht;simp only [Aa,beq_iff_eq] at hty;obtain ⟨⟨h5,h6⟩,hty⟩:=hty;split at hty;rotate_left
 ·cases hty
 rename_i i hi;simp only [Aa,beq_iff_eq,decide_eq_true_eq] at hty;obtain ⟨⟨h1,h2⟩,h3⟩:=hty;split at hty2;rotate_left
 ·cases hty2
 rename_i kn ht2;have hzi:=h5;unfold fL at hzi;rw [hi] at hzi;simp only at hzi;split at hzi;rotate_left
 ·cases hzi
 rename_i zv hz;obtain ⟨v0,hv0,hcr0⟩:=kJ h5 w
 have hzz:zv=v0:=by
  have:(zeroValue e).run P w= .ok zv w:=by simp [zeroValue,typeInfo,hi,hz]
  rw [this] at hv0;injection hv0
 subst hzz
 cases hx with
 |b9 _ hσ hc hcz=>
 rename_i r0;cases hy;have hd:=h.drew;obtain ⟨os,hos,hol,hfo⟩:=xk (P:=P) (c:=c) h hg hnb hσ hle h3;have hob1:((n:Int)+(m:Nat))*bytes<=140737488355328:=aL.1;have hob2:(n:Int)+(m:Nat)<=9223372036854775807:=aL.2
 have hnb2:(n+m)*bytes<=140737488355328:=by
  have:(((n+m)*bytes:Nat):Int)<=140737488355328:=by
   rw [Int.natCast_mul,Int.natCast_add];exact hob1
  omega
 have hmb:m*bytes<=140737488355328:=AH (Be bytes (Nat.le_add_left m n)) hnb2
 have run:=Lib.run_append_grow_zeros (P:=P) w t t2 ty e i zv q kn ht ht2 hi hz (some ⟨r0,0,none⟩) n c os (by rw [h1];exact hfo) m hm (by omega) hcm (by omega) (by rw [h2];omega) (by
  rw [h2];have:=growslice_fits (need:=n+m) (old:=c) (bytes:=bytes) hcm hnb2
  omega)
 have hc2:n+m<=grownCap w (n+m) c e:=by simp only [grownCap,Question.cut];omega
 generalize grownCap w (n+m) c e=c2 at run hc2;have hzr:=C7 (hcr0 G) m (by omega);have hkr:∀ x∈List.replicate m (AV.agg z),x.cells.length=k':=fun x hx=>by rw [BX hx];exact h6
 have hzl:(flat (List.replicate m (AV.agg z))).length=m*k':=by rw [cO hkr,Ci]
 obtain ⟨G',g1,g2,g3,g4⟩:=hd.j9 (E:=e) (rest:=(Builtin.zeroCells zv.cells (c2-(n+m))).toList) (hos.append hzr)
 have hsz4:zv.cells.size=k':=by
  have:=(hcr0 G).len;rw [h6] at this;simpa using this.symm
 refine ⟨_,_,G',run,g1,?_,?_⟩
 ·have e1:(os++(Builtin.zeroCells zv.cells m).toList++(Builtin.zeroCells zv.cells (c2-(n+m))).toList).toArray=os.toArray++Builtin.zeroCells zv.cells m++Builtin.zeroCells zv.cells (c2-(n+m)):=by
   apply Aq;simp
  rw [e1] at g4;exact g4
 ·refine .aN k' g2 hc2 ?_;rw [g3];have e5:(Builtin.zeroCells zv.cells (c2-(n+m))).toList.length=(c2-(n+m))*k':=by rw [<-hsz4,<-gT];exact Array.length_toList
  have e6:(os++(Builtin.zeroCells zv.cells m).toList).length=(n+m)*k':=by rw [Ak,<-hos.len,hol,<-hzr.len,hzl,AM]
  rw [e5,e6,<-AM,Aw];refine Be k' (by omega)
end Go.V
namespace Go.V
open Go
inductive MK where
 |oL (x:aj)
 |pick (c a b:aj)
 |alloc (z:List AV)
 |box (x:aj)
 |build (z:List AV) (ps:List (Nat×Nat×aj))
 |rj (k:Nat) (z:List AV) (xs:List aj)
 |load (n:Nat) (ag:Bool) (p:aj)
 |store (n:Nat) (p x:aj)
 |xN (x:aj)
 |bin (op:BinOp) (x y:aj)
 |eqv (ks:List EK) (neg:Bool) (x y:aj)
 |un (op:UnOp) (x:aj)
 |conv (k:IntKind) (x:aj)
 |MY (x:aj)
 |DX (x:aj)
 |qK (off:Nat) (x:aj)
 |Ha (off n:Nat) (ag:Bool) (x:aj)
 |qR (k:Nat) (x i:aj)
 |mI (k len:Nat) (x i:aj)
 |sH (x i:aj)
 |vI (k len:Nat) (ag:Bool) (x i:aj)
 |yq (x:aj) (lo hi:Option aj)
 |yr (k:Nat) (x:aj) (lo hi mx:Option aj)
 |len (s:Bool) (x:aj)
 |app (k bytes:Nat) (x y:aj)
 |cI (t:TypeId) (x:aj)
 |func (f:Fn) (first caps:List aj)
 |ext (x:aj) (i:Nat)
 |min (x y:aj)
 |HJ (x:aj)
 |oJ (k bytes:Nat) (c:aj)
 |cmp (k:Nat) (neg:Bool) (x y:aj)
 |bad
 |lO
 |sk (k bytes:Nat) (x y:aj)
 |tas (t:TypeId) (z:AV) (x:aj)
 |qB (k bytes:Nat) (x y:aj)
 |nn (t:TypeId) (neg:Bool) (x:aj)
 |Ef (k:Nat) (z:List AV) (x:aj)
 |mkMap
 |ins (s:Bool) (m x y:aj)
 |look (ok s:Bool) (z:AV) (m x:aj)
 |o9 (q:IntKind) (a:Int) (m y:aj)
 |max (x y:aj)
 |zI (E:Nat) (x:aj)
 |uK (E:Nat) (x:aj)
 |uL (x:aj)
 |qA (k bytes:Nat) (x y:aj)
 |CG (bytes:Nat) (z:AV) (x:aj)
 |Fp (bytes:Nat) (kz:IntKind) (vz:Int) (n:Nat)
 |vV (k:Nat) (z:List AV) (xs:List aj)
 |IE (k:Nat) (x:aj)
 |FX (k:Nat) (x:aj) (lo hi mx:Option aj)
 |GO (k:Nat) (x y:aj)
 |sj (k bytes:Nat) (x y:aj)
 |sr (k bytes:Nat) (z:List AV) (x y:aj)
 |Ie (ag:Bool) (x:aj)
def MK.ev (F:Fr) (S:St):MK->Option (AV×St)
 | .oL x=>some (x.ev F,S)
 | .pick c a b=>match c.ev F with
  | .bool t=>some (if t then a.ev F else b.ev F,S)
  |_=>none
 | .alloc z=>some (.ptr S.n 0,{S with n:=S.n+1,obj:=(S.n,z)::S.obj})
 | .box x=>if (x.ev F).gB then some (.ptr S.n 0,{S with n:=S.n+1,obj:=(S.n,(x.ev F).cells)::S.obj}) else none
 | .build z ps=>(dp F z ps).map fun cs=>(.agg cs,S)
 | .rj k _ xs=>if iH k (xs.map (aj.ev F)) then some (.sl k (xs.map (aj.ev F)) .exact,S) else none
 | .load n ag p=>((p.ev F).there S).bind fun cs=>(cC n ag cs).map fun v=>(v,S)
 | .store n p x=>(fV n S (p.ev F) (x.ev F)).map fun S'=>(.aF [],S')
 | .xN x=>if nS (x.ev F) then some (x.ev F,S) else none
 | .bin op x y=>(gn op (x.ev F) (y.ev F)).map fun v=>(v,S)
 | .eqv ks neg x y=>(kq ks neg (x.ev F) (y.ev F)).map fun v=>(v,S)
 | .un op x=>(py op (x.ev F)).map fun v=>(v,S)
 | .conv k x=>match x.ev F with
  | .int _ n=>some (.int k (k.wrap n),S)
  |_=>none
 | .MY x=>match x.ev F with
  | .str s=>some (.str s,S)
  |_=>none
 | .DX x=>match x.ev F with
  | .sl k xs _=>if k=1 then (strOf xs).map fun s=>(.str s,S) else none
  |_=>none
 | .qK off x=>((x.ev F).plus off).map fun v=>(v,S)
 | .Ha off n ag x=>(lx off n ag (x.ev F)).map fun v=>(v,S)
 | .qR k x i=>match x.ev F,i.ev F with
  | .sl k' xs _,.int _ n=>if k'=k then some (.eZ k xs n.toNat 0,S) else none
  | .aN k' _ l o,.int _ n=>if k'=k then some (.ptr l (o+n.toNat*k),S) else none
  |_,_=>none
 | .mI k _ x i=>match i.ev F with
  | .int _ n=>((x.ev F).plus (n.toNat*k)).map fun v=>(v,S)
  |_=>none
 | .sH x i=>match x.ev F,i.ev F with
  | .str s,.int _ n=>(s[n.toNat]?).map fun b=>(.int .u8 b.toNat,S)
  |_,_=>none
 | .vI k ln ag x i=>(jE k ln ag (x.ev F) (i.ev F)).map fun v=>(v,S)
 | .yq x lo hi=>(gQ (x.ev F) (lo.map (aj.ev F)) (hi.map (aj.ev F))).map fun v=>(v,S)
 | .yr k x lo hi mx=>(cS k (x.ev F) (lo.map (aj.ev F)) (hi.map (aj.ev F)) (mx.map (aj.ev F))).map fun v=>(v,S)
 | .len s x=>if isStr (x.ev F)=s then (eg (x.ev F)).map fun v=>(v,S) else none
 | .app k _ x y=>fm k S (x.ev F) (y.ev F)
 | .cI t x=>some (.cI t (x.ev F),S)
 | .func f first caps=>some (.fn f (first.map (aj.ev F)) (caps.map (aj.ev F)),S)
 | .ext x i=>(kr i (x.ev F)).map fun v=>(v,S)
 | .min x y=>(lE (x.ev F) (y.ev F)).map fun v=>(v,S)
 | .HJ x=>match x.ev F with
  | .str s=>some (.sl 1 (s.map ck) .ai,S)
  |_=>none
 | .oJ k _ c=>match c.ev F with
  | .int _ _=>some (.sl k [] (.tok S.nt),{S with nt:=S.nt+1,live:=S.nt::S.live})
  |_=>none
 | .cmp k neg x y=>(qG k (x.ev F) (y.ev F)).map fun b=>(.bool (neg !=b),S)
 | .bad=>none
 | .lO=>some (.ptr S.n 0,{S with n:=S.n+1,obj:=(S.n,[.bu []])::S.obj})
 | .sk k _ x y=>sn k S (x.ev F) (y.ev F)
 | .tas t z x=>(mQ t z (x.ev F)).map fun v=>(v,S)
 | .qB k _ x y=>fJ k S (x.ev F) (y.ev F)
 | .nn _ neg x=>(vX neg (x.ev F)).map fun v=>(v,S)
 | .Ef k z x=>oq k z S (x.ev F)
 | .mkMap=>some (.mp S.n,{S with n:=S.n+1,obj:=(S.n,[.eX [] []])::S.obj})
 | .ins s m x y=>(ui s S (m.ev F) (x.ev F) (y.ev F)).map fun S'=>(.aF [],S')
 | .look ok s z m x=>(nI ok s z S (m.ev F) (x.ev F)).map fun v=>(v,S)
 | .o9 q a m y=>(ew q a S (m.ev F) (y.ev F)).map fun S'=>(.aF [],S')
 | .max x y=>(Dq (x.ev F) (y.ev F)).map fun v=>(v,S)
 | .zI E x=>(od (x.ev F)).map fun b=>(.ptr S.n 0,{S with n:=S.n+1,obj:=(S.n,[.jH E b])::S.obj})
 | .Ie ag x=>(mS S (x.ev F)).map fun b=>(if ag then .agg [.bool b] else .bool b,S)
 | .uK E x=>if kK E S (x.ev F) then some (x.ev F,S) else none
 | .uL x=>if ku S (x.ev F) then some (.agg [],S) else none
 | .qA k _ x y=>gk k S (x.ev F) (y.ev F)
 | .Fp _ kz vz n=>some (.sl 1 (List.replicate n (.int kz vz)) .ai,S)
 | .vV k _ xs=>if iH k (xs.map (aj.ev F)) then some (.aN k (xs.map (aj.ev F)).length S.n 0,{S with n:=S.n+1,obj:=(S.n,flat (xs.map (aj.ev F)))::S.obj}) else none
 | .IE _ x=>(gX (x.ev F)).map fun v=>(v,S)
 | .FX k x lo hi mx=>(gb k (x.ev F) (lo.map (aj.ev F)) (hi.map (aj.ev F)) (mx.map (aj.ev F))).map fun v=>(v,S)
 | .GO k x y=>ot k S (x.ev F) (y.ev F)
 | .sj k _ x y=>eG k S (x.ev F) (y.ev F)
 | .sr k _ z x y=>su k z S (x.ev F) (y.ev F)
 | .CG _ z x=>match x.ev F with
  | .int _ n=>some (.aN 1 n.toNat S.n 0,{S with n:=S.n+1,obj:=(S.n,List.replicate n.toNat z)::S.obj})
  |_=>none
def MK.ob (F:Fr) (S:St):MK->Prop
 | .bin op x y=>fZ op (x.ev F) (y.ev F)
 | .qR _ x i=>match x.ev F,i.ev F with
  | .sl _ xs _,.int _ n=>0<=n/\n<xs.length
  | .aN _ m _ _,.int _ n=>0<=n/\n<m
  |_,_=>True
 | .mI _ ln _ i=>match i.ev F with
  | .int _ n=>0<=n/\n<ln
  |_=>True
 | .sH _ i=>match i.ev F with
  | .int _ n=>0<=n
  |_=>True
 | .yq x lo hi=>fU (x.ev F) (lo.map (aj.ev F)) (hi.map (aj.ev F))
 | .yr _ x lo hi mx=>cG (x.ev F) (lo.map (aj.ev F)) (hi.map (aj.ev F)) (mx.map (aj.ev F))
 | .app k bytes x y=>fN k bytes S (x.ev F) (y.ev F)
 | .oJ _ bytes c=>match c.ev F with
  | .int _ n=>0<=n/\(bytes:Int)*n<=281474976710656/\n<=9223372036854775807
  |_=>True
 | .lO=>lF S=true
 | .sk k bytes x y=>wO k bytes S (x.ev F) (y.ev F)
 | .qB k bytes _ y=>fK k bytes (y.ev F)
 | .qA k bytes x y=>gD k bytes (x.ev F) (y.ev F)
 | .FX _ x lo hi mx=>fP (x.ev F) (lo.map (aj.ev F)) (hi.map (aj.ev F)) (mx.map (aj.ev F))
 | .sj k bytes x y=>eR k bytes (x.ev F) (y.ev F)
 | .sr _ bytes _ x y=>wP bytes (x.ev F) (y.ev F)
 | .CG bytes _ c=>match c.ev F with
  | .int _ n=>0<=n/\(bytes:Int)*n<=281474976710656/\n<=9223372036854775807
  |_=>True
 |_=>True
def rk (P:Program) (k:Nat) (z:List AV) (xs:List aj) (t:TypeId) (len:Nat) (parts:Array (Nat×Operand)):Bool:=
 (match P.underlying t with
  |some (.slice e)=>cg P e k && fL P e z
  |_=>false) && decide (0<k) && decide (xs.length*k<=16777216) && xs.length==len && iT xs (parts.toList.map (·.2)) && decide (parts.toList.map (·.1)=List.range len)
def GM (P:Program) (k bytes:Nat) (t:TypeId) (l:Operand):Bool:=
 (match l with
  | .const (.int _ 0)=>true
  |_=>false) && (match P.underlying t with
  |some (.slice e)=>(match P.info? e with
   |some i=>i.size==k && i.bytes==bytes && i.zero.isSome
   |none=>false)
  |_=>false)
def MK.fits (P:Program):MK->Op->Bool
 | .oL x,.move y| .oL x,.assign y=>x.fits y
 | .pick c a b,.pick c' a' b'=>c.fits c' && a.fits a' && b.fits b'
 | .alloc z,.alloc t=>fL P t z
 | .box x,.box _ y=>x.fits y
 | .build z ps,.build t qs=>yT P t z ps qs.toList
 | .rj k z xs,.buildSlice t ln parts=>rk P k z xs t ln parts
 | .load n ag p,.load t q=>p.fits q && known P t && (eT P t==ag) && cg P t n
 | .store n p x,.store t q y=>p.fits q && x.fits y && cg P t n
 | .xN x,.nilCheck y=>x.fits y
 | .bin op x y,.binOp op' _ x' y' _=>decide (op=op') && x.fits x' && y.fits y'
 | .eqv ks neg x y,.binOp op t x' y' _=>decide (op=if neg then .neq else .eql) && EB P ks t && x.fits x' && y.fits y'
 | .un op x,.unOp op' _ y=>decide (op=op') && x.fits y
 | .conv k x,.convert s d y=>x.fits y && known P s && p6 P d k
 | .MY x,.convert s d y=>x.fits y && fh P s && fh P d
 | .DX x,.convert s d y=>x.fits y && pJ P s && fh P d
 | .qK off x,.fieldAddr s y f=>x.fits y && y8 P s f off
 | .Ha off n ag x,.field s y f=>x.fits y && IU P s f off n ag
 | .qR k x i,.indexAddr t y j=>x.fits y && i.fits j && (match P.underlying t with
  |some (.slice e)=>cg P e k
  |_=>false)
 | .mI k ln x i,.indexAddr t y j=>x.fits y && i.fits j && (match P.underlying t with
  |some (.array n e)=>n==ln && cg P e k
  |_=>false)
 | .sH x i,.index t y j=>x.fits y && i.fits j && fh P t
 | .vI k ln ag x i,.index t y j=>x.fits y && i.fits j && EF P t k ln ag
 | .yq x lo hi,.slice t y lo' hi' mx'=>x.fits y && iA lo lo' && iA hi hi' && mx'.isNone && fh P t
 | .yr k x lo hi mx,.slice t y lo' hi' mx'=>x.fits y && iA lo lo' && iA hi hi' && iA mx mx' && (match P.underlying t with
  |some (.slice e)=>cg P e k
  |_=>false)
 | .len s x,.call c=>(match c.callee with
  | .builtin .len=>true
  |_=>false) && (match c.args.toList,c.argTypes.toList with
  |[y],[t]=>x.fits y && Jb P s t
  |_,_=>false)
 | .app k bytes x y,.call c=>(match c.callee with
  | .builtin .append=>true
  |_=>false) && (match c.args.toList,c.argTypes.toList with
  |[x',y'],[t,t2]=>x.fits x' && y.fits y' && gW P t t2 k bytes
  |_,_=>false)
 | .min x y,.call c=>(match c.callee with
  | .builtin .min=>true
  |_=>false) && (match c.args.toList with
  |[x',y']=>x.fits x' && y.fits y'
  |_=>false)
 | .cI t x,.makeInterface t' y=>t==t' && x.fits y && qI P t
 | .func f first caps,.makeFunc f' first' caps'=>decide (f=f') && iT first first'.toList && iT caps caps'.toList
 | .ext x i,.extract y j=>x.fits y && i==j
 | .HJ x,.convert s d y=>x.fits y && fh P s && pJ P d
 | .oJ k bytes c,.makeSlice t l c'=>c.fits c' && GM P k bytes t l
 | .cmp k neg x y,.binOp op t x' y' _=>decide (op=if neg then .neq else .eql) && x.fits x' && y.fits y' && II P t k y'
 | .lO,.alloc t=>yR P t
 | .sk k bytes x y,.call c=>(match c.callee with
  | .builtin .append=>true
  |_=>false) && (match c.args.toList,c.argTypes.toList with
  |[x',y'],[t,t2]=>x.fits x' && y.fits y' && gW P t t2 k bytes
  |_,_=>false)
 | .tas t z x,.typeAssert y _ t' ok=>x.fits y && t==t' && ok && zC P t z
 | .qB k bytes x y,.call c=>(match c.callee with
  | .builtin .append=>true
  |_=>false) && (match c.args.toList,c.argTypes.toList with
  |[x',y'],[t,t2]=>x.fits x' && y.fits y' && gW P t t2 k bytes
  |_,_=>false)
 | .nn t neg x,.binOp op t' x' y' _=>decide (op=if neg then .neq else .eql) && x.fits x' && t==t' && OG P t y'
 | .Ef k z x,.call c=>(match c.callee with
  | .builtin .clear=>true
  |_=>false) && (match c.args.toList,c.argTypes.toList with
  |[x'],[t]=>x.fits x' && IH P t k z
  |_,_=>false)
 | .mkMap,.makeMap t r=>(match r with
  |none=>true
  |some (.const (.int _ _))=>kG P t false none||kG P t true none
  |_=>false)
 | .ins s m x y,.mapUpdate t m' x' y'| .ins s m x y,.insert t m' x' y'=>kG P t s none && m.fits m' && x.fits x' && y.fits y'
 | .look ok s z m x,.lookup t m' x' ok'=>ok==ok' && kG P t s (some z) && m.fits m' && x.fits x'
 | .o9 q a m y,.insert t m' (.const (.int q' a')) y'=>kG P t false none && m.fits m' && y.fits y' && q==q' && a==a'
 | .max x y,.call c=>(match c.callee with
  | .builtin .max=>true
  |_=>false) && (match c.args.toList with
  |[x',y']=>x.fits x' && y.fits y'
  |_=>false)
 | .zI E x,.box t y=>E==t && x.fits y
 | .uK E x,.fieldAddr s y f=>E==s && x.fits y && PD P s f
 | .uL x,.load t q=>x.fits q && known P t && eT P t && cg P t 0
 | .qA k bytes x y,.call c=>(match c.callee with
  | .builtin .append=>true
  |_=>false) && (match c.args.toList,c.argTypes.toList with
  |[x',y'],[t,t2]=>x.fits x' && y.fits y' && gW P t t2 k bytes
  |_,_=>false)
 | .Fp bytes kz vz n,.makeSlice t l c=>decide (bytes*n<=281474976710656) && decide (n<=9223372036854775807) && (match l with
  | .const (.int .i64 a)=>a==(n:Int)
  |_=>false) && (match c with
  | .const (.int .i64 a)=>a==(n:Int)
  |_=>false) && j8 P bytes (.int kz vz) t
 | .CG bytes z x,.makeSlice t l c=>x.fits l && x.fits c && j8 P bytes z t
 | .vV k z xs,.buildSlice t ln parts=>rk P k z xs t ln parts
 | .IE k x,.call c=>(match c.callee with
  | .builtin .cap=>true
  |_=>false) && (match c.args.toList,c.argTypes.toList with
  |[x'],[t]=>x.fits x' && uE P t k
  |_,_=>false)
 | .FX k x lo hi mx,.slice t y lo' hi' mx'=>x.fits y && iA lo lo' && iA hi hi' && iA mx mx' && (match P.underlying t with
  |some (.slice e)=>cg P e k
  |_=>false)
 | .GO k x y,.call c=>(match c.callee with
  | .builtin .copy=>true
  |_=>false) && (match c.args.toList,c.argTypes.toList with
  |[x',y'],[t,_]=>x.fits x' && y.fits y' && uE P t k
  |_,_=>false)
 | .sj k bytes x y,.call c=>(match c.callee with
  | .builtin .append=>true
  |_=>false) && (match c.args.toList,c.argTypes.toList with
  |[x',y'],[t,t2]=>x.fits x' && y.fits y' && gW P t t2 k bytes
  |_,_=>false)
 | .Ie ag x,.load t q=>x.fits q && known P t && (eT P t==ag) && cg P t 1
 | .sr k bytes z x y,.call c=>(match c.callee with
  | .builtin .append=>true
  |_=>false) && (match c.args.toList,c.argTypes.toList with
  |[x',y'],[t,t2]=>x.fits x' && y.fits y' && DU P t t2 k bytes z
  |_,_=>false)
 | .bad,_=>true
 |_,_=>false
def yJ (P:Program) (wb:aT) (G:Gh) (x:Sem Next) (w:World) (r:AV) (S':St):Prop:=∃ n v w' G',x.run P w= .ok n w'/\(n= .value v∨(n= .skip/\v=undef))/\G.le G'/\ax wb G' S' w'/\af G' r v
def yJ.dc {P:Program} {wb:aT} {G:Gh} {x:Sem Value} {w:World} {r:AV} {S':St} (h:dK P wb G x w r S'):yJ P wb G (do pure (.value (<-x))) w r S':=by
 obtain ⟨v,w',G',h1,h2,h3,h4⟩:=h;exact ⟨.value v,v,w',G',by simp [h1],.inl rfl,h2,h3,h4⟩
def yJ.same {P:Program} {wb:aT} {G:Gh} {x:Sem Value} {w:World} {r:AV} {S:St} (h:ax wb G S w) (hx:∃ v,x.run P w= .ok v w/\af G r v):yJ P wb G (do pure (.value (<-x))) w r S:=by
 obtain ⟨v,h1,h2⟩:=hx;exact .dc (.same h h1 h2)
def fT {G:Gh} {F:Fr} {a:Act} (h:jv G F a) {x:Option aj} {o:Option Operand} (hf:iA x o=true):l9 G (x.map (aj.ev F)) (o.map a.eval):=by
 cases x<;>cases o<;>simp [iA] at hf
 ·trivial
 ·exact aj.rel h hf
def ER {P:Program} {t:TypeId} (h:fh P t=true):P.underlying t=some .string:=by
 unfold fh at h;split at h
 ·assumption
 ·cases h
def tz:∀ (vs:List Value) (parts:List (Nat×Value)) (i:Nat),parts.map (·.2)=vs->parts.map (·.1)=List.range' i vs.length->parts=(vs.zipIdx i).map fun x=>(x.2,x.1)
 |[],[],_,_,_=>rfl
 |[],_::_,_,h,_=>by simp at h
 |_::_,[],_,h,_=>by simp at h
 |v::vs,p::ps,i,h,h'=>by
  simp only [List.map_cons,BV,List.length_cons,List.range'_succ] at h h';obtain ⟨rfl,h1⟩:=h;obtain ⟨h2,h3⟩:=h';have:=tz vs ps (i+1) h1 (by rw [h3]);subst h2;rw [List.zipIdx_cons,List.map_cons,<-this]
def MK.sound {P:Program} {wb:aT} {G:Gh} {S S':St} {F:Fr} {a:Act} {w:World} {m:MK} {o:Oper} {r:AV} (hfit:m.fits P o.op=true) (aL:m.ob F S) (hev:m.ev F S=some (r,S')) (hS:ax wb G S w) (hF:jv G F a):
  yJ P wb G (execOp a.eval o) w r S':=by
 unfold MK.fits at hfit;split at hfit
 case h_1 x y h=>
  simp only [MK.ev,Ae,Ac] at hev;obtain ⟨rfl,rfl⟩:=hev;simp only [execOp,h];exact ⟨_,_,w,G,rfl,.inl rfl,Gh.le_refl G,hS,aj.rel hF hfit⟩
 case h_2 x y h=>
  simp only [MK.ev,Ae,Ac] at hev;obtain ⟨rfl,rfl⟩:=hev;simp only [execOp,h];exact ⟨_,_,w,G,rfl,.inl rfl,Gh.le_refl G,hS,aj.rel hF hfit⟩
 case h_3 c a1 b c' a' b' h=>
  simp only [Aa] at hfit;obtain ⟨⟨f1,f2⟩,f3⟩:=hfit;have hc:=aj.rel hF f1;simp only [MK.ev] at hev;split at hev
  ·rename_i t ht;rw [ht] at hc;simp only [Ae,Ac] at hev;obtain ⟨rfl,rfl⟩:=hev;generalize hcv:a.eval c'=cv at hc;cases hc;simp only [execOp,h,hcv,asBool];refine ⟨_,_,w,G,rfl,.inl rfl,Gh.le_refl G,hS,?_⟩;cases t
   ·exact aj.rel hF f3
   ·exact aj.rel hF f2
  ·cases hev
 case h_4 z t h=>
  simp only [MK.ev,Ae,Ac] at hev;obtain ⟨rfl,rfl⟩:=hev;simp only [execOp,h];exact .dc (M5 hS hfit)
 case h_5 x t y h=>
  simp only [MK.ev] at hev;split at hev
  ·rename_i hs;simp only [Ae,Ac] at hev;obtain ⟨rfl,rfl⟩:=hev;simp only [execOp,h];exact .dc (Vk hS (aj.rel hF hfit) hs)
  ·cases hev
 case h_6 z ps t qs h=>
  simp only [MK.ev,Ag,Ac] at hev;obtain ⟨cs,h1,rfl,rfl⟩:=hev;simp only [execOp,h];exact .same hS (run_build hF hfit h1)
 case h_7 k z xs t ln parts h=>
  simp only [MK.ev] at hev;split at hev
  ·rename_i hrow;simp only [Ae,Ac] at hev;obtain ⟨rfl,rfl⟩:=hev;simp only [execOp,h];unfold rk at hfit;simp only [Aa,decide_eq_true_eq,beq_iff_eq] at hfit;obtain ⟨⟨⟨⟨⟨f1,f2⟩,f3⟩,f4⟩,f5⟩,f6⟩:=hfit;split at f1
   ·rename_i e he;simp only [Aa] at f1;obtain ⟨r1,r2⟩:=gK hF f5;have e1:ln=(xs.map (aj.ev F)).length:=by simp [f4]
    rw [e1];refine .dc (zy hS (vs:=(parts.toList.map (·.2)).map a.eval) r1 r2 hrow he f1.1 f1.2 f2 (by simpa using f3) ?_);refine tz _ _ 0 ?_ ?_
    ·simp
    ·have e2:((parts.toList.map (·.2)).map a.eval).length=ln:=by rw [<-r1];simp [f4]
     rw [e2,<-List.range_eq_range',<-f6];simp
   ·cases f1
  ·cases hev
 case h_8 n ag p t q h=>
  simp only [Aa,beq_iff_eq] at hfit;obtain ⟨⟨⟨f1,f2⟩,f3⟩,f4⟩:=hfit;simp only [MK.ev,Ar,Ag,Ac] at hev;obtain ⟨cs,h1,v,h2,rfl,rfl⟩:=hev;obtain ⟨rr,oo,h3,h4⟩:=F9 hS h1 (aj.rel hF f1);simp only [execOp,h,h3];exact .same hS (pq h4 f2 f3 f4 h2)
 case h_9 n p x t q y h=>
  simp only [Aa] at hfit;obtain ⟨⟨f1,f2⟩,f3⟩:=hfit;simp only [MK.ev,Ag,Ac] at hev;obtain ⟨S1,h1,rfl,rfl⟩:=hev;obtain ⟨w',h2,h3⟩:=FP (P:=P) hS (aj.rel hF f1) (aj.rel hF f2) f3 h1;simp only [execOp,h];exact ⟨.skip,undef,w',G,by simp [h2],.inr ⟨rfl,rfl⟩,Gh.le_refl G,h3,.aF (vs:=[]) rfl (by simp)⟩
 case h_10 x y h=>
  simp only [MK.ev] at hev;split at hev
  ·rename_i hn;simp only [Ae,Ac] at hev;obtain ⟨rfl,rfl⟩:=hev;have hx:=aj.rel hF hfit;simp only [execOp,h];generalize x.ev F=xv at hx hn;generalize a.eval y=yv at hx
   cases hx<;>first
    |(cases hn;done)
    |exact ⟨_,_,w,G,rfl,.inl rfl,Gh.le_refl G,hS,by constructor<;>assumption⟩
  ·cases hev
 case h_11 op x y op' t x' y' t' h=>
  simp only [Aa,decide_eq_true_eq] at hfit;obtain ⟨⟨rfl,f2⟩,f3⟩:=hfit;simp only [MK.ev,Ag,Ac] at hev;obtain ⟨v,h1,rfl,rfl⟩:=hev;simp only [execOp,h];exact .same hS (U7 (aj.rel hF f2) (aj.rel hF f3) aL h1 x' y')
 case h_12 ks neg x y op t x' y' t' h=>
  simp only [Aa,decide_eq_true_eq] at hfit;obtain ⟨⟨⟨rfl,f1⟩,f2⟩,f3⟩:=hfit;simp only [MK.ev,Ag,Ac] at hev;obtain ⟨v,h1,rfl,rfl⟩:=hev;simp only [execOp,h];exact .same hS (Vb (aj.rel hF f2) (aj.rel hF f3) f1 h1 x' y')
 case h_13 op x op' t y h=>
  simp only [Aa,decide_eq_true_eq] at hfit;obtain ⟨rfl,f2⟩:=hfit;simp only [MK.ev,Ag,Ac] at hev;obtain ⟨v,h1,rfl,rfl⟩:=hev;simp only [execOp,h];exact .same hS (aaP (aj.rel hF f2) h1)
 case h_14 k x s d y h=>
  simp only [Aa] at hfit;obtain ⟨⟨f1,f2⟩,f3⟩:=hfit;simp only [MK.ev] at hev;split at hev
  ·rename_i k0 n hx;simp only [Ae,Ac] at hev;obtain ⟨rfl,rfl⟩:=hev;simp only [execOp,h];exact .same hS ⟨_,O5 (aj.rel hF f1) hx f2 f3,.int _ _⟩
  ·cases hev
 case h_15 x s d y h=>
  simp only [Aa] at hfit;obtain ⟨⟨f1,f2⟩,f3⟩:=hfit;have hx:=aj.rel hF f1;simp only [MK.ev] at hev;split at hev
  ·rename_i b hb;rw [hb] at hx;simp only [Ae,Ac] at hev;obtain ⟨rfl,rfl⟩:=hev;simp only [execOp,h];exact .same hS ⟨_,Gu hx f2 f3,hx⟩
  ·cases hev
 case h_16 x s d y h=>
  simp only [Aa] at hfit;obtain ⟨⟨f1,f2⟩,f3⟩:=hfit;have hx:=aj.rel hF f1;simp only [MK.ev] at hev;split at hev
  ·rename_i k xs tk hb;rw [hb] at hx;split at hev
   ·rename_i hk;subst hk;simp only [Ag,Ac] at hev;obtain ⟨b,h1,rfl,rfl⟩:=hev;simp only [execOp,h];exact .same hS (U6 hS hx h1 f2 f3)
   ·cases hev
  ·cases hev
 case h_17 off x s y f h=>
  simp only [Aa] at hfit;simp only [MK.ev,Ag,Ac] at hev;obtain ⟨v,h1,rfl,rfl⟩:=hev;simp only [execOp,h];exact .same hS (Gv (aj.rel hF hfit.1) hfit.2 h1)
 case h_18 off n ag x s y f h=>
  simp only [Aa] at hfit;simp only [MK.ev,Ag,Ac] at hev;obtain ⟨v,h1,rfl,rfl⟩:=hev;simp only [execOp,h];exact .same hS (MQ (aj.rel hF hfit.1) hfit.2 h1)
 case h_19 k x i t y j h=>
  simp only [Aa] at hfit;obtain ⟨⟨f1,f2⟩,f3⟩:=hfit;have hx:=aj.rel hF f1;have hi:=aj.rel hF f2;simp only [MK.ev] at hev;split at hev
  ·rename_i k' xs tk ki n e1 e2;split at hev
   ·rename_i hk;subst hk;simp only [Ae,Ac] at hev;obtain ⟨rfl,rfl⟩:=hev;simp only [MK.ob,e1,e2] at aL;rw [e1] at hx;rw [e2] at hi;split at f3
    ·rename_i e he;simp only [execOp,h];exact .same hS (zx hx hi he f3 aL.1 aL.2)
    ·cases f3
   ·cases hev
  ·rename_i k' m l ki n e1 e2;split at hev
   ·rename_i hk;subst hk;simp only [Ae,Ac] at hev;obtain ⟨rfl,rfl⟩:=hev;simp only [MK.ob,e1,e2] at aL;rw [e1] at hx;rw [e2] at hi;split at f3
    ·rename_i e he;simp only [execOp,h];exact .same hS (yj hx hi he f3 aL.1 aL.2)
    ·cases f3
   ·cases hev
  ·cases hev
 case h_20 k ln x i t y j h=>
  simp only [Aa] at hfit;obtain ⟨⟨f1,f2⟩,f3⟩:=hfit;have hi:=aj.rel hF f2;simp only [MK.ev] at hev;split at hev
  ·rename_i ki n e2;simp only [Ag,Ac] at hev;obtain ⟨v,h1,rfl,rfl⟩:=hev;simp only [MK.ob,e2] at aL;rw [e2] at hi;split at f3
   ·rename_i n' e he;simp only [Aa,beq_iff_eq] at f3;obtain ⟨rfl,f3⟩:=f3;simp only [execOp,h];exact .same hS (yi (aj.rel hF f1) hi he f3 aL.1 aL.2 h1)
   ·cases f3
  ·cases hev
 case h_21 x i t y j h=>
  simp only [Aa] at hfit;obtain ⟨⟨f1,f2⟩,f3⟩:=hfit;have hx:=aj.rel hF f1;have hi:=aj.rel hF f2;simp only [MK.ev] at hev;split at hev
  ·rename_i s ki n e1 e2;simp only [Ag,Ac] at hev;obtain ⟨b,h1,rfl,rfl⟩:=hev;simp only [MK.ob,e2] at aL;rw [e1] at hx;rw [e2] at hi;simp only [execOp,h];exact .same hS (C9 hx hi (ER f3) aL h1)
  ·cases hev
 case h_22 k ln ag x i t y j h=>
  simp only [Aa] at hfit;obtain ⟨⟨f1,f2⟩,f3⟩:=hfit;simp only [MK.ev,Ag,Ac] at hev;obtain ⟨v,h1,rfl,rfl⟩:=hev;simp only [execOp,h];exact .same hS (O6 (aj.rel hF f1) (aj.rel hF f2) f3 h1)
 case h_23 x lo hi t y lo' hi' mx' h=>
  simp only [Aa,BF] at hfit;obtain ⟨⟨⟨⟨f1,f2⟩,f3⟩,rfl⟩,f5⟩:=hfit;simp only [MK.ev,Ag,Ac] at hev;obtain ⟨v,h1,rfl,rfl⟩:=hev;simp only [execOp,h,Option.map_none];exact .same hS (MS (aj.rel hF f1) (fT hF f2) (fT hF f3) (ER f5) aL h1)
 case h_24 k x lo hi mx t y lo' hi' mx' h=>
  simp only [Aa] at hfit;obtain ⟨⟨⟨⟨f1,f2⟩,f3⟩,f4⟩,f5⟩:=hfit;simp only [MK.ev,Ag,Ac] at hev;obtain ⟨v,h1,rfl,rfl⟩:=hev;split at f5
  ·rename_i e he;simp only [execOp,h];exact .same hS (CW (aj.rel hF f1) (fT hF f2) (fT hF f3) (fT hF f4) he f5 aL h1)
  ·cases f5
 case h_25 s x c h=>
  simp only [Aa] at hfit;obtain ⟨f1,f2⟩:=hfit;obtain ⟨callee,args,argTypes⟩:=c;simp only at f1 f2;split at f1;rotate_left
  ·cases f1
  split at f2
  ·rename_i y t e1 e2;simp only [Aa] at f2;simp only [MK.ev] at hev;split at hev
   ·rename_i hstr;subst hstr;simp only [Ag,Ac] at hev;obtain ⟨v,h1,rfl,rfl⟩:=hev;obtain rfl:args= #[y]:=by apply Aq;simpa using e1
    obtain rfl:argTypes= #[t]:=by apply Aq;simpa using e2
    simp only [execOp,h,resolve,AZ,List.map_cons,Az];exact .same hS (Ve (aj.rel hF f2.1) f2.2 h1)
   ·cases hev
  ·cases f2
 case h_26 k bytes x y c h=>
  simp only [Aa] at hfit;obtain ⟨f1,f2⟩:=hfit;obtain ⟨callee,args,argTypes⟩:=c;simp only at f1 f2;split at f1;rotate_left
  ·cases f1
  split at f2
  ·rename_i x' y' t t2 e1 e2;simp only [Aa] at f2;obtain ⟨⟨f3,f4⟩,f5⟩:=f2;simp only [MK.ev] at hev;obtain rfl:args= #[x',y']:=by apply Aq;simpa using e1
   obtain rfl:argTypes= #[t,t2]:=by apply Aq;simpa using e2
   simp only [execOp,h,resolve,AZ,List.map_cons,Az];exact .dc (JV hS (aj.rel hF f3) (aj.rel hF f4) f5 aL hev)
  ·cases f2
 case h_27 x y c h=>
  simp only [Aa] at hfit;obtain ⟨f1,f2⟩:=hfit;obtain ⟨callee,args,argTypes⟩:=c;simp only at f1 f2;split at f1;rotate_left
  ·cases f1
  split at f2
  ·rename_i x' y' e1;simp only [Aa] at f2;simp only [MK.ev,Ag,Ac] at hev;obtain ⟨v,h1,rfl,rfl⟩:=hev;obtain rfl:args= #[x',y']:=by apply Aq;simpa using e1
   simp only [execOp,h,resolve,AZ,List.map_cons,Az];exact .same hS (Vg (aj.rel hF f2.1) (aj.rel hF f2.2) h1)
  ·cases f2
 case h_28 t x t' y h=>
  simp only [Aa,beq_iff_eq] at hfit;obtain ⟨⟨rfl,f2⟩,f3⟩:=hfit;simp only [MK.ev,Ae,Ac] at hev;obtain ⟨rfl,rfl⟩:=hev;simp only [execOp,h];exact .same hS ⟨_,Vd f3,.cI t (aj.rel hF f2)⟩
 case h_29 f first caps f' first' caps' h=>
  simp only [Aa,decide_eq_true_eq] at hfit;obtain ⟨⟨rfl,f2⟩,f3⟩:=hfit;simp only [MK.ev,Ae,Ac] at hev;obtain ⟨rfl,rfl⟩:=hev;obtain ⟨l1,r1⟩:=gK hF f2;obtain ⟨l2,r2⟩:=gK hF f3;simp only [execOp,h];refine .same hS ⟨.func f (first'.map a.eval) (caps'.map a.eval),rfl,?_⟩;have:=af.fn (G:=G) f l1 l2 r1 r2;rw [show (first'.toList.map a.eval).toArray=first'.map a.eval from by apply Aq;simp,show (caps'.toList.map a.eval).toArray=caps'.map a.eval from by apply Aq;simp] at this;exact this
 case h_30 x i y j h=>
  simp only [Aa,beq_iff_eq] at hfit;obtain ⟨f1,rfl⟩:=hfit;simp only [MK.ev,Ag,Ac] at hev;obtain ⟨v,h1,rfl,rfl⟩:=hev;simp only [execOp,h];exact .same hS (Vc (aj.rel hF f1) h1)
 case h_31 x s d y h=>
  simp only [Aa] at hfit;obtain ⟨⟨f1,f2⟩,f3⟩:=hfit;have hx:=aj.rel hF f1;simp only [MK.ev] at hev;split at hev
  ·rename_i b hb;rw [hb] at hx;simp only [Ae,Ac] at hev;obtain ⟨rfl,rfl⟩:=hev;simp only [execOp,h];exact .dc (Vp hS hx f2 f3)
  ·cases hev
 case h_32 k bytes c t l c' h=>
  simp only [Aa] at hfit;obtain ⟨f1,f2⟩:=hfit;have hx:=aj.rel hF f1;simp only [MK.ev] at hev;simp only [MK.ob] at aL;split at hev
  ·rename_i k0 n hn;rw [hn] at hx aL;simp only at aL;simp only [Ae,Ac] at hev;obtain ⟨rfl,rfl⟩:=hev;unfold GM at f2;simp only [Aa] at f2;obtain ⟨f3,f4⟩:=f2;split at f3
   ·rename_i kl;split at f4
    ·rename_i e he;split at f4
     ·rename_i i hi;simp only [Aa,beq_iff_eq] at f4;obtain ⟨⟨f5,f6⟩,f7⟩:=f4;obtain ⟨z,hz⟩:=Bu.1 f7;simp only [execOp,h];generalize hcv:a.eval c'=cv at hx;cases hx;simp only [Act.eval];exact .dc (M6 hS he hi hz aL.1 (by rw [f6];exact aL.2.1) aL.2.2 f5)
     ·cases f4
    ·cases f4
   ·cases f3
  ·cases hev
 case h_33 k neg x y op t x' y' t' h=>
  simp only [Aa,decide_eq_true_eq] at hfit;obtain ⟨⟨⟨rfl,f1⟩,f2⟩,f3⟩:=hfit;simp only [MK.ev,Ag,Ac] at hev;obtain ⟨b,h1,rfl,rfl⟩:=hev;simp only [execOp,h];exact .same hS (Va (aj.rel hF f1) (aj.rel hF f2) f3 h1)
 case h_34 t h=>
  simp only [MK.ev,Ae,Ac] at hev;obtain ⟨rfl,rfl⟩:=hev;simp only [execOp,h];exact .dc (JU hS hfit aL)
 case h_35 k bytes x y c h=>
  simp only [Aa] at hfit;obtain ⟨f1,f2⟩:=hfit;obtain ⟨callee,args,argTypes⟩:=c;simp only at f1 f2;split at f1;rotate_left
  ·cases f1
  split at f2
  ·rename_i x' y' t t2 e1 e2;simp only [Aa] at f2;obtain ⟨⟨f3,f4⟩,f5⟩:=f2;simp only [MK.ev] at hev;obtain rfl:args= #[x',y']:=by apply Aq;simpa using e1
   obtain rfl:argTypes= #[t,t2]:=by apply Aq;simpa using e2
   simp only [execOp,h,resolve,AZ,List.map_cons,Az];exact .dc (Pn hS (aj.rel hF f3) (aj.rel hF f4) f5 aL hev)
  ·cases f2
 case h_36 t z x y xt t' ok h=>
  simp only [Aa,beq_iff_eq] at hfit;obtain ⟨⟨⟨f1,rfl⟩,rfl⟩,f4⟩:=hfit;simp only [MK.ev,Ag,Ac] at hev;obtain ⟨v,h1,rfl,rfl⟩:=hev;simp only [execOp,h];exact .same hS (Vi (aj.rel hF f1) f4 h1)
 case h_37 k bytes x y c h=>
  simp only [Aa] at hfit;obtain ⟨f1,f2⟩:=hfit;obtain ⟨callee,args,argTypes⟩:=c;simp only at f1 f2;split at f1;rotate_left
  ·cases f1
  split at f2
  ·rename_i x' y' t t2 e1 e2;simp only [Aa] at f2;obtain ⟨⟨f3,f4⟩,f5⟩:=f2;simp only [MK.ev] at hev;obtain rfl:args= #[x',y']:=by apply Aq;simpa using e1
   obtain rfl:argTypes= #[t,t2]:=by apply Aq;simpa using e2
   simp only [execOp,h,resolve,AZ,List.map_cons,Az];exact .dc (FT hS (aj.rel hF f3) (aj.rel hF f4) f5 aL hev)
  ·cases f2
 case h_38 t neg x op t' x' y' xt h=>
  simp only [Aa,decide_eq_true_eq,beq_iff_eq] at hfit;obtain ⟨⟨⟨rfl,f1⟩,rfl⟩,f3⟩:=hfit;simp only [MK.ev,Ag,Ac] at hev;obtain ⟨v,h1,rfl,rfl⟩:=hev;simp only [execOp,h];exact .same hS (aaO (aj.rel hF f1) f3 h1)
 case h_39 k z x c h=>
  simp only [Aa] at hfit;obtain ⟨f1,f2⟩:=hfit;obtain ⟨callee,args,argTypes⟩:=c;simp only at f1 f2;split at f1;rotate_left
  ·cases f1
  split at f2
  ·rename_i x' t e1 e2;simp only [Aa] at f2;obtain ⟨f3,f5⟩:=f2;simp only [MK.ev] at hev;obtain rfl:args= #[x']:=by apply Aq;simpa using e1
   obtain rfl:argTypes= #[t]:=by apply Aq;simpa using e2
   simp only [execOp,h,resolve,AZ,List.map_cons,Az];exact .dc (Vl hS (aj.rel hF f3) f5 hev)
  ·cases f2
 case h_40 t r h=>
  simp only [MK.ev,Ae,Ac] at hev;obtain ⟨rfl,rfl⟩:=hev;split at hfit
  ·simp only [execOp,h,Option.map_none];exact .dc (CY hS t)
  ·simp only [execOp,h,Option.map_some,Act.eval];rw [AI] at hfit;rcases hfit with hfit|hfit
   ·exact .dc (yn hS hfit _ _)
   ·exact .dc (yn hS hfit _ _)
  ·cases hfit
 case h_41 s m x y t m' x' y' h=>
  simp only [Aa] at hfit;obtain ⟨⟨⟨f1,f2⟩,f3⟩,f4⟩:=hfit;simp only [MK.ev,Ag,Ac] at hev;obtain ⟨S1,h1,rfl,rfl⟩:=hev;obtain ⟨w',h2,h3⟩:=HM hS f1 (aj.rel hF f2) (aj.rel hF f3) (aj.rel hF f4) h1;simp only [execOp,h];exact ⟨.skip,undef,w',G,by simp [h2],.inr ⟨rfl,rfl⟩,Gh.le_refl G,h3,.aF (vs:=[]) rfl (by simp)⟩
 case h_42 s m x y t m' x' y' h=>
  simp only [Aa] at hfit;obtain ⟨⟨⟨f1,f2⟩,f3⟩,f4⟩:=hfit;simp only [MK.ev,Ag,Ac] at hev;obtain ⟨S1,h1,rfl,rfl⟩:=hev;obtain ⟨w',h2,h3⟩:=HM hS f1 (aj.rel hF f2) (aj.rel hF f3) (aj.rel hF f4) h1;simp only [execOp,h];exact ⟨.skip,undef,w',G,by simp [h2],.inr ⟨rfl,rfl⟩,Gh.le_refl G,h3,.aF (vs:=[]) rfl (by simp)⟩
 case h_43 ok s z m x t m' x' ok' h=>
  simp only [Aa,beq_iff_eq] at hfit;obtain ⟨⟨⟨rfl,f1⟩,f2⟩,f3⟩:=hfit;simp only [MK.ev,Ag,Ac] at hev;obtain ⟨v,h1,rfl,rfl⟩:=hev;simp only [execOp,h];exact .same hS (O7 hS f1 (aj.rel hF f2) (aj.rel hF f3) h1)
 case h_44 q ka m y t m' q' ka' y' h=>
  simp only [Aa,beq_iff_eq] at hfit;obtain ⟨⟨⟨⟨f1,f2⟩,f3⟩,rfl⟩,rfl⟩:=hfit;simp only [MK.ev,Ag,Ac] at hev;obtain ⟨S1,h1,rfl,rfl⟩:=hev;obtain ⟨w',h2,h3⟩:=Pp hS f1 (aj.rel hF f2) (aj.rel hF f3) h1;have e1:a.eval (.const (.int q ka))= .int q ka:=rfl;simp only [execOp,h,e1];exact ⟨.skip,undef,w',G,by simp [h2],.inr ⟨rfl,rfl⟩,Gh.le_refl G,h3,.aF (vs:=[]) rfl (by simp)⟩
 case h_45 x y c h=>
  simp only [Aa] at hfit;obtain ⟨f1,f2⟩:=hfit;obtain ⟨callee,args,argTypes⟩:=c;simp only at f1 f2;split at f1;rotate_left
  ·cases f1
  split at f2
  ·rename_i x' y' e1;simp only [Aa] at f2;simp only [MK.ev,Ag,Ac] at hev;obtain ⟨v,h1,rfl,rfl⟩:=hev;obtain rfl:args= #[x',y']:=by apply Aq;simpa using e1
   simp only [execOp,h,resolve,AZ,List.map_cons,Az];exact .same hS (Vf (aj.rel hF f2.1) (aj.rel hF f2.2) h1)
  ·cases f2
 case h_46 E x t y h=>
  simp only [Aa,beq_iff_eq] at hfit;obtain ⟨rfl,f1⟩:=hfit;have hx:=aj.rel hF f1;simp only [MK.ev,Ag,Ac] at hev;obtain ⟨b,h1,rfl,rfl⟩:=hev;simp only [execOp,h];exact .dc (Pq hS _ hx h1)
 case h_47 E x s y f h=>
  simp only [Aa,beq_iff_eq] at hfit;obtain ⟨⟨rfl,f1⟩,f2⟩:=hfit;have hx:=aj.rel hF f1;simp only [MK.ev] at hev;split at hev
  ·rename_i hz;simp only [Ae,Ac] at hev;obtain ⟨rfl,rfl⟩:=hev;simp only [execOp,h];generalize hxe:x.ev F=xe at hz hx;generalize hya:a.eval y=ya at hx;unfold kK at hz;split at hz
   ·rename_i l;split at hz
    ·rename_i E' b' hg;have hE:E'=E:=by simpa using hz
     subst hE
     cases hx with
     |ptr hr=>
      obtain ⟨fz,hb⟩:=Ig hS hg hr;exact .same hS ⟨_,MV hb f2,.ptr hr⟩
    ·cases hz
   ·cases hz
  ·cases hev
 case h_48 x t q h=>
  simp only [Aa] at hfit;obtain ⟨⟨⟨f1,f2⟩,f3⟩,f4⟩:=hfit;have hx:=aj.rel hF f1;simp only [MK.ev] at hev;split at hev
  ·rename_i hz;simp only [Ae,Ac] at hev;obtain ⟨rfl,rfl⟩:=hev;simp only [execOp,h];generalize hxe:x.ev F=xe at hz hx;generalize hya:a.eval q=ya at hx;unfold ku at hz;split at hz
   ·cases hx with
    |ptr hr=>
     refine .same hS ⟨.agg #[],?_,.agg (vs:=[]) rfl (by simp) (by simp)⟩;simp [Instr.loadAt,Instr.sureAddr,loadVar,ie f2,f3,bR f4,loadCells,loadCellsFrom]
   ·cases hz
  ·cases hev
 case h_49 k bytes x y c h=>
  simp only [Aa] at hfit;obtain ⟨f1,f2⟩:=hfit;obtain ⟨callee,args,argTypes⟩:=c;simp only at f1 f2;split at f1;rotate_left
  ·cases f1
  split at f2
  ·rename_i x' y' t t2 e1 e2;simp only [Aa] at f2;obtain ⟨⟨f3,f4⟩,f5⟩:=f2;simp only [MK.ev] at hev;obtain rfl:args= #[x',y']:=by apply Aq;simpa using e1
   obtain rfl:argTypes= #[t,t2]:=by apply Aq;simpa using e2
   simp only [execOp,h,resolve,AZ,List.map_cons,Az];exact .dc (FR hS (aj.rel hF f3) (aj.rel hF f4) f5 aL hev)
  ·cases f2
 case h_50 bytes kz vz n t l c' h=>
  simp only [Aa,decide_eq_true_eq] at hfit;obtain ⟨⟨⟨⟨f1,f2⟩,f3⟩,f4⟩,f5⟩:=hfit;simp only [MK.ev,Ae,Ac] at hev;obtain ⟨rfl,rfl⟩:=hev;split at f3
  ·split at f4
   ·rename_i a1 _ a2;have e1:=eq_of_beq f3;have e2:=eq_of_beq f4;subst e1 e2;simp only [execOp,h];exact .dc (Vn hS f5 f1 f2)
   ·cases f4
  ·cases f3
 case h_51 bytes z x t l c' h=>
  simp only [Aa] at hfit;obtain ⟨⟨f1,f2⟩,f3⟩:=hfit;have hx:=aj.rel hF f1;have hy:=aj.rel hF f2;simp only [MK.ev] at hev;simp only [MK.ob] at aL;split at hev
  ·rename_i k0 n hn;rw [hn] at hx hy aL;simp only at aL;simp only [Ae,Ac] at hev;obtain ⟨rfl,rfl⟩:=hev;simp only [execOp,h];generalize hcv:a.eval l=lv at hx;generalize hcv':a.eval c'=cv at hy;cases hx;cases hy;exact .dc (Vo hS f3 aL.1 aL.2.1 aL.2.2)
  ·cases hev
 case h_52 k z xs t ln parts h=>
  simp only [MK.ev] at hev;split at hev
  ·rename_i hrow;simp only [Ae,Ac] at hev;obtain ⟨rfl,rfl⟩:=hev;simp only [execOp,h];unfold rk at hfit;simp only [Aa,decide_eq_true_eq,beq_iff_eq] at hfit;obtain ⟨⟨⟨⟨⟨f1,f2⟩,f3⟩,f4⟩,f5⟩,f6⟩:=hfit;split at f1
   ·rename_i e he;simp only [Aa] at f1;obtain ⟨r1,r2⟩:=gK hF f5;have e1:ln=(xs.map (aj.ev F)).length:=by simp [f4]
    rw [e1];refine .dc (ym hS (vs:=(parts.toList.map (·.2)).map a.eval) r1 r2 hrow he f1.1 f1.2 f2 (by simpa using f3) ?_);refine tz _ _ 0 ?_ ?_
    ·simp
    ·have e2:((parts.toList.map (·.2)).map a.eval).length=ln:=by rw [<-r1];simp [f4]
     rw [e2,<-List.range_eq_range',<-f6];simp
   ·cases f1
  ·cases hev
 case h_53 k x c h=>
  simp only [Aa] at hfit;obtain ⟨f1,f2⟩:=hfit;obtain ⟨callee,args,argTypes⟩:=c;simp only at f1 f2;split at f1;rotate_left
  ·cases f1
  split at f2
  ·rename_i x' t e1 e2;simp only [Aa] at f2;obtain ⟨f3,f5⟩:=f2;simp only [MK.ev,Ag,Ac] at hev;obtain ⟨v0,hev,rfl,rfl⟩:=hev;obtain rfl:args= #[x']:=by apply Aq;simpa using e1
   obtain rfl:argTypes= #[t]:=by apply Aq;simpa using e2
   simp only [execOp,h,resolve,AZ,List.map_cons,Az];exact .same hS (U9 (aj.rel hF f3) f5 hev)
  ·cases f2
 case h_54 k x lo hi mx t y lo' hi' mx' h=>
  simp only [Aa] at hfit;obtain ⟨⟨⟨⟨f1,f2⟩,f3⟩,f4⟩,f5⟩:=hfit;simp only [MK.ev,Ag,Ac] at hev;obtain ⟨v0,hev,rfl,rfl⟩:=hev;split at f5;rotate_left
  ·cases f5
  rename_i e hu;simp only [execOp,h];exact .same hS (Vh (aj.rel hF f1) (fT hF f2) (fT hF f3) (fT hF f4) hu f5 aL hev)
 case h_55 k x y c h=>
  simp only [Aa] at hfit;obtain ⟨f1,f2⟩:=hfit;obtain ⟨callee,args,argTypes⟩:=c;simp only at f1 f2;split at f1;rotate_left
  ·cases f1
  split at f2
  ·rename_i x' y' t t2 e1 e2;simp only [Aa] at f2;obtain ⟨⟨f3,f4⟩,f5⟩:=f2;simp only [MK.ev] at hev;obtain rfl:args= #[x',y']:=by apply Aq;simpa using e1
   obtain rfl:argTypes= #[t,t2]:=by apply Aq;simpa using e2
   simp only [execOp,h,resolve,AZ,List.map_cons,Az];exact .dc (Vm hS (aj.rel hF f3) (aj.rel hF f4) f5 hev)
  ·cases f2
 case h_56 k bytes x y c h=>
  simp only [Aa] at hfit;obtain ⟨f1,f2⟩:=hfit;obtain ⟨callee,args,argTypes⟩:=c;simp only at f1 f2;split at f1;rotate_left
  ·cases f1
  split at f2
  ·rename_i x' y' t t2 e1 e2;simp only [Aa] at f2;obtain ⟨⟨f3,f4⟩,f5⟩:=f2;simp only [MK.ev] at hev;obtain rfl:args= #[x',y']:=by apply Aq;simpa using e1
   obtain rfl:argTypes= #[t,t2]:=by apply Aq;simpa using e2
   simp only [execOp,h,resolve,AZ,List.map_cons,Az];exact .dc (Pm hS (aj.rel hF f3) (aj.rel hF f4) f5 aL hev)
  ·cases f2
 case h_57 ag x t q h=>
  simp only [Aa,beq_iff_eq] at hfit;obtain ⟨⟨⟨f1,f2⟩,f3⟩,f4⟩:=hfit;simp only [MK.ev,Ag,Ac] at hev;obtain ⟨b,h1,rfl,rfl⟩:=hev;simp only [execOp,h];exact .same hS (Vj hS (aj.rel hF f1) h1 f2 f3 f4)
 case h_58 k bytes z x y c h=>
  simp only [Aa] at hfit;obtain ⟨f1,f2⟩:=hfit;obtain ⟨callee,args,argTypes⟩:=c;simp only at f1 f2;split at f1;rotate_left
  ·cases f1
  split at f2
  ·rename_i x' y' t t2 e1 e2;simp only [Aa] at f2;obtain ⟨⟨f3,f4⟩,f5⟩:=f2;simp only [MK.ev] at hev;obtain rfl:args= #[x',y']:=by apply Aq;simpa using e1
   obtain rfl:argTypes= #[t,t2]:=by apply Aq;simpa using e2
   simp only [execOp,h,resolve,AZ,List.map_cons,Az];exact .dc (Po hS (aj.rel hF f3) (aj.rel hF f4) f5 aL hev)
  ·cases f2
 case h_59=>simp only [MK.ev,reduceCtorEq] at hev
 case h_60=>cases hfit
end Go.V
namespace Go.V
open Go
structure da (G:Gh) (as:List AV) (vs:List Value):Prop where
 len:as.length=vs.length
 rel:∀ (m:Nat) (c:AV) (v:Value),as[m]? =some c->vs[m]? =some v->af G c v
def da.mono {G G':Gh} (h:G.le G') {as:List AV} {vs:List Value} (hr:da G as vs):da G' as vs:=⟨hr.len,fun m c v a b=>(hr.rel m c v a b).mono h⟩
def da.append {G:Gh} {as bs:List AV} {vs ws:List Value} (h:da G as vs) (h':da G bs ws):da G (as++bs) (vs++ws):=by
 refine ⟨by simp [h.len,h'.len],fun m c v h1 h2=>?_⟩;have hl:=h.len
 by_cases hm:m<as.length
 ·rw [AF hm] at h1;rw [AF (by omega)] at h2;exact h.rel m c v h1 h2
 ·rw [AG (by omega)] at h1;rw [AG (by omega)] at h2;rw [hl] at h1;exact h'.rel _ c v h1 h2
inductive Out where
 |ok (r:AV)
 |eH (v:AV)
def km (P:Program) (f:FuncId) (args:Array Value) (w:World) (R:Ending->World->Prop):Prop:=
 match (callFunc f args).run P w with
 | .ok (.enter g as) w'=>Calls P g as w' R
 | .ok (.value v) w'=>R (.returned v) w'
 | .ok (.row row as) w'=>Rows P row as w' fun v w''=>R (.returned v) w''
 | .halt (.panic v) w'=>R (.panicked [{v,recovered:=false}]) w'
 |_=>False
def Nr (wb:aT) (G:Gh) (K:Out->St->Prop) (e:Ending) (w':World):Prop:=
 ∃ G' S',G.le G'/\ax wb G' S' w'/\match e with
  | .returned v=>∃ r,af G' r v/\K (.ok r) S'
  | .panicked ch=>∃ v av,ch=[{v,recovered:=false}]/\af G' av v/\K (.eH av) S'
  | .outgrown=>False
def ao (P:Program) (f:FuncId) (as:List AV) (S:St) (K:Out->St->Prop):Prop:=∀ (wb:aT) G w vs,ax wb G S w->da G as vs->km P f vs.toArray w (Nr wb G K)
def km.mono {P:Program} {f:FuncId} {args:Array Value} {w:World} {R R':Ending->World->Prop} (h:km P f args w R) (hr:∀ e w',R e w'->R' e w'):km P f args w R':=by
 unfold km at*;generalize (callFunc f args).run P w=r at*
 cases r with
 |ok x w'=>
  cases x with
  |enter g as=>exact Calls.mono h hr
  |value v=>exact hr _ _ h
  |row row as=>exact Rows.mono h fun v w''=>hr _ _
  |_=>exact h.elim
 |halt x w'=>
  cases x with
  |panic v=>exact hr _ _ h
  |_=>exact h.elim
def ao.mono {P:Program} {f:FuncId} {as:List AV} {S:St} {K K':Out->St->Prop} (h:ao P f as S K) (hk:∀ o S',K o S'->K' o S'):ao P f as S K':=by
 intro wb G w vs hS hv;refine (h wb G w vs hS hv).mono fun e w' ⟨G',S',h1,h2,h3⟩=>⟨G',S',h1,h2,?_⟩
 cases e with
 |returned v=>obtain ⟨r,h4,h5⟩:=h3;exact ⟨r,h4,hk _ _ h5⟩
 |panicked ch=>obtain ⟨v,av,h4,h5,h6⟩:=h3;exact ⟨v,av,h4,h5,hk _ _ h6⟩
 |outgrown=>exact h3
def gC (ro:Option Nat):Fence:={Fence.wide with round:=ro}
def yA (ro:Option Nat) (n:Nat):(gC ro).room n:=fun _ h=>by cases h
def GD {ro:Option Nat} {n:Nat} {P:Program} {f:FuncId} {args:Array Value} {w:World} {R:Ending->World->Prop} (h:Calls P f args w R):CallsIn (gC ro) n P f args w R:=(callsIn_wide (n:=n)).2 h
def J7 {ro:Option Nat} {n:Nat} {P:Program} {row:String} {args:Array Value} {w:World} {R:Value->World->Prop} (h:Rows P row args w R):RowsIn (gC ro) n P row args w R:=fun c cs _=>let ⟨v,w',r,s⟩:=h c cs;⟨v,w',r,(StepsIn.of_steps s).mono fun m _=>fenced_wide P m⟩
def lM (P:Program) (l:Nat) (as:List AV) (S:St) (K:Out->St->Prop):Prop:=∀ (wb:aT) G w vs,ax wb G S w->da G as vs->YieldAt Fence.wide 0 P l vs.toArray w (Nr wb G K)
def lM.mono {P:Program} {l:Nat} {as:List AV} {S:St} {K K':Out->St->Prop} (h:lM P l as S K) (hk:∀ o S',K o S'->K' o S'):lM P l as S K':=by
 intro wb G w vs hS hv;obtain ⟨fn,tmps,a,b,h1,h2⟩:=h wb G w vs hS hv;refine ⟨fn,tmps,a,b,h1,h2.mono fun e w' ⟨G',S',h1,h2,h3⟩=>⟨G',S',h1,h2,?_⟩⟩
 cases e with
 |returned v=>obtain ⟨r,h4,h5⟩:=h3;exact ⟨r,h4,hk _ _ h5⟩
 |panicked ch=>obtain ⟨v,av,h4,h5,h6⟩:=h3;exact ⟨v,av,h4,h5,hk _ _ h6⟩
 |outgrown=>exact h3
inductive MX where
 |k (m:MK)
 |call (c:aj) (as:List aj)
 |panic (x:aj)
 |it (m:MT)
structure aV where
 ix:Nat
 dst:Option Nat
 gd:Option (Nat×Bool)
 op:MX
def xM (P:Program) (name:String) (t f:Nat):Bool:=
 (match P.info? t with
  |some i=>(match i.methods.find? (·.name==name) with
   |some m=>m.path.isEmpty && decide (m.func=some (f,false))
   |none=>false)
  |none=>false) && (match P.underlying t with
  |some (.pointer _)=>false
  |some _=>true
  |none=>false)
def JL {P:Program} {name:String} {t f:Nat} (h:xM P name t f=true) (v:Value) (n:Nat) (w:World):(method (n+1) t v name).run P w= .ok (f,v) w:=by
 simp only [xM,Aa] at h;obtain ⟨h1,h2⟩:=h;split at h1
 ·rename_i i hi;split at h1
  ·rename_i m hm;simp only [Aa,decide_eq_true_eq] at h1;obtain ⟨a1,a2⟩:=h1;have a3:m.path.toList=[]:=by simpa using a1
   split at h2
   ·cases h2
   ·rename_i d hn hd
    have hr:∀ wr,(receiverAt t (.val v) false wr).run P w= .ok v w:=by
     intro wr;unfold receiverAt;simp only [Sem.run_bind,aQ hd,Result.andThen_ok]
     cases d with
     |pointer e=>exact (hn e rfl).elim
     |_=>rfl
    unfold method;simp [typeInfo,hi,hm,a2,a3,follow,hr]
   ·cases h2
  ·cases h1
 ·cases h1
def uN {P:Program} {name:String} {t f:Nat} (h:xM P name t f=true) (v:Value) (args:Array Value) (w:World):(invoke (.fn (.method name) #[]) (#[.iface t v]++args)).run P w=(callFunc f (#[v]++args)).run P w:=by
 have hm:=fun n=>JL h v n w;have hp:(program).run P w= .ok P w:=rfl;have e1:(#[Value.iface t v]++args)[0]? =some (.iface t v):=by rw [Array.getElem?_append_left (by simp)];rfl
 have e2:(#[Value.iface t v]++args).extract 1 (#[Value.iface t v]++args).size=args:=by apply Aq;simp
 simp only [invoke,e1,e2,callMethod,Sem.run_bind,hp,Result.andThen_ok];rw [show P.types.size+Made.depth=(P.types.size+99)+1 from rfl,hm];rfl
def Ji {l:List (Nat×Nat)} {t f:Nat} (h:l.lookup t=some f):(t,f)∈l:=by
 induction l with
 |nil=>cases h
 |cons p l ih=>
  rw [List.lookup_cons] at h;split at h
  ·rename_i e;obtain ⟨p1,p2⟩:=p;simp only [beq_iff_eq] at e;injection h with h
   subst e h;exact A3
  ·exact Ao _ (ih h)
def zi (P:Program) (r:Operand) (name:String):aj->Bool
 | .vb x rows=>(aj.t x).fits r && rows.all fun p=>xM P name p.1 p.2
 |_=>false
def MX.fits (P:Program):MX->Op->Bool
 | .k m,op=>m.fits P op
 | .call c as,.call cc=>(match cc.callee with
  | .value f=>c.fits f
  | .invoke r name=>zi P r name c
  |_=>false) && iT as cc.args.toList
 | .panic x,.panic y=>x.fits y
 | .it m,op=>m.fits P op
 |_,_=>false
def MX.IQ {P:Program} {x:aj} {op:Op} (h:(MX.panic x).fits P op=true):∃ y,op= .panic y/\x.fits y=true:=by cases op<;>simp_all [MX.fits]
def MX.K8 {P:Program} {c:aj} {as:List aj} {op:Op} (h:(MX.call c as).fits P op=true):∃ args tys,iT as args.toList=true/\((∃ fo,op= .call ⟨.value fo,args,tys⟩/\c.fits fo=true)∨∃ r name,op= .call ⟨.invoke r name,args,tys⟩/\zi P r name c=true):=by
 cases op<;>simp only [MX.fits] at h<;>first
  |(cases h;done)
  |skip
 rename_i cc;obtain ⟨callee,args,tys⟩:=cc;simp only [Aa] at h
 cases callee with
 |value fo=>exact ⟨args,tys,h.2,.inl ⟨fo,rfl,h.1⟩⟩
 |invoke r name=>exact ⟨args,tys,h.2,.inr ⟨r,name,rfl,h.1⟩⟩
 |_=>cases h.1
def sC (ops:Array Oper):Option (Nat×Bool)->Option (Nat×Bool)->Bool
 |none,none=>true
 |some (t,b),some (j,b')=>b==b' && decide ((ops[j]?).bind (·.dst)=some t)
 |_,_=>false
def aV.fits (P:Program) (n:Nat) (ops:Array Oper) (m:aV):Bool:=
 match ops[m.ix]? with
 |some o=>m.op.fits P o.op && decide (o.dst=m.dst) && (m.dst.all fun d=>decide (d<n)) && sC ops m.gd o.guard
 |none=>false
def aS (d:Option Nat) (v:AV) (F:Fr):Fr:=
 match d with
 |some d=>(d,v)::F
 |none=>F
def bj (P:Program) (o:aV) (K:Option AV->Fr->St->Prop) (next:Fr->St->Prop) (F:Fr) (S:St):Prop:=
 match o.op with
 | .k m=>m.ob F S/\(match m.ev F S with
  |some (r,S')=>next (aS o.dst r F) S'
  |none=>False)
 | .panic x=>(match x.ev F with
  | .cI t v=>K (some (.cI t v)) F S
  |_=>False)
 | .it m=>pY m (fun r S'=>next (aS o.dst r F) S') F S
 | .call c as=>(match c.ev F with
  | .fn (.func f) first caps=>ao P f (first++as.map (aj.ev F)++caps) S (fun out S'=>match out with
   | .ok r=>next (aS o.dst r F) S'
   | .eH v=>K (some v) F S')
  | .fn (.yield l) [] []=>lM P l (as.map (aj.ev F)) S (fun out S'=>match out with
   | .ok r=>next (aS o.dst r F) S'
   | .eH v=>K (some v) F S')
  |_=>False)
def bC (o:aV) (stp:Fr->St->Prop) (next:Fr->St->Prop) (F:Fr) (S:St):Prop:=
 match o.gd with
 |none=>stp F S
 |some (t,want)=>match F.get t with
  | .bool b=>(b=want->stp ((t,.bool want)::F) S)/\(b= !want->next (aS o.dst (.aF []) ((t,.bool (!want))::F)) S)
  | .aF []=>next (aS o.dst (.aF []) F) S
  |_=>False
def cD (P:Program):List aV->(Option AV->Fr->St->Prop)->Fr->St->Prop
 |[],K,F,S=>K none F S
 |o::l,K,F,S=>bC o (bj P o K (cD P l K)) (cD P l K) F S
abbrev ep:=List (Fn×List AV×List AV)
def yH (G:Gh):ep->List Deferred->Prop
 |[],[]=>True
 |(f,as,cs)::D,d::ds=>((∃ vs ws:List Value,d={target:= .fn f ws.toArray,args:=vs.toArray}/\da G as vs/\da G cs ws)∨∃ r,f= .yield r/\as=[]/\cs=[.aL r (.deferred none) [] []]/\d={target:= .collected r,args:= #[]})/\yH G D ds
 |_,_=>False
def yH.mono {G G':Gh} (h:G.le G'):∀ {D:ep} {ds:List Deferred},yH G D ds->yH G' D ds
 |[],[],_=>trivial
 |[],_::_,hd=>hd.elim
 |_::_,[],hd=>hd.elim
 |(_,_,_)::_,_::_,hd=>⟨hd.1.imp (fun ⟨vs,ws,h1,h2,h3⟩=>⟨vs,ws,h1,h2.mono h,h3.mono h⟩) id,yH.mono h hd.2⟩
structure Rel (wb:aT) (n:Nat) (G:Gh) (S:St) (F:Fr) (D:ep) (w:World) (a:Act):Prop where
 st:ax wb G S w
 fr:jv G F a
 sz:a.tmps.size=n
 df:yH G D a.defers
def jv.put {G:Gh} {F:Fr} {a:Act} (h:jv G F a) {d:Option Nat} {r:AV} {v:Value} (hd:(d.all fun d=>decide (d<a.tmps.size))=true) (hv:af G r v):jv G (aS d r F) (a.put d v):=by
 cases d with
 |none=>exact h
 |some d=>
  simp at hd;refine ⟨fun t x e=>?_⟩;simp only [aS,List.lookup_cons] at e
  by_cases ht:t=d
  ·subst ht;simp at e;subst e;refine ⟨by simpa [Act.put] using hd,?_⟩;simpa [Act.put,Array.getD,hd] using hv
  ·have hb:(t==d)=false:=by simpa using ht
   rw [hb] at e;obtain ⟨h1,h2⟩:=h.rel t x e;refine ⟨by simpa [Act.put] using h1,?_⟩;have:(a.put (some d) v).tmps.getD t undef=a.tmps.getD t undef:=by simp [Act.put,Array.getD,h1,AT ht]
   rw [this];exact h2
def OZ (a:Act) (d:Option Nat) (v:Value):(a.put d v).tmps.size=a.tmps.size:=by cases d<;>simp [Act.put]
def put_defers (a:Act) (d:Option Nat) (v:Value):(a.put d v).defers=a.defers:=by cases d<;>simp [Act.put]
def Rel.put {wb:aT} {n:Nat} {G:Gh} {S:St} {F:Fr} {D:ep} {w:World} {a:Act} (h:Rel wb n G S F D w a) {d:Option Nat} {r:AV} {v:Value} (hd:(d.all fun d=>decide (d<n))=true) (hv:af G r v):Rel wb n G S (aS d r F) D w (a.put d v):=⟨h.st,h.fr.put (by rw [h.sz];exact hd) hv,by rw [OZ];exact h.sz,by rw [put_defers];exact h.df⟩
def Rel.grow {wb:aT} {n:Nat} {G G':Gh} {S S':St} {F:Fr} {D:ep} {w w':World} {a:Act} (h:Rel wb n G S F D w a) (hle:G.le G') (hS:ax wb G' S' w'):Rel wb n G' S' F D w' a:=⟨hS,h.fr.mono hle,h.sz,h.df.mono hle⟩
def Rel.known {wb:aT} {n:Nat} {G:Gh} {S:St} {F:Fr} {D:ep} {w:World} {a:Act} (h:Rel wb n G S F D w a) {t:Nat} {b b':Bool} (e:F.get t= .bool b) (hb:b=b'):Rel wb n G S ((t,.bool b')::F) D w a:=by
 subst hb;refine ⟨h.st,⟨fun u x e'=>?_⟩,h.sz,h.df⟩;simp only [List.lookup_cons] at e'
 by_cases hu:u=t
 ·subst hu;simp at e';subst e';unfold Fr.get at e
  cases e2:F.lookup u with
  |none=>rw [e2] at e;cases e
  |some y=>
   rw [e2] at e;have:y= .bool b:=e;subst this;exact h.fr.rel u _ e2
 ·have hb:(u==t)=false:=by simpa using hu
  rw [hb] at e';exact h.fr.rel u x e'
def QK (wb:aT) (n:Nat) (G0:Gh) (D:ep) (K:Option AV->Fr->St->Prop):Exit->Act->World->Prop
 | .normal,a,w=>∃ G F S,G0.le G/\Rel wb n G S F D w a/\K none F S
 | .panic ch,a,w=>∃ G F S v av,G0.le G/\Rel wb n G S F D w a/\ch=[{v,recovered:=false}]/\af G av v/\K (some av) F S
 |_,_,_=>False
def MK.vY {P:Program} {m:MK} {op:Op} {F:Fr} {S:St} {x:AV×St} (h:m.fits P op=true) (he:m.ev F S=some x):∀ c,op≠ .defer c:=by
 rintro c rfl;cases m<;>simp [MK.fits] at h
 simp [MK.ev] at he
def pz {ro:Option Nat} {p:Prop} (h:(gC ro).depth.isSome=true):p:=by cases h
def Oj {P:Program} {wb:aT} {G:Gh} {S:St} {F:Fr} {a:Act} {w:World} {m:MT} {o:Oper} {nx:AV->St->Prop} (ho:m.fits P o.op=true) (hS:ax wb G S w) (hF:jv G F a) (h:pY m nx F S):
  ∃ r S',yJ P wb G (execOp a.eval o) w r S'/\nx r S':=by
 unfold pY at h;unfold MT.fits at ho;split at ho
 ·rename_i x t y hop;rw [Aa] at ho;have hx:=aj.rel hF ho.1;simp only [MT.x] at h;generalize x.ev F=xa at h hx
  cases xa<;>first
   |exact h.elim
   |skip
  rename_i k;obtain ⟨bm,es,clock,h1,h2⟩:=h;obtain ⟨g1,g2,_,_⟩:=mW hS h1;generalize hy:a.eval y=yv at hx;cases hx;rename_i r hr;rw [g1] at hr;cases hr
  obtain ⟨kk,ee,hu⟩:∃ kk ee,P.underlying t=some (.map kk ee):=by
   have:=ho.2;unfold Jw at this;split at this
   ·exact ⟨_,_,‹_›⟩
   ·cases this
  obtain ⟨G',q1,q2,q3⟩:=hS.zj (o:= .mapIter (some bm) clock #[] clock) (c0:= .aL w.heap.size (.mapIter (some bm) clock #[] clock) [] []) rfl (by simp) fun G' _=>⟨rfl,World.alloc_heap_new w _,rfl,trivial⟩;refine ⟨_,_,⟨.value _,_,_,G',?_,.inl rfl,q1,q3,.ptr q2⟩,h2 w.heap.size⟩;simp only [execOp,hop,hy,Sem.run_bind,run_range_map w t kk ee bm es clock hu g2,Result.andThen_ok];rfl
 ·rename_i x y b hop;simp only [Aa,A7] at ho;obtain ⟨ho,rfl⟩:=ho;have hx:=aj.rel hF ho;simp only [MT.x] at h;generalize x.ev F=xa at h hx
  cases xa<;>first
   |exact h.elim
   |skip
  rename_i i o'
  cases o' with
  |succ o'=>exact h.elim
  |zero=>
   obtain ⟨ri,bm,since,seen,c0,k,es,clock,h1,h2,h3,h4,h5,h6⟩:=h;obtain ⟨g1,g2,_,_⟩:=mW hS h1;obtain ⟨g3,g4,_,_⟩:=mW hS h2;generalize hy:a.eval y=yv at hx;cases hx;rename_i r hr;rw [g1] at hr;cases hr;rcases run_next_at (P:=P) w o.type ri bm since c0 seen es clock g2 g4 h3 h4 with ⟨e0,e1⟩|⟨e,he,w1,hw,e1⟩
   ·refine ⟨_,_,⟨.value _,_,w,G,?_,.inl rfl,Gh.le_refl G,hS,.aF (vs:=[.bool false]) rfl fun m c v e1 e2=>?_⟩,h5 e0⟩
    ·simp only [execOp,hop,hy,Sem.run_bind,e1,Result.andThen_ok];rfl
    ·cases m with
     |zero=>simp at e1 e2;subst e1 e2;exact .bool _
     |succ m=>simp at e1
   ·have hS1:ax wb G S w1:=by
     rcases hw with rfl|rfl
     ·exact hS
     ·exact hS.drew
    obtain ⟨g5,g6,_,_⟩:=mW hS1 h1;have hS2:=ax.cK h1 (hS1.nc h1 rfl (c':= .aL ri (.mapIter (some bm) since (seen.push e.born) clock) [] []) (o':= .mapIter (some bm) since (seen.push e.born) clock) rfl (by simp) g5 g6 rfl ⟨rfl,World.putObj_heap_same (hS1.bT _ _ g5).2.2,rfl,trivial⟩);refine ⟨_,_,⟨.value _,_,_,G,?_,.inl rfl,Gh.le_refl G,hS2,.aF (vs:=[.bool true,e.key,e.val]) rfl fun m c v e1 e2=>?_⟩,h6 e he⟩
    ·simp only [execOp,hop,hy,Sem.run_bind,e1,Result.andThen_ok];rfl
    ·match m with
     |0=>simp at e1 e2;subst e1 e2;exact .bool _
     |1=>simp at e1 e2;subst e1 e2;exact .de _
     |2=>simp at e1 e2;subst e1 e2;exact .de _
     |m+3=>simp at e1
 ·rename_i x y hop;have hx:=aj.rel hF ho;simp only [MT.x] at h;generalize x.ev F=xa at h hx
  cases xa<;>first
   |exact h.elim
   |skip
  rename_i i o'
  cases o' with
  |succ o'=>exact h.elim
  |zero=>
   obtain ⟨ri,bm,since,seen,c0,k,es,e,kk,vv,h1,h2,h3,h4,h5,h6,h7⟩:=h;obtain ⟨g1,g2,_,_⟩:=mW hS h1;obtain ⟨g3,g4,_,_⟩:=mW hS h2;generalize hy:a.eval y=yv at hx;cases hx;rename_i r hr;rw [g1] at hr;cases hr;refine ⟨_,_,⟨.value _,_,w,G,?_,.inl rfl,Gh.le_refl G,hS,.aF (vs:=[e.key,e.val]) rfl fun m c v e1 e2=>?_⟩,h7⟩
   ·simp only [execOp,hop,hy,Sem.run_bind,run_entry_at (P:=P) w ri bm since seen es c0 e g2 g4 h3 h4,Result.andThen_ok];rfl
   ·match m with
    |0=>simp at e1 e2;subst e1 e2;exact h5 G
    |1=>simp at e1 e2;subst e1 e2;exact h6 G
    |m+2=>simp at e1
 ·rename_i x c hop;rw [Aa] at ho;obtain ⟨f1,f2⟩:=ho;obtain ⟨callee,args,argTypes⟩:=c;simp only at f1 f2;split at f1;rotate_left
  ·cases f1
  split at f2;rotate_left
  ·cases f2
  rename_i y t e1 e2;rw [Aa] at f2;obtain rfl:args= #[y]:=by apply Aq;simpa using e1
  obtain rfl:argTypes= #[t]:=by apply Aq;simpa using e2
  have hx:=aj.rel hF f2.1;simp only [MT.x] at h;generalize x.ev F=xa at h hx
  cases xa<;>first
   |exact h.elim
   |skip
  rename_i k;obtain ⟨ks,vs,h1,h2⟩:=h;generalize hy:a.eval y=yv at hx;cases hx;rename_i r hr;obtain ⟨es,clock,es',c,a1,a2,a3,a4,a5,a6⟩:=qc hS h1 hr
  have hl:es.size=ks.length:=by
   have:∀ {ks vs:List AV} {es:List MapEntry},eP G ks vs es->es.length=ks.length:=fun {ks}=>by
    induction ks with
    |nil=>
     intro vs es h
     cases vs<;>cases es<;>first
      |rfl
      |exact h.elim
    |cons k ks ih=>
     intro vs es h
     cases vs<;>cases es<;>first
      |exact h.elim
      |skip
     rename_i v vs e es;have:=ih h.2;simp only [List.length_cons,this]
   rw [<-this a3,<-a2.length_eq,Array.length_toList]
  obtain ⟨kk,ee,hu⟩:∃ kk ee,P.underlying t=some (.map kk ee):=by
   have:=f2.2;unfold Jw at this;split at this
   ·exact ⟨_,_,‹_›⟩
   ·cases this
  refine ⟨_,_,?_,h2⟩;have hget:(getObj r).run P w= .ok (.map es clock) w:=by simp [getObj,Sem.run,a1]
  have hrun:(Builtin.len_ #[t] o.type #[Value.map (some r)]).run P w= .ok (.int .i64 (ks.length:Nat)) w:=by simp [Builtin.len_,aQ hu,hget,goInt,hl]
  simp only [execOp,hop,resolve,AZ,List.map_cons,Az,hy];exact .dc ⟨_,_,G,hrun,Gh.le_refl G,hS,.int _ _⟩
 ·rename_i bytes z x t l c hop;simp only [Aa] at ho;obtain ⟨f1,f2,hf⟩:=ho;split at f1;rotate_left
  ·cases f1
  rename_i kl;have hx:=aj.rel hF f2;simp only [MT.x] at h;generalize x.ev F=xa at h hx
  cases xa<;>first
   |exact h.elim
   |skip
  rename_i kc n;obtain ⟨h0,hb,h63,hnx⟩:=h;generalize hy:a.eval c=yv at hx;cases hx;unfold j8 at hf;split at hf;rotate_left
  ·cases hf
  rename_i e ht;simp only [Aa] at hf;obtain ⟨hz,hi⟩:=hf;split at hi;rotate_left
  ·cases hi
  rename_i i hi';simp only [Aa,beq_iff_eq] at hi;obtain ⟨h1,h2⟩:=hi;subst h2;unfold fL at hz;rw [hi'] at hz;simp only at hz;split at hz;rotate_left
  ·cases hz
  rename_i v hzv;have hr:∀ G,br G [z] v.cells.toList:=fun G=>gE hz;have hrun:=run_make (P:=P) w t e i v ht hi' hzv kl kc 0 n (Ax _) h0 hb h63
  have hvc:∃ u,v.cells= #[u]:=by
   have hl:=(hr G).len;simp only [List.length_cons,List.length_nil,Array.length_toList] at hl
   match hc:v.cells,hl with
   |⟨[u]⟩,_=>exact ⟨u,rfl⟩
  obtain ⟨u,hu⟩:=hvc;rw [hu,h1,BD,mi] at hrun;have hr1:=hr G;rw [hu] at hr1
  have hcr:br G (List.replicate n.toNat z) (List.replicate n.toNat u):=by
   refine ⟨by simp,fun x hx=>hr1.one x (by rw [(Bb.1 hx).2];simp),fun m a b ha hb=>?_⟩;have e1:=(Bb.1 (Aj ha)).2;have e2:=(Bb.1 (Aj hb)).2;subst e1 e2;exact hr1.rel 0 _ _ rfl rfl
  obtain ⟨G',g1,g2,g3,g4⟩:=hS.j9 (E:=e) (rest:=[]) hcr;rw [AB] at g4;refine ⟨_,_,?_,hnx⟩;simp only [execOp,hop];rw [hy];simp only [Act.eval];exact .dc ⟨_,_,G',hrun,g1,g4,.b9 (G:=G') 1 (n:=0) (o:=0) (c:=n.toNat) g2 (Au _) (by rw [g3];simp)⟩
 ·cases ho
def MT.vY {P:Program} {m:MT} {op:Op} (h:m.fits P op=true):∀ c,op≠ .defer c:=by
 rintro c rfl;cases m<;>simp [MT.fits] at h
def xS {P:Program} {wb:aT} {n:Nat} {ro:Option Nat} {G0 G:Gh} {S:St} {F:Fr} {D:ep} {w:World} {a:Act} {m:aV} {o:Oper} {K:Option AV->Fr->St->Prop} {next:Fr->St->Prop} {nx:Act->World->Prop}
  (ho:m.op.fits P o.op=true) (hd:o.dst=m.dst) (hdn:(m.dst.all fun d=>decide (d<n))=true) (hle:G0.le G) (hR:Rel wb n G S F D w a) (hs:bj P m K next F S)
  (hn:∀ G' S' F' a' w',G0.le G'->Rel wb n G' S' F' D w' a'->next F' S'->nx a' w'):o.wpIn (gC ro) 0 P a w nx (QK wb n G0 D K):=by
 obtain ⟨ix,dst,gd,op⟩:=m;simp only at ho hd hdn;refine ⟨fun _ _=>trivial,?_⟩;subst hd
 cases op with
 |k m=>
  simp only [bj] at hs;obtain ⟨aL,hs⟩:=hs;split at hs
  ·rename_i r S' hev;obtain ⟨nn,v,w',G',h1,h2,h3,h4,h5⟩:=MK.sound ho aL hev hR.st hR.fr;rw [Oper.semAt_eq _ _ _ (MK.vY ho hev),h1];have hR':=(hR.grow h3 h4).put hdn h5;rcases h2 with rfl|⟨rfl,rfl⟩
   ·exact hn G' S' _ _ _ (Gh.le_trans hle h3) hR' hs
   ·exact hn G' S' _ _ _ (Gh.le_trans hle h3) hR' hs
  ·exact hs.elim
 |it m=>
  simp only [bj] at hs;have ho':m.fits P o.op=true:=by cases m<;>exact ho
  obtain ⟨r,S',⟨nn,v,w',G',h1,h2,h3,h4,h5⟩,hs⟩:=Oj ho' hR.st hR.fr hs;rw [Oper.semAt_eq _ _ _ (MT.vY ho'),h1];have hR':=(hR.grow h3 h4).put hdn h5;rcases h2 with rfl|⟨rfl,rfl⟩
  ·exact hn G' S' _ _ _ (Gh.le_trans hle h3) hR' hs
  ·exact hn G' S' _ _ _ (Gh.le_trans hle h3) hR' hs
 |panic x=>
  simp only [bj] at hs;obtain ⟨y,h2,ho⟩:=MX.IQ ho;have hx:=aj.rel hR.fr ho;split at hs
  ·rename_i t v hv;rw [hv] at hx;generalize hy:a.eval y=yv at hx;cases hx;rename_i v' hv'
   have:(execOp a.eval o).run P w= .halt (.panic (.iface t v')) w:=by
    simp only [execOp,h2,hy,Instr.panic];rfl
   rw [Oper.semAt_eq _ _ _ (by rw [h2];intro c e;cases e),this];exact ⟨G,F,S,_,_,hle,hR,rfl,.cI t hv',hs⟩
  ·exact hs.elim
 |call c as=>
  simp only [bj] at hs;obtain ⟨args,tys,ho2,ho1⟩:=MX.K8 ho;have hnd:∀ c,o.op≠ .defer c:=by rcases ho1 with ⟨fo,h2,_⟩|⟨r,name,h2,_⟩<;>(rw [h2];intro c e;cases e)
  obtain ⟨l3,r3⟩:=gK hR.fr ho2
  have fin:∀ (f:FuncId) (as':List AV) (us:List Value),da G as' us->ao P f as' S (fun out S'=>match out with
    | .ok r=>next (aS o.dst r F) S'
    | .eH v=>K (some v) F S')->(execOp a.eval o).run P w=(callFunc f us.toArray).run P w->o.uponIn (gC ro) 0 P a nx (QK wb n G0 D K) ((o.semAt (gC ro).round a.eval).run P w):=by
   intro f as' us hargs hs hrun;have hi:=hs wb G w _ hR.st hargs;rw [Oper.semAt_eq _ _ _ hnd,hrun];unfold km at hi;split at hi
   ·rename_i g as' w' hx;rw [hx];refine ⟨pz,GD (Calls.mono hi fun e w'' ⟨G',S',q1,q2,q3⟩=>?_)⟩
    cases e with
    |returned v=>obtain ⟨r,q4,q5⟩:=q3;exact hn G' S' _ _ _ (Gh.le_trans hle q1) ((hR.grow q1 q2).put hdn q4) q5
    |panicked ch=>obtain ⟨v,av,q4,q5,q6⟩:=q3;exact ⟨G',F,S',v,av,Gh.le_trans hle q1,hR.grow q1 q2,q4,q5,q6⟩
    |outgrown=>exact q3.elim
   ·rename_i v w' hx;rw [hx];obtain ⟨G',S',q1,q2,r,q4,q5⟩:=hi;exact hn G' S' _ _ _ (Gh.le_trans hle q1) ((hR.grow q1 q2).put hdn q4) q5
   ·rename_i row as' w' hx;rw [hx];refine ⟨pz,J7 (Rows.mono hi fun v w'' ⟨G',S',q1,q2,r,q4,q5⟩=>?_)⟩;exact hn G' S' _ _ _ (Gh.le_trans hle q1) ((hR.grow q1 q2).put hdn q4) q5
   ·rename_i v w' hx;rw [hx];obtain ⟨G',S',q1,q2,v',av,q4,q5,q6⟩:=hi;exact ⟨G',F,S',v',av,Gh.le_trans hle q1,hR.grow q1 q2,q4,q5,q6⟩
   ·exact hi.elim
  rcases ho1 with ⟨fo,h2,ho1⟩|⟨r,name,h2,ho1⟩
  ·have hc:=aj.rel hR.fr ho1;split at hs
   ·rename_i f first caps hf;rw [hf] at hc;generalize hfo:a.eval fo=fv at hc;cases hc;rename_i vs ws l1 r1 l2 r2;refine fin f _ (vs++args.toList.map a.eval++ws) (.append (.append ⟨l1,r1⟩ ⟨l3,r3⟩) ⟨l2,r2⟩) hs ?_;have e1:(vs.toArray++Array.map a.eval args)++ws.toArray=(vs++args.toList.map a.eval++ws).toArray:=by apply Aq;simp
    rw [<-e1];simp only [execOp,h2,resolve,hfo,Deferred.ofValue];rfl
   ·rename_i l hf;rw [hf] at hc;generalize hfo:a.eval fo=fv at hc;cases hc;rename_i vs ws l1 r1 l2 r2;obtain rfl:=A2 l1.symm;obtain rfl:=A2 l2.symm;obtain ⟨fn,tmps,assign,body,hy,hrd⟩:=hs wb G w _ hR.st ⟨l3,r3⟩
    have hrun:(execOp a.eval o).run P w=(Instr.yield l (args.toList.map a.eval).toArray).run P w:=by
     have e1:Array.map a.eval args=(args.toList.map a.eval).toArray:=by apply Aq;simp
     rw [<-e1];simp only [execOp,h2,resolve,hfo,Deferred.ofValue];simp [invoke]
    rw [Oper.semAt_eq _ _ _ hnd,hrun,hy];refine ⟨pz,RoundIn.mono (F:=gC ro) hrd fun e w'' ⟨G',S',q1,q2,q3⟩=>?_⟩
    cases e with
    |returned v=>obtain ⟨r,q4,q5⟩:=q3;exact hn G' S' _ _ _ (Gh.le_trans hle q1) ((hR.grow q1 q2).put hdn q4) q5
    |panicked ch=>obtain ⟨v,av,q4,q5,q6⟩:=q3;exact ⟨G',F,S',v,av,Gh.le_trans hle q1,hR.grow q1 q2,q4,q5,q6⟩
    |outgrown=>exact q3.elim
   ·exact hs.elim
  ·cases c with
   |vb x rows=>
    simp only [zi,Aa] at ho1;have hx:=aj.rel hR.fr ho1.1;simp only [aj.ev] at hs hx;generalize F.get x=xa at hs hx
    cases xa with
    |cI t v=>
     simp only [Dr] at hs
     cases hl:rows.lookup t with
     |none=>rw [hl] at hs;exact hs.elim
     |some f=>
      rw [hl] at hs;simp only [JA] at hs;generalize hrv:a.eval r=rv at hx;cases hx;rename_i v' hv'
      refine fin f _ ([v']++args.toList.map a.eval++[]) (.append (.append ⟨rfl,fun m c x e1 e2=>by
       cases m with
       |zero=>simp at e1 e2;subst e1 e2;exact hv'
       |succ m=>simp at e1⟩ ⟨l3,r3⟩) ⟨rfl,by simp⟩) hs ?_
      have:=uN (AN.1 ho1.2 (t,f) (Ji hl)) v' (args.map a.eval) w;have e1:([v']++args.toList.map a.eval++[]).toArray= #[v']++args.map a.eval:=by apply Aq;simp
      rw [e1,<-this];simp only [execOp,h2,resolve,hrv];rfl
    |_=>exact hs.elim
   |_=>cases ho1
def yB {ops:Array Oper} {tmps:Array Value} {j t:Nat} (hj:(ops[j]?).bind (·.dst)=some t):yielded ops tmps j=match tmps[t]? with|some (.bool b)=>some b|_=>none:=by
 unfold yielded;rw [hj];rfl
def uZ {wb:aT} {n:Nat} {G:Gh} {S:St} {F:Fr} {D:ep} {w:World} {a:Act} {ops:Array Oper} {m:aV} {o:Oper} {stp next:Fr->St->Prop} (hg:sC ops m.gd o.guard=true) (hR:Rel wb n G S F D w a)
  (h:bC m stp next F S):(Region.wanted o (yielded ops a.tmps)=true/\∃ F',Rel wb n G S F' D w a/\stp F' S)∨(Region.wanted o (yielded ops a.tmps)=false/\∃ F',Rel wb n G S F' D w a/\next (aS m.dst (.aF []) F') S):=by
 unfold bC at h
 cases e1:m.gd with
 |none=>
  rw [e1] at h hg
  cases e2:o.guard with
  |none=>exact .inl ⟨by simp [Region.wanted,e2],F,hR,h⟩
  |some p=>rw [e2] at hg;cases hg
 |some p=>
  obtain ⟨t,want⟩:=p;rw [e1] at h hg
  cases e2:o.guard with
  |none=>rw [e2] at hg;cases hg
  |some q=>
   obtain ⟨j,want'⟩:=q;rw [e2] at hg;simp only [sC,Aa,beq_iff_eq,decide_eq_true_eq] at hg;obtain ⟨rfl,hj⟩:=hg;simp only at h;split at h
   ·rename_i b hb
    have hlk:F.lookup t=some (.bool b):=by
     unfold Fr.get at hb
     cases e3:F.lookup t with
     |none=>rw [e3] at hb;cases hb
     |some y=>rw [e3] at hb;exact congrArg some hb
    obtain ⟨h1,h2⟩:=hR.fr.rel t _ hlk
    have h3:a.tmps[t]? =some (.bool b):=by
     simp only [Array.getD,h1,dif_pos] at h2
     cases hv:a.tmps[t] with
     |bool b'=>simp only [Cr,hv] at h2;cases h2;simp [h1,hv]
     |_=>simp only [Cr,hv] at h2;cases h2
    have hw:Region.wanted o (yielded ops a.tmps)=decide (b=want):=by
     simp only [Region.wanted,e2,yB hj,h3];cases b<;>cases want<;>rfl
    by_cases hbw:b=want
    ·exact .inl ⟨by rw [hw];simpa using hbw,_,hR.known hb hbw,h.1 hbw⟩
    ·have hbn:b= !want:=by cases b<;>cases want<;>simp_all
     exact .inr ⟨by rw [hw];simpa using hbw,_,hR.known hb hbn,h.2 hbn⟩
   ·rename_i hb
    have hlk:F.lookup t=some (.aF []):=by
     unfold Fr.get at hb
     cases e3:F.lookup t with
     |none=>rw [e3] at hb;cases hb
     |some y=>rw [e3] at hb;exact congrArg some hb
    obtain ⟨h1,h2⟩:=hR.fr.rel t _ hlk
    have h3:∃ vs,a.tmps[t]? =some (.tuple vs):=by
     simp only [Array.getD,h1,dif_pos] at h2
     cases hv:a.tmps[t] with
     |tuple vs=>exact ⟨vs,by simp [h1,hv]⟩
     |_=>simp only [Cr,hv] at h2;cases h2
    obtain ⟨vs,h3⟩:=h3
    have hw:Region.wanted o (yielded ops a.tmps)=false:=by
     simp only [Region.wanted,e2,yB hj,h3];cases want<;>rfl
    exact .inr ⟨hw,F,hR,h⟩
   ·exact h.elim
def Hz {P:Program} {wb:aT} {n:Nat} {ro:Option Nat} {G0:Gh} {D:ep} {ops:Array Oper} {K:Option AV->Fr->St->Prop}:∀ (l:List aV) {G:Gh} {S:St} {F:Fr} {w:World} {a:Act},(∀ m∈l,m.fits P n ops=true)->G0.le G->Rel wb n G S F D w a->
  cD P l K F S->wpOpsIn (gC ro) 0 P ops (QK wb n G0 D K) (l.map (·.ix)) a w
 |[],G,S,F,w,a,_,hle,hR,h=>⟨G,F,S,hle,hR,h⟩
 |m::l,G,S,F,w,a,hf,hle,hR,h=>by
  have hm:=hf m (by simp);unfold aV.fits at hm;simp only [List.map_cons,wpOpsIn]
  cases ho:ops[m.ix]? with
  |none=>rw [ho] at hm;cases hm
  |some o=>
   rw [ho] at hm;simp only [Aa,decide_eq_true_eq] at hm;obtain ⟨⟨⟨h1,h2⟩,h3⟩,h4⟩:=hm;have ih:=fun (G':Gh) (S':St) (F':Fr) (a':Act) (w':World) (hle':G0.le G') (hR':Rel wb n G' S' F' D w' a') (h':cD P l K F' S')=>Hz (ro:=ro) l (fun x hx=>hf x (by simp [hx])) hle' hR' h';simp only [cD] at h;rcases uZ h4 hR h with ⟨hw,F',hR',hs⟩|⟨hw,F',hR',hs⟩
   ·simp only [hw,if_true];exact xS h1 h2 h3 hle hR' hs ih
   ·simp only [hw,Ah,if_false];refine ⟨fun _ _=>trivial,ih G S _ _ w hle ?_ hs⟩;rw [h2];exact hR'.put h3 (.aF (vs:=[]) rfl (by simp))
end Go.V
