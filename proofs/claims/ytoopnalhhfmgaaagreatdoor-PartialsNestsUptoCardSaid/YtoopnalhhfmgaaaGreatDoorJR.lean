/- What a row of this seat reads is what the by-value layer speaks of, by its types. -/
import Derived.Test.YtoopnalhhfmgaaaGreatDoorVC
import Derived.Test.YtoopnalhhfmgaaaGreatDoorEC
import Derived.Test.YtoopnalhhfmgaaaGreatDoorRows
import Derived.WalkKit
import Derived.ProofKit
import Derived.OpenShut
import Derived.Deep.DeepHandedRow
import Derived.Lib.LaidTab
set_option linter.defProp false
set_option linter.unusedSimpArgs false
set_option linter.unusedVariables false
namespace Go.Proofs.YtoopnalhhfmgaaaGreatDoor
open Go Go.V
set_option maxRecDepth 100000
variable {gl:List (Nat×List AV)}
section
open Go.ChangeShapes Go.WideShapes Go.RowKit
def kN (W:World):Gh:=⟨fun r o=>W.cell? ⟨r,o,none⟩,fun _=>none,fun _=>none,W.heap.size,fun _=>0⟩
section read
variable {H:Type} {enc:TypeId×Value->H} {W:World}
def fC (s:ByteArray):(Value.string s)= .string ⟨s.data.toList.toArray⟩:=by simp
def Ed {a:Addr} {n:Nat} {cs:List Value} (h:W.cells? 0 a n=some cs):cs.length=n/\∀ i,i<n->W.cell? (a.add i)=cs[i]? :=(World.cells?_some h).2
def br.one {G:Gh} {c:AV} {u:Value} (h:af G c u) (ho:u.oneCell'=true):br G [c] [u]:= .cons h ho (.nil G)
def CQ {held:Bool} {α:Type} {en:α->AV} {D:α->DataW H->Prop} {e t:TypeId} {k:Nat} (hk:0<k) (hen:∀ z,(en z).cells.length=k) (ht:Tryz.prog.underlying t=some (.slice e)) (hc:Tryz.prog.cellsOf e=k)
  {n:Nat} (hel:∀ m cs x,m<n->DataW.trod enc Tryz.prog W 0 (fun _=>true) held m e cs=some x->∃ z,br (kN W) (en z).cells cs/\D z x.1) {cs:List Value} {x:DataW H×List MemPlace} (h:DataW.trod enc Tryz.prog W 0 (fun _=>true) held n t cs=some x):
  ∃ zs:List α,∃ u,cs=[u]/\af (kN W) (.sl k (zs.map en) .ai) u/\u.oneCell'=true/\((x.1= .nil/\zs=[])∨∃ el rest,x.1= .slice el rest/\zs.length=el.length/\∀ (i:Nat) z d,zs[i]? =some z->el[i]? =some d->D z d):=by
 rcases DataW.trod_slice ht h with ⟨rfl,rfl⟩|⟨a,len,cap,elems,rest,m,rfl,rfl,rfl,_,hl,_,hlen,hel1,hsp,_⟩
 ·exact ⟨[],_,rfl,.slnil _ _ _,rfl,.inl ⟨rfl,rfl⟩⟩
 refine (?_:∃ zs:List α,af (kN W) (.sl k (zs.map en) .ai) (.slice (some a) len cap)/\zs.length=elems.length/\∀ (i:Nat) z y,zs[i]? =some z->elems[i]? =some y->D z y.1).elim fun zs hz=>⟨zs,_,rfl,hz.1,rfl,.inr ⟨_,_,rfl,by simpa using hz.2.1,fun i z d h1 h2=>by
  rw [Ap,Ag] at h2;obtain ⟨y,h3,rfl⟩:=h2
  exact hz.2.2 i z y h1 h3⟩⟩
 rw [hc] at hel1 hsp
 have each:∀ i,i<len->∃ z,∃ ci:List Value,W.cells? 0 (a.add (i*k)) k=some ci/\br (kN W) (en z).cells ci/\∀ y,elems[i]? =some y->D z y.1:=fun i hi=>by
  have h1:=hel1 i hi;obtain ⟨y,hy⟩:∃ y,elems[i]? =some y:=⟨elems[i],by simp [hlen,hi]⟩;rw [hy,Ar] at h1;obtain ⟨ci,h2,h3⟩:=h1;obtain ⟨z,hz,hz2⟩:=hel m ci y (Br m) h3;exact ⟨z,ci,h2,hz,fun y' hy'=>by rw [hy] at hy';injection hy' with hy';subst hy';exact hz2⟩
 rcases Bq cap with h0|h0
 ·obtain rfl:len=0:=by omega
  subst h0;exact ⟨[],.slnil _ _ _,by simpa using hlen.symm,by simp⟩
 have hspot:a.spot=none:=by
  have key:∀ ci,W.cells? 0 (a.add (0*k)) k=some ci->a.spot=none:=fun ci hci=>by
   obtain ⟨h1,h2⟩:=Ed hci;have h3:=h2 0 hk;have h4:(a.add (0*k)).add 0=a:=by simp [Addr.add]
   rw [h4] at h3;obtain ⟨v,hv⟩:∃ v,ci[0]? =some v:=⟨ci[0],by simp [h1,hk]⟩;rw [hv] at h3;unfold World.cell? at h3;split at h3
   ·split at h3
    ·cases h3
    ·rename_i h5
     cases hs:a.spot with
     |none=>rfl
     |some x=>rw [hs] at h5;simp at h5
   ·cases h3
  rcases Bq len with hl0|hl0
  ·subst hl0;obtain ⟨h1,h2⟩:=hsp rfl;have h3:=h2 0 (by omega);obtain ⟨y,hy⟩:∃ y,rest[0]? =some y:=⟨rest[0],by simp [h1,h0]⟩;rw [hy,Ar] at h3;obtain ⟨ci,h4,_⟩:=h3;exact key ci (by simpa using h4)
  ·obtain ⟨z,ci,h2,_,_⟩:=each 0 hl0;exact key ci h2
 obtain ⟨r,b,sp⟩:=a;obtain rfl:sp=none:=hspot;have hadd:∀ i,(⟨r,b,none⟩:Addr).add i=⟨r,b+i,none⟩:=fun i=>by rw [cE]
 have hlist:∀ L,L<=len->∃ zs:List α,zs.length=L/\∀ i z,zs[i]? =some z->∃ ci:List Value,W.cells? 0 ⟨r,b+i*k,none⟩ k=some ci/\br (kN W) (en z).cells ci/\∀ y,elems[i]? =some y->D z y.1:=fun L=>by
  induction L with
  |zero=>exact fun _=>⟨[],rfl,by simp⟩
  |succ L ih=>
   intro hL;obtain ⟨zs,h1,h2⟩:=ih (by omega);obtain ⟨z,ci,h3,h4⟩:=each L (by omega);rw [hadd] at h3;refine ⟨zs++[z],by simp [h1],fun i y hy=>?_⟩;rcases Al i zs.length with h5|h5
   ·rw [AF h5] at hy;exact h2 i y hy
   ·rw [AG h5] at hy
    have h6:i-zs.length=0:=by
     rcases Bq (i-zs.length) with h|h
     ·exact h
     ·rw [As (by simp;omega)] at hy;cases hy
    rw [h6] at hy;simp at hy;subst hy;obtain rfl:i=L:=by omega
    exact ⟨ci,h3,h4⟩
 obtain ⟨zs,hzl,hz⟩:=hlist len (Af _)
 have hcl:∀ y∈zs.map en,y.cells.length=k:=by
  intro y hy;obtain ⟨z,_,rfl⟩:=Ai.1 hy;exact hen z
 have key:∀ (m:Nat) (c:AV),(flat (zs.map en))[m]? =some c->∃ u,W.cell? ⟨r,b+m,none⟩=some u/\u.oneCell'=true/\af (kN W) c u:=by
  intro m c hm;have hmk:m=m/k*k+m%k:=by rw [Nat.mul_comm];exact (Nat.div_add_mod m k).symm
  have hr:m%k<k:=B0 _ hk;have hm2:=flat_get (xs:=zs.map en) (i:=m/k) (j:=m%k) hcl hr;rw [<-hmk,hm] at hm2;obtain ⟨y,hy,hyc⟩:=Ar.1 hm2.symm;rw [Ap,Ag] at hy;obtain ⟨z,hz1,rfl⟩:=hy;obtain ⟨ci,h1,h2,_⟩:=hz _ _ hz1;obtain ⟨h3,h4⟩:=Ed h1;obtain ⟨u,h5,h6,h7⟩:=h2.get hyc;have h8:=h4 (m%k) hr;rw [cE,h5,A4,<-hmk] at h8;exact ⟨u,h8,h7,h6⟩
 refine ⟨zs,?_⟩
 have:=af.sl (G:=kN W) (k:=k) (xs:=zs.map en) (t:= .ai) (r:=r) (b:=b) (cap:=cap) (fun m=>(W.cell? ⟨r,b+m,none⟩).getD .nilIface) hcl
  (fun m c hm=>by obtain ⟨u,h1,h2,h3⟩:=key m c hm;show W.cell? ⟨r,b+m,none⟩=_;rw [h1];rfl)
  (fun m c hm=>by obtain ⟨u,h1,h2,h3⟩:=key m c hm;simp only [h1,Option.getD_some];exact h2)
  (fun m c hm=>by obtain ⟨u,h1,h2,h3⟩:=key m c hm;simp only [h1,Option.getD_some];exact h3) (by rw [Ad,hzl];exact hl) trivial
 rw [Ad,hzl] at this;exact ⟨this,by rw [hzl,hlen],fun i z y h1 h2=>by obtain ⟨_,_,_,h3⟩:=hz i z h1;exact h3 y h2⟩
end read
def wN:List Bytes:=[[99,111,117,110,116],[115,117,109],[109,101,97,110],[109,105,110],[109,97,120],[102,105,114,115,116],[108,97,115,116],[100,105,115,116,105,110,99,116],[113,117,97,110,116,105,108,101],[100,101,99,97,121]]
def oE (m0:Int):List (Nat×List AV):=[(0,[.sl 1 (wN.map AV.str) .ai]),(3,[.int .i64 m0])]
def qJ (g:TypeId->Option (List CT)) (P:Program):Nat->List Field->Option (List CT)
 |_,[]=>some []
 |o,f::fs=>match g f.type,qJ g P (o+P.cellsOf f.type) fs with
  |some a,some b=>if f.offset=o/\a.length=P.cellsOf f.type then some (a++b) else none
  |_,_=>none
def vC (P:Program):Nat->TypeId->Option (List CT)
 |0,_=>none
 |n+1,t=>match P.underlying t with
  |some (.int k)=>some [.i k]
  |some .bool=>some [.b]
  |some .string=>some [.s]
  |some (.slice e)=>some [.l (P.cellsOf e) e]
  |some (.struct fs)=>qJ (vC P n) P 0 fs.toList
  |_=>none
def PM:CT->CT->Bool
 | .i k,.i k'=>decide (k=k')
 | .b,.b=>true
 | .s,.s=>true
 | .l k e,.l k' e'=>Nat.beq k k' && Nat.beq e e'
 |_,_=>false
def IJ:List CT->List CT->Bool
 |[],[]=>true
 |x::r,y::q=>PM x y && IJ r q
 |_,_=>false
def KM:∀ {x y:CT},PM x y=true->x=y
 | .i _,.i _,h=>by rw [of_decide_eq_true h]
 | .b,.b,_=>rfl
 | .s,.s,_=>rfl
 | .l _ _,.l _ _,h=>by
  simp only [PM,Aa] at h;rw [Bc h.1,Bc h.2]
def yW:∀ {x y:List CT},IJ x y=true->x=y
 |[],[],_=>rfl
 |_::_,_::_,h=>by
  simp only [IJ,Aa] at h;rw [KM h.1,yW h.2]
def HQ (P:Program) (t:TypeId):Bool:=match P.underlying t with
 |some (.struct _)=>true
 |_=>false
def ou (es:List TypeId) (cs:List CT):Bool:=cs.all fun c=>match c with
 | .l _ e=>es.contains e
 |_=>true
def NP (P:Program) (es:List TypeId) (e:TypeId):Bool:=Nat.blt 0 (P.cellsOf e) && (match vC P 9 e,Γ e with
 |some cs,.st cs'=>HQ P e && (IJ cs cs' && (ou es cs && Nat.beq cs.length (P.cellsOf e)))
 |some [c],.sc c'=> !HQ P e && (PM c c' && (ou es [c] && Nat.beq 1 (P.cellsOf e)))
 |_,_=>false)
section
variable {H:Type} {enc:TypeId×Value->H} {W:World} {held:Bool}
noncomputable abbrev QQ (enc:TypeId×Value->H) (W:World) (held:Bool):=DataW.trod enc Tryz.prog W 0 (fun _=>true) held
noncomputable def z8 (t:TypeId):Nat:=if HQ Tryz.prog t then 1 else 0
structure wD (W:World) (cts:List CT) (cs:List Value) (vs:List AV) (b:Nat):Prop where
 len:vs.length=cts.length
 rel:br (kN W) vs cs
 fg:∀ v∈vs,v.fg=v
 cell:∀ v∈vs,v.cells=[v]
 tp:b<=1048576->∀ (m:Nat) c v,cts[m]? =some c->vs[m]? =some v->Tp (.c c) v
 sz:bg vs<=b
def wD.one {c:CT} {u:Value} {v:AV} {b:Nat} (h:af (kN W) v u) (ho:u.oneCell'=true) (hf:v.fg=v) (hc:v.cells=[v]) (ht:b<=1048576->Tp (.c c) v) (hz:cL v<=b):wD W [c] [u] [v] b:=
 ⟨rfl,br.one h ho,fun x hx=>by rw [Ay.1 hx];exact hf,fun x hx=>by rw [Ay.1 hx];exact hc,fun hb m c' v' e1 e2=>by
  match m with
  |0=>simp at e1 e2;subst e1 e2;exact ht hb
  |m+1=>simp at e1,by simpa [bg] using hz⟩
def wD.app {c1 c2:List CT} {s1 s2:List Value} {v1 v2:List AV} {b1 b2:Nat} (h1:wD W c1 s1 v1 b1) (h2:wD W c2 s2 v2 b2):wD W (c1++c2) (s1++s2) (v1++v2) (b1+b2):=
 ⟨by simp [h1.len,h2.len],.append h1.rel h2.rel,fun v hv=>(AA.1 hv).elim (h1.fg v) (h2.fg v),fun v hv=>(AA.1 hv).elim (h1.cell v) (h2.cell v),fun hb m c v e1 e2=>by
  rcases Al m c1.length with hm|hm
  ·rw [AF hm] at e1;rw [AF (by rw [h1.len];exact hm)] at e2;exact h1.tp (by omega) m c v e1 e2
  ·rw [AG hm] at e1;rw [AG (by rw [h1.len];exact hm),h1.len] at e2
   exact h2.tp (by omega) _ c v e1 e2,by rw [rI];have:=h1.sz;have:=h2.sz;omega⟩
def ND:∀ d:DataW H,1<=Rows.uptoBulk d
 | .lit l=>by cases l<;>simp [Rows.uptoBulk]
 | .nil=>by simp [Rows.uptoBulk]
 | .ptr d=>by simp [Rows.uptoBulk]
 | .slice a b=>by simp [Rows.uptoBulk]
 | .agg a=>by simp [Rows.uptoBulk]
 | .iface _ d=>by simp [Rows.uptoBulk]
 | .map es=>by simp [Rows.uptoBulk]
 | .held _=>by simp [Rows.uptoBulk]
def D4:∀ ds:List (DataW H),ds.length<=Rows.uptoBulkAll ds
 |[]=>Au _
 |d::ds=>by
  have:=ND d;have:=D4 ds;simp only [Rows.uptoBulkAll,List.length_cons];omega
def D5:∀ {ds:List (DataW H)} {i:Nat} {d:DataW H},ds[i]? =some d->Rows.uptoBulk d<=Rows.uptoBulkAll ds
 |[],_,_,h=>by simp at h
 |d::ds,0,_,h=>by
  simp at h;subst h;simp only [Rows.uptoBulkAll];omega
 |d::ds,i+1,_,h=>by
  have:=D5 (ds:=ds) (i:=i) (by simpa using h);simp only [Rows.uptoBulkAll];omega
def C2:∀ {zs:List AV} {ds:List (DataW H)},zs.length=ds.length->(∀ (i:Nat) z d,zs[i]? =some z->ds[i]? =some d->cL z<=Rows.uptoBulk d)->bg zs<=Rows.uptoBulkAll ds
 |[],_,_,_=>Au _
 |z::zs,[],h,_=>by simp at h
 |z::zs,d::ds,h,hz=>by
  have h1:=hz 0 z d rfl rfl;have h2:=C2 (zs:=zs) (ds:=ds) (by simpa using h) fun i z d e1 e2=>hz (i+1) z d (by simpa using e1) (by simpa using e2);simp only [bg,Rows.uptoBulkAll];omega
def PB {k:IntKind} {n:Int} (h:(Lit.int k n).wf=true):U8 k n:=by
 simp only [Lit.wf,Aa,decide_eq_true_eq] at h;intro hk;have h1:(0:Int)=k.min/\uM k=k.max+1:=by cases k<;>first|exact ⟨by decide,by decide⟩|exact absurd rfl hk
 omega
def uO (e:TypeId):Type:={v:AV//v.cells.length=Tryz.prog.cellsOf e/\v.fg=v}
def Vv (e:TypeId) (z:uO e) (d:DataW H):Prop:=cL z.1<=Rows.uptoBulk d/\(Rows.uptoBulk d<=1048576->Tp (.e e) z.1)
def CP {n:Nat} {g:TypeId->Option (List CT)} {cs:List Value} (hg:∀ t cts ci y,g t=some cts->cts.length=Tryz.prog.cellsOf t->QQ enc W held n t ci=some y->∃ vs,wD W cts ci vs (Rows.uptoBulk y.1)):
  ∀ (fs:List Field) (o:Nat) (xs:List (DataW H×List MemPlace)) (cts:List CT),qJ g Tryz.prog o fs=some cts->xs.length=fs.length->(∀ (i:Nat) (f:Field),fs[i]? =some f->QQ enc W held n f.type ((cs.drop f.offset).take (Tryz.prog.cellsOf f.type))=xs[i]?)->
   ∃ vs,wD W cts ((cs.drop o).take cts.length) vs (Rows.uptoBulkAll (xs.map (·.1)))
 |[],o,xs,cts,hc,hl,_=>by
  obtain rfl:[]=cts:=AX hc;obtain rfl:xs=[]:=List.length_eq_zero_iff.1 hl;exact ⟨[],⟨rfl,br.nil (kN W),(fun _ h=>(by cases h)),(fun _ h=>(by cases h)),(fun _ m c v e=>by simp at e),Au _⟩⟩
 |f::fs,o,[],_,_,hl,_=>by simp at hl
 |f::fs,o,x::xs,cts,hc,hl,hf=>by
  unfold qJ at hc;split at hc
  ·rename_i a b ha hb;split at hc
   ·rename_i hof;injection hc with hc
    subst hc;have h0:=hf 0 f rfl;obtain ⟨v1,h1⟩:=hg f.type a _ x ha hof.2 h0;obtain ⟨v2,h2⟩:=CP hg fs _ xs b hb (by simpa using hl) fun i f' e=>hf (i+1) f' (by simpa using e);refine ⟨v1++v2,?_⟩;rw [hof.1,<-hof.2] at h1;rw [<-hof.2] at h2;have e:(cs.drop o).take (a++b).length=(cs.drop o).take a.length++(cs.drop (o+a.length)).take b.length:=by rw [Ak,List.take_add,Bg]
    rw [e];exact h1.app h2
   ·cases hc
  ·cases hc
variable {es:List TypeId}
def abJ {cs:List CT} (h:ou es cs=true) {m k e:Nat} (hm:cs[m]? =some (.l k e)):e∈es:=by
 have:=AN.1 h _ (Aj hm);simpa using this
def GU {es:List TypeId} {g:TypeId->Option (List CT)}:∀ {fs:List Field} {o:Nat} {cts:List CT},qJ g Tryz.prog o fs=some cts->ou es cts=true->∀ t a,g t=some a->(∃ f∈fs,f.type=t)->ou es a=true
 |[],_,_,_,_,_,_,_,⟨_,h,_⟩=>(by cases h)
 |f::fs,o,cts,hc,he,t,a,ha,⟨f',hf,ht⟩=>by
  unfold qJ at hc;split at hc
  ·rename_i a' b h1 h2;split at hc
   ·injection hc with hc
    subst hc;unfold ou at he;rw [List.all_append,Aa] at he;rcases Ab.1 hf with rfl|hf
    ·rw [ht,ha] at h1;injection h1 with h1
     subst h1;exact he.1
    ·exact GU h2 he.2 t a ha ⟨f',hf,ht⟩
   ·cases hc
  ·cases hc
def wT {g g':TypeId->Option (List CT)}:∀ {fs:List Field} {o:Nat} {cts:List CT},(∀ f∈fs,∀ a,g f.type=some a->g' f.type=some a)->qJ g Tryz.prog o fs=some cts->qJ g' Tryz.prog o fs=some cts
 |[],_,_,_,h=>h
 |f::fs,o,cts,hg,h=>by
  unfold qJ at h ⊢;split at h
  ·rename_i a b h1 h2;rw [hg f (by simp) a h1,wT (fun f' hf=>hg f' (Ao _ hf)) h2];exact h
  ·cases h
def aaK (hes:es.all (NP Tryz.prog es)=true):∀ (n m:Nat) (t:TypeId) (cts:List CT) (cs:List Value) (x:DataW H×List MemPlace),vC Tryz.prog m t=some cts->ou es cts=true->cts.length=Tryz.prog.cellsOf t->QQ enc W held n t cs=some x->
  ∃ vs b,wD W cts cs vs b/\b+z8 t<=Rows.uptoBulk x.1:=by
 intro n
 induction n using Nat.strongRecOn with
 |_ n ih=>
  intro m t cts cs x hc he hlen h
  match m,hc with
  |m+1,hc=>
   unfold vC at hc
   have hk:∀ {u},Tryz.prog.underlying t=some u->(∀ fs,u≠ .struct fs)->z8 t=0:=fun {u} hu hn=>by
    unfold z8
    rw [show HQ Tryz.prog t=false from by
     unfold HQ;rw [hu]
     cases u with
     |struct fs=>exact absurd rfl (hn fs)
     |_=>rfl]
    rfl
   split at hc
   ·rename_i k hu;injection hc with hc
    subst hc;obtain ⟨a,rfl,rfl,hw⟩:=DataW.trod_int hu h;refine ⟨[.int k a],1,.one (.int _ _) rfl rfl rfl (fun _=> .int k a ?_) (by simp [cL]),by rw [hk hu (fun _ e=>by cases e)];simp [Rows.uptoBulk]⟩;exact PB hw
   ·rename_i hu;injection hc with hc
    subst hc;obtain ⟨a,rfl,rfl⟩:=DataW.trod_bool hu h;exact ⟨[.bool a],1,.one (.bool _) rfl rfl rfl (fun _=> .bool a) (by simp [cL]),by rw [hk hu (fun _ e=>by cases e)];simp [Rows.uptoBulk]⟩
   ·rename_i hu;injection hc with hc
    subst hc;obtain ⟨a,rfl,rfl,_⟩:=DataW.trod_string hu h;refine ⟨[.str a.data.toList],a.data.toList.length+1,.one (by rw [fC];exact .str _) rfl rfl rfl (fun hb=> .str (by omega)) (by simp [cL]),by rw [hk hu (fun _ e=>by cases e)];simp [Rows.uptoBulk]⟩
   ·rename_i e hu;injection hc with hc
    subst hc;have hee:e∈es:=abJ he (m:=0) rfl;have hok:=AN.1 hes e hee;unfold NP at hok;rw [Aa] at hok;have hpos:0<Tryz.prog.cellsOf e:=by simpa using hok.1
    have hel:∀ m cs x,m<n->QQ enc W held m e cs=some x->∃ z:uO e,br (kN W) z.1.cells cs/\Vv e z x.1:=fun m ci y hm hy=>by
     have hok:=hok.2;split at hok
     ·rename_i cs0 cs' h1 h2;simp only [Aa] at hok;obtain ⟨h3,h4,h5,h6⟩:=hok;obtain ⟨vs,b,hr,hb⟩:=ih m hm 9 e cs0 ci y h1 h5 (Bc h6) hy;have hks:z8 e=1:=by unfold z8;rw [if_pos h3]
      refine ⟨⟨.agg vs,by show vs.length=_;rw [hr.len,Bc h6],?_⟩,hr.rel,?_,fun hb1=> .st h2 (by rw [hr.len,yW h4]) (by rw [<-yW h4];exact hr.tp (by omega))⟩
      ·rw [db,show vs.map AV.fg=vs from Bi hr.fg|>.trans (BM _)]
      ·have:=hr.sz;simp only [cL];omega
     ·rename_i c c' h1 h2;simp only [Aa] at hok;obtain ⟨h3,h4,h5,h6⟩:=hok;obtain ⟨vs,b,hr,hb⟩:=ih m hm 9 e [c] ci y h1 h5 (Bc h6) hy;have hl:=hr.len
      match vs,hl with
      |[v],_=>
       have hcv:=hr.cell v (by simp);refine ⟨⟨v,by rw [hcv,<-Bc h6];rfl,hr.fg v (by simp)⟩,by rw [hcv];exact hr.rel,?_,fun hb1=> .sc h2 (by rw [<-KM h4];exact hr.tp (by omega) 0 c v rfl rfl)⟩;have:=hr.sz;simp only [bg] at this;show cL v<=_;omega
     ·cases hok
    obtain ⟨zs,u,rfl,hu2,ho,hz⟩:=CQ (k:=Tryz.prog.cellsOf e) (en:=fun z:uO e=>z.1) (D:=Vv e) hpos (fun z=>z.2.1) hu rfl (n:=n) hel h
    have hfg:∀ v∈zs.map (fun z:uO e=>z.1),v.fg=v:=fun v hv=>by
     obtain ⟨z,_,rfl⟩:=Ai.1 hv;exact z.2.2
    have hcl:∀ v∈zs.map (fun z:uO e=>z.1),v.cells.length=Tryz.prog.cellsOf e:=fun v hv=>by
     obtain ⟨z,_,rfl⟩:=Ai.1 hv;exact z.2.1
    have hfs:(AV.sl (Tryz.prog.cellsOf e) (zs.map fun z:uO e=>z.1) .ai).fg= .sl (Tryz.prog.cellsOf e) (zs.map fun z:uO e=>z.1) .ai:=by rw [fp,show (zs.map fun z:uO e=>z.1).map AV.fg=_ from Bi hfg|>.trans (BM _)]
    have hzb:1048576<=zB e:=by
     unfold zB;split<;>omega
    rw [hk hu (fun _ e=>by cases e)];rcases hz with ⟨h1,rfl⟩|⟨el,rest,h1,h2,h3⟩
    ·exact ⟨_,1,.one hu2 ho hfs rfl (fun _=> .sl (Au _) (Au _) (fun _ h=>(by cases h)) fun _ h=>(by cases h)) (by simp [cL,bg]),by rw [h1];simp [Rows.uptoBulk]⟩
    ·have hl2:(zs.map fun z:uO e=>z.1).length=el.length:=by rw [Ad,h2]
     have hsz:bg (zs.map fun z:uO e=>z.1)<=Rows.uptoBulkAll el:=C2 hl2 fun i z d e1 e2=>by
      rw [Ap,Ag] at e1;obtain ⟨z',e1,rfl⟩:=e1;exact (h3 i z' d e1 e2).1
     have hbl:=D4 el;refine ⟨_,Rows.uptoBulkAll el+1,.one hu2 ho hfs rfl (fun hb=> .sl (by omega) (by omega) hcl fun v hv=>?_) (by simp only [cL];omega),by rw [h1];simp only [Rows.uptoBulk];omega⟩;obtain ⟨i,hi⟩:=Bo hv;rw [Ap,Ag] at hi;obtain ⟨z,hi,rfl⟩:=hi;obtain ⟨d,hd⟩:=aK (show i<el.length by rw [<-h2];exact (Bz.1 hi).1);exact (h3 i z d hi hd).2 (by have:=D5 hd;omega)
   ·rename_i fs hu;obtain ⟨xs,m',rfl,rfl,hl,hxl,hf⟩:=DataW.trod_struct hu h;have hks:z8 t=1:=by unfold z8 HQ;rw [hu];rfl
    obtain ⟨vs,hr⟩:=CP (n:=m') (cs:=cs) (g:=fun t=>if ou es ((vC Tryz.prog m t).getD []) then vC Tryz.prog m t else none) (fun t' a ci y ha hla hy=>by
     split at ha
     ·rename_i hin;rw [ha] at hin;obtain ⟨vs,b,h1,h2⟩:=ih m' (Br _) m t' a ci y ha hin hla hy;exact ⟨vs,h1.len,h1.rel,h1.fg,h1.cell,fun hb=>h1.tp (by omega),by have:=h1.sz;omega⟩
     ·cases ha) fs.toList 0 xs cts (by
      refine wT ?_ hc;intro f hf a ha;rw [ha];simp only [Option.getD_some]
      rw [if_pos (GU hc he f.type a ha ⟨f,hf,rfl⟩)]) (by rw [hxl];simp) (fun i f e=>hf i f (by simpa using e))
    have hcl:cts.length=cs.length:=by rw [hl];exact hlen
    rw [BJ,hcl,CD] at hr;exact ⟨vs,_,hr,by rw [hks];simp only [Rows.uptoBulk];omega⟩
   ·cases hc
end
end
section
open Go.ChangeShapes Go.WideShapes Go.RowKit
section read
variable {H:Type} {enc:TypeId×Value->H} {W:World}
def agL:Tryz.prog.cellsOf 9=1:=by kernel_rfl
def U4 {held:Bool} {n:Nat} {cs:List Value} {x:DataW H×List MemPlace} (h:DataW.trod enc Tryz.prog W 0 (fun _=>true) held n 9 cs=some x):∃ s:Bytes,cs=[.string ⟨s.toArray⟩]/\x.1= .lit (.string s):=by
 obtain ⟨s,rfl,rfl,_⟩:=DataW.trod_string Tryz.underlying9 h;exact ⟨s.data.toList,by rw [fC],rfl⟩
def O0 {held:Bool} {n:Nat} {cs:List Value} {x:DataW H×List MemPlace} (h:DataW.trod enc Tryz.prog W 0 (fun _=>true) held n 172 cs=some x) {L:List Bytes} (hx:x.1= .slice (L.map fun s=> .lit (.string s)) []):
  ∃ u,cs=[u]/\af (kN W) (.sl 1 (L.map AV.str) .ai) u/\u.oneCell'=true:=by
 obtain ⟨zs,u,h1,h2,h3,h4⟩:=CQ (k:=1) (en:=AV.str) (D:=fun z d=>d= .lit (.string z)) (by decide) (fun _=>rfl) Tryz.underlying172 agL (fun n cs x _ h=>by obtain ⟨s,rfl,h2⟩:=U4 h;exact ⟨s,br.one (.str _) rfl,h2⟩) h;refine ⟨u,h1,?_,h3⟩;rcases h4 with ⟨h4,_⟩|⟨el,rest,h4,h5,h6⟩
 ·rw [hx] at h4;cases h4
 ·rw [hx] at h4;injection h4 with h4 _
  subst h4
  have e:zs=L:=by
   apply List.ext_getElem?;intro i;rw [Ad] at h5;rcases Al i zs.length with hi|hi
   ·have:=h6 i zs[i] (.lit (.string (L[i]'(by omega)))) (by simp) (by simp [Ap,show i<L.length by omega]);injection this with this
    injection this with this
    rw [AJ hi,AJ (show i<L.length by omega),this]
   ·rw [As hi,As (by omega)]
  rw [<-e];exact h2
end read
abbrev esE:List TypeId:=[26,32,88,103,252]
def agN:esE.all (NP Tryz.prog esE)=true:=by kernel_rfl
def PL:Tryz.prog.cellsOf 88=40:=by kernel_rfl
def ON {H:Type} {enc:TypeId×Value->H} {W:World} {v:Value} {d:DataW H} {ps:List MemPlace} (hval:Value.okWide Tryz.prog W .any 0 22 v) (h:DataW.Trod enc Tryz.prog W 0 (fun _=>true) true 22 v d ps) (hb:Rows.uptoBulk d<=1048576):
  ∃ w:AV,af (kN W) w v/\w.fg=w/\Tp (.c (.l 40 88)) w:=by
 obtain ⟨a0,len,cap,rfl⟩:=okWide_slice Tryz.underlying22 hval;obtain ⟨n,hn⟩:=h;obtain ⟨vs,b,hr,hb2⟩:=aaK agN n 2 22 [.l (Tryz.prog.cellsOf 88) 88] _ _ (by unfold vC;rw [Tryz.underlying22]) (by rw [PL];rfl) (by kernel_rfl) hn;rw [PL] at hr;have hl:=hr.len
 match vs,hl with
 |[w],_=>
  have h1:=hr.rel.rel 0 w (.slice a0 len cap) rfl (by simp [Value.cells]);have hb3:b+z8 22<=Rows.uptoBulk d:=hb2;exact ⟨w,h1,hr.fg w (by simp),hr.tp (by omega) 0 _ w rfl rfl⟩
def own:ownKnob Tryz.prog.godebug=none:=by kernel_rfl
def Xe : Tryz.prog.globalNamed "asof/checker.aggregates" = some 0 := by kernel_rfl
def ac2:(Tryz.prog.globals[0]?).map (·.type)=some 172:=by kernel_rfl
abbrev xw : List (String × DataW Unit) := [("asof/checker.aggregates",Rows.laid_asof_checker_aggregates),("asof/checker.unary",Rows.laid_asof_checker_unary),("asof/checker.binary",Rows.laid_asof_checker_binary)]
def Lw {W:World} (h:laidMetH Tryz.prog xw W):∃ u,W.cell? ⟨0,0,none⟩=some u/\af (kN W) (.sl 1 (wN.map AV.str) .ai) u/\u.oneCell'=true:=by
 have h:laidMet Tryz.prog xw W:=h;obtain ⟨ps,h1,_,_⟩:=h;simp only [xw,DataW.LaidVars] at h1;obtain ⟨g,t,cs,fuel,p,q,hg,hty,hvar,hd,_,_⟩:=h1;obtain rfl:=AX (Xe.symm.trans hg);obtain rfl:=AX (ac2.symm.trans hty);obtain ⟨u,e,hu,ho⟩:=O0 (L:=wN) hd rfl;refine ⟨u,?_,hu,ho⟩;unfold World.var? at hvar;rw [Xe] at hvar;simp only [Option.bind_some] at hvar;split at hvar
 ·rename_i c T fz hh;injection hvar with hvar
  subst hvar;unfold World.cell?;rw [hh];have:c= #[u]:=by rw [<-show c.toList.toArray=c from by simp,e]
  subst this;rfl
 ·cases hvar
def LS {W:World} (h:W.ShapedOpen Tryz.prog):∃ m,W.cell? ⟨3,0,none⟩=some (.int .i64 m):=by
 obtain ⟨cs,h1,h2,h3⟩:=h.1 3 #[.int .i64 0] 3 (of_decide_eq_true (by kernel_rfl)) (by kernel_rfl);obtain ⟨ts,h4,_,h5⟩:=h3 (by kernel_rfl);have h6:Tryz.prog.cellTypes Tryz.prog.depth 3=some [3]:=by kernel_rfl
 rw [h6] at h4;injection h4 with h4
 subst h4;have h7:cs.size=1:=h2;obtain ⟨v,hv⟩:∃ v,cs[0]? =some v:=⟨cs[0],by simp [h7]⟩;obtain ⟨u,h8,h9⟩:=h5 0 v hv;simp at h8;subst h8;unfold Cell.ok at h9;rw [Tryz.underlying3] at h9
 cases v<;>first
  |(simp at h9;done)
  |skip
 rename_i k n
 have h10:k= .i64:=by
  have:=h9;simp at this;exact this.1
 subst h10;refine ⟨n,?_⟩;unfold World.cell?;rw [h1];simpa using hv
def Lf (m:Int):ae (oE m):=by
 intro g cs h c hc;simp only [oE,List.lookup_cons,List.lookup_nil] at h;split at h
 ·injection h with h
  subst h;simp only [Ay] at hc;subst hc;exact of_eq_true (uu 1 wN)
 ·split at h
  ·injection h with h
   subst h;simp only [Ay] at hc;subst hc;exact .int _ _
  ·cases h
def Kz {W:World} (hL:laidMetH Tryz.prog xw W) (hsh:W.ShapedOpen Tryz.prog) {f:FuncId} {xs:List AV} (hc:∀ (args:Array Value) (w:World),(callFunc f args).run Tryz.prog w= .ok (.enter f args) w)
  (h:∀ m,Pure Tryz.prog (oE m) f xs (.ok (.bool true))) {vs:List Value} (hv:da (kN W) xs vs):
  Calls Tryz.prog f vs.toArray W fun e W'=>e= .returned (.bool true)/\Below W.heap.size W W':=by
 obtain ⟨m,hm⟩:=LS hsh;obtain ⟨u,hu1,hu2,hu3⟩:=Lw hL
 let wb:aT:={toWorld:=W,φ:=fun r o=>W.cell? ⟨r,o,none⟩,vG:=fun p hp=>by cases hp}
 have hst:ax wb (kN W) (.none (oE m)) W:={
  prom:=fun r o v h=>h
  room:=fun l cs r e=>by cases e
  apart:=fun l cs r o e=>by cases e
  obj:=fun l cs e=>by cases e
  beta:=rfl
  bu:=fun l s e=>by cases e
  dy:=fun l l' s s' e=>by cases e
  inj:=fun l l' r cs cs' e=>by cases e
  bT:=fun l r e=>by cases e
  tok:=fun t ht=>by cases ht
  bQ:=fun t x e=>by cases e
  cP:=fun t ht=>by cases ht
  base:=⟨Af _,fun _ _=>rfl⟩
  cH:=fun r o v _ e=>e
  still:=⟨rfl,rfl,rfl⟩
  cF:=fun g cs e i c hc=>by
   have e:(oE m).lookup g=some cs:=e;simp only [oE,List.lookup_cons,List.lookup_nil] at e;split at e
   ·rename_i hg;have hg:g=0:=by simpa using hg
    subst hg;injection e with e
    subst e
    match i with
    |0=>simp at hc;subst hc;exact ⟨_,hu1,hu2,hu3⟩
    |i+1=>simp at hc
   ·split at e
    ·rename_i hg;have hg:g=3:=by simpa using hg
     subst hg;injection e with e
     subst e
     match i with
     |0=>simp at hc;subst hc;exact ⟨_,hm,.int _ _,rfl⟩
     |i+1=>simp at hc
    ·cases e}
 have hi:=(h m).call wb (kN W) W vs hst hv.fg;unfold km at hi;rw [hc] at hi;refine Calls.mono hi fun e w2 ⟨G',S',h1,h2,h3⟩=>?_;have hb:Below W.heap.size W w2:=⟨h2.still.1,h2.still.2.2,h2.still.2.1,h2.base.1,fun k hk=>h2.base.2 k hk⟩
 cases e with
 |returned v=>obtain ⟨r,h4,h5⟩:=h3;injection h5 with h5;subst h5;rw [h4.NC];exact ⟨rfl,hb⟩
 |panicked ch=>obtain ⟨v,av,h4,h5,h6⟩:=h3;cases h6
 |outgrown=>exact h3.elim
def laidOut:laidOutB Tryz.prog=true:=by kernel_rfl
def OX {H:Type} {enc:TypeId×Value->H} {f:Func} {s:ChangeSpec} {W W':World} {args:Array Value} {ds:List (DataW H)} {before:List MemPlace} (hv:s.vars=[])
  (hr:f.resultTypes= #[4]) (hs:(s.fn H ds).results=[.lit (.bool true)]) (ha:(s.fn H ds).args=ds) (hvs:(s.fn H ds).vars=[])
  (hp:∀ t∈f.params.toList,Tryz.prog.readableRec t=true/\t<Tryz.prog.types.size)
  (hW:DataW.Whole enc Tryz.prog f.params.toList s.vars false W args.toList ds [] before) (hB:Below W.heap.size W W'):s.post enc Tryz.prog f false true false false W args (.bool true) W':=by
 have hlt:=hW.lt;have hW':=hW;obtain ⟨p,q,hA,hV,rfl,hfz,hnd⟩:=hW;rw [hv] at hV;have hq:q=[]:=hV;subst hq
 have hargs:∀ (ts:List TypeId) (vs:List Value) (ds:List (DataW H)) (p:List MemPlace),(∀ t∈ts,Tryz.prog.readableRec t=true/\t<Tryz.prog.types.size)->(∀ x∈p,x.block<W.heap.size)->DataW.TrodAll enc Tryz.prog W 0 (fun _=>true) true ts vs ds p->
   DataW.TrodAll enc Tryz.prog W' 0 (fun b=>decide (b<W.heap.size)) true ts vs ds p:=by
  intro ts
  induction ts with
  |nil=>
   intro vs ds p _ _ h;cases vs<;>cases ds<;>simp [DataW.TrodAll] at h ⊢
   exact h
  |cons t ts ih=>
   intro vs ds p ht hp h;cases vs<;>cases ds<;>simp only [DataW.TrodAll] at h ⊢
   obtain ⟨p1,q1,h1,h2,rfl⟩:=h;have h3:=ht t A3;exact ⟨p1,q1,Below.trod laidOut h3.1 h3.2 h1 hB (fun x hx=>hp x (AW _ hx)),ih _ _ _ (fun t h=>ht t (Ao _ h)) (fun x hx=>hp x (A9 _ hx)) h2,rfl⟩
 refine ⟨ds,[],p++[],[],p,[],hW',?_,?_,?_,hB.frame _,fun h=>by cases h⟩
 ·rw [AB,hs,hr];exact trodAll_cons_mk (shut_bool Tryz.underlying4 _) trodAll_mk0
 ·rw [AB,ha];exact hargs _ _ _ _ hp (fun x hx=>hlt x (by simpa using hx)) hA
 ·rw [AB,hvs,hv];rfl
def Pr (h:Array Obj) (i:Nat) (vs:List Value):Array Obj:=h.modify i fun
 | .cells _ t _=> .cells vs.toArray t (0,0)
 |o=>o
def J2 (l:List Bytes):Obj:= .cells (l.map fun s=>Value.string ⟨s.toArray⟩).toArray 9 (0,0)
noncomputable def sI (os:Os):World:=
 let w0:=World.holding Tryz.prog os ⟨#[],#[],[]⟩
 let n:=w0.heap.size
 {w0 with heap:=(Pr (Pr (Pr w0.heap 0 [.slice (some ⟨n,0,none⟩) 10 10]) 1 [.slice (some ⟨n+1,0,none⟩) 3 3]) 2 [.slice (some ⟨n+2,0,none⟩) 10 10])++
   #[J2 wN,J2 [[45],[110,111,116],[110,117,108,108]],J2 [[43],[45],[42],[47],[61,61],[33,61],[60],[60,61],[97,110,100],[111,114]]]}
end
end Go.Proofs.YtoopnalhhfmgaaaGreatDoor
