/- Plain: cells over ranges; groups that join; sorted lists with counts. No program in sight. -/
import Derived.Test.YtoopnalhhfmgaaaGreatDoorVC
import Derived.Test.YtoopnalhhfmgaaaGreatDoorProg
import Derived.KernelRfl
import Derived.Laws.Externs
import Derived.Shelf.Strings.Builder1
import Derived.BigCall
import Derived.BigGuard
import Derived.Lib.SliceRun
import Derived.Test.YtoopnalhhfmgaaaGreatDoorPB
import Derived.Lib.Overlaps
import Derived.Shelf.Small.Strs
import Derived.Shelf.Small.Wraps
import Derived.Shelf.Strings.Search3
import Derived.Shelf.LaysM
import Derived.Shelf.Sort.Plain
import Derived.Shelf.GgSortFunc.RowK
set_option linter.defProp false
set_option linter.unusedSimpArgs false
set_option linter.unusedVariables false
set_option maxHeartbeats 16000000
namespace Go.Proofs.YtoopnalhhfmgaaaGreatDoor
open Go Go.V
set_option maxRecDepth 100000
variable {gl:List (Nat×List AV)}
variable (Ua Ub Uc Ud Ue Uf Ug Uh Ui Uj Uk Ul Um Un Uo Up:AV) (Ya Yb Yc Yd Ye Yf Yg Yh:MC)
section iO
variable {σ:Type}
def bN (j:σ->σ->σ):Int×σ->List (Int×σ)->List (Int×σ)
 |c,[]=>[c]
 |c,d::r=>if d.1=c.1 then bN j (c.1,j c.2 d.2) r else c::bN j d r
def iO (j:σ->σ->σ):List (Int×σ)->List (Int×σ)
 |[]=>[]
 |c::r=>bN j c r
def cr (s e:Int):Int:=e-e%s
def bK (s:Int) (l:List (Int×σ)):List (Int×σ):=l.map fun c=>(cr s c.1,c.2)
def bL (j:σ->σ->σ) (s:Int) (l:List (Int×σ)):List (Int×σ):=iO j (bK s l)
def jY {s f e:Int} (hs:0<s) (hf:0<f):cr (s*f) (cr s e)=cr (s*f) e:=by
 unfold cr;have h0:0<s*f:=Int.mul_pos hs hf;have h1:=Bm e (s*f);have h2:=Bw e (show s*f≠0 by omega);have h3:=BU e h0;have h4:e%s=(e%(s*f))%s:=by rw [Int.emod_emod_of_dvd _ (Int.dvd_mul_right s f)]
 have h5:=Bw (e%(s*f)) (show s≠0 by omega)
 have h6:(e%(s*f))%s<=e%(s*f):=by
  have h7:=Bm (e%(s*f)) s;have h8:0<=e%(s*f)/s:=Bv h2 (by omega);have h9:0<=s*(e%(s*f)/s):=Bx (by omega) h8;omega
 have h10:(e-e%s)%(s*f)=e%(s*f)-e%s:=by
  have h11:e-e%s=(e%(s*f)-e%s)+s*f*(e/(s*f)):=by omega
  rw [h11,Int.add_mul_emod_self_left,BH (by omega) (by omega)]
 rw [h10];omega
def uY (j:σ->σ->σ):∀ (r:List (Int×σ)) (c:Int×σ),∃ x t,bN j c r=(c.1,x)::t
 |[],c=>⟨c.2,[],rfl⟩
 |d::r,c=>by
  unfold bN;split
  ·exact uY j r _
  ·exact ⟨c.2,_,rfl⟩
def ly {j:σ->σ->σ} {I:σ->Prop} (hj:∀ a b,I a->I b->I (j a b)) (ha:∀ a b c,I a->I b->I c->j (j a b) c=j a (j b c)) {s f:Int} (hs:0<s) (hf:0<f):
  ∀ (r:List (Int×σ)) (c:Int×σ) (d:Int×σ),I c.2->I d.2->(∀ x∈r,I x.2)->bN j d (bK (s*f) (bN j (cr s c.1,c.2) (bK s r)))=bN j d ((cr (s*f) c.1,c.2)::bK (s*f) r)
 |[],c,d,hc,hd,_=>by simp only [bK,Az,bN,List.map_cons,jY hs hf]
 |x::r,c,d,hc,hd,hr=>by
  have hx:=hr x (by simp);have hr':∀ y∈r,I y.2:=fun y hy=>hr y (by simp [hy]);have e1:bK s (x::r)=(cr s x.1,x.2)::bK s r:=rfl;have e2:bK (s*f) (x::r)=(cr (s*f) x.1,x.2)::bK (s*f) r:=rfl;rw [e1,e2];have e3:bN j (cr s c.1,c.2) ((cr s x.1,x.2)::bK s r)=if cr s x.1=cr s c.1 then bN j (cr s c.1,j c.2 x.2) (bK s r) else (cr s c.1,c.2)::bN j (cr s x.1,x.2) (bK s r):=rfl
  rw [e3];split
  ·rename_i h;have h2:cr (s*f) x.1=cr (s*f) c.1:=by rw [<-jY hs hf (e:=x.1),h,jY hs hf]
   have ih:=ly hj ha hs hf r (c.1,j c.2 x.2) d (hj _ _ hc hx) hd hr';rw [ih,h2];simp only [bN];split
   ·rename_i h3;rw [ha _ _ _ hd hc hx]
   ·rename_i h3;simp
  ·rename_i h;have e4:bK (s*f) ((cr s c.1,c.2)::bN j (cr s x.1,x.2) (bK s r))=(cr (s*f) c.1,c.2)::bK (s*f) (bN j (cr s x.1,x.2) (bK s r)):=by simp only [bK,List.map_cons,jY hs hf]
   rw [e4];simp only [bN];split
   ·rename_i h3;have:=ly hj ha hs hf r x (d.1,j d.2 c.2) hx (hj _ _ hd hc) hr';simp only [bN] at this;exact this
   ·rename_i h3;have:=ly hj ha hs hf r x (cr (s*f) c.1,c.2) hx hc hr';simp only [bN] at this;rw [this]
def zW {j:σ->σ->σ} {I:σ->Prop} (hj:∀ a b,I a->I b->I (j a b)) (ha:∀ a b c,I a->I b->I c->j (j a b) c=j a (j b c)) {s f:Int} (hs:0<s) (hf:0<f) (l:List (Int×σ)) (hl:∀ x∈l,I x.2):
  bL j (s*f) (bL j s l)=bL j (s*f) l:=by
 cases l with
 |nil=>rfl
 |cons c r=>
  have hc:=hl c (by simp);have hr:∀ x∈r,I x.2:=fun x hx=>hl x (by simp [hx]);show iO j (bK (s*f) (bN j (cr s c.1,c.2) (bK s r)))=bN j (cr (s*f) c.1,c.2) (bK (s*f) r)
  cases r with
  |nil=>simp only [bK,Az,bN,List.map_cons,iO,jY hs hf]
  |cons x r=>
   have hx:=hr x (by simp);have hr':∀ y∈r,I y.2:=fun y hy=>hr y (by simp [hy]);show iO j (bK (s*f) (if cr s x.1=cr s c.1 then bN j (cr s c.1,j c.2 x.2) (bK s r) else (cr s c.1,c.2)::bN j (cr s x.1,x.2) (bK s r)))=if cr (s*f) x.1=cr (s*f) c.1 then bN j (cr (s*f) c.1,j c.2 x.2) (bK (s*f) r) else (cr (s*f) c.1,c.2)::bN j (cr (s*f) x.1,x.2) (bK (s*f) r)
   split
   ·rename_i h;have h2:cr (s*f) x.1=cr (s*f) c.1:=by rw [<-jY hs hf (e:=x.1),h,jY hs hf]
    rw [if_pos h2]
    exact zW hj ha hs hf ((c.1,j c.2 x.2)::r) (fun y hy=>by
     rcases Ab.1 hy with rfl|hy
     ·exact hj _ _ hc hx
     ·exact hr' y hy)
   ·have:=ly hj ha hs hf r x (cr (s*f) c.1,c.2) hx hc hr';simp only [bN] at this;simp only [bK,List.map_cons,iO,jY hs hf];simp only [bK] at this;exact this
 termination_by l.length
def qN {j:σ->σ->σ} (g:σ->Int) (hg:∀ a b,IntKind.i64.wrap (g (j a b))=IntKind.i64.wrap (g a+g b)):∀ (r:List (Int×σ)) (c:Int×σ) (z:Int),(bN j c r).foldl (fun n x=>IntKind.i64.wrap (n+g x.2)) z=(c::r).foldl (fun n x=>IntKind.i64.wrap (n+g x.2)) z
 |[],c,z=>rfl
 |d::r,c,z=>by
  unfold bN;split
  ·rw [qN g hg r];simp only [List.foldl_cons]
   congr 1
   have h:=hg c.2 d.2;rw [IntKind.wrap_i64,IntKind.wrap_i64] at h;simp only [IntKind.wrap_i64];omega
  ·simp only [List.foldl_cons,qN g hg r]
def N6 {j:σ->σ->σ} (g:σ->Int) (hg:∀ a b,IntKind.i64.wrap (g (j a b))=IntKind.i64.wrap (g a+g b)) (s:Int) (l:List (Int×σ)) (z:Int):(bL j s l).foldl (fun n x=>IntKind.i64.wrap (n+g x.2)) z=l.foldl (fun n x=>IntKind.i64.wrap (n+g x.2)) z:=by
 have key:∀ (l:List (Int×σ)) z,(bK s l).foldl (fun n x=>IntKind.i64.wrap (n+g x.2)) z=l.foldl (fun n x=>IntKind.i64.wrap (n+g x.2)) z:=fun l z=>by
  unfold bK;rw [List.foldl_map]
 rw [<-key l z];unfold bL iO
 cases bK s l with
 |nil=>rfl
 |cons c r=>exact qN g hg r c z
def iE:List (Int×σ)->Prop
 |[]=>True
 |[_]=>True
 |c::d::r=>c.1<=d.1/\iE (d::r)
def fW:List (Int×σ)->Prop
 |[]=>True
 |[_]=>True
 |c::d::r=>c.1<d.1/\fW (d::r)
def o7 (j:σ->σ->σ):∀ (r:List (Int×σ)) (c:Int×σ),iE (c::r)->fW (bN j c r)
 |[],c,_=>trivial
 |d::r,c,h=>by
  unfold bN;obtain ⟨h1,h2⟩:=h;split
  ·rename_i he;refine o7 j r (c.1,j c.2 d.2) ?_
   cases r with
   |nil=>trivial
   |cons x r=>exact ⟨by have:=h2.1;simp only;omega,h2.2⟩
  ·rename_i he;have ih:=o7 j r d h2;obtain ⟨x,t,hx⟩:=uY j r d;rw [hx] at ih ⊢;exact ⟨by simp only;omega,ih⟩
def NW {s a b:Int} (hs:0<s) (h:a<=b):cr s a<=cr s b:=by
 unfold cr;have h1:=Bm a s;have h2:=Bm b s;have h3:=Int.ediv_le_ediv hs h;have h4:s*(a/s)<=s*(b/s):=Cd h3 (by omega);omega
def vF {s:Int} (hs:0<s):∀ {l:List (Int×σ)},iE l->iE (bK s l)
 |[],_=>trivial
 |[_],_=>trivial
 |c::d::r,h=>⟨NW hs h.1,vF hs (l:=d::r) h.2⟩
def u9 (j:σ->σ->σ) {s:Int} (hs:0<s) {l:List (Int×σ)} (h:iE l):fW (bL j s l):=by
 have:=vF hs h;unfold bL iO
 cases hl:bK s l with
 |nil=>trivial
 |cons c r=>rw [hl] at this;exact o7 j r c this
def qM (j:σ->σ->σ) (e:Int):∀ (r:List (Int×σ)) (c:Int×σ),(∃ x∈bN j c r,x.1=e)↔∃ x∈c::r,x.1=e
 |[],c=>Iff.rfl
 |d::r,c=>by
  unfold bN;split
  ·rename_i h;rw [qM j e r];simp only [Ab];constructor
   ·rintro ⟨x,rfl|hx,h2⟩
    ·exact ⟨c,.inl rfl,h2⟩
    ·exact ⟨x,.inr (.inr hx),h2⟩
   ·rintro ⟨x,rfl|rfl|hx,h2⟩
    ·exact ⟨_,.inl rfl,h2⟩
    ·exact ⟨_,.inl rfl,by rw [<-h2];exact h.symm⟩
    ·exact ⟨x,.inr hx,h2⟩
  ·have ih:=qM j e r d;constructor
   ·rintro ⟨x,hx,h2⟩;rcases Ab.1 hx with rfl|hx
    ·exact ⟨x,by simp,h2⟩
    ·obtain ⟨y,hy,h3⟩:=ih.1 ⟨x,hx,h2⟩;exact ⟨y,by simp [Ab.1 hy],h3⟩
   ·rintro ⟨x,hx,h2⟩;rcases Ab.1 hx with rfl|hx
    ·exact ⟨x,by simp,h2⟩
    ·obtain ⟨y,hy,h3⟩:=ih.2 ⟨x,hx,h2⟩;exact ⟨y,by simp [hy],h3⟩
def mL (j:σ->σ->σ) (s e:Int) (l:List (Int×σ)):(∃ x∈bL j s l,x.1=e)↔∃ x∈l,cr s x.1=e:=by
 have h1:(∃ x∈bK s l,x.1=e)↔∃ x∈l,cr s x.1=e:=by
  unfold bK;simp only [Ai];constructor
  ·rintro ⟨x,⟨y,hy,rfl⟩,h⟩;exact ⟨y,hy,h⟩
  ·rintro ⟨y,hy,h⟩;exact ⟨_,⟨y,hy,rfl⟩,h⟩
 rw [<-h1];unfold bL iO
 cases bK s l with
 |nil=>simp
 |cons c r=>exact qM j e r c
end iO
def Nm (v:AV):Prop:=al v/\v.fg=v/\∀ c∈v.cells,al c
def Nm.map {l:List AV} (h:∀ v∈l,Nm v):l.map AV.fg=l:=by rw [Bi (g:=id) fun v hv=>(h v hv).2.1,BM]
def Nm.one {v:AV} (h:al v) (e:v.fg=v) (c:v.cells=[v]):Nm v:=⟨h,e,by rw [c];exact fun x hx=>by rw [Ay.1 hx];exact h⟩
def Nm.int (k:IntKind) (n:Int):Nm (.int k n):= .one (.int k n) rfl rfl
def Nm.str (s:List UInt8):Nm (.str s):= .one (.str s) rfl rfl
def Nm.bool (b:Bool):Nm (.bool b):= .one (.bool b) rfl rfl
def Nm.agg {cs:List AV} (h:∀ v∈cs,Nm v):Nm (.agg cs):=⟨.agg fun v hv=>(h v hv).1,by rw [AV.fg,di,Nm.map h],fun v hv=>(h v hv).1⟩
def Nm.sl {k:Nat} {xs:List AV} (h:∀ x∈xs,Nm x):Nm (.sl k xs .ai):= .one (.sl (fun x hx=>(h x hx).2.2) (.inl rfl)) (by rw [AV.fg,di,Nm.map h]) rfl
def Nm.cI {t:TypeId} {v:AV} (h:Nm v):Nm (.cI t v):= .one (.cI h.1) (by rw [AV.fg,h.2.1]) rfl
def Nm.nil:∀ v∈([]:List AV),Nm v:=fun v hv=>by cases hv
def Nm.cons {a:AV} {r:List AV} (h:Nm a) (hr:∀ v∈r,Nm v):∀ v∈a::r,Nm v:=fun v hv=>by
 rcases Ab.1 hv with rfl|hv
 ·exact h
 ·exact hr v hv
def R6 (R:List (List AV)):Prop:=∀ r∈R,r.length=6/\∀ v∈r,Nm v
def R6.take {R:List (List AV)} (h:R6 R) (i:Nat):R6 (R.take i):=fun c hc=>h c (A5 hc)
def R6.drop {R:List (List AV)} (h:R6 R) (i:Nat):R6 (R.drop i):=fun c hc=>h c (Ba hc)
def R6.app {R T:List (List AV)} (h:R6 R) (h2:R6 T):R6 (R++T):=fun x hx=>(AA.1 hx).elim (h x) (h2 x)
def R6.cons {r:List AV} {T:List (List AV)} (h:r.length=6/\∀ v∈r,Nm v) (h2:R6 T):R6 (r::T):=fun x hx=>by
 rcases Ab.1 hx with rfl|hx
 ·exact h
 ·exact h2 x hx
def R6.len:∀ {R:List (List AV)},R6 R->R.flatten.length=R.length*6
 |[],_=>rfl
 |r::R,h=>by
  have h1:=(h r (A3 ..)).1;have h2:=R6.len (R:=R) fun x hx=>h x (Ao _ hx);rw [List.flatten_cons,Ak,h1,h2,List.length_cons];omega
def R6.P0 {R:List (List AV)} (h:R6 R) {i:Nat} (hi:i<=R.length):R.flatten.take (i*6)=(R.take i).flatten:=by
 have e:R.flatten=(R.take i).flatten++(R.drop i).flatten:=by rw [<-BK,A1]
 have l:(R.take i).flatten.length=i*6:=by rw [(h.take i).len,Av,BP hi]
 rw [e,Bp (by omega),AR (by omega)]
def R6.PW {R:List (List AV)} (h:R6 R) {i:Nat} (hi:i<=R.length):R.flatten.drop (i*6)=(R.drop i).flatten:=by
 have e:R.flatten=(R.take i).flatten++(R.drop i).flatten:=by rw [<-BK,A1]
 have l:(R.take i).flatten.length=i*6:=by rw [(h.take i).len,Av,BP hi]
 rw [e,List.drop_append_of_le_length (by omega),AE (by omega),List.nil_append]
structure Row (cs:List AV) (R:List (List AV)):Prop where
 len:R.length*6<=cs.length
 eq:cs.take (R.length*6)=R.flatten
 r6:R6 R
def Row.take {cs:List AV} {R:List (List AV)} (h:Row cs R) {i:Nat} (hi:i<=R.length):cs.take (i*6)=(R.take i).flatten:=by rw [<-h.r6.P0 hi,<-h.eq,BO,BP (by omega)]
def Row.QC {cs:List AV} {R:List (List AV)} (h:Row cs R) {i:Nat} (hi:i<=R.length):(cs.take (R.length*6)).drop (i*6)=(R.drop i).flatten:=by rw [h.eq,h.r6.PW hi]
def Row.bu {cs:List AV} {R:List (List AV)} (h:Row cs R) (hC:0<R.length):aE cs=false:=by
 have:=h.len
 match cs,this with
 |[],h=>simp at h;omega
 |[_],h=>simp at h;omega
 |_::_::_,_=>exact fS _ _ _
def Row.at {cs:List AV} {R:List (List AV)} (h:Row cs R) {i:Nat} {r:List AV} (hi:R[i]? =some r):List.take 6 (cs.drop (i*6))=r/\(6<=(cs.drop (i*6)).length)=True:=by
 have hl:i<R.length:=by
  rcases Al i R.length with h|h
  ·exact h
  ·rw [As h] at hi;cases hi
 have hlen:=h.len;refine ⟨?_,eq_true (by rw [AK];omega)⟩;have e:List.take 6 (cs.drop (i*6))=List.take 6 ((cs.take (R.length*6)).drop (i*6)):=by rw [BW,BO,BP (by omega)]
 have hd:R.drop i=r::R.drop (i+1):=bY hi;have h6:r.length=6:=(h.r6 r (Aj hi)).1;rw [e,h.QC (by omega),hd,List.flatten_cons,Bp (by omega),AR (by omega)]
def Row.of {R:List (List AV)} (h:R6 R) (rest:List AV):Row (R.flatten++rest) R:=⟨by rw [Ak,h.len];omega,by rw [Bp (by rw [h.len];omega),AR (by rw [h.len];omega)],h⟩
def Row.ins {cs rest r:List AV} {R:List (List AV)} (h:Row cs R) {i:Nat} (hi:i<=R.length) (h6:r.length=6/\∀ v∈r,Nm v):Row (cs.take (i*6)++r++(cs.take (R.length*6)).drop (i*6)++rest) (R.take i++r::R.drop i):=by
 rw [h.take hi,h.QC hi,show (R.take i).flatten++r++(R.drop i).flatten=(R.take i++r::R.drop i).flatten by rw [BK,List.flatten_cons,AL]];exact .of ((h.r6.take i).app (R6.cons h6 (h.r6.drop i))) rest
def Row.del {cs cs':List AV} {R:List (List AV)} (h:Row cs R) {i:Nat} (hi:i<R.length) (hl:R.length*6<=cs'.length) (he:cs'.take ((R.length-1)*6)=cs.take (i*6)++(cs.take (R.length*6)).drop ((i+1)*6)):Row cs' (R.take i++R.drop (i+1)):=by
 have l:(R.take i++R.drop (i+1)).length=R.length-1:=by
  rw [Ak,Av,AK];omega
 refine ⟨by rw [l];omega,?_,(h.r6.take i).app (h.r6.drop _)⟩;rw [l,he,h.take (by omega),h.QC (by omega),BK]
def Row.set {cs r:List AV} {R:List (List AV)} (h:Row cs R) {i:Nat} (hi:i<R.length) (h6:r.length=6/\∀ v∈r,Nm v):Row (cs.take (i*6)++r++cs.drop (i*6+6)) (R.set i r):=by
 have hlen:=h.len
 have hc:cs.drop (i*6+6)=(R.drop (i+1)).flatten++cs.drop (R.length*6):=by
  have e:cs.drop (i*6+6)=(cs.take (R.length*6)).drop ((i+1)*6)++(cs.drop (R.length*6)).drop ((i+1)*6-(cs.take (R.length*6)).length):=by
   rw [<-List.drop_append,A1]
   congr 1
   omega
  rw [e,h.QC (by omega),show (i+1)*6-(cs.take (R.length*6)).length=0 by rw [Av];omega,BJ]
 have e:cs.take (i*6)++r++cs.drop (i*6+6)=(R.set i r).flatten++cs.drop (R.length*6):=by
  rw [h.take (by omega),hc,Ck,if_pos hi,BK,List.flatten_cons];simp only [AL]
 rw [e]
 have:=Row.of (R:=R.set i r) (by
  rw [Ck,if_pos hi]
  exact (h.r6.take i).app (R6.cons h6 (h.r6.drop _))) (cs.drop (R.length*6))
 exact this
abbrev Cl:=Int×List AV
def Cl.r (c:Cl):List AV:= .int .i64 c.1::c.2
def dh (C:List Cl):List (List AV):=C.map Cl.r
def gg (C:List Cl):(dh C).length=C.length:=Ad ..
def gF {C:List Cl} {i:Nat} {c:Cl} (h:C[i]? =some c):(dh C)[i]? =some (.int .i64 c.1::c.2):=by
 unfold dh;rw [Ap,h];rfl
def R6.cl {C:List Cl} (h:R6 (dh C)) {c:Cl} (hc:c∈C):c.2.length=5/\∀ v∈c.2,Nm v:=by
 obtain ⟨h1,h2⟩:=h _ (BA hc);exact ⟨Nat.succ.inj h1,fun v hv=>h2 v (Ao _ hv)⟩
def eF (e:Int):List Cl->Nat
 |[]=>0
 |c::C=>if c.1<e then eF e C+1 else 0
def o6 (e:Int) (C:List Cl):Bool:=match C[eF e C]? with
 |some c=>c.1==e
 |none=>false
def zp (e:Int):∀ C:List Cl,eF e C<=C.length
 |[]=>Af _
 |c::C=>by
  unfold eF;have:=zp e C;split<;>simp only [List.length_cons]<;>omega
def fW.tail {σ:Type} {c:Int×σ}:∀ {C:List (Int×σ)},fW (c::C)->fW C
 |[],_=>trivial
 |_::_,h=>h.2
def fW.lt {σ:Type}:∀ {C:List (Int×σ)} {c:Int×σ} {i:Nat} {d:Int×σ},fW (c::C)->C[i]? =some d->c.1<d.1
 |[],_,_,_,_,h=>by cases h
 |x::C,c,0,d,h,hd=>by
  injection hd with hd
  subst hd;exact h.1
 |x::C,c,i+1,d,h,hd=>by
  have h1:=h.1;have h2:=fW.lt h.2 (i:=i) hd;omega
def uw {e:Int}:∀ {C:List Cl} {i:Nat} {c:Cl},fW C->C[i]? =some c->(c.1<e↔i<eF e C)
 |[],_,_,_,h=>by cases h
 |x::C,0,c,h,hc=>by
  injection hc with hc
  subst hc;unfold eF;split
  ·rename_i h1;exact ⟨fun _=>Nat.succ_pos _,fun _=>h1⟩
  ·rename_i h1;exact ⟨fun h2=>absurd h2 h1,fun h2=>absurd h2 (Cp _)⟩
 |x::C,i+1,c,h,hc=>by
  have h1:=fW.lt h (i:=i) hc;have h2:=uw (e:=e) h.tail (i:=i) hc;unfold eF;split
  ·rw [h2];omega
  ·rename_i h3;constructor
   ·intro h4;omega
   ·intro h4;omega
section
open Go.Lib Go.RowKit
def ax.TQ {wb:aT} {G:Gh} {S:St} {w w':World} (h:ax wb G S w) (hk:Below w.heap.size w w'):ax wb G S w':=by
 have hblk:∀ k,k<w.heap.size->w'.heap[k]? =w.heap[k]? :=hk.block
 have hcell:∀ k,k<w.heap.size->∀ o,w'.cell? ⟨k,o,none⟩=w.cell? ⟨k,o,none⟩/\w'.frozen? ⟨k,o,none⟩=w.frozen? ⟨k,o,none⟩:=fun k h1 o=>by
  have:=hblk k h1;exact ⟨by simp only [World.cell?,this],by simp only [World.frozen?,this]⟩
 have hsz:=hk.size;refine {prom:=?_,room:=fun l cs r a b e=>⟨⟨(h.room l cs r a b e).1.1,by have h1:=(h.room l cs r a b e).1.2;have hb:=hblk r (h.bT l r e).2.2;simp only [se,World.shape?,World.frozen?,hb] at h1 ⊢;exact h1⟩,fun m hm=>by rw [(hcell r (h.bT l r e).2.2 m).1,(hcell r (h.bT l r e).2.2 m).2];exact (h.room l cs r a b e).2 m hm⟩,apart:=h.apart,obj:=?_,inj:=h.inj,bT:=?_,tok:=?_,bQ:=?_,cP:=h.cP,base:=?_,cH:=h.cH,still:=?_,beta:=h.beta,cF:=h.cF,bu:=?_,dy:=h.dy}
 ·intro k o x e;rw [(hcell k (h.lt e) o).1];exact h.prom k o x e
 ·intro l' cs hget hnb;obtain ⟨k,hk',hm⟩:=h.obj l' cs hget hnb;have hc:=hcell k (h.bT l' k hk').2.2;refine ⟨k,hk',fun m c hmc=>?_⟩;obtain ⟨x,h1,h2,h3,h4⟩:=hm m c hmc;exact ⟨x,by rw [(hc m).1];exact h1,h2,h3,by rw [(hc m).2];exact h4⟩
 ·intro l' k e;have:=h.bT l' k e;exact ⟨this.1,this.2.1,by omega⟩
 ·intro t ht;obtain ⟨k,e,z,h1,h2⟩:=h.tok t ht;refine ⟨k,e,z,h1,fun o h3 h4=>?_⟩;obtain ⟨h5,h6,h7,h8,h9⟩:=h2 o h3 h4;have hc:=hcell k ((h.bQ t _ h1).2 (by show e<z;omega));exact ⟨h5,h6,by rw [(hc o).1];exact h7,by rw [(hc o).2];exact h8,h9⟩
 ·intro t x e;have:=h.bQ t x e;exact ⟨this.1,fun h'=>by have:=this.2 h';omega⟩
 ·refine ⟨by have:=h.base.1;omega,fun k hkb=>?_⟩;rw [hblk k (by have:=h.base.1;omega)];exact h.base.2 k hkb
 ·obtain ⟨h1,h2,h3⟩:=h.still;exact ⟨hk.os.trans h1,hk.output.trans h2,hk.tape.trans h3⟩
 ·intro l s hl hsp0;obtain ⟨r,hr,hb⟩:=h.bu l s hl hsp0;exact ⟨r,hr,hb.to (Gh.le_refl _) (fun hlt=>hblk r hlt) fun g hg _ _ ha=>⟨hblk g hg,ha⟩⟩
def ao.zo {P:Program} {f:FuncId} {xs:List AV} {S:St} {r:AV} (hc:∀ (args:Array Value) (w:World),(callFunc f args).run P w= .ok (.enter f args) w)
  (h:∀ wb G w vs,ax wb G S w->da G xs vs->∃ v,af G r v/\Calls P f vs.toArray w fun e w'=>e= .returned v/\Below w.heap.size w w'):ao P f xs S fun o S'=>S'=S/\o= .ok r:=by
 intro wb G w vs hS hv;obtain ⟨v,h1,h2⟩:=h wb G w vs hS hv;unfold km;rw [hc];refine h2.mono fun e w' ⟨he,hw⟩=>?_;subst he;exact ⟨G,S,Gh.le_refl G,ax.TQ hS hw,r,h1,rfl,rfl⟩
def JE (k:Nat):al (.sl k [] .ai)=True:=eq_true (al.sl (by simp) (.inl rfl))
def JD (k:Nat):al (.sl k [] .exact)=True:=eq_true (al.sl (by simp) (.inr rfl))
def NM (w:World):Calls pg 29 #[.slice none 0 0] w fun e w'=>e= .returned (.slice none 0 0)/\Below w.heap.size w w':=by
 have he:=fun (a:Option Addr) (n c:Nat) (w:World)=>run_eql_slice_nil (P:=pg) w 42 54 a n c 0 0 Tryz.underlying42
 go_enter Tryz.func29,Tryz.ntmps29
 go_wp2
 go_ret
 exact ⟨rfl,Below.refl _ _⟩
def Ee (ad:Addr) (cap:Nat) (w:World):Calls pg 29 #[.slice (some ad) 0 cap] w fun e w'=>e= .returned (.slice (some ⟨w.heap.size,0,none⟩) 0 0)/\Below w.heap.size w w':=by
 have he:=fun (a:Option Addr) (n c:Nat) (w:World)=>run_eql_slice_nil (P:=pg) w 42 54 a n c 0 0 Tryz.underlying42
 go_enter Tryz.func29,Tryz.ntmps29
 go_wp2
 go_ret
 exact ⟨rfl,(Below.refl _ _).alloc (Af _) _⟩
def Di:Pure pg gl 29 [.sl 6 [] .ai] (.ok (.sl 6 [] .exact)):=by
 refine ⟨?_,by simp only [bz,cz,forall_eq_or_imp,forall_eq,implies_true,JE],by simp only [cz,forall_eq_or_imp,forall_eq,implies_true,JD]⟩;simp only [bz];refine (ao.zo Tryz.call29 fun wb G w vs hS hv=>?_).mono fun o S' h=>h.2;obtain ⟨v1,vs1,rfl,e1,hv⟩:=hv.cons_inv;obtain rfl:=hv.iz
 cases e1 with
 |slnil _ _ ad=>
  cases ad with
  |none=>exact ⟨_,.slnil _ _ _,NM w⟩
  |some ad=>exact ⟨_,.slnil _ _ _,Ee _ _ w⟩
 |sl f hk hp ho hv hc ht=>exact ⟨_,.slnil _ _ _,Ee _ _ w⟩
def KG (w:World):Calls pg 101 #[.slice none 0 0] w fun e w'=>e= .returned (.slice none 0 0)/\Below w.heap.size w w':=by
 have he:=fun (a:Option Addr) (n c:Nat) (w:World)=>run_eql_slice_nil (P:=pg) w 136 184 a n c 0 0 Tryz.underlying136
 go_enter Tryz.func101,Tryz.ntmps101
 go_wp2
 go_ret
 exact ⟨rfl,Below.refl _ _⟩
def zN (ad:Addr) (cap:Nat) (w:World):Calls pg 101 #[.slice (some ad) 0 cap] w fun e w'=>e= .returned (.slice (some ⟨w.heap.size,0,none⟩) 0 0)/\Below w.heap.size w w':=by
 have he:=fun (a:Option Addr) (n c:Nat) (w:World)=>run_eql_slice_nil (P:=pg) w 136 184 a n c 0 0 Tryz.underlying136
 go_enter Tryz.func101,Tryz.ntmps101
 go_wp2
 go_ret
 exact ⟨rfl,(Below.refl _ _).alloc (Af _) _⟩
def Kw:Pure pg gl 101 [.sl 9 [] .ai] (.ok (.sl 9 [] .exact)):=by
 refine ⟨?_,by simp only [bz,cz,forall_eq_or_imp,forall_eq,implies_true,JE],by simp only [cz,forall_eq_or_imp,forall_eq,implies_true,JD]⟩;simp only [bz];refine (ao.zo Tryz.call101 fun wb G w vs hS hv=>?_).mono fun o S' h=>h.2;obtain ⟨v1,vs1,rfl,e1,hv⟩:=hv.cons_inv;obtain rfl:=hv.iz
 cases e1 with
 |slnil _ _ ad=>
  cases ad with
  |none=>exact ⟨_,.slnil _ _ _,KG w⟩
  |some ad=>exact ⟨_,.slnil _ _ _,zN _ _ w⟩
 |sl f hk hp ho hv hc ht=>exact ⟨_,.slnil _ _ _,zN _ _ w⟩
def KH (w:World):Calls pg 407 #[.slice none 0 0] w fun e w'=>e= .returned (.slice none 0 0)/\Below w.heap.size w w':=by
 have he:=fun (a:Option Addr) (n c:Nat) (w:World)=>run_eql_slice_nil (P:=pg) w 49 139 a n c 0 0 Tryz.underlying49
 go_enter Tryz.func407,Tryz.ntmps407
 go_wp2
 go_ret
 exact ⟨rfl,Below.refl _ _⟩
def zO (ad:Addr) (cap:Nat) (w:World):Calls pg 407 #[.slice (some ad) 0 cap] w fun e w'=>e= .returned (.slice (some ⟨w.heap.size,0,none⟩) 0 0)/\Below w.heap.size w w':=by
 have he:=fun (a:Option Addr) (n c:Nat) (w:World)=>run_eql_slice_nil (P:=pg) w 49 139 a n c 0 0 Tryz.underlying49
 go_enter Tryz.func407,Tryz.ntmps407
 go_wp2
 go_ret
 exact ⟨rfl,(Below.refl _ _).alloc (Af _) _⟩
def D7:Pure pg gl 407 [.sl 6 [] .ai] (.ok (.sl 6 [] .exact)):=by
 refine ⟨?_,by simp only [bz,cz,forall_eq_or_imp,forall_eq,implies_true,JE],by simp only [cz,forall_eq_or_imp,forall_eq,implies_true,JD]⟩;simp only [bz];refine (ao.zo Tryz.call407 fun wb G w vs hS hv=>?_).mono fun o S' h=>h.2;obtain ⟨v1,vs1,rfl,e1,hv⟩:=hv.cons_inv;obtain rfl:=hv.iz
 cases e1 with
 |slnil _ _ ad=>
  cases ad with
  |none=>exact ⟨_,.slnil _ _ _,KH w⟩
  |some ad=>exact ⟨_,.slnil _ _ _,zO _ _ w⟩
 |sl f hk hp ho hv hc ht=>exact ⟨_,.slnil _ _ _,zO _ _ w⟩
end
attribute [local go_sem ↓] cu aj.ev MK.ev MK.ob Hc
attribute [local go_sem high] Hd
attribute [local go_sem] rO gn fZ lC oT py kq bU gG lF mQ AV.there AV.plus cC fV AV.gB AV.cells cn dp iH lx jE kr lE nS eg isStr fm fN appArg cS cG gQ fU cU jx bI fG jS dE St.none if_true if_false ite_self eq_self ne_eq implies_true forall_const jm.av bX.av jB.av lZ.av rU.av He
section
open Go.Lib
def QL {P : Program} {f : FuncId} {fn : Func} {tS tR e : TypeId} {k : Nat} (hf : P.funcs[f]? = some fn) (hname : (fn.name == "runtime.NumGoroutine") = false) (hb : fn.body.isNone = true) (hn : Extern.findNext fn = none)
  (he:Extern.find fn=some (Extern.SlicesOverlaps.overlaps #[tS,tS] #[tR])) (ht:P.underlying tS=some (.slice e)) (hs:cg P e k=true) {S:St} {nv n lv l o:Nat} {c1 c2:List AV}
  (h1:S.get lv=some c1) (b1:aE c1=false) (h2:S.get l=some c2) (b2:aE c2=false) (hne:lv≠l) (l1:0<c1.length) (l2:0<c2.length):
  ao P f [.aN k nv lv 0,.aN k n l o] S fun o' S'=>o'= .ok (.bool false)/\S'=S:=by
 intro wb G w vs hS hv;obtain ⟨v1,vs1,rfl,e1,hv⟩:=hv.cons_inv;obtain ⟨v2,vs2,rfl,e2,hv⟩:=hv.cons_inv;obtain rfl:=hv.iz
 cases e1 with
 |aN _ s1 k1 z1=>
 cases e2 with
 |aN _ s2 k2 z2=>
 rename_i r1 cap1 r2 cap2 _;obtain ⟨⟨q1,⟨⟨T1,p1⟩,p2⟩⟩,q2⟩:=hS.room lv c1 r1 h1 b1 s1;obtain ⟨⟨q3,⟨⟨T2,p3⟩,p4⟩⟩,q4⟩:=hS.room l c2 r2 h2 b2 s2
 have hr:r1≠r2:=fun e=>by
  subst e;exact hne (hS.inj lv l r1 c1 c2 h1 h2 (bo b1) (bo b2) s1 s2)
 unfold km
 rw [show ([Value.slice (some ⟨r1,0,none⟩) nv cap1,Value.slice (some ⟨r2,o,none⟩) n cap2].toArray)= #[.slice (some ⟨r1,0,none⟩) nv cap1,.slice (some ⟨r2,o,none⟩) n cap2] from rfl,
  run_callFunc_extern hf hname hb hn he,run_overlaps_apart w tS tR e ht k (bR hs) ⟨r1,0,none⟩ ⟨r2,o,none⟩ nv cap1 n cap2 hr T1 T2 (G.κ lv) (G.κ l) p1 p3 (by omega) (q2 0 (by omega)).2 p2]
 exact ⟨G,S,Gh.le_refl G,hS,_,.bool _,rfl,rfl⟩
def aeR {S:St} {nv n lv l o:Nat} {c1 c2:List AV} (h1:S.get lv=some c1) (b1:aE c1=false) (h2:S.get l=some c2) (b2:aE c2=false) (hne:lv≠l) (l1:0<c1.length) (l2:0<c2.length):
  ao pg 185 [.aN 6 nv lv 0,.aN 6 n l o] S fun o' S'=>o'= .ok (.bool false)/\S'=S:=
 QL (tS:=42) (tR:=5) Tryz.func185 (by kernel_rfl) (by kernel_rfl) (by kernel_rfl) (by kernel_rfl) Tryz.underlying42 (by kernel_rfl) h1 b1 h2 b2 hne l1 l2
def Vw (n i l N:Nat) (cs vc:List AV) (ob:List (Nat×List AV)) (nt:Nat) (gl:List (Nat×List AV)) (o:Out) (S':St):Prop:=∃ L N' ob' lv' rest r,o= .ok r/\r.Le (.aN 6 (n+1) L 0)/\S'=⟨N',ob',nt,lv',gl⟩/\List.lookup L ob'=some (cs.take (i*6)++vc++(cs.take (n*6)).drop (i*6)++rest)/\N<=N'/\(L=l∨N<=L)/\∀ l',l'≠l->l'<N->List.lookup l' ob'=List.lookup l' ob
def fR {xs:List AV} (h:2<=xs.length):aE xs=false:=by
 match xs,h with
 |_::_::_,_=>exact fS _ _ _
def vj (i n:Nat) (cs:List AV):List AV:=List.take ((i+1)*6) cs++List.take ((n-i)*6) (List.drop (i*6) cs)++List.drop ((i+1)*6+(List.take ((n-i)*6) (List.drop (i*6) cs)).length) cs
def uD {i n:Nat} {cs:List AV} (hi:i<n) (hc:n*6<=cs.length):(i+1)*6<=(vj i n cs).length:=by
 unfold vj;simp only [Ak,Av];omega
def M9 {i n:Nat} {cs vc:List AV} (hi:i<n) (hc:n*6<=cs.length):List.take (i*6) (vj i n cs)++vc++List.drop (i*6+6) (vj i n cs)=cs.take (i*6)++vc++(cs.take (n*6)).drop (i*6)++List.drop ((i+1)*6+(List.take ((n-i)*6) (List.drop (i*6) cs)).length) cs:=by
 have h1:List.take (i*6) (vj i n cs)=cs.take (i*6):=by
  unfold vj;rw [AL,Bp (by rw [Av];omega),BO,BP (by omega)]
 have h2:List.drop (i*6+6) (vj i n cs)=(cs.take (n*6)).drop (i*6)++List.drop ((i+1)*6+(List.take ((n-i)*6) (List.drop (i*6) cs)).length) cs:=by
  have hl:(List.take ((i+1)*6) cs).length=i*6+6:=by rw [Av];omega
  have h3:(cs.take (n*6)).drop (i*6)=List.take ((n-i)*6) (List.drop (i*6) cs):=by
   rw [BW]
   congr 1
   omega
  unfold vj;rw [AL,List.drop_append_of_le_length (by omega),AE (by omega),List.nil_append,h3]
 rw [h1,h2];simp only [AL]
def DV (k k' n l c m:Nat) (z:List AV) (S:St) (q:IntKind):su k z S (.b9 k' n l 0 c) (.int q ((m:Nat):Int))=if k'=k/\0<m/\c<n+m then (S.get l).bind fun cs=>if aE cs then none else if n*k<=cs.length then
   some (.aN k (n+m) S.n 0,{S with n:=S.n+1,obj:=(S.n,cs.take (n*k)++flat (List.replicate m (.agg z)))::S.obj}) else none else none:=rfl
def xq (i n:Nat) (z cs:List AV):List AV:=cs.take (i*6)++flat (List.replicate (n+1-i) (.agg z))
def nG (i n:Nat) (z cs vc:List AV):List AV:=List.take (i*6) (xq i n z cs)++vc++List.drop (i*6+6) (xq i n z cs)
def pT {i n:Nat} {z cs:List AV} (hz:z.length=6) (hi:i<n) (hc:n*6<=cs.length):(xq i n z cs).length=(n+1)*6:=by
 unfold xq;rw [Ak,Av,cO (k:=6) (fun x hx=>by rw [BX hx];exact hz),Ci];omega
def vH {i n:Nat} {z cs vc:List AV} (hz:z.length=6) (hv:vc.length=6) (hi:i<n) (hc:n*6<=cs.length):(nG i n z cs vc).length=(n+1)*6:=by
 have:=pT hz hi hc;unfold nG;simp only [Ak,Av,AK];omega
def Lg {i n:Nat} {z cs vc:List AV} (hz:z.length=6) (hv:vc.length=6) (hi:i<n) (hc:n*6<=cs.length):List.take ((i+1)*6) (nG i n z cs vc)++List.take ((n-i)*6) (List.drop (i*6) cs)++List.drop ((i+1)*6+(List.take ((n-i)*6) (List.drop (i*6) cs)).length) (nG i n z cs vc)=cs.take (i*6)++vc++(cs.take (n*6)).drop (i*6)++[]:=by
 have hl:=vH hz hv hi hc
 have h3:(cs.take (n*6)).drop (i*6)=List.take ((n-i)*6) (List.drop (i*6) cs):=by
  rw [BW]
  congr 1
  omega
 have h1:List.take ((i+1)*6) (nG i n z cs vc)=cs.take (i*6)++vc:=by
  unfold nG;rw [Bp (by simp only [Ak,Av,pT hz hi hc];omega),AR (by simp only [Ak,Av,pT hz hi hc];omega)]
  congr 1
  unfold xq;rw [Bp (by rw [Av];omega),BO,Nat.min_self]
 have h4:List.drop ((i+1)*6+(List.take ((n-i)*6) (List.drop (i*6) cs)).length) (nG i n z cs vc)=[]:=AE (by rw [hl];simp only [Av,AK];omega);rw [h1,h4,h3]
def abZ:=(by conv=>lhs;reduce:dC [Ua,Ub,Uc,Ud] [] 0x2328cacddd2fe70ebe37f5a04fba2c4a7f73866f18f068f8efc975675a34ab9d3dd676f14a6ad11995a7b39d87ea169597a58c0485127340be4b838d6bcf84b235a7b59efecf9d8dec36519d345857e36697cf9c6262d1039eef9690afc7ae086f466d96b61daba5881b19d7904c907be3c70cba9ea290bad0af6ff4ce30ccfcea09e9ea7fbc1fdbdf8fe55e78b31e8edfe1ba6bb5a012ba7c33e8d56c3a3bfc8980a26d5bb18199c43d17008d8a2dde350b00c69780920e1b6b4774ed8188aa950964a4d952501bef3e0ca731a7cafe25c9aa82843f9cf69e7ddb111b4137e5b684dd39873cb6df611eb6ada57d1c4fe66a667ec76744ba3233e08a7bbffb55e9c1b21b2a0d449609ea5c4d77081dc4fb92655c41ed6341bf=_)
abbrev ajS:=rP (abZ (.sl 6 [] .exact) (.int .i64 0) (.int .u64 0) (.sl 2 [] .exact))
def P9:aD pg 144 95 ajS [.t 6]:= .o2 Tryz.func144 (by kernel_rfl)
def af4 (n i l vl N nt:Nat) (cs vc:List AV) (ob:List (Nat×List AV)) (lv:List Nat) (hl:List.lookup l ob=some cs) (hv:List.lookup vl ob=some vc) (b1:aE cs=false) (b2:aE vc=false) (hc:n*6<=cs.length) (hvc:vc.length=6) (hne:vl≠l) (hlN:l<N) (hvN:vl<N) (hi:i<=n) (hn:n<=1000000000):
  ao pg 144 [.aN 6 n l 0,.int .i64 (i:Int),.aN 6 1 vl 0] ⟨N,ob,nt,lv,gl⟩ (Vw n i l N cs vc ob nt gl):=by
 have hNl:(N=l)=False:=eq_false (by omega);have hNv:(N=vl)=False:=eq_false (by omega);have hlN':(l=N)=False:=eq_false (by omega);have hvN':(vl=N)=False:=eq_false (by omega);have hvl:(vl=l)=False:=eq_false hne;have hlv:(l=vl)=False:=eq_false (AT hne);have hgl:∀ M,St.get ⟨M,ob,nt,lv,gl⟩ l=some cs:=fun _=>hl;have hgv:∀ M,St.get ⟨M,ob,nt,lv,gl⟩ vl=some vc:=fun _=>hv;have h10:(((1:Nat):Int)==0)=false:=rfl;have htk:List.take 6 vc=vc:=AR (by omega);refine .aC P9 (by simp) ?_;generalize hK:bI [RV.t 6] _=Q;show ah _ _ _ _ ([]++(0,.aN 6 n l 0)::[(1,.int .i64 (i:Int)),(2,.aN 6 1 vl 0)]) _ _;refine mM [] rfl fun c hcc=>?_;show ah _ _ _ _ [(0,.b9 6 n l 0 c),(1,.int .i64 (i:Int)),(2,.aN 6 1 vl 0)] _ _;refine ab 200 ?_
 by_cases hin:i=n
 ·subst hin
  by_cases hroom:i+1<=c
  ·
   repeat' with_reducible first|refine ar ?_|refine au ?_|refine ⟨?_,?_⟩|intro _|simp only [go_sem,seval,gb,fP,eG,eR,cq,bO,bH,gX,eg,hgl,hgv,h10,htk,b1,b2,hvc,hroom,hc,hNl,hNv,hlN',hvN',hvl,hlv]
   all_goals first
    |exact Ax _
    |omega
    |skip
   rw [<-hK];simp only [go_sem,seval];refine ⟨l,N,_,lv,cs.drop (i*6+6),_,rfl,jc _ _ _ _ _,rfl,?_,Af _,.inl rfl,fun l' h1 _=>?_⟩
   ·rw [List.lookup_cons,beq_self_eq_true];simp
   ·rw [List.lookup_cons,show (l'==l)=false from by simpa using h1]
  ·
   repeat' with_reducible first|refine ar ?_|refine au ?_|refine ⟨?_,?_⟩|intro _|simp only [go_sem,seval,gb,fP,eG,eR,cq,bO,bH,gX,eg,hgl,hgv,h10,htk,b1,b2,hvc,hroom,hc,hNl,hNv,hlN',hvN',hvl,hlv]
   all_goals first
    |exact Ax _
    |omega
    |skip
   rw [<-hK];simp only [go_sem,seval];refine ⟨N,N+1,_,lv,[],_,rfl,.refl _,rfl,?_,by omega,.inr (Af _),fun l' _ h1=>?_⟩
   ·rw [List.lookup_cons,beq_self_eq_true];simp
   ·rw [List.lookup_cons,show (l'==N)=false from by simp;omega]
 ·have hi':i<n:=by omega
  have hie:((i:Int)==(n:Int))=false:=by simp;omega
  have hw:IntKind.i64.wrap ((n:Int)+1)=((n+1:Nat):Int):=by rw [aR (by omega) (by omega)];omega
  have hwi:IntKind.i64.wrap ((i:Int)+1)=((i+1:Nat):Int):=by rw [aR (by omega) (by omega)];omega
  have hlt:(((i+1:Nat):Int)<((n+1:Nat):Int))=True:=eq_true (by omega);have hm1:Nat.min (n+1-i) (n-i)=n-i:=by show min _ _=_;omega
  have hm2:(n-i=0)=False:=eq_false (by omega);have hm3:(n-i<=n+1-i)=True:=eq_true (by omega);have hm4:(0<n-i)=True:=eq_true (by omega);have hm5:(i*6+(n-i)*6<=cs.length)=True:=eq_true (by omega);have hm6:((i+1)*6<=cs.length)=True:=eq_true (by omega);have hm7:Nat.min 1 (n+1-i)=1:=by show min _ _=_;omega
  have hm8:((i:Int)<((n+1:Nat):Int))=True:=eq_true (by omega);have hm9:(0<n+1-i)=True:=eq_true (by omega);have hX1:aE (List.take ((i+1)*6) cs++List.take ((n-i)*6) (List.drop (i*6) cs)++List.drop ((i+1)*6+(List.take ((n-i)*6) (List.drop (i*6) cs)).length) cs)=false:=fR (xs:=vj i n cs) (by have:=uD hi' hc;omega);have hX2:(i*6<=(List.take ((i+1)*6) cs++List.take ((n-i)*6) (List.drop (i*6) cs)++List.drop ((i+1)*6+(List.take ((n-i)*6) (List.drop (i*6) cs)).length) cs).length)=True:=eq_true (by have:=uD hi' hc;exact AH (by omega) this)
  by_cases hroom:n+1<=c
  ·
   repeat' first
    |with_reducible first|refine ar ?_|refine au ?_|refine bt.fY (aeR (n:=n-i) (o:=(i+1)*6) (hgv N) b2 (hgl N) b1 hne (by omega) (by omega)) ?_|refine ⟨?_,?_⟩|intro _
    |simp only [go_sem,seval,gb,fP,eG,eR,cq,bO,bH,gX,eg,hgl,hgv,h10,htk,b1,b2,hvc,hroom,hc,hNl,hNv,hlN',hvN',hvl,hlv,ot,nB,nW,hie,hw,hwi,hlt,hm1,hm2,hm3,hm4,hm5,hm6,hm7,hm8,hm9,hX1,hX2,show decide (((c:Nat):Int)<((n+1:Nat):Int))=false from decide_eq_false (by omega)]
   all_goals first
    |exact Ax _
    |omega
    |(rw [<-hK];simp only [aM];done)
    |skip
   rw [<-hK];simp only [go_sem,seval];refine ⟨l,N,_,lv,List.drop ((i+1)*6+(List.take ((n-i)*6) (List.drop (i*6) cs)).length) cs,.b9 6 (n+1) l 0 c,rfl,jc _ _ _ _ _,rfl,?_,Af _,.inl rfl,fun l' h1 _=>?_⟩
   ·rw [List.lookup_cons,beq_self_eq_true];exact congrArg some (M9 hi' hc)
   ·simp only [List.lookup_cons,show (l'==l)=false from by simpa using h1]
  ·obtain rfl:c=n:=by omega
   obtain ⟨z,hz⟩:∃ z:List AV,z=[.int .i64 0,.int .i64 0,.int .i64 0,.int .u64 0,.sl 6 [] .exact,.sl 2 [] .exact]:=⟨_,rfl⟩;have hzl:z.length=6:=by rw [hz];rfl
   have hg1:=pT (z:=z) hzl hi' hc;have hg2:=vH (z:=z) (vc:=vc) hzl hvc hi' hc;have hg3:=Lg (z:=z) hzl hvc hi' hc;have hw2:IntKind.i64.wrap (((c+1:Nat):Int)-(i:Int))=((c+1-i:Nat):Int):=by rw [aR (by omega) (by omega)];omega
   have k1:(0<c+1-i)=True:=eq_true (by omega);have k2:(c<i+(c+1-i))=True:=eq_true (by omega);have k3:i+(c+1-i)=c+1:=by omega
   have k4:(i*6<=cs.length)=True:=eq_true (by omega);have k5:aE (List.take (i*6) cs++flat (List.replicate (c+1-i) (AV.agg [.int .i64 0,.int .i64 0,.int .i64 0,.int .u64 0,.sl 6 [] .exact,.sl 2 [] .exact])))=false:=by rw [<-hz];exact fR (xs:=xq i c z cs) (by omega)
   have k6:(i*6<=(List.take (i*6) cs++flat (List.replicate (c+1-i) (AV.agg [.int .i64 0,.int .i64 0,.int .i64 0,.int .u64 0,.sl 6 [] .exact,.sl 2 [] .exact]))).length)=True:=by rw [<-hz];exact eq_true (by have:i*6<=(xq i c z cs).length:=(by omega);exact this)
   have k10:aE (List.take (i*6) (List.take (i*6) cs++flat (List.replicate (c+1-i) (AV.agg [.int .i64 0,.int .i64 0,.int .i64 0,.int .u64 0,.sl 6 [] .exact,.sl 2 [] .exact])))++vc++List.drop (i*6+6) (List.take (i*6) cs++flat (List.replicate (c+1-i) (AV.agg [.int .i64 0,.int .i64 0,.int .i64 0,.int .u64 0,.sl 6 [] .exact,.sl 2 [] .exact]))))=false:=by rw [<-hz];exact fR (xs:=nG i c z cs vc) (by omega)
   have k11:((i+1)*6<=(List.take (i*6) (List.take (i*6) cs++flat (List.replicate (c+1-i) (AV.agg [.int .i64 0,.int .i64 0,.int .i64 0,.int .u64 0,.sl 6 [] .exact,.sl 2 [] .exact])))++vc++List.drop (i*6+6) (List.take (i*6) cs++flat (List.replicate (c+1-i) (AV.agg [.int .i64 0,.int .i64 0,.int .i64 0,.int .u64 0,.sl 6 [] .exact,.sl 2 [] .exact])))).length)=True:=by rw [<-hz];exact eq_true (by have:(i+1)*6<=(nG i c z cs vc).length:=(by omega);exact this)
   have k7:Nat.min (c-i) (c-i)=c-i:=by show min _ _=_;omega
   have k8:(c-i<=c-i)=True:=eq_true (Af _);have k9:((i:Int)<((c:Nat):Int))=True:=eq_true (by omega)
   repeat' first
    |with_reducible first|refine ar ?_|refine au ?_|refine ⟨?_,?_⟩|intro _
    |simp only [go_sem,seval,gb,fP,cS,cG,eG,eR,DV,wP,cq,bO,bH,gX,eg,hgl,hgv,h10,htk,b1,b2,hvc,hc,hNl,hNv,hlN',hvN',hvl,hlv,ot,nB,nW,hie,hw,hwi,hlt,hm1,hm2,hm3,hm4,hm5,hm6,hm7,hm8,hm9,hw2,k1,k2,k3,k4,k5,k6,k7,k8,k9,k10,k11,show (c<c+1)=True from eq_true (by omega),show decide (((c:Nat):Int)<((c+1:Nat):Int))=true from decide_eq_true (by omega)]
   all_goals first
    |exact Ax _
    |omega
    |(rw [<-hK];simp only [aM];done)
    |skip
   rw [<-hK];simp only [go_sem,seval];refine ⟨N,N+1,_,lv,[],.aN 6 (c+1) N 0,rfl,.refl _,rfl,?_,by omega,.inr (Af _),fun l' _ h1=>?_⟩
   ·rw [List.lookup_cons,beq_self_eq_true];rw [hz] at hg3;exact congrArg some hg3
   ·simp only [List.lookup_cons,show (l'==N)=false from by simp;omega]
def aeS {S:St} {nv n lv l o:Nat} {c1 c2:List AV} (h1:S.get lv=some c1) (b1:aE c1=false) (h2:S.get l=some c2) (b2:aE c2=false) (hne:lv≠l) (l1:0<c1.length) (l2:0<c2.length):
  ao pg 417 [.aN 6 nv lv 0,.aN 6 n l o] S fun o' S'=>o'= .ok (.bool false)/\S'=S:=
 QL (tS:=49) (tR:=5) Tryz.func417 (by kernel_rfl) (by kernel_rfl) (by kernel_rfl) (by kernel_rfl) Tryz.underlying49 (by kernel_rfl) h1 b1 h2 b2 hne l1 l2
def acT:=(by conv=>lhs;reduce:dC [Ua,Ub,Uc] [] 0x2328cacddd2fe70f0164c8cd2f3acd6c5665f43a347f1722d8cae28007c19e4f75b62e6f55368d15b6e45f7170d14fa5ee2d9d8c3be87e45dbe0efb21a2e8650440004ce49d660ee5002f822cd27e35a5390061a75908288123648701d2d12735440cb1c404abe35d94b6bf8a81d2aaa05c9007d59bfb8747d50d16e4ea5a0f61062c4b9afe57ba5eb53154951055338893c656c4fb6ff23f79ff4a01ec66aa17cdd3063292df788aee3677a186efaeaa7344ec49e0b958f2086dae913e78057d902b4f627eab9aebfc96771b049d51f74a019ded255e3f7e71a8025527dcc1472b208d5305ea969b7307e6db90f7b8cf5555887ccfa48ba3233e08a7bbffb55e9c1b21b2a0d449609ea5c4d77081dc4fb92655c41ed6341bf=_)
abbrev aky:=rP (acT (.sl 6 [] .exact) (.int .i64 0) (.str []))
def Qr:aD pg 416 95 aky [.t 6]:= .o2 Tryz.func416 (by kernel_rfl)
def V2 (n i l vl N nt:Nat) (cs vc:List AV) (ob:List (Nat×List AV)) (lv:List Nat) (hl:List.lookup l ob=some cs) (hv:List.lookup vl ob=some vc) (b1:aE cs=false) (b2:aE vc=false) (hc:n*6<=cs.length) (hvc:vc.length=6) (hne:vl≠l) (hlN:l<N) (hvN:vl<N) (hi:i<=n) (hn:n<=1000000000):
  ao pg 416 [.aN 6 n l 0,.int .i64 (i:Int),.aN 6 1 vl 0] ⟨N,ob,nt,lv,gl⟩ (Vw n i l N cs vc ob nt gl):=by
 have hNl:(N=l)=False:=eq_false (by omega);have hNv:(N=vl)=False:=eq_false (by omega);have hlN':(l=N)=False:=eq_false (by omega);have hvN':(vl=N)=False:=eq_false (by omega);have hvl:(vl=l)=False:=eq_false hne;have hlv:(l=vl)=False:=eq_false (AT hne);have hgl:∀ M,St.get ⟨M,ob,nt,lv,gl⟩ l=some cs:=fun _=>hl;have hgv:∀ M,St.get ⟨M,ob,nt,lv,gl⟩ vl=some vc:=fun _=>hv;have h10:(((1:Nat):Int)==0)=false:=rfl;have htk:List.take 6 vc=vc:=AR (by omega);refine .aC Qr (by simp) ?_;generalize hK:bI [RV.t 6] _=Q;show ah _ _ _ _ ([]++(0,.aN 6 n l 0)::[(1,.int .i64 (i:Int)),(2,.aN 6 1 vl 0)]) _ _;refine mM [] rfl fun c hcc=>?_;show ah _ _ _ _ [(0,.b9 6 n l 0 c),(1,.int .i64 (i:Int)),(2,.aN 6 1 vl 0)] _ _;refine ab 200 ?_
 by_cases hin:i=n
 ·subst hin
  by_cases hroom:i+1<=c
  ·
   repeat' with_reducible first|refine ar ?_|refine au ?_|refine ⟨?_,?_⟩|intro _|simp only [go_sem,seval,gb,fP,eG,eR,cq,bO,bH,gX,eg,hgl,hgv,h10,htk,b1,b2,hvc,hroom,hc,hNl,hNv,hlN',hvN',hvl,hlv]
   all_goals first
    |exact Ax _
    |omega
    |skip
   rw [<-hK];simp only [go_sem,seval];refine ⟨l,N,_,lv,cs.drop (i*6+6),_,rfl,jc _ _ _ _ _,rfl,?_,Af _,.inl rfl,fun l' h1 _=>?_⟩
   ·rw [List.lookup_cons,beq_self_eq_true];simp
   ·rw [List.lookup_cons,show (l'==l)=false from by simpa using h1]
  ·
   repeat' with_reducible first|refine ar ?_|refine au ?_|refine ⟨?_,?_⟩|intro _|simp only [go_sem,seval,gb,fP,eG,eR,cq,bO,bH,gX,eg,hgl,hgv,h10,htk,b1,b2,hvc,hroom,hc,hNl,hNv,hlN',hvN',hvl,hlv]
   all_goals first
    |exact Ax _
    |omega
    |skip
   rw [<-hK];simp only [go_sem,seval];refine ⟨N,N+1,_,lv,[],_,rfl,.refl _,rfl,?_,by omega,.inr (Af _),fun l' _ h1=>?_⟩
   ·rw [List.lookup_cons,beq_self_eq_true];simp
   ·rw [List.lookup_cons,show (l'==N)=false from by simp;omega]
 ·have hi':i<n:=by omega
  have hie:((i:Int)==(n:Int))=false:=by simp;omega
  have hw:IntKind.i64.wrap ((n:Int)+1)=((n+1:Nat):Int):=by rw [aR (by omega) (by omega)];omega
  have hwi:IntKind.i64.wrap ((i:Int)+1)=((i+1:Nat):Int):=by rw [aR (by omega) (by omega)];omega
  have hlt:(((i+1:Nat):Int)<((n+1:Nat):Int))=True:=eq_true (by omega);have hm1:Nat.min (n+1-i) (n-i)=n-i:=by show min _ _=_;omega
  have hm2:(n-i=0)=False:=eq_false (by omega);have hm3:(n-i<=n+1-i)=True:=eq_true (by omega);have hm4:(0<n-i)=True:=eq_true (by omega);have hm5:(i*6+(n-i)*6<=cs.length)=True:=eq_true (by omega);have hm6:((i+1)*6<=cs.length)=True:=eq_true (by omega);have hm7:Nat.min 1 (n+1-i)=1:=by show min _ _=_;omega
  have hm8:((i:Int)<((n+1:Nat):Int))=True:=eq_true (by omega);have hm9:(0<n+1-i)=True:=eq_true (by omega);have hX1:aE (List.take ((i+1)*6) cs++List.take ((n-i)*6) (List.drop (i*6) cs)++List.drop ((i+1)*6+(List.take ((n-i)*6) (List.drop (i*6) cs)).length) cs)=false:=fR (xs:=vj i n cs) (by have:=uD hi' hc;omega);have hX2:(i*6<=(List.take ((i+1)*6) cs++List.take ((n-i)*6) (List.drop (i*6) cs)++List.drop ((i+1)*6+(List.take ((n-i)*6) (List.drop (i*6) cs)).length) cs).length)=True:=eq_true (by have:=uD hi' hc;exact AH (by omega) this)
  by_cases hroom:n+1<=c
  ·
   repeat' first
    |with_reducible first|refine ar ?_|refine au ?_|refine bt.fY (aeS (n:=n-i) (o:=(i+1)*6) (hgv N) b2 (hgl N) b1 hne (by omega) (by omega)) ?_|refine ⟨?_,?_⟩|intro _
    |simp only [go_sem,seval,gb,fP,eG,eR,cq,bO,bH,gX,eg,hgl,hgv,h10,htk,b1,b2,hvc,hroom,hc,hNl,hNv,hlN',hvN',hvl,hlv,ot,nB,nW,hie,hw,hwi,hlt,hm1,hm2,hm3,hm4,hm5,hm6,hm7,hm8,hm9,hX1,hX2,show decide (((c:Nat):Int)<((n+1:Nat):Int))=false from decide_eq_false (by omega)]
   all_goals first
    |exact Ax _
    |omega
    |(rw [<-hK];simp only [aM];done)
    |skip
   rw [<-hK];simp only [go_sem,seval];refine ⟨l,N,_,lv,List.drop ((i+1)*6+(List.take ((n-i)*6) (List.drop (i*6) cs)).length) cs,.b9 6 (n+1) l 0 c,rfl,jc _ _ _ _ _,rfl,?_,Af _,.inl rfl,fun l' h1 _=>?_⟩
   ·rw [List.lookup_cons,beq_self_eq_true];exact congrArg some (M9 hi' hc)
   ·simp only [List.lookup_cons,show (l'==l)=false from by simpa using h1]
  ·obtain rfl:c=n:=by omega
   obtain ⟨z,hz⟩:∃ z:List AV,z=[.int .i64 0,.int .i64 0,.str [],.str [],.int .i64 0,.int .i64 0]:=⟨_,rfl⟩;have hzl:z.length=6:=by rw [hz];rfl
   have hg1:=pT (z:=z) hzl hi' hc;have hg2:=vH (z:=z) (vc:=vc) hzl hvc hi' hc;have hg3:=Lg (z:=z) hzl hvc hi' hc;have hw2:IntKind.i64.wrap (((c+1:Nat):Int)-(i:Int))=((c+1-i:Nat):Int):=by rw [aR (by omega) (by omega)];omega
   have k1:(0<c+1-i)=True:=eq_true (by omega);have k2:(c<i+(c+1-i))=True:=eq_true (by omega);have k3:i+(c+1-i)=c+1:=by omega
   have k4:(i*6<=cs.length)=True:=eq_true (by omega);have k5:aE (List.take (i*6) cs++flat (List.replicate (c+1-i) (AV.agg [.int .i64 0,.int .i64 0,.str [],.str [],.int .i64 0,.int .i64 0])))=false:=by rw [<-hz];exact fR (xs:=xq i c z cs) (by omega)
   have k6:(i*6<=(List.take (i*6) cs++flat (List.replicate (c+1-i) (AV.agg [.int .i64 0,.int .i64 0,.str [],.str [],.int .i64 0,.int .i64 0]))).length)=True:=by rw [<-hz];exact eq_true (by have:i*6<=(xq i c z cs).length:=(by omega);exact this)
   have k10:aE (List.take (i*6) (List.take (i*6) cs++flat (List.replicate (c+1-i) (AV.agg [.int .i64 0,.int .i64 0,.str [],.str [],.int .i64 0,.int .i64 0])))++vc++List.drop (i*6+6) (List.take (i*6) cs++flat (List.replicate (c+1-i) (AV.agg [.int .i64 0,.int .i64 0,.str [],.str [],.int .i64 0,.int .i64 0]))))=false:=by rw [<-hz];exact fR (xs:=nG i c z cs vc) (by omega)
   have k11:((i+1)*6<=(List.take (i*6) (List.take (i*6) cs++flat (List.replicate (c+1-i) (AV.agg [.int .i64 0,.int .i64 0,.str [],.str [],.int .i64 0,.int .i64 0])))++vc++List.drop (i*6+6) (List.take (i*6) cs++flat (List.replicate (c+1-i) (AV.agg [.int .i64 0,.int .i64 0,.str [],.str [],.int .i64 0,.int .i64 0])))).length)=True:=by rw [<-hz];exact eq_true (by have:(i+1)*6<=(nG i c z cs vc).length:=(by omega);exact this)
   have k7:Nat.min (c-i) (c-i)=c-i:=by show min _ _=_;omega
   have k8:(c-i<=c-i)=True:=eq_true (Af _);have k9:((i:Int)<((c:Nat):Int))=True:=eq_true (by omega)
   repeat' first
    |with_reducible first|refine ar ?_|refine au ?_|refine ⟨?_,?_⟩|intro _
    |simp only [go_sem,seval,gb,fP,cS,cG,eG,eR,DV,wP,cq,bO,bH,gX,eg,hgl,hgv,h10,htk,b1,b2,hvc,hc,hNl,hNv,hlN',hvN',hvl,hlv,ot,nB,nW,hie,hw,hwi,hlt,hm1,hm2,hm3,hm4,hm5,hm6,hm7,hm8,hm9,hw2,k1,k2,k3,k4,k5,k6,k7,k8,k9,k10,k11,show (c<c+1)=True from eq_true (by omega),show decide (((c:Nat):Int)<((c+1:Nat):Int))=true from decide_eq_true (by omega)]
   all_goals first
    |exact Ax _
    |omega
    |(rw [<-hK];simp only [aM];done)
    |skip
   rw [<-hK];simp only [go_sem,seval];refine ⟨N,N+1,_,lv,[],.aN 6 (c+1) N 0,rfl,.refl _,rfl,?_,by omega,.inr (Af _),fun l' _ h1=>?_⟩
   ·rw [List.lookup_cons,beq_self_eq_true];rw [hz] at hg3;exact congrArg some hg3
   ·simp only [List.lookup_cons,show (l'==N)=false from by simp;omega]
def del (i n:Nat) (cs:List AV):List AV:=List.take (i*6) cs++List.take ((n-(i+1))*6) (List.drop ((i+1)*6) cs)++List.drop (i*6+(List.take ((n-(i+1))*6) (List.drop ((i+1)*6) cs)).length) cs
def GR {i n:Nat} {cs:List AV} (hi:i+1<n) (hc:n*6<=cs.length):(del i n cs).length=cs.length:=by
 unfold del;simp only [Ak,Av,AK];omega
def del_eq {i n:Nat} {cs:List AV} (hi:i+1<n) (hc:n*6<=cs.length):List.take ((n-1)*6) (del i n cs)=cs.take (i*6)++(cs.take (n*6)).drop ((i+1)*6):=by
 have h3:(cs.take (n*6)).drop ((i+1)*6)=List.take ((n-(i+1))*6) (List.drop ((i+1)*6) cs):=by
  rw [BW]
  congr 1
  omega
 rw [h3];unfold del;rw [Bp (by simp only [Ak,Av,AK];omega),AR (by simp only [Ak,Av,AK];omega)]
def Vu (n i l N:Nat) (cs:List AV) (ob:List (Nat×List AV)) (nt:Nat) (gl:List (Nat×List AV)) (o:Out) (S':St):Prop:=∃ ob' lv' cs' r,o= .ok r/\r.Le (.aN 6 (n-1) l 0)/\S'=⟨N,ob',nt,lv',gl⟩/\List.lookup l ob'=some cs'/\n*6<=cs'.length/\cs'.take ((n-1)*6)=cs.take (i*6)++(cs.take (n*6)).drop ((i+1)*6)/\∀ l',l'≠l->List.lookup l' ob'=List.lookup l' ob
def aI {l:Nat} {c:List AV} {ob:List (Nat×List AV)}:List.lookup l ((l,c)::ob)=some c:=by rw [List.lookup_cons,beq_self_eq_true]
def aw {l l':Nat} {c:List AV} {ob:List (Nat×List AV)} (h:l'≠l):List.lookup l' ((l,c)::ob)=List.lookup l' ob:=by rw [List.lookup_cons,show (l'==l)=false from by simpa using h]
def rJ {n:Nat} {cs z r:List AV} (h:n<=cs.length):List.take n (List.take n cs++z++r)=List.take n cs:=by rw [AL,Bp (by rw [Av];omega),BO,Nat.min_self]
def abW:=(by conv=>lhs;reduce:dC [Ua,Ub,Uc,Ud] [] 0x9d989e7b3e2dd59d9651ddca32bcf78def182dcf7cb8e2f7f29014378805f4782cb58563fdd1fc2fe1cf37d80eae63d2616471d47fa073da6095af1c36d024921a0c14d8d6b98b515758f838aa8f6f02ba9b06239b7bc03449=_)
abbrev ajR:=rP (abW (.sl 6 [] .exact) (.int .i64 0) (.int .u64 0) (.sl 2 [] .exact))
def adh:aD pg 141 33 ajR [.t 6]:= .o2 Tryz.func141 (by kernel_rfl)
def af2 (n i l N nt:Nat) (cs:List AV) (ob:List (Nat×List AV)) (lv:List Nat) (hl:List.lookup l ob=some cs) (b1:aE cs=false) (hc:n*6<=cs.length) (hi:i<n) (hn:n<=1000000000):
  ao pg 141 [.aN 6 n l 0,.int .i64 (i:Int),.int .i64 ((i+1:Nat):Int)] ⟨N,ob,nt,lv,gl⟩ (Vu n i l N cs ob nt gl):=by
 have hgl:∀ M,St.get ⟨M,ob,nt,lv,gl⟩ l=some cs:=fun _=>hl;have h2:((i:Int)==((i+1:Nat):Int))=false:=by simp;omega
 refine .aC adh (by simp) ?_;generalize hK:bI [RV.t 6] _=Q;show ah _ _ _ _ ([]++(0,.aN 6 n l 0)::[(1,.int .i64 (i:Int)),(2,.int .i64 ((i+1:Nat):Int))]) _ _;refine mM [] rfl fun c hcc=>?_;show ah _ _ _ _ [(0,.b9 6 n l 0 c),(1,.int .i64 (i:Int)),(2,.int .i64 ((i+1:Nat):Int))] _ _;refine ab 200 ?_
 by_cases hla:i+1<n
 ·have e1:(((i+1:Nat):Int)<(n:Int))=True:=eq_true (by omega);have e2:(0<n-(i+1))=True:=eq_true (by omega);have e3:((i+1)*6+(n-(i+1))*6<=cs.length)=True:=eq_true (by omega);have e4:(i*6<=cs.length)=True:=eq_true (by omega);have e5:i+(n-(i+1))=n-1:=by omega
  have e6:(n-1<=c)=True:=eq_true (by omega);have e7:(((n-1:Nat):Int)<(n:Int))=True:=eq_true (by omega);have e8:(n-(i+1)=0)=False:=eq_false (by omega);have hdl:=GR (n:=n) (cs:=cs) hla hc;have e9:aE (List.take (i*6) cs++List.take ((n-(i+1))*6) (List.drop ((i+1)*6) cs)++List.drop (i*6+(List.take ((n-(i+1))*6) (List.drop ((i+1)*6) cs)).length) cs)=false:=fR (xs:=del i n cs) (by omega);have e10:n-(n-1)=1:=by omega
  have e11:((n-1)*6+6<=(List.take (i*6) cs++List.take ((n-(i+1))*6) (List.drop ((i+1)*6) cs)++List.drop (i*6+(List.take ((n-(i+1))*6) (List.drop ((i+1)*6) cs)).length) cs).length)=True:=eq_true (by have:(n-1)*6+6<=(del i n cs).length:=(by omega);exact this)
  repeat' with_reducible first|refine ar ?_|refine au ?_|refine ⟨?_,?_⟩|intro _|simp only [go_sem,seval,gb,fP,eG,eR,cq,bO,bH,gX,eg,hgl,b1,hc,h2,e1,e2,e3,e4,e5,e6,e7,e8,e9,e10,e11,oq]
  all_goals first
   |exact Ax _
   |omega
   |(rw [<-hK];simp only [aM];done)
   |skip
  rw [<-hK];simp only [go_sem,seval];refine ⟨_,lv,_,.b9 6 (n-1) l 0 c,rfl,jc _ _ _ _ _,rfl,aI,?_,?_,fun l' h1=>by rw [aw h1,aw h1]⟩
  ·show n*6<=(List.take ((n-1)*6) (del i n cs)++[_,_,_,_,_,_]++List.drop ((n-1)*6+6) (del i n cs)).length;simp only [Ak,Av,AK,hdl,List.length_cons,List.length_nil];omega
  ·exact (rJ (by show (n-1)*6<=(del i n cs).length;omega)).trans (del_eq hla hc)
 ·obtain rfl:n=i+1:=by omega
  have e1:(((i+1:Nat):Int)<((i+1:Nat):Int))=False:=eq_false (by omega);have e4:(i*6<=cs.length)=True:=eq_true (by omega);have e7:((i:Int)<((i+1:Nat):Int))=True:=eq_true (by omega);have e10:i+1-i=1:=by omega
  have e11:(i*6+6<=cs.length)=True:=eq_true (by omega)
  repeat' with_reducible first|refine ar ?_|refine au ?_|refine ⟨?_,?_⟩|intro _|simp only [go_sem,seval,gb,fP,eG,eR,cq,bO,bH,gX,eg,hgl,b1,hc,h2,e1,e4,e7,e10,e11,oq]
  all_goals first
   |exact Ax _
   |omega
   |(rw [<-hK];simp only [aM];done)
   |skip
  rw [<-hK];simp only [go_sem,seval];refine ⟨_,lv,_,.b9 6 i l 0 c,rfl,jc _ _ _ _ _,rfl,aI,?_,?_,fun l' h1=>by rw [aw h1]⟩
  ·show (i+1)*6<=(List.take (i*6) cs++[_,_,_,_,_,_]++List.drop (i*6+6) cs).length;simp only [Ak,Av,AK,List.length_cons,List.length_nil];omega
  ·refine (rJ (by omega)).trans ?_;rw [AE (by rw [Av];omega),AB];rfl
def acQ:=(by conv=>lhs;reduce:dC [Ua,Ub,Uc] [] 0x9d989e7b3e2d5e12d5618dd29601493006cbb3f03aa24fcabe5c5f52e2db5afd44de6de431e7e650f43e4822d23980d000554cd3bda073da6095af1c36d024921a0c14d8d6b98b515758f838aa8f6f02ba9b06239b7bc03449=_)
abbrev akv:=rP (acQ (.sl 6 [] .exact) (.int .i64 0) (.str []))
def aea:aD pg 413 33 akv [.t 6]:= .o2 Tryz.func413 (by kernel_rfl)
def agE (n i l N nt:Nat) (cs:List AV) (ob:List (Nat×List AV)) (lv:List Nat) (hl:List.lookup l ob=some cs) (b1:aE cs=false) (hc:n*6<=cs.length) (hi:i<n) (hn:n<=1000000000):
  ao pg 413 [.aN 6 n l 0,.int .i64 (i:Int),.int .i64 ((i+1:Nat):Int)] ⟨N,ob,nt,lv,gl⟩ (Vu n i l N cs ob nt gl):=by
 have hgl:∀ M,St.get ⟨M,ob,nt,lv,gl⟩ l=some cs:=fun _=>hl;have h2:((i:Int)==((i+1:Nat):Int))=false:=by simp;omega
 refine .aC aea (by simp) ?_;generalize hK:bI [RV.t 6] _=Q;show ah _ _ _ _ ([]++(0,.aN 6 n l 0)::[(1,.int .i64 (i:Int)),(2,.int .i64 ((i+1:Nat):Int))]) _ _;refine mM [] rfl fun c hcc=>?_;show ah _ _ _ _ [(0,.b9 6 n l 0 c),(1,.int .i64 (i:Int)),(2,.int .i64 ((i+1:Nat):Int))] _ _;refine ab 200 ?_
 by_cases hla:i+1<n
 ·have e1:(((i+1:Nat):Int)<(n:Int))=True:=eq_true (by omega);have e2:(0<n-(i+1))=True:=eq_true (by omega);have e3:((i+1)*6+(n-(i+1))*6<=cs.length)=True:=eq_true (by omega);have e4:(i*6<=cs.length)=True:=eq_true (by omega);have e5:i+(n-(i+1))=n-1:=by omega
  have e6:(n-1<=c)=True:=eq_true (by omega);have e7:(((n-1:Nat):Int)<(n:Int))=True:=eq_true (by omega);have e8:(n-(i+1)=0)=False:=eq_false (by omega);have hdl:=GR (n:=n) (cs:=cs) hla hc;have e9:aE (List.take (i*6) cs++List.take ((n-(i+1))*6) (List.drop ((i+1)*6) cs)++List.drop (i*6+(List.take ((n-(i+1))*6) (List.drop ((i+1)*6) cs)).length) cs)=false:=fR (xs:=del i n cs) (by omega);have e10:n-(n-1)=1:=by omega
  have e11:((n-1)*6+6<=(List.take (i*6) cs++List.take ((n-(i+1))*6) (List.drop ((i+1)*6) cs)++List.drop (i*6+(List.take ((n-(i+1))*6) (List.drop ((i+1)*6) cs)).length) cs).length)=True:=eq_true (by have:(n-1)*6+6<=(del i n cs).length:=(by omega);exact this)
  repeat' with_reducible first|refine ar ?_|refine au ?_|refine ⟨?_,?_⟩|intro _|simp only [go_sem,seval,gb,fP,eG,eR,cq,bO,bH,gX,eg,hgl,b1,hc,h2,e1,e2,e3,e4,e5,e6,e7,e8,e9,e10,e11,oq]
  all_goals first
   |exact Ax _
   |omega
   |(rw [<-hK];simp only [aM];done)
   |skip
  rw [<-hK];simp only [go_sem,seval];refine ⟨_,lv,_,.b9 6 (n-1) l 0 c,rfl,jc _ _ _ _ _,rfl,aI,?_,?_,fun l' h1=>by rw [aw h1,aw h1]⟩
  ·show n*6<=(List.take ((n-1)*6) (del i n cs)++[_,_,_,_,_,_]++List.drop ((n-1)*6+6) (del i n cs)).length;simp only [Ak,Av,AK,hdl,List.length_cons,List.length_nil];omega
  ·exact (rJ (by show (n-1)*6<=(del i n cs).length;omega)).trans (del_eq hla hc)
 ·obtain rfl:n=i+1:=by omega
  have e1:(((i+1:Nat):Int)<((i+1:Nat):Int))=False:=eq_false (by omega);have e4:(i*6<=cs.length)=True:=eq_true (by omega);have e7:((i:Int)<((i+1:Nat):Int))=True:=eq_true (by omega);have e10:i+1-i=1:=by omega
  have e11:(i*6+6<=cs.length)=True:=eq_true (by omega)
  repeat' with_reducible first|refine ar ?_|refine au ?_|refine ⟨?_,?_⟩|intro _|simp only [go_sem,seval,gb,fP,eG,eR,cq,bO,bH,gX,eg,hgl,b1,hc,h2,e1,e4,e7,e10,e11,oq]
  all_goals first
   |exact Ax _
   |omega
   |(rw [<-hK];simp only [aM];done)
   |skip
  rw [<-hK];simp only [go_sem,seval];refine ⟨_,lv,_,.b9 6 i l 0 c,rfl,jc _ _ _ _ _,rfl,aI,?_,?_,fun l' h1=>by rw [aw h1]⟩
  ·show (i+1)*6<=(List.take (i*6) cs++[_,_,_,_,_,_]++List.drop (i*6+6) cs).length;simp only [Ak,Av,AK,List.length_cons,List.length_nil];omega
  ·refine (rJ (by omega)).trans ?_;rw [AE (by rw [Av];omega),AB];rfl
end
def bP (a b:Int):Int:=if a<b then-1 else if b<a then 1 else 0
def tQ {a b:Int}:bP a b<0↔a<b:=by
 unfold bP;split
 ·simp_all
 ·split<;>simp_all
def Rf {a b:Int}:(bP a b==0)=(a==b):=by
 unfold bP;rw [B5,beq_iff_eq,beq_iff_eq];split
 ·omega
 ·split<;>omega
def ag6:=(by conv=>lhs;reduce:dC [Ua] [] 0x33b0c8e740ae44fc2682346=_)
abbrev m64:=rP (ag6 (.bool false))
def XC:aD pg 64 6 m64 [.t 2]:= .o2 Tryz.func64 (by kernel_rfl)
def agX:=(by conv=>lhs;reduce:dC [Ua,Ub,Uc] [] 0x6082aba87332b69b364fd6c965ebb798864ac7c19591322906b356016c28d2910ae167db48902a334412c9ec51cf3341cd91d5b58d7d9c72c791d82786dace189966e12d247c9f78b4a22855abb42c=_)
abbrev m31:=rP (agX (.int .i64 0) (.int .i64 (-1)) (.int .i64 1))
def Xu:aD pg 31 20 m31 [.t 4]:= .o2 Tryz.func31 (by kernel_rfl)
def abV:=(by conv=>lhs;reduce:dC [Ua] [] 0xae032c1f6dd8d4150c11138e7b8d41311137419=_)
abbrev Yu:=rP (abV (.int .i64 0))
def P6:aD pg 140 9 Yu [.t 4]:= .o2 Tryz.func140 (by kernel_rfl)
def R3:=(by conv=>lhs;reduce:dC [Ua,Ub,Uc] [] 0x122fb9196b985dd915c0a2ac8a2e20f33237cbf7fbc53c045ef85c6debefeda35624af50fbfcbd33e5264c45bfbea07e42fc1fd3eee6149c9f5bfd04b=_)
def qa:=rO (R3 (.int .u64 1) (.int .i64 0) (.int .i64 1))
def R2:=(by conv=>lhs;reduce:dC [Ua,Ub] [] 0x1f737cf9e9c578ae4c28d9af3a20398e03b3385646763a80483745945b8173c0443a49368e5ac4f469=_)
abbrev Yt:=rP (R2 (.int .i64 0) (.bool false))
def abU:=(by conv=>lhs;reduce:dC [Ua,Ub] [Ya,Yb] 0x65b1076442c30c2fb3380166574d54853d6f112d615e5c4dc6341f=_)
abbrev Ys:=rP (abU (.int .i64 0) (.bool false) qa Yt)
def IZ:aD pg 139 49 Ys [.t 6,.t 7]:= .o2 Tryz.func139 (by kernel_rfl)
def V4 (hg:ae gl) (a:Int):Pure pg gl 64 [.int .i64 a] (.ok (.bool false)):=by
 refine ⟨?_,by simp only [bz,cz,forall_eq_or_imp,forall_eq,implies_true],by simp only [cz,forall_eq_or_imp,forall_eq,implies_true]⟩;simp only [bz];refine .aC XC (by simp) (ab 200 ?_)
 repeat' with_reducible first|refine ar ?_|refine au ?_|refine ⟨?_,?_⟩|intro _|simp only [go_sem,seval]
def Ky (hg:ae gl) (a b:Int):Pure pg gl 31 [.int .i64 a,.int .i64 b] (.ok (.int .i64 (bP a b))):=by
 have key:∀ x,bP a b=x->Pure pg gl 31 [.int .i64 a,.int .i64 b] (.ok (.int .i64 x)):=by
  intro x hx;unfold bP at hx;refine ⟨?_,by simp only [bz,cz,forall_eq_or_imp,forall_eq,implies_true],by simp only [cz,forall_eq_or_imp,forall_eq,implies_true]⟩;simp only [bz];refine .aC Xu (by simp) (ab 200 ?_);rcases hab:decide (a<b) with _|_
  ·rcases hba:decide (b<a) with _|_
   ·
    repeat' with_reducible first|refine ar ?_|refine au ?_|refine .pu (V4 hg _) hg rfl ?_|refine ⟨?_,?_⟩|intro _|simp only [go_sem,seval,hab,hba]
    rw [<-hx,if_neg (of_decide_eq_false hab),if_neg (of_decide_eq_false hba)]
   ·
    repeat' with_reducible first|refine ar ?_|refine au ?_|refine .pu (V4 hg _) hg rfl ?_|refine ⟨?_,?_⟩|intro _|simp only [go_sem,seval,hab,hba]
    rw [<-hx,if_neg (of_decide_eq_false hab),if_pos (of_decide_eq_true hba)]
  ·
   repeat' with_reducible first|refine ar ?_|refine au ?_|refine .pu (V4 hg _) hg rfl ?_|refine ⟨?_,?_⟩|intro _|simp only [go_sem,seval,hab]
   rw [<-hx,if_pos (of_decide_eq_true hab)]
 exact key _ rfl
def bw {P:Program} {f:FuncId} {bs:List AV} {r:AV} (ha:∀ a∈bs,Nm a) (hr:al r) (h:ao P f bs (.none gl) fun o' _=>mE o' r):Pure P gl f bs (.ok r):=wa (by rw [Nm.map ha];exact h) (by rw [Nm.map ha];exact fun a h=>(ha a h).1) hr
def iQ (c:Cl):aE (.int .i64 c.1::c.2)=false:=by
 rcases c with ⟨e,_|⟨x,r⟩⟩
 ·rfl
 ·exact fS _ _ _
def VJ (hg:ae gl) (c:Cl) (hc:∀ v∈c.2,Nm v) (e:Int):Pure pg gl 140 [.agg (.int .i64 c.1::c.2),.int .i64 e] (.ok (.int .i64 (bP c.1 e))):=by
 refine bw (Nm.cons (.agg (Nm.cons (.int _ _) hc)) (Nm.cons (.int _ _) Nm.nil)) (.int _ _) (.aC P6 (by simp) (ab 60 ?_));have hb:=iQ c
 repeat' first
  |with_reducible first|refine ar ?_|refine au ?_|refine .pu (Ky hg _ _) hg rfl ?_|refine ⟨?_,?_⟩|intro _
  |simp only [go_sem,seval,hb,List.getElem?_cons_zero]
 exact rfl
def af1 (hg:ae gl) (l N nt:Nat) (e:Int) (cs:List AV) (C:List Cl) (ob:List (Nat×List AV)) (lv:List Nat) (hl:List.lookup l ob=some cs) (h:Row cs (dh C)) (hs:fW C) (hn:C.length<=1000000000):
  ao pg 139 [.aN 6 C.length l 0,.int .i64 e,.fn (.func 140) [] []] ⟨N,ob,nt,lv,gl⟩ fun o S'=>o= .ok (.aF [.int .i64 (eF e C:Nat),.bool (o6 e C)])/\S'=⟨N,ob,nt,lv,gl⟩:=by
 have hgl:∀ M,St.get ⟨M,ob,nt,lv,gl⟩ l=some cs:=fun _=>hl;refine .aC IZ (by simp) (ab 200 ?_)
 repeat' with_reducible first|refine ar ?_|refine au ?_|refine ⟨?_,?_⟩|intro _|simp only [go_sem,seval]
 refine .ga (fun m F S=>∃ i j:Nat,F=[(0,.aN 6 C.length l 0),(1,.int .i64 e),(2,.fn (.func 140) [] []),(8,.int .i64 (C.length:Int)),(9,.int .i64 (i:Int)),(10,.int .i64 (j:Int))]/\S=⟨N,ob,nt,lv,gl⟩/\i<=eF e C/\eF e C<=j/\j<=C.length/\m=j-i) C.length ⟨0,C.length,rfl,rfl,Au _,zp e C,Af _,rfl⟩ ?_;rintro m F S ⟨i,j,rfl,rfl,h1,h2,h3,rfl⟩ ih
 by_cases hij:i<j
 ·have hw:IntKind.i64.wrap ((i:Int)+(j:Int))=((i+j:Nat):Int):=by rw [aR (by omega) (by omega)];omega
  have hmid:IntKind.i64.wrap (mh .u64 (IntKind.u64.wrap ((i+j:Nat):Int)) 1)=(((i+j)/2:Nat):Int):=by rw [vm (by omega) (by omega),EJ _ _ _ (by decide),show (i+j)/2^Int.toNat 1=(i+j)/2 from rfl,aR (by omega) (by omega)]
  obtain ⟨c,hc⟩:∃ c,C[(i+j)/2]? =some c:=aK (by omega);obtain ⟨e1,e2⟩:=h.at (gF hc);have hb:=h.bu (by rw [gg];omega);have hp:=uw (e:=e) hs hc;have hcn:=(h.r6.cl (Aj hc)).2;refine bp qa.eq_1 ?_
  repeat' with_reducible first|refine ar ?_|refine au ?_|refine .pu (VJ hg c hcn e) hg rfl ?_|refine ⟨?_,?_⟩|intro _|simp only [go_sem,seval,fk hij,hw,hmid,hgl,hb,e1,e2]
  ·omega
  ·rename_i h4;have h4:=hp.1 (tQ.1 (of_decide_eq_true h4));exact ih (j-((i+j)/2+1)) _ _ (by omega) ⟨(i+j)/2+1,j,by rw [aR (by omega) (by omega)];rfl,rfl,by omega,h2,h3,rfl⟩
  ·rename_i h4;have h4: ¬(i+j)/2<eF e C:=fun h5=>of_decide_eq_false h4 (tQ.2 (hp.2 h5));exact ih ((i+j)/2-i) _ _ (by omega) ⟨i,(i+j)/2,rfl,rfl,h1,by omega,by omega,rfl⟩
 ·obtain rfl:i=j:=by omega
  obtain rfl:i=eF e C:=by omega
  rcases hlt:decide (((eF e C:Nat):Int)<(C.length:Int)) with _|_
  ·refine bp qa.eq_1 ?_
   repeat' first
    |with_reducible first|refine ar ?_|refine au ?_|refine ⟨?_,?_⟩|intro _
    |simp only [go_sem,seval,fE (Am hij),hlt]
   unfold o6;rw [As (by have:=of_decide_eq_false hlt;omega)]
  ·obtain ⟨c,hc⟩:∃ c,C[eF e C]? =some c:=aK (by have:=of_decide_eq_true hlt;omega);obtain ⟨e1,e2⟩:=h.at (gF hc);have hb:=h.bu (by have:=of_decide_eq_true hlt;rw [gg];omega);have hcn:=(h.r6.cl (Aj hc)).2;refine bp qa.eq_1 ?_
   repeat' first
    |with_reducible first|refine ar ?_|refine au ?_|refine .pu (VJ hg c hcn e) hg rfl ?_|refine ⟨?_,?_⟩|intro _
    |simp only [go_sem,seval,fE (Am hij),hlt,hgl,hb,e1,e2]
   ·exact of_decide_eq_true hlt
   ·unfold o6;rw [hc];exact Rf
section
open Go.Lib Go.RowKit
inductive cN
 |bl
 |add
 |ja
 |gr (b:Bool)
def cN.av:cN->AV
 | .bl=> .cI 189 (.agg [])
 | .add=> .cI 191 (.agg [])
 | .ja=> .cI 192 (.agg [])
 | .gr b=> .cI 194 (.agg [.bool b])
def iN (op:List UInt8):Option cN:=
 if op==[99,111,117,110,116] then some .bl
 else if op==[115,117,109]||(op==[109,101,97,110]||op==[100,101,99,97,121]) then some .add
 else if op==[113,117,97,110,116,105,108,101] then some .ja
 else if op==[109,105,110]||(op==[109,97,120]||op==[100,105,115,116,105,110,99,116]) then some (.gr false)
 else if op==[102,105,114,115,116]||op==[108,97,115,116] then some (.gr true)
 else none
def sw (op:List UInt8):AV:=match iN op with
 |some f=> .aF [f.av,.bool true]
 |none=> .aF [.cY,.bool false]
def WT:=(by conv=>lhs;reduce:dC [Ua,Ub] [] 0x63b05f804fcb737d16607b606e786263e=_)
abbrev aeA:=rP (WT (.bool false) (.bool true))
def WU:=(by conv=>lhs;reduce:dC [Ua,Ub,Uc,Ud] [Ya] 0x248c0fe41f25d328991b86e46d20494d3c7e202c6ca305279bd7abd8663c=_)
abbrev aeB:=rP (WU (.bool false) (.bool true) (.str [102,105,114,115,116]) (.str [108,97,115,116]) aeA)
def WV:=(by conv=>lhs;reduce:dC [Ua,Ub,Uc,Ud,Ue] [Ya] 0x147d621aa16d506e720938133e53a8ffcc96b3e86b6f22f4174012a519d97f80ceae33291ca8b218c2601655abac7938b9cfb56a62f=_)
abbrev aeC:=rP (WV (.bool true) (.str [113,117,97,110,116,105,108,101]) (.str [109,105,110]) (.str [109,97,120]) (.str [100,105,115,116,105,110,99,116]) aeB)
def WW:=(by conv=>lhs;reduce:dC [Ua,Ub] [] 0x9d029ae58344=_)
abbrev aeD:=rP (WW .cY (.bool false))
def ag7:=(by conv=>lhs;reduce:dC [Ua,Ub,Uc,Ud,Ue,Uf,Ug] [Ya,Yb] 0x2e54f48c64021d4790804329a6bbe2dcfc14939e3f0a3fab2681674f5e9754503063f4f03cd1b1b4777609d6ec077695341d=_)
abbrev m65:=rP (ag7 .cY (.bool false) (.str [99,111,117,110,116]) (.bool true) (.str [115,117,109]) (.str [109,101,97,110]) (.str [100,101,99,97,121]) aeC aeD)
def XD:aD pg 65 30 m65 [.t 2,.t 3]:= .o2 Tryz.func65 (by kernel_rfl)
def abT:=(by conv=>lhs;reduce:dC [Ua] [] 0x64c97fbb214924aa25a1891b77e41b0e1280c79c13419=_)
abbrev Yr:=rP (abT (.bool false))
def IY:aD pg 138 9 Yr [.t 2]:= .o2 Tryz.func138 (by kernel_rfl)
def cN.nm (f:cN):Nm f.av:=by
 cases f with
 |gr b=>exact .cI (.agg (Nm.cons (.bool b) Nm.nil))
 |_=>exact .cI (.agg Nm.nil)
def Rp (op:List UInt8):∀ v∈(match iN op with|some f=>[f.av,.bool true]|none=>[.cY,.bool false]),al v:=by
 split
 ·exact fun v hv=>(Nm.cons (cN.nm _) (Nm.cons (.bool true) Nm.nil) v hv).1
 ·exact fun v hv=>(Nm.cons (.one .cY rfl rfl) (Nm.cons (.bool false) Nm.nil) v hv).1
def V5 (op:List UInt8):Pure pg gl 65 [.str op] (.ok (sw op)):=by
 have hn:al (sw op):=by
  have:=Rp op;unfold sw;split<;>rename_i h<;>rw [h] at this<;>exact .aF this
 refine bw (Nm.cons (.str _) Nm.nil) hn ?_;obtain ⟨r,hr⟩:∃ r,r=sw op:=⟨_,rfl⟩;rw [<-hr];unfold sw iN at hr;refine .aC XD (by simp) (ab 60 ?_)
 repeat' with_reducible first|refine ar ?_|refine au ?_|refine ⟨?_,?_⟩|intro _|simp only [go_sem,seval]
 all_goals (rw [hr];simp only [*,if_true,Ah,if_false];rfl)
def VH (hg:ae gl) (op:List UInt8):Pure pg gl 138 [.str op] (.ok (.bool (iN op).isSome)):=by
 have h:=V5 (gl:=gl) op;unfold sw at h
 cases hf:iN op with
 |none=>
  rw [hf] at h;refine ⟨?_,by simp only [bz,cz,forall_eq_or_imp,forall_eq,implies_true],by simp only [cz,forall_eq_or_imp,forall_eq,implies_true]⟩;simp only [bz];refine .aC IY (by simp) (ab 200 ?_)
  repeat' with_reducible first|refine ar ?_|refine au ?_|refine .pu (h) hg rfl ?_|refine ⟨?_,?_⟩|intro _|simp only [go_sem,seval]
 |some f=>
  rw [hf] at h;refine ⟨?_,by simp only [bz,cz,forall_eq_or_imp,forall_eq,implies_true],by simp only [cz,forall_eq_or_imp,forall_eq,implies_true]⟩;simp only [bz];refine .aC IY (by simp) (ab 200 ?_)
  repeat' with_reducible first|refine ar ?_|refine au ?_|refine .pu (h) hg rfl ?_|refine ⟨?_,?_⟩|intro _|simp only [go_sem,seval]
structure It where
 v:bX
 src:Bytes
 seq:Int
 n:Int
 deriving DecidableEq
def It.l (x:It):List AV:=[.int .i64 x.v.kd,.int .i64 x.v.n,.str x.v.s,.str x.src,.int .i64 x.seq,.int .i64 x.n]
def It.av (x:It):AV:= .agg x.l
def It.nm (x:It):Nm x.av:= .agg (Nm.cons (.int _ _) (Nm.cons (.int _ _) (Nm.cons (.str _) (Nm.cons (.str _) (Nm.cons (.int _ _) (Nm.cons (.int _ _) Nm.nil))))))
def pZ (xs:List It):∀ v∈xs.map It.av,Nm v:=fun v hv=>by
 obtain ⟨y,_,rfl⟩:=Ai.1 hv;exact y.nm
def iL (b:Int×Int):AV:= .agg [.int .i64 b.1,.int .i64 b.2]
def D0 (l:List (Int×Int)):∀ v∈l.map iL,Nm v:=fun v hv=>by
 obtain ⟨y,_,rfl⟩:=Ai.1 hv;exact .agg (Nm.cons (.int _ _) (Nm.cons (.int _ _) Nm.nil))
structure aP where
 n:Int
 hi:Int
 lo:Int
 cJ:List It
 fQ:List (Int×Int)
def aP.l (s:aP):List AV:=[.int .i64 s.n,.int .i64 s.hi,.int .u64 s.lo,.sl 6 (s.cJ.map It.av) .ai,.sl 2 (s.fQ.map iL) .ai]
def NG (x y c:Int) (hx:0<=x) (hy:0<=y) (h0:0<=c) (h1:c<=1):Pure pg gl 306 [.int .u64 x,.int .u64 y,.int .u64 c] (.ok (.aF [.int .u64 ((x+y+c)%18446744073709551616),.int .u64 ((x+y+c)/18446744073709551616)])):=by
 refine ⟨?_,by simp only [bz,cz,forall_eq_or_imp,forall_eq,implies_true],by simp only [cz,forall_eq_or_imp,forall_eq,implies_true]⟩;simp only [bz];intro wb G w vs hS hv;obtain ⟨v1,vs1,rfl,e1,hv⟩:=hv.cons_inv;obtain ⟨v2,vs2,rfl,e2,hv⟩:=hv.cons_inv;obtain ⟨v3,vs3,rfl,e3,hv⟩:=hv.cons_inv;obtain rfl:=hv.iz;obtain rfl:=e1.gI;obtain rfl:=e2.gI;obtain rfl:=e3.gI;unfold km;rw [show ([Value.int .u64 x,.int .u64 y,.int .u64 c].toArray)= #[.int .u64 x,.int .u64 y,.int .u64 c] from rfl,run_callFunc_extern Tryz.func306 (by kernel_rfl) (by kernel_rfl) (by kernel_rfl) (e:=add64Entry) (by kernel_rfl),run_add64 x y c hx hy h0 h1];exact ⟨G,_,Gh.le_refl G,hS,_,.zD (.int _ _) (.int _ _),rfl⟩
def p8 (a b:Int):Int:=(a+b+0)%18446744073709551616
def Lh (a b x y:Int):Int:=IntKind.i64.wrap ((IntKind.u64.wrap x+IntKind.u64.wrap y+(a+b+0)/18446744073709551616)%18446744073709551616)
def acb:=(by conv=>lhs;reduce:dC [Ua,Ub] [] 0x57bf3fd33e83a46f0e67a94cb586d037cf6f8fca1fc256720786c0d70bcb6bb2b320639592346740f6848bf58c4eb11b939661c8a16422143078aecdc73e40a9a76bf78d4707bc16529e3f7c65b549ccc1e6c63a2c3448=_)
abbrev Zz:=rP (acb (.int .i64 0) (.int .u64 0))
def Qe:aD pg 277 32 Zz [.c 4 2 true]:= .o2 Tryz.func277 (by kernel_rfl)
def NF (hg:ae gl) (a b x y:Int) (ha:0<=a/\a<18446744073709551616) (hb:0<=b/\b<18446744073709551616):Pure pg gl 277 [.agg [.int .i64 x,.int .u64 a],.agg [.int .i64 y,.int .u64 b]] (.ok (.agg [.int .i64 (Lh a b x y),.int .u64 (p8 a b)])):=by
 have hw:∀ z,0<=IntKind.u64.wrap z:=fun z=>by rw [wrap_u64];omega
 unfold Lh p8;refine ⟨?_,by simp only [bz,cz,forall_eq_or_imp,forall_eq,implies_true],by simp only [cz,forall_eq_or_imp,forall_eq,implies_true]⟩;simp only [bz];refine .aC Qe (by simp) (ab 200 ?_)
 repeat' with_reducible first|refine ar ?_|refine au ?_|refine .pu (NG _ _ _ ha.1 hb.1 (Ax _) (by decide)) hg rfl ?_|refine .pu (NG _ _ _ (hw _) (hw _) (by omega) (by omega)) hg rfl ?_|refine ⟨?_,?_⟩|intro _|simp only [go_sem,seval]
def aco:=(by conv=>lhs;reduce:dC [Ua,Ub,Uc,Ud] [] 0xc1153e38b8f516d5967701ef163a85d2b397b5cee171aff8f74b41b=_)
abbrev ZU:=rP (aco (.int .i64 0) (.int .u64 0) (.sl 6 [] .exact) (.sl 2 [] .exact))
def Ql:aD pg 380 11 ZU [.c 6 5 true]:= .o2 Tryz.func380 (by kernel_rfl)
def acm:=(by conv=>lhs;reduce:dC [Ua,Ub,Uc,Ud] [] 0x85eebde38f9093a96624ba468e2d3503c73e140484393061b62a8d413c0629af7bafd341d=_)
abbrev aj7:=rP (acm (.int .i64 0) (.int .u64 0) (.sl 6 [] .exact) (.sl 2 [] .exact))
def adU:aD pg 378 13 aj7 [.c 6 5 true]:= .o2 Tryz.func378 (by kernel_rfl)
def acp:=(by conv=>lhs;reduce:dC [Ua,Ub,Uc,Ud] [] 0x11dbe505338dccb271b526e6d362a16e6a89446c883bea833d1612c997c7790afd9bee24e047664bd43370f4dc23038866a1e8c4f715971c8f7324845e3cb6d8f6fafa6feeadea7742e=_)
abbrev ZV:=rP (acp (.int .i64 0) (.int .u64 0) (.sl 6 [] .exact) (.sl 2 [] .exact))
def Qm:aD pg 382 22 ZV [.c 6 5 true]:= .o2 Tryz.func382 (by kernel_rfl)
def kx (s t:aP):aP:=⟨IntKind.i64.wrap (s.n+t.n),0,0,[],[]⟩
def kv (s t:aP):aP:=⟨IntKind.i64.wrap (s.n+t.n),Lh s.lo t.lo s.hi t.hi,p8 s.lo t.lo,[],[]⟩
def aP.Ok (s:aP):Prop:=0<=s.lo/\s.lo<18446744073709551616
def aP.all (s:aP):∀ v∈s.l,Nm v:=Nm.cons (.int _ _) (Nm.cons (.int _ _) (Nm.cons (.int _ _) (Nm.cons (.sl (pZ _)) (Nm.cons (.sl (D0 _)) Nm.nil))))
def aP.nm (s:aP):Nm (.agg s.l):= .agg s.all
def nR:Nm (.agg []):= .agg Nm.nil
def Hr {a b c:AV} (h1:Nm a) (h2:Nm b) (h3:Nm c):∀ v∈[a,b,c],Nm v:=Nm.cons h1 (Nm.cons h2 (Nm.cons h3 Nm.nil))
def qF (n m:Int):Pure pg gl 380 [.agg [],.int .i64 n,.int .i64 m] (.ok (.agg (aP.l ⟨IntKind.i64.wrap (n+m),0,0,[],[]⟩))):=by
 refine bw (Hr nR (.int _ _) (.int _ _)) (aP.nm _).1 (.aC Ql (by simp) (ab 60 ?_))
 repeat' with_reducible first|refine ar ?_|refine au ?_|refine ⟨?_,?_⟩|intro _|simp only [go_sem,seval,od]
 exact rfl
def Ol (s t:aP):(kv s t).Ok:=by show 0<=p8 s.lo t.lo/\p8 s.lo t.lo<_;unfold p8;omega
def agr (hg:ae gl) (s t:aP):Pure pg gl 378 [.agg [],.agg s.l,.agg t.l] (.ok (.agg (kx s t).l)):=by
 refine bw (Hr nR s.nm t.nm) (kx s t).nm.1 (.aC adU (by simp) (ab 60 ?_));have h380:=qF (gl:=gl) s.n t.n;unfold aP.l at h380 ⊢;unfold kx
 repeat' with_reducible first|refine ar ?_|refine au ?_|refine .pu (h380) hg rfl ?_|refine ⟨?_,?_⟩|intro _|simp only [go_sem,seval,ku,Go.V.kK,od]
 all_goals exact rfl
def agt (hg:ae gl) (s t:aP) (hs:s.Ok) (ht:t.Ok):Pure pg gl 382 [.agg [],.agg s.l,.agg t.l] (.ok (.agg (kv s t).l)):=by
 refine bw (Hr nR s.nm t.nm) (kv s t).nm.1 (.aC Qm (by simp) (ab 60 ?_));have h380:=qF (gl:=gl) s.n t.n;have h277:=NF (gl:=gl) hg s.lo t.lo s.hi t.hi hs ht;unfold aP.l at h380 ⊢;unfold kv
 repeat' with_reducible first|refine ar ?_|refine au ?_|refine .pu (h380) hg rfl ?_|refine .pu (h277) hg rfl ?_|refine ⟨?_,?_⟩|intro _|simp only [go_sem,seval,ku,Go.V.kK,od]
 all_goals exact rfl
end
end Go.Proofs.YtoopnalhhfmgaaaGreatDoor
namespace Go.Proofs
open Go.Shelf
def Tryz.Gl:Go.Shelf.Ren:=⟨fun|106=>304|213=>317|265=>326|n=>n,fun|9=>9|3=>3|n=>n,fun|n=>n⟩
def Tryz.TR:Go.Proofs.Lays.n106 Tryz.prog Tryz.Gl:={
 mixed:=by kernel_rfl
 f106:=Tryz.func304.trans (congrArg some (by kernel_rfl))
 f213:=Tryz.func317.trans (congrArg some (by kernel_rfl))
 f265:=Tryz.func326.trans (congrArg some (by kernel_rfl))
 t3:=Tryz.underlying3
 a3:=Tryz.isAgg3
 z3:=Tryz.sizeOf3
 v3:=Tryz.zeroValue3
 t9:=Tryz.underlying9
 a9:=Tryz.isAgg9
 z9:=Tryz.sizeOf9
 v9:=Tryz.zeroValue9}
open Go.RowKit in
def Tryz.strings_Compare (a b:ByteArray) (w:World):
  Calls Tryz.prog 304 #[.string a,.string b] w fun e w'=>e= .returned (.int .i64 (Lib.compareBytes a.data.toList b.data.toList))/\w'=w:=Any.strings_Compare Tryz.TR a b w
def Tryz.Gp:Go.Shelf.Ren:=⟨fun|189=>162|125=>206|257=>205|128=>254|129=>255|294=>245|295=>246|296=>247|297=>248|298=>249|299=>250|216=>251|300=>252|301=>253|328=>292|329=>293|330=>294|331=>295|332=>296|215=>64|343=>314|n=>n,fun|28=>104|3=>3|46=>264|0=>0|51=>306|53=>46|4=>4|183=>299|182=>298|131=>228|5=>5|9=>9|218=>331|222=>335|228=>346|229=>347|n=>n,fun|n=>n⟩
def Tryz.Hn:Go.Proofs.Lays.n189 Tryz.prog Tryz.Gp:={
 mixed:=by kernel_rfl
 f125:=Tryz.func206.trans (congrArg some (by kernel_rfl))
 f128:=Tryz.func254.trans (congrArg some (by kernel_rfl))
 f129:=Tryz.func255.trans (congrArg some (by kernel_rfl))
 f189:=Tryz.func162.trans (congrArg some (by kernel_rfl))
 f215:=Tryz.func64.trans (congrArg some (by kernel_rfl))
 f216:=Tryz.func251.trans (congrArg some (by kernel_rfl))
 f257:=Tryz.func205.trans (congrArg some (by kernel_rfl))
 f294:=Tryz.func245.trans (congrArg some (by kernel_rfl))
 f295:=Tryz.func246.trans (congrArg some (by kernel_rfl))
 f296:=Tryz.func247.trans (congrArg some (by kernel_rfl))
 f297:=Tryz.func248.trans (congrArg some (by kernel_rfl))
 f298:=Tryz.func249.trans (congrArg some (by kernel_rfl))
 f299:=Tryz.func250.trans (congrArg some (by kernel_rfl))
 f300:=Tryz.func252.trans (congrArg some (by kernel_rfl))
 f301:=Tryz.func253.trans (congrArg some (by kernel_rfl))
 f328:=Tryz.func292.trans (congrArg some (by kernel_rfl))
 f329:=Tryz.func293.trans (congrArg some (by kernel_rfl))
 f330:=Tryz.func294.trans (congrArg some (by kernel_rfl))
 f331:=Tryz.func295.trans (congrArg some (by kernel_rfl))
 f332:=Tryz.func296.trans (congrArg some (by kernel_rfl))
 f343:=Tryz.func314.trans (congrArg some (by kernel_rfl))
 t0:=Tryz.underlying0
 a0:=Tryz.isAgg0
 z0:=Tryz.sizeOf0
 v0:=Tryz.zeroValue0
 t3:=Tryz.underlying3
 a3:=Tryz.isAgg3
 z3:=Tryz.sizeOf3
 v3:=Tryz.zeroValue3
 t4:=Tryz.underlying4
 a4:=Tryz.isAgg4
 z4:=Tryz.sizeOf4
 v4:=Tryz.zeroValue4
 t5:=Tryz.underlying5
 a5:=Tryz.isAgg5
 z5:=Tryz.sizeOf5
 v5:=Tryz.zeroValue5
 t9:=Tryz.underlying9
 a9:=Tryz.isAgg9
 z9:=Tryz.sizeOf9
 v9:=Tryz.zeroValue9
 t28:=Tryz.underlying104
 a28:=Tryz.isAgg104
 z28:=Tryz.sizeOf104
 v28:=Tryz.zeroValue104
 t46:=Tryz.underlying264
 a46:=Tryz.isAgg264
 z46:=Tryz.sizeOf264
 v46:=Tryz.zeroValue264
 t51:=Tryz.underlying306
 a51:=Tryz.isAgg306
 z51:=Tryz.sizeOf306
 v51:=Tryz.zeroValue306
 t53:=Tryz.underlying46
 a53:=Tryz.isAgg46
 z53:=Tryz.sizeOf46
 v53:=Tryz.zeroValue46
 t131:=Tryz.underlying228
 a131:=Tryz.isAgg228
 z131:=Tryz.sizeOf228
 v131:=Tryz.zeroValue228
 t182:=Tryz.underlying298
 a182:=Tryz.isAgg298
 z182:=Tryz.sizeOf298
 v182:=Tryz.zeroValue298
 t183:=Tryz.underlying299
 a183:=Tryz.isAgg299
 z183:=Tryz.sizeOf299
 v183:=Tryz.zeroValue299
 t218:=Tryz.underlying331
 a218:=Tryz.isAgg331
 z218:=Tryz.sizeOf331
 v218:=Tryz.zeroValue331
 t222:=Tryz.underlying335
 a222:=Tryz.isAgg335
 z222:=Tryz.sizeOf335
 v222:=Tryz.zeroValue335
 t228:=Tryz.underlying346
 a228:=Tryz.isAgg346
 z228:=Tryz.sizeOf346
 v228:=Tryz.zeroValue346
 t229:=Tryz.underlying347
 a229:=Tryz.isAgg347
 z229:=Tryz.sizeOf347
 v229:=Tryz.zeroValue347}
open Go.Sort Go.RowKit in
def Tryz.slices_Sort_int (blk off cap:Nat) (zs:List Int) (w:World) (hH:Holds (Value.int .i64) w blk off zs.toArray) (hblk:blk<w.heap.size) (hsz:zs.length<4611686018427387904):
  Calls Tryz.prog 162 #[.slice (some ⟨blk,off,none⟩) zs.length cap] w fun e w'=>e= .returned (.tuple #[])/\∃ n os,w'=grow (putRow (Value.int .i64) (Sort.ahead w n) blk off (zs.mergeSort fun x y=>decide (x<=y)).toArray) os:=Any.slices_Sort_int Tryz.Hn blk off cap zs w hH hblk hsz
end Go.Proofs
namespace Go.Proofs.YtoopnalhhfmgaaaGreatDoor
open Go Go.V
set_option maxRecDepth 100000
variable {gl:List (Nat×List AV)}
variable (Ua Ub Uc Ud Ue Uf Ug Uh Ui Uj Uk Ul Um Un Uo Up:AV) (Ya Yb Yc Yd Ye Yf Yg Yh:MC)
attribute [local go_sem ↓] cu aj.ev MK.ev MK.ob Hc
attribute [local go_sem high] Hd
attribute [local go_sem] rO gn fZ lC oT py kq bU gG lF mQ AV.there AV.plus cC fV AV.gB AV.cells cn dp iH lx jE kr lE nS eg isStr fm fN appArg cS cG gQ fU cU jx bI fG jS dE St.none if_true if_false ite_self eq_self ne_eq implies_true forall_const jm.av bX.av jB.av lZ.av rU.av He
def oY (a b:Bytes):Int:=if Op.bytesLess a b=true then-1 else if a=b then 0 else 1
def GN:∀ a b:Bytes,Lib.compareBytes a b=oY a b
 |[],[]=>rfl
 |[],_::_=>rfl
 |_::_,[]=>rfl
 |a::xs,b::ys=>by
  have ih:=GN xs ys;simp only [Lib.compareBytes,oY,Op.bytesLess] at ih ⊢;rw [ih]
  by_cases h1:a<b
  ·simp [h1]
  ·by_cases h2:b<a
   ·have h3: ¬a=b:=fun e=>by subst e;exact absurd h2 h1
    simp [h1,h2,h3]
   ·have h3:a=b:=UInt8.le_antisymm (UInt8.not_lt.1 h2) (UInt8.not_lt.1 h1);subst h3;simp
def VO (a b:Bytes):Pure pg gl 304 [.str a,.str b] (.ok (.int .i64 (oY a b))):=by
 refine ⟨?_,by simp only [bz,cz,forall_eq_or_imp,forall_eq,implies_true],by simp only [cz,forall_eq_or_imp,forall_eq,implies_true]⟩;simp only [bz];refine (ao.FA Tryz.call304 fun wb G w vs hS hv=>?_).mono fun o S' h=>h.2;obtain ⟨v1,vs1,rfl,h1,hv⟩:=hv.cons_inv;obtain ⟨v2,vs2,rfl,h2,hv⟩:=hv.cons_inv;obtain rfl:=hv.iz;obtain rfl:=h1.uF;obtain rfl:=h2.uF;exact ⟨_,.int _ _,by rw [<-GN];simpa using Tryz.strings_Compare ⟨a.toArray⟩ ⟨b.toArray⟩ w⟩
def qg:List Int->Int
 |[]=>0
 |x::l=>if x=0 then qg l else x
def S5:=(by conv=>lhs;reduce:dC [Ua] [] 0x3b72df3a495cc833dac156863974de283e3031aa5710a929d8078e51d3478363d452a3b252e375f429=_)
def E9:=rO (S5 (.int .i64 1))
def S4:=(by conv=>lhs;reduce:dC [] [] 0x6191f490c742a=_)
abbrev ZF:=rP S4
def ace:=(by conv=>lhs;reduce:dC [Ua] [Ya,Yb] 0x249243c3900bc3c101b0a26ea0a587d1679c13419=_)
abbrev aj1:=rP (ace (.int .i64 0) E9 ZF)
def adP:aD pg 303 18 aj1 [.t 2]:= .o2 Tryz.func303 (by kernel_rfl)
def agj (hg:ae gl) (l:List Int) (t:bE) (hl:l.length<4294967296):Pure pg gl 303 [.sl 1 (l.map (AV.int .i64)) t] (.ok (.int .i64 (qg l))):=by
 refine ⟨?_,by simp only [bz,cz,forall_eq_or_imp,forall_eq,implies_true],by simp only [cz,forall_eq_or_imp,forall_eq,implies_true]⟩;simp only [bz];refine .aC adP (by simp) (ab 200 ?_)
 repeat' with_reducible first|refine ar ?_|refine au ?_|refine ⟨?_,?_⟩|intro _|simp only [go_sem,seval]
 refine .dD l.length (fun i F S=>F=[(3,AV.int IntKind.i64 0),(6,AV.sl 1 (l.map (AV.int IntKind.i64)) bE.ai),(7,AV.int IntKind.i64 ↑l.length),(8,AV.int IntKind.i64 i)]/\S= .none gl/\qg l=qg (l.drop i)) ⟨rfl,rfl,rfl⟩ ?_;rintro i F S hi ⟨rfl,rfl,he⟩ ih
 by_cases h:i<l.length
 ·obtain ⟨c,hc⟩:=aK h;have hd:=bY hc;refine bp E9.eq_1 ?_
  repeat' first
   |with_reducible first|refine ar ?_|refine au ?_|refine ⟨?_,?_⟩|intro _
   |simp only [go_sem,seval,hc,fk h,eD h,ba (show i<9223372036854775807 by omega)]
  ·rename_i hx;rw [he,hd];simp only [qg]
   grind
  ·rename_i hx;refine ih h _ _ ⟨rfl,rfl,?_⟩;rw [he,hd];simp only [qg]
   grind
 ·refine bp E9.eq_1 ?_
  repeat' first
   |with_reducible first|refine ar ?_|refine au ?_|refine ⟨?_,?_⟩|intro _
   |simp only [go_sem,seval,fE (Am h)]
  rw [he,AE (Am h)];rfl
def Kx (hg:ae gl) (x y z:Int):Pure pg gl 303 [.sl 1 [.int .i64 x,.int .i64 y,.int .i64 z] .exact] (.ok (.int .i64 (qg [x,y,z]))):=agj hg [x,y,z] .exact (by simp)
def jK (a b:bX):Int:=qg [bP a.kd b.kd,bP a.n b.n,oY a.s b.s]
def aca:=(by conv=>lhs;reduce:dC [Ua] [] 0xa4f8616ef0e664e0cbcc30acfbebb1e302e05a9665c0d7ecb2e223f678a8bb9bb3027033467bf39e218703b2ed644d62ba8ca122d5b1a3697caba0b84b44cac637bf0eca245483a06b390a3ffb42e=_)
abbrev ajZ:=rP (aca (.int .i64 0))
def adN:aD pg 274 22 ajZ [.t 4]:= .o2 Tryz.func274 (by kernel_rfl)
def VN (hg:ae gl) (a b:bX):Pure pg gl 274 [a.av,b.av] (.ok (.int .i64 (jK a b))):=by
 unfold bX.av jK;refine ⟨?_,by simp only [bz,cz,forall_eq_or_imp,forall_eq,implies_true],by simp only [cz,forall_eq_or_imp,forall_eq,implies_true]⟩;simp only [bz];refine .aC adN (by simp) (ab 200 ?_)
 repeat' with_reducible first|refine ar ?_|refine au ?_|refine .pu (VO a.s b.s) hg rfl ?_|refine .pu (Ky hg a.kd b.kd) hg rfl ?_|refine .pu (Ky hg a.n b.n) hg rfl ?_|refine .pu (Kx hg _ _ _) hg rfl ?_|refine ⟨?_,?_⟩|intro _|simp only [go_sem,seval]
def eJ (φ:Out->Prop) (S:St) (o:Out) (S':St):Prop:=φ o/\∃ N' nt',S.n<=N'/\S'=⟨N',S.obj,nt',S.live,S.gl⟩
def gu {P:Program} {f:FuncId} {bs:List AV} {S:St} {φ:Out->Prop}
  (h:ao P f bs S fun o S'=>φ o/\S.n<=S'.n/\S'.gl=S.gl/\(∀ l cs,List.lookup l S.obj=some cs->List.lookup l S'.obj=some cs)/\∀ t∈S.live,t∈S'.live):ao P f bs S (eJ φ S):=by
 intro wb G w vs hS hv;refine (h wb G w vs hS hv).mono fun e w' ⟨G',S',h1,h2,h3⟩=>?_;have key:∀ o,(φ o/\S.n<=S'.n/\S'.gl=S.gl/\(∀ l cs,List.lookup l S.obj=some cs->List.lookup l S'.obj=some cs)/\∀ t∈S.live,t∈S'.live)->ax wb G' ⟨S'.n,S.obj,S'.nt,S.live,S.gl⟩ w'/\eJ φ S o ⟨S'.n,S.obj,S'.nt,S.live,S.gl⟩:=fun o ⟨a,b,c,d,e⟩=>⟨h2.tx ⟨rfl,rfl,c,d,e⟩,a,_,_,b,rfl⟩
 cases e with
 |returned v=>
  obtain ⟨r,h4,h5⟩:=h3;obtain ⟨k1,k2⟩:=key _ h5;exact ⟨G',_,h1,k1,r,h4,k2⟩
 |panicked ch=>
  obtain ⟨v,av,h4,h5,h6⟩:=h3;obtain ⟨k1,k2⟩:=key _ h6;exact ⟨G',_,h1,k1,v,av,h4,h5,k2⟩
 |outgrown=>exact h3.elim
def bS {P:Program} {f:FuncId} {bs:List AV} {d:Option Nat} {l:List aV} {K:Option AV->Fr->St->Prop} {F:Fr} {n nt:Nat} {ob gl:List (Nat×List AV)} {lv:List Nat} {r:AV} (h:ao P f bs ⟨n,ob,nt,lv,gl⟩ (eJ (fun o=>o= .ok r) ⟨n,ob,nt,lv,gl⟩))
  (k:∀ N' nt',n<=N'->cD P l K (aS d r F) ⟨N',ob,nt',lv,gl⟩):bt P f bs d l K F ⟨n,ob,nt,lv,gl⟩:=
 .of h (fun r' S' ⟨e,N',nt',h1,h2⟩=>by
  injection e with e
  subst e h2
  exact k N' nt' h1) (fun v S' ⟨e,_⟩=>by cases e)
def cw {P:Program} {f:FuncId} {bs:List AV} {d:Option Nat} {nd:Bool} {p:bD} {K:Option AV->Fr->St->Prop} {S0:St} {Ls:List Nat} {F:Fr} {n nt:Nat} {ob gl:List (Nat×List AV)} {lv:List Nat} {r:AV} (h:ao P f bs ⟨n,ob,nt,lv,gl⟩ (eJ (fun o=>o= .ok r) ⟨n,ob,nt,lv,gl⟩))
  (hi:∀ N' nt',n<=N'->nd=true->aX S0 Ls ⟨N',ob,nt',lv,gl⟩) (k:∀ N' nt',n<=N'->bf P K S0 Ls p (aS d r F) ⟨N',ob,nt',lv,gl⟩):dg P f bs d nd p K S0 Ls F ⟨n,ob,nt,lv,gl⟩:=
 .of h (fun r' S' ⟨e,N',nt',h1,h2⟩=>by
  injection e with e
  subst e h2
  exact ⟨hi N' nt' h1,k N' nt' h1⟩) (fun v S' ⟨e,_⟩=>by cases e)
def bJ (N:Nat) (ob:List (Nat×List AV)):Prop:=∀ l,N<=l->List.lookup l ob=none
def bJ.ne {N l:Nat} {ob:List (Nat×List AV)} {cs:List AV} (h:bJ N ob) (hl:List.lookup l ob=some cs):l≠N:=fun e=>by
 rw [h l (by omega)] at hl;cases hl
def bJ.lt {N l:Nat} {ob:List (Nat×List AV)} {cs:List AV} (h:bJ N ob) (hl:List.lookup l ob=some cs):l<N:=by
 rcases Al l N with h1|h1
 ·exact h1
 ·rw [h l h1] at hl;cases hl
def mark (b:Bool) (x:It):It:=if b then {x with n:=0} else ⟨x.v,[],0,0⟩
def oZ (a b:It):Int:=qg [oY a.src b.src,bP a.seq b.seq,jK a.v b.v]
def It.beq (a m:It):(a==m)=(a.v.kd==m.v.kd && (a.v.n==m.v.n && (a.v.s==m.v.s && (a.src==m.src && (a.seq==m.seq && a.n==m.n))))):=by
 obtain ⟨⟨a1,a2,a3⟩,a4,a5,a6⟩:=a;obtain ⟨⟨b1,b2,b3⟩,b4,b5,b6⟩:=m;rw [B5];simp [and_assoc]
def acN:=(by conv=>lhs;reduce:dC [Ua,Ub] [] 0x24fbd91f1fe9c4dd2d7e6ea6c13cffdd8eff0fe0531ffc48fc704fa5897aa6718f3237c44555c19d821482a64ad8e250bcf5b14ce46f41f=_)
abbrev aks:=rP (acN (.int .i64 0) (.str []))
def ad8:aD pg 410 15 aks [.c 4 6 true]:= .o2 Tryz.func410 (by kernel_rfl)
def acS:=(by conv=>lhs;reduce:dC [Ua] [] 0xe21e20fcd4a162aa6057d48983d5a4a6861161e87636b7f5b68a9fd46f8cb2806f3b416deba1c76305f91e18466a99dff55ff56efed6379971e13f547d92843600f861dd391448482e72a99f6ecbe036aa9ff6faf2b44b43a=_)
abbrev akx:=rP (acS (.int .i64 0))
def aec:aD pg 415 26 akx [.t 4]:= .o2 Tryz.func415 (by kernel_rfl)
def acP:=(by conv=>lhs;reduce:dC [Ua] [] 0x1fa6bf189daef48a3d19bdc4e853c71d0de2e1df61ba8b380470fddcb4675d162741a=_)
abbrev aku:=rP (acP (.bool false))
def ad9:aD pg 412 10 aku [.t 4]:= .o2 Tryz.func412 (by kernel_rfl)
def acR:=(by conv=>lhs;reduce:dC [Ua,Ub] [] 0x1462a4af3509808ca9aed6f99572e7cda07886971bb05c72c01af825ad7054c0b31eeffebb41b=_)
abbrev akw:=rP (acR (.bool false) (.int .i64 0))
def aeb:aD pg 414 11 akw [.t 4]:= .o2 Tryz.func414 (by kernel_rfl)
def TL:=(by conv=>lhs;reduce:dC [Ua] [] 0x824ef974830ac451127990678d099140f82cd4b27af35f714849b1b745a7cce3228f1bba8d01baca1a760f42b=_)
def xI:=rO (TL (.int .i64 1))
def TK:=(by conv=>lhs;reduce:dC [Ua] [] 0x187970b45=_)
abbrev Z6:=rP (TK (.int .i64 (-1)))
def acO:=(by conv=>lhs;reduce:dC [Ua] [Ya,Yb] 0x124712cd191c659fc672abc74b09c1c4b419=_)
abbrev akt:=rP (acO (.int .i64 0) xI Z6)
def Qq:aD pg 411 19 akt [.t 4]:= .o2 Tryz.func411 (by kernel_rfl)
def ID (hg:ae gl) (b:Bool) (x:It):Pure pg gl 410 [.agg [.bool b],x.av] (.ok (mark b x).av):=by
 refine bw (Nm.cons (.agg (Nm.cons (.bool b) Nm.nil)) (Nm.cons x.nm Nm.nil)) (mark b x).nm.1 (.aC ad8 (by simp) (ab 60 ?_));unfold It.av It.l;cases b
 ·
  repeat' with_reducible first|refine ar ?_|refine au ?_|refine ⟨?_,?_⟩|intro _|simp only [go_sem,seval]
  all_goals exact rfl
 ·
  repeat' with_reducible first|refine ar ?_|refine au ?_|refine ⟨?_,?_⟩|intro _|simp only [go_sem,seval]
  all_goals exact rfl
def agG (hg:ae gl) (a b:It):Pure pg gl 415 [a.av,b.av] (.ok (.int .i64 (oZ a b))):=by
 have h1:=VN hg a.v b.v;unfold bX.av at h1;unfold It.av It.l oZ;refine ⟨?_,by simp only [bz,cz,forall_eq_or_imp,forall_eq,implies_true],by simp only [cz,forall_eq_or_imp,forall_eq,implies_true]⟩;simp only [bz];refine .aC aec (by simp) (ab 200 ?_)
 repeat' with_reducible first|refine ar ?_|refine au ?_|refine .pu (VO a.src b.src) hg rfl ?_|refine .pu (Ky hg a.seq b.seq) hg rfl ?_|refine .pu (h1) hg rfl ?_|refine .pu (Kx hg _ _ _) hg rfl ?_|refine ⟨?_,?_⟩|intro _|simp only [go_sem,seval]
def agD (hg:ae gl) (b:Bool) (x m:It) (kb mb N nt:Nat) (ob:List (Nat×List AV)) (lv:List Nat) (hf:bJ N ob) (h1:List.lookup kb ob=some [.bool b]) (h2:List.lookup mb ob=some m.l):
  ao pg 412 [x.av,.ptr kb 0,.ptr mb 0] ⟨N,ob,nt,lv,gl⟩ (eJ (fun o=>o= .ok (.bool (mark b x==m))) ⟨N,ob,nt,lv,gl⟩):=by
 have hkN:(kb=N)=False:=eq_false (hf.ne h1);have hmN:(mb=N)=False:=eq_false (hf.ne h2);have hgk:∀ M,St.get ⟨M,ob,nt,lv,gl⟩ kb=some [.bool b]:=fun _=>h1;have hgm:∀ M,St.get ⟨M,ob,nt,lv,gl⟩ mb=some m.l:=fun _=>h2;refine gu (.aC ad9 (by simp) ?_);generalize hK:bI [RV.t 4] _=Q;have h410:=ID hg b x;unfold It.av It.l at h410;unfold It.l at hgm;unfold It.av It.l;refine ab 60 ?_
 repeat' with_reducible first|refine ar ?_|refine au ?_|refine .pu (h410) hg rfl ?_|refine ⟨?_,?_⟩|intro _|simp only [go_sem,seval,hgk,hgm,hkN,hmN]
 all_goals first
  |(rw [<-hK];simp only [aM];done)
  |skip
 rw [<-hK,It.beq];simp only [go_sem,seval];refine ⟨by omega,fun l cs h=>?_,fun t h=>h⟩;rw [aw (hf.ne h)];exact h
def agF (hg:ae gl) (b:Bool) (x m:It) (kb mb N nt:Nat) (ob:List (Nat×List AV)) (lv:List Nat) (hf:bJ N ob) (h1:List.lookup kb ob=some [.bool b]) (h2:List.lookup mb ob=some m.l):
  ao pg 414 [x.av,.ptr kb 0,.ptr mb 0] ⟨N,ob,nt,lv,gl⟩ (eJ (fun o=>o= .ok (.bool (decide (0<oZ (mark b x) m)))) ⟨N,ob,nt,lv,gl⟩):=by
 have hkN:(kb=N)=False:=eq_false (hf.ne h1);have hmN:(mb=N)=False:=eq_false (hf.ne h2);have hgk:∀ M,St.get ⟨M,ob,nt,lv,gl⟩ kb=some [.bool b]:=fun _=>h1;have hgm:∀ M,St.get ⟨M,ob,nt,lv,gl⟩ mb=some m.l:=fun _=>h2;refine gu (.aC aeb (by simp) ?_);generalize hK:bI [RV.t 4] _=Q;have h410:=ID hg b x;have h415:=agG hg (mark b x) m;unfold It.av It.l at h410 h415;unfold It.l at hgm;unfold It.av It.l;refine ab 60 ?_
 repeat' with_reducible first|refine ar ?_|refine au ?_|refine .pu (h410) hg rfl ?_|refine .pu (h415) hg rfl ?_|refine ⟨?_,?_⟩|intro _|simp only [go_sem,seval,hgk,hgm,hkN,hmN]
 all_goals first
  |(rw [<-hK];simp only [aM];done)
  |skip
 rw [<-hK];simp only [go_sem,seval];refine ⟨by omega,fun l cs h=>?_,fun t h=>h⟩;rw [aw (hf.ne h)];exact h
def o8 (p:It->Bool):List It->Int->Int
 |[],_=> -1
 |x::xs,i=>if p x then i else o8 p xs (i+1)
def zc {xs:List It} {i:Nat} {x:It} (h:xs[i]? =some x):(xs.map It.l)[i]? =some x.l:=by rw [Ap,h];rfl
def VY (f:FuncId) (caps:List AV) (xs:List It) (p:It->Bool) (N nt L:Nat) (cs:List AV) (ob:List (Nat×List AV)) (lv:List Nat) (hn:xs.length<4294967296) (hl:List.lookup L ob=some cs) (hr:Row cs (xs.map It.l))
  (hp:∀ N' nt',N<=N'->∀ x∈xs,ao pg f (x.av::caps) ⟨N',ob,nt',lv,gl⟩ (eJ (fun o=>o= .ok (.bool (p x))) ⟨N',ob,nt',lv,gl⟩)):
  ao pg 411 [.aN 6 xs.length L 0,.fn (.func f) [] caps] ⟨N,ob,nt,lv,gl⟩ (eJ (fun o=>o= .ok (.int .i64 (o8 p xs 0))) ⟨N,ob,nt,lv,gl⟩):=by
 have hgl:∀ M t,St.get ⟨M,ob,t,lv,gl⟩ L=some cs:=fun _ _=>hl;refine .aC Qq (by simp) (ab 60 ?_);generalize hK:bI [RV.t 4] _=Q
 repeat' with_reducible first|refine ar ?_|refine au ?_|refine ⟨?_,?_⟩|intro _|simp only [go_sem,seval]
 refine .dD xs.length (fun i F S=>F=[(0,.aN 6 xs.length L 0),(1,.fn (.func f) [] caps),(7,.int .i64 (xs.length:Int)),(8,.int .i64 (i:Int))]/\(∃ N' nt',N<=N'/\S=⟨N',ob,nt',lv,gl⟩)/\o8 p xs 0=o8 p (xs.drop i) i) ⟨rfl,⟨N,nt,Af _,rfl⟩,rfl⟩ ?_;rintro i F S hi ⟨rfl,⟨N',nt',hN,rfl⟩,he⟩ ih
 by_cases h:i<xs.length
 ·obtain ⟨x,hx⟩:=aK h;have hd:=bY hx;obtain ⟨e1,e2⟩:=hr.at (zc hx);have hb:=hr.bu (by rw [Ad];omega);have hcall:ao pg f (.agg x.l::caps) _ _:=hp N' nt' hN x (Aj hx);refine bp xI.eq_1 ?_
  repeat' first
   |with_reducible first|refine ar ?_|refine au ?_|refine bS (hcall) fun _ _ _=>?_|refine cw (hcall) (fun _ _ _=>by first|exact (fun h=>(by cases h))|(first|exact of_eq_true bh|simp only [cT,cA,eS,bh,and_self])) fun _ _ _=>?_|refine ⟨?_,?_⟩|intro _
   |simp only [go_sem,seval,hgl,hb,e1,e2,fk h,eD h,ba (show i<9223372036854775807 by omega)]
  ·rename_i N2 nt2 hN2 hx;rw [<-hK,he,hd];simp only [go_sem,seval];unfold o8;rw [if_pos hx];exact ⟨rfl,_,_,AH hN hN2,rfl⟩
  ·rename_i N2 nt2 hN2 hx;refine ih h _ _ ⟨rfl,⟨N2,nt2,by omega,rfl⟩,?_⟩;rw [he,hd,o8,if_neg (by rw [hx];exact B6)];rfl
 ·refine bp xI.eq_1 ?_
  repeat' first
   |with_reducible first|refine ar ?_|refine au ?_|refine ⟨?_,?_⟩|intro _
   |simp only [go_sem,seval,fE (Am h)]
  rw [<-hK,he,AE (Am h)];simp only [go_sem,seval];exact ⟨rfl,_,_,hN,rfl⟩
def qV:∀ xs:List It,flat (xs.map It.av)=(xs.map It.l).flatten
 |[]=>rfl
 |x::xs=>by rw [List.map_cons,dj,qV xs];rfl
def xr (xs:List It):R6 (xs.map It.l):=fun r hr=>by
 obtain ⟨x,_,rfl⟩:=Ai.1 hr;exact ⟨rfl,fun v hv=>Nm.cons (.int _ _) (Nm.cons (.int _ _) (Nm.cons (.str _) (Nm.cons (.str _) (Nm.cons (.int _ _) (Nm.cons (.int _ _) Nm.nil))))) v hv⟩
def acL:=(by conv=>lhs;reduce:dC [Ua,Ub,Uc] [] 0x946f8788e6979af6f82a1b145e1e2be702c31f85f03d2c78c188ac3418=_)
abbrev akq:=rP (acL (.sl 6 [] .exact) (.int .i64 0) (.str []))
def ad7:aD pg 407 8 akq [.t 2]:= .o2 Tryz.func407 (by kernel_rfl)
def agC (x:It) (xs:List It) (N nt:Nat) (ob:List (Nat×List AV)) (lv:List Nat) (hn:xs.length<=1000000):
  ao pg 407 [.sl 6 ((x::xs).map It.av) .ai] ⟨N,ob,nt,lv,gl⟩ fun o S'=>o= .ok (.aN 6 (xs.length+1) N 0)/\S'=⟨N+1,(N,((x::xs).map It.l).flatten)::ob,nt,lv,gl⟩:=by
 refine .aC ad7 (by simp) (ab 200 ?_);rw [<-qV,List.map_cons]
 repeat' with_reducible first|refine ar ?_|refine au ?_|refine ⟨?_,?_⟩|intro _|simp only [go_sem,seval,vX,fJ,fK,appArg,bO]
 all_goals first
  |omega
  |rfl
def bJ.nil (N:Nat):bJ N []:=fun _ _=>rfl
def bJ.cons {N l:Nat} {c:List AV} {ob:List (Nat×List AV)} (h:bJ N ob) (hl:l<N):bJ N ((l,c)::ob):=fun l' h'=>by
 rw [aw (by omega)];exact h l' h'
def C0 {wb:aT} {G:Gh} {w:World} {n nt:Nat} {ob ob':List (Nat×List AV)} {lv:List Nat} (h:ax wb G ⟨n,ob,nt,lv,gl⟩ w)
  (ho:∀ l cs',List.lookup l ob'=some cs'->aE cs'=false/\∃ r,List.lookup l ob=some (cs'++r)/\aE (cs'++r)=false):ax wb G ⟨n,ob',nt,lv,gl⟩ w:=by
 refine {prom:=h.prom,room:=fun l cs' r hl hb hs=>?_,apart:=fun l cs' r o hl hd e=>?_,beta:=h.beta,bu:=fun l c hl hb=>?_,dy:=fun l l' s s' h1 h2=>?_,obj:=fun l cs' hl hb=>?_,inj:=fun l l' r c c' g g' d d'=>?_,bT:=h.bT,tok:=h.tok,bQ:=h.bQ,cP:=h.cP,base:=h.base,still:=h.still,cH:=h.cH,cF:=h.cF}
 ·obtain ⟨_,r2,h2,h3⟩:=ho l cs' hl;obtain ⟨⟨q1,q2⟩,q3⟩:=h.room l _ r h2 h3 hs;exact ⟨⟨by rw [Ak] at q1;omega,q2⟩,q3⟩
 ·obtain ⟨_,r2,h2,h3⟩:=ho l cs' hl;exact h.apart l _ r o h2 (bo h3) e
 ·obtain ⟨r,h1,h2⟩:=h.obj l cs'|>fun _=>h.obj l (cs'++(ho l cs' hl).2.choose) (ho l cs' hl).2.choose_spec.1 (ho l cs' hl).2.choose_spec.2
  refine ⟨r,h1,fun m c hm=>h2 m c ?_⟩;rw [AF]
  ·exact hm
  ·rcases Al m cs'.length with h3|h3
   ·exact h3
   ·rw [As h3] at hm;cases hm
 ·obtain ⟨_,r2,h2,h3⟩:=ho l c g;obtain ⟨_,r3,h4,h5⟩:=ho l' c' g';exact fun e e'=>h.inj l l' r _ _ h2 h4 (bo h3) (bo h5) e e'
 ·have:=(ho l _ hl).1;rw [hb] at this;cases this
 ·have:=(ho l _ h1).1;cases this
def rY {P:Program} {f:FuncId} {vs:List AV} {S:St} {K K':Out->St->Prop} (h:ao P f vs S K)
  (hk:∀ o S',K o S'->∃ n ob nt lv gl l k xs r cs,o= .ok r/\r.Le (.aN k xs.length l 0)/\S'=⟨n,ob,nt,lv,gl⟩/\List.lookup l ob=some (flat xs++cs)/\aE (flat xs++cs)=false/\aE (flat xs)=false/\(∀ x∈xs,x.cells.length=k)/\K' (.ok (.sl k xs .ai)) ⟨n,[],nt,lv,gl⟩):ao P f vs S K':=by
 intro wb G w ws hS hv;refine (h wb G w ws hS hv).mono fun e w' ⟨G',S',h1,h2,h3⟩=>?_
 cases e with
 |returned v=>
  obtain ⟨r,h4,h5⟩:=h3;obtain ⟨n,ob,nt,lv,gl,l,k,xs,r0,cs,e1,eL,rfl,e3,e4,e4',e5,e6⟩:=hk _ _ h5;injection e1 with e1
  subst e1
  have h2':=C0 (ob':=[(l,flat xs)]) h2 fun l' cs' e=>by
   rw [List.lookup_cons] at e;split at e
   ·rename_i hl;injection e with e
    subst e;rw [show l'=l by simpa using hl];exact ⟨e4',cs,e3,e4⟩
   ·cases e
  obtain ⟨G2,g1,g2,g3⟩:=ax.freeze (ob':=[]) h2' aI e4' e5 (fun l' cs' e=>by cases e);exact ⟨G2,_,Gh.le_trans h1 g1,g2,_,g3 _ _ _ (.all rfl) (eL _ _ h4),e6⟩
 |panicked ch=>
  obtain ⟨v,av,h4,h5,h6⟩:=h3;obtain ⟨n,ob,nt,lv,gl,l,k,xs,r0,cs,e1,_⟩:=hk _ _ h6;cases e1
 |outgrown=>exact h3.elim
def gZ (p:It->Bool):List It->Option Nat
 |[]=>none
 |x::xs=>if p x then some 0 else (gZ p xs).map (· +1)
def za (p:It->Bool):∀ (xs:List It) (k:Int),o8 p xs k=match gZ p xs with
  |some i=>k+(i:Int)
  |none=> -1
 |[],_=>rfl
 |x::xs,k=>by
  have ih:=za p xs (k+1);unfold o8 gZ;split
  ·simp
  ·rw [ih]
   cases gZ p xs with
   |none=>rfl
   |some i=>
    show k+1+(i:Int)=k+((i+1:Nat):Int);omega
def uf {p:It->Bool}:∀ {xs:List It} {i:Nat},gZ p xs=some i->∃ y,xs[i]? =some y/\p y=true
 |[],_,h=>by cases h
 |x::xs,i,h=>by
  unfold gZ at h;split at h
  ·rename_i hp;injection h with h
   subst h;exact ⟨x,rfl,hp⟩
  ·cases hi:gZ p xs with
   |none=>rw [hi] at h;cases h
   |some j=>
    rw [hi] at h;injection h with h
    subst h;obtain ⟨y,h1,h2⟩:=uf hi;exact ⟨y,h1,h2⟩
def kI (b:Bool) (x:It) (xs:List It):Nat:=match gZ (fun y=>decide (0<oZ (mark b y) (mark b x))) xs with
 |some j=>j
 |none=>xs.length
def eM (b:Bool) (x:It) (xs:List It):List It:=match gZ (fun y=>mark b y==mark b x) xs with
 |some i=>if IntKind.i64.wrap ((xs.getD i x).n+x.n)==0 then xs.take i++xs.drop (i+1) else xs.set i {xs.getD i x with n:=IntKind.i64.wrap ((xs.getD i x).n+x.n)}
 |none=>xs.take (kI b x xs)++{mark b x with n:=x.n}::xs.drop (kI b x xs)
def HB (b:Bool) (x:It) (xs:List It):kI b x xs<=xs.length:=by
 unfold kI;split
 ·rename_i j hj;obtain ⟨y,h1,_⟩:=uf hj;rcases Al j xs.length with h|h
  ·omega
  ·rw [As h] at h1;cases h1
 ·exact Af _
def KI (gl:List (Nat×List AV)) (ys:List It) (o:Out) (S':St):Prop:=∃ n ob nt lv l r cs,o= .ok r/\r.Le (.aN 6 ys.length l 0)/\S'=⟨n,ob,nt,lv,gl⟩/\List.lookup l ob=some cs/\Row cs (ys.map It.l)/\aE cs=false
def TI:=(by conv=>lhs;reduce:dC [] [] 0x4d782a4a3e745a=_)
abbrev Z4:=rP TI
def TJ:=(by conv=>lhs;reduce:dC [Ua,Ub] [] 0x29c7083c2f24d28a22ece6d47e387cd7fc7b8d689ab479=_)
abbrev Z5:=rP (TJ (.int .i64 0) (.str []))
def acM:=(by conv=>lhs;reduce:dC [Ua,Ub,Uc,Ud] [Ya,Yb] 0x74baefba622c88ef53da1fbebca205949c12ffac1bf980810fa15dd8127a6389d590b1c6dae93202adb2e96691767b346f0af4f0a7f77259a169cc4d9e8eac9d387c06549b58dcdb65c9eed2ec17959c28ce77e13824faf97117fe2597730253528635cd30763b77f975691603dd8905977faa2c10e55364771fc0df3cd8ba26a303985036904ea80452df0c62e681be898c97e1551e3dea61c776815a1047991a27ab6f46c=_)
abbrev akr:=rP (acM (.sl 6 [] .exact) (.int .i64 0) (.str []) (.int .i64 1) Z4 Z5)
def Qp:aD pg 408 57 akr [.t 6]:= .o2 Tryz.func408 (by kernel_rfl)
def VX (hg:ae gl) (b:Bool) (x0 x:It) (xs:List It) (hn:xs.length<=1000000):
  ao pg 408 [.agg [.bool b],.sl 6 ((x0::xs).map It.av) .ai,x.av] (.none gl) (KI gl (eM b x (x0::xs))):=by
 have h410:=ID hg b x;have h407:=fun N nt ob lv=>agC (gl:=gl) x0 xs N nt ob lv hn
 have hrow:Row ((x0::xs).map It.l).flatten ((x0::xs).map It.l):=by
  have:=Row.of (xr (x0::xs)) []
  rwa [AB] at this
 refine .aC Qp (by simp) (ab 60 ?_);generalize hK:bI [RV.t 6] _=Q;obtain ⟨m,hm⟩:∃ m,m=mark b x:=⟨_,rfl⟩;rw [<-hm] at h410;unfold It.av It.l at h410;obtain ⟨X,hX⟩:∃ X,X=(x0::xs).map It.av:=⟨_,rfl⟩;rw [<-hX] at h407 ⊢;unfold It.av It.l;obtain ⟨cs,hcs⟩:∃ cs,cs=((x0::xs).map It.l).flatten:=⟨_,rfl⟩;rw [<-hcs] at h407 hrow;obtain ⟨L,hL⟩:∃ L,L=x0::xs:=⟨_,rfl⟩;have hLl:xs.length+1=L.length:=by rw [hL];rfl
 rw [<-hL] at hrow hK;rw [hLl] at h407;have fr:∀ (N':Nat) (c3 m1 m2 c1 c0:List AV),4<=N'->bJ N' [(3,c3),(2,m1),(2,m2),(1,c1),(0,c0)]:=fun N' _ _ _ _ _ h=>bJ.cons (bJ.cons (bJ.cons (bJ.cons (bJ.cons (bJ.nil _) (by omega)) (by omega)) (by omega)) (by omega)) (by omega);have i1:∀ N' nt',4<=N'->ao pg 411 [.aN 6 L.length 3 0,.fn (.func 412) [] [.ptr 0 0,.ptr 2 0]] ⟨N',[(3,cs),(2,m.l),(2,[.int .i64 0,.int .i64 0,.str [],.str [],.int .i64 0,.int .i64 0]),(1,x.l),(0,[.bool b])],nt',[],gl⟩ (eJ (fun o=>o= .ok (.int .i64 (o8 (fun y=>mark b y==m) L 0))) ⟨N',[(3,cs),(2,m.l),(2,[.int .i64 0,.int .i64 0,.str [],.str [],.int .i64 0,.int .i64 0]),(1,x.l),(0,[.bool b])],nt',[],gl⟩):=fun N' nt' h4=>VY 412 _ L _ N' nt' 3 cs _ [] (by omega) rfl hrow fun N2 nt2 h2 y hy=>agD hg b y m 0 2 N2 nt2 _ [] (fr N2 _ _ _ _ _ (by omega)) rfl rfl;rw [za] at i1
 cases hi:gZ (fun y=>mark b y==m) L with
 |some i=>
  obtain ⟨y,hy,hpy⟩:=uf hi
  have hil:i<L.length:=by
   rcases Al i L.length with h|h
   ·exact h
   ·rw [As h] at hy;cases hy
  rw [hi] at i1;simp only [BI] at i1;unfold It.l at i1;have hb:=hrow.bu (by rw [Ad];omega);have hlen:=hrow.len;rw [Ad] at hlen
  have h5:(cs.drop (i*6+5))[0]? =some (.int .i64 y.n):=by
   have h6:=(hrow.at (zc hy)).1;rw [AO,Nat.add_zero];have:(List.take 6 (cs.drop (i*6)))[5]? =some (.int .i64 y.n):=by rw [h6];rfl
   rw [List.getElem?_take_of_lt (by omega),AO] at this;exact this
  have hge:decide (0<=(i:Int))=true:=decide_eq_true (by omega);have hst:decide (i*6+5+1<=cs.length)=true:=decide_eq_true (by omega);obtain ⟨v,hv⟩:∃ v,v=IntKind.i64.wrap (y.n+x.n):=⟨_,rfl⟩
  have hcut:List.take (i*6+5) cs++[.int .i64 v]++List.drop (i*6+5+1) cs=List.take (i*6) cs++({y with n:=v}:It).l++List.drop (i*6+6) cs:=by
   have h6:=(hrow.at (zc hy)).1;have:List.take 5 (List.take 6 (cs.drop (i*6)))=List.take 5 (cs.drop (i*6)):=by rw [BO];rfl
   rw [List.take_add,<-this,h6];simp only [AL,It.l];rfl
  have hrow2:Row (List.take (i*6+5) cs++[.int .i64 v]++List.drop (i*6+5+1) cs) ((L.set i {y with n:=v}).map It.l):=by
   rw [hcut,List.map_set];exact hrow.set (by rw [Ad];omega) (xr [{y with n:=v}] _ (Ay.2 rfl))
  have hb2:=hrow2.bu (by rw [Ad,BL];omega)
  have h52:(List.drop (i*6+5) (List.take (i*6+5) cs++[.int .i64 v]++List.drop (i*6+5+1) cs))[0]? =some (.int .i64 v):=by
   have hl:(List.take (i*6+5) cs).length=i*6+5:=by rw [Av];omega
   rw [AO,Nat.add_zero,AL,AG (by omega),hl,BQ];rfl
  have hgd:L.getD i x=y:=by rw [AU,hy];rfl
  have hins:eM b x L=if v==0 then L.take i++L.drop (i+1) else L.set i {y with n:=v}:=by
   unfold eM;rw [<-hm,hi];show (if IntKind.i64.wrap ((L.getD i x).n+x.n)==0 then L.take i++L.drop (i+1) else L.set i {L.getD i x with n:=IntKind.i64.wrap ((L.getD i x).n+x.n)})=_;rw [hgd,hv]
  rcases hz:v==0 with _|_
  ·rw [hz,if_neg B6] at hins
   repeat' first
    |with_reducible first|refine ar ?_|refine au ?_|refine .pu (h410) hg rfl ?_|refine bt.fY (h407 _ _ _ _) ?_|refine bS (i1 _ _ (by decide)) fun _ _ _=>?_|refine cw (i1 _ _ (by decide)) (fun _ _ _=>by first|exact (fun h=>(by cases h))|(first|exact of_eq_true bh|simp only [cT,cA,eS,bh,and_self])) fun _ _ _=>?_|refine ⟨?_,?_⟩|intro _
    |simp only [go_sem,seval,hge,hb,h5,hst,<-hv,hb2,h52,hz]
   all_goals first
    |exact Ax _
    |omega
    |(rw [<-hK];simp only [aM];done)
    |skip
   rw [<-hK,hins];simp only [go_sem,seval];exact ⟨_,_,_,_,3,_,_,rfl,by rw [BL];exact .refl _,rfl,aI,hrow2,hb2⟩
  ·rw [hz,if_pos rfl] at hins;have hl2:=hrow2.len;rw [Ad,BL] at hl2
   repeat' first
    |with_reducible first|refine ar ?_|refine au ?_|refine .pu (h410) hg rfl ?_|refine bt.fY (h407 _ _ _ _) ?_|refine bS (i1 _ _ (by decide)) fun _ _ _=>?_|refine cw (i1 _ _ (by decide)) (fun _ _ _=>by first|exact (fun h=>(by cases h))|(first|exact of_eq_true bh|simp only [cT,cA,eS,bh,and_self])) fun _ _ _=>?_|refine ⟨?_,?_⟩|intro _
    |simp only [go_sem,seval,hge,hb,h5,hst,<-hv,hb2,h52,hz,ba (show i<9223372036854775807 by omega)]
   all_goals first
    |exact Ax _
    |omega
    |(rw [<-hK];simp only [aM];done)
    |skip
   rename_i N1 nt1 hN1;refine bt.of (agE L.length i 3 N1 nt1 _ _ [] aI hb2 hl2 hil (by omega)) (fun r S' hP=>?_) (fun v S' hP=>?_);rotate_left
   ·obtain ⟨_,_,_,_,h,_⟩:=hP;cases h
   obtain ⟨ob2,lv2,cs3,r2,hr2,hle,rfl,hlk,hcl,hce,_⟩:=hP;injection hr2 with hr2
   subst hr2
   repeat' with_reducible first|refine ar ?_|refine au ?_|refine ⟨?_,?_⟩|intro _|simp only [go_sem,seval]
   rw [<-hK,hins];simp only [go_sem,seval];have hlen2:((L.set i {y with n:=v}).map It.l).length=L.length:=by rw [Ad,BL]
   have hrow3:=hrow2.del (cs':=cs3) (i:=i) (by rw [hlen2];exact hil) (by rw [hlen2];exact hcl) (by rw [hlen2];exact hce);rw [<-BZ,<-BY,<-AP,List.take_set_of_le (Af _),List.drop_set_of_lt (Br _)] at hrow3;refine ⟨_,_,_,_,3,_,cs3,rfl,?_,rfl,hlk,hrow3,fR (by omega)⟩;rw [show (L.take i++L.drop (i+1)).length=L.length-1 by rw [Ak,Av,AK];omega];exact hle
 |none=>
  rw [hi] at i1;unfold It.l at i1;obtain ⟨m',hm'⟩:∃ m':It,m'={m with n:=x.n}:=⟨_,rfl⟩;have i2:∀ N' nt',4<=N'->ao pg 411 [.aN 6 L.length 3 0,.fn (.func 414) [] [.ptr 0 0,.ptr 2 0]] ⟨N',[(2,m'.l),(3,cs),(2,m.l),(2,[.int .i64 0,.int .i64 0,.str [],.str [],.int .i64 0,.int .i64 0]),(1,x.l),(0,[.bool b])],nt',[],gl⟩ (eJ (fun o=>o= .ok (.int .i64 (o8 (fun y=>decide (0<oZ (mark b y) m')) L 0))) ⟨N',[(2,m'.l),(3,cs),(2,m.l),(2,[.int .i64 0,.int .i64 0,.str [],.str [],.int .i64 0,.int .i64 0]),(1,x.l),(0,[.bool b])],nt',[],gl⟩):=fun N' nt' h4=>VY 414 _ L _ N' nt' 3 cs _ [] (by omega) rfl hrow fun N2 nt2 h2 y hy=>agF hg b y m' 0 2 N2 nt2 _ [] ((fr N2 cs m.l _ x.l [.bool b] (by omega)).cons (l:=2) (c:=m'.l) (by omega)) rfl rfl;have hcm:∀ y,oZ (mark b y) m'=oZ (mark b y) m:=fun y=>by rw [hm'];rfl
  simp only [hcm] at i2;have hge:decide ((0:Int)<= -1)=false:=rfl;have hb:=hrow.bu (by rw [Ad,<-hLl];omega);have hlen:=hrow.len;rw [Ad] at hlen;rw [za] at i2;unfold It.l at i2;rw [hm'] at i2
  cases hj:gZ (fun y=>decide (0<oZ (mark b y) m)) L with
  |some j=>
   rw [hj] at i2;simp only [BI] at i2;have hlt:decide ((j:Int)<0)=false:=decide_eq_false (by omega)
   repeat' with_reducible first|refine ar ?_|refine au ?_|refine .pu (h410) hg rfl ?_|refine bt.fY (h407 _ _ _ _) ?_|refine bS (i1 _ _ (by decide)) fun _ _ _=>?_|refine cw (i1 _ _ (by decide)) (fun _ _ _=>by first|exact (fun h=>(by cases h))|(first|exact of_eq_true bh|simp only [cT,cA,eS,bh,and_self])) fun _ _ _=>?_|refine bS (i2 _ _ (by assumption)) fun _ _ _=>?_|refine cw (i2 _ _ (by assumption)) (fun _ _ _=>by first|exact (fun h=>(by cases h))|(first|exact of_eq_true bh|simp only [cT,cA,eS,bh,and_self])) fun _ _ _=>?_|refine ⟨?_,?_⟩|intro _|simp only [go_sem,seval,hge,hlt]
   rename_i N1 nt1 hN1;rw [show flat [AV.agg [.int .i64 m.v.kd,.int .i64 m.v.n,.str m.v.s,.str m.src,.int .i64 m.seq,.int .i64 x.n]]=m'.l by rw [hm'];rfl];have hjl:=HB b x L
   have hins:eM b x L=L.take j++m'::L.drop j:=by
    unfold eM;rw [<-hm,hi,hm',show kI b x L=j by unfold kI;rw [<-hm,hj]]
   rw [show kI b x L=j by unfold kI;rw [<-hm,hj]] at hjl;refine bt.of (V2 L.length j 3 N1 (N1+1) nt1 cs m'.l _ [] (by rw [aw (by omega),aw (by omega)];exact aI) aI hb (fS _ _ _) (by omega) rfl (by omega) (by omega) (by omega) hjl (by omega)) (fun r S' hP=>?_) (fun v S' hP=>?_);rotate_left
   ·obtain ⟨_,_,_,_,_,_,h,_⟩:=hP;cases h
   obtain ⟨l2,N2,ob2,lv2,rest,r2,hr2,hle,rfl,hlk,_⟩:=hP;injection hr2 with hr2
   subst hr2
   repeat' with_reducible first|refine ar ?_|refine au ?_|refine ⟨?_,?_⟩|intro _|simp only [go_sem,seval]
   rw [<-hK,hins];simp only [go_sem,seval];have hrow3:=hrow.ins (rest:=rest) (i:=j) (r:=m'.l) (by rw [Ad];exact hjl) (xr [m'] _ (Ay.2 rfl));rw [Ad,<-BZ,<-BY,<-List.map_cons,<-AP] at hrow3;refine ⟨_,_,_,_,l2,_,_,rfl,?_,rfl,hlk,hrow3,hrow3.bu (by rw [Ad,Ak,List.length_cons];omega)⟩;rw [show (L.take j++m'::L.drop j).length=L.length+1 by rw [Ak,List.length_cons,Av,AK];omega];exact hle
  |none=>
   rw [hj] at i2;have hlt:decide ((-1:Int)<0)=true:=rfl
   repeat' with_reducible first|refine ar ?_|refine au ?_|refine .pu (h410) hg rfl ?_|refine bt.fY (h407 _ _ _ _) ?_|refine bS (i1 _ _ (by decide)) fun _ _ _=>?_|refine cw (i1 _ _ (by decide)) (fun _ _ _=>by first|exact (fun h=>(by cases h))|(first|exact of_eq_true bh|simp only [cT,cA,eS,bh,and_self])) fun _ _ _=>?_|refine bS (i2 _ _ (by assumption)) fun _ _ _=>?_|refine cw (i2 _ _ (by assumption)) (fun _ _ _=>by first|exact (fun h=>(by cases h))|(first|exact of_eq_true bh|simp only [cT,cA,eS,bh,and_self])) fun _ _ _=>?_|refine ⟨?_,?_⟩|intro _|simp only [go_sem,seval,hge,hlt]
   rename_i N1 nt1 hN1;obtain ⟨j,hjL⟩:∃ j,j=L.length:=⟨_,rfl⟩;rw [show AV.int .i64 (L.length:Int)= .int .i64 (j:Int) by rw [hjL],show flat [AV.agg [.int .i64 m.v.kd,.int .i64 m.v.n,.str m.v.s,.str m.src,.int .i64 m.seq,.int .i64 x.n]]=m'.l by rw [hm'];rfl];have hjl:=HB b x L
   have hins:eM b x L=L.take j++m'::L.drop j:=by
    unfold eM;rw [<-hm,hi,hm',show kI b x L=j by unfold kI;rw [<-hm,hj,hjL]]
   rw [show kI b x L=j by unfold kI;rw [<-hm,hj,hjL]] at hjl;refine bt.of (V2 L.length j 3 N1 (N1+1) nt1 cs m'.l _ [] (by rw [aw (by omega),aw (by omega)];exact aI) aI hb (fS _ _ _) (by omega) rfl (by omega) (by omega) (by omega) hjl (by omega)) (fun r S' hP=>?_) (fun v S' hP=>?_);rotate_left
   ·obtain ⟨_,_,_,_,_,_,h,_⟩:=hP;cases h
   obtain ⟨l2,N2,ob2,lv2,rest,r2,hr2,hle,rfl,hlk,_⟩:=hP;injection hr2 with hr2
   subst hr2
   repeat' with_reducible first|refine ar ?_|refine au ?_|refine ⟨?_,?_⟩|intro _|simp only [go_sem,seval]
   rw [<-hK,hins];simp only [go_sem,seval];have hrow3:=hrow.ins (rest:=rest) (i:=j) (r:=m'.l) (by rw [Ad];exact hjl) (xr [m'] _ (Ay.2 rfl));rw [Ad,<-BZ,<-BY,<-List.map_cons,<-AP] at hrow3;refine ⟨_,_,_,_,l2,_,_,rfl,?_,rfl,hlk,hrow3,hrow3.bu (by rw [Ad,Ak,List.length_cons];omega)⟩;rw [show (L.take j++m'::L.drop j).length=L.length+1 by rw [Ak,List.length_cons,Av,AK];omega];exact hle
def z0:((0:Nat):Int)=0:=rfl
def z1:((1:Nat):Int)=1:=rfl
def z2:((1:Int)==0)=false:=rfl
def z3:((0:Int)==0)=true:=rfl
def z4:decide ((0:Int)<0)=false:=rfl
def VZ (f:FuncId) (caps:List AV) (N nt:Nat) (ob:List (Nat×List AV)) (lv:List Nat):ao pg 411 [.sl 6 [] .exact,.fn (.func f) [] caps] ⟨N,ob,nt,lv,gl⟩ (fun o S'=>o= .ok (.int .i64 (-1))/\S'=⟨N,ob,nt,lv,gl⟩):=by
 refine .aC Qq (by simp) (ab 60 ?_)
 repeat' with_reducible first|refine ar ?_|refine au ?_|refine ⟨?_,?_⟩|intro _|simp only [go_sem,seval]
 refine .dD 0 (fun i F S=>F=[(0,.sl 6 [] .exact),(1,.fn (.func f) [] caps),(7,.int .i64 0),(8,.int .i64 (i:Int))]/\S=⟨N,ob,nt,lv,gl⟩) ⟨rfl,rfl⟩ ?_;rintro i F S hi ⟨rfl,rfl⟩ ih;obtain rfl:i=0:=by omega
 refine bp xI.eq_1 ?_
 repeat' with_reducible first|refine ar ?_|refine au ?_|refine ⟨?_,?_⟩|intro _|simp only [go_sem,seval,z0,z4]
def V3 (vl N nt:Nat) (vc:List AV) (ob:List (Nat×List AV)) (lv:List Nat) (hv:List.lookup vl ob=some vc) (b2:aE vc=false) (hvc:vc.length=6) (hvN:vl<N):
  ao pg 416 [.sl 6 [] .exact,.int .i64 0,.aN 6 1 vl 0] ⟨N,ob,nt,lv,gl⟩ (fun o S'=>o= .ok (.aN 6 1 N 0)/\S'=⟨N+1,(N,vc)::ob,nt,lv,gl⟩):=by
 have hgv:∀ M,St.get ⟨M,ob,nt,lv,gl⟩ vl=some vc:=fun _=>hv;have htk:List.take 6 vc=vc:=AR (by omega);refine .aC Qr (by simp) (ab 200 ?_)
 repeat' with_reducible first|refine ar ?_|refine au ?_|refine ⟨?_,?_⟩|intro _|simp only [go_sem,seval,gb,fP,cS,cG,eG,eR,gk,gD,cq,bO,bH,eg,hgv,b2,hvc,htk,z0,z1,z2,z3,iX,fJ,fK,appArg]
def VW (hg:ae gl) (b:Bool) (x:It):ao pg 408 [.agg [.bool b],.sl 6 [] .ai,x.av] (.none gl) (KI gl (eM b x [])):=by
 have h410:=ID hg b x;refine .aC Qp (by simp) (ab 60 ?_);generalize hK:bI [RV.t 6] _=Q;obtain ⟨m,hm⟩:∃ m,m=mark b x:=⟨_,rfl⟩;rw [<-hm] at h410;unfold It.av It.l at h410;obtain ⟨m',hm'⟩:∃ m':It,m'={m with n:=x.n}:=⟨_,rfl⟩;unfold It.av It.l;have hge:decide ((0:Int)<= -1)=false:=rfl;have hlt:decide ((-1:Int)<0)=true:=rfl;have hfl:flat [AV.agg [.int .i64 m.v.kd,.int .i64 m.v.n,.str m.v.s,.str m.src,.int .i64 m.seq,.int .i64 x.n]]=m'.l:=by rw [hm'];rfl
 have hb6:aE m'.l=false:=fS _ _ _;have hl6:m'.l.length=6:=rfl
 repeat' with_reducible first|refine ar ?_|refine au ?_|refine .pu (h410) hg rfl ?_|refine .pu (D7) hg rfl ?_|refine bt.fY (VZ _ _ _ _ _ _) ?_|refine bt.fY (V3 3 4 0 m'.l _ [] aI hb6 hl6 (by decide)) ?_|refine ⟨?_,?_⟩|intro _|simp only [go_sem,seval,hge,hlt,z0,hfl]
 have hins:eM b x []=[m']:=by rw [hm',hm];rfl
 rw [<-hK,hins];simp only [go_sem,seval];exact ⟨_,_,_,_,_,_,_,rfl,.refl _,rfl,aI,Row.of (xr [m']) [],hb6⟩
def KI.out {ys:List It} {o:Out} {S':St} (h:KI gl ys o S'):∃ n ob nt lv gl l k xs r cs,o= .ok r/\r.Le (.aN k xs.length l 0)/\S'=⟨n,ob,nt,lv,gl⟩/\List.lookup l ob=some (flat xs++cs)/\aE (flat xs++cs)=false/\aE (flat xs)=false/\(∀ x∈xs,x.cells.length=k)/\mE (.ok (.sl k xs .ai)) (.sl 6 (ys.map It.av) .ai):=by
 obtain ⟨n,ob,nt,lv,l,r,cs,h1,h2,h3,h4,h5,hb⟩:=h
 have e:cs=flat (ys.map It.av)++cs.drop (ys.length*6):=by
  have:=h5.eq;rw [Ad] at this;rw [qV,<-this,A1]
 have hf:aE (flat (ys.map It.av))=false:=by
  cases ys with
  |nil=>rfl
  |cons y ys=>
   rw [qV];exact fS _ _ _
 rw [e] at h4 hb;exact ⟨n,ob,nt,lv,gl,l,6,ys.map It.av,r,_,h1,(by rw [Ad];exact h2),h3,h4,hb,hf,fun x hx=>by obtain ⟨y,_,rfl⟩:=Ai.1 hx;rfl,(Nm.sl (pZ ys)).2.1⟩
def vK (b:Bool) (x:It) (xs:List It):(eM b x xs).length<=xs.length+1:=by
 unfold eM;split
 ·split
  ·rw [Ak,Av,AK];omega
  ·rw [BL];omega
 ·rw [Ak,List.length_cons,Av,AK];omega
def VV (hg:ae gl) (b:Bool) (x:It) (xs:List It) (hn:xs.length<=1000000):
  Pure pg gl 408 [.agg [.bool b],.sl 6 (xs.map It.av) .ai,x.av] (.ok (.sl 6 ((eM b x xs).map It.av) .ai)):=by
 refine bw (Nm.cons (.agg (Nm.cons (.bool b) Nm.nil)) (Nm.cons (.sl (pZ xs)) (Nm.cons x.nm Nm.nil))) (Nm.sl (pZ _)).1 ?_
 cases xs with
 |nil=>exact rY (VW hg b x) fun o S' h=>h.out
 |cons x0 xs=>exact rY (VX hg b x0 x xs (by simp at hn;omega)) fun o S' h=>h.out
def zt (b:Bool) (s:aP) (x:It):aP:=⟨IntKind.i64.wrap (s.n+x.n),0,0,eM b x s.cJ,[]⟩
def acK:=(by conv=>lhs;reduce:dC [Ua,Ub,Uc,Ud] [] 0x21c3bcfdd57816ffca8148babdaa5b552f4e52d2c2d969b8572272c5db812247b71c43a5fc132f50516bf7a7e34e3931aa2cf35503e2875af1e4e97e4ab18bcb6d8f6fafa6fefc2e5d742e=_)
abbrev akp:=rP (acK (.int .i64 0) (.int .u64 0) (.sl 6 [] .exact) (.sl 2 [] .exact))
def ad6:aD pg 405 22 akp [.c 6 5 true]:= .o2 Tryz.func405 (by kernel_rfl)
def TF:=(by conv=>lhs;reduce:dC [Ua] [] 0xefa576fc928cb07f39afad5f=_)
abbrev Z3:=rP (TF (.int .i64 1))
def TH:=(by conv=>lhs;reduce:dC [Ua,Ub] [Ya] 0x4a6ad148acfa0791890801e54da2e2234246fe158c64c60983f2bca2f54c9c9ddcbbd61161ef1bb91ac7b9309fb2bf8b6abb4308be4cffda6bab893ec8c89345e=_)
def xH:=rO (TH (.int .i64 0) (.str []) Z3)
def TG:=(by conv=>lhs;reduce:dC [] [] 0x471350d891a27636f468=_)
abbrev LR:=rP TG
def acJ:=(by conv=>lhs;reduce:dC [Ua,Ub,Uc,Ud] [Ya,Yb] 0xaefbeefc3ad161a3b95712c0bf45bdb4df90f5f0b0a84e3e74fe1bf72c8796629655d5fb1bc6f5a32493251d6ea6dd7d4969e6bf43e1199e8a4f2abbf57af6e4f6ecf240c546f705894a76b1cc97fabeb01b4195c1482e38ab50cb091fa8a502708acad27bd789a146f5daddfa3447a4744a=_)
abbrev ako:=rP (acJ (.int .i64 0) (.int .u64 0) (.sl 6 [] .exact) (.sl 2 [] .exact) xH LR)
def Qo:aD pg 404 48 ako [.c 6 5 true]:= .o2 Tryz.func404 (by kernel_rfl)
def It.ex (x:It):x.av= .agg [.int .i64 x.v.kd,.int .i64 x.v.n,.str x.v.s,.str x.src,.int .i64 x.seq,.int .i64 x.n]:=rfl
def agB (hg:ae gl) (b:Bool) (s:aP) (x:It) (hn:s.cJ.length<=1000000):Pure pg gl 405 [.agg [.bool b],.agg s.l,x.av] (.ok (.agg (zt b s x).l)):=by
 have h380:=qF (gl:=gl) s.n x.n;have h408:=VV hg b x s.cJ hn;refine bw (Nm.cons (.agg (Nm.cons (.bool b) Nm.nil)) (Nm.cons s.nm (Nm.cons x.nm Nm.nil))) (zt b s x).nm.1 (.aC ad6 (by simp) (ab 60 ?_));unfold aP.l at h380 ⊢;unfold zt;rw [It.ex] at h408 ⊢
 repeat' with_reducible first|refine ar ?_|refine au ?_|refine .pu (h380) hg rfl ?_|refine .pu (h408) hg rfl ?_|refine ⟨?_,?_⟩|intro _|simp only [go_sem,seval,ku,Go.V.kK,od,mS]
 exact (zt b s x).nm.2.1
def aam:MC:=
 .seq (.iG [mc 0 2 (.sl 6 [] .exact)] [0])
 (.seq (.seq (.iG [mv 0 3 0,
   oo 1 4 (.nn 49 false (.t 3))] [0,4])
 (.cond (.t 4)
  (.seq (.iG [mc 0 2 (.sl 6 [] .exact)] [2])
  (.ret))
  (.skip)))
 (.seq (.iG [oo 0 5 (.rj 6 [.int .i64 0,.int .i64 0,.str [],.str [],.int .i64 0,.int .i64 0] []),
   mv 1 6 0,
   oo 2 7 (.app 6 64 (.t 5) (.t 6)),
   mv 3 2 7] [2])
 (.ret)))
def ac7:aD pg 407 8 aam [.t 2]:= .of Tryz.call407 Tryz.func407 (by kernel_rfl)
def t407 (x:It) (xs:List It) (hn:xs.length<=1000000):kO pg gl 407 [.sl 6 ((x::xs).map It.av) .ai] 6 ((x::xs).map It.av):=by
 have hnm:=Nm.cons (Nm.sl (k:=6) (pZ (x::xs))) Nm.nil;refine ⟨?_,by rw [Nm.map hnm];exact fun a h=>(hnm a h).1,fun v hv=>(pZ (x::xs) v hv).2.2⟩;rw [Nm.map hnm,List.map_cons];refine .aC ac7 (by simp) (ab 60 ?_);unfold aam
 repeat' with_reducible first|refine ar ?_|refine au ?_|refine ⟨?_,?_⟩|intro _|simp only [go_sem,seval,vX,fJ,fK,appArg,bO,gw,jU]
 ·omega
 ·omega
 ·exact 0
 ·rfl
 ·rfl
def xT (n:Nat) (ob:List (Nat×List AV)) (nt:Nat) (live:List Nat) (gl:List (Nat×List AV)):St.own ⟨n,ob,nt,live,gl⟩=⟨n,ob,nt+1,nt::live,gl⟩:=rfl
def ky (s t:aP):aP:=⟨IntKind.i64.wrap (s.n+t.n),0,0,s.cJ++t.cJ,[]⟩
def VU (hg:ae gl) (s t:aP) (hn:s.cJ.length<=1000000) (ht:t.cJ.length<=1000000):Pure pg gl 404 [.agg [.bool true],.agg s.l,.agg t.l] (.ok (.agg (ky s t).l)):=by
 have h380:=qF (gl:=gl) s.n t.n;refine bw (Nm.cons (.agg (Nm.cons (.bool true) Nm.nil)) (Nm.cons s.nm (Nm.cons t.nm Nm.nil))) (ky s t).nm.1 (.aC Qo (by simp) (ab 60 ?_));have hfin:=(ky s t).nm.2.1;unfold aP.l at h380 hfin ⊢;unfold ky at hfin ⊢;rw [AP] at hfin ⊢;obtain ⟨L,hL⟩:∃ L,L=s.cJ:=⟨_,rfl⟩;rcases L with _|⟨x,xs⟩
 ·have h407:=D7 (gl:=gl);rw [<-hL,Az] at hfin ⊢
  repeat' with_reducible first|refine ar ?_|refine au ?_|refine .pu (h380) hg rfl ?_|refine .pu (h407) hg rfl ?_|refine ⟨?_,?_⟩|intro _|simp only [go_sem,seval,ku,Go.V.kK,od,mS,xT,gw,jU]
  ·omega
  ·omega
  ·exact hfin
 ·have h407:=t407 (gl:=gl) x xs (by rw [<-hL] at hn;simp at hn;omega);rw [hL] at h407
  repeat' with_reducible first|refine ar ?_|refine au ?_|refine .pu (h380) hg rfl ?_|refine .tk (h407) hg rfl ?_|refine ⟨?_,?_⟩|intro _|simp only [go_sem,seval,ku,Go.V.kK,od,mS,xT,gw,jU]
  ·exact .inr ⟨0,rfl,A3 ..⟩
  ·omega
  ·omega
  ·exact hfin
def iC (acc:List It) (y:It):List It:=if y.n==0 then acc else eM false y acc
def kB (s t:aP):aP:=⟨IntKind.i64.wrap (s.n+t.n),0,0,t.cJ.foldl iC s.cJ,[]⟩
def Ny (acc:List It) (y:It):(iC acc y).length<=acc.length+1:=by
 unfold iC;split
 ·omega
 ·exact vK false y acc
def Ja {n N nt:Nat} {kk:List MI} {F:Fr} {Q:er} {ob:List (Nat×List AV)} {lv:List Nat} {a b c:List AV} (l4:List.lookup 4 ob=some a) (l3:List.lookup 3 ob=some b) (l0:List.lookup 0 ob=some c)
  (h:ah pg n kk [] F ⟨N,[(4,a),(3,b),(0,c)],nt,[],gl⟩ Q):ah pg n kk [] F ⟨N,ob,nt,lv,gl⟩ Q:=
 ah.cB h (fun l cs h=>by
  simp only [List.lookup_cons,List.lookup_nil] at h;split at h
  ·rename_i e;rw [show l=4 by simpa using e,l4,h]
  ·split at h
   ·rename_i e;rw [show l=3 by simpa using e,l3,h]
   ·split at h
    ·rename_i e;rw [show l=0 by simpa using e,l0,h]
    ·cases h) (fun x h=>by cases h)
def VT (hg:ae gl) (s t:aP) (hn:s.cJ.length+t.cJ.length<=1000000):Pure pg gl 404 [.agg [.bool false],.agg s.l,.agg t.l] (.ok (.agg (kB s t).l)):=by
 have h380:=qF (gl:=gl) s.n t.n;refine bw (Nm.cons (.agg (Nm.cons (.bool false) Nm.nil)) (Nm.cons s.nm (Nm.cons t.nm Nm.nil))) (kB s t).nm.1 (.aC Qo (by simp) (ab 60 ?_));have hfin:=(kB s t).nm.2.1;generalize hK:bI [RV.c 6 5 true] _=Q;unfold aP.l at h380 ⊢
 have loop:∀ (F:Fr) (N nt:Nat) (lv:List Nat) (tk:bE) (ob:List (Nat×List AV)),F=[(3,.ptr 0 0),(6,.ptr 3 0),(7,.ptr 4 0),(31,.sl 6 (t.cJ.map It.av) .ai),(32,.int .i64 (t.cJ.length:Int)),(33,.int .i64 0)]->5<=N->
   List.lookup 4 ob=some [.int .i64 (IntKind.i64.wrap (s.n+t.n)),.int .i64 0,.int .u64 0,.sl 6 (s.cJ.map It.av) tk,.sl 2 [] .ai]->List.lookup 3 ob=some [.int .i64 0,.int .i64 0,.int .u64 0,.sl 6 [] .exact,.sl 2 [] .exact]->List.lookup 0 ob=some [.jH 194 (some false)]->
   ah pg 48 [.code (.loop xH),.inBlock 0,.code (.named [6,7] LR)] [] F ⟨N,ob,nt,lv,gl⟩ Q:=by
  intro F N nt lv tk ob hF hN l4 l3 l0;subst hF;refine Ja l4 l3 l0 ?_;refine .dD t.cJ.length (fun i F S=>F=[(3,.ptr 0 0),(6,.ptr 3 0),(7,.ptr 4 0),(31,.sl 6 (t.cJ.map It.av) .ai),(32,.int .i64 (t.cJ.length:Int)),(33,.int .i64 (i:Int))]/\∃ N nt tk acc,5<=N/\S=⟨N,[(4,[.int .i64 (IntKind.i64.wrap (s.n+t.n)),.int .i64 0,.int .u64 0,.sl 6 (acc.map It.av) tk,.sl 2 [] .ai]),(3,[.int .i64 0,.int .i64 0,.int .u64 0,.sl 6 [] .exact,.sl 2 [] .exact]),(0,[.jH 194 (some false)])],nt,[],gl⟩/\acc.length<=s.cJ.length+i/\(t.cJ.drop i).foldl iC acc=t.cJ.foldl iC s.cJ) ⟨rfl,N,nt,tk,s.cJ,hN,rfl,Af _,rfl⟩ ?_;rintro i F S hi ⟨rfl,N,nt,tk,acc,hN,rfl,hal,he⟩ ih
  by_cases h:i<t.cJ.length
  ·obtain ⟨y,hy⟩:=aK h;have hd:=bY hy;rw [hd,List.foldl_cons] at he;have hym:(t.cJ.map It.av)[i]? =some (.agg [.int .i64 y.v.kd,.int .i64 y.v.n,.str y.v.s,.str y.src,.int .i64 y.seq,.int .i64 y.n]):=by rw [Ap,hy];rfl
   have h408:=VV (gl:=gl) hg false y acc (by omega);rw [It.ex] at h408;have hN4:(4=N)=False:=eq_false (by omega);have hN3:(3=N)=False:=eq_false (by omega);have hN0:(0=N)=False:=eq_false (by omega);refine bp xH.eq_1 ?_
   repeat' first
    |with_reducible first|refine ar ?_|refine au ?_|refine .pu (Pure.conv (h408) (by simp only [bz])) hg rfl ?_|refine ⟨?_,?_⟩|intro _
    |simp only [go_sem,seval,hym,fk h,eD h,hN4,hN3,hN0,ku,Go.V.kK,od,mS,Ad,ba (show i<9223372036854775807 by omega)]
   ·rename_i hz;have ha:iC acc y=eM false y acc:=if_neg (by simpa using hz);have hl:=vK false y acc;rw [ha] at he;exact Ja aI (by repeat first|exact aI|rw [aw (by omega)]) (by repeat first|exact aI|rw [aw (by omega)]) (ih h _ _ ⟨rfl,N+1,nt,.ai,eM false y acc,by omega,rfl,by omega,he⟩)
   ·rename_i hz;have ha:iC acc y=acc:=if_pos (by simpa using hz);rw [ha] at he;exact Ja (by repeat first|exact aI|rw [aw (by omega)]) (by repeat first|exact aI|rw [aw (by omega)]) (by repeat first|exact aI|rw [aw (by omega)]) (ih h _ _ ⟨rfl,N+1,nt,tk,acc,by omega,rfl,by omega,he⟩)
  ·refine bp xH.eq_1 ?_
   repeat' first
    |with_reducible first|refine ar ?_|refine au ?_|refine ⟨?_,?_⟩|intro _
    |simp only [go_sem,seval,fE (Am h),Ad]
   rw [AE (Am h)] at he;have he:acc=t.cJ.foldl iC s.cJ:=he;rw [<-hK];simp only [go_sem,seval];subst he;exact hfin
 obtain ⟨L,hL⟩:∃ L,L=s.cJ:=⟨_,rfl⟩;rcases L with _|⟨x,xs⟩
 ·have h407:=D7 (gl:=gl);rw [<-hL,Az]
  repeat' with_reducible first|refine ar ?_|refine au ?_|refine .pu (h380) hg rfl ?_|refine .pu (h407) hg rfl ?_|refine ⟨?_,?_⟩|intro _|simp only [go_sem,seval,ku,Go.V.kK,od,mS,xT,gw,jU,Ad]
  exact loop _ _ _ _ .exact _ rfl (by decide) (by rw [<-hL];exact aI) (by repeat first|exact aI|rw [aw (by omega)]) (by repeat first|exact aI|rw [aw (by omega)])
 ·have h407:=t407 (gl:=gl) x xs (by have:s.cJ.length=xs.length+1:=(by rw [<-hL];rfl);omega);rw [hL] at h407
  repeat' with_reducible first|refine ar ?_|refine au ?_|refine .pu (h380) hg rfl ?_|refine .tk (h407) hg rfl ?_|refine ⟨?_,?_⟩|intro _|simp only [go_sem,seval,ku,Go.V.kK,od,mS,xT,gw,jU,Ad]
  exact loop _ _ _ _ (.tok 0) _ rfl (by decide) aI (by repeat first|exact aI|rw [aw (by omega)]) (by repeat first|exact aI|rw [aw (by omega)])
def cN.fn:cN->FuncId
 | .bl=>378
 | .add=>382
 | .ja=>388
 | .gr _=>404
def cN.rv:cN->AV
 | .gr b=> .agg [.bool b]
 |_=> .agg []
def agZ:=(by conv=>lhs;reduce:dC [Ua,Ub,Uc,Ud] [] 0xdbe9fe5fc4c42ffdbee4b76ab4cb9be1a693ec9a024538352eba34ccf4c631323acf500faf8459879ac287b28d6941a0e311567a50bbdc5ba87c9bec587d646dad02a081522af42d=_)
abbrev m33:=rP (agZ (.int .i64 0) (.int .u64 0) (.sl 6 [] .exact) (.sl 2 [] .exact))
def Xw:aD pg 33 21 m33 [.c 6 5 true]:= .o2 Tryz.func33 (by kernel_rfl)
def agW:=(by conv=>lhs;reduce:dC [Ua] [] 0x4f34eb156eac47ce12b0c18082b1401be1271ec4e30b41a=_)
abbrev m30:=rP (agW (.int .i64 0))
def Xt:aD pg 30 10 m30 [.t 4]:= .o2 Tryz.func30 (by kernel_rfl)
def agY:=(by conv=>lhs;reduce:dC [Ua,Ub,Uc,Ud] [] 0xc4a9a2e868a04b1b30cd1db6d4b4a60db6dace7e10d7719ef6044399b2a9a3317054c005b8334a87751e685081d94ce48b41f=_)
abbrev m32:=rP (agY (.int .i64 0) (.int .u64 0) (.sl 6 [] .exact) (.sl 2 [] .exact))
def Xv:aD pg 32 15 m32 [.c 5 6 true]:= .o2 Tryz.func32 (by kernel_rfl)
def ag1:=(by conv=>lhs;reduce:dC [Ua,Ub] [] 0xc29aec71145cd43=_)
abbrev m35:=rP (ag1 (.bool false) (.bool true))
def Xx:aD pg 35 3 m35 [.t 2]:= .o2 Tryz.func35 (by kernel_rfl)
def c33 (hg:ae gl) (op:List UInt8) (f:cN) (hf:iN op=some f) (s t u:aP) (h:Pure pg gl f.fn [f.rv,.agg s.l,.agg t.l] (.ok (.agg u.l))):Pure pg gl 33 [.str op,.agg s.l,.agg t.l] (.ok (.agg u.l)):=by
 have h65:=V5 (gl:=gl) op;unfold sw at h65;rw [hf] at h65;refine bw (Nm.cons (.str op) (Nm.cons s.nm (Nm.cons t.nm Nm.nil))) u.nm.1 (.aC Xw (by simp) (ab 60 ?_));have hfin:=u.nm.2.1;obtain ⟨U,hU⟩:∃ U,U=u.l:=⟨_,rfl⟩;have hUl:(U.length==5)=true:=by rw [hU];rfl
 have hUd:List.drop U.length [AV.int .i64 0,.int .i64 0,.int .u64 0,.sl 6 [] .exact,.sl 2 [] .exact]=[]:=by rw [hU];rfl
 rw [<-hU] at h hfin ⊢;unfold aP.l at h ⊢;cases f<;>simp only [cN.fn,cN.rv,cN.av] at h h65
 all_goals
  repeat' with_reducible first|refine ar ?_|refine au ?_|refine .pu (h65) hg rfl ?_|refine .pu (h) hg rfl ?_|refine ⟨?_,?_⟩|intro _|simp only [go_sem,seval,CI,CJ,List.lookup_cons,hUl,hUd]
  subst hU;exact hfin
def c30 (hg:ae gl) (c d:Cl) (hc:∀ v∈c.2,Nm v) (hd:∀ v∈d.2,Nm v):Pure pg gl 30 [.agg (.int .i64 c.1::c.2),.agg (.int .i64 d.1::d.2)] (.ok (.int .i64 (bP c.1 d.1))):=by
 refine bw (Nm.cons (.agg (Nm.cons (.int _ _) hc)) (Nm.cons (.agg (Nm.cons (.int _ _) hd)) Nm.nil)) (.int _ _) (.aC Xt (by simp) (ab 60 ?_));have hb:=iQ c;have hb2:=iQ d
 repeat' first
  |with_reducible first|refine ar ?_|refine au ?_|refine .pu (Ky hg _ _) hg rfl ?_|refine ⟨?_,?_⟩|intro _
  |simp only [go_sem,seval,hb,hb2,List.getElem?_cons_zero]
 exact rfl
def c35 (c:Cl) (hc:∀ v∈c.2,Nm v):Pure pg gl 35 [.agg (.int .i64 c.1::c.2)] (.ok (.bool true)):=by
 refine bw (Nm.cons (.agg (Nm.cons (.int _ _) hc)) Nm.nil) (.bool _) (.aC Xx (by simp) (ab 60 ?_))
 repeat' with_reducible first|refine ar ?_|refine au ?_|refine ⟨?_,?_⟩|intro _|simp only [go_sem,seval]
 exact rfl
def c32 (hg:ae gl) (op:List UInt8) (e1 e2:Int) (s t u:aP) (ob0 N nt:Nat) (ob:List (Nat×List AV)) (lv:List Nat) (hf:bJ N ob) (h1:List.lookup ob0 ob=some [.str op]) (h33:Pure pg gl 33 [.str op,.agg s.l,.agg t.l] (.ok (.agg u.l))):
  ao pg 32 [.agg (.int .i64 e1::s.l),.agg (.int .i64 e2::t.l),.ptr ob0 0] ⟨N,ob,nt,lv,gl⟩ (eJ (fun o=>o= .ok (.agg (.int .i64 e1::u.l))) ⟨N,ob,nt,lv,gl⟩):=by
 have hgo:∀ M,St.get ⟨M,ob,nt,lv,gl⟩ ob0=some [.str op]:=fun _=>h1;have hlt:=hf.lt h1;have hN0:(ob0=N)=False:=eq_false (hf.ne h1);have hN1:(ob0=N+1)=False:=eq_false (by omega);have hN2:(ob0=N+1+1)=False:=eq_false (by omega);refine gu (.aC Xv (by simp) ?_);unfold aP.l at h33 ⊢;generalize hK:bI [RV.c 5 6 true] _=Q;refine ab 60 ?_
 repeat' with_reducible first|refine ar ?_|refine au ?_|refine .pu (h33) hg rfl ?_|refine ⟨?_,?_⟩|intro _|simp only [go_sem,seval,hgo,hN0,hN1,hN2]
 all_goals first
  |(rw [<-hK];simp only [aM];done)
  |skip
 rw [<-hK];simp only [go_sem,seval];refine ⟨by omega,fun l cs h=>?_,fun t h=>h⟩;have hl:=hf.lt h;rw [aw (by omega),aw (by omega),aw (by omega),aw (by omega)];exact h
def cN.pf:cN->FuncId
 | .bl=>379
 | .add=>383
 | .ja=>389
 | .gr _=>405
def R4:=(by conv=>lhs;reduce:dC [] [] 0x2fdeda70ac0aa597e61862e=_)
abbrev Yw:=rP R4
def R5:=(by conv=>lhs;reduce:dC [] [] 0x2bb90cc228b931175a8b919e7b981f941133e6ed15db47ad18e0e20d343a=_)
abbrev Yx:=rP R5
def abX:=(by conv=>lhs;reduce:dC [Ua,Ub,Uc,Ud,Ue] [Ya,Yb] 0x12e155d5735ab59223b95230f2a7e49e8f7b47524a7c65b2cfbb83dbd3665d6d57a50bbdc5ba87c9bec587d646dad02a081522af42d=_)
abbrev Yv:=rP (abX (.int .i64 0) (.int .u64 0) (.sl 6 [] .exact) (.sl 2 [] .exact) (.bool true) Yw Yx)
def P7:aD pg 142 26 Yv [.c 6 5 true]:= .o2 Tryz.func142 (by kernel_rfl)
def acn:=(by conv=>lhs;reduce:dC [Ua,Ub,Uc,Ud] [] 0x85eebde38f9093a96624ba46ffcf5fb18e1151224ba93061b62a8d413c0629af7bafd341d=_)
abbrev aj8:=rP (acn (.int .i64 0) (.int .u64 0) (.sl 6 [] .exact) (.sl 2 [] .exact))
def adV:aD pg 379 13 aj8 [.c 6 5 true]:= .o2 Tryz.func379 (by kernel_rfl)
def IB (hg:ae gl) (op:List UInt8) (f:cN) (hf:iN op=some f) (s u:aP) (x:It) (hx:(x.n==0)=false) (h:Pure pg gl f.pf [f.rv,.agg s.l,x.av] (.ok (.agg u.l))):Pure pg gl 142 [.str op,.agg s.l,x.av] (.ok (.agg u.l)):=by
 have h65:=V5 (gl:=gl) op;unfold sw at h65;rw [hf] at h65;refine bw (Nm.cons (.str op) (Nm.cons s.nm (Nm.cons x.nm Nm.nil))) u.nm.1 (.aC P7 (by simp) (ab 60 ?_));have hfin:=u.nm.2.1;obtain ⟨U,hU⟩:∃ U,U=u.l:=⟨_,rfl⟩;have hUl:(U.length==5)=true:=by rw [hU];rfl
 have hUd:List.drop U.length [AV.int .i64 0,.int .i64 0,.int .u64 0,.sl 6 [] .exact,.sl 2 [] .exact]=[]:=by rw [hU];rfl
 rw [<-hU] at h hfin ⊢;rw [It.ex] at h ⊢;unfold aP.l at h ⊢;cases f<;>simp only [cN.pf,cN.rv,cN.av] at h h65
 all_goals
  repeat' with_reducible first|refine ar ?_|refine au ?_|refine .pu (h65) hg rfl ?_|refine .pu (h) hg rfl ?_|refine ⟨?_,?_⟩|intro _|simp only [go_sem,seval,CI,CJ,List.lookup_cons,hUl,hUd,hx]
  subst hU;exact hfin
def ags (hg:ae gl) (s:aP) (x:It):Pure pg gl 379 [.agg [],.agg s.l,x.av] (.ok (.agg (aP.l ⟨IntKind.i64.wrap (s.n+x.n),0,0,[],[]⟩))):=by
 refine bw (Nm.cons nR (Nm.cons s.nm (Nm.cons x.nm Nm.nil))) (aP.nm _).1 (.aC adV (by simp) (ab 60 ?_));have h380:=qF (gl:=gl) s.n x.n;rw [It.ex];unfold aP.l at h380 ⊢
 repeat' with_reducible first|refine ar ?_|refine au ?_|refine .pu (h380) hg rfl ?_|refine ⟨?_,?_⟩|intro _|simp only [go_sem,seval,ku,Go.V.kK,od]
 exact rfl
def ec (c:Cl):AV:= .agg c.r
def kU:∀ C:List Cl,flat (C.map ec)=(dh C).flatten
 |[]=>rfl
 |c::C=>by
  have ih:=kU C;unfold dh at ih ⊢;rw [List.map_cons,dj,ih];rfl
def agV:=(by conv=>lhs;reduce:dC [Ua,Ub,Uc,Ud] [] 0x946f878ad3abedad8ab0c572343e2be702c31f85eacdec78c188ac3418=_)
abbrev m29:=rP (agV (.sl 6 [] .exact) (.int .i64 0) (.int .u64 0) (.sl 2 [] .exact))
def Xs:aD pg 29 8 m29 [.t 2]:= .o2 Tryz.func29 (by kernel_rfl)
def c29 (c:Cl) (C:List Cl) (N nt:Nat) (ob:List (Nat×List AV)) (lv:List Nat) (hn:C.length<=1000000):
  ao pg 29 [.sl 6 ((c::C).map ec) .ai] ⟨N,ob,nt,lv,gl⟩ fun o S'=>o= .ok (.aN 6 (C.length+1) N 0)/\S'=⟨N+1,(N,(dh (c::C)).flatten)::ob,nt,lv,gl⟩:=by
 refine .aC Xs (by simp) (ab 200 ?_);rw [<-kU,List.map_cons]
 repeat' with_reducible first|refine ar ?_|refine au ?_|refine ⟨?_,?_⟩|intro _|simp only [go_sem,seval,vX,fJ,fK,appArg,bO]
 all_goals first
  |omega
  |rfl
def Dz (gl:List (Nat×List AV)) (f:FuncId):Prop:=∀ c d:Cl,(∀ v∈c.2,Nm v)->(∀ v∈d.2,Nm v)->Pure pg gl f [.agg (.int .i64 c.1::c.2),.agg (.int .i64 d.1::d.2)] (.ok (.int .i64 (bP c.1 d.1)))
def iE.le {σ:Type}:∀ {C:List (Int×σ)} {i j:Nat} {c d:Int×σ},iE C->C[i]? =some c->C[j]? =some d->i<=j->c.1<=d.1
 |[],_,_,_,_,_,h,_,_=>by cases h
 |[_],0,0,_,_,_,h,h',_=>by cases h;cases h';exact Ax _
 |[_],0,j+1,_,_,_,_,h',_=>by cases h'
 |[_],i+1,_,_,_,_,h,_,_=>by cases h
 |c0::d0::r,0,0,_,_,_,h,h',_=>by cases h;cases h';exact Ax _
 |c0::d0::r,0,j+1,c,d,ha,h,h',_=>by
  cases h;have:=iE.le (i:=0) (j:=j) (c:=d0) (d:=d) ha.2 rfl h' (Au _);have:=ha.1;omega
 |c0::d0::r,i+1,0,_,_,_,_,_,h=>by omega
 |c0::d0::r,i+1,j+1,c,d,ha,h,h',hij=>iE.le (i:=i) (j:=j) ha.2 h h' (by omega)
def Sf:=(by conv=>lhs;reduce:dC [] [] 0x3876e64b=_)
abbrev YH:=rP Sf
def Sg:=(by conv=>lhs;reduce:dC [Ua] [] 0x3448ecaed4d2fb0f46debd7a1b19ad1b4ff412238ae3e3b401a5f4acee1ea67a6e7f05c16ad489bd0859526e52ff48c55121b4b6a9cc83c3baa7d7ccec6d=_)
abbrev YI:=rP (Sg (.int .i64 1))
def Si:=(by conv=>lhs;reduce:dC [Ua,Ub,Uc] [Ya,Yb] 0x4a7f4785576e0f7beee8f83c5c19f07f240bc2018878a69179124b476e691495c4794a160cab4079718509f52efb3cb7b6073e792855c798f31304b=_)
def xF:=rO (Si (.int .i64 1) (.int .i64 0) (.bool false) YH YI)
def Sh:=(by conv=>lhs;reduce:dC [Ua] [] 0x6154aff6f1c18f7127d29=_)
abbrev YJ:=rP (Sh (.int .i64 1))
def Sj:=(by conv=>lhs;reduce:dC [] [Ya,Yb] 0xedad418a977175378e5c8525c87c1a911ac7a306789f253ced02a=_)
def sN:=rO (Sj xF YJ)
def ab5:=(by conv=>lhs;reduce:dC [Ua] [Ya] 0x9cbbca233b8a5da1f1ee86341c=_)
abbrev YG:=rP (ab5 (.int .i64 1) sN)
def I0:aD pg 150 53 YG []:= .o2 Tryz.func150 (by kernel_rfl)
def aga (hg:ae gl) (f:FuncId) (hf:Dz gl f) (l N nt a b:Nat) (cs:List AV) (C:List Cl) (ob:List (Nat×List AV)) (lv:List Nat) (hl:List.lookup l ob=some cs) (h:Row cs (dh C)) (hs:iE C) (hn:C.length<=1000000000) (hb:b<=C.length) (hab:a<=b):
  ao pg 150 [.aN 6 C.length l 0,.int .i64 (a:Int),.int .i64 (b:Int),.fn (.func f) [] []] ⟨N,ob,nt,lv,gl⟩ fun o S'=>o= .ok (.aF [])/\S'=⟨N,ob,nt,lv,gl⟩:=by
 have hgl:∀ M,St.get ⟨M,ob,nt,lv,gl⟩ l=some cs:=fun _=>hl;have hw:IntKind.i64.wrap ((a:Int)+1)=((a+1:Nat):Int):=by rw [aR (by omega) (by omega)];rfl
 refine .aC I0 (by simp) (ab 200 ?_);generalize hK:bI _ _=Q
 repeat' with_reducible first|refine ar ?_|refine au ?_|refine ⟨?_,?_⟩|intro _|simp only [go_sem,seval,hw]
 refine .ga (fun m F S=>∃ i:Nat,F=[(0,.aN 6 C.length l 0),(1,.int .i64 (a:Int)),(2,.int .i64 (b:Int)),(3,.fn (.func f) [] []),(8,.int .i64 (i:Int))]/\S=⟨N,ob,nt,lv,gl⟩/\a<i/\m=b-i) (b-(a+1)) ⟨a+1,rfl,rfl,by omega,rfl⟩ ?_;rintro m F S ⟨i,rfl,rfl,hi,rfl⟩ ih
 by_cases hib:i<b
 ·obtain ⟨c,hc⟩:∃ c,C[i]? =some c:=aK (by omega);obtain ⟨d,hd⟩:∃ d,C[i-1]? =some d:=aK (by omega);obtain ⟨e1,e2⟩:=h.at (gF hc);obtain ⟨e3,e4⟩:=h.at (gF hd);have hbl:=h.bu (by rw [gg];omega);have hle:=hs.le hd hc (by omega);have hcmp:=hf c d (h.r6.cl (Aj hc)).2 (h.r6.cl (Aj hd)).2;have hlt:decide (bP c.1 d.1<0)=false:=decide_eq_false fun h=>by have:=tQ.1 h;omega
  have hw1:IntKind.i64.wrap ((i:Int)-1)=((i-1:Nat):Int):=by rw [aR (by omega) (by omega)];omega
  refine bp sN.eq_1 ?_
  repeat' with_reducible first|refine ar ?_|refine au ?_|refine ⟨?_,?_⟩|intro _|simp only [go_sem,seval,fk hib]
  refine ah.ek (ab 60 (bM xF.eq_1 ?_))
  repeat' first
   |with_reducible first|refine ar ?_|refine au ?_|refine .pu (hcmp) hg rfl ?_|refine ⟨?_,?_⟩|intro _
   |simp only [go_sem,seval,show decide ((i:Int)>(a:Int))=true from decide_eq_true (by omega),show decide ((a:Int)<(i:Int))=true from decide_eq_true (by omega),hgl,hbl,e1,e2,e3,e4,hlt,hw1,ba (show i<9223372036854775807 by omega)]
  all_goals first
   |omega
   |(rw [<-hK];simp only [aM];done)
   |skip
  exact ih (b-(i+1)) _ _ (by omega) ⟨i+1,rfl,rfl,by omega,rfl⟩
 ·refine bp sN.eq_1 ?_
  repeat' first
   |with_reducible first|refine ar ?_|refine au ?_|refine ⟨?_,?_⟩|intro _
   |simp only [go_sem,seval,fE (Am hib)]
  rw [<-hK];simp only [go_sem,seval]
section
open Go.RowKit Go.Sort
def vg (r:Nat):∀ (vs:List Value) (o:Nat) (w:World),Go.V.putCells w r o vs=w.setCells r o vs
 |[],_,_=>rfl
 |v::vs,o,w=>vg r vs (o+1) (w.setCell ⟨r,o,none⟩ v)
def Gy (F:Array Value) (vs:List Value) (h:vs.length=F.size):Go.Sort.setMany F 0 vs=vs.toArray:=by
 apply Array.ext_getElem?;intro i
 by_cases hi:i<F.size
 ·have h1:=Go.Sort.get_setMany vs 0 F i hi;rw [if_pos ⟨Au _,by omega⟩,Nat.sub_zero] at h1;rw [getElem!_pos _ i (by simpa using hi),getElem!_pos vs i (by omega)] at h1;rw [Array.getElem?_eq_getElem (by simpa using hi),h1];simp [h,hi]
 ·rw [Bf (by simp;omega),Bf (by simp;omega)]
def OY {w:World} {r:Nat} {F:Array Value} (h:Go.Sort.Holds id w r 0 F) (vs:List Value) (hs:vs.length=F.size):Go.V.putCells w r 0 vs=Go.Sort.putRow id w r 0 vs.toArray:=by
 have h1:=Go.Sort.setCells_putRow w r 0 vs 0 F (by omega);rw [Go.Sort.putRow_self id w r 0 F h,Gy F vs hs] at h1;rw [vg];exact h1
def JH (enc:Int->Value) (w:World) (r:Nat) (d:List Int):Go.Sort.putRow enc w r 0 d.toArray=Go.Sort.putRow id w r 0 (d.map enc).toArray:=by
 unfold Go.Sort.putRow
 congr 1
 funext c
 unfold Go.Sort.putCells
 congr 1
 funext k x
 simp only [List.size_toArray,Ad,Aw,Nat.sub_zero,Au,true_and,id];split
 ·rename_i h;rw [getElem!_pos _ k (by simpa using h),getElem!_pos _ k (by simpa using h)];simp
 ·rfl
def EI (G:Gh):∀ zs:List Int,br G (zs.map (AV.int .i64)) (zs.map (Value.int .i64))
 |[]=> .nil G
 |z::zs=> .cons (.int _ _) rfl (EI G zs)
def qU:∀ zs:List Int,aE (zs.map (AV.int .i64))=false
 |[]=>rfl
 |[_]=>rfl
 |_::_::_=>rfl
def gf (zs:List Int):List Int:=zs.mergeSort fun x y=>decide (x<=y)
def agb (l N nt:Nat) (zs:List Int) (ob:List (Nat×List AV)) (lv:List Nat) (hl:List.lookup l ob=some (zs.map (AV.int .i64))) (hn:zs.length<4611686018427387904):
  ao pg 162 [.aN 1 zs.length l 0] ⟨N,ob,nt,lv,gl⟩ fun o S'=>o= .ok (.aF [])/\S'=⟨N,(l,(gf zs).map (AV.int .i64))::ob,nt,lv,gl⟩:=by
 intro wb G w vs hS hv;obtain ⟨v1,vs1,rfl,e1,hv⟩:=hv.cons_inv;obtain rfl:=hv.iz
 cases e1 with
 |aN _ hr hc=>
  rename_i r cap _;obtain ⟨r',hr',hm⟩:=hS.obj l _ hl (qU zs);obtain rfl:=AX (hr.symm.trans hr')
  have hH:Holds (Value.int .i64) w r 0 zs.toArray:=by
   intro j hj;have hj':j<zs.length:=by simpa using hj
   obtain ⟨v,h1,h2,_,h4⟩:=hm j (.int .i64 zs[j]) (by rw [Ap,AJ hj'];rfl);obtain rfl:=h2.gI;rw [Aw,getElem!_pos _ j (by simpa using hj')];exact ⟨by rw [h1];simp,h4⟩
  unfold km;rw [Tryz.call162];have hcall:=Tryz.slices_Sort_int r 0 cap zs w hH (hS.bT _ _ hr).2.2 hn;refine hcall.mono ?_;rintro e w' ⟨rfl,n,os,rfl⟩;have hlen:(gf zs).length=zs.length:=List.length_mergeSort ..
  have hH':Holds id (Go.Sort.ahead w n) r 0 (zs.map (Value.int .i64)).toArray:=by
   intro j hj;have hj':j<zs.length:=by simpa using hj
   have:=hH j (by simpa using hj');rw [getElem!_pos _ j (by simpa using hj')] at this ⊢;simpa using this
  have hput:=OY hH' ((gf zs).map (Value.int .i64)) (by simp [hlen]);have hst:=(hS.drewN n).store (ds:=(gf zs).map (AV.int .i64)) (vs:=(gf zs).map (Value.int .i64)) (o:=0) hl hr (EI G _) (by simp [hlen]) (qU zs)
  have hsp:cn (zs.map (AV.int .i64)) 0 ((gf zs).map (AV.int .i64))=(gf zs).map (AV.int .i64):=by
   unfold cn;rw [List.take_zero,List.nil_append,AE (by simp [hlen]),AB]
  rw [JH];change Nr wb G _ _ (grow (Go.Sort.putRow id (Go.Sort.ahead w n) r 0 ((gf zs).map (Value.int .i64)).toArray) os);rw [<-hput];rw [hsp] at hst
  have ht:af G (.aF []) (.tuple #[]):=by
   have:=af.aF (G:=G) (cs:=[]) (vs:=[]) rfl (by simp);exact this
  exact ⟨G,_,Gh.le_refl G,hst.grow os,AV.aF [],ht,rfl,rfl⟩
end
end Go.Proofs.YtoopnalhhfmgaaaGreatDoor
