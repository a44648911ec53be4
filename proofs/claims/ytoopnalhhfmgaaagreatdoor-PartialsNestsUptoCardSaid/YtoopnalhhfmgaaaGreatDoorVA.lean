/- The by-value layer, part one: abstract values, what they mean in a world, and what stays when the world grows. No program in sight. -/
import Derived.Calls
import Derived.Laws.Sem
import Derived.Laws.World
import Derived.Laws.Cells
import Derived.Lib.FrozenHead
import Derived.Laws.StructEq
import Derived.Laws.Append
import Derived.Laws.BytesString
import Derived.Great.FillDense
set_option linter.defProp false
set_option linter.unusedSimpArgs false
set_option linter.unusedVariables false
namespace Go
def Aa:=@Bool.and_eq_true
def Ab:=@List.mem_cons
def Ac:=@Prod.mk.injEq
def Ad:=@List.length_map
def Ae:=@Option.some.injEq
def Af:=@Nat.le_refl
def Ag:=@Option.map_eq_some_iff
def Ah:=@Bool.false_eq_true
def Ai:=@List.mem_map
def Aj:=@List.mem_of_getElem?
def Ak:=@List.length_append
def Al:=@Nat.lt_or_ge
def Am:=@Nat.le_of_not_lt
def Ao:=@List.mem_cons_of_mem
def Ap:=@List.getElem?_map
def Aq:=@Array.ext'
def Ar:=@Option.bind_eq_some_iff
def As:=@List.getElem?_eq_none
def Au:=@Nat.zero_le
def Av:=@List.length_take
def Aw:=@Nat.zero_add
def Ax:=@Int.le_refl
def Ay:=@List.mem_singleton
def Az:=@List.map_nil
def AA:=@List.mem_append
def AB:=@List.append_nil
def AD:=@List.not_mem_nil
def AE:=@List.drop_eq_nil_of_le
def AF:=@List.getElem?_append_left
def AG:=@List.getElem?_append_right
def AH:=@Nat.le_trans
def AI:=@Bool.or_eq_true
def AJ:=@List.getElem?_eq_getElem
def AK:=@List.length_drop
def AL:=@List.append_assoc
def AM:=@Nat.add_mul
def AN:=@List.all_eq_true
def AO:=@List.getElem?_drop
def AP:=@List.map_append
def AQ:=@List.pairwise_cons
def AR:=@List.take_of_length_le
def AT:=@Ne.symm
def AU:=@List.getD_eq_getElem?_getD
def AW:=@List.mem_append_left
def AX:=@Option.some.inj
def AY:=@List.map_map
def AZ:=@List.map_toArray
def A1:=@List.take_append_drop
def A2:=@List.eq_nil_of_length_eq_zero
def A3:=@List.mem_cons_self
def A4:=@Nat.add_assoc
def A5:=@List.mem_of_mem_take
def A6:=@Nat.le_of_ble_eq_true
def A7:=@Bool.not_eq_true'
def A8:=@Int.add_zero
def A9:=@List.mem_append_right
def Ba:=@List.mem_of_mem_drop
def Bb:=@List.mem_replicate
def Bc:=@Nat.eq_of_beq_eq_true
def Be:=@Nat.mul_le_mul_right
def Bf:=@Array.getElem?_eq_none
def Bg:=@List.drop_drop
def Bh:=@List.getElem?_take
def Bi:=@List.map_congr_left
def Bj:=@List.mem_iff_getElem
def Bk:=@Nat.beq_refl
def Bm:=@Int.emod_add_mul_ediv
def Bn:=@Int.le_of_lt
def Bo:=@List.getElem?_of_mem
def Bp:=@List.take_append_of_le_length
def Bq:=@Nat.eq_zero_or_pos
def Br:=@Nat.lt_succ_self
def Bt:=@Nat.ne_of_lt
def Bu:=@Option.isSome_iff_exists
def Bv:=@Int.ediv_nonneg
def Bw:=@Int.emod_nonneg
def Bx:=@Int.mul_nonneg
def By:=@Int.not_lt
def Bz:=@List.getElem?_eq_some_iff
def BA:=@List.mem_map_of_mem
def BC:=@List.nodup_cons
def BD:=@Nat.mul_one
def BF:=@Option.isNone_iff_eq_none
def BG:=@Array.getElem?_toList
def BH:=@Int.emod_eq_of_lt
def BI:=@Int.zero_add
def BJ:=@List.drop_zero
def BK:=@List.flatten_append
def BL:=@List.length_set
def BM:=@List.map_id
def BN:=@List.mem_filter
def BO:=@List.take_take
def BP:=@Nat.min_eq_left
def BQ:=@Nat.sub_self
def BR:=@Bool.and_self
def BS:=@Bool.and_true
def BT:=@Int.add_comm
def BU:=@Int.emod_lt_of_pos
def BV:=@List.cons.injEq
def BW:=@List.drop_take
def BX:=@List.eq_of_mem_replicate
def BY:=@List.map_drop
def BZ:=@List.map_take
def B0:=@Nat.mod_lt
def B5:=@Bool.eq_iff_iff
def B6:=@Bool.false_ne_true
def B7:=@Bool.not_true
def B8:=@Classical.axiomOfChoice
def B9:=@Int.fdiv_eq_ediv_of_nonneg
def Cb:=@Int.mul_comm
def Cc:=@Int.mul_le_mul
def Cd:=@Int.mul_le_mul_of_nonneg_left
def Cf:=@List.drop_succ_cons
def Cg:=@List.filter_cons
def Ch:=@List.getElem?_toArray
def Ci:=@List.length_replicate
def Cj:=@List.pairwise_append
def Ck:=@List.set_eq_take_append_cons_drop
def Cn:=@List.sizeOf_lt_of_mem
def Co:=@Nat.lt_of_lt_of_le
def Cp:=@Nat.not_lt_zero
def Cq:=@Array.getElem?_modify
def Cr:=@Array.getInternal_eq_getElem
def Cs:=@Array.toList_push
def Ct:=@Classical.byContradiction
def Cu:=@Int.lt_or_gt_of_ne
def Cv:=@Int.mul_ediv_add_emod
def Cw:=@List.flatMap_cons
def Cx:=@List.length_filter_le
def Cy:=@List.mem_filterMap
def Cz:=@List.mem_iff_getElem?
def CA:=@List.mergeSort_perm
def CB:=@List.perm_append_comm
def CC:=@List.take_add_one
def CD:=@List.take_length
def CF:=@Nat.div_lt_iff_lt_mul
end Go
namespace Go.V
open Go
inductive bE where
 |ai
 |exact
 |tok (n:Nat)
 |new (n:Nat)
 deriving DecidableEq
inductive AV where
 |de
 |bool (b:Bool)
 |int (k:IntKind) (n:Int)
 |str (s:List UInt8)
 |cV
 |ptr (l o:Nat)
 |gp (g o:Nat)
 |eZ (k:Nat) (xs:List AV) (i off:Nat)
 |sl (k:Nat) (xs:List AV) (t:bE)
 |fn (f:Fn) (first caps:List AV)
 |fw
 |cI (t:TypeId) (v:AV)
 |cY
 |agg (cs:List AV)
 |aF (vs:List AV)
 |bu (s:List UInt8)
 |aL (l:Nat) (o:Obj) (ts:List Nat) (vs:List AV)
 |aN (k n l o:Nat)
 |b9 (k n l o c:Nat)
 |mp (l:Nat)
 |gM
 |eX (ks vs:List AV)
 |jH (E:Nat) (b:Option Bool)
 deriving Inhabited
def AV.cells:AV->List AV
 | .agg cs=>cs
 |v=>[v]
def AV.gB:AV->Bool
 | .de| .aF _| .bu _| .aL ..| .eX ..| .jH ..=>false
 |_=>true
def flat (xs:List AV):List AV:=xs.flatMap AV.cells
@[simp] def kW:flat []=[]:=rfl
@[simp] def dj (x:AV) (xs:List AV):flat (x::xs)=x.cells++flat xs:=by simp [flat]
@[simp] def uW (xs ys:List AV):flat (xs++ys)=flat xs++flat ys:=by simp [flat]
def cO {k:Nat}:∀ {xs:List AV},(∀ x∈xs,x.cells.length=k)->(flat xs).length=xs.length*k
 |[],_=>by simp
 |x::xs,h=>by
  have h1:=h x (by simp);have h2:=cO (k:=k) (xs:=xs) fun y hy=>h y (by simp [hy]);simp [h1,h2,AM,Nat.add_comm]
def flat_get {k:Nat}:∀ {xs:List AV} {i j:Nat},(∀ x∈xs,x.cells.length=k)->j<k->(flat xs)[i*k+j]? =(xs[i]?).bind (fun x=>x.cells[j]?)
 |[],i,j,_,_=>by simp
 |x::xs,0,j,h,hj=>by
  have h1:=h x (by simp);simp [AF (by omega:j<x.cells.length)]
 |x::xs,i+1,j,h,hj=>by
  have h1:=h x (by simp);have h2:=flat_get (k:=k) (xs:=xs) (i:=i) (j:=j) (fun y hy=>h y (by simp [hy])) hj;rw [dj,AG (by rw [h1,AM];omega)];rw [show (i+1)*k+j-x.cells.length=i*k+j from by rw [h1,AM];omega,h2];simp
structure Gh where
 φ:Nat->Nat->Option Value
 σ:Nat->Option Nat
 τ:Nat->Option (Nat×Nat×Nat)
 β:Nat
 κ:Nat->Nat
structure Gh.le (G G':Gh):Prop where
 φ:∀ r o v,G.φ r o=some v->G'.φ r o=some v
 σ:∀ l r,G.σ l=some r->G'.σ l=some r
 τ:∀ t x,G.τ t=some x->G'.τ t=some x
 β:G'.β=G.β
 κ:∀ l r,G.σ l=some r->G'.κ l=G.κ l
def Gh.le_refl (G:Gh):G.le G:=⟨fun _ _ _ h=>h,fun _ _ h=>h,fun _ _ h=>h,rfl,fun _ _ _=>rfl⟩
def Gh.le_trans {G G' G'':Gh} (h:G.le G') (h':G'.le G''):G.le G'':=⟨fun r o v e=>h'.φ r o v (h.φ r o v e),fun l r e=>h'.σ l r (h.σ l r e),fun t x e=>h'.τ t x (h.τ t x e),h'.β.trans h.β,fun l r e=>(h'.κ l r (h.σ l r e)).trans (h.κ l r e)⟩
def Ik (G:Gh) (t:bE) (r e z:Nat):Prop:=
 match t with
 | .ai=>True
 | .exact=>e=z
 | .tok n=>G.τ n=some (r,e,z)
 | .new n=>G.τ n=some (r,e,z)/\G.β<=r
inductive af (G:Gh):AV->Value->Prop
 |de (v:Value):af G .de v
 |bool (b:Bool):af G (.bool b) (.bool b)
 |int (k:IntKind) (n:Int):af G (.int k n) (.int k n)
 |str (s:List UInt8):af G (.str s) (.string ⟨s.toArray⟩)
 |cV:af G .cV (.pointer none)
 |ptr {l o r:Nat} (h:G.σ l=some r):af G (.ptr l o) (.pointer (some ⟨r,o,none⟩))
 |gp (g o:Nat):af G (.gp g o) (.pointer (some ⟨g,o,none⟩))
 |eZ {k:Nat} {xs:List AV} {i off r b:Nat} (f:Nat->Value)
   (hk:∀ x∈xs,x.cells.length=k)
   (hp:∀ (m:Nat) (c:AV),(flat xs)[m]? =some c->G.φ r (b+m)=some (f m))
   (ho:∀ (m:Nat) (c:AV),(flat xs)[m]? =some c->(f m).oneCell'=true)
   (hv:∀ (m:Nat) (c:AV),(flat xs)[m]? =some c->af G c (f m)):
   af G (.eZ k xs i off) (.pointer (some ⟨r,b+i*k+off,none⟩))
 |slnil (k:Nat) (t:bE) (a:Option Addr):af G (.sl k [] t) (.slice a 0 0)
 |sl {k:Nat} {xs:List AV} {t:bE} {r b cap:Nat} (f:Nat->Value)
   (hk:∀ x∈xs,x.cells.length=k)
   (hp:∀ (m:Nat) (c:AV),(flat xs)[m]? =some c->G.φ r (b+m)=some (f m))
   (ho:∀ (m:Nat) (c:AV),(flat xs)[m]? =some c->(f m).oneCell'=true)
   (hv:∀ (m:Nat) (c:AV),(flat xs)[m]? =some c->af G c (f m))
   (hc:xs.length<=cap) (ht:Ik G t r (b+xs.length*k) (b+cap*k)):
   af G (.sl k xs t) (.slice (some ⟨r,b,none⟩) xs.length cap)
 |aN (k:Nat) {n l o r cap:Nat} (h:G.σ l=some r) (hc:n<=cap) (hz:o+cap*k<=G.κ l):af G (.aN k n l o) (.slice (some ⟨r,o,none⟩) n cap)
 |b9 (k:Nat) {n l o r c:Nat} (h:G.σ l=some r) (hc:n<=c) (hz:o+c*k<=G.κ l):af G (.b9 k n l o c) (.slice (some ⟨r,o,none⟩) n c)
 |mp {l r:Nat} (h:G.σ l=some r):af G (.mp l) (.map (some r))
 |gM:af G .gM (.map none)
 |fn (f:Fn) {first caps:List AV} {vs ws:List Value} (h1:first.length=vs.length) (h2:caps.length=ws.length)
   (hv:∀ (m:Nat) (c:AV) (v:Value),first[m]? =some c->vs[m]? =some v->af G c v)
   (hw:∀ (m:Nat) (c:AV) (v:Value),caps[m]? =some c->ws[m]? =some v->af G c v):
   af G (.fn f first caps) (.func f vs.toArray ws.toArray)
 |fw:af G .fw .nilFunc
 |cI (t:TypeId) {c:AV} {v:Value} (h:af G c v):af G (.cI t c) (.iface t v)
 |cY:af G .cY .nilIface
 |agg {cs:List AV} {vs:List Value} (hl:cs.length=vs.length) (ho:∀ v∈vs,v.oneCell'=true)
   (hv:∀ (m:Nat) (c:AV) (v:Value),cs[m]? =some c->vs[m]? =some v->af G c v):af G (.agg cs) (.agg vs.toArray)
 |aF {cs:List AV} {vs:List Value} (hl:cs.length=vs.length)
   (hv:∀ (m:Nat) (c:AV) (v:Value),cs[m]? =some c->vs[m]? =some v->af G c v):af G (.aF cs) (.tuple vs.toArray)
def af.mono {G G':Gh} (h:G.le G') {a:AV} {v:Value} (hr:af G a v):af G' a v:=by
 induction hr with
 |de v=>exact .de v
 |bool b=>exact .bool b
 |int k n=>exact .int k n
 |str s=>exact .str s
 |cV=>exact .cV
 |ptr e=>exact .ptr (h.σ _ _ e)
 |gp g o=>exact .gp g o
 |eZ f hk hp ho _ ih=>exact .eZ f hk (fun m c e=>h.φ _ _ _ (hp m c e)) ho ih
 |slnil k t a=>exact .slnil k t a
 |sl f hk hp ho _ hc ht ih=>
  refine .sl f hk (fun m c e=>h.φ _ _ _ (hp m c e)) ho ih hc ?_
  cases ‹bE› with
  |ai=>trivial
  |exact=>exact ht
  |tok n=>exact h.τ _ _ ht
  |new n=>exact ⟨h.τ _ _ ht.1,h.β▸ht.2⟩
 |aN k e hc hz=>exact .aN k (h.σ _ _ e) hc (by rw [h.κ _ _ e];exact hz)
 |b9 k e hc hz=>exact .b9 k (h.σ _ _ e) hc (by rw [h.κ _ _ e];exact hz)
 |mp e=>exact .mp (h.σ _ _ e)
 |gM=>exact .gM
 |fn f h1 h2 _ _ ihv ihw=>exact .fn f h1 h2 ihv ihw
 |fw=>exact .fw
 |cI t _ ih=>exact .cI t ih
 |cY=>exact .cY
 |agg hl ho _ ih=>exact .agg hl ho ih
 |aF hl _ ih=>exact .aF hl ih
structure br (G:Gh) (cs:List AV) (vs:List Value):Prop where
 len:cs.length=vs.length
 one:∀ v∈vs,v.oneCell'=true
 rel:∀ (m:Nat) (c:AV) (v:Value),cs[m]? =some c->vs[m]? =some v->af G c v
def br.mono {G G':Gh} (h:G.le G') {cs:List AV} {vs:List Value} (hr:br G cs vs):br G' cs vs:=⟨hr.len,hr.one,fun m c v a b=>(hr.rel m c v a b).mono h⟩
def br.nil (G:Gh):br G [] []:=⟨rfl,by simp,by simp⟩
def br.cons {G:Gh} {c:AV} {v:Value} {cs:List AV} {vs:List Value} (h:af G c v) (ho:v.oneCell'=true) (hr:br G cs vs):br G (c::cs) (v::vs):=by
 refine ⟨by simp [hr.len],?_,?_⟩
 ·intro u hu;rcases Ab.1 hu with rfl|hu
  ·exact ho
  ·exact hr.one u hu
 ·intro m c' v' h1 h2
  cases m with
  |zero=>simp at h1 h2;rw [<-h1,<-h2];exact h
  |succ m=>exact hr.rel m c' v' (by simpa using h1) (by simpa using h2)
def br.append {G:Gh}:∀ {cs:List AV} {vs:List Value} {cs':List AV} {vs':List Value},br G cs vs->br G cs' vs'->br G (cs++cs') (vs++vs')
 |[],[],_,_,_,h'=>by simpa using h'
 |[],_::_,_,_,h,_=>absurd h.len (by simp)
 |_::_,[],_,_,h,_=>absurd h.len (by simp)
 |c::cs,v::vs,_,_,h,h'=>by refine br.cons (h.rel 0 c v rfl rfl) (h.one v (by simp)) (br.append ⟨by simpa using h.len,fun u hu=>h.one u (by simp [hu]),fun m c' v' a b=>h.rel (m+1) c' v' (by simpa using a) (by simpa using b)⟩ h')
def br.get {G:Gh} {cs:List AV} {vs:List Value} (h:br G cs vs) {m:Nat} {c:AV} (hc:cs[m]? =some c):∃ v,vs[m]? =some v/\af G c v/\v.oneCell'=true:=by
 have hm:m<cs.length:=by
  rcases Al m cs.length with h'|h'
  ·exact h'
  ·rw [As h'] at hc;cases hc
 have hm':m<vs.length:=h.len▸hm;refine ⟨vs[m],by simp [hm'],h.rel m c _ hc (by simp [hm']),h.one _ (by simp)⟩
def af.cells {G:Gh} {a:AV} {v:Value} (h:af G a v) (hs:a.gB=true):br G a.cells v.cells.toList:=by
 cases h with
 |de v=>cases hs
 |aF _ _=>cases hs
 |agg hl ho hv=>exact ⟨by simpa [AV.cells,Value.cells] using hl,by simpa [Value.cells] using ho,by simpa [AV.cells,Value.cells] using hv⟩
 |bool b=>exact .cons (.bool b) rfl (.nil G)
 |int k n=>exact .cons (.int k n) rfl (.nil G)
 |str s=>exact .cons (.str s) rfl (.nil G)
 |cV=>exact .cons .cV rfl (.nil G)
 |ptr e=>exact .cons (.ptr e) rfl (.nil G)
 |gp g o=>exact .cons (.gp g o) rfl (.nil G)
 |eZ f hk hp ho hv=>exact .cons (.eZ f hk hp ho hv) rfl (.nil G)
 |slnil k t a=>exact .cons (.slnil k t a) rfl (.nil G)
 |sl f hk hp ho hv hc ht=>exact .cons (.sl f hk hp ho hv hc ht) rfl (.nil G)
 |aN k e hc hz=>exact .cons (.aN k e hc hz) rfl (.nil G)
 |b9 k e hc hz=>exact .cons (.b9 k e hc hz) rfl (.nil G)
 |mp e=>exact .cons (.mp e) rfl (.nil G)
 |gM=>exact .cons .gM rfl (.nil G)
 |fn f h1 h2 hv hw=>exact .cons (.fn f h1 h2 hv hw) rfl (.nil G)
 |fw=>exact .cons .fw rfl (.nil G)
 |cI t h=>exact .cons (.cI t h) rfl (.nil G)
 |cY=>exact .cons .cY rfl (.nil G)
def af.ai {G:Gh} {k:Nat} {xs:List AV} {t:bE} {v:Value} (h:af G (.sl k xs t) v):af G (.sl k xs .ai) v:=by
 cases h with
 |slnil=>exact .slnil _ _ _
 |sl f hk hp ho hv hc ht=>exact .sl f hk hp ho hv hc trivial
structure St where
 n:Nat
 obj:List (Nat×List AV)
 nt:Nat
 live:List Nat
 gl:List (Nat×List AV)
def St.get (S:St) (l:Nat):Option (List AV):=S.obj.lookup l
def ajh:List (Nat×List Value):=[]
def QV (w:World):Prop:=∀ p∈ajh,∃ T fz,w.heap[p.1]? =some (.cells p.2.toArray T fz)
structure aT extends World where
 φ:Nat->Nat->Option Value
 vG:QV toWorld
def yS:TypeId:=81
def afX:TypeId:=5
def aE:List AV->Bool
 |[.bu _]=>true
 |[.aL ..]=>true
 |[.eX ..]=>true
 |[.jH ..]=>true
 |[.aF _]=>true
 |_=>false
def eU:List AV->Bool
 |[.aF _]=>true
 |_=>false
def bo {cs:List AV} (h:aE cs=false):eU cs=false:=by
 unfold eU;split
 ·simp [aE] at h
 ·rfl
def wx (G:Gh) (S:St) (g:Nat):Prop:=(∀ o,G.φ g o=none)/\(∀ l,G.σ l≠some g)/\∀ t∈S.live,∀ e z,G.τ t=some (g,e,z)->z<=e
def wy (wb:aT) (G:Gh) (S:St) (w:World) (r:Nat) (s:List UInt8):Prop:=
 ∃ p v,(p= .pointer none∨p= .pointer (some ⟨r,0,none⟩))/\w.heap[r]? =some (.cells #[p,v] yS (0,0))/\
  ((v= .slice none 0 0/\s=[])∨∃ g cap cur fz,s≠[]/\v= .slice (some ⟨g,0,none⟩) s.length cap/\wb.heap.size<=g/\g≠r/\w.heap[g]? =some (.cells cur afX fz)/\fz.2<=s.length/\s.length<=cap/\cap<=maxLen/\cur.size=cap/\cur.toList.take s.length=Lib.byteCells s/\wx G S g)
def wy.to {wb:aT} {G G':Gh} {S S':St} {w w':World} {r:Nat} {s:List UInt8} (h:wy wb G S w r s) (hr:r<w.heap.size->w'.heap[r]? =w.heap[r]?) (hg:∀ g,g<w.heap.size->wb.heap.size<=g->g≠r->wx G S g->w'.heap[g]? =w.heap[g]? /\wx G' S' g):wy wb G' S' w' r s:=by
 obtain ⟨p,v,h1,h2,h3⟩:=h
 have hlt:∀ g x,w.heap[g]? =some x->g<w.heap.size:=fun g x e=>by
  rcases Al g w.heap.size with h'|h'
  ·exact h'
  ·simp [Bf h'] at e
 refine ⟨p,v,h1,by rw [hr (hlt _ _ h2)];exact h2,?_⟩;rcases h3 with h3|⟨g,cap,cur,fz,q0,q1,q2,q3,q4,q5,q6,q7,q8,q9,q10⟩
 ·exact .inl h3
 ·obtain ⟨k1,k2⟩:=hg g (hlt _ _ q4) q2 q3 q10;exact .inr ⟨g,cap,cur,fz,q0,q1,q2,q3,by rw [k1];exact q4,q5,q6,q7,q8,q9,k2⟩
def jO:Obj->Bool
 | .cells ..=>false
 |_=>true
def DA (G:Gh) (o:Obj) (ts:List Nat) (vs:List AV):Prop:=
 match o with
 | .loop L=>∀ t v,(ts.zip vs).lookup t=some v->t<L.tmps.size/\af G v (L.tmps.getD t undef)
 |_=>True
def DA.mono {G G':Gh} (h:G.le G') {o:Obj} {ts:List Nat} {vs:List AV} (hf:DA G o ts vs):DA G' o ts vs:=by
 cases o with
 |loop L=>exact fun t v e=>⟨(hf t v e).1,(hf t v e).2.mono h⟩
 |_=>trivial
def eP (G:Gh):List AV->List AV->List MapEntry->Prop
 |[],[],[]=>True
 |k::ks,v::vs,e::es=>(af G k e.key/\af G v e.val)/\eP G ks vs es
 |_,_,_=>False
def eP.mono {G G':Gh} (h:G.le G'):∀ {ks vs:List AV} {es:List MapEntry},eP G ks vs es->eP G' ks vs es
 |[],[],[],_=>trivial
 |_::_,_::_,_::_,hr=>⟨⟨hr.1.1.mono h,hr.1.2.mono h⟩,eP.mono h hr.2⟩
 |[],[],_::_,hr=>hr.elim
 |[],_::_,_,hr=>by cases ‹List MapEntry›<;>exact hr.elim
 |_::_,[],_,hr=>by cases ‹List MapEntry›<;>exact hr.elim
 |_::_,_::_,[],hr=>hr.elim
def dH:Option IntKind->Value->Prop
 |some q,v=>∃ a,v= .int q a
 |none,v=>∃ s,v= .string s
def Dy (es:Array MapEntry) (clock:Nat):Prop:=(es.toList.map (·.born)).Nodup/\∀ e∈es.toList,e.born<clock
def Ih (G:Gh) (w:World) (r:Nat) (ks vs:List AV):Prop:=∃ es clock es' c,w.heap[r]? =some (.map es clock)/\es.toList.Perm es'/\eP G ks vs es'/\(∀ e∈es',dH c e.key)/\es'.Pairwise (fun a b=>a.key≠b.key)/\Dy es clock
def vo:Option Bool->Array Value
 |none=> #[]
 |some b=> #[.bool b]
def pD (wb:aT) (G:Gh) (S:St) (w:World) (r:Nat):AV->Prop
 | .bu s=>wy wb G S w r s
 | .aL l o ts vs=>r=l/\w.heap[l]? =some o/\jO o=true/\DA G o ts vs
 | .eX ks vs=>Ih G w r ks vs
 | .jH E b=>∃ fz,w.heap[r]? =some (.cells (vo b) E fz)
 | .aF _=>True
 |_=>False
def pD.to {wb:aT} {G G':Gh} {S S':St} {w w':World} {r:Nat} {c:AV} (h:pD wb G S w r c) (hle:G.le G') (hr:r<w.heap.size->w'.heap[r]? =w.heap[r]?) (hg:∀ g,g<w.heap.size->wb.heap.size<=g->g≠r->wx G S g->w'.heap[g]? =w.heap[g]? /\wx G' S' g):pD wb G' S' w' r c:=by
 cases c with
 |bu s=>exact wy.to h hr hg
 |aL l o ts vs=>
  obtain ⟨rfl,h2,h3,h4⟩:=h;refine ⟨rfl,?_,h3,h4.mono hle⟩
  rw [hr (by
   rcases Al r w.heap.size with h'|h'
   ·exact h'
   ·simp [Bf h'] at h2)]
  exact h2
 |eX ks vs=>
  obtain ⟨es,clock,es',c,h1,h2,h3,h4⟩:=h;refine ⟨es,clock,es',c,?_,h2,h3.mono hle,h4⟩
  rw [hr (by
   rcases Al r w.heap.size with h'|h'
   ·exact h'
   ·simp [Bf h'] at h1)]
  exact h1
 |jH E b=>
  obtain ⟨fz,h1⟩:=h;refine ⟨fz,?_⟩
  rw [hr (by
   rcases Al r w.heap.size with h'|h'
   ·exact h'
   ·simp [Bf h'] at h1)]
  exact h1
 |aF _=>trivial
 |_=>exact h.elim
def se (w:World) (r k:Nat):Prop:=(∃ T,w.shape? r=some (T,k))/\w.frozen? ⟨r,k,none⟩=false
structure ax (wb:aT) (G:Gh) (S:St) (w:World):Prop where
 prom:∀ r o v,G.φ r o=some v->w.cell? ⟨r,o,none⟩=some v
 room:∀ l cs r,S.get l=some cs->aE cs=false->G.σ l=some r->(cs.length<=G.κ l/\se w r (G.κ l))/\∀ m,m<G.κ l->(∃ v,w.cell? ⟨r,m,none⟩=some v)/\w.frozen? ⟨r,m,none⟩=false
 apart:∀ l cs r o,S.get l=some cs->eU cs=false->G.σ l=some r->G.φ r o=none
 obj:∀ l cs,S.get l=some cs->aE cs=false->∃ r,G.σ l=some r/\∀ (m:Nat) (c:AV),cs[m]? =some c->∃ v,w.cell? ⟨r,m,none⟩=some v/\af G c v/\v.oneCell'=true/\w.frozen? ⟨r,m,none⟩=false
 inj:∀ l l' r cs cs',S.get l=some cs->S.get l'=some cs'->eU cs=false->eU cs'=false->G.σ l=some r->G.σ l'=some r->l=l'
 bT:∀ l r,G.σ l=some r->l<S.n/\wb.heap.size<=r/\r<w.heap.size
 tok:∀ t∈S.live,∃ r e z,G.τ t=some (r,e,z)/\
  ∀ o,e<=o->o<z->wb.heap.size<=r/\(∀ l,G.σ l≠some r)/\(∃ v,w.cell? ⟨r,o,none⟩=some v)/\w.frozen? ⟨r,o,none⟩=false/\G.φ r o=none
 bQ:∀ t x,G.τ t=some x->t<S.nt/\(x.2.1<x.2.2->x.1<w.heap.size)
 cP:∀ t∈S.live,∀ t'∈S.live,t≠t'->∀ r e z e' z',G.τ t=some (r,e,z)->G.τ t'=some (r,e',z')->∀ o,e<=o->o<z->e'<=o->o<z'->False
 base:wb.heap.size<=w.heap.size/\∀ r,r<wb.heap.size->w.heap[r]? =wb.heap[r]?
 cH:∀ r o v,r<wb.heap.size->G.φ r o=some v->wb.φ r o=some v
 still:w.os=wb.os/\w.output=wb.output/\w.tape=wb.tape
 beta:G.β=wb.heap.size
 cF:∀ g cs,S.gl.lookup g=some cs->∀ (m:Nat) (c:AV),cs[m]? =some c->∃ v,G.φ g m=some v/\af G c v/\v.oneCell'=true
 bu:∀ l c,S.get l=some [c]->aE [c]=true->∃ r,G.σ l=some r/\pD wb G S w r c
 dy:∀ l l' s s',S.get l=some [.bu s]->S.get l'=some [.bu s']->l=l'
def ax.vG {wb:aT} {G:Gh} {S:St} {w:World} (h:ax wb G S w):QV w:=by
 intro p hp;obtain ⟨T,fz,e⟩:=wb.vG p hp
 have hlt:p.1<wb.heap.size:=by
  rcases Al p.1 wb.heap.size with h'|h'
  ·exact h'
  ·simp [Bf h'] at e
 exact ⟨T,fz,by rw [h.base.2 p.1 hlt];exact e⟩
end Go.V
namespace Go.V
open Go
def putCells (w:World) (r:Nat):Nat->List Value->World
 |_,[]=>w
 |o,v::vs=>putCells (w.setCell ⟨r,o,none⟩ v) r (o+1) vs
def dx (r:Nat):∀ (vs:List Value) (w:World) (o:Nat),(putCells w r o vs).heap.size=w.heap.size
 |[],_,_=>rfl
 |v::vs,w,o=>by rw [putCells,dx r vs];simp
def bF (r:Nat) (a:Addr):∀ (vs:List Value) (w:World) (o:Nat),(putCells w r o vs).frozen? a=w.frozen? a
 |[],_,_=>rfl
 |v::vs,w,o=>by rw [putCells,bF r a vs];simp
def qi (r r':Nat):∀ (vs:List Value) (w:World) (o:Nat),(putCells w r o vs).shape? r'=w.shape? r'
 |[],_,_=>rfl
 |v::vs,w,o=>by
  rw [putCells,qi r r' vs];simp only [World.shape?,World.setCell,Cq]
  by_cases h:r=r'
  ·rw [if_pos h]
   cases w.heap[r']? with
   |none=>rfl
   |some o=>cases o<;>simp
  ·rw [if_neg h]
def se.to {w w':World} {r k:Nat} (h:se w r k) (h1:w'.shape? r=w.shape? r) (h2:w'.frozen? ⟨r,k,none⟩=w.frozen? ⟨r,k,none⟩):se w' r k:=⟨by rw [h1];exact h.1,by rw [h2];exact h.2⟩
def se.put {w:World} {r k:Nat} (h:se w r k) (r0 o:Nat) (vs:List Value):se (putCells w r0 o vs) r k:=h.to (qi _ _ _ _ _) (bF _ _ _ _ _)
def ji (r:Nat):∀ (vs:List Value) (w:World) (o:Nat),(putCells w r o vs).os=w.os/\(putCells w r o vs).output=w.output/\(putCells w r o vs).tape=w.tape
 |[],_,_=>⟨rfl,rfl,rfl⟩
 |v::vs,w,o=>by rw [putCells];exact ji r vs _ _
def ti (w:World) (a:Addr) (v:Value) (r:Nat) (h:r≠a.block):(w.setCell a v).heap[r]? =w.heap[r]? :=by simp [World.setCell,Cq,AT h]
def cy (r r':Nat) (h:r'≠r):∀ (vs:List Value) (w:World) (o:Nat),(putCells w r o vs).heap[r']? =w.heap[r']?
 |[],_,_=>rfl
 |v::vs,w,o=>by rw [putCells,cy r r' h vs,ti _ _ _ _ h]
def cx (r:Nat) (a:Addr):∀ (vs:List Value) (w:World) (o:Nat),(a.block=r->a.spot=none-> ¬(o<=a.off/\a.off<o+vs.length))->(putCells w r o vs).cell? a=w.cell? a
 |[],_,_,_=>rfl
 |v::vs,w,o,h=>by
  rw [putCells,cx r a vs _ _ (fun h1 h2 h3=>h h1 h2 ⟨by omega,by simp;omega⟩)];refine World.cell?_setCell_other _ _ _ _ ?_;intro e;subst e;exact h rfl rfl ⟨Af _,by simp⟩
def gj (r:Nat):∀ (vs:List Value) (w:World) (o:Nat),(∀ j,j<vs.length->∃ v,w.cell? ⟨r,o+j,none⟩=some v)->∀ (j:Nat) (v:Value),vs[j]? =some v->(putCells w r o vs).cell? ⟨r,o+j,none⟩=some v
 |[],_,_,_,_,_,h=>by simp at h
 |u::vs,w,o,hc,j,v,h=>by
  rw [putCells]
  cases j with
  |zero=>
   simp at h;subst h;rw [cx r _ vs _ _ (by simp;omega)];obtain ⟨x,hx⟩:=hc 0 (by simp);exact World.cell?_setCell_same _ _ _ (by simpa using hx)
  |succ j=>
   have:=gj r vs (w.setCell ⟨r,o,none⟩ u) (o+1) (fun i hi=>?_) j v (by simpa using h)
   ·rwa [show o+1+j=o+(j+1) from by omega] at this
   ·obtain ⟨x,hx⟩:=hc (i+1) (by simp;omega);refine ⟨x,?_⟩;rw [World.cell?_setCell_other _ _ _ _ (by intro e;injection e;omega)]
    rwa [show o+(i+1)=o+1+i from by omega] at hx
def cE (r o n:Nat):(Addr.mk r o none).add n=⟨r,o+n,none⟩:=by
 unfold Addr.add;split
 ·rename_i h;subst h;rfl
 ·rfl
def fj {P:Program} (r o:Nat):∀ (vs:List Value) (w:World) (i:Nat),(∀ v∈vs,v.oneCell'=true)->
  (∀ j,j<vs.length->(∃ v,w.cell? ⟨r,o+i+j,none⟩=some v)/\w.frozen? ⟨r,o+i+j,none⟩=false)->
  (storeCells ⟨r,o,none⟩ vs i).run P w= .ok () (putCells w r (o+i) vs)
 |[],w,i,_,_=>by simp [storeCells,putCells]
 |v::vs,w,i,ho,hc=>by
  obtain ⟨⟨x,hx⟩,hf⟩:=hc 0 (by simp)
  have ih:=fj (P:=P) r o vs (w.setCell ⟨r,o+i,none⟩ v) (i+1) (fun u hu=>ho u (by simp [hu])) (fun j hj=>by
   obtain ⟨⟨y,hy⟩,hg⟩:=hc (j+1) (by simp;omega);rw [show o+(i+1)+j=o+i+(j+1) from by omega];refine ⟨⟨y,?_⟩,by simpa using hg⟩;rw [World.cell?_setCell_other _ _ _ _ (by intro e;injection e;omega)]
   exact hy)
  simp only [storeCells,Sem.run_bind,cE];rw [run_store P w _ v .plain (ho v (by simp))];simp only [Nat.add_zero] at hx hf;simp only [hx,hf,Ah,if_false,Result.andThen_ok,ih,putCells,A4]
def af.zk {G:Gh} {s:AV} {v:Value} (h:af G s v) (ho:v.oneCell'=true):aE [s]=false:=by
 cases h<;>first
  |rfl
  |cases ho
def At (w:World) (G:Gh) (r o:Nat) (cs:List AV):Prop:=∀ (m:Nat) (c:AV),cs[m]? =some c->∃ v,w.cell? ⟨r,o+m,none⟩=some v/\af G c v/\v.oneCell'=true
def At.choose {w:World} {G:Gh} {r:Nat}:∀ {cs:List AV} {o:Nat},At w G r o cs->∃ vs:List Value,br G cs vs/\∀ (j:Nat) (v:Value),vs[j]? =some v->w.cell? ⟨r,o+j,none⟩=some v
 |[],_,_=>⟨[],.nil G,by simp⟩
 |c::cs,o,h=>by
  obtain ⟨v,h1,h2,h3⟩:=h 0 c rfl
  obtain ⟨vs,h4,h5⟩:=At.choose (cs:=cs) (o:=o+1) (fun m c' hm=>by
   have:=h (m+1) c' (by simpa using hm)
   rwa [show o+(m+1)=o+1+m from by omega] at this)
  refine ⟨v::vs,.cons h2 h3 h4,fun j u hj=>?_⟩
  cases j with
  |zero=>simp at hj;subst hj;simpa using h1
  |succ j=>
   have:=h5 j u (by simpa using hj)
   rwa [show o+1+j=o+(j+1) from by omega] at this
def At.drop {w:World} {G:Gh} {r o:Nat} {cs:List AV} (h:At w G r o cs) (n:Nat):At w G r (o+n) (cs.drop n):=by
 intro m c hm;rw [AO] at hm;have:=h (n+m) c hm
 rwa [<-A4] at this
def At.take {w:World} {G:Gh} {r o:Nat} {cs:List AV} (h:At w G r o cs) (n:Nat):At w G r o (cs.take n):=by
 intro m c hm;rw [Bh] at hm;split at hm
 ·exact h m c hm
 ·cases hm
def ax.lt {wb:aT} {G:Gh} {S:St} {w:World} (h:ax wb G S w) {r o:Nat} {v:Value} (e:G.φ r o=some v):r<w.heap.size:=World.block_lt_of_cell? _ _ (h.prom r o v e)
def eE {α:Type} (f:Nat->α) (i:Nat) (x:α):Nat->α:=fun j=>if j=i then x else f j
@[simp] def cM {α:Type} (f:Nat->α) (i:Nat) (x:α):eE f i x i=x:=by simp [eE]
def cj (w:World) (o:Obj) {r:Nat} (h:r<w.heap.size):(w.alloc o).heap[r]? =w.heap[r]? :=by
 show (w.heap.push o)[r]? =_;simp [Array.getElem?_push,Bt h]
def alloc_heap_new (w:World) (o:Obj):(w.alloc o).heap[w.heap.size]? =some o:=by
 rw [show (w.alloc o).heap=w.heap.push o from rfl];simp
def ax.drew {wb:aT} {G:Gh} {S:St} {w:World} (h:ax wb G S w):ax wb G S w.drew:={h with still:=h.still}
def ax.alloc {wb:aT} {G:Gh} {S:St} {w:World} (h:ax wb G S w) (o:Obj):ax wb G S (w.alloc o):=by
 have hc:∀ r i,r<w.heap.size->(w.alloc o).cell? ⟨r,i,none⟩=w.cell? ⟨r,i,none⟩:=fun r i hr=>World.cell?_alloc_lt _ _ _ hr;have hf:∀ r i,r<w.heap.size->(w.alloc o).frozen? ⟨r,i,none⟩=w.frozen? ⟨r,i,none⟩:=fun r i hr=>World.frozen?_alloc_old _ _ _ (Bt hr);refine {h with prom:=?_,obj:=?_,room:=?_,bT:=?_,tok:=?_,bQ:=?_,base:=?_,still:=h.still,bu:=?_};rotate_left
 ·intro l cs r hl hnb hr;obtain ⟨h1,h2⟩:=h.room l cs r hl hnb hr;have hlt:=(h.bT l r hr).2.2;exact ⟨⟨h1.1,h1.2.to (by simp only [World.shape?];rw [cj _ _ hlt]) (hf _ _ hlt)⟩,fun m hm=>by rw [hc _ _ hlt,hf _ _ hlt];exact h2 m hm⟩
 rotate_right 2
 ·intro l s hl hsp0;obtain ⟨r,hr,hb⟩:=h.bu l s hl hsp0;exact ⟨r,hr,hb.to (Gh.le_refl _) (fun hlt=>cj _ _ hlt) fun g hg _ _ ha=>⟨cj _ _ hg,ha⟩⟩
 ·intro r i v e;rw [hc _ _ (h.lt e)];exact h.prom r i v e
 ·intro l cs hl hnb;obtain ⟨r,hr,hm⟩:=h.obj l cs hl hnb;refine ⟨r,hr,fun m c hmc=>?_⟩;obtain ⟨v,h1,h2,h3,h4⟩:=hm m c hmc;have hlt:=(h.bT l r hr).2.2;exact ⟨v,by rw [hc _ _ hlt];exact h1,h2,h3,by rw [hf _ _ hlt];exact h4⟩
 ·intro l r e;have:=h.bT l r e;simp;omega
 ·intro t ht;obtain ⟨r,e,z,h1,h4⟩:=h.tok t ht;refine ⟨r,e,z,h1,fun i h5 h6=>?_⟩;have hlt:=(h.bQ t _ h1).2 (by show e<z;omega);rw [hc _ _ hlt,hf _ _ hlt];exact h4 i h5 h6
 ·intro t x e;have:=h.bQ t x e;exact ⟨this.1,fun h'=>by have:=this.2 h';simp;omega⟩
 ·refine ⟨by have:=h.base.1;simp;omega,fun r hr=>?_⟩;have:=h.base.1;rw [cj _ _ (by omega)];exact h.base.2 r hr
def ax.FH {wb:aT} {G:Gh} {S:St} {w:World} (h:ax wb G S w) {E:TypeId} {fr:Nat×Nat} {row vs:List Value} (hv:∀ (j:Nat) (v:Value),vs[j]? =some v->row[j]? =some v):
  ∃ G',G.le G'/\G'.σ=G.σ/\G'.τ=G.τ/\ax wb G' S (w.alloc (.cells row.toArray E fr))/\(∀ (j:Nat),G'.φ w.heap.size j=vs[j]?)/\∀ r o,r≠w.heap.size->G'.φ r o=G.φ r o:=by
 let G':Gh:={G with φ:=fun r o=>if r=w.heap.size then vs[o]? else G.φ r o}
 have hle:G.le G':=by
  refine ⟨fun r o v e=>?_,fun _ _ e=>e,fun _ _ e=>e,rfl,fun _ _ _=>rfl⟩;have:r≠w.heap.size:=Bt (h.lt e);simp [G',this,e]
 have ha:=h.alloc (.cells row.toArray E fr);have hcell:∀ o,(w.alloc (.cells row.toArray E fr)).cell? ⟨w.heap.size,o,none⟩=row[o]? :=fun o=>by simp [World.alloc,World.cell?,-World.alloc_eq]
 have hnew:∀ l,G.σ l≠some w.heap.size:=fun l e=>by have:=(h.bT l _ e).2.2;omega
 refine ⟨G',hle,rfl,rfl,?_,fun j=>by simp [G'],fun r o hr=>by simp [G',hr]⟩;refine {ha with prom:=?_,apart:=?_,obj:=?_,tok:=?_,cF:=?_,cH:=?_,bu:=?_};rotate_right
 ·intro l s hl hsp0;obtain ⟨r,hr,hb⟩:=h.bu l s hl hsp0;refine ⟨r,hr,hb.to hle (fun hlt=>cj _ _ hlt) fun g hg _ _ hal=>⟨cj _ _ hg,fun o=>?_,hal.2⟩⟩;simp only [G',Bt hg,if_false];exact hal.1 o
 ·intro r o v e
  by_cases hr:r=w.heap.size
  ·subst hr;simp only [G',if_true] at e;rw [hcell];exact hv o v e
  ·simp only [G',hr,if_false] at e;exact ha.prom r o v e
 ·intro l cs r o hl hd e;have hr:r≠w.heap.size:=fun e'=>hnew l (e'▸e);simp only [G',hr,if_false];exact h.apart l cs r o hl hd e
 ·intro l cs hl hnb;obtain ⟨r,hr,hm⟩:=ha.obj l cs hl hnb;exact ⟨r,hr,fun m c hmc=>by obtain ⟨v,h1,h2,h3,h4⟩:=hm m c hmc;exact ⟨v,h1,h2.mono hle,h3,h4⟩⟩
 ·intro t ht;obtain ⟨r,e,z,h1,h4⟩:=ha.tok t ht;refine ⟨r,e,z,h1,fun i h5 h6=>?_⟩;obtain ⟨h2,h3,h7,h8,h9⟩:=h4 i h5 h6;have hr:r≠w.heap.size:=Bt ((h.bQ t _ h1).2 (by show e<z;omega));exact ⟨h2,h3,h7,h8,by simp only [G',hr,if_false];exact h9⟩
 ·intro r o v hr e;have hne:r≠w.heap.size:=by have:=h.base.1;omega
  simp only [G',hne,if_false] at e;exact h.cH r o v hr e
 ·intro g cs hg m c hmc;obtain ⟨v,h1,h2,h3⟩:=h.cF g cs hg m c hmc;exact ⟨v,hle.φ _ _ _ h1,h2.mono hle,h3⟩
def ax.promise {wb:aT} {G:Gh} {S:St} {w:World} (h:ax wb G S w) {E:TypeId} {fr:Nat×Nat} {row vs:List Value} (hv:∀ (j:Nat) (v:Value),vs[j]? =some v->row[j]? =some v):
  ∃ G',G.le G'/\G'.σ=G.σ/\G'.τ=G.τ/\ax wb G' S (w.alloc (.cells row.toArray E fr))/\(∀ (j:Nat),G'.φ w.heap.size j=vs[j]?):=by
 obtain ⟨G',h1,h2,h3,h4,h5,_⟩:=h.FH (E:=E) (fr:=fr) hv;exact ⟨G',h1,h2,h3,h4,h5⟩
def ax.j9 {wb:aT} {G:Gh} {S:St} {w:World} (h:ax wb G S w) {E:TypeId} {cs:List AV} {vs rest:List Value} (hr:br G cs vs):
  ∃ G',G.le G'/\G'.σ S.n=some w.heap.size/\G'.κ S.n=vs.length+rest.length/\ax wb G' {S with n:=S.n+1,obj:=(S.n,cs)::S.obj} (w.alloc (.cells (vs++rest).toArray E)):=by
 have hnone:G.σ S.n=none:=by
  cases e:G.σ S.n with
  |none=>rfl
  |some r=>have:=(h.bT _ _ e).1;omega
 let G':Gh:={G with σ:=eE G.σ S.n (some w.heap.size),κ:=eE G.κ S.n (vs.length+rest.length)}
 have hle:G.le G':=by
  refine ⟨fun _ _ _ e=>e,fun l r e=>?_,fun _ _ e=>e,rfl,fun l r e=>?_⟩<;>
  ·have:l≠S.n:=fun e'=>by rw [e',hnone] at e;cases e
   simp [G',eE,this,e]
 have ha:=h.alloc (.cells (vs++rest).toArray E)
 have hφ:∀ o,G.φ w.heap.size o=none:=fun o=>by
  cases e:G.φ w.heap.size o with
  |none=>rfl
  |some v=>have:=h.lt e;omega
 refine ⟨G',hle,by simp [G'],by simp [G'],?_⟩;refine {prom:=ha.prom,room:=?_,apart:=?_,obj:=?_,inj:=?_,bT:=?_,tok:=?_,bQ:=ha.bQ,cP:=ha.cP,base:=ha.base,still:=ha.still,cH:=ha.cH,beta:=ha.beta,cF:=?_,bu:=?_,dy:=?_};rotate_right 2
 ·intro l s hl hsp0;simp only [St.get,List.lookup_cons] at hl
  by_cases hln:l=S.n
  ·subst hln;simp at hl;subst hl;obtain ⟨_,_,hx,ho⟩:=hr.get (m:=0) rfl;rw [hx.zk ho] at hsp0;cases hsp0
  ·have hb:(l==S.n)=false:=by simpa using hln
   rw [hb] at hl;obtain ⟨r,hr',hb'⟩:=h.bu l s hl hsp0;refine ⟨r,hle.σ _ _ hr',hb'.to hle (fun hlt=>cj _ _ hlt) fun g hg _ _ hal=>⟨cj _ _ hg,hal.1,fun l' e=>?_,hal.2.2⟩⟩
   by_cases hl':l'=S.n
   ·subst hl';simp only [G',cM] at e;injection e with e
    omega
   ·simp only [G',eE,hl',if_false] at e;exact hal.2.1 l' e
 ·intro l l' s s' h1 h2
  have key:∀ l s,List.lookup l ((S.n,cs)::S.obj)=some [AV.bu s]->S.get l=some [.bu s]:=by
   intro l s hl;simp only [List.lookup_cons] at hl
   by_cases hln:l=S.n
   ·subst hln;simp at hl;subst hl;cases (hr.get (m:=0) rfl).choose_spec.2.1
   ·have hb:(l==S.n)=false:=by simpa using hln
    rw [hb] at hl;exact hl
  exact h.dy l l' s s' (key l s h1) (key l' s' h2)
 ·intro l ds r hget hnb e
  by_cases hl:l=S.n
  ·subst hl;simp [G'] at e;subst e;simp [St.get] at hget;subst hget;refine ⟨⟨by simp [G',hr.len],⟨⟨E,by simp only [World.shape?,alloc_heap_new,G',cM];simp⟩,by simp⟩⟩,fun m hm=>?_⟩;simp only [G',cM] at hm;rw [World.cell?_alloc_new];have:m<(vs++rest).length:=by simpa using hm
   exact ⟨⟨(vs++rest)[m],by simp⟩,by simp⟩
  ·have hb:(l==S.n)=false:=by simpa using hl
   simp only [St.get,List.lookup_cons,hb] at hget;simp only [G',eE,hl,if_false] at e ⊢;exact ha.room l ds r hget hnb e
 ·intro l ds r o hget hd e
  by_cases hl:l=S.n
  ·subst hl;simp [G'] at e;subst e;exact hφ o
  ·simp only [G',eE,hl,if_false] at e;refine h.apart l ds r o ?_ hd e;have hb:(l==S.n)=false:=by simpa using hl
   simp only [St.get,List.lookup_cons,hb] at hget;exact hget
 ·intro l ds hl hnb;simp only [St.get,List.lookup_cons] at hl
  by_cases hln:l=S.n
  ·subst hln;simp at hl;subst hl;refine ⟨w.heap.size,by simp [G'],fun m c hmc=>?_⟩;obtain ⟨v,h1,h2,h3⟩:=hr.get hmc
   have hlt:m<vs.length:=by
    rcases Al m vs.length with h'|h'
    ·exact h'
    ·rw [As h'] at h1;cases h1
   exact ⟨v,by rw [World.cell?_alloc_new];simpa [AF hlt] using h1,h2.mono hle,h3,by simp⟩
  ·have hb:(l==S.n)=false:=by simpa using hln
   rw [hb] at hl;obtain ⟨r,hr',hm⟩:=ha.obj l ds hl hnb;exact ⟨r,hle.σ _ _ hr',fun m c hmc=>by obtain ⟨v,h1,h2,h3,h4⟩:=hm m c hmc;exact ⟨v,h1,h2.mono hle,h3,h4⟩⟩
 ·intro l l' r cs1 cs2 g1 g2 d1 d2 e e'
  by_cases hl:l=S.n<;>by_cases hl':l'=S.n
  ·rw [hl,hl']
  ·subst hl;simp only [G',cM] at e;simp only [G',eE,hl',if_false] at e';injection e with e
   have:=(h.bT _ _ e').2.2;omega
  ·subst hl';simp only [G',cM] at e';simp only [G',eE,hl,if_false] at e;injection e' with e'
   have:=(h.bT _ _ e).2.2;omega
  ·simp only [G',eE,hl,hl',if_false] at e e';have hb:(l==S.n)=false:=by simpa using hl
   have hb':(l'==S.n)=false:=by simpa using hl'
   simp only [St.get,List.lookup_cons,hb,hb'] at g1 g2;exact h.inj l l' r cs1 cs2 g1 g2 d1 d2 e e'
 ·intro l r e
  by_cases hl:l=S.n
  ·subst hl;simp only [G',cM] at e;injection e with e
   have:=h.base.1;simp;omega
  ·simp only [G',eE,hl,if_false] at e;have:=h.bT l r e;simp;omega
 ·intro t ht;obtain ⟨r,e,z,h1,h4⟩:=ha.tok t ht;refine ⟨r,e,z,h1,fun i h5 h6=>?_⟩;obtain ⟨h2,h3,h7⟩:=h4 i h5 h6;refine ⟨h2,fun l e'=>?_,h7⟩
  by_cases hl:l=S.n
  ·subst hl;simp only [G',cM] at e';injection e' with e'
   have:=(h.bQ t _ h1).2 (by show e<z;omega);simp at this;omega
  ·simp only [G',eE,hl,if_false] at e';exact h3 l e'
 ·intro g cs' hg m c hmc;obtain ⟨v,h1,h2,h3⟩:=h.cF g cs' hg m c hmc;exact ⟨v,h1,h2.mono hle,h3⟩
def ax.newObj {wb:aT} {G:Gh} {S:St} {w:World} (h:ax wb G S w) {E:TypeId} {cs:List AV} {vs:List Value} (hr:br G cs vs):
  ∃ G',G.le G'/\G'.σ S.n=some w.heap.size/\ax wb G' {S with n:=S.n+1,obj:=(S.n,cs)::S.obj} (w.alloc (.cells vs.toArray E)):=by
 obtain ⟨G',h1,h2,_,h3⟩:=h.j9 (E:=E) (rest:=[]) hr;rw [AB] at h3;exact ⟨G',h1,h2,h3⟩
def cn (cs:List AV) (o:Nat) (ds:List AV):List AV:=cs.take o++ds++cs.drop (o+ds.length)
def pw {cs ds:List AV} {o:Nat} (h:o<=cs.length) (m:Nat):(cn cs o ds)[m]? =if o<=m/\m<o+ds.length then ds[m-o]? else cs[m]? :=by
 unfold cn
 by_cases h1:m<o
 ·rw [AL,AF (by simp;omega),Bh,if_pos h1,if_neg (by omega)]
 ·by_cases h2:m<o+ds.length
  ·rw [if_pos ⟨by omega,h2⟩,AF (by simp;omega),AG (by simp;omega)]
   congr 1
   simp;omega
  ·rw [if_neg (by omega),AG (by simp;omega),AO]
   congr 1
   simp;omega
def J0 {cs ds:List AV} {o:Nat} (h:o+ds.length<=cs.length) (m:Nat):(cn cs o ds)[m]? =if o<=m/\m<o+ds.length then ds[m-o]? else cs[m]? :=pw (by omega) m
def St.set (S:St) (l:Nat) (cs:List AV):St:={S with obj:=(l,cs)::S.obj}
def ax.F4 {wb:aT} {G:Gh} {S:St} {w:World} (h:ax wb G S w) {l r o:Nat} {cs ds:List AV} {vs:List Value} (hl:S.get l=some cs) (hr:G.σ l=some r)
  (hd:br G ds vs) (ho:o<=cs.length) (hz:o+ds.length<=G.κ l) (hnb0:aE cs=false):ax wb G (S.set l (cn cs o ds)) (putCells w r o vs):=by
 obtain ⟨r',hr',hm⟩:=h.obj l cs hl hnb0;obtain ⟨k1,k2⟩:=h.room l cs r hl hnb0 hr
 have hsp:∀ s,aE [s]=true->cn cs o ds≠[s]:=by
  intro s hsp0 e;have h0:(cn cs o ds)[0]? =some s:=by rw [e];rfl
  rw [pw ho] at h0;split at h0
  ·obtain ⟨_,_,hx,ho⟩:=hd.get h0;rw [hx.zk ho] at hsp0;cases hsp0
  ·have hlen1:cs.length=1:=by
    have:=congrArg List.length e;simp [cn] at this;omega
   cases cs with
   |nil=>simp at h0
   |cons c cs=>
    have:cs=[]:=A2 (by simpa using hlen1);subst this;simp at h0;subst h0;rw [hnb0] at hsp0;cases hsp0
 obtain rfl:r=r':=by rw [hr] at hr';exact AX hr'
 have hlen:=hd.len;have hcell:∀ j,j<vs.length->∃ v,w.cell? ⟨r,o+j,none⟩=some v:=fun j hj=>by exact (k2 (o+j) (by omega)).1
 have hoth:∀ r' i,r'≠r->(putCells w r o vs).cell? ⟨r',i,none⟩=w.cell? ⟨r',i,none⟩:=fun r' i hne=>cx r _ vs w o (fun e=>absurd e hne);have hbase:=(h.bT l r hr).2.1;have hlive:eU cs=false:=bo hnb0
 have hput:∀ i,(∃ v,w.cell? ⟨r,i,none⟩=some v)->∃ v,(putCells w r o vs).cell? ⟨r,i,none⟩=some v:=fun i ⟨v,e⟩=>by
  by_cases hin:o<=i/\i<o+vs.length
  ·have:=gj r vs w o hcell (i-o) (vs[i-o]'(by omega)) (by simp);rw [show o+(i-o)=i from by omega] at this;exact ⟨_,this⟩
  ·exact ⟨v,by rw [cx r _ vs w o (fun _ _=>hin)];exact e⟩
 have hlv:∀ l' cs',(S.set l (cn cs o ds)).get l'=some cs'->eU cs'=false->∃ cs'',S.get l'=some cs''/\eU cs''=false:=fun l' cs' hg hd'=>by
  simp only [St.get,St.set,List.lookup_cons] at hg
  by_cases hll:l'=l
  ·subst hll;exact ⟨cs,hl,hlive⟩
  ·have hb:(l'==l)=false:=by simpa using hll
   rw [hb] at hg;exact ⟨cs',hg,hd'⟩
 refine {prom:=?_,room:=?_,apart:=?_,obj:=?_,inj:=fun l1 l2 r' c1 c2 g1 g2 d1 d2=>by
           obtain ⟨_,q1,q2⟩:=hlv l1 c1 g1 d1;obtain ⟨_,q3,q4⟩:=hlv l2 c2 g2 d2
           exact h.inj l1 l2 r' _ _ q1 q3 q2 q4,bT:=?_,tok:=?_,bQ:=?_,cP:=h.cP,base:=?_,still:=?_,cH:=h.cH,beta:=h.beta,cF:=h.cF,bu:=?_,dy:=?_}
 rotate_left
 ·intro l' ds' r' hget hnb' e;simp only [St.get,St.set,List.lookup_cons] at hget
  by_cases hll:l'=l
  ·subst hll;simp at hget;subst hget;rw [hr] at e;cases e;obtain ⟨q1,q2⟩:=h.room l' cs r hl hnb0 hr;have q1':=q1.1;refine ⟨⟨by simp [cn];omega,q1.2.put _ _ _⟩,fun m hm'=>⟨hput m (q2 m hm').1,by rw [bF];exact (q2 m hm').2⟩⟩
  ·have hb:(l'==l)=false:=by simpa using hll
   rw [hb] at hget;obtain ⟨q1,q2⟩:=h.room l' ds' r' hget hnb' e;have hne:r'≠r:=fun e'=>hll (h.inj _ _ _ _ _ hget hl (bo hnb') hlive (e'▸e) hr);exact ⟨⟨q1.1,q1.2.put _ _ _⟩,fun m hm'=>by rw [hoth _ _ hne,bF];exact q2 m hm'⟩
 rotate_right;rotate_right 2
 ·intro l' s hget hsp0;simp only [St.get,St.set,List.lookup_cons] at hget
  by_cases hll:l'=l
  ·subst hll;simp at hget;exact (hsp s hsp0 hget).elim
  ·have hb:(l'==l)=false:=by simpa using hll
   rw [hb] at hget;obtain ⟨rb,hrb,hbb⟩:=h.bu l' s hget hsp0
   cases hds:eU [s] with
   |true=>
    unfold eU at hds;split at hds
    ·rename_i e;injection e with e
     subst e;exact ⟨rb,hrb,trivial⟩
    ·cases hds
   |false=>
   refine ⟨rb,hrb,hbb.to (Gh.le_refl _) (fun _=>cy _ _ (fun e=>hll (h.inj _ _ _ _ _ hget hl hds hlive (by rw [hrb,e]) hr)) _ _ _) fun g hg _ _ hal=>⟨cy _ _ (fun e=>hal.2.1 l (by rw [hr,e])) _ _ _,hal⟩⟩
 ·intro l1 l2 s1 s2 h1 h2
  have key:∀ l' s,(S.set l (cn cs o ds)).get l'=some [AV.bu s]->S.get l'=some [.bu s]:=by
   intro l' s hget;simp only [St.get,St.set,List.lookup_cons] at hget
   by_cases hll:l'=l
   ·subst hll;simp at hget;exact (hsp _ rfl hget).elim
   ·have hb:(l'==l)=false:=by simpa using hll
    rw [hb] at hget;exact hget
  exact h.dy l1 l2 s1 s2 (key _ _ h1) (key _ _ h2)
 rotate_left
 ·intro l' ds r' o' hget hd' e
  by_cases hll:l'=l
  ·subst hll;exact h.apart l' cs r' o' hl hlive e
  ·refine h.apart l' ds r' o' ?_ hd' e;have hb:(l'==l)=false:=by simpa using hll
   simp only [St.get,St.set,List.lookup_cons,hb] at hget;exact hget
 rotate_right
 ·intro r' i v e;have hne:r'≠r:=fun e'=>by subst e';rw [h.apart l cs r' i hl hlive hr] at e;cases e
  rw [hoth _ _ hne];exact h.prom _ _ _ e
 ·intro l' cs' hl' hnb';simp only [St.get,St.set,List.lookup_cons] at hl'
  by_cases e:l'=l
  ·subst e;simp at hl';subst hl';refine ⟨r,hr,fun m c hmc=>?_⟩;rw [pw ho] at hmc;rw [bF];split at hmc
   ·rename_i hin;obtain ⟨v,h1,h2,h3⟩:=hd.get hmc;refine ⟨v,?_,h2,h3,?_⟩
    ·have:=gj r vs w o hcell (m-o) v h1
     rwa [show o+(m-o)=m from by omega] at this
    ·exact (k2 m (by omega)).2
   ·rename_i hout;obtain ⟨v,h1,h2,h3,h4⟩:=hm m c hmc;exact ⟨v,by rw [cx r _ vs w o (fun _ _=>by simpa [<-hlen] using hout)];exact h1,h2,h3,h4⟩
  ·have hb:(l'==l)=false:=by simpa using e
   rw [hb] at hl';obtain ⟨r',hr',hm'⟩:=h.obj l' cs' hl' hnb';have hne:r'≠r:=fun e'=>e (h.inj _ _ _ _ _ hl' hl (bo hnb') hlive (e'▸hr') hr);refine ⟨r',hr',fun m c hmc=>?_⟩;obtain ⟨v,h1,h2,h3,h4⟩:=hm' m c hmc;exact ⟨v,by rw [hoth _ _ hne];exact h1,h2,h3,by rw [bF];exact h4⟩
 ·intro l' r' e;rw [dx];exact h.bT l' r' e
 ·intro t ht;obtain ⟨r',e,z,h1,h4⟩:=h.tok t ht;refine ⟨r',e,z,h1,fun i h5 h6=>?_⟩;have hne:r'≠r:=fun e'=>(h4 i h5 h6).2.1 l (e'▸hr);rw [hoth _ _ hne,bF];exact h4 i h5 h6
 ·intro t x e;rw [dx];exact h.bQ t x e
 ·rw [dx];refine ⟨h.base.1,fun r' hr'=>?_⟩;rw [cy _ _ (by omega)];exact h.base.2 r' hr'
 ·obtain ⟨e1,e2,e3⟩:=ji r vs w o;rw [e1,e2,e3];exact h.still
def ax.store {wb:aT} {G:Gh} {S:St} {w:World} (h:ax wb G S w) {l r o:Nat} {cs ds:List AV} {vs:List Value} (hl:S.get l=some cs) (hr:G.σ l=some r)
  (hd:br G ds vs) (ho:o+ds.length<=cs.length) (hnb0:aE cs=false):ax wb G (S.set l (cn cs o ds)) (putCells w r o vs):=
 h.F4 hl hr hd (by omega) (by have:=(h.room l cs r hl hnb0 hr).1.1;omega) hnb0
def lu:List AV:=[.aF []]
def ax.aaM {wb:aT} {G:Gh} {S:St} {w:World} (h:ax wb G S w) {l r m:Nat} {cs ds:List AV} {vs:List Value} (hl:S.get l=some cs) (hr:G.σ l=some r)
  (hd:br G ds vs) (hm0:m<=cs.length) (hz:m+ds.length<=G.κ l) (hnb0:aE cs=false):
  ∃ G',G.le G'/\G'.σ S.n=some r/\G'.κ S.n=G.κ l/\ax wb G' {S with n:=S.n+1,obj:=(S.n,cs.take m++ds)::(l,lu)::S.obj} (putCells w r m vs):=by
 obtain ⟨r',hr',hm⟩:=h.obj l cs hl hnb0;obtain rfl:r=r':=by rw [hr] at hr';exact AX hr'
 obtain ⟨k1,k2⟩:=h.room l cs r hl hnb0 hr;have hlen:=hd.len;have hdom:=h.bT l r hr
 have hnone:G.σ S.n=none:=by
  cases e:G.σ S.n with
  |none=>rfl
  |some r=>have:=(h.bT _ _ e).1;omega
 let G':Gh:={G with σ:=eE G.σ S.n (some r),κ:=eE G.κ S.n (G.κ l)}
 have hle:G.le G':=by
  refine ⟨fun _ _ _ e=>e,fun l r e=>?_,fun _ _ e=>e,rfl,fun l r e=>?_⟩<;>
  ·have:l≠S.n:=fun e'=>by rw [e',hnone] at e;cases e
   simp [G',eE,this,e]
 have hlive:eU cs=false:=bo hnb0;have hcell:∀ j,j<vs.length->∃ v,w.cell? ⟨r,m+j,none⟩=some v:=fun j hj=>(k2 (m+j) (by omega)).1;have hoth:∀ r' i,r'≠r->(putCells w r m vs).cell? ⟨r',i,none⟩=w.cell? ⟨r',i,none⟩:=fun r' i hne=>cx r _ vs w m (fun e=>absurd e hne)
 have hput:∀ i,(∃ v,w.cell? ⟨r,i,none⟩=some v)->∃ v,(putCells w r m vs).cell? ⟨r,i,none⟩=some v:=fun i ⟨v,e⟩=>by
  by_cases hin:m<=i/\i<m+vs.length
  ·have:=gj r vs w m hcell (i-m) (vs[i-m]'(by omega)) (by simp);rw [show m+(i-m)=i from by omega] at this;exact ⟨_,this⟩
  ·exact ⟨v,by rw [cx r _ vs w m (fun _ _=>hin)];exact e⟩
 have hnew:∀ (i:Nat) (c:AV),(cs.take m++ds)[i]? =some c->∃ v,(putCells w r m vs).cell? ⟨r,i,none⟩=some v/\af G c v/\v.oneCell'=true/\(putCells w r m vs).frozen? ⟨r,i,none⟩=false:=fun i c hi=>by
  rw [bF];rcases Al i m with him|him
  ·rw [AF (by simp;omega),Bh,if_pos him] at hi;obtain ⟨v,h1,h2,h3,h4⟩:=hm i c hi;exact ⟨v,by rw [cx r _ vs w m (fun _ _=>by simp;omega)];exact h1,h2,h3,h4⟩
  ·rw [AG (by simp;omega)] at hi;have e1:i-(cs.take m).length=i-m:=by simp;omega
   rw [e1] at hi;obtain ⟨v,h1,h2,h3⟩:=hd.get hi;have:=gj r vs w m hcell (i-m) v h1;rw [show m+(i-m)=i from by omega] at this
   have hilt:i-m<ds.length:=by
    rcases Al (i-m) ds.length with h'|h'
    ·exact h'
    ·rw [As h'] at hi;cases hi
   exact ⟨v,this,h2,h3,(k2 i (by omega)).2⟩
 have hsp:∀ s,aE [s]=true->cs.take m++ds≠[s]:=by
  intro s hsp0 e;obtain ⟨v,_,hx,ho,_⟩:=hnew 0 s (by rw [e];rfl);rw [hx.zk ho] at hsp0;cases hsp0
 have hget:∀ l' cs',List.lookup l' ((S.n,cs.take m++ds)::(l,lu)::S.obj)=some cs'->(l'=S.n/\cs'=cs.take m++ds)∨(l'≠S.n/\l'=l/\cs'=lu)∨(l'≠S.n/\l'≠l/\S.get l'=some cs'):=fun l' cs' e=>by
  rw [List.lookup_cons] at e
  by_cases h1:l'=S.n
  ·subst h1;simp at e;exact .inl ⟨rfl,e.symm⟩
  ·have hb:(l'==S.n)=false:=by simpa using h1
   rw [hb] at e;rw [List.lookup_cons] at e
   by_cases h2:l'=l
   ·subst h2;simp at e;exact .inr (.inl ⟨h1,rfl,e.symm⟩)
   ·have hb:(l'==l)=false:=by simpa using h2
    rw [hb] at e;exact .inr (.inr ⟨h1,h2,e⟩)
 have hσ':∀ l',l'≠S.n->G'.σ l'=G.σ l':=fun l' e=>by simp [G',eE,e]
 have hκ':∀ l',l'≠S.n->G'.κ l'=G.κ l':=fun l' e=>by simp [G',eE,e]
 have hne:∀ l' cs' r',S.get l'=some cs'->l'≠l->eU cs'=false->G.σ l'=some r'->r'≠r:=fun l' cs' r' g1 g2 g3 g4 e=>g2 (h.inj l' l r' cs' cs g1 hl g3 hlive g4 (e▸hr));refine ⟨G',hle,by simp [G'],by simp [G'],?_⟩;refine {prom:=?_,room:=?_,apart:=?_,obj:=?_,inj:=?_,bT:=?_,tok:=?_,bQ:=?_,cP:=h.cP,base:=?_,still:=?_,cH:=h.cH,beta:=h.beta,cF:=?_,bu:=?_,dy:=?_}
 ·intro r' i v e;have hne:r'≠r:=fun e'=>by subst e';rw [h.apart l cs r' i hl hlive hr] at e;cases e
  rw [hoth _ _ hne];exact h.prom _ _ _ e
 ·intro l' cs' r' g1 g2 g3;rcases hget l' cs' g1 with ⟨rfl,rfl⟩|⟨_,rfl,rfl⟩|⟨q1,q2,q3⟩
  ·simp only [G',cM] at g3 ⊢;cases g3;have k1':=k1.1;refine ⟨⟨by simp;omega,k1.2.put _ _ _⟩,fun i hi=>⟨hput i (k2 i hi).1,by rw [bF];exact (k2 i hi).2⟩⟩
  ·cases g2
  ·rw [hσ' _ q1] at g3;rw [hκ' _ q1];obtain ⟨q4,q5⟩:=h.room l' cs' r' q3 g2 g3;exact ⟨⟨q4.1,q4.2.put _ _ _⟩,fun i hi=>by rw [hoth _ _ (hne _ _ _ q3 q2 (bo g2) g3),bF];exact q5 i hi⟩
 ·intro l' cs' r' o g1 g2 g3;rcases hget l' cs' g1 with ⟨rfl,rfl⟩|⟨_,rfl,rfl⟩|⟨q1,q2,q3⟩
  ·simp only [G',cM] at g3;cases g3;exact h.apart l cs r o hl hlive hr
  ·cases g2
  ·rw [hσ' _ q1] at g3;exact h.apart l' cs' r' o q3 g2 g3
 ·intro l' cs' g1 g2;rcases hget l' cs' g1 with ⟨rfl,rfl⟩|⟨_,rfl,rfl⟩|⟨q1,q2,q3⟩
  ·refine ⟨r,by simp [G'],fun i c hi=>?_⟩;obtain ⟨v,h1,h2,h3,h4⟩:=hnew i c hi;exact ⟨v,h1,h2.mono hle,h3,h4⟩
  ·cases g2
  ·obtain ⟨r',hr',hm'⟩:=h.obj l' cs' q3 g2;refine ⟨r',hle.σ _ _ hr',fun i c hi=>?_⟩;obtain ⟨v,h1,h2,h3,h4⟩:=hm' i c hi;exact ⟨v,by rw [hoth _ _ (hne _ _ _ q3 q2 (bo g2) hr')];exact h1,h2.mono hle,h3,by rw [bF];exact h4⟩
 ·intro l1 l2 r' c1 c2 g1 g2 d1 d2 e1 e2;rcases hget l1 c1 g1 with ⟨rfl,rfl⟩|⟨_,rfl,rfl⟩|⟨q1,q2,q3⟩
  ·rcases hget l2 c2 g2 with ⟨rfl,rfl⟩|⟨_,rfl,rfl⟩|⟨p1,p2,p3⟩
   ·rfl
   ·cases d2
   ·simp only [G',cM] at e1;cases e1;rw [hσ' _ p1] at e2;exact (hne _ _ _ p3 p2 d2 e2 rfl).elim
  ·cases d1
  ·rcases hget l2 c2 g2 with ⟨rfl,rfl⟩|⟨_,rfl,rfl⟩|⟨p1,p2,p3⟩
   ·simp only [G',cM] at e2;cases e2;rw [hσ' _ q1] at e1;exact (hne _ _ _ q3 q2 d1 e1 rfl).elim
   ·cases d2
   ·rw [hσ' _ q1] at e1;rw [hσ' _ p1] at e2;exact h.inj l1 l2 r' c1 c2 q3 p3 d1 d2 e1 e2
 ·intro l' r' e;rw [dx]
  by_cases h1:l'=S.n
  ·subst h1;simp only [G',cM] at e;cases e;exact ⟨by simp,hdom.2⟩
  ·rw [hσ' _ h1] at e;have:=h.bT l' r' e;exact ⟨by simp;omega,this.2⟩
 ·intro t ht;obtain ⟨r',e,z,h1,h4⟩:=h.tok t ht;refine ⟨r',e,z,h1,fun i h5 h6=>?_⟩;obtain ⟨q1,q2,q3,q4,q5⟩:=h4 i h5 h6;have hne:r'≠r:=fun e'=>q2 l (e'▸hr);refine ⟨q1,fun l' e'=>?_,by rw [hoth _ _ hne];exact q3,by rw [bF];exact q4,q5⟩
  by_cases h1:l'=S.n
  ·subst h1;simp only [G',cM] at e';injection e' with e'
   exact hne e'.symm
  ·rw [hσ' _ h1] at e';exact q2 l' e'
 ·intro t x e;rw [dx];exact h.bQ t x e
 ·rw [dx];refine ⟨h.base.1,fun r' hr'=>?_⟩;rw [cy _ _ (by omega)];exact h.base.2 r' hr'
 ·obtain ⟨e1,e2,e3⟩:=ji r vs w m;rw [e1,e2,e3];exact h.still
 ·intro g cs' hg i c hi;obtain ⟨v,a,b,d⟩:=h.cF g cs' hg i c hi;exact ⟨v,hle.φ _ _ _ a,b.mono hle,d⟩
 ·intro l' s hg hsp0;rcases hget l' [s] hg with ⟨rfl,e⟩|⟨q1,rfl,e⟩|⟨q1,q2,q3⟩
  ·exact (hsp s hsp0 e.symm).elim
  ·injection e with e
   subst e;exact ⟨r,by rw [hσ' _ q1];exact hr,trivial⟩
  ·obtain ⟨rb,hrb,hbb⟩:=h.bu l' s q3 hsp0;refine ⟨rb,hle.σ _ _ hrb,?_⟩
   cases hds:eU [s] with
   |true=>
    unfold eU at hds;split at hds
    ·rename_i e;injection e with e
     subst e;exact trivial
    ·cases hds
   |false=>
    refine hbb.to hle (fun _=>cy _ _ (hne _ _ _ q3 q2 hds hrb) _ _ _) fun g hg' _ _ hal=>?_;have hgr:g≠r:=fun e=>hal.2.1 l (by rw [hr,e]);refine ⟨cy _ _ hgr _ _ _,hal.1,fun l'' e=>?_,hal.2.2⟩
    by_cases h1:l''=S.n
    ·subst h1;simp only [G',cM] at e;injection e with e
     exact hgr e.symm
    ·rw [hσ' _ h1] at e;exact hal.2.1 l'' e
 ·intro l1 l2 s1 s2 g1 g2
  have key:∀ l' s,List.lookup l' ((S.n,cs.take m++ds)::(l,lu)::S.obj)=some [AV.bu s]->S.get l'=some [.bu s]:=fun l' s g=>by
   rcases hget l' _ g with ⟨rfl,e⟩|⟨_,_,e⟩|⟨_,_,q3⟩
   ·exact (hsp _ rfl e.symm).elim
   ·injection e with e
    cases e
   ·exact q3
  exact h.dy l1 l2 s1 s2 (key _ _ g1) (key _ _ g2)
def ax.MO {wb:aT} {G:Gh} {S:St} {w:World} (h:ax wb G S w) {E:TypeId} {vs rest:List Value}:
  ∃ G',G.le G'/\G'.σ=G.σ/\G'.τ S.nt=some (w.heap.size,vs.length,vs.length+rest.length)/\(∀ (j:Nat),G'.φ w.heap.size j=vs[j]?)/\
   ax wb G' {S with nt:=S.nt+1,live:=S.nt::S.live} (w.alloc (.cells (vs++rest).toArray E)):=by
 obtain ⟨G1,hle,hs,ht,h1,hφ,hφo⟩:=h.FH (E:=E) (row:=vs++rest) (vs:=vs) (fun j v e=>by
  rw [AF (by
   rcases Al j vs.length with h'|h'
   ·exact h'
   ·rw [As h'] at e;cases e)]
  exact e)
 have hnone:G.τ S.nt=none:=by
  cases e:G.τ S.nt with
  |none=>rfl
  |some x=>have:=(h.bQ _ _ e).1;omega
 let G':Gh:={G1 with τ:=eE G1.τ S.nt (some (w.heap.size,vs.length,vs.length+rest.length))}
 have hle':G1.le G':=by
  refine ⟨fun _ _ _ e=>e,fun _ _ e=>e,fun t x e=>?_,rfl,fun _ _ _=>rfl⟩;have:t≠S.nt:=fun e'=>by rw [e',ht,hnone] at e;cases e
  simp [G',eE,this,e]
 have hold:∀ t,t∈S.live->t≠S.nt:=fun t hm e=>by
  obtain ⟨r,a,z,h5,_⟩:=h.tok t hm;rw [e,hnone] at h5;cases h5
 have hG':∀ t,t≠S.nt->G'.τ t=G.τ t:=fun t hne=>by simp [G',eE,hne,ht]
 refine ⟨G',Gh.le_trans hle hle',by simp [G',hs],by simp [G'],by simpa [G'] using hφ,?_⟩;refine {prom:=h1.prom,room:=h1.room,apart:=h1.apart,obj:=?_,inj:=h1.inj,bT:=h1.bT,tok:=?_,bQ:=?_,cP:=?_,base:=h1.base,still:=h1.still,cH:=h1.cH,beta:=h1.beta,cF:=?_,bu:=?_,dy:=h1.dy};rotate_right
 ·intro l s hl hsp0;obtain ⟨r,hr,hb⟩:=h.bu l s hl hsp0;refine ⟨r,by rw [show G'.σ=G1.σ from rfl,hs];exact hr,hb.to (Gh.le_trans hle hle') (fun hlt=>cj _ _ hlt) fun g hg _ _ hal=>⟨cj _ _ hg,fun o=>?_,fun l' e=>?_,fun t hm e z et=>?_⟩⟩
  ·show G1.φ g o=none;rw [hφo g o (Bt hg)];exact hal.1 o
  ·rw [show G'.σ=G1.σ from rfl,hs] at e;exact hal.2.1 l' e
  ·by_cases hts:t=S.nt
   ·subst hts;simp [G'] at et;omega
   ·rw [hG' t hts] at et;have hm':t∈S.live:=by rcases Ab.1 hm with e1|e1;exact absurd e1 hts;exact e1
    exact hal.2.2 t hm' e z et
 ·intro l cs hl hnb;obtain ⟨r,hr,hm⟩:=h1.obj l cs hl hnb;exact ⟨r,hr,fun m c hmc=>by obtain ⟨v,a,b,c',d⟩:=hm m c hmc;exact ⟨v,a,b.mono hle',c',d⟩⟩
 ·intro t hm
  by_cases e:t=S.nt
  ·subst e;refine ⟨w.heap.size,vs.length,vs.length+rest.length,by simp [G'],fun o h5 h6=>⟨h.base.1,fun l e'=>?_,?_⟩⟩
   ·have e2:G.σ l=some w.heap.size:=by rw [<-hs];exact e'
    have:=(h.bT _ _ e2).2.2;omega
   ·refine ⟨?_,by simp,?_⟩
    ·rw [World.cell?_alloc_new];have:o<(vs++rest).length:=by simp;omega
     exact ⟨(vs++rest)[o],by simp⟩
    ·show G1.φ w.heap.size o=none;rw [hφ,As h5]
  ·have hm':t∈S.live:=by
    rcases Ab.1 hm with e'|e'
    ·exact absurd e' e
    ·exact e'
   obtain ⟨r,a,z,h5,h6⟩:=h1.tok t hm';exact ⟨r,a,z,hle'.τ _ _ h5,h6⟩
 ·intro t x e
  by_cases e':t=S.nt
  ·subst e';simp [G'] at e;subst e;simp
  ·rw [hG' t e'] at e;have:=h.bQ t x e;exact ⟨by simp;omega,fun h'=>by have:=this.2 h';simp;omega⟩
 ·intro t hm t' hm' hne r a z a' z' e e' o h5 h6 h7 h8
  by_cases et:t=S.nt<;>by_cases et':t'=S.nt
  ·exact hne (et.trans et'.symm)
  ·subst et;simp [G'] at e;rw [hG' t' et'] at e';have:=(h.bQ _ _ e').2 (by show a'<z';omega);omega
  ·subst et';simp [G'] at e';rw [hG' t et] at e;have:=(h.bQ _ _ e).2 (by show a<z;omega);omega
  ·have m1:t∈S.live:=by rcases Ab.1 hm with e1|e1;exact absurd e1 et;exact e1
   have m2:t'∈S.live:=by rcases Ab.1 hm' with e1|e1;exact absurd e1 et';exact e1
   rw [hG' t et] at e;rw [hG' t' et'] at e';exact h.cP t m1 t' m2 hne r a z a' z' e e' o h5 h6 h7 h8
 ·intro g cs hg m c hmc;obtain ⟨v,a,b,d⟩:=h1.cF g cs hg m c hmc;exact ⟨v,a,b.mono hle',d⟩
def ax.extend {wb:aT} {G:Gh} {S:St} {w:World} (h:ax wb G S w) {t r e z:Nat} (ht:t∈S.live) (hτ:G.τ t=some (r,e,z)) {vs:List Value}
  (hz:e+vs.length<=z):
  ∃ G',G.le G'/\G'.σ=G.σ/\G'.τ S.nt=some (r,e+vs.length,z)/\(∀ (j:Nat) (v:Value),vs[j]? =some v->G'.φ r (e+j)=some v)/\
   ax wb G' {S with nt:=S.nt+1,live:=S.nt::S.live.filter (· !=t)} (putCells w r e vs):=by
 obtain ⟨r0,e0,z0,h0,hc'⟩:=h.tok t ht;obtain ⟨rfl,rfl,rfl⟩:r=r0/\e=e0/\z=z0:=by rw [hτ] at h0;simpa using h0
 have hc:∀ o,e<=o->o<z->(∃ v,w.cell? ⟨r,o,none⟩=some v)/\w.frozen? ⟨r,o,none⟩=false/\G.φ r o=none:=fun o h1 h2=>(hc' o h1 h2).2.2;have hσ:e<z->∀ l,G.σ l≠some r:=fun h1=>(hc' e (Af _) h1).2.1;have hb:e<z->wb.heap.size<=r:=fun h1=>(hc' e (Af _) h1).1
 have hnone:G.τ S.nt=none:=by
  cases e':G.τ S.nt with
  |none=>rfl
  |some x=>have:=(h.bQ _ _ e').1;omega
 let G':Gh:={G with φ:=fun r' o=>if r'=r/\e<=o/\o<e+vs.length then vs[o-e]? else G.φ r' o,τ:=eE G.τ S.nt (some (r,e+vs.length,z))}
 have hle:G.le G':=by
  refine ⟨fun r' o v e'=>?_,fun _ _ e'=>e',fun t' x e'=>?_,rfl,fun _ _ _=>rfl⟩
  ·have: ¬(r'=r/\e<=o/\o<e+vs.length):=fun ⟨h1,h2,h3⟩=>by
    subst h1;rw [(hc o h2 (by omega)).2.2] at e';cases e'
   simp only [G',this,if_false];exact e'
  ·have:t'≠S.nt:=fun e2=>by rw [e2,hnone] at e';cases e'
   simp [G',eE,this,e']
 have hcell:∀ j,j<vs.length->∃ v,w.cell? ⟨r,e+j,none⟩=some v:=fun j hj=>(hc (e+j) (by omega) (by omega)).1;have hoth:∀ r' o,¬(r'=r/\e<=o/\o<e+vs.length)->(putCells w r e vs).cell? ⟨r',o,none⟩=w.cell? ⟨r',o,none⟩:=fun r' o hne=>cx r _ vs w e (fun h1 _ h3=>hne ⟨h1,h3.1,h3.2⟩);have hG':∀ t',t'≠S.nt->G'.τ t'=G.τ t':=fun t' hne=>by simp [G',eE,hne]
 have hmem:∀ t',t'∈S.live.filter (· !=t)->t'∈S.live/\t'≠t:=fun t' hm=>by simpa using hm
 refine ⟨G',hle,rfl,by simp [G'],?_,?_⟩
 ·intro j v hj
  have hjl:j<vs.length:=by
   rcases Al j vs.length with h'|h'
   ·exact h'
   ·rw [As h'] at hj;cases hj
  have:r=r/\e<=e+j/\e+j<e+vs.length:=⟨rfl,by omega,by omega⟩;simp only [G',this];simpa using hj
 refine {prom:=?_,room:=fun l cs r' hl hnb e'=>by
           obtain ⟨q1,q2⟩:=h.room l cs r' hl hnb e'
           exact ⟨⟨q1.1,q1.2.put _ _ _⟩,fun m hm=>by rw [hoth _ _ (fun ⟨e2,e3,e4⟩=>hσ (by omega) l (e2▸e')),bF];exact q2 m hm⟩,apart:=?_,obj:=?_,inj:=h.inj,bT:=?_,tok:=?_,bQ:=?_,cP:=?_,base:=?_,still:=?_,cH:=?_,beta:=h.beta,cF:=?_,bu:=?_,dy:=h.dy}
 rotate_right
 ·intro l s hl hsp0;obtain ⟨rb,hrb,hbb⟩:=h.bu l s hl hsp0
  have hput:∀ g,(e<z->g≠r)->(putCells w r e vs).heap[g]? =w.heap[g]? :=fun g hgr=>by
   cases vs with
   |nil=>rfl
   |cons v vs=>exact cy _ _ (hgr (by simp at hz;omega)) _ _ _
  refine ⟨rb,hrb,hbb.to hle (fun _=>hput rb fun hez e1=>hσ hez l (e1▸hrb)) fun g hg _ _ hal=>?_⟩
  have hgr:e<z->g≠r:=fun hez e1=>by
   subst e1;have:=hal.2.2 t ht e z hτ;omega
  refine ⟨hput g hgr,fun o=>?_,hal.2.1,fun t' hm' e' z' et=>?_⟩
  ·show (if g=r/\e<=o/\o<e+vs.length then vs[o-e]? else G.φ g o)=none;rw [if_neg (fun ⟨e1,e2,e3⟩=>hgr (by omega) e1)];exact hal.1 o
  ·by_cases hts:t'=S.nt
   ·subst hts;simp [G'] at et;obtain ⟨e1,e2,e3⟩:=et;subst e1;have:=hal.2.2 t ht e z hτ;omega
   ·rw [hG' t' hts] at et;have hm2:t'∈S.live.filter (· !=t):=by rcases Ab.1 hm' with e1|e1;exact absurd e1 hts;exact e1
    exact hal.2.2 t' (hmem t' hm2).1 e' z' et
 ·intro r' o v e';simp only [G'] at e';split at e'
  ·rename_i hin;obtain ⟨h1,h2,h3⟩:=hin;subst h1;have:=gj r' vs w e hcell (o-e) v e'
   rwa [show e+(o-e)=o from by omega] at this
  ·rename_i hout;rw [hoth _ _ hout];exact h.prom _ _ _ e'
 ·intro l cs r' o hl hd e';show (if r'=r/\e<=o/\o<e+vs.length then vs[o-e]? else G.φ r' o)=none;rw [if_neg (fun ⟨e2,e3,e4⟩=>hσ (by omega) l (e2▸e'))];exact h.apart l cs r' o hl hd e'
 ·intro l cs hl hnb;obtain ⟨r',hr,hm⟩:=h.obj l cs hl hnb;refine ⟨r',hr,fun m c hmc=>?_⟩;obtain ⟨v,h1,h2,h3,h4⟩:=hm m c hmc;exact ⟨v,by rw [hoth _ _ (fun ⟨e2,e3,e4⟩=>hσ (by omega) l (e2▸hr))];exact h1,h2.mono hle,h3,by rw [bF];exact h4⟩
 ·intro l r' e';rw [dx];exact h.bT l r' e'
 ·intro t' hm
  by_cases et:t'=S.nt
  ·subst et;refine ⟨r,e+vs.length,z,by simp [G'],fun o h5 h6=>?_⟩;obtain ⟨h7,h8,h9⟩:=hc o (by omega) h6;have hout: ¬(r=r/\e<=o/\o<e+vs.length):=by omega
   refine ⟨hb (by omega),hσ (by omega),?_,by rw [bF];exact h8,?_⟩
   ·rw [hoth _ _ hout];exact h7
   ·show (if r=r/\e<=o/\o<e+vs.length then vs[o-e]? else G.φ r o)=none;rw [if_neg hout];exact h9
  ·have hm':t'∈S.live.filter (· !=t):=by rcases Ab.1 hm with e1|e1;exact absurd e1 et;exact e1
   obtain ⟨m1,m2⟩:=hmem t' hm';obtain ⟨r',a,z',h5,h8⟩:=h.tok t' m1;refine ⟨r',a,z',hle.τ _ _ h5,fun o h9 h10=>?_⟩;obtain ⟨h6,h7,h11,h12,h13⟩:=h8 o h9 h10
   have hout: ¬(r'=r/\e<=o/\o<e+vs.length):=fun ⟨q1,q2,q3⟩=>by
    subst q1;exact h.cP t ht t' m1 (AT m2) r' e z a z' hτ h5 o q2 (by omega) h9 h10
   refine ⟨h6,h7,by rw [hoth _ _ hout];exact h11,by rw [bF];exact h12,?_⟩;show (if r'=r/\e<=o/\o<e+vs.length then vs[o-e]? else G.φ r' o)=none;rw [if_neg hout];exact h13
 ·intro t' x e';rw [dx]
  by_cases et:t'=S.nt
  ·subst et;simp [G'] at e';subst e';have:=(h.bQ t _ hτ).2;exact ⟨by simp,fun h'=>this (by simp at h';show e<z;omega)⟩
  ·rw [hG' t' et] at e';have:=h.bQ t' x e';exact ⟨by simp;omega,this.2⟩
 ·intro t1 hm t2 hm' hne r' a y a' y' e1 e2 o h5 h6 h7 h8
  have key:∀ t',t'∈S.live.filter (· !=t)->∀ a y,G.τ t'=some (r,a,y)->∀ o,e+vs.length<=o->o<z->a<=o->o<y->False:=fun t' hm a y e' o q1 q2 q3 q4=>by
   obtain ⟨m1,m2⟩:=hmem t' hm;exact h.cP t ht t' m1 (AT m2) r e z a y hτ e' o (by omega) q2 q3 q4
  by_cases et1:t1=S.nt<;>by_cases et2:t2=S.nt
  ·exact hne (et1.trans et2.symm)
  ·subst et1;have m2:t2∈S.live.filter (· !=t):=by rcases Ab.1 hm' with e3|e3;exact absurd e3 et2;exact e3
   simp [G'] at e1;obtain ⟨rfl,rfl,rfl⟩:=e1;rw [hG' t2 et2] at e2;exact key t2 m2 _ _ e2 o h5 h6 h7 h8
  ·subst et2;have m1:t1∈S.live.filter (· !=t):=by rcases Ab.1 hm with e3|e3;exact absurd e3 et1;exact e3
   simp [G'] at e2;obtain ⟨rfl,rfl,rfl⟩:=e2;rw [hG' t1 et1] at e1;exact key t1 m1 _ _ e1 o h7 h8 h5 h6
  ·have m1:t1∈S.live.filter (· !=t):=by rcases Ab.1 hm with e3|e3;exact absurd e3 et1;exact e3
   have m2:t2∈S.live.filter (· !=t):=by rcases Ab.1 hm' with e3|e3;exact absurd e3 et2;exact e3
   rw [hG' t1 et1] at e1;rw [hG' t2 et2] at e2;exact h.cP t1 (hmem _ m1).1 t2 (hmem _ m2).1 hne r' a y a' y' e1 e2 o h5 h6 h7 h8
 ·rw [dx];refine ⟨h.base.1,fun r' hr'=>?_⟩
  cases vs with
  |nil=>exact h.base.2 r' hr'
  |cons v vs=>
   have:=hb (by simp at hz;omega);rw [cy _ _ (by omega)];exact h.base.2 r' hr'
 ·intro r' o v hr' e'
  have hout: ¬(r'=r/\e<=o/\o<e+vs.length):=fun ⟨q1,q2,q3⟩=>by
   have:=hb (by omega);omega
  have e2:(if r'=r/\e<=o/\o<e+vs.length then vs[o-e]? else G.φ r' o)=some v:=e';rw [if_neg hout] at e2;exact h.cH r' o v hr' e2
 ·obtain ⟨e1,e2,e3⟩:=ji r vs w e;rw [e1,e2,e3];exact h.still
 ·intro g cs hg m c hmc;obtain ⟨v,a,b,d⟩:=h.cF g cs hg m c hmc;exact ⟨v,hle.φ _ _ _ a,b.mono hle,d⟩
def ax.Ek {wb:aT} {G:Gh} {S:St} {w:World} (h:ax wb G S w) (r e:Nat):
  ∃ G',G.le G'/\G'.τ S.nt=some (r,e,e)/\ax wb G' {S with nt:=S.nt+1,live:=S.nt::S.live} w:=by
 have hnone:G.τ S.nt=none:=by
  cases e':G.τ S.nt with
  |none=>rfl
  |some x=>have:=(h.bQ _ _ e').1;omega
 let G':Gh:={G with τ:=eE G.τ S.nt (some (r,e,e))}
 have hle:G.le G':=by
  refine ⟨fun _ _ _ e'=>e',fun _ _ e'=>e',fun t x e'=>?_,rfl,fun _ _ _=>rfl⟩;have:t≠S.nt:=fun e2=>by rw [e2,hnone] at e';cases e'
  simp [G',eE,this,e']
 have hG':∀ t',t'≠S.nt->G'.τ t'=G.τ t':=fun t' hne=>by simp [G',eE,hne]
 refine ⟨G',hle,by simp [G'],?_⟩;refine {prom:=h.prom,room:=h.room,apart:=h.apart,obj:=?_,inj:=h.inj,bT:=h.bT,tok:=?_,bQ:=?_,cP:=?_,base:=h.base,still:=h.still,cH:=h.cH,beta:=h.beta,cF:=?_,bu:=?_,dy:=h.dy};rotate_right
 ·intro l s hl hsp0;obtain ⟨rb,hrb,hbb⟩:=h.bu l s hl hsp0;refine ⟨rb,hrb,hbb.to hle (fun _=>rfl) fun g hg _ _ hal=>⟨rfl,hal.1,hal.2.1,fun t' hm' e' z' et=>?_⟩⟩
  by_cases hts:t'=S.nt
  ·subst hts;simp [G'] at et;omega
  ·rw [hG' t' hts] at et;have hm2:t'∈S.live:=by rcases Ab.1 hm' with e1|e1;exact absurd e1 hts;exact e1
   exact hal.2.2 t' hm2 e' z' et
 ·intro l cs hl hnb;obtain ⟨r,hr,hm⟩:=h.obj l cs hl hnb;exact ⟨r,hr,fun m c hmc=>by obtain ⟨v,a,b,c',d⟩:=hm m c hmc;exact ⟨v,a,b.mono hle,c',d⟩⟩
 ·intro t hm
  by_cases et:t=S.nt
  ·subst et;exact ⟨r,e,e,by simp [G'],fun o h1 h2=>by omega⟩
  ·have hm':t∈S.live:=by rcases Ab.1 hm with e1|e1;exact absurd e1 et;exact e1
   obtain ⟨r',a,z',h5,h8⟩:=h.tok t hm';exact ⟨r',a,z',hle.τ _ _ h5,h8⟩
 ·intro t x e'
  by_cases et:t=S.nt
  ·subst et;simp [G'] at e';subst e';simp
  ·rw [hG' t et] at e';have:=h.bQ t x e';exact ⟨by simp;omega,this.2⟩
 ·intro t hm t' hm' hne r1 a z a' z' e1 e2 o h5 h6 h7 h8
  by_cases et:t=S.nt<;>by_cases et':t'=S.nt
  ·exact hne (et.trans et'.symm)
  ·subst et;simp [G'] at e1;omega
  ·subst et';simp [G'] at e2;omega
  ·have m1:t∈S.live:=by rcases Ab.1 hm with e3|e3;exact absurd e3 et;exact e3
   have m2:t'∈S.live:=by rcases Ab.1 hm' with e3|e3;exact absurd e3 et';exact e3
   rw [hG' t et] at e1;rw [hG' t' et'] at e2;exact h.cP t m1 t' m2 hne r1 a z a' z' e1 e2 o h5 h6 h7 h8
 ·intro g cs hg m c hmc;obtain ⟨v,a,b,d⟩:=h.cF g cs hg m c hmc;exact ⟨v,a,b.mono hle,d⟩
structure St.le (S' S:St):Prop where
 n:S'.n=S.n
 nt:S'.nt=S.nt
 gl:S'.gl=S.gl
 obj:∀ l cs,S.get l=some cs->S'.get l=some cs
 live:∀ t∈S.live,t∈S'.live
def ax.tx {wb:aT} {G:Gh} {S S':St} {w:World} (h:ax wb G S' w) (hle:S'.le S):ax wb G S w:=by
 have e1:=hle.n;have e2:=hle.nt;have e3:=hle.gl;refine {prom:=h.prom,room:=fun l cs r hl=>h.room l cs r (hle.obj l cs hl),apart:=fun l cs r o hl hd e=>h.apart l cs r o (hle.obj l cs hl) hd e,beta:=h.beta,bu:=?_,dy:=fun l l' s s' h1 h2=>h.dy l l' s s' (hle.obj _ _ h1) (hle.obj _ _ h2),obj:=fun l cs hl=>h.obj l cs (hle.obj l cs hl),inj:=fun l l' r c c' g g'=>h.inj l l' r c c' (hle.obj _ _ g) (hle.obj _ _ g'),bT:=fun l r e=>by rw [<-e1];exact h.bT l r e,tok:=fun t ht=>h.tok t (hle.live t ht),bQ:=fun t x e=>by rw [<-e2];exact h.bQ t x e,cP:=fun t ht t' ht'=>h.cP t (hle.live t ht) t' (hle.live t' ht'),base:=h.base,still:=h.still,cH:=h.cH,cF:=fun g cs hg=>h.cF g cs (by rw [e3];exact hg)};intro l s hl hsp0;obtain ⟨r,hr,hb⟩:=h.bu l s (hle.obj _ _ hl) hsp0;exact ⟨r,hr,hb.to (Gh.le_refl _) (fun _=>rfl) fun g hg _ _ hal=>⟨rfl,hal.1,hal.2.1,fun t ht=>hal.2.2 t (hle.live t ht)⟩⟩
end Go.V
namespace Go.V
open Go
abbrev Fr:=List (Nat×AV)
def Fr.get (F:Fr) (t:Nat):AV:=(F.lookup t).getD .de
@[simp] def Fr.kY (F:Fr) (t u:Nat) (v:AV):Fr.get ((u,v)::F) t=if t=u then v else Fr.get F t:=by
 simp only [Fr.get,List.lookup_cons]
 by_cases h:t=u
 ·subst h;simp
 ·have:(t==u)=false:=by simpa using h
  simp [this,h]
structure jv (G:Gh) (F:Fr) (a:Act):Prop where
 rel:∀ t v,F.lookup t=some v->t<a.tmps.size/\af G v (a.tmps.getD t undef)
def jv.mono {G G':Gh} (h:G.le G') {F:Fr} {a:Act} (hf:jv G F a):jv G' F a:=⟨fun t v e=>⟨(hf.rel t v e).1,(hf.rel t v e).2.mono h⟩⟩
def jv.get {G:Gh} {F:Fr} {a:Act} (h:jv G F a) (t:Nat):af G (F.get t) (a.tmps.getD t undef):=by
 unfold Fr.get
 cases e:F.lookup t with
 |none=>exact .de _
 |some v=>exact (h.rel t v e).2
inductive aj where
 |t (n:Nat)
 |c (v:AV)
 |g (n:Nat)
 |f (n:Nat)
 |vb (x:Nat) (rows:List (Nat×Nat))
def JA (v:AV):Option Nat->AV
 |some f=> .fn (.func f) [v] []
 |none=> .de
def Dr (rows:List (Nat×Nat)):AV->AV
 | .cI t v=>JA v (rows.lookup t)
 |_=> .de
def CI (rows:List (Nat×Nat)) (t:TypeId) (v:AV):Dr rows (.cI t v)=JA v (rows.lookup t):=rfl
def CJ (v:AV) (f:Nat):JA v (some f)= .fn (.func f) [v] []:=rfl
def aj.ev (F:Fr):aj->AV
 | .t n=>F.get n
 | .c v=>v
 | .g n=> .gp n 0
 | .f n=> .fn (.func n) [] []
 | .vb x rows=>Dr rows (F.get x)
def constFits:AV->Value->Bool
 | .bool a,.bool b=>a==b
 | .int k n,.int k' m=>k==k' && n==m
 | .str s,.string b=>s==b.data.toList
 | .cV,.pointer none=>true
 | .sl _ [] .exact,.slice none 0 0=>true
 | .fw,.nilFunc=>true
 | .cY,.nilIface=>true
 | .gM,.map none=>true
 | .aF [],.tuple vs=>vs.isEmpty
 |_,_=>false
def mf {G:Gh} {a:AV} {v:Value} (h:constFits a v=true):af G a v:=by
 unfold constFits at h;split at h
 ·simp at h;subst h;exact .bool _
 ·simp at h;obtain ⟨rfl,rfl⟩:=h;exact .int _ _
 ·rename_i s b;simp at h;subst h;have:=af.str (G:=G) b.data.toList;simpa using this
 ·exact .cV
 ·exact .slnil _ _ _
 ·exact .fw
 ·exact .cY
 ·exact .gM
 ·rename_i vs;have:vs= #[]:=by simpa using h
  subst this;exact .aF (vs:=[]) rfl (by simp)
 ·cases h
def aj.fits:aj->Operand->Bool
 | .t n,.tmp m=>n==m
 | .c v,.const x=>constFits v x
 | .g n,.global m=>n==m
 | .f n,.func m=>n==m
 |_,_=>false
def aj.rel {G:Gh} {F:Fr} {a:Act} (h:jv G F a) {x:aj} {o:Operand} (hf:x.fits o=true):af G (x.ev F) (a.eval o):=by
 unfold aj.fits at hf;split at hf
 ·simp at hf;subst hf;exact h.get _
 ·exact mf hf
 ·simp at hf;subst hf;exact .gp _ _
 ·simp at hf;subst hf;exact .fn (vs:=[]) (ws:=[]) _ rfl rfl (by simp) (by simp)
 ·cases hf
def iA:Option aj->Option Operand->Bool
 |none,none=>true
 |some x,some o=>x.fits o
 |_,_=>false
def iT:List aj->List Operand->Bool
 |[],[]=>true
 |x::xs,o::os=>x.fits o && iT xs os
 |_,_=>false
def gK {G:Gh} {F:Fr} {a:Act} (h:jv G F a):∀ {xs:List aj} {os:List Operand},iT xs os=true->
  (xs.map (aj.ev F)).length=(os.map a.eval).length/\∀ (m:Nat) (c:AV) (v:Value),(xs.map (aj.ev F))[m]? =some c->(os.map a.eval)[m]? =some v->af G c v
 |[],[],_=>⟨rfl,by simp⟩
 |[],_::_,hf=>by cases hf
 |_::_,[],hf=>by cases hf
 |x::xs,o::os,hf=>by
  simp only [iT,Aa] at hf;obtain ⟨h1,h2⟩:=gK h hf.2;refine ⟨by simpa using h1,fun m c v hc hv=>?_⟩
  cases m with
  |zero=>simp at hc hv;subst hc hv;exact aj.rel h hf.1
  |succ m=>exact h2 m c v (by simpa using hc) (by simpa using hv)
def eT (P:Program) (t:TypeId):Bool:=
 match P.underlying t with
 |some (.struct _)|some (.array _ _)=>true
 |_=>false
def cg (P:Program) (t:TypeId) (n:Nat):Bool:=
 match P.info? t with
 |some i=>i.size==n
 |none=>false
def known (P:Program) (t:TypeId):Bool:=(P.underlying t).isSome
def aQ {P:Program} {t:TypeId} {d:TypeDesc} (h:P.underlying t=some d) (w:World):(underlying t).run P w= .ok d w:=by simp [underlying,h]
def ie {P:Program} {t:TypeId} (h:known P t=true) (w:World):(isAgg t).run P w= .ok (eT P t) w:=by
 unfold known at h
 cases e:P.underlying t with
 |none=>rw [e] at h;cases h
 |some d=>
  simp only [isAgg,Sem.run_bind,aQ e,Result.andThen_ok,eT,e];cases d<;>rfl
def bR {P:Program} {t:TypeId} {n:Nat} (h:cg P t n=true) (w:World):(sizeOf t).run P w= .ok n w:=by
 unfold cg at h
 cases e:P.info? t with
 |none=>rw [e] at h;cases h
 |some i=>
  rw [e] at h;simp at h;simp [Go.sizeOf,typeInfo,e,h]
def dK (P:Program) (wb:aT) (G:Gh) (x:Sem Value) (w:World) (r:AV) (S':St):Prop:=∃ v w' G',x.run P w= .ok v w'/\G.le G'/\ax wb G' S' w'/\af G' r v
def dK.same {P:Program} {wb:aT} {G:Gh} {x:Sem Value} {w:World} {r:AV} {S:St} {v:Value} (h:ax wb G S w) (hx:x.run P w= .ok v w) (hv:af G r v):dK P wb G x w r S:=⟨v,w,G,hx,Gh.le_refl G,h,hv⟩
def At.aay {wb:aT} {G:Gh} {S:St} {w:World} (h:ax wb G S w) {l r:Nat} {cs:List AV} (hl:S.get l=some cs) (hr:G.σ l=some r) (hnb:aE cs=false):At w G r 0 cs:=by
 obtain ⟨r',hr',hm⟩:=h.obj l cs hl hnb;obtain rfl:r=r':=by rw [hr] at hr';exact AX hr'
 intro m c hmc;obtain ⟨v,h1,h2,h3,_⟩:=hm m c hmc;exact ⟨v,by rwa [Aw],h2,h3⟩
def At.Mk {wb:aT} {G:Gh} {S:St} {w:World} (h:ax wb G S w) {xs:List AV} {r b:Nat} {f:Nat->Value}
  (hp:∀ (m:Nat) (c:AV),(flat xs)[m]? =some c->G.φ r (b+m)=some (f m))
  (ho:∀ (m:Nat) (c:AV),(flat xs)[m]? =some c->(f m).oneCell'=true)
  (hv:∀ (m:Nat) (c:AV),(flat xs)[m]? =some c->af G c (f m)):At w G r b (flat xs):=
 fun m c hmc=>⟨f m,h.prom _ _ _ (hp m c hmc),hv m c hmc,ho m c hmc⟩
def At.UT {wb:aT} {G:Gh} {S:St} {w:World} (h:ax wb G S w) {g:Nat} {cs:List AV} (hg:S.gl.lookup g=some cs):At w G g 0 cs:=by
 intro m c hmc;obtain ⟨v,h1,h2,h3⟩:=h.cF g cs hg m c hmc;exact ⟨v,by rw [Aw];exact h.prom _ _ _ h1,h2,h3⟩
def Lo:aE []=false:=rfl
def fS (a b:AV) (l:List AV):aE (a::b::l)=false:=by cases a<;>rfl
def I3 (b:Bool):aE [.bool b]=false:=rfl
def Ln (k:IntKind) (n:Int):aE [.int k n]=false:=rfl
def Lr (s:List UInt8):aE [.str s]=false:=rfl
def I7:aE [.cV]=false:=rfl
def Lq (l o:Nat):aE [.ptr l o]=false:=rfl
def Oh (l o:Nat):aE [.gp l o]=false:=rfl
def I4 (k:Nat) (xs:List AV) (l o:Nat):aE [.eZ k xs l o]=false:=rfl
def Oi (k:Nat) (xs:List AV) (t:bE):aE [.sl k xs t]=false:=rfl
def Og (f:Fn) (a c:List AV):aE [.fn f a c]=false:=rfl
def I5:aE [.fw]=false:=rfl
def Lm (t:TypeId) (v:AV):aE [.cI t v]=false:=rfl
def I6:aE [.cY]=false:=rfl
def Lk (cs:List AV):aE [.agg cs]=false:=rfl
def Ll (s:List UInt8):aE [.bu s]=true:=rfl
def AV.there (S:St):AV->Option (List AV)
 | .ptr l o=>(S.get l).bind fun cs=>if aE cs then none else some (cs.drop o)
 | .gp g o=>(S.gl.lookup g).map (·.drop o)
 | .eZ _ xs i off=>(xs[i]?).map (·.cells.drop off)
 |_=>none
def F9 {wb:aT} {G:Gh} {S:St} {w:World} (h:ax wb G S w) {p:AV} {cs:List AV} {v:Value} (hp:p.there S=some cs) (hv:af G p v):
  ∃ r o,v= .pointer (some ⟨r,o,none⟩)/\At w G r o cs:=by
 cases hv with
 |ptr e=>
  simp only [AV.there,Ar] at hp;obtain ⟨ds,h1,hp⟩:=hp;split at hp
  ·cases hp
  ·rename_i hnb;injection hp with hp
   subst hp;rename_i l o r;exact ⟨r,o,rfl,by simpa using (At.aay h h1 e (by simpa using hnb)).drop o⟩
 |gp g o=>
  simp only [AV.there,Ag] at hp;obtain ⟨ds,h1,rfl⟩:=hp;exact ⟨g,o,rfl,by simpa using (At.UT h h1).drop o⟩
 |eZ f hk hf ho hv'=>
  rename_i k xs i off r b;simp only [AV.there,Ag] at hp;obtain ⟨x,h1,rfl⟩:=hp;refine ⟨r,_,rfl,?_⟩;intro m c hmc;rw [AO] at hmc;have hx:x∈xs:=Aj h1;have hlen:=hk x hx
  have hlt:off+m<k:=by
   rcases Al (off+m) k with h'|h'
   ·exact h'
   ·rw [As (by omega)] at hmc;cases hmc
  have h2:(flat xs)[i*k+(off+m)]? =some c:=by rw [flat_get hk hlt,h1];simpa using hmc
  refine ⟨f (i*k+(off+m)),?_,hv' _ c h2,ho _ c h2⟩;have:=h.prom _ _ _ (hf _ c h2)
  rwa [show b+(i*k+(off+m))=b+i*k+off+m from by omega] at this
 |_=>cases hp
def cC (n:Nat) (ag:Bool) (cs:List AV):Option AV:=if ag then (if n<=cs.length then some (.agg (cs.take n)) else none) else cs[0]?
def pq {P:Program} {w:World} {G:Gh} {r o:Nat} {cs:List AV} (h:At w G r o cs) {t:TypeId} {n:Nat} {ag:Bool} (hk:known P t=true) (ha:eT P t=ag) (hs:cg P t n=true)
  {x:AV} (hx:cC n ag cs=some x):∃ v,(Instr.loadAt t (.pointer (some ⟨r,o,none⟩))).run P w= .ok v w/\af G x v:=by
 simp only [Instr.loadAt,Instr.sureAddr,loadVar,Sem.run_bind,Sem.run_pure,Result.andThen_ok,ie hk,ha]
 cases ag with
 |true=>
  simp only [cC,if_true] at hx;split at hx
  ·rename_i hn;injection hx with hx
   subst hx;obtain ⟨vs,h1,h2⟩:=(h.take n).choose;have hl:n=vs.length:=by rw [<-h1.len];simp;omega
   refine ⟨.agg vs.toArray,?_,.agg h1.len h1.one h1.rel⟩;simp only [if_true,Sem.run_bind,bR hs,Result.andThen_ok];rw [hl,run_loadCells_list w ⟨r,o,none⟩ vs (fun j v e=>by rw [cE];exact h2 j v e)];simp
  ·cases hx
 |false=>
  simp only [cC,Ah,if_false] at hx;obtain ⟨v,h1,h2,_⟩:=h 0 x hx;refine ⟨v,?_,h2⟩;simp only [Ah,if_false];rw [run_load];simp only [Nat.add_zero] at h1;simp [h1]
end Go.V
namespace Go.V
open Go
def N9 (k:IntKind) (a b:Int):Int:=k.wrap (BitVec.ofInt k.bits a &&& BitVec.ofInt k.bits b).toNat
def ior (k:IntKind) (a b:Int):Int:=k.wrap (BitVec.ofInt k.bits a|||BitVec.ofInt k.bits b).toNat
def ajC (k:IntKind) (a b:Int):Int:=k.wrap (BitVec.ofInt k.bits a^^^BitVec.ofInt k.bits b).toNat
def ac5 (k:IntKind) (a b:Int):Int:=k.wrap (BitVec.ofInt k.bits a &&& ~~~ BitVec.ofInt k.bits b).toNat
def sG (k:IntKind) (a b:Int):Int:=k.wrap (a*2^(min b.toNat k.bits))
def mh (k:IntKind) (a b:Int):Int:=a.fdiv (2^(min b.toNat k.bits))
def lC (op:BinOp) (k:IntKind) (a b:Int):Option AV:=
 match op with
 | .add=>some (.int k (k.wrap (a+b)))
 | .sub=>some (.int k (k.wrap (a-b)))
 | .mul=>some (.int k (k.wrap (a*b)))
 | .quo=>some (.int k (k.wrap (a.tdiv b)))
 | .rem=>some (.int k (a.tmod b))
 | .and=>some (.int k (N9 k a b))
 | .or=>some (.int k (ior k a b))
 | .xor=>some (.int k (ajC k a b))
 | .andNot=>some (.int k (ac5 k a b))
 | .eql=>some (.bool (a==b))
 | .neq=>some (.bool (a !=b))
 | .lss=>some (.bool (decide (a<b)))
 | .leq=>some (.bool (decide (a<=b)))
 | .gtr=>some (.bool (decide (a>b)))
 | .geq=>some (.bool (decide (a>=b)))
 |_=>none
def oT (op:BinOp) (a b:List UInt8):Option AV:=
 match op with
 | .add=>some (.str (a++b))
 | .eql=>some (.bool (a==b))
 | .neq=>some (.bool (!(a==b)))
 | .lss=>some (.bool (Op.bytesLess a b))
 | .leq=>some (.bool (Op.bytesLess a b||a==b))
 | .gtr=>some (.bool (!(Op.bytesLess a b||a==b)))
 | .geq=>some (.bool (!Op.bytesLess a b))
 |_=>none
def gn (op:BinOp) (x y:AV):Option AV:=
 match x,y with
 | .int k a,.int k' b=>
  match op with
  | .shl=>some (.int k (sG k a b))
  | .shr=>some (.int k (mh k a b))
  |op=>if k=k' then lC op k a b else none
 | .str a,.str b=>oT op a b
 |_,_=>none
def fZ (op:BinOp) (x y:AV):Prop:=
 match x,y with
 | .int _ _,.int _ b=>
  match op with
  | .shl| .shr=>0<=b
  | .quo| .rem=>b≠0
  |_=>True
 | .str a,.str b=>
  match op with
  | .add=>a.length+b.length<9223372036854775808
  |_=>True
 |_,_=>True
def U7 {P:Program} {w:World} {G:Gh} {op:BinOp} {t:TypeId} {x y r:AV} {u v:Value} (hx:af G x u) (hy:af G y v) (aL:fZ op x y) (he:gn op x y=some r) (ox oy:Operand):
  ∃ z,(do eqGuard op t ox oy u v;binOp op t u v).run P w= .ok z w/\af G r z:=by
 cases hx<;>cases hy<;>first
  |(simp [gn] at he;done)
  |skip
 ·rename_i k a k' b
  have hg:(eqGuard op t ox oy (.int k a) (.int k' b)).run P w= .ok () w:=by
   unfold eqGuard;split<;>rfl
  simp only [Sem.run_bind,hg,Result.andThen_ok]
  have fin:∀ (op:BinOp),op≠ .shl->op≠ .shr->fZ op (.int k a) (.int k b)->lC op k a b=some r->∃ z,(binOp op t (.int k a) (.int k b)).run P w= .ok z w/\af G r z:=by
   intro op h1 h2 aL he
   cases op<;>simp only [fZ,lC] at he aL<;>first
    |(cases he;done)
    |(exact absurd rfl h1)
    |(exact absurd rfl h2)
    |(injection he with he
      subst he
      first
       |refine ⟨_,?_,.int _ _⟩
       |refine ⟨_,?_,.bool _⟩
      simp only [binOp,ne_eq,not_true_eq_false,if_false]
      first
       |rfl
       |(simp only [Op.intDiv,aL,if_false];rfl))
  by_cases h1:op= .shl
  ·subst h1;simp only [gn,fZ] at he aL;injection he with he
   subst he;refine ⟨_,?_,.int _ _⟩;simp only [binOp,Op.shift,By.2 aL,if_false];rfl
  by_cases h2:op= .shr
  ·subst h2;simp only [gn,fZ] at he aL;injection he with he
   subst he;refine ⟨_,?_,.int _ _⟩;simp only [binOp,Op.shift,By.2 aL,if_false];rfl
  by_cases hk:k=k'
  ·subst hk;refine fin op h1 h2 ?_ ?_
   ·cases op<;>exact aL
   ·cases op<;>simp_all [gn]
  ·cases op<;>simp_all [gn]
 ·rename_i a b
  have hg:(eqGuard op t ox oy (.string ⟨a.toArray⟩) (.string ⟨b.toArray⟩)).run P w= .ok () w:=by
   unfold eqGuard;split<;>rfl
  simp only [Sem.run_bind,hg,Result.andThen_ok]
  cases op<;>simp only [gn,fZ,oT] at he aL<;>first
   |cases he;done
   |(injection he with he;subst he)
  all_goals first
   |refine ⟨_,?_,.bool _⟩
   |refine ⟨_,?_,.str _⟩
  all_goals try (simp only [binOp,Op.stringOp,ByteArray.toList_mk];rfl)
  have hs: ¬((((ByteArray.mk a.toArray).size+(ByteArray.mk b.toArray).size:Nat):Int)>IntKind.i64.max):=by
   simp [IntKind.max,IntKind.signed,IntKind.bits,ByteArray.size];omega
  simp only [binOp,Op.stringOp,hs,if_false,Sem.run_pure]
  congr 2
def py (op:UnOp) (x:AV):Option AV:=
 match op,x with
 | .not,.bool b=>some (.bool (!b))
 | .neg,.int k n=>some (.int k (k.wrap (0-n)))
 | .xor,.int k n=>some (.int k (k.wrap (BitVec.ofInt k.bits (if k.signed then-1 else k.max)^^^BitVec.ofInt k.bits n).toNat))
 |_,_=>none
def aaP {P:Program} {w:World} {G:Gh} {op:UnOp} {x r:AV} {u:Value} (hx:af G x u) (he:py op x=some r):∃ z,(Op.unary op u).run P w= .ok z w/\af G r z:=by
 cases op<;>cases hx<;>simp only [py] at he<;>first
  |(cases he;done)
  |(injection he with he;subst he)
 all_goals first
  |refine ⟨_,?_,.int _ _⟩
  |refine ⟨_,?_,.bool _⟩
 all_goals rfl
inductive EK where
 |i
 |s
 |b
 deriving DecidableEq
def gG:EK->AV->AV->Option Bool
 | .i,.int k a,.int k' b=>if k=k' then some (a==b) else none
 | .s,.str a,.str b=>some (a==b)
 | .b,.bool a,.bool b=>some (a==b)
 |_,_,_=>none
def bU:List EK->List AV->List AV->Option Bool
 |[],[],[]=>some true
 |k::ks,x::xs,y::ys=>(gG k x y).bind fun b=>(bU ks xs ys).map fun r=>b && r
 |_,_,_=>none
def qq (P:Program) (t:TypeId):Option EK:=
 match P.underlying t with
 |some (.int _)=>some .i
 |some .string=>some .s
 |some .bool=>some .b
 |_=>none
def ub (P:Program) (rec:List EK->List Field->Bool):Nat->List EK->List Field->Bool
 |_,ks,[]=>ks.isEmpty
 | i,ks,f :: fs => f.offset == i && (f.name != "_" && (match P.underlying f.type with
  |some (.struct gs)=> !P.stoodInHeld f.type && (match P.info? f.type with
   |some inf=>decide (inf.size<=ks.length) && (rec (ks.take inf.size) gs.toList && ub P rec (i+inf.size) (ks.drop inf.size) fs)
   |none=>false)
  |_=>(match ks with
   |k::ks'=>decide (qq P f.type=some k) && ub P rec (i+1) ks' fs
   |[]=>false)))
def IT (P:Program):Nat->List EK->List Field->Bool
 |0=>fun _ _=>false
 |d+1=>ub P (IT P d) 0
def EB (P:Program) (ks:List EK) (t:TypeId):Bool:=
 match P.underlying t with
 |some (.struct fs)=> !P.stoodInHeld t && IT P 4 ks fs.toList && !P.eqGuardType P.depth t
 |_=>false
def JK {P:Program} {w:World} {G:Gh} {t:TypeId} {k:EK} {x y:AV} {u v:Value} {b:Bool} (hx:af G x u) (hy:af G y v) (ht:qq P t=some k) (he:gG k x y=some b) (d:Nat):
  (Op.equalIn (d+1) t u v).run P w= .ok b w:=by
 unfold qq at ht;split at ht
 ·rename_i h;injection ht with ht
  subst ht
  cases hx<;>cases hy<;>simp only [gG] at he<;>first
   |(cases he;done)
   |skip
  split at he
  ·rename_i hk;injection he with he
   subst he hk;simp [Op.equalIn,aQ h]
  ·cases he
 ·rename_i h;injection ht with ht
  subst ht
  cases hx<;>cases hy<;>simp only [gG] at he<;>first
   |(cases he;done)
   |skip
  injection he with he
  subst he;rw [run_equalIn_string _ _ _ _ _ h,ByteArray.toList_mk,ByteArray.toList_mk]
 ·rename_i h;injection ht with ht
  subst ht
  cases hx<;>cases hy<;>simp only [gG] at he<;>first
   |(cases he;done)
   |skip
  injection he with he
  subst he;simp [Op.equalIn,aQ h]
 ·cases ht
def J5 {P:Program} {t:TypeId} {k:EK} (ht:qq P t=some k):known P t=true/\eT P t=false:=by
 unfold qq at ht
 split at ht<;>first
  |(cases ht;done)
  |(rename_i h;simp [known,eT,h])
def FO {P:Program} {w:World} {t:TypeId} {k:EK} (ht:qq P t=some k) {vs:List Value} {i:Nat} {v:Value} (hv:vs[i]? =some v):(part t vs.toArray i).run P w= .ok v w:=by
 obtain ⟨h1,h2⟩:=J5 ht;simp [part,ie h1,h2,hv]
def rW:∀ {ks:List EK} {cs ds:List AV} {b:Bool} (n:Nat),n<=ks.length->bU ks cs ds=some b->∃ b1 b2,bU (ks.take n) (cs.take n) (ds.take n)=some b1/\bU (ks.drop n) (cs.drop n) (ds.drop n)=some b2/\b=(b1 && b2)
 |ks,cs,ds,b,0,_,h=>⟨true,b,by simp [bU],by simpa using h,by simp⟩
 |[],cs,ds,b,n+1,hn,_=>by simp at hn
 |k::ks,c::cs,d::ds,b,n+1,hn,h=>by
  simp only [bU,Ar,Ag] at h;obtain ⟨b0,h1,r,h2,rfl⟩:=h;obtain ⟨b1,b2,h3,h4,rfl⟩:=rW n (by simpa using hn) h2;refine ⟨b0 && b1,b2,?_,by simpa using h4,by simp [Bool.and_assoc]⟩;simp [bU,h1,h3]
 |k::ks,[],_,b,n+1,_,h=>by simp [bU] at h
 |k::ks,_::_,[],b,n+1,_,h=>by simp [bU] at h
def vh {P:Program} {w:World} {t:TypeId} {n o:Nat} {vs:List Value} {gs:Array Field} (ht:P.underlying t=some (.struct gs)) (hs:cg P t n=true) (hn:o+n<=vs.length):(part t vs.toArray o).run P w= .ok (.agg ((vs.drop o).take n).toArray) w:=by
 have hk:known P t=true:=by simp [known,ht]
 have ha:eT P t=true:=by simp [eT,ht]
 simp only [part,Sem.run_bind,ie hk,Result.andThen_ok,ha,if_true,bR hs,Sem.run_pure]
 congr 2
 apply Aq;simp
def br.sub {G:Gh} {cs:List AV} {vs:List Value} (h:br G cs vs) (o n:Nat):br G ((cs.drop o).take n) ((vs.drop o).take n):=by
 refine ⟨by simp [h.len],fun v hv=>h.one v (Ba (A5 hv)),fun m c v h1 h2=>?_⟩;rw [Bh,AO] at h1 h2
 by_cases hm:m<n
 ·rw [if_pos hm] at h1 h2;exact h.rel _ c v h1 h2
 ·rw [if_neg hm] at h1;cases h1
def oR {P:Program} {w:World} {G:Gh} {D:Nat} {rec:List EK->List Field->Bool}
  (hrec:∀ {ks:List EK} {fs:List Field} {cs ds:List AV} {xs ys:List Value} {b:Bool},rec ks fs=true->br G cs xs->br G ds ys->bU ks cs ds=some b->(Op.eqFields D xs.toArray ys.toArray fs).run P w= .ok b w)
  {cs ds:List AV} {xs ys:List Value} (hx:br G cs xs) (hy:br G ds ys):∀ {fs:List Field} {ks:List EK} {i:Nat} {b:Bool},ub P rec i ks fs=true->bU ks (cs.drop i) (ds.drop i)=some b->(Op.eqFields (D+1) xs.toArray ys.toArray fs).run P w= .ok b w
 |[],ks,i,b,hf,he=>by
  simp only [ub,List.isEmpty_iff] at hf;subst hf
  cases h1:cs.drop i with
  |cons _ _=>rw [h1] at he;cases ds.drop i<;>simp [bU] at he
  |nil=>
   cases h2:ds.drop i with
   |cons _ _=>rw [h1,h2] at he;simp [bU] at he
   |nil=>
    rw [h1,h2] at he;simp [bU] at he;subst he;simp [Op.eqFields]
 |f::fs,ks,i,b,hf,he=>by
  simp only [ub,Aa,bne_iff_ne,beq_iff_eq] at hf;obtain ⟨h1,h2,h3⟩:=hf;subst h1;split at h3
  ·rename_i gs hgs;simp only [Aa,A7] at h3;obtain ⟨h4,h5⟩:=h3;split at h5
   ·rename_i inf hinf;simp only [Aa,decide_eq_true_eq] at h5;obtain ⟨h6,h7,h8⟩:=h5;obtain ⟨b1,b2,e1,e2,rfl⟩:=rW inf.size h6 he;rw [Bg,Bg] at e2;have hs:cg P f.type inf.size=true:=by simp [cg,hinf]
    have hlen:∀ {ks:List EK} {as bs:List AV} {b:Bool},bU ks as bs=some b->as.length=ks.length/\bs.length=ks.length:=by
     intro ks
     induction ks with
     |nil=>intro as bs b h;cases as<;>cases bs<;>simp [bU] at h;exact ⟨rfl,rfl⟩
     |cons k ks ih=>
      intro as bs b h;cases as<;>cases bs<;>simp only [bU,reduceCtorEq] at h
      simp only [Ar,Ag] at h;obtain ⟨_,_,_,h,_⟩:=h;obtain ⟨q1,q2⟩:=ih h;simp [q1,q2]
    obtain ⟨l1,l2⟩:=hlen he;simp only [AK] at l1 l2;have hl1:=hx.len;have hl2:=hy.len;rcases Bq inf.size with hz|hz
    ·have hp1:(part f.type xs.toArray f.offset).run P w= .ok (.agg ((xs.drop f.offset).take inf.size).toArray) w:=by
      have hk:known P f.type=true:=by simp [known,hgs]
      have ha:eT P f.type=true:=by simp [eT,hgs]
      simp only [part,Sem.run_bind,ie hk,Result.andThen_ok,ha,if_true,bR hs,Sem.run_pure]
      congr 2
      apply Aq;simp [hz]
     have hp2:(part f.type ys.toArray f.offset).run P w= .ok (.agg ((ys.drop f.offset).take inf.size).toArray) w:=by
      have hk:known P f.type=true:=by simp [known,hgs]
      have ha:eT P f.type=true:=by simp [eT,hgs]
      simp only [part,Sem.run_bind,ie hk,Result.andThen_ok,ha,if_true,bR hs,Sem.run_pure]
      congr 2
      apply Aq;simp [hz]
     have hfo:P.fieldsOf f.type=gs:=by unfold Program.fieldsOf;rw [hgs]
     have hrun:(Op.equalIn (D+1) f.type (.agg ((xs.drop f.offset).take inf.size).toArray) (.agg ((ys.drop f.offset).take inf.size).toArray)).run P w= .ok b1 w:=by
      rw [run_equalIn_agg (P:=P) w D f.type _ _ (by rw [hfo];exact hgs) h4,hfo];exact hrec h7 (hx.sub _ _) (hy.sub _ _) e1
     have ih:=oR hrec hx hy h8 e2;simp only [Op.eqFields,h2,ne_eq,not_false_eq_true,if_true,Sem.run_bind,hp1,hp2,Result.andThen_ok,hrun]
     cases b1 with
     |true=>simpa using ih
     |false=>simp
    ·have hp1:=vh (P:=P) (w:=w) (vs:=xs) (o:=f.offset) hgs hs (by omega);have hp2:=vh (P:=P) (w:=w) (vs:=ys) (o:=f.offset) hgs hs (by omega);have hfo:P.fieldsOf f.type=gs:=by unfold Program.fieldsOf;rw [hgs]
     have hrun:(Op.equalIn (D+1) f.type (.agg ((xs.drop f.offset).take inf.size).toArray) (.agg ((ys.drop f.offset).take inf.size).toArray)).run P w= .ok b1 w:=by
      rw [run_equalIn_agg (P:=P) w D f.type _ _ (by rw [hfo];exact hgs) h4,hfo];exact hrec h7 (hx.sub _ _) (hy.sub _ _) e1
     have ih:=oR hrec hx hy h8 e2;simp only [Op.eqFields,h2,ne_eq,not_false_eq_true,if_true,Sem.run_bind,hp1,hp2,Result.andThen_ok,hrun]
     cases b1 with
     |true=>simpa using ih
     |false=>simp
   ·cases h5
  ·split at h3
   ·rename_i k ks';simp only [Aa,decide_eq_true_eq] at h3;obtain ⟨h4,h5⟩:=h3
    cases hc:cs.drop f.offset with
    |nil=>rw [hc] at he;simp [bU] at he
    |cons c cs'=>
    cases hd:ds.drop f.offset with
    |nil=>rw [hc,hd] at he;simp [bU] at he
    |cons e ds'=>
    rw [hc,hd] at he;simp only [bU,Ar,Ag] at he;obtain ⟨b1,h6,r,h7,rfl⟩:=he
    have c0:cs[f.offset]? =some c:=by
     have:(cs.drop f.offset)[0]? =some c:=by rw [hc];rfl
     rwa [AO,Nat.add_zero] at this
    have d0:ds[f.offset]? =some e:=by
     have:(ds.drop f.offset)[0]? =some e:=by rw [hd];rfl
     rwa [AO,Nat.add_zero] at this
    have c1:cs.drop (f.offset+1)=cs':=by rw [<-Bg,hc];rfl
    have d1:ds.drop (f.offset+1)=ds':=by rw [<-Bg,hd];rfl
    obtain ⟨u,u1,u2,_⟩:=hx.get c0;obtain ⟨v,v1,v2,_⟩:=hy.get d0;have ih:=oR hrec hx hy h5 (by rw [c1,d1];exact h7);simp only [Op.eqFields,h2,ne_eq,not_false_eq_true,if_true,Sem.run_bind,FO h4 u1,FO h4 v1,Result.andThen_ok,JK u2 v2 h4 h6]
    cases b1 with
    |true=>simpa using ih
    |false=>simp
   ·cases h3
def CV {P:Program} {w:World} {G:Gh} {D:Nat}:∀ (d:Nat) {ks:List EK} {fs:List Field} {cs ds:List AV} {xs ys:List Value} {b:Bool},IT P d ks fs=true->br G cs xs->br G ds ys->bU ks cs ds=some b->(Op.eqFields (D+d) xs.toArray ys.toArray fs).run P w= .ok b w
 |0,_,_,_,_,_,_,_,h,_,_,_=>by cases h
 |d+1,ks,fs,cs,ds,xs,ys,b,h,hx,hy,he=>by exact oR (D:=D+d) (fun h1 h2 h3 h4=>CV d h1 h2 h3 h4) hx hy h (by simpa using he)
def kq (ks:List EK) (neg:Bool) (x y:AV):Option AV:=
 match x,y with
 | .agg cs,.agg ds=>(bU ks cs ds).map fun b=> .bool (if neg then !b else b)
 |_,_=>none
def Vb {P:Program} {w:World} {G:Gh} {t:TypeId} {ks:List EK} {neg:Bool} {x y r:AV} {u v:Value} (hx:af G x u) (hy:af G y v) (ht:EB P ks t=true) (he:kq ks neg x y=some r) (ox oy:Operand):
  ∃ z,(do eqGuard (if neg then .neq else .eql) t ox oy u v;binOp (if neg then .neq else .eql) t u v).run P w= .ok z w/\af G r z:=by
 cases hx<;>cases hy<;>simp only [kq] at he<;>first
  |(cases he;done)
  |skip
 rename_i cs vs hl ho hv ds ws hl' ho' hv';simp only [Ag] at he;obtain ⟨b,he,rfl⟩:=he;unfold EB at ht;split at ht
 ·rename_i fs hfs;simp only [Aa,A7] at ht;obtain ⟨⟨h1,h2⟩,h3⟩:=ht;have hfo:P.fieldsOf t=fs:=by unfold Program.fieldsOf;rw [hfs]
  have hagg:=run_equalIn_agg (P:=P) w 9999 t vs.toArray ws.toArray (by rw [hfo];exact hfs) h1
  have hrun:(Op.equalIn 10000 t (.agg vs.toArray) (.agg ws.toArray)).run P w= .ok b w:=by
   rw [hagg,hfo];exact CV (G:=G) (D:=9995) 4 h2 (br.mk hl ho hv) (br.mk hl' ho' hv') he
  refine ⟨_,?_,.bool _⟩;simp only [Sem.run_bind,run_eqGuard_agg w _ t ox oy _ _ h3,Result.andThen_ok];cases neg
  ·simp only [Ah,if_false];rw [run_eql_struct,hrun];rfl
  ·simp only [if_true];rw [run_neq_struct,hrun];rfl
 ·cases ht
end Go.V
namespace Go.V
open Go
def nw:List AV->List Value->Bool
 |[],[]=>true
 |a::as,v::vs=>constFits a v && v.oneCell' && nw as vs
 |_,_=>false
def gE {G:Gh}:∀ {as:List AV} {vs:List Value},nw as vs=true->br G as vs
 |[],[],_=> .nil G
 |[],_::_,h=>by cases h
 |_::_,[],h=>by cases h
 |a::as,v::vs,h=>by
  simp only [nw,Aa] at h;exact .cons (mf h.1.1) h.1.2 (gE h.2)
def fL (P:Program) (t:TypeId) (z:List AV):Bool:=
 match P.info? t with
 |some i=>match i.zero with
  |some v=>nw z v.cells.toList
  |none=>false
 |none=>false
def kJ {P:Program} {t:TypeId} {z:List AV} (h:fL P t z=true) (w:World):∃ v,(zeroValue t).run P w= .ok v w/\∀ G,br G z v.cells.toList:=by
 unfold fL at h;split at h
 ·rename_i i hi;split at h
  ·rename_i v hv;exact ⟨v,by simp [zeroValue,typeInfo,hi,hv],fun G=>gE h⟩
  ·cases h
 ·cases h
def yo {P:Program} {wb:aT} {G:Gh} {S:St} {w:World} (h:ax wb G S w) {t:TypeId} {v:Value} {cs:List AV} (hc:br G cs v.cells.toList):
  dK P wb G (do pure (.pointer (some (<-newVar t v)))) w (.ptr S.n 0) {S with n:=S.n+1,obj:=(S.n,cs)::S.obj}:=by
 obtain ⟨G',h1,h2,h3⟩:=h.newObj (E:=t) hc;refine ⟨.pointer (some ⟨w.heap.size,0,none⟩),w.alloc (.cells v.cells t),G',?_,h1,by simpa using h3,.ptr h2⟩;simp [newVar,newRow]
def M5 {P:Program} {wb:aT} {G:Gh} {S:St} {w:World} (h:ax wb G S w) {t:TypeId} {z:List AV} (hz:fL P t z=true):
  dK P wb G (Instr.alloc t true (.tuple #[])) w (.ptr S.n 0) {S with n:=S.n+1,obj:=(S.n,z)::S.obj}:=by
 obtain ⟨v,h1,h2⟩:=kJ hz w;obtain ⟨v',w',G',h3,h4⟩:=yo (P:=P) h (t:=t) (v:=v) (h2 G);refine ⟨v',w',G',?_,h4⟩;simp only [Instr.alloc,Sem.run_bind,h1,Result.andThen_ok];exact h3
def Vk {P:Program} {wb:aT} {G:Gh} {S:St} {w:World} (h:ax wb G S w) {t:TypeId} {x:AV} {u:Value} (hx:af G x u) (hs:x.gB=true):
  dK P wb G (Instr.box t u) w (.ptr S.n 0) {S with n:=S.n+1,obj:=(S.n,x.cells)::S.obj}:=
 yo h (hx.cells hs)
def fV (n:Nat) (S:St) (p x:AV):Option St:=
 match p with
 | .ptr l o=>(S.get l).bind fun cs=>if aE cs then none else if x.gB && x.cells.length==n && decide (o+n<=cs.length) then some (S.set l (cn cs o x.cells)) else none
 |_=>none
def FP {P:Program} {wb:aT} {G:Gh} {S S':St} {w:World} (h:ax wb G S w) {t:TypeId} {n:Nat} {p x:AV} {u v:Value} (hp:af G p u) (hx:af G x v) (hs:cg P t n=true)
  (he:fV n S p x=some S'):∃ w',(Instr.storeAt t u v).run P w= .ok () w'/\ax wb G S' w':=by
 cases hp<;>simp only [fV] at he<;>first
  |(cases he;done)
  |skip
 rename_i l o r hr;simp only [Ar] at he;obtain ⟨cs,h1,he⟩:=he;split at he
 ·cases he
 rename_i hnb;have hnb:aE cs=false:=by simpa using hnb
 split at he
 ·rename_i hc;simp only [Aa,beq_iff_eq,decide_eq_true_eq] at hc;obtain ⟨⟨h2,h3⟩,h4⟩:=hc;injection he with he
  subst he;have hcr:=hx.cells h2;have hlen:v.cells.size=n:=by have:=hcr.len;simp at this;omega
  refine ⟨putCells w r o v.cells.toList,?_,h.store h1 hr hcr (by omega) hnb⟩;simp only [Instr.storeAt,Instr.sureAddr,storeVar,Sem.run_bind,Sem.run_pure,Result.andThen_ok,bR hs,hlen,ne_eq,not_true_eq_false,if_false];obtain ⟨r',hr',hm⟩:=h.obj l cs h1 hnb;obtain rfl:r=r':=by rw [hr] at hr';exact AX hr'
  have:=fj (P:=P) r o v.cells.toList w 0 hcr.one (fun j hj=>by
   obtain ⟨y,h5,_,_,h6⟩:=hm (o+0+j) (cs[o+0+j]'(by simp at hj;omega)) (by simp)
   exact ⟨⟨y,h5⟩,h6⟩)
  simpa using this
 ·cases he
def AV.plus (p:AV) (n:Nat):Option AV:=
 match p with
 | .ptr l o=>some (.ptr l (o+n))
 | .gp g o=>some (.gp g (o+n))
 | .eZ k xs i o=>some (.eZ k xs i (o+n))
 |_=>none
def FE {G:Gh} {p q:AV} {u:Value} {n:Nat} (hp:af G p u) (he:p.plus n=some q):∃ r o,u= .pointer (some ⟨r,o,none⟩)/\af G q (.pointer (some ⟨r,o+n,none⟩)):=by
 cases hp<;>simp only [AV.plus] at he<;>first
  |(cases he;done)
  |(injection he with he;subst he)
 ·exact ⟨_,_,rfl,.ptr ‹_›⟩
 ·exact ⟨_,_,rfl,.gp _ _⟩
 ·rename_i k xs i off r b f hk hp ho hv;refine ⟨r,_,rfl,?_⟩;have:=af.eZ (G:=G) (i:=i) (off:=off+n) f hk hp ho hv
  rwa [show b+i*k+(off+n)=b+i*k+off+n from by omega] at this
def y8 (P:Program) (s:TypeId) (f off:Nat):Bool:=
 match P.underlying s with
 |some (.struct fs)=>match fs[f]? with
  |some fd=>fd.offset==off && (match P.info? fd.type with|some i=>i.size !=0|none=>false)
  |none=>false
 |_=>false
def Gv {P:Program} {w:World} {G:Gh} {s:TypeId} {f off:Nat} {p q:AV} {u:Value} (hp:af G p u) (hf:y8 P s f off=true) (he:p.plus off=some q):
  ∃ v,(Instr.fieldAt s u f).run P w= .ok v w/\af G q v:=by
 obtain ⟨r,o,rfl,h1⟩:=FE hp he;refine ⟨_,?_,h1⟩;unfold y8 at hf;split at hf
 ·rename_i fs hfs;split at hf
  ·rename_i fd hfd;simp only [Aa,beq_iff_eq] at hf;obtain ⟨h2,h3⟩:=hf;split at h3
   ·rename_i i hi;have hsz:(Go.sizeOf fd.type).run P w= .ok i.size w:=by simp [Go.sizeOf,typeInfo,hi]
    have hnz:i.size≠0:=by simpa using h3
    simp only [Instr.fieldAt,Sem.run_bind,aQ hfs,Result.andThen_ok,hfd,Instr.sureAddr,Sem.run_pure,fieldPlace,hsz,hnz,if_false,cE,h2]
   ·cases h3
  ·cases hf
 ·cases hf
def zx {P:Program} {w:World} {G:Gh} {t e:TypeId} {k:Nat} {xs:List AV} {tk:bE} {u v:Value} {ki:IntKind} {n:Int} (hx:af G (.sl k xs tk) u) (hi:af G (.int ki n) v)
  (ht:P.underlying t=some (.slice e)) (hs:cg P e k=true) (h0:0<=n) (h1:n<xs.length):∃ z,(Instr.indexAt t u v).run P w= .ok z w/\af G (.eZ k xs n.toNat 0) z:=by
 cases hi
 cases hx with
 |slnil=>simp at h1;omega
 |sl f hk hp ho hv hc htk=>
  rename_i r b cap;have hn:0<=n/\n<(xs.length:Int):=⟨h0,h1⟩;refine ⟨.pointer (some ⟨r,b+n.toNat*k+0,none⟩),?_,.eZ f hk hp ho hv⟩;simp [Instr.indexAt,asIntOf,aQ ht,hn,bR hs,cE]
def yj {P:Program} {w:World} {G:Gh} {t e:TypeId} {k m l o:Nat} {u v:Value} {ki:IntKind} {n:Int} (hx:af G (.aN k m l o) u) (hi:af G (.int ki n) v)
  (ht:P.underlying t=some (.slice e)) (hs:cg P e k=true) (h0:0<=n) (h1:n<m):∃ z,(Instr.indexAt t u v).run P w= .ok z w/\af G (.ptr l (o+n.toNat*k)) z:=by
 cases hi
 cases hx with
 |aN _ h hc hz=>
  rename_i r cap;have hn:0<=n/\n<(m:Int):=⟨h0,h1⟩;refine ⟨.pointer (some ⟨r,o+n.toNat*k,none⟩),?_,.ptr h⟩;simp [Instr.indexAt,asIntOf,aQ ht,hn,bR hs,cE]
def yi {P:Program} {w:World} {G:Gh} {t e:TypeId} {k len:Nat} {p q:AV} {u v:Value} {ki:IntKind} {n:Int} (hx:af G p u) (hi:af G (.int ki n) v)
  (ht:P.underlying t=some (.array len e)) (hs:cg P e k=true) (h0:0<=n) (h1:n<len) (he:p.plus (n.toNat*k)=some q):∃ z,(Instr.indexAt t u v).run P w= .ok z w/\af G q z:=by
 cases hi;obtain ⟨r,o,rfl,h2⟩:=FE hx he;refine ⟨_,?_,h2⟩;have hn:0<=n/\n<(len:Int):=⟨h0,h1⟩;simp [Instr.indexAt,asIntOf,aQ ht,Instr.sureAddr,hn,bR hs,cE]
def C9 {P:Program} {w:World} {G:Gh} {t:TypeId} {s:List UInt8} {u v:Value} {ki:IntKind} {n:Int} (hx:af G (.str s) u) (hi:af G (.int ki n) v) (ht:P.underlying t=some .string)
  (h0:0<=n) {b:UInt8} (h1:s[n.toNat]? =some b):∃ z,(Instr.index t u v).run P w= .ok z w/\af G (.int .u8 b.toNat) z:=by
 cases hi;cases hx;refine ⟨_,?_,.int _ _⟩
 have hlt:n.toNat<s.length:=by
  rcases Al n.toNat s.length with h|h
  ·exact h
  ·rw [As h] at h1;cases h1
 have hb:(ByteArray.mk s.toArray)[n.toNat]? =some b:=by
  rw [ByteArray.getElem?_lt' _ _ (by simpa [ByteArray.size] using hlt)]
  congr 1
  have:s[n.toNat]=b:=by rw [AJ hlt] at h1;exact AX h1
  rw [<-this];rfl
 simp [Instr.index,asIntOf,aQ ht,h0,hb]
end Go.V
namespace Go.V
open Go
def lY {G:Gh} {k:Nat} {xs:List AV} {t:bE} {r b cap:Nat} {vs:List Value} (hk:∀ x∈xs,x.cells.length=k) (hc:br G (flat xs) vs)
  (hp:∀ (j:Nat) (v:Value),vs[j]? =some v->G.φ r (b+j)=some v) (hcap:xs.length<=cap) (ht:Ik G t r (b+xs.length*k) (b+cap*k)):
  af G (.sl k xs t) (.slice (some ⟨r,b,none⟩) xs.length cap):=by
 refine .sl (fun m=>vs.getD m undef) hk (fun m c e=>?_) (fun m c e=>?_) (fun m c e=>?_) hcap ht
 all_goals
  obtain ⟨v,h1,h2,h3⟩:=hc.get e;have:vs.getD m undef=v:=by simp [List.getD,h1]
  rw [this]
 ·exact hp m v h1
 ·exact h3
 ·exact h2
def iH (k:Nat) (xs:List AV):Bool:=xs.all fun x=>x.gB && x.cells.length==k
def rF {k:Nat} {xs:List AV} (h:iH k xs=true):∀ x∈xs,x.gB=true/\x.cells.length=k:=by
 intro x hx;have:=AN.1 h x hx;simpa using this
def vE {G:Gh}:∀ {xs:List AV} {vs:List Value},xs.length=vs.length->(∀ (m:Nat) (c:AV) (v:Value),xs[m]? =some c->vs[m]? =some v->af G c v)->(∀ x∈xs,x.gB=true)->
  br G (flat xs) (vs.flatMap fun v=>v.cells.toList)
 |[],[],_,_,_=> .nil G
 |[],_::_,h,_,_=>by cases h
 |_::_,[],h,_,_=>by cases h
 |x::xs,v::vs,hl,hr,hs=>by
  rw [dj,Cw];exact .append ((hr 0 x v rfl rfl).cells (hs x (by simp))) (vE (by simpa using hl) (fun m c u a b=>hr (m+1) c u (by simpa using a) (by simpa using b)) (fun y hy=>hs y (by simp [hy])))
def ql {P:Program} {wb:aT} {G:Gh} {S:St} {w:World} (h:ax wb G S w) {t e:TypeId} {k:Nat} {xs:List AV} {vs:List Value} {parts:Array (Nat×Value)} {z:List AV}
  (hl:xs.length=vs.length) (hr:∀ (m:Nat) (c:AV) (v:Value),xs[m]? =some c->vs[m]? =some v->af G c v) (hx:iH k xs=true)
  (ht:P.underlying t=some (.slice e)) (hs:cg P e k=true) (hz:fL P e z=true) (hk:0<k) (hb:xs.length*k<=16777216) (hp:parts.toList=(vs.zipIdx 0).map fun x=>(x.2,x.1)):
  (Instr.buildSlice t xs.length parts).run P w= .ok (.slice (some ⟨w.heap.size,0,none⟩) xs.length xs.length) (w.alloc (.cells (vs.flatMap fun v=>v.cells.toList).toArray e)):=by
 have hx':=rF hx;obtain ⟨zv,hz1,hz2⟩:=kJ hz w
 have hvk:∀ v∈vs,v.cells.size=k:=by
  intro v hv;obtain ⟨m,hm,rfl⟩:=Bj.1 hv;have hm':m<xs.length:=by omega
  have h1:=hx' xs[m] (by simp);have h2:=((hr m xs[m] vs[m] (by simp [hm']) (by simp [hm])).cells h1.1).len;rw [h1.2] at h2;simpa using h2.symm
 have hfill:∀ cells:Array Value,cells.size=xs.length*k->Instr.fill (fun i=>some (i*k,k)) cells parts.toList=some (vs.flatMap fun v=>v.cells.toList).toArray:=by
  intro cells hc;rw [hp];exact Great.fill_whole hk vs cells hvk (by rw [hc,hl])
 have hb': ¬(xs.length*k>2^24):=by omega
 simp only [Instr.buildSlice,Sem.run_bind,aQ ht,Result.andThen_ok,bR hs,hb',if_false]
 by_cases h0:xs.length*k=0
 ·simp only [h0,if_true,Sem.run_bind,Sem.run_pure,Result.andThen_ok];rw [hfill _ (by simp [h0])];simp [newRow]
 ·simp only [h0,if_false,Sem.run_bind,hz1,Result.andThen_ok,Sem.run_pure];rw [hfill _ (by simp)];simp [newRow]
def zy {P:Program} {wb:aT} {G:Gh} {S:St} {w:World} (h:ax wb G S w) {t e:TypeId} {k:Nat} {xs:List AV} {vs:List Value} {parts:Array (Nat×Value)} {z:List AV}
  (hl:xs.length=vs.length) (hr:∀ (m:Nat) (c:AV) (v:Value),xs[m]? =some c->vs[m]? =some v->af G c v) (hx:iH k xs=true)
  (ht:P.underlying t=some (.slice e)) (hs:cg P e k=true) (hz:fL P e z=true) (hk:0<k) (hb:xs.length*k<=16777216) (hp:parts.toList=(vs.zipIdx 0).map fun x=>(x.2,x.1)):
  dK P wb G (Instr.buildSlice t xs.length parts) w (.sl k xs .exact) S:=by
 have hx':=rF hx;have hcr:=vE hl hr (fun x hm=>(hx' x hm).1);obtain ⟨G',h1,h2,h3,h4,h5⟩:=h.promise (E:=e) (fr:=(0,0)) (row:=vs.flatMap fun v=>v.cells.toList) (vs:=vs.flatMap fun v=>v.cells.toList) (fun _ _ e=>e);refine ⟨.slice (some ⟨w.heap.size,0,none⟩) xs.length xs.length,_,G',ql h hl hr hx ht hs hz hk hb hp,h1,h4,?_⟩;have:=lY (G:=G') (k:=k) (xs:=xs) (t:= .exact) (r:=w.heap.size) (b:=0) (cap:=xs.length) (fun x hm=>(hx' x hm).2) (hcr.mono h1) (fun j v e=>by rw [Aw,h5];exact e) (Af _) rfl;exact this
def ym {P:Program} {wb:aT} {G:Gh} {S:St} {w:World} (h:ax wb G S w) {t e:TypeId} {k:Nat} {xs:List AV} {vs:List Value} {parts:Array (Nat×Value)} {z:List AV}
  (hl:xs.length=vs.length) (hr:∀ (m:Nat) (c:AV) (v:Value),xs[m]? =some c->vs[m]? =some v->af G c v) (hx:iH k xs=true)
  (ht:P.underlying t=some (.slice e)) (hs:cg P e k=true) (hz:fL P e z=true) (hk:0<k) (hb:xs.length*k<=16777216) (hp:parts.toList=(vs.zipIdx 0).map fun x=>(x.2,x.1)):
  dK P wb G (Instr.buildSlice t xs.length parts) w (.aN k xs.length S.n 0) {S with n:=S.n+1,obj:=(S.n,flat xs)::S.obj}:=by
 have hx':=rF hx;have hcr:=vE hl hr (fun x hm=>(hx' x hm).1);obtain ⟨G',h1,h2,h3,h4⟩:=h.j9 (E:=e) (rest:=[]) hcr;rw [AB] at h4;refine ⟨_,_,G',ql h hl hr hx ht hs hz hk hb hp,h1,h4,.aN k h2 (Af _) ?_⟩;rw [h3,<-hcr.len,cO fun x hm=>(hx' x hm).2];simp
def ck (b:UInt8):AV:= .int .u8 b.toNat
def appArg (k:Nat):AV->Option (List AV)
 | .sl k' ys _=>if k'=k then some ys else none
 | .str s=>if k=1 then some (s.map ck) else none
 |_=>none
def yF (S:St) (t:bE):Prop:=t= .exact∨∃ n,t= .tok n/\n∈S.live
def St.use (S:St) (t:bE):St:={S with nt:=S.nt+1,live:=S.nt::(match t with
 | .tok n=>S.live.filter (· !=n)
 | .new n=>S.live.filter (· !=n)
 |_=>S.live)}
def wF (S:St):yF S .exact:= .inl rfl
def DD (S:St) (t:bE):yF (S.use t) (.tok S.nt):= .inr ⟨_,rfl,by simp [St.use]⟩
def fm (k:Nat) (S:St) (x y:AV):Option (AV×St):=
 match x with
 | .sl k' xs t=>if k'=k then (appArg k y).map fun ys=>(.sl k (xs++ys) (.tok S.nt),S.use t) else none
 |_=>none
def sn (k:Nat) (S:St) (x y:AV):Option (AV×St):=
 match x with
 | .sl k' xs t=>if k'=k then (appArg k y).bind fun ys=>(match t with
  | .new n=>some (.sl k (xs++ys) (.new S.nt),S.use (.new n))
  | .exact=>(match xs with
   |[]=>(match ys with
    |[]=>some (.sl k [] .exact,S)
    |a::ys=>some (.sl k (a::ys) (.new S.nt),S.use .exact))
   |_=>none)
  |_=>none) else none
 |_=>none
def bH (k:Nat) (S:St):AV->Option (List AV)
 | .aN k' n l o=>if k'=k/\0<n then (S.get l).bind fun cs=>if aE cs then none else if o+n*k<=cs.length then some ((cs.drop o).take (n*k)) else none else none
 |_=>none
def bO:AV->Option Nat
 | .aN _ n _ _=>some n
 |_=>none
def fJ (k:Nat) (S:St) (x y:AV):Option (AV×St):=
 match x with
 | .sl k' [] .exact=>if k'=k then (match bO y with
  |some n=>(bH k S y).map fun cs=>(.aN k n S.n 0,{S with n:=S.n+1,obj:=(S.n,cs)::S.obj})
  |none=>(appArg k y).bind fun ys=>(match ys with
   |[]=>some (.sl k [] .exact,S)
   |a::ys=>some (.aN k (ys.length+1) S.n 0,{S with n:=S.n+1,obj:=(S.n,flat (a::ys))::S.obj}))) else none
 |_=>none
def fK (k bytes:Nat) (y:AV):Prop:=
 match bO y with
 |some n=>n*bytes<=140737488355328/\n<=9223372036854775807
 |none=>match appArg k y with
  |some ys=>ys.length*bytes<=140737488355328/\ys.length<=9223372036854775807
  |none=>True
def cq (k:Nat) (S:St) (y:AV):Option (Nat×List AV):=
 match bO y with
 |some n=>(bH k S y).map fun cs=>(n,cs)
 |none=>(appArg k y).map fun ys=>(ys.length,flat ys)
def gk (k:Nat) (S:St) (x y:AV):Option (AV×St):=
 match x with
 | .aN k' n l 0=>(cq k S y).bind fun p=>
  if p.1=0 then some (x,S) else
  (bH k S (.aN k' n l 0)).map fun cs=>(.aN k (n+p.1) S.n 0,{S with n:=S.n+1,obj:=(S.n,cs++p.2)::(l,lu)::S.obj})
 | .sl _ _ _=>fJ k S x y
 |_=>none
def iX:AV->Nat
 | .aN _ n _ _=>n
 |_=>0
def gD (k bytes:Nat) (x y:AV):Prop:=
 match bO y with
 |some n=>(iX x+n)*bytes<=140737488355328/\iX x+n<=9223372036854775807
 |none=>match appArg k y with
  |some ys=>(iX x+ys.length)*bytes<=140737488355328/\iX x+ys.length<=9223372036854775807
  |none=>True
def wO (k bytes:Nat) (S:St) (x y:AV):Prop:=
 match x with
 | .sl _ xs t=>(match t with
   | .new n=>n∈S.live
   |_=>True)/\(match appArg k y with
   |some ys=>(xs.length+ys.length)*bytes<=140737488355328/\xs.length+ys.length<=9223372036854775807
   |none=>True)
 |_=>True
def fN (k bytes:Nat) (S:St) (x y:AV):Prop:=
 match x with
 | .sl _ xs t=>yF S t/\(match appArg k y with
   |some ys=>(xs.length+ys.length)*bytes<=140737488355328/\xs.length+ys.length<=9223372036854775807
   |none=>True)
 |_=>True
def wS (s:List UInt8):flat (s.map ck)=s.map ck:=by
 induction s with
 |nil=>rfl
 |cons b s ih=>rw [List.map_cons,dj,ih];rfl
def zM (G:Gh) (s:List UInt8):br G (s.map ck) (s.map fun b=>Value.int .u8 b.toNat):=by
 induction s with
 |nil=>exact .nil G
 |cons b s ih=>exact .cons (.int _ _) rfl ih
def fX {P:Program} {wb:aT} {G:Gh} {S:St} {w:World} (h:ax wb G S w) {k:Nat} {y:AV} {ys:List AV} {v:Value} (hy:af G y v) (ha:appArg k y=some ys) (hk:0<k):
  ∃ us:List Value,br G (flat ys) us/\(∀ x∈ys,x.cells.length=k)/\(Builtin.lenOf v).run P w= .ok ys.length w/\
   ∀ w',(∀ r o u,G.φ r o=some u->w'.cell? ⟨r,o,none⟩=some u)->(Builtin.firstCells k ys.length v).run P w'= .ok us.toArray w':=by
 cases hy<;>simp only [appArg] at ha<;>first
  |(cases ha;done)
  |skip
 ·rename_i s;split at ha
  ·rename_i hk1;injection ha with ha
   subst ha hk1;refine ⟨_,by rw [wS];exact zM G s,?_,?_,fun w' _=>?_⟩
   ·intro x hx;obtain ⟨b,_,rfl⟩:=Ai.1 hx;rfl
   ·simp [Builtin.lenOf,ByteArray.size]
   ·simp only [Builtin.firstCells,Sem.run_pure]
    congr 1
    have:(ByteArray.mk s.toArray).extract 0 (s.map ck).length=ByteArray.mk s.toArray:=by
     apply ByteArray.ext;simp
    rw [this];simp
  ·cases ha
 ·split at ha
  ·injection ha with ha
   subst ha
   exact ⟨[],.nil G,by simp,by simp [Builtin.lenOf],fun w' _=>by
    rename_i ad _ _
    cases ad<;>simp [Builtin.firstCells,loadCells,loadCellsFrom]⟩
  ·cases ha
 ·rename_i k' xs t r b cap f hk' hp ho hv hc ht;split at ha
  ·rename_i hkk;injection ha with ha
   subst ha hkk;have hat:At w G r b (flat xs):=At.Mk h hp ho hv
   let us:List Value:=(List.range (flat xs).length).map f
   have hus:∀ (m:Nat) (c:AV),(flat xs)[m]? =some c->us[m]? =some (f m):=fun m c e=>by
    have hm:m<(flat xs).length:=by
     rcases Al m (flat xs).length with h'|h'
     ·exact h'
     ·rw [As h'] at e;cases e
    simp [us,hm]
   refine ⟨us,⟨by simp [us],?_,?_⟩,hk',by simp [Builtin.lenOf],fun w' hw'=>?_⟩
   ·intro v hv';simp only [us,Ai,List.mem_range] at hv';obtain ⟨m,hm,rfl⟩:=hv';exact ho m _ (AJ hm)
   ·intro m c v h1 h2;rw [hus m c h1] at h2;injection h2 with h2
    subst h2;exact hv m c h1
   ·have:=run_firstCells_some (P:=P) w' k' xs.length ⟨r,b,none⟩ xs.length cap us (by simp [us,cO hk']) (fun j u e=>by
     rw [cE]
     have hj:j<(flat xs).length:=by
      rcases Al j (flat xs).length with h'|h'
      ·exact h'
      ·have:us.length<=j:=by simp [us];exact h'
       rw [As this] at e;cases e
     rw [hus j _ (AJ hj)] at e;injection e with e
     subst e
     exact hw' _ _ _ (hp j _ (AJ hj)))
    exact this
  ·cases ha
def nT {P:Program} {wb:aT} {G:Gh} {S:St} {w:World} (h:ax wb G S w) {k n:Nat} {y:AV} {cs:List AV} {v:Value} (hy:af G y v) (hn:bO y=some n) (ha:bH k S y=some cs):
  ∃ us:List Value,br G cs us/\0<n/\(Builtin.lenOf v).run P w= .ok n w/\∀ w',(∀ a,w'.cell? a=w.cell? a)->(Builtin.firstCells k n v).run P w'= .ok us.toArray w':=by
 cases y<;>simp only [bO] at hn<;>first
  |(cases hn;done)
  |skip
 rename_i k' n' l o;injection hn with hn
 subst hn;simp only [bH] at ha;split at ha;rotate_left
 ·cases ha
 rename_i hk;obtain ⟨rfl,hpos⟩:=hk;simp only [Ar] at ha;obtain ⟨cs0,hg,ha⟩:=ha;split at ha
 ·cases ha
 rename_i hnb;split at ha;rotate_left
 ·cases ha
 rename_i hle;injection ha with ha
 subst ha;cases hy;rename_i r cap hcap hr hcz;obtain ⟨r',hr',hm⟩:=h.obj l cs0 hg (by simpa using hnb);rw [hr] at hr';cases hr'
 let f:Nat->Value:=fun m=>(w.cell? ⟨r,o+m,none⟩).getD undef
 have hlen:((cs0.drop o).take (n'*k')).length=n'*k':=by simp;omega
 have hget:∀ m c,((cs0.drop o).take (n'*k'))[m]? =some c->cs0[o+m]? =some c:=fun m c e=>by
  rw [Bh] at e;split at e
  ·rw [AO] at e;exact e
  ·cases e
 have hf:∀ m c,((cs0.drop o).take (n'*k'))[m]? =some c->w.cell? ⟨r,o+m,none⟩=some (f m)/\af G c (f m)/\(f m).oneCell'=true:=fun m c e=>by
  obtain ⟨v,a1,a2,a3,_⟩:=hm (o+m) c (hget m c e);simp only [f,a1,Option.getD_some];exact ⟨trivial,a2,a3⟩
 let us:List Value:=(List.range (n'*k')).map f
 have hus:∀ m c,((cs0.drop o).take (n'*k'))[m]? =some c->us[m]? =some (f m):=fun m c e=>by
  have hm:m<n'*k':=by rw [<-hlen];exact (Bz.1 e).1
  simp [us,hm]
 refine ⟨us,⟨by simp only [us,Ad,List.length_range];exact hlen,?_,?_⟩,hpos,by simp [Builtin.lenOf],fun w' hw'=>?_⟩
 ·intro v hv';simp only [us,Ai,List.mem_range] at hv';obtain ⟨m,hm,rfl⟩:=hv';exact (hf m _ (AJ (by rw [hlen];exact hm))).2.2
 ·intro m c v h1 h2;rw [hus m c h1] at h2;injection h2 with h2
  subst h2;exact (hf m c h1).2.1
 ·refine run_firstCells_some (P:=P) w' k' n' ⟨r,o,none⟩ n' cap us (by simp [us]) fun j u e=>?_;rw [cE,hw']
  have hj:j<n'*k':=by
   rcases Al j (n'*k') with h'|h'
   ·exact h'
   ·have:us.length<=j:=by simp [us];exact h'
    rw [As this] at e;cases e
  rw [hus j _ (AJ (by rw [hlen];exact hj))] at e;injection e with e
  subst e;exact (hf j _ (AJ (by rw [hlen];exact hj))).1
end Go.V
namespace Go.V
open Go
def gW (P:Program) (t t2:TypeId) (k bytes:Nat):Bool:=
 (match P.underlying t with
  |some (.slice e)=>match P.info? e with
   |some i=>i.size==k && i.bytes==bytes && decide (0<k) && (match i.zero with
    |some z=>z.cells.size==k
    |none=>false)
   |none=>false
  |_=>false) &&
 (match P.underlying t2 with
  |some .string=>true
  |some (.slice _)=>true
  |_=>false)
def eY {P:Program} {w w':World} {t t2 ty e:TypeId} {i:TypeInfo} (ht:P.underlying t=some (.slice e)) (hi:P.info? e=some i) {d2:TypeDesc} (ht2:P.underlying t2=some d2) (hd2:d2= .string∨∃ x,d2= .slice x)
  {base:Option Addr} {sLen sCap n:Nat} {v:Value} {us:Array Value} (hn:(Builtin.lenOf v).run P w= .ok n w) (hu:(Builtin.firstCells i.size n v).run P w= .ok us w) (hroom:sLen+n<=sCap)
  (hst:∀ a,base=some a->(storeCells (a.add (sLen*i.size)) us.toList).run P w= .ok () w') (hnone:base=none->w'=w):
  (Builtin.append_ #[t,t2] ty #[.slice base sLen sCap,v]).run P w= .ok (.slice base (sLen+n) sCap) w':=by
 have hs:(Go.sizeOf e).run P w= .ok i.size w:=by simp [Go.sizeOf,typeInfo,hi]
 rcases hd2 with rfl|⟨x,rfl⟩<;>cases base with
 |none=>
  obtain rfl:=hnone rfl;simp [Builtin.append_,aQ ht,aQ ht2,hs,hn,hroom,hu]
 |some a=>
  have:=hst a rfl;simp [Builtin.append_,aQ ht,aQ ht2,hs,hn,hroom,hu,this]
def jj {P:Program} {w:World} {t t2 ty e:TypeId} {i:TypeInfo} {z:Value} (ht:P.underlying t=some (.slice e)) (hi:P.info? e=some i) (hz:i.zero=some z) {d2:TypeDesc} (ht2:P.underlying t2=some d2) (hd2:d2= .string∨∃ x,d2= .slice x)
  {base:Option Addr} {sLen sCap n:Nat} {v:Value} {us os:Array Value} (hn:(Builtin.lenOf v).run P w= .ok n w) (hu:(Builtin.firstCells i.size n v).run P w.drew= .ok us w.drew)
  (ho:(Builtin.firstCells i.size sLen (.slice base sLen sCap)).run P w.drew= .ok os w.drew) (hroom: ¬sLen+n<=sCap)
  (h63:((sLen+n:Nat):Int)<=9223372036854775807) (hfit:(sLen+n)*i.bytes<=140737488355328):
  (Builtin.append_ #[t,t2] ty #[.slice base sLen sCap,v]).run P w=
   .ok (.slice (some ⟨w.heap.size,0,none⟩) (sLen+n) (grownCap w (sLen+n) sCap e)) (w.drew.alloc (.cells (os++us++Builtin.zeroCells z.cells (grownCap w (sLen+n) sCap e-(sLen+n))) e)):=by
 have hs:(Go.sizeOf e).run P w= .ok i.size w:=by simp [Go.sizeOf,typeInfo,hi]
 have h48: ¬(281474976710656<Builtin.nextslicecap (sLen+n) sCap*i.bytes):=by
  have:=growslice_fits (need:=sLen+n) (old:=sCap) (bytes:=i.bytes) (by omega) hfit;omega
 have h63': ¬(9223372036854775807<((sLen:Int)+(n:Int))):=by omega
 rcases hd2 with rfl|⟨x,rfl⟩
 ·simp [Builtin.append_,aQ ht,aQ ht2,hs,hn,hroom,hu,ho,h63',h48,Question.forced,typeInfo,zeroValue,hi,hz,newRow,grownCap]
 ·simp [Builtin.append_,aQ ht,aQ ht2,hs,hn,hroom,hu,ho,h63',h48,Question.forced,typeInfo,zeroValue,hi,hz,newRow,grownCap]
end Go.V
namespace Go.V
open Go
def ax.zd {wb:aT} {G:Gh} {S:St} {w:World} {L L':List Nat} {n:Nat} (h:ax wb G {S with nt:=n,live:=L} w) (hs:∀ t∈L',t∈L):ax wb G {S with nt:=n,live:=L'} w:=h.tx ⟨rfl,rfl,rfl,fun _ _ e=>e,hs⟩
def gT (z:Array Value) (n:Nat):(Builtin.zeroCells z n).size=n*z.size:=by simp [Builtin.zeroCells]
def Ns (wb:aT) (tk:bE) (ys:List AV) (u v:Value) (w w':World):Prop:=
 (∀ r b n c,v= .slice (some ⟨r,b,none⟩) n c->wb.heap.size<=r∨((ys=[]∨tk≠ .exact)/\∃ n',u= .slice (some ⟨r,b,none⟩) n' c))/\(tk= .exact->ys=[]->w'=w/\v=u)
def Nu (P:Program) (wb:aT) (G:Gh) (x:Sem Value) (w:World) (r:AV) (S':St) (R:Value->World->Prop):Prop:=∃ v w' G',x.run P w= .ok v w'/\G.le G'/\ax wb G' S' w'/\af G' r v/\R v w'
def lJ {P:Program} {wb:aT} {G:Gh} {S S':St} {w:World} (h:ax wb G S w) {t t2 ty:TypeId} {k bytes:Nat} {x y r:AV} {u v:Value} (hx:af G x u) (hy:af G y v)
  (hty:gW P t t2 k bytes=true) (aL:fN k bytes S x y) (he:fm k S x y=some (r,S')):Nu P wb G (Builtin.append_ #[t,t2] ty #[u,v]) w r S' (fun v' w'=>∀ xs tk ys,x= .sl k xs tk->appArg k y=some ys->Ns wb tk ys u v' w w'):=by
 unfold gW at hty;simp only [Aa] at hty;obtain ⟨hty,hty2⟩:=hty;split at hty;rotate_left
 ·cases hty
 rename_i e ht;split at hty;rotate_left
 ·cases hty
 rename_i i hi;simp only [Aa,beq_iff_eq,decide_eq_true_eq] at hty;obtain ⟨⟨⟨h1,h2⟩,h3⟩,h4⟩:=hty;split at h4;rotate_left
 ·cases h4
 rename_i z hz;have h4:z.cells.size=k:=by simpa using h4
 obtain ⟨d2,ht2,hd2⟩:∃ d2,P.underlying t2=some d2/\(d2= .string∨∃ x,d2= .slice x):=by
  split at hty2
  ·exact ⟨_,‹_›,.inl rfl⟩
  ·exact ⟨_,‹_›,.inr ⟨_,rfl⟩⟩
  ·cases hty2
 have hxs:∃ xs tk,x= .sl k xs tk:=by
  cases hx<;>simp only [fm] at he<;>first
   |(cases he;done)
   |(split at he
     ·rename_i hk;subst hk;exact ⟨_,_,rfl⟩
     ·cases he)
 obtain ⟨xs,tk,rfl⟩:=hxs;simp only [fm,if_true,Ag,Ac] at he;obtain ⟨ys,hys,rfl,rfl⟩:=he;simp only [fN,hys] at aL;obtain ⟨EE,hob1,hob2⟩:=aL;obtain ⟨us,hus,hyk,hn,hfc⟩:=fX (P:=P) h hy hys h3;have hxa:appArg k (.sl k xs tk)=some xs:=by simp [appArg]
 obtain ⟨os,hos,hxk,hno,hfo⟩:=fX (P:=P) h hx hxa h3
 have hk:∀ a∈xs++ys,a.cells.length=k:=fun a ha=>by
  rcases AA.1 ha with ha|ha
  ·exact hxk a ha
  ·exact hyk a ha
 have hlu:us.length=ys.length*k:=by rw [<-hus.len,cO hyk]
 have hlo:os.length=xs.length*k:=by rw [<-hos.len,cO hxk]
 have hcr:br G (flat (xs++ys)) (os++us):=by rw [uW];exact .append hos hus
 have hS:∃ L',S.use tk={S with nt:=S.nt+1,live:=S.nt::L'}/\(∀ t∈L',t∈S.live)/\(tk= .exact∨∃ n,tk= .tok n/\n∈S.live/\L'=S.live.filter (· !=n)):=by
  rcases EE with rfl|⟨n,rfl,hn⟩
  ·exact ⟨S.live,rfl,fun _ h=>h,.inl rfl⟩
  ·exact ⟨_,rfl,fun t ht=>(BN.1 ht).1,.inr ⟨n,rfl,hn,rfl⟩⟩
 obtain ⟨L',hL',hL,htk⟩:=hS;rw [hL']
 suffices hsuf:Nu P wb G (Builtin.append_ #[t,t2] ty #[u,v]) w (.sl k (xs++ys) (.tok S.nt)) {S with nt:=S.nt+1,live:=S.nt::L'} (fun v' w'=>Ns wb tk ys u v' w w') by
  obtain ⟨v',w',G',q1,q2,q3,q4,q5⟩:=hsuf;refine ⟨v',w',G',q1,q2,q3,q4,fun xs' tk' ys' e1 e2=>?_⟩;injection e1 with _ e3 e4
  rw [hys] at e2;injection e2 with e2
  subst e3 e4 e2;exact q5
 have grow:∀ (base:Option Addr) (cap:Nat),u= .slice base xs.length cap-> ¬xs.length+ys.length<=cap-> ¬(tk= .exact/\ys=[])->Nu P wb G (Builtin.append_ #[t,t2] ty #[u,v]) w (.sl k (xs++ys) (.tok S.nt)) {S with nt:=S.nt+1,live:=S.nt::L'} (fun v' w'=>Ns wb tk ys u v' w w'):=by
  intro base cap hu hroom hnex;subst hu;have hd:=h.drew
  have run:=jj (P:=P) (w:=w) (t:=t) (t2:=t2) (ty:=ty) ht hi hz ht2 hd2 (base:=base) (sLen:=xs.length) (sCap:=cap) (us:=us.toArray) (os:=os.toArray) hn
   (by rw [h1];exact hfc w.drew (fun r o v e=>hd.prom r o v e)) (by rw [h1];exact hfo w.drew (fun r o v e=>hd.prom r o v e)) hroom (by omega) (by rw [h2];exact hob1)
  have hc:xs.length+ys.length<=grownCap w (xs.length+ys.length) cap e:=by simp only [grownCap,Question.cut];omega
  generalize grownCap w (xs.length+ys.length) cap e=c at run hc;obtain ⟨G',g1,_,g3,g4,g5⟩:=hd.MO (E:=e) (vs:=os++us) (rest:=(Builtin.zeroCells z.cells (c-(xs.length+ys.length))).toList);refine ⟨_,_,G',run,g1,?_,?_,⟨fun r0 b0 n0 c0 e0=> .inl ?_,fun e1 e2=>absurd ⟨e1,e2⟩ hnex⟩⟩;rotate_left 2
  ·injection e0 with e0 _ _
   injection e0 with e0
   injection e0 with e0 _ _
   rw [<-e0];exact h.base.1
  ·have:=g5.zd (L':=S.nt::L') (fun t ht=>by
    rcases Ab.1 ht with rfl|ht
    ·simp
    ·exact Ao _ (hL t ht))
   have e1:(os++us++(Builtin.zeroCells z.cells (c-(xs.length+ys.length))).toList).toArray=os.toArray++us.toArray++Builtin.zeroCells z.cells (c-(xs.length+ys.length)):=by
    apply Aq;simp
   rw [e1] at this;exact this
  ·have e2:xs.length+ys.length=(xs++ys).length:=by simp
   rw [e2];refine lY hk (hcr.mono g1) (fun j v e=>by rw [Aw];show G'.φ w.drew.heap.size j=_;rw [g4];exact e) (by simpa using hc) ?_;show G'.τ S.nt=_;have e3:(os++us).length=(xs++ys).length*k:=by simp [hlo,hlu,AM]
   have e4:(os++us).length+(Builtin.zeroCells z.cells (c-(xs.length+ys.length))).toList.length=c*k:=by
    have e5:(Builtin.zeroCells z.cells (c-(xs.length+ys.length))).toList.length=(c-(xs.length+ys.length))*k:=by rw [<-h4,<-gT];exact Array.length_toList
    have e6:(xs++ys).length+(c-(xs.length+ys.length))=c:=by rw [Ak];omega
    rw [e3,e5,<-AM,e6]
   rw [g3,e4,e3,Aw,Aw];rfl
 cases hx with
 |slnil=>
  by_cases h0:ys.length=0
  ·have hy0:ys=[]:=A2 h0;subst hy0;obtain ⟨G',g1,_,g3⟩:=h.Ek 0 0;have hu0:us=[]:=by simpa using hlu
   subst hu0;refine ⟨_,w,G',eY (w':=w) ht hi ht2 hd2 hn (us:= #[]) (by rw [h1];exact hfc w h.prom) (by simp) (fun a _=>by simp [storeCells]) (fun _=>rfl),g1,?_,?_,⟨fun r0 b0 n0 c0 e0=> .inr ⟨.inl rfl,by injection e0 with e0 _ e2;subst e0 e2;exact ⟨_,rfl⟩⟩,fun _ _=>⟨rfl,by simp⟩⟩⟩
   ·exact g3.zd (fun t ht=>by
     rcases Ab.1 ht with rfl|ht
     ·simp
     ·exact Ao _ (hL t ht))
   ·exact .slnil _ _ _
  ·exact grow _ 0 rfl (by rw [List.length_nil];omega) (fun e=>h0 (by rw [e.2];rfl))
 |sl f hk' hp ho hv hc htok=>
  rename_i r b cap
  by_cases hroom:xs.length+ys.length<=cap
  ·
   have hex:tk= .exact->ys=[]:=fun e=>by
    subst e;have e5:b+xs.length*k=b+cap*k:=htok;have:xs.length=cap:=Nat.eq_of_mul_eq_mul_right h3 (by omega);exact A2 (by omega)
   rcases htk with hte|⟨n,hte,hnl,hL2⟩
   ·have hy0:=hex hte;subst hy0 hte;have hu0:us=[]:=by simpa using hlu
    subst hu0;obtain ⟨G',g1,g2,g3⟩:=h.Ek r (b+xs.length*k);refine ⟨_,w,G',eY (w':=w) ht hi ht2 hd2 hn (us:= #[]) (by rw [h1];exact hfc w h.prom) hroom (fun a _=>by simp [storeCells]) (fun _=>rfl),g1,?_,?_,⟨fun r0 b0 n0 c0 e0=> .inr ⟨.inl rfl,by injection e0 with e0 _ e2;exact ⟨xs.length,by rw [<-e0,<-e2]⟩⟩,fun _ _=>⟨rfl,rfl⟩⟩⟩
    ·exact g3.zd (fun t ht=>by
      rcases Ab.1 ht with rfl|ht
      ·simp
      ·exact Ao _ (hL t ht))
    ·have hp':=fun (m:Nat) (c:AV) (e:(flat xs)[m]? =some c)=>g1.φ _ _ _ (hp m c e);have hv':=fun (m:Nat) (c:AV) (e:(flat xs)[m]? =some c)=>(hv m c e).mono g1;have e5:b+xs.length*k=b+cap*k:=htok;have:=af.sl (G:=G') (t:= .tok S.nt) f hk' hp' ho hv' hc (by show G'.τ S.nt=_;rw [g2,<-e5]);simpa using this
   ·subst hte;have hτ:G.τ n=some (r,b+xs.length*k,b+cap*k):=htok
    have hz':b+xs.length*k+us.length<=b+cap*k:=by
     rw [hlu,A4,<-AM];exact Nat.add_le_add_left (Be k hroom) b
    obtain ⟨G',g1,_,g3,g4,g5⟩:=h.extend hnl hτ hz';obtain ⟨r0,e0,z0,h5,h6⟩:=h.tok n hnl;obtain ⟨rfl,rfl,rfl⟩:r=r0/\b+xs.length*k=e0/\b+cap*k=z0:=by rw [hτ] at h5;simpa using h5
    refine ⟨_,putCells w r (b+xs.length*k) us,G',eY (w':=putCells w r (b+xs.length*k) us) ht hi ht2 hd2 hn (us:=us.toArray) (by rw [h1];exact hfc w h.prom) hroom (fun a e=>?_) (fun e=>by cases e),g1,?_,?_,⟨fun r0 b0 n0 c0 e0=> .inr ⟨.inr (by simp),by injection e0 with e0 _ e2;exact ⟨xs.length,by rw [<-e0,<-e2]⟩⟩,fun e=>by cases e⟩⟩
    ·injection e with e
     subst e;rw [cE,h1]
     have:=fj (P:=P) r (b+xs.length*k) us w 0 hus.one (fun j hj=>by
      rw [Nat.add_zero];obtain ⟨_,_,h7,h8,_⟩:=h6 (b+xs.length*k+j) (by omega) (by omega)
      exact ⟨h7,h8⟩)
     simpa using this
    ·rw [hL2];exact g5
    ·have e2:xs.length+ys.length=(xs++ys).length:=by simp
     rw [e2];refine lY hk (hcr.mono g1) (fun j v e=>?_) (by simpa using hroom) ?_
     ·rcases Al j os.length with hj|hj
      ·rw [AF hj] at e;have hjx:j<(flat xs).length:=by rw [hos.len];exact hj
       have hcx:=AJ hjx;have e3:=g1.φ _ _ _ (hp j _ hcx);have e4:=(hfo w h.prom)
       have:os[j]? =some (f j):=by
        have e5:=run_firstCells_some (P:=P) w k xs.length ⟨r,b,none⟩ xs.length cap ((List.range (flat xs).length).map f) (by simp [cO hxk]) (fun m u e=>by
         rw [cE]
         have hm:m<(flat xs).length:=by
          rcases Al m (flat xs).length with h'|h'
          ·exact h'
          ·rw [As (by simpa using h')] at e;cases e
         have:u=f m:=by simp [hm] at e;exact e.symm
         subst this
         exact h.prom _ _ _ (hp m _ (AJ hm)))
        rw [e5] at e4;injection e4 with e4
        have e6:os=(List.range (flat xs).length).map f:=by
         have:=congrArg Array.toList e4;simpa using this.symm
        rw [e6];simp [hjx]
       rw [this] at e;injection e with e
       subst e;exact e3
      ·rw [AG hj] at e;have:=g4 _ _ e
       rwa [show b+xs.length*k+(j-os.length)=b+j from by omega] at this
     ·show G'.τ S.nt=_;rw [g3]
      congr 2
      rw [hlu];simp only [Ak,AM]
      congr 1
      omega
  ·refine grow _ cap rfl hroom fun e=>?_;have:ys.length=0:=by rw [e.2];rfl
   omega
def JV {P:Program} {wb:aT} {G:Gh} {S S':St} {w:World} (h:ax wb G S w) {t t2 ty:TypeId} {k bytes:Nat} {x y r:AV} {u v:Value} (hx:af G x u) (hy:af G y v)
  (hty:gW P t t2 k bytes=true) (aL:fN k bytes S x y) (he:fm k S x y=some (r,S')):dK P wb G (Builtin.append_ #[t,t2] ty #[u,v]) w r S':=by
 obtain ⟨v',w',G',h1,h2,h3,h4,_⟩:=lJ h hx hy hty aL he;exact ⟨v',w',G',h1,h2,h3,h4⟩
def af.aap {G:Gh} {k:Nat} {xs:List AV} {n:Nat} {v:Value} (h:af G (.sl k xs (.new n)) v):af G (.sl k xs (.tok n)) v:=by
 cases h with
 |slnil=>exact .slnil _ _ _
 |sl f hk hp ho hv hc ht=>exact .sl f hk hp ho hv hc ht.1
def Pn {P:Program} {wb:aT} {G:Gh} {S S':St} {w:World} (h:ax wb G S w) {t t2 ty:TypeId} {k bytes:Nat} {x y r:AV} {u v:Value} (hx:af G x u) (hy:af G y v)
  (hty:gW P t t2 k bytes=true) (aL:wO k bytes S x y) (he:sn k S x y=some (r,S')):dK P wb G (Builtin.append_ #[t,t2] ty #[u,v]) w r S':=by
 unfold sn at he;split at he;rotate_left
 ·cases he
 rename_i k' xs tk;split at he;rotate_left
 ·cases he
 rename_i hkk;subst hkk;simp only [Ar] at he;obtain ⟨ys,hys,he⟩:=he;simp only [wO,hys] at aL;obtain ⟨hob1,hob2⟩:=aL
 have key:∀ (G':Gh) (v':Value),G.le G'->af G' (.sl k' (xs++ys) (.tok S.nt)) v'->(∀ r b n c,v'= .slice (some ⟨r,b,none⟩) n c->wb.heap.size<=r∨c=0)->af G' (.sl k' (xs++ys) (.new S.nt)) v':=by
  intro G' v' hle hv hr;generalize hz:xs++ys=zs at hv
  cases hv with
  |slnil=>exact .slnil _ _ _
  |sl f hk hp ho hv hc ht=>
   rcases hr _ _ _ _ rfl with h6|h6
   ·exact .sl f hk hp ho hv hc ⟨ht,by rw [hle.β,h.beta];exact h6⟩
   ·subst h6;have h7:zs=[]:=A2 (by omega);subst h7;exact .slnil _ _ _
 split at he
 ·rename_i n;simp only [Ae,Ac] at he;obtain ⟨rfl,rfl⟩:=he;obtain ⟨v',w',G',h1,h2,h3,h4,h5⟩:=lJ h (x:= .sl k' xs (.tok n)) hx.aap hy hty (by simp only [fN,hys];exact ⟨.inr ⟨n,rfl,hob1⟩,hob2⟩) (by simp only [fm,hys,if_true,Option.map_some];rfl);refine ⟨v',w',G',h1,h2,h3,key G' v' h2 h4 fun r0 b0 n0 c0 e0=>?_⟩;rcases (h5 _ _ _ rfl hys).1 _ _ _ _ e0 with h6|⟨_,n1,h6⟩
  ·exact .inl h6
  ·subst h6
   cases hx with
   |slnil=>exact .inr rfl
   |sl f hk hp ho hv hc ht=>rw [<-h.beta];exact .inl ht.2
 ·split at he
  ·split at he
   ·simp only [Ae,Ac] at he;obtain ⟨rfl,rfl⟩:=he;obtain ⟨v',w',G',h1,h2,h3,h4,h5⟩:=lJ h (x:= .sl k' [] .exact) hx hy hty (by simp only [fN,hys];exact ⟨.inl rfl,hob2⟩) (by simp only [fm,hys,if_true,Option.map_some];rfl);obtain ⟨e1,e2⟩:=(h5 _ _ _ rfl hys).2 rfl rfl;subst e1 e2;exact ⟨_,_,G,h1,Gh.le_refl G,h,hx⟩
   ·rename_i a ys';simp only [Ae,Ac] at he;obtain ⟨rfl,rfl⟩:=he;obtain ⟨v',w',G',h1,h2,h3,h4,h5⟩:=lJ h (x:= .sl k' [] .exact) hx hy hty (by simp only [fN,hys];exact ⟨.inl rfl,hob2⟩) (by simp only [fm,hys,if_true,Option.map_some];rfl);refine ⟨v',w',G',h1,h2,h3,key G' v' h2 h4 fun r0 b0 n0 c0 e0=>?_⟩;rcases (h5 _ _ _ rfl hys).1 _ _ _ _ e0 with h6|⟨h7,_⟩
    ·exact .inl h6
    ·rcases h7 with h7|h7
     ·cases h7
     ·exact absurd rfl h7
  ·cases he
 ·cases he
def iK {P:Program} {wb:aT} {G:Gh} {S:St} {w:World} (h:ax wb G S w) {k n:Nat} {y:AV} {cs:List AV} {v:Value} (hy:af G y v) (ha:cq k S y=some (n,cs)) (hk:0<k):
  ∃ us:List Value,br G cs us/\cs.length=n*k/\(Builtin.lenOf v).run P w= .ok n w/\(Builtin.firstCells k n v).run P w= .ok us.toArray w/\(Builtin.firstCells k n v).run P w.drew= .ok us.toArray w.drew:=by
 unfold cq at ha;split at ha
 ·rename_i n' hn';simp only [Ag,Ac] at ha;obtain ⟨_,ha,rfl,rfl⟩:=ha;obtain ⟨us,h1,h2,h3,h4⟩:=nT (P:=P) h hy hn' ha;refine ⟨us,h1,?_,h3,h4 w fun _=>rfl,h4 w.drew fun _=>rfl⟩
  cases y<;>simp only [bO] at hn'<;>first
   |(cases hn';done)
   |skip
  injection hn' with hn'
  subst hn';simp only [bH] at ha;split at ha;rotate_left
  ·cases ha
  rename_i hkk;obtain ⟨rfl,_⟩:=hkk;simp only [Ar] at ha;obtain ⟨cs0,_,ha⟩:=ha;split at ha
  ·cases ha
  ·split at ha
   ·injection ha with ha
    subst ha;simp;omega
   ·cases ha
 ·simp only [Ag,Ac] at ha;obtain ⟨ys,ha,rfl,rfl⟩:=ha;obtain ⟨us,h1,h2,h3,h4⟩:=fX (P:=P) h hy ha hk;exact ⟨us,h1,cO h2,h3,h4 w h.prom,h4 w.drew fun r o u e=>h.drew.prom r o u e⟩
def FT {P:Program} {wb:aT} {G:Gh} {S S':St} {w:World} (h:ax wb G S w) {t t2 ty:TypeId} {k bytes:Nat} {x y r:AV} {u v:Value} (hx:af G x u) (hy:af G y v)
  (hty:gW P t t2 k bytes=true) (aL:fK k bytes y) (he:fJ k S x y=some (r,S')):dK P wb G (Builtin.append_ #[t,t2] ty #[u,v]) w r S':=by
 unfold gW at hty;simp only [Aa] at hty;obtain ⟨hty,hty2⟩:=hty;split at hty;rotate_left
 ·cases hty
 rename_i e ht;split at hty;rotate_left
 ·cases hty
 rename_i i hi;simp only [Aa,beq_iff_eq,decide_eq_true_eq] at hty;obtain ⟨⟨⟨h1,h2⟩,h3⟩,h4⟩:=hty;split at h4;rotate_left
 ·cases h4
 rename_i z hz;have h4:z.cells.size=k:=by simpa using h4
 obtain ⟨d2,ht2,hd2⟩:∃ d2,P.underlying t2=some d2/\(d2= .string∨∃ x,d2= .slice x):=by
  split at hty2
  ·exact ⟨_,‹_›,.inl rfl⟩
  ·exact ⟨_,‹_›,.inr ⟨_,rfl⟩⟩
  ·cases hty2
 unfold fJ at he;split at he;rotate_left
 ·cases he
 rename_i k';split at he;rotate_left
 ·cases he
 rename_i hkk;subst hkk
 have grow:∀ (n:Nat) (cs:List AV) (us:List Value),br G cs us->cs.length=n*k'->0<n->(Builtin.lenOf v).run P w= .ok n w->(Builtin.firstCells k' n v).run P w.drew= .ok us.toArray w.drew->n*bytes<=140737488355328->n<=9223372036854775807->
   ∀ (base:Option Addr) (cap:Nat),u= .slice base 0 cap->cap=0->dK P wb G (Builtin.append_ #[t,t2] ty #[u,v]) w (.aN k' n S.n 0) {S with n:=S.n+1,obj:=(S.n,cs)::S.obj}:=by
  intro n cs us hus hcl hpos hn hfc hob1 hob2 base cap hu hcap;subst hu hcap;obtain ⟨os,hos,hxk,hno,hfo⟩:=fX (P:=P) h hx (show appArg k' (.sl k' [] .exact)=some [] by simp [appArg]) h3
  have hos0:os=[]:=by
   have:=hos.len;simpa using this.symm
  subst hos0;have hd:=h.drew
  have run:=jj (P:=P) (w:=w) (t:=t) (t2:=t2) (ty:=ty) ht hi hz ht2 hd2 (base:=base) (sLen:=0) (sCap:=0) (us:=us.toArray) (os:= #[]) hn
   (by rw [h1];exact hfc) (by rw [h1];exact hfo w.drew (fun r o v e=>hd.prom r o v e)) (by omega) (by omega) (by rw [h2];simpa using hob1)
  have hc:0+n<=grownCap w (0+n) 0 e:=by simp only [grownCap,Question.cut];omega
  generalize grownCap w (0+n) 0 e=c at run hc;obtain ⟨G',g1,g2,gκ,g3⟩:=hd.j9 (E:=e) (rest:=(Builtin.zeroCells z.cells (c-(0+n))).toList) hus;refine ⟨_,_,G',run,g1,?_,?_⟩
  ·have e1:(us++(Builtin.zeroCells z.cells (c-(0+n))).toList).toArray= #[]++us.toArray++Builtin.zeroCells z.cells (c-(0+n)):=by
    apply Aq;simp
   rw [e1] at g3;exact g3
  ·have:=af.aN (G:=G') k' (n:=n) (o:=0) (cap:=c) g2 (by simpa using hc) (by
    rw [gκ];have e5:(Builtin.zeroCells z.cells (c-(0+n))).toList.length=(c-(0+n))*k':=by rw [<-h4,<-gT];exact Array.length_toList
    have e6:us.length=n*k':=by rw [<-hus.len];exact hcl
    rw [e5,e6,<-AM,Aw]
    refine Be k' (by omega))
   rw [Aw];exact this
 have fin:∀ (n:Nat) (cs:List AV) (us:List Value),br G cs us->cs.length=n*k'->0<n->(Builtin.lenOf v).run P w= .ok n w->(Builtin.firstCells k' n v).run P w.drew= .ok us.toArray w.drew->n*bytes<=140737488355328->n<=9223372036854775807->
   dK P wb G (Builtin.append_ #[t,t2] ty #[u,v]) w (.aN k' n S.n 0) {S with n:=S.n+1,obj:=(S.n,cs)::S.obj}:=by
  intro n cs us b1 b0 b2 b3 b4 b5 b6
  cases hx with
  |slnil=>exact grow n cs us b1 b0 b2 b3 b4 b5 b6 _ 0 rfl rfl
  |sl f hk' hp ho hv hc htok=>
   rename_i r b cap;refine grow n cs us b1 b0 b2 b3 b4 b5 b6 _ cap rfl ?_;have e5:b+([]:List AV).length*k'=b+cap*k':=htok;have:0*k'=cap*k':=by simp at e5 ⊢;omega
   exact (Nat.eq_of_mul_eq_mul_right h3 this).symm
 cases hol:bO y with
 |some n=>
  rw [hol] at he;simp only [Ag,Ac] at he;obtain ⟨cs,hcs,rfl,rfl⟩:=he;simp only [fK,hol] at aL;obtain ⟨us,c1,c2,c3,c4⟩:=nT (P:=P) h hy hol hcs;obtain ⟨_,_,cl,_⟩:=iK (P:=P) h hy (show cq k' S y=some (n,cs) by simp [cq,hol,hcs]) h3;exact fin n cs us c1 cl c2 c3 (c4 w.drew fun _=>rfl) aL.1 aL.2
 |none=>
 rw [hol] at he;simp only [Ar] at he;obtain ⟨ys,hys,he⟩:=he;split at he
 ·simp only [Ae,Ac] at he;obtain ⟨rfl,rfl⟩:=he;obtain ⟨us,hus,hyk,hn,hfc⟩:=fX (P:=P) h hy hys h3
  have hu0:us=[]:=by
   have:=hus.len;simpa using this.symm
  subst hu0
  obtain ⟨base,cap,hu⟩:∃ base cap,u= .slice base 0 cap:=by
   cases hx with
   |slnil _ _ a=>exact ⟨a,0,rfl⟩
   |sl f _ _ _ _ _ _=>exact ⟨_,_,rfl⟩
  subst hu;exact ⟨_,w,G,eY (w':=w) ht hi ht2 hd2 hn (us:= #[]) (by rw [h1];exact hfc w h.prom) (by simp) (fun a _=>by simp [storeCells]) (fun _=>rfl),Gh.le_refl G,h,by simpa using hx⟩
 rename_i a ys;simp only [Ae,Ac] at he;obtain ⟨rfl,rfl⟩:=he;simp only [fK,hol,hys] at aL;obtain ⟨us,hus,hyk,hn,hfc⟩:=fX (P:=P) h hy hys h3;exact fin (ys.length+1) _ us hus (by rw [cO hyk];rfl) (by omega) hn (hfc w.drew (fun r o v e=>h.drew.prom r o v e)) aL.1 aL.2
def ax.kill {wb:aT} {G:Gh} {S:St} {w:World} (h:ax wb G S w) {l r:Nat} (hr:G.σ l=some r):ax wb G (S.set l lu) w:=by
 have hget:∀ l' cs',(S.set l lu).get l'=some cs'->(l'=l/\cs'=lu)∨S.get l'=some cs':=fun l' cs' e=>by
  simp only [St.get,St.set,List.lookup_cons] at e
  by_cases h2:l'=l
  ·subst h2;simp at e;exact .inl ⟨rfl,e.symm⟩
  ·have hb:(l'==l)=false:=by simpa using h2
   rw [hb] at e;exact .inr e
 refine {prom:=h.prom,room:=?_,apart:=?_,obj:=?_,inj:=?_,bT:=h.bT,tok:=h.tok,bQ:=h.bQ,cP:=h.cP,base:=h.base,still:=h.still,cH:=h.cH,beta:=h.beta,cF:=h.cF,bu:=?_,dy:=?_}
 ·intro l' cs' r' g1 g2;rcases hget l' cs' g1 with ⟨rfl,rfl⟩|q
  ·cases g2
  ·exact h.room l' cs' r' q g2
 ·intro l' cs' r' o g1 g2;rcases hget l' cs' g1 with ⟨rfl,rfl⟩|q
  ·cases g2
  ·exact h.apart l' cs' r' o q g2
 ·intro l' cs' g1 g2;rcases hget l' cs' g1 with ⟨rfl,rfl⟩|q
  ·cases g2
  ·exact h.obj l' cs' q g2
 ·intro l1 l2 r' c1 c2 g1 g2 d1 d2;rcases hget l1 c1 g1 with ⟨rfl,rfl⟩|q1
  ·cases d1
  ·rcases hget l2 c2 g2 with ⟨rfl,rfl⟩|q2
   ·cases d2
   ·exact h.inj l1 l2 r' c1 c2 q1 q2 d1 d2
 ·intro l' c g1 g2;rcases hget l' [c] g1 with ⟨rfl,e⟩|q
  ·injection e with e
   subst e;exact ⟨r,hr,trivial⟩
  ·obtain ⟨rb,q1,q2⟩:=h.bu l' c q g2;exact ⟨rb,q1,q2.to (Gh.le_refl G) (fun _=>rfl) fun g _ _ _ hal=>⟨rfl,hal⟩⟩
 ·intro l1 l2 s1 s2 g1 g2
  have key:∀ l' s,(S.set l lu).get l'=some [AV.bu s]->S.get l'=some [.bu s]:=fun l' s g=>by
   rcases hget l' _ g with ⟨_,e⟩|q
   ·injection e with e
    cases e
   ·exact q
  exact h.dy l1 l2 s1 s2 (key _ _ g1) (key _ _ g2)
def FR {P:Program} {wb:aT} {G:Gh} {S S':St} {w:World} (h:ax wb G S w) {t t2 ty:TypeId} {k bytes:Nat} {x y r:AV} {u v:Value} (hx:af G x u) (hy:af G y v)
  (hty:gW P t t2 k bytes=true) (aL:gD k bytes x y) (he:gk k S x y=some (r,S')):dK P wb G (Builtin.append_ #[t,t2] ty #[u,v]) w r S':=by
 unfold gk at he;split at he;rotate_left
 ·refine FT h hx hy hty ?_ he;unfold gD at aL;unfold fK;simpa only [iX,Aw] using aL
 ·cases he
 rename_i k' n l;unfold gW at hty;simp only [Aa] at hty;obtain ⟨hty,hty2⟩:=hty;split at hty;rotate_left
 ·cases hty
 rename_i e ht;split at hty;rotate_left
 ·cases hty
 rename_i i hi;simp only [Aa,beq_iff_eq,decide_eq_true_eq] at hty;obtain ⟨⟨⟨h1,h2⟩,h3⟩,h4⟩:=hty;split at h4;rotate_left
 ·cases h4
 rename_i z hz;have h4:z.cells.size=k:=by simpa using h4
 obtain ⟨d2,ht2,hd2⟩:∃ d2,P.underlying t2=some d2/\(d2= .string∨∃ x,d2= .slice x):=by
  split at hty2
  ·exact ⟨_,‹_›,.inl rfl⟩
  ·exact ⟨_,‹_›,.inr ⟨_,rfl⟩⟩
  ·cases hty2
 simp only [Ar] at he;obtain ⟨⟨m,ys⟩,hsrc,he⟩:=he
 have hobn:(n+m)*bytes<=140737488355328/\n+m<=9223372036854775807:=by
  unfold cq at hsrc;unfold gD at aL;split at hsrc
  ·rename_i hn';rw [hn'] at aL;simp only [Ag,Ac] at hsrc;obtain ⟨_,_,rfl,_⟩:=hsrc;exact aL
  ·rename_i hn';rw [hn'] at aL;simp only [Ag,Ac] at hsrc;obtain ⟨_,e1,rfl,_⟩:=hsrc;rw [e1] at aL;exact aL
 obtain ⟨us,hus,hyl,hn,hfc,hfcd⟩:=iK (P:=P) h hy hsrc h3;have hx0:=hx
 cases hx with
 |aN _ hσ hc hcz=>
 rename_i r0 cap;split at he
 ·rename_i hm0;have hm0:m=0:=hm0;subst hm0;simp only [Ae,Ac] at he;obtain ⟨rfl,rfl⟩:=he
  have hu0:us=[]:=by
   have:=hus.len;rw [hyl] at this;simpa using this.symm
  subst hu0;exact ⟨_,w,G,eY (w':=w) ht hi ht2 hd2 hn (us:= #[]) (by rw [h1];exact hfc) (by omega) (fun a _=>by simp [storeCells]) (fun _=>rfl),Gh.le_refl G,h,hx0⟩
 ·rename_i hm0;have hm0: ¬m=0:=hm0;simp only [Ag,Ac] at he;obtain ⟨cs,hcs,rfl,rfl⟩:=he;obtain ⟨os,hos,hpos,_,hfo⟩:=nT (P:=P) h hx0 rfl hcs;have hcs':=hcs;simp only [bH] at hcs;split at hcs;rotate_left
  ·cases hcs
  rename_i hkk;obtain ⟨rfl,_⟩:=hkk;simp only [Ar] at hcs;obtain ⟨cs0,hg,hcs⟩:=hcs;split at hcs
  ·cases hcs
  rename_i hnb;have hnb:aE cs0=false:=by simpa using hnb
  split at hcs;rotate_left
  ·cases hcs
  rename_i hle;injection hcs with hcs
  rw [BJ] at hcs;have hcsl:cs.length=n*k':=by rw [<-hcs];simp;omega
  have hul:us.length=m*k':=by rw [<-hus.len];exact hyl
  by_cases hroom:n+m<=cap
  ·have hkap:n*k'+m*k'<=G.κ l:=by
    rw [<-AM];refine AH (Be k' hroom) (by omega)
   obtain ⟨G',g1,g2,g3,g4⟩:=h.aaM (m:=n*k') hg hσ hus (by omega) (by rw [hyl];exact hkap) hnb;obtain ⟨_,k2⟩:=h.room l cs0 r0 hg hnb hσ;refine ⟨_,putCells w r0 (n*k') us,G',eY (w':=putCells w r0 (n*k') us) ht hi ht2 hd2 hn (us:=us.toArray) (by rw [h1];exact hfc) hroom (fun a e=>?_) (fun e=>by cases e),g1,?_,?_⟩
   ·injection e with e
    subst e;rw [cE,h1,Aw]
    have:=fj (P:=P) r0 (n*k') us w 0 hus.one (fun j hj=>by
     rw [Nat.add_zero]
     exact k2 (n*k'+j) (by omega))
    simpa using this
   ·rw [hcs] at g4;exact g4
   ·exact .aN k' g2 hroom (by rw [g3];exact hcz)
  ·have hd:=h.drew
   have run:=jj (P:=P) (w:=w) (t:=t) (t2:=t2) (ty:=ty) ht hi hz ht2 hd2 (base:=some ⟨r0,0,none⟩) (sLen:=n) (sCap:=cap) (us:=us.toArray) (os:=os.toArray) hn
    (by rw [h1];exact hfcd) (by rw [h1];exact hfo w.drew fun _=>rfl) hroom (by omega) (by rw [h2];exact hobn.1)
   have hc:n+m<=grownCap w (n+m) cap e:=by simp only [grownCap,Question.cut];omega
   generalize grownCap w (n+m) cap e=c at run hc;have hkl:=hd.kill hσ;obtain ⟨G',g1,g2,g3,g4⟩:=hkl.j9 (E:=e) (rest:=(Builtin.zeroCells z.cells (c-(n+m))).toList) (hos.append hus);refine ⟨_,_,G',run,g1,?_,?_⟩
   ·have e1:(os++us++(Builtin.zeroCells z.cells (c-(n+m))).toList).toArray=os.toArray++us.toArray++Builtin.zeroCells z.cells (c-(n+m)):=by
     apply Aq;simp
    rw [e1] at g4;exact g4
   ·refine .aN k' g2 hc ?_;rw [show (S.set l lu).n=S.n from rfl] at g3;rw [g3];have e5:(Builtin.zeroCells z.cells (c-(n+m))).toList.length=(c-(n+m))*k':=by rw [<-h4,<-gT];exact Array.length_toList
    have e6:(os++us).length=(n+m)*k':=by rw [Ak,<-hos.len,hcsl,hul,AM]
    rw [e5,e6,<-AM,Aw];refine Be k' (by omega)
end Go.V
