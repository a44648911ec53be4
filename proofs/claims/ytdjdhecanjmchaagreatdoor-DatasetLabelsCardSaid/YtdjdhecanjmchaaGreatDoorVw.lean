/- The by-value layer: a loop over a function: its record in the store, its rounds, its statement, and how a function leaves that holds one. Over any program. -/
import Derived.Test.YtdjdhecanjmchaaGreatDoorVr
import Derived.RangeFuncRecord
set_option linter.unusedSimpArgs false
set_option linter.unusedVariables false
namespace Go.V
open Go
theorem hob_inv {wb : Base} {G : Gh} {S : St} {w : World} (h : StRel wb G S w) {k l : Nat} {o : Obj} {ts : List Nat} {vs : List AV} (hk : S.get k = some [.hob l o ts vs]) : G.σ k = some l ∧ w.heap[l]? = some o ∧ notCells o = true ∧ HobF G o ts vs := by
  obtain ⟨r,h1,rfl,h2,h3,h4⟩ := h.bld k _ hk rfl
  exact ⟨h1,h2,h3,h4⟩
theorem cell_ne_hob {w : World} {l r i : Nat} {o : Obj} {v : Value} (ho : w.heap[l]? = some o) (hn : notCells o = true) (hc : w.cell? ⟨r,i,none⟩ = some v) : r ≠ l := by
  rintro rfl
  unfold World.cell? at hc
  rw [show (Addr.mk r i none).block = r from rfl,ho] at hc
  cases o <;> first
    | (simp at hc; done)
    | (simp [notCells] at hn; done)
theorem putObj_cell {w : World} {l : Nat} (o : Obj) {r i : Nat} (h : r ≠ l) : (w.putObj l o).cell? ⟨r,i,none⟩ = w.cell? ⟨r,i,none⟩ ∧ (w.putObj l o).frozen? ⟨r,i,none⟩ = w.frozen? ⟨r,i,none⟩ := by
  have := World.putObj_heap_other (w := w) (o := o) h
  exact ⟨by simp only [World.cell?,this],by simp only [World.frozen?,this]⟩
theorem StRel.putHob {wb : Base} {G : Gh} {S : St} {w : World} (h : StRel wb G S w) {k l : Nat} {o o' : Obj} {ts : List Nat} {vs : List AV} (hk : S.get k = some [.hob l o ts vs]) (ho' : notCells o' = true)
    (hf : HobF G o' ts vs) : StRel wb G (S.set k [.hob l o' ts vs]) (w.putObj l o') := by
  obtain ⟨h1,h2,h3,h4⟩ := hob_inv h hk
  have hd := h.dom k l h1
  have hc : ∀ {r i : Nat} {v : Value},w.cell? ⟨r,i,none⟩ = some v → (w.putObj l o').cell? ⟨r,i,none⟩ = some v ∧ (w.putObj l o').frozen? ⟨r,i,none⟩ = w.frozen? ⟨r,i,none⟩ := fun hv => by
    have hne := cell_ne_hob h2 h3 hv
    exact ⟨(putObj_cell o' hne).1.trans hv,(putObj_cell o' hne).2⟩
  have hget : ∀ {k' cs},isBld cs = false → (S.set k [.hob l o' ts vs]).get k' = some cs → S.get k' = some cs := fun {k' cs} hb e => by
    simp only [St.get,St.set,List.lookup_cons] at e
    split at e
    · injection e with e
      subst e
      cases hb
    · exact e
  refine { prom := fun r o v e => (hc (h.prom r o v e)).1,apart := ?_,obj := ?_,inj := h.inj,dom := fun l r e => by rw [World.putObj_size]; exact h.dom l r e,tok := ?_,tdom := fun t x e => by rw [World.putObj_size]; exact h.tdom t x e,tdis := h.tdis,base := ⟨by rw [World.putObj_size]; exact h.base.1,fun r hr => ?_⟩,pold := h.pold,still := h.still,beta := h.beta,glob := h.glob,bld := ?_,bldu := ?_ }
  · intro k' cs r i hg e
    simp only [St.get,St.set,List.lookup_cons] at hg
    split at hg
    · rename_i hkk
      have : k' = k := by simpa using hkk
      subst this
      exact h.apart _ _ r i hk e
    · exact h.apart k' cs r i hg e
  · intro k' cs hg hb
    obtain ⟨r,hr,hm⟩ := h.obj k' cs (hget hb hg) hb
    refine ⟨r,hr,fun m c hmc => ?_⟩
    obtain ⟨v,a1,a2,a3,a4⟩ := hm m c hmc
    exact ⟨v,(hc a1).1,a2,a3,by rw [(hc a1).2]; exact a4⟩
  · intro t ht
    obtain ⟨r,e,z,a1,a2⟩ := h.tok t ht
    refine ⟨r,e,z,a1,fun i b1 b2 => ?_⟩
    obtain ⟨c1,c2,⟨v,c3⟩,c4,c5⟩ := a2 i b1 b2
    exact ⟨c1,c2,⟨v,(hc c3).1⟩,by rw [(hc c3).2]; exact c4,c5⟩
  · rw [World.putObj_heap_other (by omega)]
    exact h.base.2 r hr
  · intro k' c hg hb
    simp only [St.get,St.set,List.lookup_cons] at hg
    split at hg
    · rename_i hkk
      have : k' = k := by simpa using hkk
      subst this
      simp only [Option.some.injEq,List.cons.injEq,and_true] at hg
      subst hg
      exact ⟨l,h1,rfl,World.putObj_heap_same hd.2.2,ho',hf⟩
    · rename_i hkk
      obtain ⟨r,hr,hs⟩ := h.bld k' c hg hb
      refine ⟨r,hr,hs.to (Gh.le_refl _) (fun _ => World.putObj_heap_other ?_) fun g _ _ _ hal => ⟨World.putObj_heap_other fun e => hal.2.1 k (by rw [h1,e]),hal⟩⟩
      rintro rfl
      have := h.inj _ _ _ hr h1
      subst this
      simp at hkk
  · intro a b s s' ha hb
    have key : ∀ {a s},(S.set k [.hob l o' ts vs]).get a = some [.bld s] → S.get a = some [.bld s] := fun {a s} e => by
      simp only [St.get,St.set,List.lookup_cons] at e
      split at e
      · cases e
      · exact e
    exact h.bldu a b s s' (key ha) (key hb)
theorem StRel.newHob {wb : Base} {G : Gh} {S : St} {w : World} (h : StRel wb G S w) {o : Obj} (ho : notCells o = true) {ts : List Nat} {vs : List AV}
    (hf : HobF G o ts vs) : ∃ G',G.le G' ∧ StRel wb G' { S with n := S.n + 1,obj := (S.n,[.hob w.heap.size o ts vs]) :: S.obj } (w.alloc o) := by
  have hnone : G.σ S.n = none := by
    cases e : G.σ S.n with
    | none => rfl
    | some r => have := (h.dom _ _ e).1; omega
  let G' : Gh := { G with σ := upd G.σ S.n (some w.heap.size) }
  have hle : G.le G' := by
    refine ⟨fun _ _ _ e => e,fun l r e => ?_,fun _ _ e => e,rfl⟩
    have : l ≠ S.n := fun e' => by rw [e',hnone] at e; cases e
    simp [G',upd,this,e]
  have ha := h.alloc o
  have hφ : ∀ i,G.φ w.heap.size i = none := fun i => by
    cases e : G.φ w.heap.size i with
    | none => rfl
    | some v => have := h.lt e; omega
  have hget : ∀ {k' cs},k' ≠ S.n → List.lookup k' ((S.n,[AV.hob w.heap.size o ts vs]) :: S.obj) = some cs → S.get k' = some cs := fun {k' cs} hne e => by
    have hb : (k' == S.n) = false := by simpa using hne
    rw [List.lookup_cons,hb] at e
    exact e
  have hnew : ∀ {cs},List.lookup S.n ((S.n,[AV.hob w.heap.size o ts vs]) :: S.obj) = some cs → cs = [AV.hob w.heap.size o ts vs] := fun {cs} e => by
    rw [List.lookup_cons,beq_self_eq_true] at e
    exact (Option.some.inj e).symm
  have hσ : ∀ {l r},l ≠ S.n → G'.σ l = some r → G.σ l = some r := fun {l r} hl e => by simpa only [G',upd,hl,if_false] using e
  have hσn : ∀ {r},G'.σ S.n = some r → r = w.heap.size := fun {r} e => by simp only [G',upd_same] at e; exact (Option.some.inj e).symm
  refine ⟨G',hle,{ prom := ha.prom,apart := ?_,obj := ?_,inj := ?_,dom := ?_,tok := ?_,tdom := ha.tdom,tdis := ha.tdis,base := ha.base,still := ha.still,pold := ha.pold,beta := ha.beta,glob := ?_,bld := ?_,bldu := ?_ }⟩
  · intro k' cs r i hg e
    by_cases hl : k' = S.n
    · subst hl
      rw [hσn e]
      exact hφ i
    · exact h.apart k' cs r i (hget hl hg) (hσ hl e)
  · intro k' cs hg hb
    by_cases hl : k' = S.n
    · subst hl
      rw [hnew hg] at hb
      cases hb
    · obtain ⟨r,hr,hm⟩ := ha.obj k' cs (hget hl hg) hb
      exact ⟨r,hle.σ _ _ hr,fun m c hmc => by obtain ⟨v,a1,a2,a3,a4⟩ := hm m c hmc; exact ⟨v,a1,a2.mono hle,a3,a4⟩⟩
  · intro a b r ea eb
    by_cases h1 : a = S.n <;> by_cases h2 : b = S.n
    · rw [h1,h2]
    · subst h1
      have e1 := hσn ea
      have := (h.dom _ _ (hσ h2 eb)).2.2
      omega
    · subst h2
      have e1 := hσn eb
      have := (h.dom _ _ (hσ h1 ea)).2.2
      omega
    · exact h.inj _ _ _ (hσ h1 ea) (hσ h2 eb)
  · intro a r ea
    by_cases h1 : a = S.n
    · subst h1
      have e1 := hσn ea
      have := h.base.1
      simp
      omega
    · have := h.dom _ _ (hσ h1 ea)
      simp
      omega
  · intro t ht
    obtain ⟨r,e,z,a1,a2⟩ := ha.tok t ht
    refine ⟨r,e,z,a1,fun i b1 b2 => ?_⟩
    obtain ⟨c1,c2,c3⟩ := a2 i b1 b2
    refine ⟨c1,fun a ea => ?_,c3⟩
    by_cases hl : a = S.n
    · subst hl
      have e1 := hσn ea
      have := (h.tdom t _ a1).2 (by show e < z; omega)
      simp only at this
      omega
    · exact c2 a (hσ hl ea)
  · intro g cs hg m c hmc
    obtain ⟨v,a1,a2,a3⟩ := ha.glob g cs hg m c hmc
    exact ⟨v,a1,a2.mono hle,a3⟩
  · intro k' c hg hb
    by_cases hl : k' = S.n
    · subst hl
      have := hnew hg
      simp only [List.cons.injEq,and_true] at this
      subst this
      exact ⟨w.heap.size,by simp [G'],rfl,World.alloc_heap_new w o,ho,hf.mono hle⟩
    · obtain ⟨r,hr,hs⟩ := h.bld k' c (hget hl hg) hb
      refine ⟨r,hle.σ _ _ hr,hs.to hle (fun hlt => alloc_heap_lt _ _ hlt) fun g hg' _ _ hal => ⟨alloc_heap_lt _ _ hg',hal.1,fun a ea => ?_,hal.2.2⟩⟩
      by_cases ha' : a = S.n
      · subst ha'
        have := hσn ea
        omega
      · exact hal.2.1 a (hσ ha' ea)
  · intro a b s s' h1 h2
    have key : ∀ {a s},List.lookup a ((S.n,[AV.hob w.heap.size o ts vs]) :: S.obj) = some [AV.bld s] → S.get a = some [.bld s] := fun {a s} e => by
      by_cases hl : a = S.n
      · subst hl
        cases hnew e
      · exact hget hl e
    exact h.bldu a b s s' (key h1) (key h2)
theorem MRun.begin {P : Program} {n : Nat} {k : List MI} {D : Dfs} {F : Fr} {S : St} {Q : EndQ} {kk l : Nat} {L : Loop} {ts : List Nat} {vs : List AV} (hS : S.get kk = some [.hob l (.loop L) ts vs]) (hr : L.state = .ready)
    (h : MRun P n k D F (S.set kk [.hob l (.loop { L with state := .busy }) ts vs]) Q) : MRun P n (.begin l :: k) D F S Q := by
  intro wb G w a b cs todo hb hf hR
  rw [okRs_cons,Bool.and_eq_true] at hb
  obtain ⟨i,is,rfl,h1,h2⟩ := todo_cons hf
  have hro : b.roundOf = some l := by simpa [MI.okR] using hb.1
  obtain ⟨g1,g2,g3,g4⟩ := hob_inv hR.st hS
  cases i <;> first
    | exact h1.elim
    | skip
  obtain ⟨e,a',w',G',F',S',D',av,q1,q2,q3,q4⟩ := h wb G (w.putObj l (.loop { L with state := .busy })) a b cs is hb.2 h2 ⟨hR.st.putHob hS rfl g4,hR.fr,hR.sz,hR.df⟩
  exact ⟨e,a',w',G',F',S',D',av,q1,q2,q3.of_steps (.one (stepR_beginRound hro (run_beginRound g2 hr))),q4⟩
def putPs : List Nat → List AV → Fr → Fr
  | p :: ps,v :: vs,F => putPs ps vs ((p,v) :: F)
  | _,_,F => F
theorem FRel.putPs {G : Gh} : ∀ {ps : List Nat} {as : List AV} {us : List Value} {F : Fr} {tm : Array Value},FRel G F { tmps := tm,defers := [] } → (∀ p ∈ ps,p < tm.size) → VRels G as us → as.length = ps.length →
    FRel G (putPs ps as F) { tmps := (ps.zip us).foldl (fun t (p,v) => t.setIfInBounds p v) tm,defers := [] } ∧ ((ps.zip us).foldl (fun t (p,v) => t.setIfInBounds p v) tm).size = tm.size
  | [],[],us,F,tm,h,_,_,_ => by simpa [Go.V.putPs] using h
  | p :: ps,v :: as,us,F,tm,h,hp,hv,hl => by
    cases us with
    | nil => have := hv.len; cases this
    | cons u us =>
      have h1 := h.put (d := some p) (r := v) (v := u) (by simpa using hp p (by simp)) (hv.rel 0 v u rfl rfl)
      have h2 := FRel.putPs (ps := ps) (as := as) (us := us) (F := (p,v) :: F) (tm := tm.setIfInBounds p u) ⟨h1.rel⟩ (fun q hq => by simpa using hp q (by simp [hq])) ⟨by simpa using hv.len,fun m c x a b => hv.rel (m + 1) c x (by simpa using a) (by simpa using b)⟩ (by simpa using hl)
      simpa [Go.V.putPs] using h2
  | [],_ :: _,_,_,_,_,_,_,hl => by cases hl
  | _ :: _,[],_,_,_,_,_,_,hl => by cases hl
theorem zip_unzip (F : Fr) : (F.map Prod.fst).zip (F.map Prod.snd) = F := by
  induction F with
  | nil => rfl
  | cons p F ih => simp [ih]
def rndQ (kk l : Nat) (L : Loop) (ts : List Nat) (vs : List AV) (K : Out → St → Prop) : EndQ := fun e _ _ S2 => e = none ∧ S2.get kk = some [.hob l (.loop { L with state := .busy }) ts vs] ∧ K (.ok (.bool true)) (S2.set kk [.hob l (.loop L) ts vs])
theorem MYield.of {P : Program} {n : Nat} {kk l : Nat} {L : Loop} {F : Fr} {ps : List Nat} {a b : MC} {as : List AV} {S : St} {K : Out → St → Prop} (hr : L.state = .ready) (hp : L.pending = none) (hps : L.params.toList = ps) (hsz : L.tmps.size = n)
    (hpn : ∀ p ∈ ps,p < n) (hfa : a.fits P n L.assign = true) (hfb : b.fits P n L.body = true) (hoa : a.okR (some l) = true) (hob : b.okR (some l) = true) (hlen : as.length = ps.length)
    (hS : S.get kk = some [.hob l (.loop L) (F.map Prod.fst) (F.map Prod.snd)]) (h : MRun P n [.code a,.begin l,.code b] [] (putPs ps as F) S (rndQ kk l L (F.map Prod.fst) (F.map Prod.snd) K)) : MYield P l as S K := by
  intro wb G w vs hSt hv
  obtain ⟨g1,g2,g3,g4'⟩ := hob_inv hSt hS
  have g4 : ∀ t v,F.lookup t = some v → t < L.tmps.size ∧ VRel G v (L.tmps.getD t undef) := fun t v e => g4' t v (by rw [zip_unzip]; exact e)
  have hvl := hv.len
  have hargs : vs.toArray.size = L.params.size := by
    have : L.params.size = ps.length := by rw [← hps]; simp
    simp
    omega
  obtain ⟨tm,htm⟩ : ∃ tm,tm = (L.params.zip vs.toArray).foldl (fun tmps (t,a) => tmps.setIfInBounds t a) L.tmps := ⟨_,rfl⟩
  have htm2 : tm = (ps.zip vs).foldl (fun t (p,v) => t.setIfInBounds p v) L.tmps := by
    rw [htm,← hps,← Array.foldl_toList,Array.toList_zip]
  have hy := run_yield (P := P) g2 hargs
  rw [← htm] at hy
  refine ⟨L.fn,tm,L.assign,L.body,hy,trivial,fun c cs _ => ?_⟩
  let fr : Frame := { (default : Frame) with fn := L.fn,kind := .normal,roundOf := some l }
  have hb0 : Frame.round l L.fn tm L.assign L.body .normal = fr.atR { tmps := tm,defers := [] } [.code L.assign,.beginRound,.code L.body] := by
    simp [Frame.round,Frame.atR,fr]
  obtain ⟨hf1,hf2⟩ := FRel.putPs (G := G) (ps := ps) (as := as) (us := vs) (F := F) (tm := L.tmps) ⟨fun t v e => g4 t v e⟩ (fun p hp => by rw [hsz]; exact hpn p hp) hv hlen
  rw [← htm2] at hf1 hf2
  obtain ⟨e,a',w',G',F',S',D',av,q1,q2,q3,q4,q5⟩ := h wb G w { tmps := tm,defers := [] } fr (c :: cs) [.code L.assign,.beginRound,.code L.body]
    (by simp [okRs,MI.okR,fr,hoa,hob]) ⟨hfa,trivial,hfb,trivial⟩ ⟨hSt,hf1,by rw [← hsz]; exact hf2,trivial⟩
  obtain ⟨rfl,k1,k2⟩ := q5
  cases e with
  | some v => exact q4.elim
  | none =>
    have hst := q3.2 rfl
    rw [← hb0] at hst
    obtain ⟨m1,m2,m3,m4⟩ := hob_inv q2.st k1
    have hend := run_endRound (P := P) none m2
    have hL : ({ ({ L with state := LoopState.busy } : Loop) with state := LoopState.ready,pending := none } : Loop) = L := by
      cases L
      simp only at hr hp
      subst hr hp
      rfl
    simp only [Option.isNone_none,if_true] at hend
    rw [hL] at hend
    refine ⟨.returned (.bool true),w'.putObj l (.loop L),⟨G',S'.set kk [.hob l (.loop L) (F.map Prod.fst) (F.map Prod.snd)],q1,q2.st.putHob k1 rfl m4,.bool true,.bool true,k2⟩,?_⟩
    exact comesIn_wide.2 (show Comes P _ _ _ from hst.trans (.one (stepR_round_end rfl rfl hend)))
def markD (d : Nat) : Fn × List AV × List AV := (.yield d,[],[.hob d (.deferred none) [] []])
theorem MRun.rfn {P : Program} {n : Nat} {k : List MI} {D : Dfs} {F : Fr} {S : St} {Q : EndQ} {g : Opd} {ps : List Nat} {a b : MC} {gf : FuncId} {caps : List AV} (hg : g.ev F = .fn (.func gf) [] caps) (hc : ∀ (args : Array Value) (w : World),(callFunc gf args).run P w = .ok (.enter gf args) w)
    (hoa : ∀ l,a.okR (some l) = true) (hob : ∀ l,b.okR (some l) = true)
    (h : ∀ (d l : Nat) (L : Loop),(∀ (as : List AV) (S' : St) (K : Out → St → Prop),as.length = ps.length → S'.get (S.n + 1) = some [.hob l (.loop L) (F.map Prod.fst) (F.map Prod.snd)] →
        MRun P n [.code a,.begin l,.code b] [] (putPs ps as F) S' (rndQ (S.n + 1) l L (F.map Prod.fst) (F.map Prod.snd) K) → MYield P l as S' K) → L.state = .ready →
      MCalls P gf (.fn (.yield l) [] [] :: caps) { S with n := S.n + 1 + 1,obj := (S.n + 1,[.hob l (.loop L) (F.map Prod.fst) (F.map Prod.snd)]) :: (S.n,[.hob d (.deferred (some [])) [] []]) :: S.obj }
        (fun o S2 => (∃ r,o = .ok r) ∧ S2.get (S.n + 1) = some [.hob l (.loop L) (F.map Prod.fst) (F.map Prod.snd)] ∧ MRun P n k (markD d :: D) F (S2.set (S.n + 1) [.hob l (.loop { L with state := .exhausted }) (F.map Prod.fst) (F.map Prod.snd)]) Q)) :
    MRun P n (.code (.rfn g ps a b) :: k) D F S Q := by
  intro wb G w ac fr cs todo hb hf hR
  have hbn : fr.roundOf = none := by
    cases e : fr.roundOf with
    | none => rfl
    | some l => rw [e] at hb; cases hb
  have hb' : okRs fr.roundOf k = true := by rw [okRs_cons,Bool.and_eq_true] at hb; exact hb.2
  obtain ⟨i,is,rfl,h1,h2⟩ := todo_cons hf
  obtain ⟨c,rfl,h3⟩ := code_fits h1
  cases c <;> simp only [MC.fits] at h3 <;> first
    | (cases h3; done)
    | skip
  rename_i g' ps' a' b'
  simp only [Bool.and_eq_true,decide_eq_true_eq,List.all_eq_true] at h3
  obtain ⟨f1,rfl,f3,f4,f5⟩ := h3
  have hgv := Opd.rel hR.fr f1
  rw [hg] at hgv
  generalize hge : ac.eval g' = gv at hgv
  cases hgv
  rename_i vs ws l1 r1 l2 r2
  obtain rfl := List.eq_nil_of_length_eq_zero l1.symm
  obtain ⟨L,hL⟩ : ∃ L : Loop,L = { state := .ready,pending := none,fn := fr.fn,tmps := ac.tmps,params := ps',assign := a',body := b',defers := w.heap.size } := ⟨_,rfl⟩
  obtain ⟨G1,g1,s1⟩ := hR.st.newHob (o := .deferred (some [])) (ts := []) (vs := []) rfl trivial
  have hfL : HobF G1 (.loop L) (F.map Prod.fst) (F.map Prod.snd) := fun t v e => by
    rw [zip_unzip] at e
    obtain ⟨e1,e2⟩ := hR.fr.rel t v e
    subst hL
    exact ⟨e1,e2.mono g1⟩
  obtain ⟨G2,g2,s2⟩ := s1.newHob (o := .loop L) (ts := F.map Prod.fst) (vs := F.map Prod.snd) rfl hfL
  have hsz1 : (w.alloc (.deferred (some []))).heap.size = w.heap.size + 1 := by simp
  rw [hsz1] at s2
  have he := run_enterLoop_outer (P := P) (w := w) fr.fn ac.tmps ps' a' b'
  rw [← hL] at he
  obtain ⟨w1,hw1⟩ : ∃ w1,w1 = (w.alloc (.deferred (some []))).alloc (.loop L) := ⟨_,rfl⟩
  rw [← hw1] at he s2
  have hres : (resolve ac.eval (rangeCall g' (w.heap.size + 1)) 0).run P w1 = .ok { target := .fn (.func gf) ws.toArray,args := #[.func (.yield (w.heap.size + 1)) #[] #[]] } w1 := by
    simp only [resolve,hge]
    simp [go_sem]
  have hinv : (invoke (.fn (.func gf) ws.toArray) #[.func (.yield (w.heap.size + 1)) #[] #[]]).run P w1 = .ok (.enter gf (Value.func (.yield (w.heap.size + 1)) #[] #[] :: ws).toArray) w1 := by
    simp [invoke,go_sem,hc]
  rw [← hbn] at he
  have henter := stepR_rangeFunc (P := P) (b := fr) (a := ac) (k := is) (cs := cs) (w := w) he hres hinv
  have hy : VRel G2 (.fn (.yield (w.heap.size + 1)) [] []) (.func (.yield (w.heap.size + 1)) #[] #[]) := VRel.fn (G := G2) (.yield (w.heap.size + 1)) (first := []) (caps := []) (vs := []) (ws := []) rfl rfl (by simp) (by simp)
  have hle := Gh.le_trans g1 g2
  have hargs : VRels G2 (.fn (.yield (w.heap.size + 1)) [] [] :: caps) (.func (.yield (w.heap.size + 1)) #[] #[] :: ws) :=
    VRels.append (as := [.fn (.yield (w.heap.size + 1)) [] []]) (vs := [.func (.yield (w.heap.size + 1)) #[] #[]]) ⟨rfl,fun m c v e1 e2 => by
      match m with
      | 0 => simp at e1 e2; subst e1; subst e2; exact hy
      | m + 1 => simp at e1⟩ (VRels.mono hle ⟨l2,r2⟩)
  have hcall := h w.heap.size (w.heap.size + 1) L (fun as S' K hlen hS' hrun => MYield.of (by rw [hL]) (by rw [hL]) (by rw [hL]) (by rw [hL]; exact hR.sz) f3 (by rw [hL]; exact f4) (by rw [hL]; exact f5) (hoa _) (hob _) hlen hS' hrun) (by rw [hL]) wb G2 w1 _ s2 hargs
  unfold Invk at hcall
  rw [hc] at hcall
  obtain ⟨e,w2,fr2,⟨G3,S3,q1,q2,q3⟩,hsteps,_,hleave⟩ := hcall (fr.atR { ac with defers := [{ target := .collected w.heap.size,args := #[] }] ++ ac.defers } (.inRangeFunc (w.heap.size + 1) :: is) :: cs)
  cases e with
  | outgrown => exact q3.elim
  | panicked ch => obtain ⟨_,_,_,_,⟨r,hr⟩,_⟩ := q3; cases hr
  | returned v =>
    obtain ⟨r,_,_,k1,k2⟩ := q3
    obtain ⟨m1,m2,m3,m4⟩ := hob_inv q2 k1
    have hend : (Instr.endLoop (w.heap.size + 1)).run P w2 = .ok none (w2.putObj (w.heap.size + 1) (.loop { L with state := .exhausted })) :=
      (run_endLoop (P := P) m2 (by rw [hL]; simp)).trans (congrArg (fun x => Result.ok x (w2.putObj (w.heap.size + 1) (.loop { L with state := .exhausted }))) (show L.pending = none by rw [hL]))
    have sback : Steps P (lone (fr.atR ac (.code (.rangeFunc g' ps' a' b') :: is)) cs w) (lone (fr.atR { ac with defers := [{ target := .collected w.heap.size,args := #[] }] ++ ac.defers } is) cs (w2.putObj (w.heap.size + 1) (.loop { L with state := .exhausted }))) := by
      refine .head henter (Steps.trans hsteps (.head ?_ (.one (stepR_endRangeFunc hend))))
      rw [← finish_atR_inRangeFunc (w.heap.size + 1) v]
      exact step_leave_returned hleave
    have hle3 := Gh.le_trans hle q1
    obtain ⟨e,a2,w3,G4,F4,S4,D4,av,p1,p2,p3,p4⟩ := k2 wb G3 _ { ac with defers := [{ target := .collected w.heap.size,args := #[] }] ++ ac.defers } fr cs is hb' h2
      ⟨q2.putHob k1 rfl m4,⟨(hR.fr.mono hle3).rel⟩,hR.sz,⟨.inr ⟨_,rfl,rfl,rfl,rfl⟩,hR.df.mono hle3⟩⟩
    exact ⟨e,a2,w3,G4,F4,S4,D4,av,Gh.le_trans hle3 p1,p2,p3.of_steps sback,p4⟩
theorem hob_none {G : Gh} {l : Nat} {o : Obj} {ts : List Nat} {vs : List AV} {u : Value} (h : VRel G (.hob l o ts vs) u) : False := by cases h
def marks : Dfs → St → (St → Prop) → Prop
  | [],S,k => k S
  | (.yield d,_,[.hob _ _ _ _]) :: D,S,k => ∃ kk ts vs,S.get kk = some [.hob d (.deferred (some [])) ts vs] ∧ marks D (S.set kk [.hob d (.deferred none) ts vs]) k
  | _,_,_ => False
theorem marks_steps {P : Program} {wb : Base} {G : Gh} {cs : List Frame} {k : St → Prop} : ∀ (D : Dfs) (S : St) (w : World) (ds : List Deferred),StRel wb G S w → DRel G D ds → marks D S k →
    ∃ S' w',StRel wb G S' w' ∧ k S' ∧ ∀ fr : Frame,fr.mode = .returning → fr.defers = ds → Steps P (lone fr cs w) (lone { fr with defers := [] } cs w')
  | [],S,w,ds,hS,hD,h => by
    cases ds with
    | cons _ _ => exact hD.elim
    | nil => exact ⟨S,w,hS,h,fun fr _ hd => by rw [← hd]; exact .refl _ _⟩
  | (f,as,caps) :: D,S,w,ds,hS,hD,h => by
    cases ds with
    | nil => exact hD.elim
    | cons d ds =>
      unfold marks at h
      split at h
      · rename_i he
        cases he
      · rename_i r _ _ _ _ _ D' he
        simp only [List.cons.injEq,Prod.mk.injEq] at he
        obtain ⟨⟨rfl,rfl,rfl⟩,rfl⟩ := he
        obtain ⟨kk,ts,vs,h1,h2⟩ := h
        obtain ⟨g1,g2,g3,g4⟩ := hob_inv hS h1
        obtain ⟨hd,hD⟩ := hD
        have hd : d = { target := .collected r,args := #[] } := by
          rcases hd with ⟨us,ws,e1,_,e3⟩ | ⟨r',e1,_,_,e2⟩
          · have := e3.len
            match ws,this with
            | [u],_ => exact (hob_none (e3.rel 0 _ u rfl rfl)).elim
          · cases e1
            exact e2
        have htk := run_takeDeferred (P := P) g2
        obtain ⟨S',w',q1,q2,q3⟩ := marks_steps (cs := cs) D _ (w.putObj r (.deferred none)) ds (hS.putHob h1 (o' := .deferred none) rfl trivial) hD h2
        refine ⟨S',w',q1,q2,fun fr hm hf => ?_⟩
        have h3 := step_collected (cs := cs) (fr := fr) (by rw [hm]; simp) hf (by rw [hd]) htk
        rw [List.nil_append] at h3
        exact .head h3 (q3 { fr with defers := ds } hm rfl)
      · exact h.elim
def endQM (rs : List RV) (K : Out → St → Prop) : EndQ := fun e D F S => e = none ∧ marks D S (fun S' => match rvsEv F S' rs with
  | some vs => K (.ok (resOf vs)) S'
  | none => False)
theorem MCalls.of_runM {P : Program} {f : FuncId} {n : Nat} {m : MC} {rs : List RV} (hf : FnIs P f n m rs) {as : List AV} (hlen : as.length ≤ n) {S : St} {K : Out → St → Prop} (h : MRun P n [.code m] [] (argF 0 as) S (endQM rs K)) : MCalls P f as S K := by
  intro wb G w vs hS hv
  obtain ⟨fn,c,h1,h3,h4,h5,h6⟩ := hf.is
  unfold Invk
  rw [hf.call]
  intro cs
  let b : Frame := { (default : Frame) with fn := f,kind := .normal,roundOf := none }
  let a : Act := { tmps := vs.toArray ++ Array.replicate (n - vs.toArray.size) undef,defers := [] }
  have henter : Frame.enter P f vs.toArray .normal = b.atR a [.code c] := by
    simp [Frame.enter,Frame.atR,h1,h3,h4,b,a]
  obtain ⟨e,a',w',G',F',S',D',av,g1,g2,g3,g4,rfl,g5⟩ := h wb G w a b cs [.code c] (by rw [okRs_cons]; simp only [MI.okR,b,MC.okR_none]; rfl) ⟨h5,trivial⟩ (rel_start hS hv hlen)
  rw [← henter] at g3
  cases e with
  | some v => exact g4.elim
  | none =>
    obtain ⟨todo,g8⟩ := g3.1 rfl
    obtain ⟨S2,w2,q1,q2,q3⟩ := marks_steps (P := P) (cs := cs) D' S' w' a'.defers g2.st g2.df g5
    split at q2
    · rename_i us hus
      have hR2 : Rel wb n G' S2 F' [] w2 { a' with defers := [] } := ⟨q1,⟨g2.fr.rel⟩,g2.sz,trivial⟩
      obtain ⟨u,g6,g7⟩ := run_results (P := P) hR2 h6 hus
      exact ⟨.returned u,w2,_,⟨G',S2,g1,q1,_,g7,q2⟩,Steps.trans g8 (q3 _ rfl rfl),rfl,rfl,rfl,rfl,fn,h1,g6⟩
    · exact q2.elim
end Go.V
