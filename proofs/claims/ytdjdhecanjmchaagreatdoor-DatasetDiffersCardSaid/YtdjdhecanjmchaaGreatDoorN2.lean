/- A slice that was written in place is written no more: it becomes a value. -/
import Derived.Test.YtdjdhecanjmchaaGreatDoorW1
import Derived.Test.YtdjdhecanjmchaaGreatDoorFa
import Derived.Test.YtdjdhecanjmchaaGreatDoorFb
import Derived.Test.YtdjdhecanjmchaaGreatDoorFc
import Derived.Test.YtdjdhecanjmchaaGreatDoorHa
import Derived.Test.YtdjdhecanjmchaaGreatDoorRa
import Derived.Test.YtdjdhecanjmchaaGreatDoorEB
import Derived.Test.YtdjdhecanjmchaaGreatDoorN1
import Derived.Test.YtdjdhecanjmchaaGreatDoorD3
set_option linter.unusedSimpArgs false
set_option linter.unusedVariables false
namespace Go.Proofs.YtdjdhecanjmchaaGreatDoor
open Go Go.V Go.Lib
set_option maxRecDepth 40000
variable {gl : List (Nat × List AV)}
def Fz (l k : Nat) (xs : List AV) (c c' : AV) : Prop := c' = c ∨ (c = .osl k xs.length l ∧ c' = .sl k xs .unk)
theorem Fz.refl {l k : Nat} {xs : List AV} (c : AV) : Fz l k xs c c := .inl rfl
theorem Fz.the {l k : Nat} {xs : List AV} : Fz l k xs (.osl k xs.length l) (.sl k xs .unk) := .inr ⟨rfl,rfl⟩
theorem fz_nil {l k : Nat} {xs : List AV} : ∀ t c',List.lookup t ([] : List (Nat × AV)) = some c' → ∃ c,List.lookup t ([] : List (Nat × AV)) = some c ∧ Fz l k xs c c' := fun t c' e => by cases e
theorem fz_cons {l k s : Nat} {xs : List AV} {c c' : AV} {F F' : List (Nat × AV)} (h : Fz l k xs c c') (ih : ∀ t c',List.lookup t F' = some c' → ∃ c,List.lookup t F = some c ∧ Fz l k xs c c') :
    ∀ t d',List.lookup t ((s,c') :: F') = some d' → ∃ d,List.lookup t ((s,c) :: F) = some d ∧ Fz l k xs d d' := fun t d' e => by
  simp only [List.lookup_cons] at e ⊢
  split at e
  · injection e with e
    subst e
    exact ⟨c,rfl,h⟩
  · exact ih t d' e
theorem StRel.freeze {wb : Base} {G : Gh} {n nt l k : Nat} {ob ob' : List (Nat × List AV)} {live : List Nat} {w : World} {xs : List AV} (h : StRel wb G ⟨n,ob,nt,live,gl⟩ w)
    (hl : List.lookup l ob = some (flat xs)) (hb : isBld (flat xs) = false) (hk : ∀ x ∈ xs,x.cells.length = k)
    (ho : ∀ l' cs',List.lookup l' ob' = some cs' → l' ≠ l ∧ isBld cs' = false ∧ ∃ cs,List.lookup l' ob = some cs ∧ isBld cs = false ∧ ∀ (m : Nat) (c' : AV),cs'[m]? = some c' → ∃ c,cs[m]? = some c ∧ Fz l k xs c c') :
    ∃ G',G.le G' ∧ StRel wb G' ⟨n,ob',nt,live,gl⟩ w ∧ ∀ c c' v,Fz l k xs c c' → VRel G c v → VRel G' c' v := by
  obtain ⟨r,hr,hc⟩ := h.obj l _ hl hb
  have hap : ∀ o,G.φ r o = none := fun o => h.apart l _ r o hl hr
  let f : Nat → Value := fun m => (w.cell? ⟨r,m,none⟩).getD undef
  have hf : ∀ (m : Nat) (c : AV),(flat xs)[m]? = some c → w.cell? ⟨r,m,none⟩ = some (f m) ∧ VRel G c (f m) ∧ (f m).oneCell' = true := fun m c e => by
    obtain ⟨v,h1,h2,h3,_⟩ := hc m c e
    have : f m = v := by simp [f,h1]
    rw [this]
    exact ⟨h1,h2,h3⟩
  let G' : Gh := { G with φ := fun r' o => if r' = r ∧ o < (flat xs).length then some (f o) else G.φ r' o }
  have hle : G.le G' := by
    refine ⟨fun r' o v e => ?_,fun _ _ e => e,fun _ _ e => e,rfl⟩
    have : ¬ (r' = r ∧ o < (flat xs).length) := fun ⟨h1,_⟩ => by subst h1; rw [hap o] at e; cases e
    simp only [G',this,if_false]
    exact e
  have hval : ∀ c c' v,Fz l k xs c c' → VRel G c v → VRel G' c' v := by
    rintro c c' v (rfl | ⟨rfl,rfl⟩) hv
    · exact hv.mono hle
    · cases hv with
      | osl _ h1 h2 =>
        have e : _ = r := Option.some.inj (h1.symm.trans hr)
        subst e
        refine .sl f hk (fun m c e => ?_) (fun m c e => (hf m c e).2.2) (fun m c e => (hf m c e).2.1.mono hle) h2 trivial
        have hm : m < (flat xs).length := by
          rcases Nat.lt_or_ge m (flat xs).length with h' | h'
          · exact h'
          · rw [List.getElem?_eq_none h'] at e; cases e
        simp only [G',Nat.zero_add,hm,and_self,if_true]
  refine ⟨G',hle,?_,hval⟩
  have hout : ∀ r' o,r' ≠ r → G'.φ r' o = G.φ r' o := fun r' o e => by simp only [G',e,false_and,if_false]
  refine { prom := ?_,apart := ?_,obj := ?_,inj := h.inj,dom := h.dom,tok := ?_,tdom := h.tdom,tdis := h.tdis,base := h.base,pold := ?_,still := h.still,beta := h.beta,glob := ?_,bld := ?_,bldu := ?_ }
  · intro r' o v e
    by_cases hx : r' = r ∧ o < (flat xs).length
    · simp only [G',hx,and_self,if_true] at e
      injection e with e
      subst e
      obtain ⟨rfl,hx⟩ := hx
      exact (hf o _ (List.getElem?_eq_getElem hx)).1
    · simp only [G',hx,if_false] at e
      exact h.prom r' o v e
  · intro l' cs r' o e1 e2
    obtain ⟨h1,_,cs0,h2,_⟩ := ho l' cs e1
    have hne : r' ≠ r := fun e => by subst e; exact h1 (h.inj _ _ _ e2 hr)
    rw [hout _ _ hne]
    exact h.apart l' cs0 r' o h2 e2
  · intro l' cs e1 _
    obtain ⟨_,_,cs0,h2,h3,h4⟩ := ho l' cs e1
    obtain ⟨r',hr',h5⟩ := h.obj l' cs0 h2 h3
    refine ⟨r',hr',fun m c hm => ?_⟩
    obtain ⟨c0,h6,h7⟩ := h4 m c hm
    obtain ⟨v,h8,h9,h10⟩ := h5 m c0 h6
    exact ⟨v,h8,hval _ _ _ h7 h9,h10⟩
  · intro t ht
    obtain ⟨r',e,z,h1,h2⟩ := h.tok t ht
    refine ⟨r',e,z,h1,fun o h3 h4 => ?_⟩
    obtain ⟨h5,h6,h7,h8,h9⟩ := h2 o h3 h4
    exact ⟨h5,h6,h7,h8,by rw [hout _ _ (fun e => by subst e; exact h6 _ hr)]; exact h9⟩
  · intro r' o v hlt e
    have hne : r' ≠ r := fun e => by subst e; have := (h.dom _ _ hr).2.1; omega
    rw [hout _ _ hne] at e
    exact h.pold r' o v hlt e
  · intro g cs hg m c hm
    obtain ⟨v,h1,h2,h3⟩ := h.glob g cs hg m c hm
    exact ⟨v,hle.φ _ _ _ h1,h2.mono hle,h3⟩
  · intro l' s e
    have := (ho l' _ e).2.1
    simp [isBld] at this
  · intro l' l2 s s' e
    have := (ho l' _ e).2.1
    simp [isBld] at this
theorem MRun.freeze {P : Program} {nn n nt l k : Nat} {K : List MI} {F F' : Fr} {Q : EndQ} {ob ob' : List (Nat × List AV)} {live : List Nat} {xs : List AV} (h : MRun P nn K [] F' ⟨n,ob',nt,live,gl⟩ Q)
    (hl : List.lookup l ob = some (flat xs)) (hb : isBld (flat xs) = false) (hk : ∀ x ∈ xs,x.cells.length = k)
    (ho : ∀ l' cs',List.lookup l' ob' = some cs' → l' ≠ l ∧ isBld cs' = false ∧ ∃ cs,List.lookup l' ob = some cs ∧ isBld cs = false ∧ ∀ (m : Nat) (c' : AV),cs'[m]? = some c' → ∃ c,cs[m]? = some c ∧ Fz l k xs c c')
    (hF : ∀ t c',List.lookup t F' = some c' → ∃ c,List.lookup t F = some c ∧ Fz l k xs c c') : MRun P nn K [] F ⟨n,ob,nt,live,gl⟩ Q := by
  intro wb G w a b cs todo hf hR
  obtain ⟨G',h1,h2,h3⟩ := StRel.freeze hR.st hl hb hk ho
  obtain ⟨e,a',w',G2,F2,S2,D2,av,h4,h5⟩ := h wb G' w a b cs todo hf ⟨h2,⟨fun t v e => by
    obtain ⟨c,h6,h7⟩ := hF t v e
    obtain ⟨h8,h9⟩ := hR.fr.rel t c h6
    exact ⟨h8,h3 _ _ _ h7 h9⟩⟩,hR.sz,hR.df.mono h1⟩
  exact ⟨e,a',w',G2,F2,S2,D2,av,Gh.le_trans h1 h4,h5⟩
end Go.Proofs.YtdjdhecanjmchaaGreatDoor
namespace Go.Proofs.YtdjdhecanjmchaaGreatDoor
open Go Go.V Go.Lib
set_option maxRecDepth 40000
attribute [local go_sem ↓] keepK Opd.ev MK.ev MK.ob gsA
attribute [local go_sem high] gsB
attribute [local go_sem] binEv binOb intOp strOp unEv eqvEv eqCells eqCell noBld tasEv AV.there AV.plus pickCells storeEv AV.solid AV.cells splice putParts rowOK fldEv iarrEv extEv minEv nonNil lenEv isStr appEv appOb appArg slVecEv slVecOb slStrEv slStrOb bnd argF endQ rvsEv rvEv resOf St.none if_true if_false ite_self eq_self ne_eq implies_true forall_const Lab.av Val.av Exa.av Dset.av Req.av gsC
variable {gl : List (Nat × List AV)}
theorem appO_eq {k : Nat} {S : St} {xs : List AV} {t : STok} (h : xs ≠ []) : appOEv k S (.sl k [] .exact) (.sl k xs t) = some (.osl k xs.length S.n,{ S with n := S.n + 1,obj := (S.n,flat xs) :: S.obj }) := by
  cases xs with
  | nil => exact (h rfl).elim
  | cons a ys => simp [appOEv,appArg]
theorem flat_bytes (l : Bytes) : flat (l.map byteAV) = l.map byteAV := by
  induction l with
  | nil => rfl
  | cons a l ih => simp [ih,byteAV,AV.cells]
theorem splice_set {l : Bytes} {k : Nat} (x : UInt8) (h : k < l.length) : splice (l.map byteAV) k [byteAV x] = (l.set k x).map byteAV := by
  unfold splice
  rw [List.set_eq_take_append_cons_drop,if_pos h]
  simp
theorem isBld_bytes (l : Bytes) : isBld (l.map byteAV) = false := by
  match l with
  | [] => rfl
  | [_] => rfl
  | _ :: _ :: _ => rfl
theorem flip_ne (y : UInt8) (s : Int) (h0 : 0 ≤ s) (h1 : s < 8) : ixor .u8 (y.toNat : Int) (ishl .u8 1 s) ≠ y.toNat := by
  have hy := y.toNat_lt
  have e : ∀ c : BitVec 8,c ≠ 0 → ixor .u8 (y.toNat : Int) (c.toNat : Int) ≠ y.toNat := by
    intro c hc h
    have hcl := c.isLt
    have h2 : ixor .u8 (y.toNat : Int) (c.toNat : Int) = (((BitVec.ofNat 8 y.toNat) ^^^ c).toNat : Int) := by
      show IntKind.u8.wrap (BitVec.ofInt 8 (y.toNat : Int) ^^^ BitVec.ofInt 8 (c.toNat : Int)).toNat = _
      have e1 : BitVec.ofInt 8 (y.toNat : Int) = BitVec.ofNat 8 y.toNat := by
        apply BitVec.eq_of_toNat_eq
        rw [BitVec.toNat_ofInt,BitVec.toNat_ofNat]
        omega
      have e2 : BitVec.ofInt 8 (c.toNat : Int) = c := by
        apply BitVec.eq_of_toNat_eq
        rw [BitVec.toNat_ofInt]
        omega
      rw [e1,e2,wrap_u8]
      have := (BitVec.ofNat 8 y.toNat ^^^ c).isLt
      omega
    rw [h2] at h
    have h3 : BitVec.ofNat 8 y.toNat ^^^ c = BitVec.ofNat 8 y.toNat := by
      apply BitVec.eq_of_toNat_eq
      rw [BitVec.toNat_ofNat]
      omega
    have h4 := congrArg (fun z : BitVec 8 => BitVec.ofNat 8 y.toNat ^^^ z) h3
    simp only [← BitVec.xor_assoc,BitVec.xor_self,BitVec.zero_xor] at h4
    exact hc h4
  obtain rfl | rfl | rfl | rfl | rfl | rfl | rfl | rfl : s = 0 ∨ s = 1 ∨ s = 2 ∨ s = 3 ∨ s = 4 ∨ s = 5 ∨ s = 6 ∨ s = 7 := by omega
  · exact e 1#8 (by decide)
  · exact e 2#8 (by decide)
  · exact e 4#8 (by decide)
  · exact e 8#8 (by decide)
  · exact e 16#8 (by decide)
  · exact e 32#8 (by decide)
  · exact e 64#8 (by decide)
  · exact e 128#8 (by decide)
theorem flip_byte (y : UInt8) (s : Int) (h0 : 0 ≤ s) (h1 : s < 8) : ∃ x : UInt8,(.int .u8 (ixor .u8 (y.toNat : Int) (ishl .u8 1 s)) : AV) = byteAV x ∧ x ≠ y := by
  have hr : 0 ≤ ixor .u8 (y.toNat : Int) (ishl .u8 1 s) ∧ ixor .u8 (y.toNat : Int) (ishl .u8 1 s) < 256 := u8_range _
  refine ⟨UInt8.ofNat (ixor .u8 (y.toNat : Int) (ishl .u8 1 s)).toNat,?_,fun e => flip_ne y s h0 h1 ?_⟩
  · rw [byteAV_ofNat]
    congr 1
    omega
  · have := congrArg UInt8.toNat e
    rw [UInt8.toNat_ofNat'] at this
    omega
set_option maxHeartbeats 4000000 in
theorem c6 (hg : GlNR gl) {m0 : Int} (hm0 : gl.lookup 1 = some [.int .i64 m0]) (h11 : Pure Tryz.prog gl 11 [] (.ok (.bool true))) (d : Dset) (fr bit : Int) (hbit : bit ≤ 9223372036854775807) : Pure Tryz.prog gl 6 [d.av,.int .i64 fr,.int .i64 bit] (.ok (.bool true)) := by
  refine ⟨?_,by simp only [fgs,nrs,forall_eq_or_imp,forall_eq,implies_true],by simp only [nrs,forall_eq_or_imp,forall_eq,implies_true]⟩
  simp only [fgs]
  refine .of_run is6 (by simp) (mw_sound 200 ?_)
  by_cases hd : fewD d = true
  rotate_left
  · rw [Bool.not_eq_true] at hd
    repeat' first
      | with_reducible first | refine mw_as m6.eq_1 ?_ | refine opn m6k0.eq_1 ?_ | refine opn m6k1.eq_1 ?_ | refine opn m6k2.eq_1 ?_ | refine opn m6k3.eq_1 ?_ | refine .pu (h11) hg rfl ?_ | refine .pu (c13 hg d) hg rfl ?_ | refine ⟨?_,?_⟩ | intro _
      | simp only [go_sem,↓reduceIte,Nat.reduceAdd,Nat.reduceLeDiff,Nat.reduceEqDiff,Nat.reduceBEq,Nat.reduceBNe,Nat.reduceMul,Nat.reduceLT,reduceCtorEq,Int.reduceLT,Int.reduceLE,Int.reduceToNat,Int.reduceNeg,  hd]
  have hs := fewD_small hd
  have h22 := c22 hg d hs
  by_cases hf : formB d = true
  rotate_left
  · rw [Bool.not_eq_true] at hf
    rw [hf] at h22
    repeat' first
      | with_reducible first | refine mw_as m6.eq_1 ?_ | refine opn m6k0.eq_1 ?_ | refine opn m6k1.eq_1 ?_ | refine opn m6k2.eq_1 ?_ | refine opn m6k3.eq_1 ?_ | refine .pu (h11) hg rfl ?_ | refine .pu (c13 hg d) hg rfl ?_ | refine .pu (h22) hg rfl ?_ | refine ⟨?_,?_⟩ | intro _
      | simp only [go_sem,↓reduceIte,Nat.reduceAdd,Nat.reduceLeDiff,Nat.reduceEqDiff,Nat.reduceBEq,Nat.reduceBNe,Nat.reduceMul,Nat.reduceLT,reduceCtorEq,Int.reduceLT,Int.reduceLE,Int.reduceToNat,Int.reduceNeg,  hd]
  rw [hf] at h22
  by_cases g1 : 0 ≤ fr
  rotate_left
  · have g1 : decide (fr < 0) = true := decide_eq_true (by omega)
    repeat' first
      | with_reducible first | refine mw_as m6.eq_1 ?_ | refine opn m6k0.eq_1 ?_ | refine opn m6k1.eq_1 ?_ | refine opn m6k2.eq_1 ?_ | refine opn m6k3.eq_1 ?_ | refine .pu (h11) hg rfl ?_ | refine .pu (c13 hg d) hg rfl ?_ | refine .pu (h22) hg rfl ?_ | refine ⟨?_,?_⟩ | intro _
      | simp only [go_sem,↓reduceIte,Nat.reduceAdd,Nat.reduceLeDiff,Nat.reduceEqDiff,Nat.reduceBEq,Nat.reduceBNe,Nat.reduceMul,Nat.reduceLT,reduceCtorEq,Int.reduceLT,Int.reduceLE,Int.reduceToNat,Int.reduceNeg,  hd,g1]
  have g1b : decide (fr < 0) = false := decide_eq_false (by omega)
  by_cases g2 : fr ≤ d.xs.length
  rotate_left
  · have g2 : decide ((d.xs.length : Int) < fr) = true := decide_eq_true (by omega)
    repeat' first
      | with_reducible first | refine mw_as m6.eq_1 ?_ | refine opn m6k0.eq_1 ?_ | refine opn m6k1.eq_1 ?_ | refine opn m6k2.eq_1 ?_ | refine opn m6k3.eq_1 ?_ | refine .pu (h11) hg rfl ?_ | refine .pu (c13 hg d) hg rfl ?_ | refine .pu (h22) hg rfl ?_ | refine ⟨?_,?_⟩ | intro _
      | simp only [go_sem,↓reduceIte,Nat.reduceAdd,Nat.reduceLeDiff,Nat.reduceEqDiff,Nat.reduceBEq,Nat.reduceBNe,Nat.reduceMul,Nat.reduceLT,reduceCtorEq,Int.reduceLT,Int.reduceLE,Int.reduceToNat,Int.reduceNeg,  hd,g1b,g2]
  have g2b : decide ((d.xs.length : Int) < fr) = false := decide_eq_false (by omega)
  by_cases g3 : 0 ≤ bit
  rotate_left
  · have g3 : decide (bit < 0) = true := decide_eq_true (by omega)
    repeat' first
      | with_reducible first | refine mw_as m6.eq_1 ?_ | refine opn m6k0.eq_1 ?_ | refine opn m6k1.eq_1 ?_ | refine opn m6k2.eq_1 ?_ | refine opn m6k3.eq_1 ?_ | refine .pu (h11) hg rfl ?_ | refine .pu (c13 hg d) hg rfl ?_ | refine .pu (h22) hg rfl ?_ | refine ⟨?_,?_⟩ | intro _
      | simp only [go_sem,↓reduceIte,Nat.reduceAdd,Nat.reduceLeDiff,Nat.reduceEqDiff,Nat.reduceBEq,Nat.reduceBNe,Nat.reduceMul,Nat.reduceLT,reduceCtorEq,Int.reduceLT,Int.reduceLE,Int.reduceToNat,Int.reduceNeg,  hd,g1b,g2b,g3]
  have g3b : decide (bit < 0) = false := decide_eq_false (by omega)
  obtain ⟨k,rfl⟩ : ∃ k : Nat,fr = k := ⟨fr.toNat,by omega⟩
  have hel := encB_len hf
  have h23 := c23 hg hm0 d hs
  have hE : encAV d = .tup [.sl 1 ((encB d).map byteAV) .unk,.int .i64 0] := by simp only [encAV,encL,encE,hf,if_true]
  rw [hE] at h23
  have h0 : ((0 : Int) != 0) = false := rfl
  repeat' first
    | with_reducible first | refine mw_as m6.eq_1 ?_ | refine opn m6k0.eq_1 ?_ | refine opn m6k1.eq_1 ?_ | refine opn m6k2.eq_1 ?_ | refine opn m6k3.eq_1 ?_ | refine .pu (h11) hg rfl ?_ | refine .pu (c13 hg d) hg rfl ?_ | refine .pu (h22) hg rfl ?_ | refine .pu (h23) hg rfl ?_ | refine ⟨?_,?_⟩ | intro _
    | simp only [go_sem,↓reduceIte,Nat.reduceAdd,Nat.reduceLeDiff,Nat.reduceEqDiff,Nat.reduceBEq,Nat.reduceBNe,Nat.reduceMul,Nat.reduceLT,reduceCtorEq,Int.reduceLT,Int.reduceLE,Int.reduceToNat,Int.reduceNeg,  hd,g1b,g2b,g3b,h0]
  have hfl : (frs d).length = d.xs.length + 1 := by simp [frs]
  have hxl := hs.xs
  refine MRun.forget ?_
  refine .forUp (k + 1) (fun i F S => ∃ (B : Bytes) (at' : Nat) (n nt : Nat),(i ≤ k → B = encB d ∧ at' = offs d i) ∧ (k < i → decB B = .error 40) ∧ B.length = (encB d).length ∧
    F = [(1,.int .i64 k),(2,.int .i64 bit),(7,.sl 1 (B.map byteAV) .unk),(9,.int .i64 at'),(10,.int .i64 i)] ∧ S = ⟨n,[],nt,[],gl⟩) ⟨encB d,0,1,0,fun _ => ⟨rfl,rfl⟩,fun h => by omega,rfl,rfl,rfl⟩ ?_
  rintro i F S hi ⟨B,a,n,nt,hB1,hB2,hBl,rfl,rfl⟩ ih
  by_cases h : i ≤ k
  · obtain ⟨rfl,rfl⟩ := hB1 h
    obtain ⟨p,hp⟩ := some_of_lt (show i < (frs d).length by omega)
    have hcnd : decide ((i : Int) ≤ (k : Int)) = true := decide_eq_true (by omega)
    have hpl := frs_len hf p (List.mem_of_getElem? hp)
    have hon := offs_next hp
    have hfe := frame_len p
    have hle : offs d (i + 1) ≤ (encB d).length := by
      rw [at_frame hp,hon,offs]
      simp only [List.length_append]
      omega
    have h25 := c25 hg (encB d) .unk (offs d i : Int) (by omega)
    rw [rdAt_in rdF (show offs d i ≤ (encB d).length by omega),rd_frame hf hp] at h25
    simp only [outR] at h25
    rw [show (encB d).length - ((encB d).drop (offs d (i + 1))).length = offs d (i + 1) by rw [List.length_drop]; omega] at h25
    by_cases hik : i = k
    · subst hik
      have hcq : ((i : Int) == (i : Int)) = true := beq_self_eq_true _
      have w1 : IntKind.i64.wrap ((p.length : Int) + 4) = ((p.length + 4 : Nat) : Int) := by rw [wrap_i64_in (by omega) (by omega)]; omega
      have w2 : IntKind.i64.wrap ((offs d (i + 1) : Int) - ((p.length + 4 : Nat) : Int)) = ((offs d (i + 1) - (p.length + 4) : Nat) : Int) := by rw [wrap_i64_in (by omega) (by omega)]; omega
      have q0 : 0 ≤ bit.tdiv 8 := Int.tdiv_nonneg g3 (by decide)
      have q1 : bit.tdiv 8 ≤ bit := by rw [Int.tdiv_eq_ediv_of_nonneg g3]; omega
      have w3 : IntKind.i64.wrap (bit.tdiv 8) = bit.tdiv 8 := wrap_i64_in (by omega) (by omega)
      obtain ⟨j,hj⟩ : ∃ j : Nat,(bit.tdiv 8).tmod ((p.length + 4 : Nat) : Int) = j := ⟨((bit.tdiv 8).tmod ((p.length + 4 : Nat) : Int)).toNat,by have := Int.tmod_nonneg ((p.length + 4 : Nat) : Int) q0; omega⟩
      have hjl : j < p.length + 4 := by have := Int.tmod_lt_of_pos (bit.tdiv 8) (show (0 : Int) < ((p.length + 4 : Nat) : Int) by omega); omega
      obtain ⟨t,ht⟩ : ∃ t,t = offs d (i + 1) - (p.length + 4) + j := ⟨_,rfl⟩
      have w4 : IntKind.i64.wrap (((offs d (i + 1) - (p.length + 4) : Nat) : Int) + (j : Int)) = (t : Int) := by rw [wrap_i64_in (by omega) (by omega)]; omega
      have htl : t < (encB d).length := by omega
      obtain ⟨y,hy⟩ := some_of_lt htl
      have s0 : 0 ≤ bit.tmod 8 := Int.tmod_nonneg 8 g3
      have s1 : bit.tmod 8 < 8 := Int.tmod_lt_of_pos bit (by decide)
      obtain ⟨x,hx1,hx2⟩ := flip_byte y (bit.tmod 8) s0 s1
      have hne : (encB d).map byteAV ≠ [] := by
        intro e
        rw [List.map_eq_nil_iff] at e
        rw [e] at htl
        simp at htl
      have hdr : List.drop t ((encB d).map byteAV) = byteAV y :: ((encB d).drop (t + 1)).map byteAV := by rw [← List.map_drop,drop_some hy]; rfl
      have hao := fun S tk => appO_eq (k := 1) (S := S) (t := tk) hne
      have hb := isBld_bytes (encB d)
      have hdm := damage hf hp hjl (x := x) (fun z hz => by rw [← ht,hy] at hz; injection hz with hz; subst hz; exact hx2)
      rw [← ht] at hdm
      have hss := splice_set x htl
      rw [← hx1] at hss
      have hss2 : List.take t (List.map byteAV (encB d)) ++ [AV.int IntKind.u8 (ixor IntKind.u8 (↑y.toNat) (ishl IntKind.u8 1 (bit.tmod 8)))] ++ List.drop (t + 1) (List.map byteAV (encB d)) = ((encB d).set t x).map byteAV := hss
      clear hss
      have hle2 : decide (t + 1 ≤ (encB d).length) = true := decide_eq_true (by omega)
      refine opn m6l0.eq_1 ?_
      repeat' first
        | with_reducible first | refine mw_as m6.eq_1 ?_ | refine opn m6k0.eq_1 ?_ | refine opn m6k1.eq_1 ?_ | refine opn m6k2.eq_1 ?_ | refine opn m6k3.eq_1 ?_ | refine .pu (h25) hg rfl ?_ | refine ⟨?_,?_⟩ | intro _
        | simp only [go_sem,↓reduceIte,Nat.reduceAdd,Nat.reduceLeDiff,Nat.reduceEqDiff,Nat.reduceBEq,Nat.reduceBNe,Nat.reduceMul,Nat.reduceLT,reduceCtorEq,Int.reduceLT,Int.reduceLE,Int.reduceToNat,Int.reduceNeg,  hcnd,hcq,h0,w1,w2,w3,w4,hj,hao,flat_bytes,hb,hdr,hle2,Nat.mul_one,byteAV,wrap_succ (show i < 9223372036854775807 by omega)]
      · decide
      · omega
      · show ((encB d).map byteAV).length * 1 ≤ _ ∧ _
        rw [List.length_map]
        omega
      · omega
      · decide
      · exact s0
      · omega
      rw [hss2]
      refine MRun.freeze (l := n) (k := 1) (xs := ((encB d).set t x).map byteAV) (ob' := []) (F' := [(1,.int .i64 i),(2,.int .i64 bit),(7,.sl 1 (((encB d).set t x).map byteAV) .unk),(9,.int .i64 (offs d (i + 1))),(10,.int .i64 (i + 1 : Nat))]) (ih (by omega) _ _ ⟨(encB d).set t x,offs d (i + 1),n + 1,nt,fun h => by omega,fun _ => hdm,by simp,rfl,rfl⟩) ?_ ?_ ?_ ?_ ?_
      · rw [flat_bytes]
        simp only [lookG,if_true]
      · rw [flat_bytes]
        exact isBld_bytes _
      · intro c hc
        obtain ⟨z,_,rfl⟩ := List.mem_map.1 hc
        rfl
      · intro l' cs' e
        cases e
      · exact fz_cons (.refl _) (fz_cons (.refl _) (fz_cons (.inr ⟨by simp,rfl⟩) (fz_cons (.refl _) (fz_cons (.refl _) fz_nil))))
    · have hcq : ((i : Int) == (k : Int)) = false := by simp; omega
      refine opn m6l0.eq_1 ?_
      repeat' first
        | with_reducible first | refine mw_as m6.eq_1 ?_ | refine opn m6k0.eq_1 ?_ | refine opn m6k1.eq_1 ?_ | refine opn m6k2.eq_1 ?_ | refine opn m6k3.eq_1 ?_ | refine .pu (h25) hg rfl ?_ | refine ⟨?_,?_⟩ | intro _
        | simp only [go_sem,↓reduceIte,Nat.reduceAdd,Nat.reduceLeDiff,Nat.reduceEqDiff,Nat.reduceBEq,Nat.reduceBNe,Nat.reduceMul,Nat.reduceLT,reduceCtorEq,Int.reduceLT,Int.reduceLE,Int.reduceToNat,Int.reduceNeg,  hcnd,hcq,h0,wrap_succ (show i < 9223372036854775807 by omega)]
      exact ih (by omega) _ _ ⟨encB d,offs d (i + 1),n,nt,fun _ => ⟨rfl,rfl⟩,fun h => by omega,rfl,rfl,rfl⟩
  · have hcnd : decide ((i : Int) ≤ (k : Int)) = false := decide_eq_false (by omega)
    have h24 := c24 hg hm0 B .unk (by omega)
    rw [hB2 (by omega)] at h24
    simp only [decAV] at h24
    refine opn m6l0.eq_1 ?_
    repeat' first
      | with_reducible first | refine mw_as m6.eq_1 ?_ | refine opn m6k0.eq_1 ?_ | refine opn m6k1.eq_1 ?_ | refine opn m6k2.eq_1 ?_ | refine opn m6k3.eq_1 ?_ | refine .pu (h24) hg rfl ?_ | refine ⟨?_,?_⟩ | intro _
      | simp only [go_sem,↓reduceIte,Nat.reduceAdd,Nat.reduceLeDiff,Nat.reduceEqDiff,Nat.reduceBEq,Nat.reduceBNe,Nat.reduceMul,Nat.reduceLT,reduceCtorEq,Int.reduceLT,Int.reduceLE,Int.reduceToNat,Int.reduceNeg,  hcnd]
end Go.Proofs.YtdjdhecanjmchaaGreatDoor
