/- A slice that was written in place is written no more: it becomes a value. -/
import Derived.Test.YtombgigaefgaiaaGreatDoorW1
set_option linter.unusedSimpArgs false
set_option linter.unusedVariables false
namespace Go.Proofs.YtombgigaefgaiaaGreatDoor
open Go Go.V Go.Lib
set_option maxRecDepth 40000
variable {gl : List (Nat × List AV)}
theorem StRel.imp {wb : Base} {G : Gh} {n nt : Nat} {ob ob' : List (Nat × List AV)} {live live' : List Nat} {w : World} (h : StRel wb G ⟨n,ob,nt,live,gl⟩ w)
    (ho : ∀ l cs',List.lookup l ob' = some cs' → isBld cs' = false ∧ ∃ cs,List.lookup l ob = some cs ∧ isBld cs = false ∧ ∀ (m : Nat) (c : AV),cs'[m]? = some c → ∃ c0,cs[m]? = some c0 ∧ c0.Le c) (hl : ∀ x ∈ live',x ∈ live) : StRel wb G ⟨n,ob',nt,live',gl⟩ w where
  prom := h.prom
  room := fun l cs r e1 _ e2 => by
    obtain ⟨_,cs0,h1,h2,h3⟩ := ho l cs e1
    obtain ⟨h4,h5⟩ := h.room l cs0 r h1 h2 e2
    refine ⟨Nat.le_trans ?_ h4,h5⟩
    rcases Nat.lt_or_ge cs0.length cs.length with h' | h'
    · obtain ⟨c0,h6,_⟩ := h3 cs0.length cs[cs0.length] (by simp)
      rw [List.getElem?_eq_none (Nat.le_refl _)] at h6
      cases h6
    · exact h'
  apart := fun l cs r o e1 _ e2 => by
    obtain ⟨_,cs0,h1,h2,_⟩ := ho l cs e1
    exact h.apart l cs0 r o h1 (isDead_of_isBld h2) e2
  obj := fun l cs e1 _ => by
    obtain ⟨_,cs0,h1,h2,h3⟩ := ho l cs e1
    obtain ⟨r,hr,h4⟩ := h.obj l cs0 h1 h2
    refine ⟨r,hr,fun m c hm => ?_⟩
    obtain ⟨c0,h5,h6⟩ := h3 m c hm
    obtain ⟨v,h7,h8,h9⟩ := h4 m c0 h5
    exact ⟨v,h7,h6 G v h8,h9⟩
  inj := fun l l' r cs cs' e1 e2 _ _ => by
    obtain ⟨_,cs1,h1,h2,_⟩ := ho l cs e1
    obtain ⟨_,cs2,h3,h4,_⟩ := ho l' cs' e2
    exact h.inj l l' r cs1 cs2 h1 h3 (isDead_of_isBld h2) (isDead_of_isBld h4)
  dom := h.dom
  tok := fun t ht => h.tok t (hl t ht)
  tdom := h.tdom
  tdis := fun t ht t' ht' => h.tdis t (hl t ht) t' (hl t' ht')
  base := h.base
  pold := h.pold
  still := h.still
  beta := h.beta
  glob := h.glob
  bld := fun l s e hb => by have := (ho l _ e).1; rw [hb] at this; cases this
  bldu := fun l l' s s' e => by have := (ho l _ e).1; simp [isBld] at this
theorem MRun.impS {P : Program} {k : List MI} {D : Dfs} {F : Fr} {Q : EndQ} {nn n nt : Nat} {ob ob' : List (Nat × List AV)} {live live' : List Nat} (h : MRun P nn k D F ⟨n,ob',nt,live',gl⟩ Q)
    (ho : ∀ l cs',List.lookup l ob' = some cs' → isBld cs' = false ∧ ∃ cs,List.lookup l ob = some cs ∧ isBld cs = false ∧ ∀ (m : Nat) (c : AV),cs'[m]? = some c → ∃ c0,cs[m]? = some c0 ∧ c0.Le c) (hl : ∀ x ∈ live',x ∈ live) : MRun P nn k D F ⟨n,ob,nt,live,gl⟩ Q := by
  intro wb G w a b cs todo hb0 hf hR
  exact h wb G w a b cs todo hb0 hf ⟨StRel.imp hR.st ho hl,⟨hR.fr.rel⟩,hR.sz,hR.df⟩
def Fz (l k : Nat) (xs : List AV) (c c' : AV) : Prop := c' = c ∨ ∃ m,m ≤ xs.length ∧ c = .osl k m l 0 ∧ c' = .sl k (xs.take m) .unk
theorem Fz.refl {l k : Nat} {xs : List AV} (c : AV) : Fz l k xs c c := .inl rfl
theorem Fz.all {l k n : Nat} {xs : List AV} (h : n = xs.length) : Fz l k xs (.osl k n l 0) (.sl k xs .unk) := .inr ⟨xs.length,Nat.le_refl _,by rw [h],by rw [List.take_length]⟩
theorem Fz.some {l k m : Nat} {xs : List AV} (h : m ≤ xs.length) : Fz l k xs (.osl k m l 0) (.sl k (xs.take m) .unk) := .inr ⟨m,h,rfl,rfl⟩
theorem flat_take {k : Nat} (xs : List AV) (m j : Nat) {c : AV} (h : (flat (xs.take m))[j]? = Option.some c) : (flat xs)[j]? = Option.some c := by
  have e : flat xs = flat (xs.take m) ++ flat (xs.drop m) := by rw [← flat_append,List.take_append_drop]
  rw [e,List.getElem?_append_left (by rcases Nat.lt_or_ge j (flat (xs.take m)).length with h' | h'; exact h'; rw [List.getElem?_eq_none h'] at h; cases h)]
  exact h
theorem fz_nil {l k : Nat} {xs : List AV} : ∀ t c',List.lookup t ([] : List (Nat × AV)) = some c' → ∃ c,List.lookup t ([] : List (Nat × AV)) = some c ∧ Fz l k xs c c' := fun t c' e => by cases e
theorem fz_cons {l k s : Nat} {xs : List AV} {c c' : AV} {F F' : List (Nat × AV)} (h : Fz l k xs c c') (ih : ∀ t c',List.lookup t F' = some c' → ∃ c,List.lookup t F = some c ∧ Fz l k xs c c') :
    ∀ t d',List.lookup t ((s,c') :: F') = some d' → ∃ d,List.lookup t ((s,c) :: F) = some d ∧ Fz l k xs d d' := fun t d' e => by
  simp only [List.lookup_cons] at e ⊢
  split at e
  · injection e with e
    subst e
    exact ⟨c,rfl,h⟩
  · exact ih t d' e
theorem StRel.freeze {wb : Base} {G : Gh} {n nt l k : Nat} {ob ob' : List (Nat × List AV)} {live : List Nat} {w : World} {xs : List AV} (h : StRel wb G ⟨n,ob,nt,live,gl⟩ w)
    (hl : List.lookup l ob = some (flat xs)) (hb : isBld (flat xs) = false) (hk : ∀ x ∈ xs,x.cells.length = k)
    (ho : ∀ l' cs',List.lookup l' ob' = some cs' → l' ≠ l ∧ isBld cs' = false ∧ ∃ cs,List.lookup l' ob = some cs ∧ isBld cs = false ∧ ∀ (m : Nat) (c' : AV),cs'[m]? = some c' → ∃ c,cs[m]? = some c ∧ Fz l k xs c c') :
    ∃ G',G.le G' ∧ StRel wb G' ⟨n,ob',nt,live,gl⟩ w ∧ ∀ c c' v,Fz l k xs c c' → VRel G c v → VRel G' c' v := by
  obtain ⟨r,hr,hc⟩ := h.obj l _ hl hb
  have hap : ∀ o,G.φ r o = none := fun o => h.apart l _ r o hl (isDead_of_isBld hb) hr
  let f : Nat → Value := fun m => (w.cell? ⟨r,m,none⟩).getD undef
  have hf : ∀ (m : Nat) (c : AV),(flat xs)[m]? = some c → w.cell? ⟨r,m,none⟩ = some (f m) ∧ VRel G c (f m) ∧ (f m).oneCell' = true := fun m c e => by
    obtain ⟨v,h1,h2,h3,_⟩ := hc m c e
    have : f m = v := by simp [f,h1]
    rw [this]
    exact ⟨h1,h2,h3⟩
  let G' : Gh := { G with φ := fun r' o => if r' = r ∧ o < (flat xs).length then some (f o) else G.φ r' o }
  have hle : G.le G' := by
    refine ⟨fun r' o v e => ?_,fun _ _ e => e,fun _ _ e => e,rfl,fun _ _ _ => rfl⟩
    have : ¬ (r' = r ∧ o < (flat xs).length) := fun ⟨h1,_⟩ => by subst h1; rw [hap o] at e; cases e
    simp only [G',this,if_false]
    exact e
  have hval : ∀ c c' v,Fz l k xs c c' → VRel G c v → VRel G' c' v := by
    rintro c c' v (rfl | ⟨q,hq,rfl,rfl⟩) hv
    · exact hv.mono hle
    · cases hv with
      | osl _ h1 h2 hz =>
        have e : _ = r := Option.some.inj (h1.symm.trans hr)
        subst e
        rename_i rr cc
        have hl2 : (xs.take q).length = q := by rw [List.length_take]; omega
        have := VRel.sl (G := G') (k := k) (xs := xs.take q) (t := .unk) (r := rr) (b := 0) (cap := cc) f (fun x hx => hk x (List.mem_of_mem_take hx)) (fun m c e => ?_) (fun m c e => (hf m c (flat_take (k := k) xs q m e)).2.2) (fun m c e => (hf m c (flat_take (k := k) xs q m e)).2.1.mono hle) (by rw [hl2]; exact h2) trivial
        · rw [hl2] at this
          exact this
        have hm : m < (flat xs).length := by
          have e2 := flat_take (k := k) xs q m e
          rcases Nat.lt_or_ge m (flat xs).length with h' | h'
          · exact h'
          · rw [List.getElem?_eq_none h'] at e2; cases e2
        simp only [G',Nat.zero_add,hm,and_self,if_true]
  refine ⟨G',hle,?_,hval⟩
  have hout : ∀ r' o,r' ≠ r → G'.φ r' o = G.φ r' o := fun r' o e => by simp only [G',e,false_and,if_false]
  have hlen : ∀ l' cs',List.lookup l' ob' = some cs' → ∃ cs,List.lookup l' ob = some cs ∧ isBld cs = false ∧ cs'.length ≤ cs.length := fun l' cs' e => by
    obtain ⟨_,_,cs0,h2,h3,h4⟩ := ho l' cs' e
    refine ⟨cs0,h2,h3,?_⟩
    rcases Nat.lt_or_ge cs0.length cs'.length with h' | h'
    · obtain ⟨c0,h6,_⟩ := h4 cs0.length cs'[cs0.length] (by simp)
      rw [List.getElem?_eq_none (Nat.le_refl _)] at h6
      cases h6
    · exact h'
  refine { prom := ?_,room := fun l cs r e1 _ e2 => by
             obtain ⟨cs0,h1,h2,h3⟩ := hlen l cs e1
             obtain ⟨h4,h5⟩ := h.room l cs0 r h1 h2 e2
             exact ⟨Nat.le_trans h3 h4,h5⟩,apart := ?_,obj := ?_,inj := fun l l' r cs cs' e1 e2 _ _ => by
             obtain ⟨cs1,h1,h2,_⟩ := hlen l cs e1
             obtain ⟨cs2,h3,h4,_⟩ := hlen l' cs' e2
             exact h.inj l l' r cs1 cs2 h1 h3 (isDead_of_isBld h2) (isDead_of_isBld h4),dom := h.dom,tok := ?_,tdom := h.tdom,tdis := h.tdis,base := h.base,pold := ?_,still := h.still,beta := h.beta,glob := ?_,bld := ?_,bldu := ?_ }
  · intro r' o v e
    by_cases hx : r' = r ∧ o < (flat xs).length
    · simp only [G',hx,and_self,if_true] at e
      injection e with e
      subst e
      obtain ⟨rfl,hx⟩ := hx
      exact (hf o _ (List.getElem?_eq_getElem hx)).1
    · simp only [G',hx,if_false] at e
      exact h.prom r' o v e
  · intro l' cs r' o e1 _ e2
    obtain ⟨h1,_,cs0,h2,hb2,_⟩ := ho l' cs e1
    have hne : r' ≠ r := fun e => by subst e; exact h1 (h.inj _ _ _ _ _ h2 hl (isDead_of_isBld hb2) (isDead_of_isBld hb) e2 hr)
    rw [hout _ _ hne]
    exact h.apart l' cs0 r' o h2 (isDead_of_isBld hb2) e2
  · intro l' cs e1 _
    obtain ⟨_,_,cs0,h2,h3,h4⟩ := ho l' cs e1
    obtain ⟨r',hr',h5⟩ := h.obj l' cs0 h2 h3
    refine ⟨r',hr',fun m c hm => ?_⟩
    obtain ⟨c0,h6,h7⟩ := h4 m c hm
    obtain ⟨v,h8,h9,h10⟩ := h5 m c0 h6
    exact ⟨v,h8,hval _ _ _ h7 h9,h10⟩
  · intro t ht
    obtain ⟨r',e,z,h1,h2⟩ := h.tok t ht
    refine ⟨r',e,z,h1,fun o h3 h4 => ?_⟩
    obtain ⟨h5,h6,h7,h8,h9⟩ := h2 o h3 h4
    exact ⟨h5,h6,h7,h8,by rw [hout _ _ (fun e => by subst e; exact h6 _ hr)]; exact h9⟩
  · intro r' o v hlt e
    have hne : r' ≠ r := fun e => by subst e; have := (h.dom _ _ hr).2.1; omega
    rw [hout _ _ hne] at e
    exact h.pold r' o v hlt e
  · intro g cs hg m c hm
    obtain ⟨v,h1,h2,h3⟩ := h.glob g cs hg m c hm
    exact ⟨v,hle.φ _ _ _ h1,h2.mono hle,h3⟩
  · intro l' s e hsp0
    have := (ho l' _ e).2.1
    rw [hsp0] at this
    cases this
  · intro l' l2 s s' e
    have := (ho l' _ e).2.1
    simp [isBld] at this
theorem MRun.freeze {P : Program} {nn n nt l k : Nat} {K : List MI} {F F' : Fr} {Q : EndQ} {ob ob' : List (Nat × List AV)} {live : List Nat} {xs : List AV} (h : MRun P nn K [] F' ⟨n,ob',nt,live,gl⟩ Q)
    (hl : List.lookup l ob = some (flat xs)) (hb : isBld (flat xs) = false) (hk : ∀ x ∈ xs,x.cells.length = k)
    (ho : ∀ l' cs',List.lookup l' ob' = some cs' → l' ≠ l ∧ isBld cs' = false ∧ ∃ cs,List.lookup l' ob = some cs ∧ isBld cs = false ∧ ∀ (m : Nat) (c' : AV),cs'[m]? = some c' → ∃ c,cs[m]? = some c ∧ Fz l k xs c c')
    (hF : ∀ t c',List.lookup t F' = some c' → ∃ c,List.lookup t F = some c ∧ Fz l k xs c c') : MRun P nn K [] F ⟨n,ob,nt,live,gl⟩ Q := by
  intro wb G w a b cs todo hb0 hf hR
  obtain ⟨G',h1,h2,h3⟩ := StRel.freeze hR.st hl hb hk ho
  obtain ⟨e,a',w',G2,F2,S2,D2,av,h4,h5⟩ := h wb G' w a b cs todo hb0 hf ⟨h2,⟨fun t v e => by
    obtain ⟨c,h6,h7⟩ := hF t v e
    obtain ⟨h8,h9⟩ := hR.fr.rel t c h6
    exact ⟨h8,h3 _ _ _ h7 h9⟩⟩,hR.sz,hR.df.mono h1⟩
  exact ⟨e,a',w',G2,F2,S2,D2,av,Gh.le_trans h1 h4,h5⟩
end Go.Proofs.YtombgigaefgaiaaGreatDoor
