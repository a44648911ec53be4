/- For all valid logs, ticks, aggregates, keys and sizes, cells of a multiple of a size are the merged cells of the size, single cells lie in one range, and totals agree; of arguments that are together of bulk at most 1048576: the law, its row, its card. -/
import Derived.Test.YtoopnalhhfmgaaaGreatDoorJR
import Derived.Test.YtoopnalhhfmgaaaGreatDoorKC
import Derived.Test.YtoopnalhhfmgaaaGreatDoorEY
import Derived.Deep.DeepWitnessRowRef
import Derived.Test.YtoopnalhhfmgaaaGreatDoorCards
import Derived.Test.YtoopnalhhfmgaaaGreatDoorTie
import Derived.Test.YtoopnalhhfmgaaaGreatDoorJS
set_option linter.defProp false
set_option linter.unusedSimpArgs false
set_option linter.unusedVariables false
namespace Go.Proofs.YtoopnalhhfmgaaaGreatDoor
open Go Go.V Go.ChangeShapes Go.WideShapes Go.ChangeAt Go.RowKit
set_option maxRecDepth 40000
namespace PartialsNests
abbrev Dg:Array Value:= #[.slice none 0 0,.int .i64 0,.int .i64 0,.string ⟨#[]⟩,.int .i64 0,.int .i64 0]
def Oq (os:Os):laidMet Tryz.prog Rows.partialsNestsUptoRow.laid ((sI os).forCall (fun _ _=>0) ⟨#[],Dg,[]⟩).memory:=laidMet_of_run' 8 (by kernel_rfl) (by kernel_rfl)
def reads (os:Os) {H:Type} (enc:TypeId×Value->H):∃ places,DataW.whole enc Tryz.prog ((sI os).forCall (fun _ _=>0) ⟨#[],Dg,[]⟩).memory Tryz.f3.params.toList Rows.partialsNestsSpec.vars false Dg.toList 8=some ([.nil,.lit (.int .i64 0),.lit (.int .i64 0),.lit (.string []),.lit (.int .i64 0),.lit (.int .i64 0)],[],places):=⟨[],by kernel_rfl⟩
def NO (H:Type) (enc:TypeId×Value->H) (W:World) (args:Array Value) (ds gs:List (DataW H)) (before:List MemPlace)
  (hval:∀ (j:Nat) t v,Tryz.f3.params[j]? =some t->args[j]? =some v->Value.okWide Tryz.prog W .any 0 t v)
  (hW:DataW.Whole enc Tryz.prog Tryz.f3.params.toList Rows.partialsNestsSpec.vars false W args.toList ds gs before) (hk:Rows.uptoSmall H (ds++gs)=true) (hL:laidMetH Tryz.prog xw W) (hsh:W.ShapedOpen Tryz.prog):
  Calls Tryz.prog 3 args W fun e W'=>∃ v,e= .returned v/\Rows.partialsNestsSpec.post enc Tryz.prog Tryz.f3 false true false false W args v W':=by
 have hW':=hW;obtain ⟨p,q,hA0,hV,rfl,hfz,hnd⟩:=hW;have hA:DataW.TrodAll enc Tryz.prog W 0 (fun _=>true) true Tryz.f3.params.toList args.toList ds p:=hA0;rw [Tryz.params3] at hA hval;obtain ⟨v0,vs0,d0,ds0,p0,q0,hargs,rfl,rfl,h0,r0⟩:=trodAll_cons hA;obtain ⟨v1,vs1,d1,ds1,p1,q1,rfl,rfl,rfl,h1,r1⟩:=trodAll_cons r0;obtain ⟨v2,vs2,d2,ds2,p2,q2,rfl,rfl,rfl,h2,r2⟩:=trodAll_cons r1;obtain ⟨v3,vs3,d3,ds3,p3,q3,rfl,rfl,rfl,h3,r3⟩:=trodAll_cons r2;obtain ⟨v4,vs4,d4,ds4,p4,q4,rfl,rfl,rfl,h4,r4⟩:=trodAll_cons r3;obtain ⟨v5,vs5,d5,ds5,p5,q5,rfl,rfl,rfl,h5,r5⟩:=trodAll_cons r4;obtain ⟨rfl,rfl,rfl⟩:=trodAll_nil r5;obtain rfl:args= #[v0,v1,v2,v3,v4,v5]:=by cases args;simp_all
 obtain ⟨rfl,rfl⟩:=trodVars_none hV;have hb:=of_decide_eq_true hk;simp only [AB,Rows.uptoBulkAll] at hb;obtain ⟨w,hw,hf,hT⟩:=ON (hval 0 22 v0 rfl rfl) h0 (by omega);obtain ⟨tick,rfl,_,_,_⟩:=open_int Tryz.underlying3 (hval 1 3 v1 rfl rfl) h1;obtain ⟨n,rfl,_,_,_⟩:=open_int Tryz.underlying3 (hval 2 3 v2 rfl rfl) h2;obtain ⟨key,rfl⟩:=okWide_string Tryz.underlying9 (hval 3 9 v3 rfl rfl);obtain ⟨size,rfl,_,_,_⟩:=open_int Tryz.underlying3 (hval 4 3 v4 rfl rfl) h4;obtain ⟨factor,rfl,_,_,_⟩:=open_int Tryz.underlying3 (hval 5 3 v5 rfl rfl) h5
 have hv:da (kN W) [w,.int .i64 tick,.int .i64 n,.str key.data.toList,.int .i64 size,.int .i64 factor] [v0,.int .i64 tick,.int .i64 n,.string key,.int .i64 size,.int .i64 factor]:=⟨rfl,fun m c u e1 e2=>by
  match m with
  |0=>simp at e1 e2;subst e1;subst e2;exact hw
  |1=>simp at e1 e2;subst e1;subst e2;exact .int _ _
  |2=>simp at e1 e2;subst e1;subst e2;exact .int _ _
  |3=>simp at e1 e2;subst e1;subst e2;rw [fC];exact .str _
  |4=>simp at e1 e2;subst e1;subst e2;exact .int _ _
  |5=>simp at e1 e2;subst e1;subst e2;exact .int _ _
  |m+6=>simp at e1⟩
 refine (Kz hL hsh Tryz.call3 (fun m=>law (Lf m) (c4 m (Lf m)) hT hf tick n size factor key.data.toList) hv).mono fun e W' ⟨he,hB⟩=>?_;subst he;exact ⟨_,rfl,OX rfl (by kernel_rfl) rfl rfl rfl (by rw [Tryz.params3];intro t ht;simp only [Array.toList,Ab,AD,or_false] at ht;rcases ht with rfl|rfl|rfl|rfl|rfl|rfl<;>exact ⟨by kernel_rfl,of_decide_eq_true (by kernel_rfl)⟩) hW' hB⟩
set_option maxRecDepth 100000 in
def lifted (os:Os) (started:os.Started) (H:Type) (enc:TypeId×Value->H) (F:Stop.Interp):
  ReturnsInHanded {} Tryz.checked os 3 .any ((Rows.OpenSpec.upto Rows.partialsNestsSpec).preRow enc Tryz.prog Tryz.f3 Rows.partialsNestsUptoRow.domain false Rows.partialsNestsUptoRow.laid) (((Rows.OpenSpec.upto Rows.partialsNestsSpec).at F).post enc Tryz.prog Tryz.f3 false true false false):=by
 obtain ⟨places,hx⟩:=reads os enc
 refine returnsInHanded_of_row (C:=Tryz.checked) (s:=Rows.OpenSpec.upto Rows.partialsNestsSpec) own started (by kernel_rfl) Tryz.func3
  (witness_row_atRef (enc:=enc) (C:=Tryz.checked) false (sI os) Dg rfl (by kernel_rfl) (by kernel_rfl) (by kernel_rfl)
   (OpenSpec.preRow_of_cond 8 hx (by kernel_rfl) (fun k hk=>by cases hk;kernel_rfl) (by kernel_rfl) (Oq os))) ?_
 intro W base args ds gs before hval hW _ hcond _ hL hsh _;exact NO H enc W args ds gs before hval hW (hcond _ rfl) hL hsh
def said:Rows.PartialsNestsUptoSaid:=
 OpenClaim.holds_of_cond 3 Tryz.f3 rfl rfl rfl rfl rfl rfl rfl ⟨rfl,rfl,rfl,rfl,rfl⟩ rfl rfl rfl rfl rfl (by kernel_rfl) Tryz.func3 O4
  (of_decide_eq_true (by kernel_rfl)) (by unfold Func.isWrapper;first|(rw [if_pos (by decide+kernel)];kernel_rfl)|(rw [if_neg (by decide+kernel)];exact ⟨rfl,rfl⟩))
  (fun os started H enc _ F=>by rw [OpenClaim.pre_eq_preRow];exact lifted os started H enc F)
def plain (f : FuncId) (fn : Func) (hf : Tryz.pinned.checked.prog.funcNamed "asof/asoflaw26.PartialsNests" = some f) (hfn : Tryz.pinned.checked.prog.funcs[f]? = some fn) :
  false=Tryz.pinned.checked.prog.looks []/\∀ (j:Nat) t,fn.params[j]? =some t->Tryz.pinned.checked.prog.wantsStandIn t=false:=by
 obtain rfl : f = 3 := AX ((show Tryz.prog.funcNamed "asof/asoflaw26.PartialsNests" = some 3 by kernel_rfl).symm.trans hf) |>.symm
 obtain rfl:fn=Tryz.f3:=(AX (Tryz.func3.symm.trans hfn)).symm;refine ⟨by kernel_rfl,fun j t ht=>?_⟩;rw [Tryz.params3] at ht;have ht:=Array.mem_of_getElem? ht;simp only [List.mem_toArray,Ab,AD,or_false] at ht;rcases ht with rfl|rfl|rfl|rfl|rfl|rfl
 ·exact (show Tryz.prog.wantsStandIn 22=false by kernel_rfl)
 ·exact (show Tryz.prog.wantsStandIn 3=false by kernel_rfl)
 ·exact (show Tryz.prog.wantsStandIn 3=false by kernel_rfl)
 ·exact (show Tryz.prog.wantsStandIn 9=false by kernel_rfl)
 ·exact (show Tryz.prog.wantsStandIn 3=false by kernel_rfl)
 ·exact (show Tryz.prog.wantsStandIn 3=false by kernel_rfl)
theorem card:Rows.PartialsNestsUptoCardSaid:=Claim7.holds_tied_plain_at .later [] _ _ _ _ said (fun _ h=>by cases h) (by kernel_rfl) (fun _ h=>by cases h) partialsNestsUpto_row_tie rfl ⟨rfl,rfl⟩ (by kernel_rfl) rfl plain (by kernel_rfl)
#print axioms card
end PartialsNests
end Go.Proofs.YtoopnalhhfmgaaaGreatDoor
