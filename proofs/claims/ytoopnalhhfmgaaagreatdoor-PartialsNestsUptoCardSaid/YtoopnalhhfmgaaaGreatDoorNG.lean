/- Contracts in outline: each function answers (printed by a program). -/
import Derived.Test.YtoopnalhhfmgaaaGreatDoorPA
import Derived.Test.YtoopnalhhfmgaaaGreatDoorQA
set_option linter.defProp false
set_option linter.unusedSimpArgs false
set_option linter.unusedVariables false
namespace Go.Proofs.YtoopnalhhfmgaaaGreatDoor
open Go Go.V
set_option maxRecDepth 100000
variable {gl:List (Nat×List AV)}
def nE {P:Program} {Tb:kL} {e:Fe} {es:List Fe} (h1:aD P e.f e.n e.m e.rv) (h2:(Nat.ble e.sg.ps.length e.n && kt Tb e.O e.sg e.m e.rv)=true) (h3:tD P Tb es):tD P Tb (e::es):=⟨⟨h1,h2⟩,h3⟩
def TN {P:Program} {gl:List (Nat×List AV)} (hgn:ae gl) {L:List Fe} {X:List (Nat×az)} {Tb:kL} (hTb:Tb=sZ L++sv X) (hX:mD P gl X) (hL:tD P Tb L):∀ e∈L,Spec P gl e.f e.sg (fun _=>True):=Lb hgn L X hX (hTb▸hL)
def Xb:az:={bx [tX] [.c .s] 1048576 140737488355325 (⟨5,[(13,4)]⟩) [⟨4398046511104,[(8,-1)]⟩] [⟨130,[(1,10),(2,10),(3,10),(6,10),(8,10),(13,10),(14,-1)]⟩] with pc:=[[⟨-1,[(0,1)]⟩,⟨1,[(0,-1)]⟩,⟨0,[(12,1)]⟩,⟨0,[(12,-1)]⟩],[⟨-2,[(0,1)]⟩,⟨2,[(0,-1)]⟩,⟨0,[(12,1)]⟩,⟨0,[(12,-1)]⟩],[⟨-3,[(0,1)]⟩,⟨3,[(0,-1)]⟩,⟨0,[(12,1)]⟩,⟨0,[(12,-1)]⟩],[⟨-4,[(0,1)]⟩,⟨4,[(0,-1)]⟩,⟨-1,[(12,1)]⟩,⟨1,[(12,-1)]⟩],[⟨-5,[(0,1)]⟩,⟨5,[(0,-1)]⟩,⟨-2,[(12,1)]⟩,⟨2,[(12,-1)]⟩],[⟨-6,[(0,1)]⟩,⟨6,[(0,-1)]⟩,⟨-1,[(12,1)]⟩,⟨1,[(12,-1)]⟩],[⟨-7,[(0,1)]⟩,⟨7,[(0,-1)]⟩,⟨-2,[(12,1)]⟩,⟨2,[(12,-1)]⟩],[⟨-8,[(0,1)]⟩,⟨8,[(0,-1)]⟩,⟨-3,[(12,1)]⟩,⟨3,[(12,-1)]⟩],[⟨-9,[(0,1)]⟩,⟨9,[(0,-1)]⟩,⟨-2,[(12,1)]⟩,⟨2,[(12,-1)]⟩]]}
def ahE:az:=bx [tX] [.c .s] 1048576 140737488355324 (⟨4,[(13,4)]⟩) [⟨4398046511104,[(8,-1)]⟩,⟨-2,[(12,1)]⟩,⟨2,[(12,-1)]⟩] [⟨129,[(1,10),(2,10),(3,10),(6,10),(8,10),(13,10),(14,-1)]⟩]
def ahF:az:=bx [tX] [.c .s] 1048576 140737488355324 (⟨4,[(13,4)]⟩) [⟨4398046511104,[(8,-1)]⟩,⟨-1,[(12,1)]⟩,⟨1,[(12,-1)]⟩] [⟨129,[(1,10),(2,10),(3,10),(6,10),(8,10),(13,10),(14,-1)]⟩]
def ahG:az:=bx [tX] [.c .s] 1048576 140737488355324 (⟨4,[(13,4)]⟩) [⟨4398046511104,[(8,-1)]⟩,⟨-2,[(12,1)]⟩,⟨2,[(12,-1)]⟩] [⟨129,[(1,10),(2,10),(3,10),(6,10),(8,10),(13,10),(14,-1)]⟩]
def ahH:az:={bx [tX,.c (.i .i64)] [.c .s] 1048576 140737488355327 (⟨6,[(13,4)]⟩) [⟨4398046511104,[(8,-1)]⟩] [⟨132,[(1,10),(2,10),(3,10),(6,10),(8,10),(13,10),(15,-1)]⟩] with pc:=[[⟨-1,[(0,1)]⟩,⟨1,[(0,-1)]⟩,⟨0,[(12,1)]⟩,⟨0,[(12,-1)]⟩],[⟨-2,[(0,1)]⟩,⟨2,[(0,-1)]⟩,⟨0,[(12,1)]⟩,⟨0,[(12,-1)]⟩],[⟨-3,[(0,1)]⟩,⟨3,[(0,-1)]⟩,⟨0,[(12,1)]⟩,⟨0,[(12,-1)]⟩],[⟨-4,[(0,1)]⟩,⟨4,[(0,-1)]⟩,⟨-1,[(12,1)]⟩,⟨1,[(12,-1)]⟩],[⟨-5,[(0,1)]⟩,⟨5,[(0,-1)]⟩,⟨-2,[(12,1)]⟩,⟨2,[(12,-1)]⟩],[⟨-6,[(0,1)]⟩,⟨6,[(0,-1)]⟩,⟨-1,[(12,1)]⟩,⟨1,[(12,-1)]⟩],[⟨-7,[(0,1)]⟩,⟨7,[(0,-1)]⟩,⟨-2,[(12,1)]⟩,⟨2,[(12,-1)]⟩],[⟨-8,[(0,1)]⟩,⟨8,[(0,-1)]⟩,⟨-3,[(12,1)]⟩,⟨3,[(12,-1)]⟩],[⟨-9,[(0,1)]⟩,⟨9,[(0,-1)]⟩,⟨-2,[(12,1)]⟩,⟨2,[(12,-1)]⟩]]}
def ov:Fe:=⟨122,71,Yi,[.t 2],Xb,aJ [] []⟩
def ow:Fe:=⟨172,58,Y1,[.t 2],ahE,aJ [] []⟩
def oz:Fe:=⟨173,28,Y2,[.t 2],ahF,aJ [] []⟩
def oA:Fe:=⟨174,29,Y3,[.t 2],ahG,aJ [] []⟩
def oC:Fe:=⟨175,16,Y4,[.t 4],ahH,aJ [] []⟩
def tZ:kL:=sZ [ov,ow,oz,oA,oC]++sv [(36,Xc),(81,Xd),(171,NY),(214,NZ),(215,N0),(216,N5)]
def acX:(Nat.ble ov.sg.ps.length ov.n && kt tZ ov.O ov.sg ov.m ov.rv)=true:=by kernel_rfl
def acY:(Nat.ble ow.sg.ps.length ow.n && kt tZ ow.O ow.sg ow.m ow.rv)=true:=by kernel_rfl
def acZ:(Nat.ble oz.sg.ps.length oz.n && kt tZ oz.O oz.sg oz.m oz.rv)=true:=by kernel_rfl
def ac0:(Nat.ble oA.sg.ps.length oA.n && kt tZ oA.O oA.sg oA.m oA.rv)=true:=by kernel_rfl
def ac1:(Nat.ble oC.sg.ps.length oC.n && kt tZ oC.O oC.sg oC.m oC.rv)=true:=by kernel_rfl
def akG (hg:ae gl):∀ e∈([ov,ow,oz,oA,oC]:List Fe),Spec pg gl e.f e.sg (fun _=>True):=TN hg (X:=[(36,Xc),(81,Xd),(171,NY),(214,NZ),(215,N0),(216,N5)]) (Tb:=tZ) rfl ⟨s36 hg,s81 hg,akY hg,Pd hg,alb hg,alc hg,trivial⟩ (nE ade acX (nE adt acY (nE adu acZ (nE adv ac0 (nE adw ac1 trivial)))))
def akO (hg:ae gl):Spec pg gl 122 Xb (fun _=>True):=akG hg _ (.head _)
end Go.Proofs.YtoopnalhhfmgaaaGreatDoor
