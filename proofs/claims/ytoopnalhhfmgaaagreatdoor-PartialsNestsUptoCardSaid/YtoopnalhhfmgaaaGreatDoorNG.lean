/- Contracts in outline: each function answers (printed by a program). -/
import Derived.Test.YtoopnalhhfmgaaaGreatDoorPA
import Derived.Test.YtoopnalhhfmgaaaGreatDoorQA
set_option linter.defProp false
set_option linter.unusedSimpArgs false
set_option linter.unusedVariables false
namespace Go.Proofs.YtoopnalhhfmgaaaGreatDoor
open Go Go.V
set_option maxRecDepth 100000
variable {gl:List (Nat×List AV)}
def nR {P:Program} {Tb:kI} {e:Fe} {es:List Fe} (h1:aD P e.f e.n e.m e.rv) (h2:(Nat.ble e.sg.ps.length e.n && kx Tb e.O e.sg e.m e.rv)=true) (h3:tu P Tb es):tu P Tb (e::es):=⟨⟨h1,h2⟩,h3⟩
def To {P:Program} {gl:List (Nat×List AV)} (hgn:ae gl) {L:List Fe} {X:List (Nat×az)} {Tb:kI} (hTb:Tb=sw L++tj X) (hX:mK P gl X) (hL:tu P Tb L):∀ e∈L,Spec P gl e.f e.sg (fun _=>True):=MB hgn L X hX (hTb▸hL)
def aaD:az:={bw [tX] [.c .s] 1048576 140737488355325 (⟨5,[(13,4)]⟩) [⟨4398046511104,[(8,-1)]⟩] [⟨130,[(1,10),(2,10),(3,10),(6,10),(8,10),(13,10),(14,-1)]⟩] with pc:=[[⟨-1,[(0,1)]⟩,⟨1,[(0,-1)]⟩,⟨0,[(12,1)]⟩,⟨0,[(12,-1)]⟩],[⟨-2,[(0,1)]⟩,⟨2,[(0,-1)]⟩,⟨0,[(12,1)]⟩,⟨0,[(12,-1)]⟩],[⟨-3,[(0,1)]⟩,⟨3,[(0,-1)]⟩,⟨0,[(12,1)]⟩,⟨0,[(12,-1)]⟩],[⟨-4,[(0,1)]⟩,⟨4,[(0,-1)]⟩,⟨-1,[(12,1)]⟩,⟨1,[(12,-1)]⟩],[⟨-5,[(0,1)]⟩,⟨5,[(0,-1)]⟩,⟨-2,[(12,1)]⟩,⟨2,[(12,-1)]⟩],[⟨-6,[(0,1)]⟩,⟨6,[(0,-1)]⟩,⟨-1,[(12,1)]⟩,⟨1,[(12,-1)]⟩],[⟨-7,[(0,1)]⟩,⟨7,[(0,-1)]⟩,⟨-2,[(12,1)]⟩,⟨2,[(12,-1)]⟩],[⟨-8,[(0,1)]⟩,⟨8,[(0,-1)]⟩,⟨-3,[(12,1)]⟩,⟨3,[(12,-1)]⟩],[⟨-9,[(0,1)]⟩,⟨9,[(0,-1)]⟩,⟨-2,[(12,1)]⟩,⟨2,[(12,-1)]⟩]]}
def af0:az:=bw [tX] [.c .s] 1048576 140737488355324 (⟨4,[(13,4)]⟩) [⟨4398046511104,[(8,-1)]⟩,⟨-2,[(12,1)]⟩,⟨2,[(12,-1)]⟩] [⟨129,[(1,10),(2,10),(3,10),(6,10),(8,10),(13,10),(14,-1)]⟩]
def aju:az:=bw [tX] [.c .s] 1048576 140737488355324 (⟨4,[(13,4)]⟩) [⟨4398046511104,[(8,-1)]⟩,⟨-1,[(12,1)]⟩,⟨1,[(12,-1)]⟩] [⟨129,[(1,10),(2,10),(3,10),(6,10),(8,10),(13,10),(14,-1)]⟩]
def alR:az:=bw [tX] [.c .s] 1048576 140737488355324 (⟨4,[(13,4)]⟩) [⟨4398046511104,[(8,-1)]⟩,⟨-2,[(12,1)]⟩,⟨2,[(12,-1)]⟩] [⟨129,[(1,10),(2,10),(3,10),(6,10),(8,10),(13,10),(14,-1)]⟩]
def ahz:az:={bw [tX,.c (.i .i64)] [.c .s] 1048576 140737488355327 (⟨6,[(13,4)]⟩) [⟨4398046511104,[(8,-1)]⟩] [⟨132,[(1,10),(2,10),(3,10),(6,10),(8,10),(13,10),(15,-1)]⟩] with pc:=[[⟨-1,[(0,1)]⟩,⟨1,[(0,-1)]⟩,⟨0,[(12,1)]⟩,⟨0,[(12,-1)]⟩],[⟨-2,[(0,1)]⟩,⟨2,[(0,-1)]⟩,⟨0,[(12,1)]⟩,⟨0,[(12,-1)]⟩],[⟨-3,[(0,1)]⟩,⟨3,[(0,-1)]⟩,⟨0,[(12,1)]⟩,⟨0,[(12,-1)]⟩],[⟨-4,[(0,1)]⟩,⟨4,[(0,-1)]⟩,⟨-1,[(12,1)]⟩,⟨1,[(12,-1)]⟩],[⟨-5,[(0,1)]⟩,⟨5,[(0,-1)]⟩,⟨-2,[(12,1)]⟩,⟨2,[(12,-1)]⟩],[⟨-6,[(0,1)]⟩,⟨6,[(0,-1)]⟩,⟨-1,[(12,1)]⟩,⟨1,[(12,-1)]⟩],[⟨-7,[(0,1)]⟩,⟨7,[(0,-1)]⟩,⟨-2,[(12,1)]⟩,⟨2,[(12,-1)]⟩],[⟨-8,[(0,1)]⟩,⟨8,[(0,-1)]⟩,⟨-3,[(12,1)]⟩,⟨3,[(12,-1)]⟩],[⟨-9,[(0,1)]⟩,⟨9,[(0,-1)]⟩,⟨-2,[(12,1)]⟩,⟨2,[(12,-1)]⟩]]}
def oN:Fe:=⟨122,71,XY,[.t 2],aaD,aJ [] []⟩
def oe:Fe:=⟨172,58,Y8,[.t 2],af0,aJ [] []⟩
def oa:Fe:=⟨173,28,Z4,[.t 2],aju,aJ [] []⟩
def oI:Fe:=⟨174,29,YR,[.t 2],alR,aJ [] []⟩
def ov:Fe:=⟨175,16,Y2,[.t 4],ahz,aJ [] []⟩
def tO:kI:=sw [oN,oe,oa,oI,ov]++tj [(36,WH),(81,Xd),(171,O9),(214,OU),(215,Nj),(216,NU)]
def aef:(Nat.ble oN.sg.ps.length oN.n && kx tO oN.O oN.sg oN.m oN.rv)=true:=by kernel_rfl
def abu:(Nat.ble oe.sg.ps.length oe.n && kx tO oe.O oe.sg oe.m oe.rv)=true:=by kernel_rfl
def aci:(Nat.ble oa.sg.ps.length oa.n && kx tO oa.O oa.sg oa.m oa.rv)=true:=by kernel_rfl
def acq:(Nat.ble oI.sg.ps.length oI.n && kx tO oI.O oI.sg oI.m oI.rv)=true:=by kernel_rfl
def abr:(Nat.ble ov.sg.ps.length ov.n && kx tO ov.O ov.sg ov.m ov.rv)=true:=by kernel_rfl
def ahg (hg:ae gl):∀ e∈([oN,oe,oa,oI,ov]:List Fe),Spec pg gl e.f e.sg (fun _=>True):=To hg (X:=[(36,WH),(81,Xd),(171,O9),(214,OU),(215,Nj),(216,NU)]) (Tb:=tO) rfl ⟨s36 hg,Zm hg,afS hg,OE hg,aj0 hg,agt hg,trivial⟩ (nR aeH aef (nR acm abu (nR acw aci (nR adR acq (nR abO abr trivial)))))
def ajo (hg:ae gl):Spec pg gl 122 aaD (fun _=>True):=ahg hg _ (.head _)
end Go.Proofs.YtoopnalhhfmgaaaGreatDoor
