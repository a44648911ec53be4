/- slices.SortFunc off the shelf, at this program (laid by the shelf's tools: shelf_lay_g SlLaysF0.n6 Slsf 6 at Tryz 178, made plain by lay-plain). -/
import Derived.Shelf.SlSortCmp.WholeK
import Derived.Test.YtdjdhecanjmchaaGreatDoorProg
set_option linter.unusedSimpArgs false
set_option linter.unusedVariables false
namespace Go.Proofs
open Go.Shelf
def Tryz.sortL_ren : Go.Shelf.Ren := ⟨fun | 6 => 178 | 15 => 207 | 14 => 206 | 28 => 234 | 29 => 222 | 20 => 226 | 21 => 227 | 22 => 228 | 23 => 229 | 24 => 230 | 25 => 231 | 26 => 232 | 27 => 233 | 46 => 244 | 47 => 245 | 48 => 246 | 49 => 247 | 50 => 248 | 57 => 249 | n => n,fun | 22 => 23 | 24 => 53 | 25 => 135 | 3 => 3 | 39 => 114 | 0 => 0 | 53 => 112 | 55 => 58 | 4 => 4 | 46 => 218 | 45 => 217 | 50 => 222 | 5 => 5 | 9 => 9 | 66 => 236 | 70 => 106 | 76 => 242 | 77 => 243 | n => n,fun | n => n⟩
theorem Tryz.sortL : Go.Proofs.SlLaysF0.n6 Tryz.prog Tryz.sortL_ren := {
  mixed := by kernel_rfl
  f6 := ⟨Tryz.f178.name,by decide,Tryz.func178.trans (congrArg some (by kernel_rfl))⟩
  f14 := ⟨Tryz.f206.name,by decide,Tryz.func206.trans (congrArg some (by kernel_rfl))⟩
  f15 := Tryz.func207.trans (congrArg some (by kernel_rfl))
  f20 := ⟨Tryz.f226.name,by decide,Tryz.func226.trans (congrArg some (by kernel_rfl))⟩
  f21 := ⟨Tryz.f227.name,by decide,Tryz.func227.trans (congrArg some (by kernel_rfl))⟩
  f22 := ⟨Tryz.f228.name,by decide,Tryz.func228.trans (congrArg some (by kernel_rfl))⟩
  f23 := ⟨Tryz.f229.name,by decide,Tryz.func229.trans (congrArg some (by kernel_rfl))⟩
  f24 := ⟨Tryz.f230.name,by decide,Tryz.func230.trans (congrArg some (by kernel_rfl))⟩
  f25 := ⟨Tryz.f231.name,by decide,Tryz.func231.trans (congrArg some (by kernel_rfl))⟩
  f26 := ⟨Tryz.f232.name,by decide,Tryz.func232.trans (congrArg some (by kernel_rfl))⟩
  f27 := ⟨Tryz.f233.name,by decide,Tryz.func233.trans (congrArg some (by kernel_rfl))⟩
  f28 := Tryz.func234.trans (congrArg some (by kernel_rfl))
  f29 := Tryz.func222.trans (congrArg some (by kernel_rfl))
  f46 := ⟨Tryz.f244.name,by decide,Tryz.func244.trans (congrArg some (by kernel_rfl))⟩
  f47 := Tryz.func245.trans (congrArg some (by kernel_rfl))
  f48 := Tryz.func246.trans (congrArg some (by kernel_rfl))
  f49 := ⟨Tryz.f247.name,by decide,Tryz.func247.trans (congrArg some (by kernel_rfl))⟩
  f50 := ⟨Tryz.f248.name,by decide,Tryz.func248.trans (congrArg some (by kernel_rfl))⟩
  f57 := ⟨Tryz.f249.name,by decide,Tryz.func249.trans (congrArg some (by kernel_rfl))⟩
  t0 := Tryz.underlying0
  a0 := Tryz.isAgg0
  z0 := Tryz.sizeOf0
  v0 := Tryz.zeroValue0
  t3 := Tryz.underlying3
  a3 := Tryz.isAgg3
  z3 := Tryz.sizeOf3
  v3 := Tryz.zeroValue3
  t4 := Tryz.underlying4
  a4 := Tryz.isAgg4
  z4 := Tryz.sizeOf4
  v4 := Tryz.zeroValue4
  t5 := Tryz.underlying5
  a5 := Tryz.isAgg5
  z5 := Tryz.sizeOf5
  v5 := Tryz.zeroValue5
  t9 := Tryz.underlying9
  a9 := Tryz.isAgg9
  z9 := Tryz.sizeOf9
  v9 := Tryz.zeroValue9
  t22 := Tryz.underlying23
  a22 := Tryz.isAgg23
  z22 := Tryz.sizeOf23
  v22 := Tryz.zeroValue23
  t25 := Tryz.underlying135
  a25 := Tryz.isAgg135
  z25 := Tryz.sizeOf135
  v25 := Tryz.zeroValue135
  t39 := Tryz.underlying114
  a39 := Tryz.isAgg114
  z39 := Tryz.sizeOf114
  v39 := Tryz.zeroValue114
  t45 := Tryz.underlying217
  a45 := Tryz.isAgg217
  z45 := Tryz.sizeOf217
  v45 := Tryz.zeroValue217
  t46 := Tryz.underlying218
  a46 := Tryz.isAgg218
  z46 := Tryz.sizeOf218
  v46 := Tryz.zeroValue218
  t50 := Tryz.underlying222
  a50 := Tryz.isAgg222
  z50 := Tryz.sizeOf222
  v50 := Tryz.zeroValue222
  t53 := Tryz.underlying112
  a53 := Tryz.isAgg112
  z53 := Tryz.sizeOf112
  v53 := Tryz.zeroValue112
  t55 := Tryz.underlying58
  a55 := Tryz.isAgg58
  z55 := Tryz.sizeOf58
  v55 := Tryz.zeroValue58
  t66 := Tryz.underlying236
  a66 := Tryz.isAgg236
  z66 := Tryz.sizeOf236
  v66 := Tryz.zeroValue236
  t70 := Tryz.underlying106
  a70 := Tryz.isAgg106
  z70 := Tryz.sizeOf106
  v70 := Tryz.zeroValue106
  t76 := Tryz.underlying242
  a76 := Tryz.isAgg242
  z76 := Tryz.sizeOf242
  v76 := Tryz.zeroValue242
  t77 := Tryz.underlying243
  a77 := Tryz.isAgg243
  z77 := Tryz.sizeOf243
  v77 := Tryz.zeroValue243 }
end Go.Proofs
