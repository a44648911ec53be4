/- The functions of the seat in the small language (printed by a program), and that each is the program's. -/
import Derived.Test.YtdjdhecanjmchaaGreatDoorProg
import Derived.Test.YtdjdhecanjmchaaGreatDoorVr
import Derived.KernelRfl
set_option linter.unusedSimpArgs false
set_option linter.unusedVariables false
namespace Go.Proofs.YtdjdhecanjmchaaGreatDoor
open Go Go.V
def m5k0 : MC :=
  .cond (.t 26)
    (.seq (.reg [mc 0 6 (.bool true)] [6])
    (.ret))
    (.skip)
def m5k1 : MC :=
  .cond (.t 50)
    (.seq (.reg [mc 0 6 (.bool false)] [6])
    (.ret))
    (.skip)
def m5k2 : MC :=
  .cond (.t 58)
    (.seq (.reg [mv 0 60 7,mv 1 61 2,oo 2 62 (.slV 1 (.t 60) none (some (.t 61)) none),oc 3 63 24 [.t 62],mv 4 59 63,oo 5 64 (.ext (.t 59) 0),oo 6 65 (.ext (.t 59) 1),oo 7 11 (.alloc [.str [],.sl 1 [] .exact,.sl 4 [] .exact]),⟨8,none,none,.k (.store 3 (.t 11) (.t 64))⟩,mv 9 12 65] [1,12])
    (.seq (.reg [mv 0 66 12,bc 1 67 .neq 66 (.int .i64 41)] [1,67])
    (.cond (.t 67)
      (.seq (.reg [mc 0 6 (.bool false)] [6])
      (.ret))
      (.skip))))
    (.skip)
def m5k3 : MC :=
  .seq (.reg [mv 0 51 2,bc 1 52 .geq 51 (.int .i64 0),mv 2 53 52,gm 3 54 53 true 2,gm 4 55 53 true 7,og 5 56 53 true (.len false (.t 55)),og 6 57 53 true (.bin .lss (.t 54) (.t 56)),oo 7 58 (.pick (.t 53) (.t 57) (.c (.bool false)))] [1,2,7,58])
  (.named [1,2,7,58] m5k2)
def m5k4 : MC :=
  .seq (.reg [mv 0 69 1,oc 1 70 24 [.t 69],mv 2 68 70,oo 3 71 (.ext (.t 68) 0),oo 4 72 (.ext (.t 68) 1),oo 5 13 (.alloc [.str [],.sl 1 [] .exact,.sl 4 [] .exact]),⟨6,none,none,.k (.store 3 (.t 13) (.t 71))⟩,mv 7 14 72] [1,13,14])
  (.seq (.seq (.reg [mv 0 73 14,bc 1 74 .neq 73 (.int .i64 0)] [1,13,74])
  (.cond (.t 74)
    (.seq (.reg [ld 0 75 3 true 13,oo 1 76 (.build [.str [],.sl 1 [] .exact,.sl 4 [] .exact] []),oc 2 77 16 [.t 75,.t 76],mv 3 6 77] [6])
    (.ret))
    (.skip)))
  (.seq (.reg [ld 0 79 3 true 13,oc 1 80 23 [.t 79],mv 2 78 80,oo 3 81 (.ext (.t 78) 0),oo 4 82 (.ext (.t 78) 1),mv 5 15 81,mv 6 16 82] [1,15,16])
  (.seq (.reg [mv 0 83 16,bc 1 84 .eql 83 (.int .i64 0),mv 2 85 84,gm 3 86 85 true 15,og 4 87 85 true (.b2s (.t 86)),gm 5 88 85 true 1,og 6 89 85 true (.b2s (.t 88)),og 7 90 85 true (.bin .eql (.t 87) (.t 89)),oo 8 91 (.pick (.t 85) (.t 90) (.c (.bool false))),mv 9 6 91] [6])
  (.ret))))
def m5k5 : MC :=
  .seq (.seq (.reg [ld 0 27 3 true 3,oc 1 28 22 [.t 27]] [1,2,3,28])
  (.cond (.t 28)
    (.seq (.reg [ld 0 30 3 true 3,oc 1 31 23 [.t 30],mv 2 29 31,oo 3 32 (.ext (.t 29) 0),oo 4 33 (.ext (.t 29) 1),mv 5 7 32,mv 6 8 33] [1,2,3,7,8])
    (.seq (.reg [mv 0 35 7,oc 1 36 24 [.t 35],mv 2 34 36,oo 3 37 (.ext (.t 34) 0),oo 4 38 (.ext (.t 34) 1),oo 5 9 (.alloc [.str [],.sl 1 [] .exact,.sl 4 [] .exact]),⟨6,none,none,.k (.store 3 (.t 9) (.t 37))⟩,mv 7 10 38] [1,2,3,7,8,9,10])
    (.seq (.seq (.reg [mv 0 39 8,bc 1 40 .neq 39 (.int .i64 0),mv 2 41 40,gm 3 42 41 false 10,og 4 43 41 false (.bin .neq (.t 42) (.c (.int .i64 0))),oo 5 44 (.pick (.t 41) (.c (.bool true)) (.t 43)),mv 6 45 44,og 7 46 45 false (.load 3 true (.t 9)),og 8 47 45 false (.load 3 true (.t 3)),⟨9,some 48,(some (45,false)),.call (.f 16) [.t 46,.t 47]⟩,og 10 49 45 false (.un .not (.t 48)),oo 11 50 (.pick (.t 45) (.c (.bool true)) (.t 49))] [1,2,7,50])
    (.named [1,2,7,50] m5k1))
    (.named [1,2,7] m5k3))))
    (.skip)))
  (.named [1] m5k4)
def m5 : MC :=
  .seq (.reg [oo 0 3 (.box (.t 0)),mc 1 6 (.bool false)] [1,2,3])
  (.seq (.seq (.reg [oc 0 17 11 [],oo 1 18 (.un .not (.t 17))] [1,2,3,18])
  (.cond (.t 18)
    (.seq (.reg [mc 0 6 (.bool false)] [6])
    (.ret))
    (.skip)))
  (.seq (.seq (.reg [ld 0 19 3 true 3,oc 1 20 13 [.t 19],oo 2 21 (.un .not (.t 20)),mv 3 22 21,gm 4 23 22 false 1,og 5 24 22 false (.len false (.t 23)),og 6 25 22 false (.bin .gtr (.t 24) (.c (.int .i64 20000))),oo 7 26 (.pick (.t 22) (.c (.bool true)) (.t 25))] [1,2,3,26])
  (.named [1,2,3,26] m5k0))
  (.named [1,2,3] m5k5)))
theorem is5 : FnIs Tryz.prog 5 92 m5 [.t 6] := .of Tryz.call5 Tryz.func5 (by kernel_rfl)
end Go.Proofs.YtdjdhecanjmchaaGreatDoor
