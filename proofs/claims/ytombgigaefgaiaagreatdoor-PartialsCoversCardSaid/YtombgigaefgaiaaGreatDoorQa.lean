/- The functions of the seat in the small language (printed by a program), and that each is the program's. -/
import Derived.Test.YtombgigaefgaiaaGreatDoorProg
import Derived.Test.YtombgigaefgaiaaGreatDoorVr
import Derived.KernelRfl
set_option linter.unusedSimpArgs false
set_option linter.unusedVariables false
namespace Go.Proofs.YtombgigaefgaiaaGreatDoor
open Go Go.V
def m4k0 : MC :=
  .cond (.t 44)
    (.seq (.reg [mc 0 0 (.bool false)] [0])
    (.ret))
    (.skip)
def m4k1 : MC :=
  .cond (.t 63)
    (.seq (.reg [mc 0 0 (.bool false)] [0])
    (.ret))
    (.skip)
def m4k2 : MC :=
  .seq (.reg [oc 0 64 16 [.c (.int .i64 5),.c (.int .i64 1),.c (.int .u64 100)],oo 1 65 (.mkSl 6 [.int .i64 0,.int .i64 0,.int .i64 0,.int .u64 0,.sl 6 [] .exact,.sl 2 [] .exact] [.t 64]),mv 2 8 65] [1,2,3,4,8])
  (.seq (.reg [ld 0 66 4 true 1,mv 1 67 3,ld 2 68 12 true 2,⟨3,some 69,none,.call (.f 14) [.t 66,.t 67,.t 68,.c (.str [117]),.c (.int .i64 100)]⟩,mv 4 9 69] [1,2,3,4,8,9])
  (.seq (.reg [ld 0 70 4 true 1,mv 1 71 3,mv 2 72 4,ld 3 73 12 true 2,⟨4,some 74,none,.call (.f 17) [.t 70,.t 71,.t 72,.t 73,.c (.str [117]),.c (.int .i64 5),.c (.int .i64 13)]⟩,oo 5 75 (.build [.int .i64 0,.int .i64 0,.str []] [(0,1,.c (.int .i64 2)),(1,1,.c (.int .i64 9))]),oo 6 76 (.eqv [.i,.i,.s] false (.t 74) (.t 75)),mv 7 77 76,og 8 78 77 true (.load 4 true (.t 1)),gm 9 79 77 true 3,gm 10 80 77 true 8,og 11 81 77 true (.load 12 true (.t 2)),⟨12,some 82,(some (77,true)),.call (.f 17) [.t 78,.t 79,.t 80,.t 81,.c (.str [117]),.c (.int .i64 5),.c (.int .i64 13)]⟩,og 13 83 77 true (.build [.int .i64 0,.int .i64 0,.str []] [(0,1,.c (.int .i64 2)),(1,1,.c (.int .i64 107))]),og 14 84 77 true (.eqv [.i,.i,.s] false (.t 82) (.t 83)),oo 15 85 (.pick (.t 77) (.t 84) (.c (.bool false))),mv 16 86 85,og 17 87 86 true (.load 4 true (.t 1)),gm 18 88 86 true 3,gm 19 89 86 true 9,og 20 90 86 true (.load 12 true (.t 2)),⟨21,some 91,(some (86,true)),.call (.f 17) [.t 87,.t 88,.t 89,.t 90,.c (.str [117]),.c (.int .i64 100),.c (.int .i64 12)]⟩,og 22 92 86 true (.build [.int .i64 0,.int .i64 0,.str []] [(0,1,.c (.int .i64 2)),(1,1,.c (.int .i64 6))]),og 23 93 86 true (.eqv [.i,.i,.s] false (.t 91) (.t 92)),oo 24 94 (.pick (.t 86) (.t 93) (.c (.bool false))),mv 25 0 94] [0])
  (.ret)))
def m4k3 : MC :=
  .seq (.reg [oo 0 46 (.build [.int .i64 0,.int .i64 0] [(0,1,.c (.int .i64 7)),(1,1,.c (.int .i64 21))]),oc 1 47 5 [.t 46,.c (.int .i64 20)],mv 2 45 47,oo 3 48 (.ext (.t 45) 0),oo 4 49 (.ext (.t 45) 1),oo 5 50 (.ext (.t 45) 2),⟨6,none,none,.k (.store 2 (.t 5) (.t 48))⟩,mv 7 6 49,mv 8 7 50] [1,2,3,4,5,6,7])
  (.seq (.seq (.reg [mv 0 51 6,mv 1 52 51,og 2 53 52 false (.load 2 true (.t 5)),og 3 54 52 false (.build [.int .i64 0,.int .i64 0] []),og 4 55 52 false (.eqv [.i,.i] true (.t 53) (.t 54)),oo 5 56 (.pick (.t 52) (.c (.bool true)) (.t 55)),mv 6 57 56,gm 7 58 57 false 7,og 8 59 57 false (.build [.int .i64 0,.int .i64 0] [(0,1,.c (.int .i64 7)),(1,1,.c (.int .i64 21))]),og 9 60 57 false (.mkSl 2 [.int .i64 0,.int .i64 0] [.t 59]),⟨10,some 61,(some (57,false)),.call (.f 7) [.t 58,.t 60]⟩,og 11 62 57 false (.un .not (.t 61)),oo 12 63 (.pick (.t 57) (.c (.bool true)) (.t 62))] [1,2,3,4,63])
  (.named [1,2,3,4,63] m4k1))
  (.named [1,2,3,4] m4k2))
def m4 : MC :=
  .seq (.reg [mc 0 0 (.bool false)] [])
  (.seq (.reg [oc 0 10 11 [],oc 1 11 12 [],oc 2 12 13 [],oo 3 1 (.alloc [.sl 4 [] .exact,.sl 18 [] .exact,.sl 18 [] .exact,.sl 18 [] .exact]),oo 4 2 (.alloc [.int .i64 0,.str [],.str [],.str [],.int .i64 0,.int .i64 0,.str [],.sl 2 [] .exact,.int .i64 0,.int .i64 0,.int .i64 0,.sl 12 [] .exact]),⟨5,none,none,.k (.store 4 (.t 1) (.t 10))⟩,⟨6,none,none,.k (.store 12 (.t 2) (.t 11))⟩,mv 7 3 12] [1,2,3])
  (.seq (.reg [ld 0 13 4 true 1,mv 1 14 3,ld 2 15 12 true 2,⟨3,some 16,none,.call (.f 14) [.t 13,.t 14,.t 15,.c (.str [117]),.c (.int .i64 5)]⟩,mv 4 4 16] [1,2,3,4])
  (.seq (.seq (.reg [mv 0 17 4,oc 1 18 16 [.c (.int .i64 0),.c (.int .i64 1),.c (.int .u64 1)],oc 2 19 16 [.c (.int .i64 5),.c (.int .i64 1),.c (.int .u64 2)],oc 3 20 16 [.c (.int .i64 10),.c (.int .i64 2),.c (.int .u64 7)],oo 4 21 (.mkSl 6 [.int .i64 0,.int .i64 0,.int .i64 0,.int .u64 0,.sl 6 [] .exact,.sl 2 [] .exact] [.t 18,.t 19,.t 20]),oc 5 22 15 [.t 17,.t 21],oo 6 23 (.un .not (.t 22))] [1,2,3,4,23])
  (.cond (.t 23)
    (.seq (.reg [mc 0 0 (.bool false)] [0])
    (.ret))
    (.skip)))
  (.seq (.reg [oo 0 25 (.build [.int .i64 0,.int .i64 0] [(0,1,.c (.int .i64 4)),(1,1,.c (.int .i64 13))]),oc 1 26 5 [.t 25,.c (.int .i64 5)],mv 2 24 26,oo 3 27 (.ext (.t 24) 0),oo 4 28 (.ext (.t 24) 1),oo 5 29 (.ext (.t 24) 2),oo 6 5 (.alloc [.int .i64 0,.int .i64 0]),⟨7,none,none,.k (.store 2 (.t 5) (.t 27))⟩,mv 8 6 28,mv 9 7 29] [1,2,3,4,5,6,7])
  (.seq (.seq (.reg [mv 0 30 6,oo 1 31 (.un .not (.t 30)),mv 2 32 31,og 3 33 32 false (.load 2 true (.t 5)),og 4 34 32 false (.build [.int .i64 0,.int .i64 0] [(0,1,.c (.int .i64 5)),(1,1,.c (.int .i64 9))]),og 5 35 32 false (.eqv [.i,.i] true (.t 33) (.t 34)),oo 6 36 (.pick (.t 32) (.c (.bool true)) (.t 35)),mv 7 37 36,gm 8 38 37 false 7,og 9 39 37 false (.build [.int .i64 0,.int .i64 0] [(0,1,.c (.int .i64 4)),(1,1,.c (.int .i64 4))]),og 10 40 37 false (.build [.int .i64 0,.int .i64 0] [(0,1,.c (.int .i64 10)),(1,1,.c (.int .i64 13))]),og 11 41 37 false (.mkSl 2 [.int .i64 0,.int .i64 0] [.t 39,.t 40]),⟨12,some 42,(some (37,false)),.call (.f 7) [.t 38,.t 41]⟩,og 13 43 37 false (.un .not (.t 42)),oo 14 44 (.pick (.t 37) (.c (.bool true)) (.t 43))] [1,2,3,4,5,44])
  (.named [1,2,3,4,5,44] m4k0))
  (.named [1,2,3,4,5] m4k3))))))
theorem is4 : FnIs Tryz.prog 4 95 m4 [.t 0] := .of Tryz.call4 Tryz.func4 (by kernel_rfl)
def m5k0 : MC :=
  .cond (.t 17)
    (.seq (.reg [ld 0 18 2 true 4,⟨1,none,none,.k (.store 2 (.t 4) (.t 18))⟩,mc 2 5 (.bool false),mc 3 6 (.sl 2 [] .exact)] [4,5,6])
    (.ret))
    (.skip)
def m5k1 : MC :=
  .seq (.reg [mv 0 69 7,mv 1 70 9,oo 2 71 (.build [.int .i64 0,.int .i64 0] [(0,1,.t 69),(1,1,.t 70)]),mv 3 72 6,⟨4,none,none,.k (.store 2 (.t 4) (.t 71))⟩,mc 5 5 (.bool true),mv 6 6 72] [4,5,6])
  (.ret)
def m5k2 : MC :=
  .seq (.seq (.reg [mv 0 57 9,fa 1 58 1 2,ld 2 59 1 false 58,bi 3 60 .lss 57 59] [2,4,6,7,9,60])
  (.cond (.t 60)
    (.reg [mv 0 61 6,mv 1 62 9,bc 2 63 .add 62 (.int .i64 1),fa 3 64 1 2,ld 4 65 1 false 64,oo 5 66 (.build [.int .i64 0,.int .i64 0] [(0,1,.t 63),(1,1,.t 65)]),oo 6 67 (.mkSl 2 [.int .i64 0,.int .i64 0] [.t 66]),oo 7 68 (.app 2 16 (.t 61) (.t 67)),mv 8 6 68] [4,6,7,9])
    (.skip)))
  (.named [4,6,7,9] m5k1)
def m5k3 : MC :=
  .seq (.any (on1 (fa 0 31 1 2) <|
      on1 (ld 1 32 1 false 31) <|
      on1 (fa 2 33 1 2) <|
      on1 (ld 3 34 1 false 33) <|
      on1 (bc 4 35 .add 34 (.int .i64 1)) <|
      on1 (mv 5 36 1) <|
      on1 (bi 6 37 .rem 35 36) <|
      on1 (bi 7 38 .sub 32 37) <|
      on1 (mv 8 9 38) <|
      .done) [] [2,4,6,7,9])
  (.seq (.seq (.reg [mv 0 39 9,mv 1 40 7,bi 2 41 .lss 39 40] [2,4,6,7,9,41])
  (.cond (.t 41)
    (.seq (.any (on1 (ld 0 42 2 true 4) <|
        .one (ld 1 43 2 true 2) true false <|
        on1 (oo 2 44 (.mkSl 2 [.int .i64 0,.int .i64 0] [.t 43])) <|
        .one ⟨3,none,none,.k (.store 2 (.t 4) (.t 42))⟩ false true <|
        on1 (mc 4 5 (.bool false)) <|
        on1 (mv 5 6 44) <|
        .done) [2] [4,5,6])
    (.ret))
    (.skip)))
  (.seq (.seq (.reg [mv 0 45 7,fa 1 46 0 2,ld 2 47 1 false 46,bi 3 48 .gtr 45 47] [2,4,6,7,9,48])
  (.cond (.t 48)
    (.reg [mv 0 49 6,fa 1 50 0 2,ld 2 51 1 false 50,mv 3 52 7,bc 4 53 .sub 52 (.int .i64 1),oo 5 54 (.build [.int .i64 0,.int .i64 0] [(0,1,.t 51),(1,1,.t 53)]),oo 6 55 (.mkSl 2 [.int .i64 0,.int .i64 0] [.t 54]),oo 7 56 (.app 2 16 (.t 49) (.t 55)),mv 8 6 56] [2,4,6,7,9])
    (.skip)))
  (.named [2,4,6,7,9] m5k2)))
def m5k4 : MC :=
  .seq (.reg [fa 0 19 0 2,ld 1 20 1 false 19,mv 2 7 20] [1,2,4,6,7])
  (.seq (.seq (.reg [mv 0 21 7,mv 1 22 1,bi 2 23 .rem 21 22,mv 3 8 23] [1,2,4,6,7,8])
  (.seq (.reg [mv 0 24 8,bc 1 25 .gtr 24 (.int .i64 0)] [1,2,4,6,7,8,25])
  (.cond (.t 25)
    (.reg [mv 0 26 7,mv 1 27 1,mv 2 28 8,bi 3 29 .sub 27 28,bi 4 30 .add 26 29,mv 5 7 30] [1,2,4,6,7])
    (.skip))))
  (.named [1,2,4,6,7] m5k3))
def m5 : MC :=
  .seq (.reg [oo 0 2 (.box (.t 0)),oo 1 4 (.alloc [.int .i64 0,.int .i64 0]),mc 2 5 (.bool false),mc 3 6 (.sl 2 [] .exact)] [1,2,4,6])
  (.seq (.seq (.reg [ld 0 10 2 true 2,oc 1 11 18 [.t 10],bc 2 12 .neq 11 (.int .i64 0),mv 3 13 12,gm 4 14 13 false 1,⟨5,some 15,(some (13,false)),.call (.f 19) [.t 14]⟩,og 6 16 13 false (.un .not (.t 15)),oo 7 17 (.pick (.t 13) (.c (.bool true)) (.t 16))] [1,2,4,6,17])
  (.named [1,2,4,6,17] m5k0))
  (.named [1,2,4,6] m5k4))
theorem is5 : FnIs Tryz.prog 5 73 m5 [.c 4 2 true,.t 5,.t 6] := .of Tryz.call5 Tryz.func5 (by kernel_rfl)
def m7l0 : MC :=
  .seq (.seq (.reg [mv 0 11 5,mv 1 12 0,oo 2 13 (.len false (.t 12)),bi 3 14 .lss 11 13] [0,1,5,14])
  (.cond (.t 14)
    (.skip)
    (.exit 0)))
  (.seq (.block 1
    (.seq (.any (on1 (mv 0 17 0) <|
        on1 (mv 1 18 5) <|
        on1 (oo 2 19 (.iadr 2 (.t 17) (.t 18))) <|
        on1 (ld 3 20 2 true 19) <|
        on1 (mv 4 21 1) <|
        on1 (mv 5 22 5) <|
        on1 (oo 6 23 (.iadr 2 (.t 21) (.t 22))) <|
        on1 (ld 7 24 2 true 23) <|
        on1 (oo 8 25 (.eqv [.i,.i] true (.t 20) (.t 24))) <|
        .done) [] [0,1,5,25])
    (.cond (.t 25)
      (.seq (.reg [mc 0 4 (.bool false)] [4])
      (.ret))
      (.skip))))
  (.reg [mv 0 15 5,bc 1 16 .add 15 (.int .i64 1),mv 2 5 16] [0,1,5]))
def m7k0 : MC :=
  .seq (.reg [mc 0 4 (.bool true)] [4])
  (.ret)
def m7 : MC :=
  .seq (.reg [mc 0 4 (.bool false)] [0,1])
  (.seq (.seq (.reg [mv 0 6 0,oo 1 7 (.len false (.t 6)),mv 2 8 1,oo 3 9 (.len false (.t 8)),bi 4 10 .neq 7 9] [0,1,10])
  (.cond (.t 10)
    (.seq (.reg [mc 0 4 (.bool false)] [4])
    (.ret))
    (.skip)))
  (.seq (.seq (.reg [mc 0 5 (.int .i64 0)] [0,1,5])
  (.block 0
    (.loop m7l0)))
  (.named [] m7k0)))
theorem is7 : FnIs Tryz.prog 7 26 m7 [.t 4] := .of Tryz.call7 Tryz.func7 (by kernel_rfl)
def m11 : MC :=
  .seq (.reg [oo 0 0 (.alloc [.sl 4 [] .exact,.sl 18 [] .exact,.sl 18 [] .exact,.sl 18 [] .exact])] [0])
  (.seq (.reg [oo 0 1 (.build [.int .i64 0,.sl 2 [] .exact,.str []] [(0,1,.c (.int .i64 2))]),oo 1 2 (.build [.str [],.int .i64 0,.sl 2 [] .exact,.str []] [(0,1,.c (.str [110])),(1,3,.t 1)]),oo 2 3 (.mkSl 4 [.str [],.int .i64 0,.sl 2 [] .exact,.str []] [.t 2]),oo 3 4 (.build [.str [],.str [],.sl 4 [] .exact,.int .i64 0] [(0,1,.c (.str [99,108,105,99,107,115])),(1,1,.c (.str [117,115,101,114])),(2,1,.t 3)]),oo 4 5 (.mkSl 4 [.str [],.str [],.sl 4 [] .exact,.int .i64 0] [.t 4]),oo 5 6 (.build [.sl 4 [] .exact,.sl 18 [] .exact,.sl 18 [] .exact,.sl 18 [] .exact] [(0,1,.t 5)]),⟨6,none,none,.k (.store 4 (.t 0) (.t 6))⟩] [0])
  (.ret))
theorem is11 : FnIs Tryz.prog 11 7 m11 [.c 0 4 true] := .of Tryz.call11 Tryz.func11 (by kernel_rfl)
def m12 : MC :=
  .seq (.reg [oo 0 0 (.alloc [.int .i64 0,.str [],.str [],.str [],.int .i64 0,.int .i64 0,.str [],.sl 2 [] .exact,.int .i64 0,.int .i64 0,.int .i64 0,.sl 12 [] .exact])] [0])
  (.seq (.reg [oo 0 1 (.build [.int .i64 0,.int .i64 0] [(0,1,.c (.int .i64 2)),(1,1,.c (.int .i64 10))]),oo 1 2 (.build [.int .i64 0,.str [],.str [],.str [],.int .i64 0,.int .i64 0,.str [],.sl 2 [] .exact,.int .i64 0,.int .i64 0,.int .i64 0,.sl 12 [] .exact] [(0,1,.c (.int .i64 2)),(2,1,.c (.str [110]))]),oc 2 3 24 [],oo 3 4 (.mkSl 12 [.int .i64 0,.str [],.str [],.str [],.int .i64 0,.int .i64 0,.str [],.sl 2 [] .exact,.int .i64 0,.int .i64 0,.int .i64 0,.sl 12 [] .exact] [.t 2,.t 3]),oo 4 5 (.build [.int .i64 0,.str [],.str [],.str [],.int .i64 0,.int .i64 0,.str [],.sl 2 [] .exact,.int .i64 0,.int .i64 0,.int .i64 0,.sl 12 [] .exact] [(0,1,.c (.int .i64 5)),(1,1,.c (.str [115,117,109])),(3,1,.c (.str [99,108,105,99,107,115])),(9,2,.t 1),(11,1,.t 4)]),⟨5,none,none,.k (.store 12 (.t 0) (.t 5))⟩] [0])
  (.ret))
theorem is12 : FnIs Tryz.prog 12 6 m12 [.c 0 12 true] := .of Tryz.call12 Tryz.func12 (by kernel_rfl)
def m13l0 : MC :=
  .seq (.seq (.reg [mv 0 5 3,mv 1 6 1,oo 2 7 (.len false (.t 6)),bi 3 8 .lss 5 7] [1,2,3,8])
  (.cond (.t 8)
    (.skip)
    (.exit 0)))
  (.seq (.block 1
    (.reg [mv 0 11 2,mv 1 12 3,bc 2 13 .add 12 (.int .i64 1),oo 3 14 (.build [.str [],.int .i64 0] [(0,1,.c (.str [115])),(1,1,.t 13)]),mv 4 15 1,mv 5 16 3,oo 6 17 (.iadr 1 (.t 15) (.t 16)),ld 7 18 1 false 17,mv 8 19 3,bc 9 20 .add 19 (.int .i64 1),oo 10 21 (.build [.int .i64 0,.int .i64 0,.str []] [(0,1,.c (.int .i64 2)),(1,1,.t 20)]),oo 11 22 (.mkSl 3 [.int .i64 0,.int .i64 0,.str []] [.t 21]),oo 12 23 (.build [.str [],.int .i64 0,.str [],.str [],.int .i64 0,.sl 3 [] .exact,.int .i64 0,.int .i64 0] [(0,2,.t 14),(2,1,.c (.str [99,108,105,99,107,115])),(3,1,.c (.str [117])),(4,1,.t 18),(5,1,.t 22)]),oo 13 24 (.mkSl 8 [.str [],.int .i64 0,.str [],.str [],.int .i64 0,.sl 3 [] .exact,.int .i64 0,.int .i64 0] [.t 23]),oo 14 25 (.app 8 104 (.t 11) (.t 24)),mv 15 2 25] [1,2,3]))
  (.reg [mv 0 9 3,bc 1 10 .add 9 (.int .i64 1),mv 2 3 10] [1,2,3]))
def m13k0 : MC :=
  .seq (.reg [mv 0 26 2,mv 1 0 26] [0])
  (.ret)
def m13 : MC :=
  .seq (.reg [mc 0 0 (.sl 8 [] .exact)] [])
  (.seq (.reg [oo 0 4 (.mkSl 1 [.int .i64 0] [.c (.int .i64 3),.c (.int .i64 7),.c (.int .i64 12),.c (.int .i64 13)]),mv 1 1 4] [1])
  (.seq (.reg [mc 0 2 (.sl 8 [] .exact)] [1,2])
  (.seq (.seq (.reg [mc 0 3 (.int .i64 0)] [1,2,3])
  (.block 0
    (.loop m13l0)))
  (.named [2] m13k0))))
theorem is13 : FnIs Tryz.prog 13 27 m13 [.t 0] := .of Tryz.call13 Tryz.func13 (by kernel_rfl)
def m14k0 : MC :=
  .cond (.t 18)
    (.seq (.reg [mc 0 10 (.sl 6 [] .exact)] [10])
    (.ret))
    (.skip)
def m14k1 : MC :=
  .seq (.any (on1 (fa 0 19 1 7) <|
      .one (ld 1 20 1 false 19) true false <|
      .one (ld 2 21 4 true 5) true false <|
      on1 (mv 3 22 1) <|
      .one (ld 4 23 12 true 7) true false <|
      on1 (mv 5 24 3) <|
      on1 (mv 7 26 4) <|
      .one (oc 6 25 26 [.t 21,.t 22,.t 23,.t 24]) false true <|
      .one (oc 8 27 25 [.t 20,.t 25,.t 26]) false true <|
      on1 (mv 9 10 27) <|
      .done) [5,7] [10])
  (.ret)
def m14 : MC :=
  .seq (.reg [oo 0 5 (.box (.t 0)),oo 1 7 (.box (.t 2)),mc 2 10 (.sl 6 [] .exact)] [1,3,4,5,7])
  (.seq (.seq (.reg [fa 0 11 0 7,ld 1 12 1 false 11,bc 2 13 .neq 12 (.int .i64 5),mv 3 14 13,gm 4 15 14 false 4,⟨5,some 16,(some (14,false)),.call (.f 19) [.t 15]⟩,og 6 17 14 false (.un .not (.t 16)),oo 7 18 (.pick (.t 14) (.c (.bool true)) (.t 17))] [1,3,4,5,7,18])
  (.named [1,3,4,5,7,18] m14k0))
  (.named [1,3,4,5,7] m14k1))
theorem is14 : FnIs Tryz.prog 14 28 m14 [.t 10] := .of Tryz.call14 Tryz.func14 (by kernel_rfl)
def m15k0 : MC :=
  .cond (.t 41)
    (.seq (.reg [mc 0 4 (.bool false)] [4])
    (.ret))
    (.skip)
def m15k1 : MC :=
  .reg [mv 0 15 5,bc 1 16 .add 15 (.int .i64 1),mv 2 5 16] [0,1,5]
def m15l0 : MC :=
  .seq (.seq (.reg [mv 0 11 5,mv 1 12 0,oo 2 13 (.len false (.t 12)),bi 3 14 .lss 11 13] [0,1,5,14])
  (.cond (.t 14)
    (.skip)
    (.exit 0)))
  (.seq (.block 1
    (.seq (.any (on1 (mv 0 17 0) <|
        on1 (mv 1 18 5) <|
        on1 (oo 2 19 (.iadr 6 (.t 17) (.t 18))) <|
        on1 (fa 3 20 0 19) <|
        .one (ld 4 21 1 false 20) true false <|
        on1 (mv 5 22 1) <|
        on1 (mv 6 23 5) <|
        on1 (oo 7 24 (.iadr 6 (.t 22) (.t 23))) <|
        on1 (fa 8 25 0 24) <|
        .one (ld 9 26 1 false 25) true false <|
        on1 (bi 10 27 .neq 21 26) <|
        on1 (mv 11 28 27) <|
        on1 (gm 12 29 28 false 0) <|
        on1 (gm 13 30 28 false 5) <|
        on1 (og 14 31 28 false (.iadr 6 (.t 29) (.t 30))) <|
        on1 (og 15 32 28 false (.fadr 1 (.t 31))) <|
        on1 (og 16 33 28 false (.load 5 true (.t 32))) <|
        on1 (gm 17 34 28 false 1) <|
        on1 (gm 18 35 28 false 5) <|
        on1 (og 19 36 28 false (.iadr 6 (.t 34) (.t 35))) <|
        on1 (og 20 37 28 false (.fadr 1 (.t 36))) <|
        on1 (og 21 38 28 false (.load 5 true (.t 37))) <|
        .one ⟨22,some 39,(some (28,false)),.call (.f 27) [.t 33,.t 38]⟩ false true <|
        on1 (og 23 40 28 false (.un .not (.t 39))) <|
        on1 (oo 24 41 (.pick (.t 28) (.c (.bool true)) (.t 40))) <|
        .done) [] [0,1,5,41])
    (.named [0,1,5,41] m15k0)))
  (.named [0,1,5] m15k1))
def m15k2 : MC :=
  .seq (.reg [mc 0 4 (.bool true)] [4])
  (.ret)
def m15 : MC :=
  .seq (.reg [mc 0 4 (.bool false)] [0,1])
  (.seq (.seq (.reg [mv 0 6 0,oo 1 7 (.len false (.t 6)),mv 2 8 1,oo 3 9 (.len false (.t 8)),bi 4 10 .neq 7 9] [0,1,10])
  (.cond (.t 10)
    (.seq (.reg [mc 0 4 (.bool false)] [4])
    (.ret))
    (.skip)))
  (.seq (.seq (.reg [mc 0 5 (.int .i64 0)] [0,1,5])
  (.block 0
    (.loop m15l0)))
  (.named [] m15k2)))
theorem is15 : FnIs Tryz.prog 15 42 m15 [.t 4] := .of Tryz.call15 Tryz.func15 (by kernel_rfl)
def m16 : MC :=
  .seq (.reg [oo 0 6 (.alloc [.int .i64 0,.int .i64 0,.int .i64 0,.int .u64 0,.sl 6 [] .exact,.sl 2 [] .exact])] [0,1,2,6])
  (.seq (.reg [mv 0 7 0,mv 1 8 1,mv 2 9 2,oo 3 10 (.build [.int .i64 0,.int .u64 0] [(1,1,.t 9)]),oo 4 11 (.build [.int .i64 0,.int .i64 0,.int .u64 0,.sl 6 [] .exact,.sl 2 [] .exact] [(0,1,.t 8),(1,2,.t 10)]),oo 5 12 (.build [.int .i64 0,.int .i64 0,.int .i64 0,.int .u64 0,.sl 6 [] .exact,.sl 2 [] .exact] [(0,1,.t 7),(1,5,.t 11)]),⟨6,none,none,.k (.store 6 (.t 6) (.t 12))⟩] [6])
  (.ret))
theorem is16 : FnIs Tryz.prog 16 13 m16 [.c 6 6 true] := .of Tryz.call16 Tryz.func16 (by kernel_rfl)
def m17k0 : MC :=
  .cond (.t 52)
    (.seq (.reg [ld 0 53 3 true 14,⟨1,none,none,.k (.store 3 (.t 14) (.t 53))⟩] [14])
    (.ret))
    (.skip)
def m17k1 : MC :=
  .cond (.t 71)
    (.seq (.any (.one (ld 0 72 12 true 10) true false <|
        on1 (mv 1 73 17) <|
        on1 (fa 2 74 9 10) <|
        .one (ld 3 75 2 true 74) true false <|
        on1 (mv 4 76 18) <|
        on1 (mv 5 77 6) <|
        on1 (mv 7 79 6) <|
        .one (oc 6 78 31 [.t 75,.t 76,.c (.int .i64 0),.c (.int .i64 0),.t 77]) false true <|
        .one (oc 8 80 30 [.t 72,.t 73,.t 78,.t 79]) false true <|
        on1 ⟨9,none,none,.k (.store 3 (.t 14) (.t 80))⟩ <|
        .done) [10] [14])
    (.ret))
    (.skip)
def m17k2 : MC :=
  .seq (.reg [ld 0 119 12 true 10,mv 1 120 17,mv 2 121 24,mv 3 122 6,oc 4 123 30 [.t 119,.t 120,.t 121,.t 122],⟨5,none,none,.k (.store 3 (.t 14) (.t 123))⟩] [14])
  (.ret)
def m17k3 : MC :=
  .seq (.reg [fa 0 82 9 10,ld 1 83 2 true 82,mv 2 84 6,oc 3 85 32 [.t 83,.t 84],mv 4 81 85,oo 5 86 (.ext (.t 81) 0),oo 6 87 (.ext (.t 81) 1),oo 7 19 (.alloc [.int .i64 0,.int .i64 0]),⟨8,none,none,.k (.store 2 (.t 19) (.t 86))⟩,mv 9 16 87] [2,5,6,10,14,16,17,18,19])
  (.seq (.seq (.reg [mv 0 88 16,oo 1 89 (.un .not (.t 88))] [2,5,6,10,14,17,18,19,89])
  (.cond (.t 89)
    (.seq (.reg [ld 0 90 12 true 10,mv 1 91 17,mv 2 92 6,⟨3,some 93,none,.call (.f 30) [.t 90,.t 91,.c (.sl 6 [] .exact),.t 92]⟩,⟨4,none,none,.k (.store 3 (.t 14) (.t 93))⟩] [14])
    (.ret))
    (.skip)))
  (.seq (.reg [ld 0 95 2 true 19,mv 1 96 5,oc 2 97 5 [.t 95,.t 96],mv 3 94 97,oo 4 98 (.ext (.t 94) 0),oo 5 99 (.ext (.t 94) 1),oo 6 100 (.ext (.t 94) 2),oo 7 20 (.alloc [.int .i64 0,.int .i64 0]),oo 8 21 (.alloc [.bool false]),⟨9,none,none,.k (.store 2 (.t 20) (.t 98))⟩,⟨10,none,none,.k (.store 1 (.t 21) (.t 99))⟩,mv 11 22 100] [2,6,10,14,17,18,19,20,21])
  (.seq (.reg [oo 0 101 (.func (.func 33) [] [.t 19,.t 20,.t 21]),mv 1 23 101] [2,6,10,14,17,18,21,23])
  (.seq (.reg [mv 0 102 18,mv 1 103 23,⟨2,some 104,none,.call (.t 103) [.c (.int .i64 1)]⟩,oc 3 105 36 [.t 102,.t 104],mv 4 24 105] [2,6,10,14,17,18,21,23,24])
  (.seq (.seq (.reg [ld 0 106 1 false 21] [2,6,10,14,17,18,23,24,106])
  (.cond (.t 106)
    (.seq (.reg [mv 0 107 24,mv 1 108 2,mv 2 109 23,⟨3,some 110,none,.call (.t 109) [.c (.int .i64 2)]⟩,oc 4 111 36 [.t 108,.t 110],oo 5 112 (.app 6 80 (.t 107) (.t 111)),mv 6 24 112] [6,10,14,17,18,23,24])
    (.reg [mv 0 113 24,mv 1 114 18,mv 2 115 23,⟨3,some 116,none,.call (.t 115) [.c (.int .i64 3)]⟩,oc 4 117 36 [.t 114,.t 116],oo 5 118 (.app 6 80 (.t 113) (.t 117)),mv 6 24 118] [6,10,14,17,24]))
    (.skip)))
  (.named [6,10,14,17,24] m17k2))))))
def m17k4 : MC :=
  .seq (.reg [ld 0 54 4 true 7,ld 1 55 4 true 15,ld 2 56 12 true 10,oc 3 57 29 [.t 54,.t 55,.t 56],mv 4 17 57] [1,2,4,5,6,7,10,14,17])
  (.seq (.reg [ld 0 58 4 true 7,mv 1 59 1,ld 2 60 12 true 10,mv 3 61 4,oc 4 62 26 [.t 58,.t 59,.t 60,.t 61],mv 5 18 62] [2,5,6,10,14,17,18])
  (.seq (.seq (.reg [fa 0 63 9 10,fa 1 64 0 63,ld 2 65 1 false 64,bc 3 66 .eql 65 (.int .i64 4),mv 4 67 66,og 5 68 67 false (.fadr 1 (.t 10)),og 6 69 67 false (.load 1 false (.t 68)),og 7 70 67 false (.bin .eql (.t 69) (.c (.str [100,101,99,97,121]))),oo 8 71 (.pick (.t 67) (.c (.bool true)) (.t 70))] [2,5,6,10,14,17,18,71])
  (.named [2,5,6,10,14,17,18,71] m17k1))
  (.named [2,5,6,10,14,17,18] m17k3)))
def m17 : MC :=
  .seq (.reg [oo 0 7 (.box (.t 0)),oo 1 10 (.box (.t 3)),oo 2 14 (.alloc [.int .i64 0,.int .i64 0,.str []])] [1,2,4,5,6,7,10,14])
  (.seq (.reg [ld 0 26 4 true 7,fa 1 27 3 10,ld 2 28 1 false 27,oc 3 29 28 [.t 26,.t 28],mv 4 25 29,oo 5 30 (.ext (.t 25) 0),oo 6 31 (.ext (.t 25) 1),oo 7 15 (.alloc [.str [],.str [],.sl 4 [] .exact,.int .i64 0]),⟨8,none,none,.k (.store 4 (.t 15) (.t 30))⟩,mv 9 16 31] [1,2,4,5,6,7,10,14,15,16])
  (.seq (.seq (.reg [fa 0 32 0 10,ld 1 33 1 false 32,bc 2 34 .neq 33 (.int .i64 5),mv 3 35 34,gm 4 36 35 false 16,og 5 37 35 false (.un .not (.t 36)),oo 6 38 (.pick (.t 35) (.c (.bool true)) (.t 37)),mv 7 39 38,gm 8 40 39 false 6,og 9 41 39 false (.bin .lss (.t 40) (.c (.int .i64 0))),oo 10 42 (.pick (.t 39) (.c (.bool true)) (.t 41)),mv 11 43 42,gm 12 44 43 false 6,og 13 45 43 false (.bin .gtr (.t 44) (.c (.int .i64 1099511627776))),oo 14 46 (.pick (.t 43) (.c (.bool true)) (.t 45)),mv 15 47 46,og 16 48 47 false (.fadr 11 (.t 10)),og 17 49 47 false (.load 1 false (.t 48)),og 18 50 47 false (.len false (.t 49)),og 19 51 47 false (.bin .neq (.t 50) (.c (.int .i64 2))),oo 20 52 (.pick (.t 47) (.c (.bool true)) (.t 51))] [1,2,4,5,6,7,10,14,15,52])
  (.named [1,2,4,5,6,7,10,14,15,52] m17k0))
  (.named [1,2,4,5,6,7,10,14,15] m17k4)))
theorem is17 : FnIs Tryz.prog 17 124 m17 [.c 14 3 true] := .of Tryz.call17 Tryz.func17 (by kernel_rfl)
def m18k0 : MC :=
  .cond (.t 17)
    (.seq (.reg [mc 0 2 (.int .i64 1)] [2])
    (.ret))
    (.skip)
def m18k1 : MC :=
  .seq (.reg [mc 0 2 (.int .i64 0)] [2])
  (.ret)
def m18 : MC :=
  .seq (.reg [oo 0 1 (.box (.t 0)),mc 1 2 (.int .i64 0)] [1])
  (.seq (.seq (.reg [fa 0 3 0 1,ld 1 4 1 false 3,bc 2 5 .lss 4 (.int .i64 0),mv 3 6 5,og 4 7 6 false (.fadr 1 (.t 1)),og 5 8 6 false (.load 1 false (.t 7)),og 6 9 6 false (.fadr 0 (.t 1)),og 7 10 6 false (.load 1 false (.t 9)),og 8 11 6 false (.bin .lss (.t 8) (.t 10)),oo 9 12 (.pick (.t 6) (.c (.bool true)) (.t 11)),mv 10 13 12,og 11 14 13 false (.fadr 1 (.t 1)),og 12 15 13 false (.load 1 false (.t 14)),og 13 16 13 false (.bin .gtr (.t 15) (.c (.int .i64 1099511627776))),oo 14 17 (.pick (.t 13) (.c (.bool true)) (.t 16))] [17])
  (.named [17] m18k0))
  (.named [] m18k1))
theorem is18 : FnIs Tryz.prog 18 18 m18 [.t 2] := .of Tryz.call18 Tryz.func18 (by kernel_rfl)
def m19 : MC :=
  .seq (.reg [mc 0 2 (.bool false)] [0])
  (.seq (.reg [mv 0 3 0,bc 1 4 .geq 3 (.int .i64 1),mv 2 5 4,gm 3 6 5 true 0,og 4 7 5 true (.bin .leq (.t 6) (.c (.int .i64 1099511627776))),oo 5 8 (.pick (.t 5) (.t 7) (.c (.bool false))),mv 6 2 8] [2])
  (.ret))
theorem is19 : FnIs Tryz.prog 19 9 m19 [.t 2] := .of Tryz.call19 Tryz.func19 (by kernel_rfl)
def m24 : MC :=
  .seq (.reg [oo 0 0 (.alloc [.int .i64 0,.str [],.str [],.str [],.int .i64 0,.int .i64 0,.str [],.sl 2 [] .exact,.int .i64 0,.int .i64 0,.int .i64 0,.sl 12 [] .exact])] [0])
  (.seq (.reg [oo 0 1 (.build [.int .i64 0,.int .i64 0,.str []] [(0,1,.c (.int .i64 1)),(1,1,.c (.int .i64 1))]),oo 1 2 (.build [.int .i64 0,.str [],.str [],.str [],.int .i64 0,.int .i64 0,.str [],.sl 2 [] .exact,.int .i64 0,.int .i64 0,.int .i64 0,.sl 12 [] .exact] [(0,1,.c (.int .i64 1)),(4,3,.t 1)]),⟨2,none,none,.k (.store 12 (.t 0) (.t 2))⟩] [0])
  (.ret))
theorem is24 : FnIs Tryz.prog 24 3 m24 [.c 0 12 true] := .of Tryz.call24 Tryz.func24 (by kernel_rfl)
def m25k0 : MC :=
  .reg [mv 0 34 7,mv 1 35 8,oo 2 36 (.iadr 6 (.t 34) (.t 35)),fa 3 37 0 36,ld 4 38 1 false 37,mv 5 39 9,bi 6 40 .sub 38 39,oo 7 41 (.iadr 6 (.t 34) (.t 35)),fa 8 42 0 41,⟨9,none,none,.k (.store 1 (.t 42) (.t 40))⟩] [2,3,7,18,19]
def m25k1 : MC :=
  .reg [bc 0 43 .add 19 (.int .i64 1),mv 1 19 43] [2,3,7,18,19]
def m25l0 : MC :=
  .seq (.reg [bi 0 20 .lss 19 18] [2,3,7,18,19,20])
  (.seq (.cond (.t 20)
    (.skip)
    (.exit 0))
  (.seq (.block 1
    (.seq (.reg [mv 0 21 19,mv 1 8 21] [2,3,7,8,18,19])
    (.seq (.reg [mv 0 22 7,mv 1 23 8,oo 2 24 (.iadr 6 (.t 22) (.t 23)),fa 3 25 0 24,ld 4 26 1 false 25,mv 5 27 2,bi 6 28 .rem 26 27,mv 7 9 28] [2,3,7,8,9,18,19])
    (.seq (.seq (.reg [mv 0 29 9,bc 1 30 .lss 29 (.int .i64 0)] [2,3,7,8,9,18,19,30])
    (.cond (.t 30)
      (.reg [mv 0 31 9,mv 1 32 2,bi 2 33 .add 31 32,mv 3 9 33] [2,3,7,8,9,18,19])
      (.skip)))
    (.named [2,3,7,8,9,18,19] m25k0)))))
  (.named [2,3,7,18,19] m25k1)))
def m25k2 : MC :=
  .seq (.reg [oo 0 10 (.mov (.f 40))] [3,7,10])
  (.seq (.reg [oo 0 44 (.func (.func 42) [] [.t 3]),mv 1 11 44] [7,10,11])
  (.seq (.reg [mv 0 45 7,mv 1 46 10,mv 2 47 11,oc 3 48 44 [.t 45,.t 46,.t 47,.f 45],mv 4 6 48] [6])
  (.ret)))
def m25 : MC :=
  .seq (.reg [oo 0 3 (.box (.t 0)),mc 1 6 (.sl 6 [] .exact)] [1,2,3])
  (.seq (.seq (.reg [mv 0 12 2,bc 1 13 .lss 12 (.int .i64 1)] [1,2,3,13])
  (.cond (.t 13)
    (.seq (.reg [mv 0 14 1,mv 1 6 14] [6])
    (.ret))
    (.skip)))
  (.seq (.reg [mv 0 15 1,oc 1 16 39 [.t 15],mv 2 7 16] [2,3,7])
  (.seq (.seq (.reg [mv 0 17 7,oo 1 18 (.len false (.t 17)),mc 2 19 (.int .i64 0)] [2,3,7,18,19])
  (.block 0
    (.loop m25l0)))
  (.named [3,7] m25k2))))
theorem is25 : FnIs Tryz.prog 25 49 m25 [.t 6] := .of Tryz.call25 Tryz.func25 (by kernel_rfl)
def m26l0 : MC :=
  .seq (.reg [bi 0 26 .lss 25 24] [6,7,9,11,23,24,25,26])
  (.seq (.cond (.t 26)
    (.skip)
    (.exit 0))
  (.seq (.block 1
    (.seq (.reg [oo 0 27 (.iadr 8 (.t 23) (.t 25)),ld 1 28 8 true 27,oo 2 13 (.alloc [.str [],.int .i64 0,.str [],.str [],.int .i64 0,.sl 3 [] .exact,.int .i64 0,.int .i64 0]),⟨3,none,none,.k (.store 8 (.t 13) (.t 28))⟩] [6,7,9,11,13,23,24,25])
    (.reg [mv 0 29 11,ld 1 30 8 true 13,oo 2 31 (.build [.str [],.int .i64 0,.str [],.str [],.int .i64 0,.sl 3 [] .exact,.int .i64 0,.int .i64 0,.int .i64 0,.int .i64 0] [(0,8,.t 30),(9,1,.c (.int .i64 1))]),oo 3 32 (.mkSl 10 [.str [],.int .i64 0,.str [],.str [],.int .i64 0,.sl 3 [] .exact,.int .i64 0,.int .i64 0,.int .i64 0,.int .i64 0] [.t 31]),oo 4 33 (.app 10 120 (.t 29) (.t 32)),mv 5 11 33] [6,7,9,11,23,24,25])))
  (.reg [bc 0 34 .add 25 (.int .i64 1),mv 1 25 34] [6,7,9,11,23,24,25])))
def m26k0 : MC :=
  .seq (.any (on1 (fa 0 35 1 6) <|
      .one (ld 1 36 1 false 35) true false <|
      .one (ld 2 37 4 true 9) true false <|
      .one (ld 3 38 12 true 6) true false <|
      on1 (mv 4 39 11) <|
      .one (ld 6 41 1 false 7) true false <|
      .one (oc 5 40 49 [.t 37,.t 38,.t 39]) false true <|
      .one (oc 7 42 48 [.t 36,.t 40,.t 41,.c (.int .i64 1099511627776)]) false true <|
      on1 (mv 8 8 42) <|
      .done) [6,7,9] [8])
  (.ret)
def m26 : MC :=
  .seq (.reg [oo 0 4 (.box (.t 0)),oo 1 6 (.box (.t 2)),oo 2 7 (.box (.t 3)),mc 3 8 (.sl 6 [] .exact)] [1,4,6,7])
  (.seq (.reg [ld 0 15 4 true 4,fa 1 16 3 6,ld 2 17 1 false 16,oc 3 18 28 [.t 15,.t 17],mv 4 14 18,oo 5 19 (.ext (.t 14) 0),oo 6 20 (.ext (.t 14) 1),oo 7 9 (.alloc [.str [],.str [],.sl 4 [] .exact,.int .i64 0]),⟨8,none,none,.k (.store 4 (.t 9) (.t 19))⟩,mv 9 10 20] [1,6,7,9])
  (.seq (.reg [mc 0 11 (.sl 10 [] .exact)] [1,6,7,9,11])
  (.seq (.seq (.reg [mv 0 21 1,oo 1 22 (.func (.func 47) [] [.t 7]),oc 2 23 46 [.t 21,.t 22],oo 3 24 (.len false (.t 23)),mc 4 25 (.int .i64 0)] [6,7,9,11,23,24,25])
  (.block 0
    (.loop m26l0)))
  (.named [6,7,9,11] m26k0))))
theorem is26 : FnIs Tryz.prog 26 43 m26 [.t 8] := .of Tryz.call26 Tryz.func26 (by kernel_rfl)
def m27k0 : MC :=
  .cond (.t 36)
    (.seq (.reg [mc 0 4 (.bool false)] [4])
    (.ret))
    (.skip)
def m27l0 : MC :=
  .seq (.seq (.reg [mv 0 37 5,fa 1 38 3 2,ld 2 39 1 false 38,oo 3 40 (.len false (.t 39)),bi 4 41 .lss 37 40] [2,3,5,41])
  (.cond (.t 41)
    (.skip)
    (.exit 0)))
  (.seq (.block 1
    (.seq (.bad)
    (.cond (.t 54)
      (.seq (.reg [mc 0 4 (.bool false)] [4])
      (.ret))
      (.skip))))
  (.reg [mv 0 42 5,bc 1 43 .add 42 (.int .i64 1),mv 2 5 43] [2,3,5]))
def m27l1 : MC :=
  .seq (.seq (.reg [mv 0 55 6,fa 1 56 4 2,ld 2 57 1 false 56,oo 3 58 (.len false (.t 57)),bi 4 59 .lss 55 58] [2,3,6,59])
  (.cond (.t 59)
    (.skip)
    (.exit 2)))
  (.seq (.block 3
    (.seq (.any (on1 (fa 0 62 4 2) <|
        on1 (ld 1 63 1 false 62) <|
        on1 (mv 2 64 6) <|
        on1 (oo 3 65 (.iadr 2 (.t 63) (.t 64))) <|
        on1 (ld 4 66 2 true 65) <|
        on1 (fa 5 67 4 3) <|
        on1 (ld 6 68 1 false 67) <|
        on1 (mv 7 69 6) <|
        on1 (oo 8 70 (.iadr 2 (.t 68) (.t 69))) <|
        on1 (ld 9 71 2 true 70) <|
        on1 (oo 10 72 (.eqv [.i,.i] true (.t 66) (.t 71))) <|
        .done) [] [2,3,6,72])
    (.cond (.t 72)
      (.seq (.reg [mc 0 4 (.bool false)] [4])
      (.ret))
      (.skip))))
  (.reg [mv 0 60 6,bc 1 61 .add 60 (.int .i64 1),mv 2 6 61] [2,3,6]))
def m27k1 : MC :=
  .seq (.reg [mc 0 4 (.bool true)] [4])
  (.ret)
def m27k2 : MC :=
  .seq (.seq (.reg [mc 0 6 (.int .i64 0)] [2,3,6])
  (.block 2
    (.loop m27l1)))
  (.named [] m27k1)
def m27k3 : MC :=
  .seq (.seq (.reg [mc 0 5 (.int .i64 0)] [2,3,5])
  (.block 0
    (.loop m27l0)))
  (.named [2,3] m27k2)
def m27 : MC :=
  .seq (.reg [oo 0 2 (.box (.t 0)),oo 1 3 (.box (.t 1)),mc 2 4 (.bool false)] [2,3])
  (.seq (.seq (.reg [fa 0 7 0 2,ld 1 8 1 false 7,fa 2 9 0 3,ld 3 10 1 false 9,bi 4 11 .neq 8 10,mv 5 12 11,og 6 13 12 false (.fadr 1 (.t 2)),og 7 14 12 false (.load 2 true (.t 13)),og 8 15 12 false (.fadr 1 (.t 3)),og 9 16 12 false (.load 2 true (.t 15)),og 10 17 12 false (.eqv [.i,.i] true (.t 14) (.t 16)),oo 11 18 (.pick (.t 12) (.c (.bool true)) (.t 17)),mv 12 19 18,og 13 20 19 false (.fadr 3 (.t 2)),og 14 21 19 false (.load 1 false (.t 20)),og 15 22 19 false (.len false (.t 21)),og 16 23 19 false (.fadr 3 (.t 3)),og 17 24 19 false (.load 1 false (.t 23)),og 18 25 19 false (.len false (.t 24)),og 19 26 19 false (.bin .neq (.t 22) (.t 25)),oo 20 27 (.pick (.t 19) (.c (.bool true)) (.t 26)),mv 21 28 27,og 22 29 28 false (.fadr 4 (.t 2)),og 23 30 28 false (.load 1 false (.t 29)),og 24 31 28 false (.len false (.t 30)),og 25 32 28 false (.fadr 4 (.t 3)),og 26 33 28 false (.load 1 false (.t 32)),og 27 34 28 false (.len false (.t 33)),og 28 35 28 false (.bin .neq (.t 31) (.t 34)),oo 29 36 (.pick (.t 28) (.c (.bool true)) (.t 35))] [2,3,36])
  (.named [2,3,36] m27k0))
  (.named [2,3] m27k3))
theorem is27 : FnIs Tryz.prog 27 73 m27 [.t 4] := .of Tryz.call27 Tryz.func27 (by kernel_rfl)
def m28l0 : MC :=
  .seq (.reg [bi 0 12 .lss 11 10] [1,4,9,10,11,12])
  (.seq (.cond (.t 12)
    (.skip)
    (.exit 0))
  (.seq (.block 1
    (.seq (.reg [oo 0 13 (.iadr 4 (.t 9) (.t 11)),ld 1 14 4 true 13,oo 2 7 (.alloc [.str [],.str [],.sl 4 [] .exact,.int .i64 0]),⟨3,none,none,.k (.store 4 (.t 7) (.t 14))⟩] [1,4,7,9,10,11])
    (.seq (.reg [fa 0 15 0 7,ld 1 16 1 false 15,mv 2 17 1,bi 3 18 .eql 16 17] [1,4,7,9,10,11,18])
    (.cond (.t 18)
      (.seq (.reg [ld 0 19 4 true 7,⟨1,none,none,.k (.store 4 (.t 4) (.t 19))⟩,mc 2 5 (.bool true)] [4,5])
      (.ret))
      (.skip)))))
  (.reg [bc 0 20 .add 11 (.int .i64 1),mv 1 11 20] [1,4,9,10,11])))
def m28k0 : MC :=
  .seq (.reg [oo 0 21 (.build [.str [],.str [],.sl 4 [] .exact,.int .i64 0] []),⟨1,none,none,.k (.store 4 (.t 4) (.t 21))⟩,mc 2 5 (.bool false)] [4,5])
  (.ret)
def m28 : MC :=
  .seq (.reg [oo 0 2 (.box (.t 0)),oo 1 4 (.alloc [.str [],.str [],.sl 4 [] .exact,.int .i64 0]),mc 2 5 (.bool false)] [1,2,4])
  (.seq (.seq (.reg [fa 0 8 0 2,ld 1 9 1 false 8,oo 2 10 (.len false (.t 9)),mc 3 11 (.int .i64 0)] [1,4,9,10,11])
  (.block 0
    (.loop m28l0)))
  (.named [4] m28k0))
theorem is28 : FnIs Tryz.prog 28 22 m28 [.c 4 4 true,.t 5] := .of Tryz.call28 Tryz.func28 (by kernel_rfl)
def m29 : MC :=
  .seq (.reg [oo 0 3 (.box (.t 0)),oo 1 4 (.box (.t 1)),oo 2 5 (.box (.t 2)),mc 3 6 (.int .i64 0)] [3,4,5])
  (.seq (.reg [oo 0 10 (.build [.int .i64 0,.int .i64 0,.str []] [(0,1,.c (.int .i64 1)),(1,1,.c (.int .i64 1))]),oo 1 11 (.build [.int .i64 0,.str [],.str [],.str [],.int .i64 0,.int .i64 0,.str [],.sl 2 [] .exact,.int .i64 0,.int .i64 0,.int .i64 0,.sl 12 [] .exact] [(0,1,.c (.int .i64 1)),(4,3,.t 10)]),oo 2 7 (.alloc [.int .i64 0,.str [],.str [],.str [],.int .i64 0,.int .i64 0,.str [],.sl 2 [] .exact,.int .i64 0,.int .i64 0,.int .i64 0,.sl 12 [] .exact]),⟨3,none,none,.k (.store 12 (.t 7) (.t 11))⟩] [3,4,5,7])
  (.seq (.any (.one (ld 0 13 4 true 3) true false <|
      on1 (fa 1 14 1 4) <|
      .one (ld 2 15 1 false 14) true false <|
      on1 (fa 3 16 3 5) <|
      .one (ld 4 17 1 false 16) true false <|
      on1 (fa 5 18 9 5) <|
      .one (ld 6 19 2 true 18) true false <|
      on1 (fa 7 20 11 5) <|
      .one (ld 8 21 1 false 20) true false <|
      on1 (oo 9 22 (.iadr 12 (.t 21) (.c (.int .i64 0)))) <|
      .one (ld 10 23 12 true 22) true false <|
      .one (ld 11 24 12 true 7) true false <|
      on1 (oo 12 25 (.mkSl 12 [.int .i64 0,.str [],.str [],.str [],.int .i64 0,.int .i64 0,.str [],.sl 2 [] .exact,.int .i64 0,.int .i64 0,.int .i64 0,.sl 12 [] .exact] [.t 23,.t 24])) <|
      on1 (oo 13 26 (.build [.int .i64 0,.str [],.str [],.str [],.int .i64 0,.int .i64 0,.str [],.sl 2 [] .exact,.int .i64 0,.int .i64 0,.int .i64 0,.sl 12 [] .exact] [(0,1,.c (.int .i64 5)),(1,1,.c (.str [108,97,115,116])),(3,1,.t 17),(9,2,.t 19),(11,1,.t 25)])) <|
      .two (oc 14 27 50 [.t 13,.t 15,.t 26]) true (on1 (mv 15 12 27) <|
      on1 (oo 16 28 (.ext (.t 12) 0)) <|
      on1 (oo 17 29 (.ext (.t 12) 1)) <|
      .one (oo 18 8 (.alloc [.int .i64 0,.sl 2 [] .exact,.str []])) false true <|
      on1 ⟨19,none,none,.k (.store 3 (.t 8) (.t 28))⟩ <|
      on1 (mv 20 9 29) <|
      .done) (oo 18 8 (.alloc [.int .i64 0,.sl 2 [] .exact,.str []])) true (.one (oc 14 27 50 [.t 13,.t 15,.t 26]) false true <|
      on1 (mv 15 12 27) <|
      on1 (oo 16 28 (.ext (.t 12) 0)) <|
      on1 (oo 17 29 (.ext (.t 12) 1)) <|
      on1 ⟨19,none,none,.k (.store 3 (.t 8) (.t 28))⟩ <|
      on1 (mv 20 9 29) <|
      .done)) [3,4,5,7] [8])
  (.seq (.reg [fa 0 30 0 8,ld 1 31 1 false 30,mv 2 6 31] [6])
  (.ret))))
theorem is29 : FnIs Tryz.prog 29 32 m29 [.t 6] := .of Tryz.call29 Tryz.func29 (by kernel_rfl)
def m30l0 : MC :=
  .seq (.reg [bi 0 31 .lss 30 29] [4,8,9,10,11,28,29,30,31])
  (.seq (.cond (.t 31)
    (.skip)
    (.exit 0))
  (.seq (.block 1
    (.seq (.reg [oo 0 32 (.iadr 6 (.t 28) (.t 30)),ld 1 33 6 true 32,oo 2 13 (.alloc [.int .i64 0,.int .i64 0,.int .i64 0,.int .u64 0,.sl 6 [] .exact,.sl 2 [] .exact]),⟨3,none,none,.k (.store 6 (.t 13) (.t 33))⟩] [4,8,9,10,11,13,28,29,30])
    (.reg [fa 0 34 4 11,ld 1 35 1 false 34,fa 2 36 1 13,fa 3 37 0 36,ld 4 38 1 false 37,bi 5 39 .add 35 38,fa 6 40 4 11,⟨7,none,none,.k (.store 1 (.t 40) (.t 39))⟩] [4,8,9,10,11,28,29,30])))
  (.reg [bc 0 41 .add 30 (.int .i64 1),mv 1 30 41] [4,8,9,10,11,28,29,30])))
def m30k0 : MC :=
  .cond (.t 58)
    (.seq (.reg [ld 0 59 3 true 8,⟨1,none,none,.k (.store 3 (.t 8) (.t 59))⟩] [8])
    (.ret))
    (.skip)
def m30k1 : MC :=
  .seq (.reg [mv 0 60 9,ld 1 61 6 true 11,⟨2,some 62,none,.call (.mth 60 [(156,252),(158,255),(159,261),(161,277)]) [.t 61]⟩,⟨3,none,none,.k (.store 3 (.t 8) (.t 62))⟩] [8])
  (.ret)
def m30k2 : MC :=
  .seq (.seq (.reg [mv 0 42 10,oo 1 43 (.un .not (.t 42)),mv 2 44 43,og 3 45 44 false (.fadr 4 (.t 11)),og 4 46 44 false (.load 1 false (.t 45)),og 5 47 44 false (.bin .lss (.t 46) (.c (.int .i64 1))),gm 6 48 44 false 47,og 7 49 48 true (.fadr 1 (.t 4)),og 8 50 48 true (.load 1 false (.t 49)),og 9 51 48 true (.bin .neq (.t 50) (.c (.str [99,111,117,110,116]))),og 10 52 44 false (.pick (.t 48) (.t 51) (.c (.bool false))),gm 11 53 44 false 52,og 12 54 53 true (.fadr 1 (.t 4)),og 13 55 53 true (.load 1 false (.t 54)),og 14 56 53 true (.bin .neq (.t 55) (.c (.str [100,105,115,116,105,110,99,116]))),og 15 57 44 false (.pick (.t 53) (.t 56) (.c (.bool false))),oo 16 58 (.pick (.t 44) (.c (.bool true)) (.t 57))] [8,9,11,58])
  (.named [8,9,11,58] m30k0))
  (.named [8,9,11] m30k1)
def m30 : MC :=
  .seq (.reg [oo 0 4 (.box (.t 0)),oo 1 8 (.alloc [.int .i64 0,.int .i64 0,.str []])] [1,2,3,4,8])
  (.seq (.reg [fa 0 15 1 4,ld 1 16 1 false 15,oc 2 17 51 [.t 16],mv 3 14 17,oo 4 18 (.ext (.t 14) 0),oo 5 19 (.ext (.t 14) 1),mv 6 9 18,mv 7 10 19] [1,2,3,4,8,9,10])
  (.seq (.reg [fa 0 20 1 4,ld 1 21 1 false 20,fa 2 22 8 4,ld 3 23 1 false 22,mv 4 24 1,mv 5 25 3,mv 6 26 2,oo 7 27 (.build [.str [],.int .i64 0,.int .i64 0,.int .i64 0,.int .i64 0,.sl 6 [] .exact] [(0,1,.t 21),(1,1,.t 23),(2,1,.t 24),(3,1,.t 25),(5,1,.t 26)]),oo 8 11 (.alloc [.str [],.int .i64 0,.int .i64 0,.int .i64 0,.int .i64 0,.sl 6 [] .exact]),⟨9,none,none,.k (.store 6 (.t 11) (.t 27))⟩] [2,4,8,9,10,11])
  (.seq (.seq (.reg [mv 0 28 2,oo 1 29 (.len false (.t 28)),mc 2 30 (.int .i64 0)] [4,8,9,10,11,28,29,30])
  (.block 0
    (.loop m30l0)))
  (.named [4,8,9,10,11] m30k2))))
theorem is30 : FnIs Tryz.prog 30 63 m30 [.c 8 3 true] := .of Tryz.call30 Tryz.func30 (by kernel_rfl)
def m32k0 : MC :=
  .cond (.t 13)
    (.seq (.reg [oo 0 14 (.build [.int .i64 0,.int .i64 0] []),⟨1,none,none,.k (.store 2 (.t 4) (.t 14))⟩,mc 2 5 (.bool false)] [4,5])
    (.ret))
    (.skip)
def m32k1 : MC :=
  .seq (.seq (.reg [fa 0 15 0 2,ld 1 16 1 false 15] [1,2,4,16])
  (.block 0
    (.seq (.reg [bc 0 18 .eql 16 (.int .i64 1),mv 1 17 18] [1,2,4,16,17])
    (.cond (.t 17)
      (.seq (.reg [mv 0 19 1,oo 1 20 (.build [.int .i64 0,.int .i64 0] [(0,1,.c (.int .i64 0)),(1,1,.t 19)]),⟨2,none,none,.k (.store 2 (.t 4) (.t 20))⟩,mc 3 5 (.bool true)] [4,5])
      (.ret))
      (.seq (.reg [bc 0 22 .eql 16 (.int .i64 2),mv 1 21 22] [1,2,4,16,21])
      (.cond (.t 21)
        (.seq (.reg [mv 0 23 1,fa 1 24 1 2,ld 2 25 1 false 24,bi 3 26 .sub 23 25,bc 4 27 .add 26 (.int .i64 1),oo 5 28 (.max (.c (.int .i64 0)) (.t 27)),mv 6 29 1,oo 7 30 (.build [.int .i64 0,.int .i64 0] [(0,1,.t 28),(1,1,.t 29)]),⟨8,none,none,.k (.store 2 (.t 4) (.t 30))⟩,mc 9 5 (.bool true)] [4,5])
        (.ret))
        (.seq (.reg [bc 0 32 .eql 16 (.int .i64 3),mv 1 31 32] [1,2,4,31])
        (.cond (.t 31)
          (.seq (.any (on1 (mv 0 33 1) <|
              on1 (fa 1 34 1 2) <|
              on1 (ld 2 35 1 false 34) <|
              on1 (bi 3 36 .quo 33 35) <|
              on1 (fa 4 37 1 2) <|
              on1 (ld 5 38 1 false 37) <|
              on1 (bi 6 39 .mul 36 38) <|
              on1 (mv 7 40 1) <|
              on1 (oo 8 41 (.build [.int .i64 0,.int .i64 0] [(0,1,.t 39),(1,1,.t 40)])) <|
              on1 ⟨9,none,none,.k (.store 2 (.t 4) (.t 41))⟩ <|
              on1 (mc 10 5 (.bool true)) <|
              .done) [] [4,5])
          (.ret))
          (.skip)))))))))
  (.seq (.reg [oo 0 42 (.build [.int .i64 0,.int .i64 0] []),⟨1,none,none,.k (.store 2 (.t 4) (.t 42))⟩,mc 2 5 (.bool false)] [4,5])
  (.ret))
def m32 : MC :=
  .seq (.reg [oo 0 2 (.box (.t 0)),oo 1 4 (.alloc [.int .i64 0,.int .i64 0]),mc 2 5 (.bool false)] [1,2,4])
  (.seq (.seq (.reg [ld 0 6 2 true 2,oc 1 7 56 [.t 6],oo 2 8 (.un .not (.t 7)),mv 3 9 8,gm 4 10 9 false 1,⟨5,some 11,(some (9,false)),.call (.f 57) [.t 10]⟩,og 6 12 9 false (.un .not (.t 11)),oo 7 13 (.pick (.t 9) (.c (.bool true)) (.t 12))] [1,2,4,13])
  (.named [1,2,4,13] m32k0))
  (.named [1,2,4] m32k1))
theorem is32 : FnIs Tryz.prog 32 43 m32 [.c 4 2 true,.t 5] := .of Tryz.call32 Tryz.func32 (by kernel_rfl)
def m33 : MC :=
  .seq (.reg [oo 0 4 (.box (.t 0)),mc 1 5 (.nilf)] [1,2,3,4])
  (.seq (.reg [oo 0 6 (.func (.func 34) [] [.t 1,.t 2,.t 3,.t 4]),mv 1 5 6] [5])
  (.ret))
theorem is33 : FnIs Tryz.prog 33 7 m33 [.t 5] := .of Tryz.call33 Tryz.func33 (by kernel_rfl)
def m34 : MC :=
  .seq (.reg [oo 0 5 (.box (.t 0)),mc 1 6 (.bool false)] [1,2,3,4,5])
  (.seq (.any (on1 (fa 0 7 0 5) <|
      on1 (ld 1 8 1 false 7) <|
      on1 (ld 2 9 2 true 1) <|
      on1 (ld 3 10 2 true 2) <|
      on1 (ld 4 11 1 false 3) <|
      .one (ld 6 13 1 false 4) true false <|
      .one (oc 5 12 35 [.t 8,.t 9,.t 10,.t 11]) false true <|
      on1 (bi 7 14 .eql 12 13) <|
      on1 (mv 8 6 14) <|
      .done) [4] [6])
  (.ret))
theorem is34 : FnIs Tryz.prog 34 15 m34 [.t 6] := .of Tryz.call34 Tryz.func34 (by kernel_rfl)
def m35k0 : MC :=
  .cond (.t 20)
    (.seq (.reg [mc 0 8 (.int .i64 1)] [8])
    (.ret))
    (.seq (.reg [mv 0 30 0,fa 1 31 1 6,ld 2 32 1 false 31,bi 3 33 .leq 30 32,mv 4 29 33] [29])
    (.cond (.t 29)
      (.seq (.reg [mc 0 8 (.int .i64 2)] [8])
      (.ret))
      (.skip)))
def m35k1 : MC :=
  .cond (.t 9)
    (.seq (.reg [mc 0 8 (.int .i64 0)] [8])
    (.ret))
    (.seq (.reg [mv 0 21 3,oo 1 22 (.un .not (.t 21)),mv 2 23 22,gm 3 24 23 false 0,og 4 25 23 false (.fadr 0 (.t 6)),og 5 26 23 false (.load 1 false (.t 25)),og 6 27 23 false (.bin .lss (.t 24) (.t 26)),oo 7 28 (.pick (.t 23) (.c (.bool true)) (.t 27)),mv 8 20 28] [0,6,20])
    (.named [0,6,20] m35k0))
def m35k2 : MC :=
  .seq (.reg [mc 0 8 (.int .i64 3)] [8])
  (.ret)
def m35 : MC :=
  .seq (.reg [oo 0 5 (.box (.t 1)),oo 1 6 (.box (.t 2)),mc 2 8 (.int .i64 0)] [0,3,5,6])
  (.seq (.block 0
    (.seq (.reg [mv 0 10 0,fa 1 11 0 5,ld 2 12 1 false 11,bi 3 13 .lss 10 12,mv 4 14 13,gm 5 15 14 false 0,og 6 16 14 false (.fadr 1 (.t 5)),og 7 17 14 false (.load 1 false (.t 16)),og 8 18 14 false (.bin .gtr (.t 15) (.t 17)),oo 9 19 (.pick (.t 14) (.c (.bool true)) (.t 18)),mv 10 9 19] [0,3,6,9])
    (.named [0,3,6,9] m35k1)))
  (.named [] m35k2))
theorem is35 : FnIs Tryz.prog 35 34 m35 [.t 8] := .of Tryz.call35 Tryz.func35 (by kernel_rfl)
def m36k0 : MC :=
  .reg [bc 0 20 .add 9 (.int .i64 1),mv 1 9 20] [1,4,7,8,9]
def m36l0 : MC :=
  .seq (.reg [bi 0 10 .lss 9 8] [1,4,7,8,9,10])
  (.seq (.cond (.t 10)
    (.skip)
    (.exit 0))
  (.seq (.block 1
    (.seq (.reg [oo 0 11 (.iadr 6 (.t 7) (.t 9)),ld 1 12 6 true 11,oo 2 6 (.alloc [.int .i64 0,.int .i64 0,.int .i64 0,.int .u64 0,.sl 6 [] .exact,.sl 2 [] .exact]),⟨3,none,none,.k (.store 6 (.t 6) (.t 12))⟩] [1,4,6,7,8,9])
    (.seq (.reg [mv 0 13 1,ld 1 14 6 true 6,⟨2,some 15,none,.call (.t 13) [.t 14]⟩] [1,4,6,7,8,9,15])
    (.cond (.t 15)
      (.reg [mv 0 16 4,ld 1 17 6 true 6,oo 2 18 (.mkSl 6 [.int .i64 0,.int .i64 0,.int .i64 0,.int .u64 0,.sl 6 [] .exact,.sl 2 [] .exact] [.t 17]),oo 3 19 (.app 6 80 (.t 16) (.t 18)),mv 4 4 19] [1,4,7,8,9])
      (.skip)))))
  (.named [1,4,7,8,9] m36k0)))
def m36k1 : MC :=
  .seq (.reg [mv 0 21 4,mv 1 4 21] [4])
  (.ret)
def m36 : MC :=
  .seq (.reg [mc 0 4 (.sl 6 [] .exact)] [0,1,4])
  (.seq (.seq (.reg [mv 0 7 0,oo 1 8 (.len false (.t 7)),mc 2 9 (.int .i64 0)] [1,4,7,8,9])
  (.block 0
    (.loop m36l0)))
  (.named [4] m36k1))
theorem is36 : FnIs Tryz.prog 36 22 m36 [.t 4] := .of Tryz.call36 Tryz.func36 (by kernel_rfl)
def m39 : MC :=
  .seq (.reg [mc 0 2 (.sl 6 [] .exact)] [0])
  (.seq (.seq (.reg [mv 0 3 0,oo 1 4 (.nn 49 false (.t 3))] [0,4])
  (.cond (.t 4)
    (.seq (.reg [mc 0 2 (.sl 6 [] .exact)] [2])
    (.ret))
    (.skip)))
  (.seq (.reg [oo 0 5 (.mkSl 6 [.int .i64 0,.int .i64 0,.int .i64 0,.int .u64 0,.sl 6 [] .exact,.sl 2 [] .exact] []),mv 1 6 0,oo 2 7 (.appO 6 80 (.t 5) (.t 6)),mv 3 2 7] [2])
  (.ret)))
theorem is39 : FnIs Tryz.prog 39 8 m39 [.t 2] := .of Tryz.call39 Tryz.func39 (by kernel_rfl)
def m40 : MC :=
  .seq (.reg [oo 0 2 (.box (.t 0)),oo 1 3 (.box (.t 1)),mc 2 4 (.int .i64 0)] [2,3])
  (.seq (.reg [fa 0 5 0 2,ld 1 6 1 false 5,fa 2 7 0 3,ld 3 8 1 false 7,oc 4 9 41 [.t 6,.t 8],mv 5 4 9] [4])
  (.ret))
theorem is40 : FnIs Tryz.prog 40 10 m40 [.t 4] := .of Tryz.call40 Tryz.func40 (by kernel_rfl)
def m41 : MC :=
  .seq (.reg [mc 0 4 (.int .i64 0)] [0,1])
  (.seq (.reg [mv 0 7 0,oc 1 8 68 [.t 7],mv 2 5 8] [0,1,5])
  (.seq (.reg [mv 0 9 1,oc 1 10 68 [.t 9],mv 2 6 10] [0,1,5,6])
  (.seq (.seq (.reg [mv 0 11 5] [0,1,6,11])
  (.cond (.t 11)
    (.seq (.seq (.reg [mv 0 12 6] [12])
    (.cond (.t 12)
      (.seq (.reg [mc 0 4 (.int .i64 0)] [4])
      (.ret))
      (.skip)))
    (.seq (.reg [mc 0 4 (.int .i64 (-1))] [4])
    (.ret)))
    (.skip)))
  (.seq (.seq (.reg [mv 0 13 6] [0,1,13])
  (.cond (.t 13)
    (.seq (.reg [mc 0 4 (.int .i64 1)] [4])
    (.ret))
    (.skip)))
  (.seq (.seq (.reg [mv 0 14 0,mv 1 15 1,bi 2 16 .lss 14 15] [0,1,16])
  (.cond (.t 16)
    (.seq (.reg [mc 0 4 (.int .i64 (-1))] [4])
    (.ret))
    (.skip)))
  (.seq (.seq (.reg [mv 0 17 0,mv 1 18 1,bi 2 19 .gtr 17 18] [19])
  (.cond (.t 19)
    (.seq (.reg [mc 0 4 (.int .i64 1)] [4])
    (.ret))
    (.skip)))
  (.seq (.reg [mc 0 4 (.int .i64 0)] [4])
  (.ret))))))))
theorem is41 : FnIs Tryz.prog 41 20 m41 [.t 4] := .of Tryz.call41 Tryz.func41 (by kernel_rfl)
def m42 : MC :=
  .seq (.reg [oo 0 3 (.box (.t 0)),oo 1 4 (.box (.t 1)),oo 2 5 (.alloc [.int .i64 0,.int .i64 0,.int .i64 0,.int .u64 0,.sl 6 [] .exact,.sl 2 [] .exact])] [2,3,4,5])
  (.seq (.any (on1 (fa 0 6 0 3) <|
      .one (ld 1 7 1 false 6) true false <|
      on1 (ld 2 8 1 false 2) <|
      on1 (fa 3 9 1 3) <|
      on1 (ld 4 10 5 true 9) <|
      on1 (fa 5 11 1 4) <|
      on1 (ld 6 12 5 true 11) <|
      .one (oc 7 13 43 [.t 8,.t 10,.t 12]) false true <|
      on1 (oo 8 14 (.build [.int .i64 0,.int .i64 0,.int .i64 0,.int .u64 0,.sl 6 [] .exact,.sl 2 [] .exact] [(0,1,.t 7),(1,5,.t 13)])) <|
      on1 ⟨9,none,none,.k (.store 6 (.t 5) (.t 14))⟩ <|
      .done) [3] [5])
  (.ret))
theorem is42 : FnIs Tryz.prog 42 15 m42 [.c 5 6 true] := .of Tryz.call42 Tryz.func42 (by kernel_rfl)
def m43 : MC :=
  .seq (.reg [oo 0 4 (.box (.t 1)),oo 1 5 (.box (.t 2)),oo 2 6 (.alloc [.int .i64 0,.int .i64 0,.int .u64 0,.sl 6 [] .exact,.sl 2 [] .exact])] [0,4,5,6])
  (.seq (.reg [mv 0 10 0,oc 1 11 51 [.t 10],mv 2 9 11,oo 3 12 (.ext (.t 9) 0),oo 4 13 (.ext (.t 9) 1),mv 5 7 12,mv 6 8 13] [4,5,6,7,8])
  (.seq (.seq (.reg [mv 0 14 8,oo 1 15 (.un .not (.t 14))] [4,5,6,7,15])
  (.cond (.t 15)
    (.seq (.reg [ld 0 16 5 true 4,⟨1,none,none,.k (.store 5 (.t 6) (.t 16))⟩] [6])
    (.ret))
    (.skip)))
  (.seq (.reg [mv 0 17 7,ld 1 18 5 true 4,ld 2 19 5 true 5,⟨3,some 20,none,.call (.mth 17 [(156,249),(158,253),(159,259),(161,275)]) [.t 18,.t 19]⟩,⟨4,none,none,.k (.store 5 (.t 6) (.t 20))⟩] [6])
  (.ret))))
theorem is43 : FnIs Tryz.prog 43 21 m43 [.c 6 5 true] := .of Tryz.call43 Tryz.func43 (by kernel_rfl)
def m44k0 : MC :=
  .cond (.t 37)
    (.skip)
    (.exit 2)
def m44k1 : MC :=
  .block 3
    (.seq (.any (on1 (mv 0 38 2) <|
        on1 (ld 1 39 6 true 11) <|
        on1 (mv 2 40 9) <|
        on1 (mv 3 41 12) <|
        on1 (oo 4 42 (.iadr 6 (.t 40) (.t 41))) <|
        on1 (ld 5 43 6 true 42) <|
        on1 ⟨6,some 44,none,.call (.t 38) [.t 39,.t 43]⟩ <|
        on1 ⟨7,none,none,.k (.store 6 (.t 11) (.t 44))⟩ <|
        .done) [] [1,2,3,9,10,11,12])
    (.reg [mv 0 45 12,bc 1 46 .add 45 (.int .i64 1),mv 2 12 46] [1,2,3,9,10,11,12]))
def m44l0 : MC :=
  .seq (.seq (.any (on1 (mv 0 24 12) <|
      on1 (mv 1 25 9) <|
      on1 (oo 2 26 (.len false (.t 25))) <|
      on1 (bi 3 27 .lss 24 26) <|
      on1 (mv 4 28 27) <|
      on1 (gm 5 29 28 true 1) <|
      on1 (og 6 30 28 true (.load 6 true (.t 11))) <|
      on1 (gm 7 31 28 true 9) <|
      on1 (gm 8 32 28 true 12) <|
      on1 (og 9 33 28 true (.iadr 6 (.t 31) (.t 32))) <|
      on1 (og 10 34 28 true (.load 6 true (.t 33))) <|
      on1 ⟨11,some 35,(some (28,true)),.call (.t 29) [.t 30,.t 34]⟩ <|
      on1 (og 12 36 28 true (.bin .eql (.t 35) (.c (.int .i64 0)))) <|
      on1 (oo 13 37 (.pick (.t 28) (.t 36) (.c (.bool false)))) <|
      .done) [] [1,2,3,9,10,11,12,37])
  (.named [1,2,3,9,10,11,12,37] m44k0))
  (.named [1,2,3,9,10,11,12] m44k1)
def m44k2 : MC :=
  .reg [mv 0 54 9,mv 1 55 12,oo 2 56 (.slV 6 (.t 54) (some (.t 55)) none none),mv 3 9 56] [1,2,3,9,10]
def m44k3 : MC :=
  .seq (.seq (.reg [mv 0 47 3,ld 1 48 6 true 11,⟨2,some 49,none,.call (.t 47) [.t 48]⟩] [1,2,3,9,10,11,12,49])
  (.cond (.t 49)
    (.reg [mv 0 50 10,ld 1 51 6 true 11,oo 2 52 (.mkSl 6 [.int .i64 0,.int .i64 0,.int .i64 0,.int .u64 0,.sl 6 [] .exact,.sl 2 [] .exact] [.t 51]),oo 3 53 (.app 6 80 (.t 50) (.t 52)),mv 4 10 53] [1,2,3,9,10,12])
    (.skip)))
  (.named [1,2,3,9,10,12] m44k2)
def m44l1 : MC :=
  .seq (.seq (.reg [mv 0 18 9,oo 1 19 (.len false (.t 18)),bc 2 20 .gtr 19 (.int .i64 0)] [1,2,3,9,10,20])
  (.cond (.t 20)
    (.skip)
    (.exit 0)))
  (.block 1
    (.seq (.reg [mv 0 21 9,oo 1 22 (.iadr 6 (.t 21) (.c (.int .i64 0))),ld 2 23 6 true 22,oo 3 11 (.alloc [.int .i64 0,.int .i64 0,.int .i64 0,.int .u64 0,.sl 6 [] .exact,.sl 2 [] .exact]),⟨4,none,none,.k (.store 6 (.t 11) (.t 23))⟩,mc 5 12 (.int .i64 1)] [1,2,3,9,10,11,12])
    (.seq (.block 2
      (.loop m44l0))
    (.named [1,2,3,9,10,11,12] m44k3))))
def m44k4 : MC :=
  .seq (.reg [mv 0 57 10,mv 1 8 57] [8])
  (.ret)
def m44 : MC :=
  .seq (.reg [mc 0 8 (.sl 6 [] .exact)] [0,1,2,3])
  (.seq (.reg [mv 0 13 0,oc 1 14 39 [.t 13],mv 2 9 14] [1,2,3,9])
  (.seq (.reg [mv 0 15 9,mv 1 16 1,oc 2 17 69 [.t 15,.t 16]] [1,2,3,9])
  (.seq (.reg [mc 0 10 (.sl 6 [] .exact)] [1,2,3,9,10])
  (.seq (.block 0
    (.loop m44l1))
  (.named [10] m44k4)))))
theorem is44 : FnIs Tryz.prog 44 58 m44 [.t 8] := .of Tryz.call44 Tryz.func44 (by kernel_rfl)
def m45 : MC :=
  .seq (.reg [oo 0 1 (.box (.t 0)),mc 1 2 (.bool false)] [])
  (.seq (.reg [mc 0 2 (.bool true)] [2])
  (.ret))
theorem is45 : FnIs Tryz.prog 45 3 m45 [.t 2] := .of Tryz.call45 Tryz.func45 (by kernel_rfl)
def m46k0 : MC :=
  .reg [bc 0 20 .add 9 (.int .i64 1),mv 1 9 20] [1,4,7,8,9]
def m46l0 : MC :=
  .seq (.reg [bi 0 10 .lss 9 8] [1,4,7,8,9,10])
  (.seq (.cond (.t 10)
    (.skip)
    (.exit 0))
  (.seq (.block 1
    (.seq (.reg [oo 0 11 (.iadr 8 (.t 7) (.t 9)),ld 1 12 8 true 11,oo 2 6 (.alloc [.str [],.int .i64 0,.str [],.str [],.int .i64 0,.sl 3 [] .exact,.int .i64 0,.int .i64 0]),⟨3,none,none,.k (.store 8 (.t 6) (.t 12))⟩] [1,4,6,7,8,9])
    (.seq (.reg [mv 0 13 1,ld 1 14 8 true 6,⟨2,some 15,none,.call (.t 13) [.t 14]⟩] [1,4,6,7,8,9,15])
    (.cond (.t 15)
      (.reg [mv 0 16 4,ld 1 17 8 true 6,oo 2 18 (.mkSl 8 [.str [],.int .i64 0,.str [],.str [],.int .i64 0,.sl 3 [] .exact,.int .i64 0,.int .i64 0] [.t 17]),oo 3 19 (.app 8 104 (.t 16) (.t 18)),mv 4 4 19] [1,4,7,8,9])
      (.skip)))))
  (.named [1,4,7,8,9] m46k0)))
def m46k1 : MC :=
  .seq (.reg [mv 0 21 4,mv 1 4 21] [4])
  (.ret)
def m46 : MC :=
  .seq (.reg [mc 0 4 (.sl 8 [] .exact)] [0,1,4])
  (.seq (.seq (.reg [mv 0 7 0,oo 1 8 (.len false (.t 7)),mc 2 9 (.int .i64 0)] [1,4,7,8,9])
  (.block 0
    (.loop m46l0)))
  (.named [4] m46k1))
theorem is46 : FnIs Tryz.prog 46 22 m46 [.t 4] := .of Tryz.call46 Tryz.func46 (by kernel_rfl)
def m47 : MC :=
  .seq (.reg [oo 0 2 (.box (.t 0)),mc 1 3 (.bool false)] [1,2])
  (.seq (.reg [fa 0 4 3 2,ld 1 5 1 false 4,ld 2 6 1 false 1,bi 3 7 .eql 5 6,mv 4 3 7] [3])
  (.ret))
theorem is47 : FnIs Tryz.prog 47 8 m47 [.t 3] := .of Tryz.call47 Tryz.func47 (by kernel_rfl)
def m48 : MC :=
  .seq (.reg [oo 0 6 (.box (.t 2)),oo 1 7 (.box (.t 3)),mc 2 8 (.sl 6 [] .exact)] [0,1,6,7])
  (.seq (.reg [mv 0 9 0,mv 1 10 1,oc 2 11 72 [.t 10],oo 3 12 (.func (.func 73) [] [.t 6,.t 7]),oc 4 13 71 [.t 11,.t 12],⟨5,some 14,none,.call (.f 70) [.t 9,.c (.sl 6 [] .exact),.t 13]⟩,mv 6 8 14] [8])
  (.ret))
theorem is48 : FnIs Tryz.prog 48 15 m48 [.t 8] := .of Tryz.call48 Tryz.func48 (by kernel_rfl)
def m49k0 : MC :=
  .cond (.t 26)
    (.seq (.reg [mc 0 6 (.sl 9 [] .exact)] [6])
    (.ret))
    (.skip)
def m49k1 : MC :=
  .cond (.t 50)
    (.exit 1)
    (.skip)
def m49k2 : MC :=
  .seq (.any (.one (ld 0 51 4 true 3) true false <|
      .one (ld 1 52 8 true 9) true false <|
      on1 (fa 2 53 11 4) <|
      .one (ld 3 54 1 false 53) true false <|
      on1 (oo 4 55 (.iadr 12 (.t 54) (.c (.int .i64 0)))) <|
      .one (ld 5 56 12 true 55) true false <|
      .two (oc 6 57 74 [.t 51,.t 52,.t 56]) true (.one (oo 7 10 (.alloc [.int .i64 0,.int .i64 0,.str []])) false true <|
      on1 ⟨8,none,none,.k (.store 3 (.t 10) (.t 57))⟩ <|
      .done) (oo 7 10 (.alloc [.int .i64 0,.int .i64 0,.str []])) true (.one (oc 6 57 74 [.t 51,.t 52,.t 56]) false true <|
      on1 ⟨8,none,none,.k (.store 3 (.t 10) (.t 57))⟩ <|
      .done)) [3,4,9] [3,4,6,8,9,10,27,28,29])
  (.seq (.reg [fa 0 58 0 10,ld 1 59 1 false 58,bc 2 60 .neq 59 (.int .i64 0)] [3,4,6,8,9,10,27,28,29,60])
  (.cond (.t 60)
    (.reg [mv 0 61 6,fa 1 62 3 9,ld 2 63 1 false 62,fa 3 64 0 9,ld 4 65 2 true 64,fa 5 66 4 9,ld 6 67 1 false 66,ld 7 68 3 true 10,fa 8 69 8 8,ld 9 70 1 false 69,fa 10 71 9 8,ld 11 72 1 false 71,oo 12 73 (.build [.str [],.str [],.int .i64 0,.int .i64 0,.int .i64 0,.int .i64 0,.str [],.int .i64 0,.int .i64 0] [(0,1,.t 63),(1,2,.t 65),(3,1,.t 67),(4,3,.t 68),(7,1,.t 70),(8,1,.t 72)]),oo 13 74 (.mkSl 9 [.str [],.str [],.int .i64 0,.int .i64 0,.int .i64 0,.int .i64 0,.str [],.int .i64 0,.int .i64 0] [.t 73]),oo 14 75 (.app 9 96 (.t 61) (.t 74)),mv 15 6 75] [3,4,6,27,28,29])
    (.skip)))
def m49k3 : MC :=
  .reg [bc 0 76 .add 29 (.int .i64 1),mv 1 29 76] [3,4,6,27,28,29]
def m49l0 : MC :=
  .seq (.reg [bi 0 30 .lss 29 28] [3,4,6,27,28,29,30])
  (.seq (.cond (.t 30)
    (.skip)
    (.exit 0))
  (.seq (.block 1
    (.seq (.reg [oo 0 31 (.iadr 10 (.t 27) (.t 29)),ld 1 32 10 true 31,oo 2 8 (.alloc [.str [],.int .i64 0,.str [],.str [],.int .i64 0,.sl 3 [] .exact,.int .i64 0,.int .i64 0,.int .i64 0,.int .i64 0]),⟨3,none,none,.k (.store 10 (.t 8) (.t 32))⟩] [3,4,6,8,27,28,29])
    (.seq (.reg [fa 0 33 0 8,ld 1 34 8 true 33,oo 2 9 (.alloc [.str [],.int .i64 0,.str [],.str [],.int .i64 0,.sl 3 [] .exact,.int .i64 0,.int .i64 0]),⟨3,none,none,.k (.store 8 (.t 9) (.t 34))⟩] [3,4,6,8,9,27,28,29])
    (.seq (.seq (.any (on1 (fa 0 35 2 9) <|
        .one (ld 1 36 1 false 35) true false <|
        on1 (fa 2 37 0 3) <|
        .one (ld 3 38 1 false 37) true false <|
        on1 (bi 4 39 .neq 36 38) <|
        on1 (mv 5 40 39) <|
        on1 (og 6 41 40 false (.load 4 true (.t 3))) <|
        on1 (og 7 42 40 false (.load 8 true (.t 9))) <|
        on1 (og 8 43 40 false (.fadr 11 (.t 4))) <|
        .one (og 9 44 40 false (.load 1 false (.t 43))) true false <|
        on1 (og 10 45 40 false (.iadr 12 (.t 44) (.c (.int .i64 1)))) <|
        on1 (og 11 46 40 false (.load 12 true (.t 45))) <|
        on1 (og 13 48 40 false (.build [.int .i64 0,.int .i64 0,.str []] [(0,1,.c (.int .i64 1)),(1,1,.c (.int .i64 1))])) <|
        .one ⟨12,some 47,(some (40,false)),.call (.f 74) [.t 41,.t 42,.t 46]⟩ false true <|
        on1 (og 14 49 40 false (.eqv [.i,.i,.s] true (.t 47) (.t 48))) <|
        on1 (oo 15 50 (.pick (.t 40) (.c (.bool true)) (.t 49))) <|
        .done) [3,4,9] [3,4,6,8,9,27,28,29,50])
    (.named [3,4,6,8,9,27,28,29,50] m49k1))
    (.named [3,4,6,8,9,27,28,29] m49k2)))))
  (.named [3,4,6,27,28,29] m49k3)))
def m49k4 : MC :=
  .seq (.reg [mv 0 77 6,mv 1 6 77] [6])
  (.ret)
def m49k5 : MC :=
  .seq (.seq (.reg [mv 0 27 2,oo 1 28 (.len false (.t 27)),mc 2 29 (.int .i64 0)] [3,4,6,27,28,29])
  (.block 0
    (.loop m49l0)))
  (.named [6] m49k4)
def m49 : MC :=
  .seq (.reg [oo 0 3 (.box (.t 0)),oo 1 4 (.box (.t 1)),mc 2 6 (.sl 9 [] .exact)] [2,3,4,6])
  (.seq (.seq (.reg [fa 0 11 0 4,ld 1 12 1 false 11,bc 2 13 .neq 12 (.int .i64 5),mv 3 14 13,og 4 15 14 false (.fadr 3 (.t 4)),og 5 16 14 false (.load 1 false (.t 15)),og 6 17 14 false (.fadr 0 (.t 3)),og 7 18 14 false (.load 1 false (.t 17)),og 8 19 14 false (.bin .neq (.t 16) (.t 18)),oo 9 20 (.pick (.t 14) (.c (.bool true)) (.t 19)),mv 10 21 20,og 11 22 21 false (.fadr 11 (.t 4)),og 12 23 21 false (.load 1 false (.t 22)),og 13 24 21 false (.len false (.t 23)),og 14 25 21 false (.bin .neq (.t 24) (.c (.int .i64 2))),oo 15 26 (.pick (.t 21) (.c (.bool true)) (.t 25))] [2,3,4,6,26])
  (.named [2,3,4,6,26] m49k0))
  (.named [2,3,4,6] m49k5))
theorem is49 : FnIs Tryz.prog 49 78 m49 [.t 6] := .of Tryz.call49 Tryz.func49 (by kernel_rfl)
def m50 : MC :=
  .seq (.reg [oo 0 3 (.box (.t 0)),oo 1 5 (.box (.t 2)),oo 2 6 (.alloc [.int .i64 0,.sl 2 [] .exact,.str []]),mc 3 7 (.int .i64 0)] [1,3,5,6])
  (.seq (.seq (.reg [ld 0 9 12 true 5,oc 1 10 75 [.t 9],mv 2 8 10] [1,3,5,6,8])
  (.seq (.reg [mv 0 11 8,bc 1 12 .neq 11 (.int .i64 0)] [1,3,5,6,8,12])
  (.cond (.t 12)
    (.seq (.reg [mv 0 13 8,oc 1 14 76 [.t 13],oo 2 15 (.ext (.t 14) 0),oo 3 16 (.ext (.t 14) 1),⟨4,none,none,.k (.store 3 (.t 6) (.t 15))⟩,mv 5 7 16] [6,7])
    (.ret))
    (.skip))))
  (.seq (.reg [ld 0 17 4 true 3,mv 1 18 1,oo 2 19 (.build [.sl 4 [] .exact,.sl 18 [] .exact,.sl 18 [] .exact,.sl 18 [] .exact,.str [],.nilf] [(0,4,.t 17),(4,1,.t 18)]),ld 3 20 12 true 5,oc 4 21 77 [.t 19,.t 20],oo 5 22 (.ext (.t 21) 0),oo 6 23 (.ext (.t 21) 1),⟨7,none,none,.k (.store 3 (.t 6) (.t 22))⟩,mv 8 7 23] [6,7])
  (.ret)))
theorem is50 : FnIs Tryz.prog 50 24 m50 [.c 6 3 true,.t 7] := .of Tryz.call50 Tryz.func50 (by kernel_rfl)
def m51k0 : MC :=
  .cond (.t 25)
    (.seq (.reg [oo 0 28 (.build [.bool false] [(0,1,.c (.bool true))]),oo 1 29 (.ifc 161 (.t 28)),mv 2 2 29,mc 3 3 (.bool true)] [2,3])
    (.ret))
    (.skip)
def m51k1 : MC :=
  .cond (.t 19)
    (.seq (.reg [oo 0 23 (.build [.bool false] []),oo 1 24 (.ifc 161 (.t 23)),mv 2 2 24,mc 3 3 (.bool true)] [2,3])
    (.ret))
    (.seq (.seq (.reg [bc 0 26 .eql 4 (.str [102,105,114,115,116]),mv 1 25 26] [4,25])
    (.cond (.t 25)
      (.skip)
      (.reg [bc 0 27 .eql 4 (.str [108,97,115,116]),mv 1 25 27] [25])))
    (.named [25] m51k0))
def m51k2 : MC :=
  .cond (.t 9)
    (.seq (.reg [oo 0 13 (.build [] []),oo 1 14 (.ifc 158 (.t 13)),mv 2 2 14,mc 3 3 (.bool true)] [2,3])
    (.ret))
    (.seq (.reg [bc 0 16 .eql 4 (.str [113,117,97,110,116,105,108,101]),mv 1 15 16] [4,15])
    (.cond (.t 15)
      (.seq (.reg [oo 0 17 (.build [] []),oo 1 18 (.ifc 159 (.t 17)),mv 2 2 18,mc 3 3 (.bool true)] [2,3])
      (.ret))
      (.seq (.seq (.reg [bc 0 20 .eql 4 (.str [109,105,110]),mv 1 19 20] [4,19])
      (.cond (.t 19)
        (.skip)
        (.seq (.reg [bc 0 21 .eql 4 (.str [109,97,120]),mv 1 19 21] [4,19])
        (.cond (.t 19)
          (.skip)
          (.reg [bc 0 22 .eql 4 (.str [100,105,115,116,105,110,99,116]),mv 1 19 22] [4,19])))))
      (.named [4,19] m51k1))))
def m51k3 : MC :=
  .seq (.reg [mc 0 2 (.nili),mc 1 3 (.bool false)] [2,3])
  (.ret)
def m51 : MC :=
  .seq (.reg [mc 0 2 (.nili),mc 1 3 (.bool false)] [0])
  (.seq (.seq (.reg [mv 0 4 0] [4])
  (.block 0
    (.seq (.reg [bc 0 6 .eql 4 (.str [99,111,117,110,116]),mv 1 5 6] [4,5])
    (.cond (.t 5)
      (.seq (.reg [oo 0 7 (.build [] []),oo 1 8 (.ifc 156 (.t 7)),mv 2 2 8,mc 3 3 (.bool true)] [2,3])
      (.ret))
      (.seq (.seq (.reg [bc 0 10 .eql 4 (.str [115,117,109]),mv 1 9 10] [4,9])
      (.cond (.t 9)
        (.skip)
        (.seq (.reg [bc 0 11 .eql 4 (.str [109,101,97,110]),mv 1 9 11] [4,9])
        (.cond (.t 9)
          (.skip)
          (.reg [bc 0 12 .eql 4 (.str [100,101,99,97,121]),mv 1 9 12] [4,9])))))
      (.named [4,9] m51k2))))))
  (.named [] m51k3))
theorem is51 : FnIs Tryz.prog 51 30 m51 [.t 2,.t 3] := .of Tryz.call51 Tryz.func51 (by kernel_rfl)
def m56k0 : MC :=
  .cond (.t 10)
    (.seq (.reg [fa 0 14 1 1,ld 1 15 1 false 14,bc 2 16 .geq 15 (.int .i64 1),mv 3 17 16,og 4 18 17 true (.fadr 1 (.t 1)),og 5 19 17 true (.load 1 false (.t 18)),og 6 20 17 true (.bin .leq (.t 19) (.c (.int .i64 1099511627776))),oo 7 21 (.pick (.t 17) (.t 20) (.c (.bool false))),mv 8 2 21] [2])
    (.ret))
    (.skip)
def m56k1 : MC :=
  .seq (.reg [mc 0 2 (.bool false)] [2])
  (.ret)
def m56 : MC :=
  .seq (.reg [oo 0 1 (.box (.t 0)),mc 1 2 (.bool false)] [1])
  (.seq (.seq (.reg [fa 0 3 0 1,ld 1 4 1 false 3] [1,4])
  (.block 0
    (.seq (.reg [bc 0 6 .eql 4 (.int .i64 1),mv 1 5 6] [1,4,5])
    (.cond (.t 5)
      (.seq (.reg [fa 0 7 1 1,ld 1 8 1 false 7,bc 2 9 .eql 8 (.int .i64 0),mv 3 2 9] [2])
      (.ret))
      (.seq (.seq (.reg [bc 0 11 .eql 4 (.int .i64 2),mv 1 10 11] [1,4,10])
      (.cond (.t 10)
        (.skip)
        (.seq (.reg [bc 0 12 .eql 4 (.int .i64 3),mv 1 10 12] [1,4,10])
        (.cond (.t 10)
          (.skip)
          (.reg [bc 0 13 .eql 4 (.int .i64 4),mv 1 10 13] [1,10])))))
      (.named [1,10] m56k0))))))
  (.named [] m56k1))
theorem is56 : FnIs Tryz.prog 56 22 m56 [.t 2] := .of Tryz.call56 Tryz.func56 (by kernel_rfl)
def m57 : MC :=
  .seq (.reg [mc 0 2 (.bool false)] [0])
  (.seq (.reg [mv 0 3 0,bc 1 4 .geq 3 (.int .i64 0),mv 2 5 4,gm 3 6 5 true 0,og 4 7 5 true (.bin .leq (.t 6) (.c (.int .i64 1099511627776))),oo 5 8 (.pick (.t 5) (.t 7) (.c (.bool false))),mv 6 2 8] [2])
  (.ret))
theorem is57 : FnIs Tryz.prog 57 9 m57 [.t 2] := .of Tryz.call57 Tryz.func57 (by kernel_rfl)
def m68 : MC :=
  .seq (.reg [mc 0 2 (.bool false)] [0])
  (.seq (.reg [mv 0 3 0,mv 1 4 0,bi 2 5 .neq 3 4,mv 3 2 5] [2])
  (.ret))
theorem is68 : FnIs Tryz.prog 68 6 m68 [.t 2] := .of Tryz.call68 Tryz.func68 (by kernel_rfl)
def m69 : MC :=
  .reg [mv 0 4 0,mv 1 5 0,oo 2 6 (.len false (.t 5)),mv 3 7 1,oc 4 8 88 [.t 4,.t 6,.t 7]] []
theorem is69 : FnIs Tryz.prog 69 9 m69 [] := .of Tryz.call69 Tryz.func69 (by kernel_rfl)
def m70k0 : MC :=
  .seq (.reg [mv 0 44 0,fa 1 45 1 11,ld 2 46 5 true 45,fa 3 47 4 8,ld 4 48 3 true 47,fa 5 49 1 8,ld 6 50 2 true 49,fa 7 51 8 8,ld 8 52 1 false 51,oo 9 53 (.build [.int .i64 0,.int .i64 0,.str [],.str [],.int .i64 0,.int .i64 0] [(0,3,.t 48),(3,2,.t 50),(5,1,.t 52)]),oc 10 54 93 [.t 44,.t 46,.t 53],fa 11 55 1 11,⟨12,none,none,.k (.store 5 (.t 55) (.t 54))⟩] [0,6,9,11,18,19,20])
  (.seq (.reg [fa 0 56 1 11,ld 1 57 5 true 56,oc 2 58 94 [.t 57],oo 3 59 (.un .not (.t 58))] [0,6,9,11,18,19,20,59])
  (.cond (.t 59)
    (.reg [mv 0 60 6,mv 1 61 9,ld 2 62 6 true 11,oo 3 63 (.mkSl 6 [.int .i64 0,.int .i64 0,.int .i64 0,.int .u64 0,.sl 6 [] .exact,.sl 2 [] .exact] [.t 62]),oc 4 64 95 [.t 60,.t 61,.t 63],mv 5 6 64] [0,6,18,19,20])
    (.skip)))
def m70k1 : MC :=
  .reg [bc 0 65 .add 20 (.int .i64 1),mv 1 20 65] [0,6,18,19,20]
def m70l0 : MC :=
  .seq (.reg [bi 0 21 .lss 20 19] [0,6,18,19,20,21])
  (.seq (.cond (.t 21)
    (.skip)
    (.exit 0))
  (.seq (.block 1
    (.seq (.reg [oo 0 22 (.iadr 9 (.t 18) (.t 20)),ld 1 23 9 true 22,oo 2 8 (.alloc [.str [],.str [],.int .i64 0,.int .i64 0,.int .i64 0,.int .i64 0,.str [],.int .i64 0,.int .i64 0]),⟨3,none,none,.k (.store 9 (.t 8) (.t 23))⟩] [0,6,8,18,19,20])
    (.seq (.reg [mv 0 25 6,fa 1 26 3 8,ld 2 27 1 false 26,oc 3 28 90 [.t 25,.t 27,.f 91],mv 4 24 28,oo 5 29 (.ext (.t 24) 0),oo 6 30 (.ext (.t 24) 1),mv 7 9 29,mv 8 10 30] [0,6,8,9,10,18,19,20])
    (.seq (.reg [fa 0 31 3 8,ld 1 32 1 false 31,oo 2 33 (.build [.int .i64 0,.int .i64 0,.int .i64 0,.int .u64 0,.sl 6 [] .exact,.sl 2 [] .exact] [(0,1,.t 32)]),oo 3 11 (.alloc [.int .i64 0,.int .i64 0,.int .i64 0,.int .u64 0,.sl 6 [] .exact,.sl 2 [] .exact]),⟨4,none,none,.k (.store 6 (.t 11) (.t 33))⟩] [0,6,8,9,10,11,18,19,20])
    (.seq (.seq (.reg [mv 0 34 10] [0,6,8,9,11,18,19,20,34])
    (.cond (.t 34)
      (.seq (.reg [mv 0 35 6,mv 1 36 9,oo 2 37 (.iadr 6 (.t 35) (.t 36)),ld 3 38 6 true 37,⟨4,none,none,.k (.store 6 (.t 11) (.t 38))⟩] [0,6,8,9,11,18,19,20])
      (.reg [mv 0 39 6,mv 1 40 9,mv 2 41 9,bc 3 42 .add 41 (.int .i64 1),oc 4 43 92 [.t 39,.t 40,.t 42],mv 5 6 43] [0,6,8,9,11,18,19,20]))
      (.skip)))
    (.named [0,6,8,9,11,18,19,20] m70k0))))))
  (.named [0,6,18,19,20] m70k1)))
def m70k2 : MC :=
  .seq (.reg [mv 0 66 6,mv 1 6 66] [6])
  (.ret)
def m70 : MC :=
  .seq (.reg [mc 0 6 (.sl 6 [] .exact)] [0,1,2])
  (.seq (.seq (.reg [mv 0 12 0,oc 1 13 89 [.t 12],oo 2 14 (.un .not (.t 13))] [0,1,2,14])
  (.cond (.t 14)
    (.seq (.reg [mv 0 15 1,mv 1 6 15] [6])
    (.ret))
    (.skip)))
  (.seq (.reg [mv 0 16 1,oc 1 17 39 [.t 16],mv 2 6 17] [0,2,6])
  (.seq (.seq (.reg [mv 0 18 2,oo 1 19 (.len false (.t 18)),mc 2 20 (.int .i64 0)] [0,6,18,19,20])
  (.block 0
    (.loop m70l0)))
  (.named [6] m70k2))))
theorem is70 : FnIs Tryz.prog 70 67 m70 [.t 6] := .of Tryz.call70 Tryz.func70 (by kernel_rfl)
end Go.Proofs.YtombgigaefgaiaaGreatDoor
