/- The functions of the seat in the small language (printed by a program), and that each is the program's. -/
import Derived.Test.YtdjdhecanjmchaaGreatDoorProg
import Derived.Test.YtdjdhecanjmchaaGreatDoorVr
import Derived.KernelRfl
set_option linter.unusedSimpArgs false
set_option linter.unusedVariables false
namespace Go.Proofs.YtdjdhecanjmchaaGreatDoor
open Go Go.V
def m8k0 : MC :=
  .cond (.t 22)
    (.seq (.reg [mc 0 4 (.bool true)] [4])
    (.ret))
    (.skip)
def m8k1 : MC :=
  .seq (.reg [ld 0 24 3 true 2,oc 1 25 23 [.t 24],mv 2 23 25,oo 3 26 (.ext (.t 23) 0),oo 4 27 (.ext (.t 23) 1),mv 5 5 26,mv 6 6 27] [1,2,5,6])
  (.seq (.reg [ld 0 29 3 true 2,oc 1 30 28 [.t 29],mv 2 28 30,oo 3 31 (.ext (.t 28) 0),oo 4 32 (.ext (.t 28) 1),mv 5 7 31,mv 6 8 32] [1,5,6,7,8])
  (.seq (.reg [mv 0 34 1,oc 1 35 24 [.t 34],mv 2 33 35,oo 3 36 (.ext (.t 33) 0),oo 4 37 (.ext (.t 33) 1),oo 5 9 (.alloc [.str [],.sl 1 [] .exact,.sl 4 [] .exact]),⟨6,none,none,.k (.store 3 (.t 9) (.t 36))⟩,mv 7 10 37] [1,5,6,7,8,9,10])
  (.seq (.reg [mv 0 39 1,oc 1 40 29 [.t 39],mv 2 38 40,oo 3 41 (.ext (.t 38) 0),oo 4 42 (.ext (.t 38) 1),oo 5 11 (.alloc [.str [],.sl 1 [] .exact,.sl 4 [] .exact]),⟨6,none,none,.k (.store 3 (.t 11) (.t 41))⟩,mv 7 12 42] [1,5,6,7,8,9,10,11,12])
  (.seq (.reg [mv 0 43 6,mv 1 44 8,bi 2 45 .eql 43 44,mv 3 46 45,gm 4 47 46 true 5,og 5 48 46 true (.b2s (.t 47)),gm 6 49 46 true 7,og 7 50 46 true (.b2s (.t 49)),og 8 51 46 true (.bin .eql (.t 48) (.t 50)),oo 9 52 (.pick (.t 46) (.t 51) (.c (.bool false))),mv 10 53 52,gm 11 54 53 true 10,gm 12 55 53 true 12,og 13 56 53 true (.bin .eql (.t 54) (.t 55)),oo 14 57 (.pick (.t 53) (.t 56) (.c (.bool false))),mv 15 58 57,og 16 59 58 true (.load 3 true (.t 9)),og 17 60 58 true (.load 3 true (.t 11)),⟨18,some 61,(some (58,true)),.call (.f 16) [.t 59,.t 60]⟩,oo 19 62 (.pick (.t 58) (.t 61) (.c (.bool false))),mv 20 63 62,gm 21 64 63 true 1,⟨22,some 65,(some (63,true)),.call (.f 30) [.t 64]⟩,gm 23 66 63 true 1,⟨24,some 67,(some (63,true)),.call (.f 31) [.t 66]⟩,og 25 68 63 true (.bin .eql (.t 65) (.t 67)),oo 26 69 (.pick (.t 63) (.t 68) (.c (.bool false))),mv 27 4 69] [4])
  (.ret)))))
def m8 : MC :=
  .seq (.reg [oo 0 2 (.box (.t 0)),mc 1 4 (.bool false)] [1,2])
  (.seq (.seq (.reg [oc 0 13 11 [],oo 1 14 (.un .not (.t 13))] [1,2,14])
  (.cond (.t 14)
    (.seq (.reg [mc 0 4 (.bool false)] [4])
    (.ret))
    (.skip)))
  (.seq (.seq (.reg [ld 0 15 3 true 2,oc 1 16 13 [.t 15],oo 2 17 (.un .not (.t 16)),mv 3 18 17,gm 4 19 18 false 1,og 5 20 18 false (.len false (.t 19)),og 6 21 18 false (.bin .gtr (.t 20) (.c (.int .i64 20000))),oo 7 22 (.pick (.t 18) (.c (.bool true)) (.t 21))] [1,2,22])
  (.named [1,2,22] m8k0))
  (.named [1,2] m8k1)))
theorem is8 : FnIs Tryz.prog 8 70 m8 [.t 4] := .of Tryz.call8 Tryz.func8 (by kernel_rfl)
def m28l0 : MC :=
  .seq (.seq (.reg [mv 0 12 5,fa 1 13 2 1,ld 2 14 1 false 13,oo 3 15 (.len false (.t 14)),bi 4 16 .lss 12 15] [1,4,5,16])
  (.cond (.t 16)
    (.skip)
    (.exit 0)))
  (.seq (.block 1
    (.reg [mv 0 19 4,fa 1 20 2 1,ld 2 21 1 false 20,mv 3 22 5,oo 4 23 (.iadr 4 (.t 21) (.t 22)),ld 5 24 4 true 23,oc 6 25 77 [.t 24],oc 7 26 75 [.t 25],oo 8 27 (.app 1 1 (.t 19) (.t 26)),mv 9 4 27] [1,4,5]))
  (.reg [mv 0 17 5,bc 1 18 .add 17 (.int .i64 1),mv 2 5 18] [1,4,5]))
def m28k0 : MC :=
  .seq (.reg [mv 0 28 4,mv 1 2 28,mc 2 3 (.int .i64 0)] [2,3])
  (.ret)
def m28 : MC :=
  .seq (.reg [oo 0 1 (.box (.t 0)),mc 1 2 (.sl 1 [] .exact),mc 2 3 (.int .i64 0)] [1])
  (.seq (.seq (.reg [ld 0 6 3 true 1,oc 1 7 22 [.t 6],oo 2 8 (.un .not (.t 7))] [1,8])
  (.cond (.t 8)
    (.seq (.reg [mc 0 2 (.sl 1 [] .exact),mc 1 3 (.int .i64 1)] [2,3])
    (.ret))
    (.skip)))
  (.seq (.reg [ld 0 9 3 true 1,oc 1 10 76 [.t 9],oc 2 11 75 [.t 10],mv 3 4 11] [1,4])
  (.seq (.seq (.reg [mc 0 5 (.int .i64 0)] [1,4,5])
  (.block 0
    (.loop m28l0)))
  (.named [4] m28k0))))
theorem is28 : FnIs Tryz.prog 28 29 m28 [.t 2,.t 3] := .of Tryz.call28 Tryz.func28 (by kernel_rfl)
def m29l0 : MC :=
  .seq (.seq (.reg [mv 0 33 10,mv 1 34 9,bi 2 35 .lss 33 34] [0,2,5,7,8,9,10,35])
  (.cond (.t 35)
    (.skip)
    (.exit 0)))
  (.seq (.block 1
    (.any (on1 (fa 0 38 1 8) <|
        .one (ld 1 39 1 false 38) true false <|
        on1 (mv 2 40 7) <|
        .one (oc 3 41 79 [.t 40]) false true <|
        on1 (oo 4 42 (.mkSl 1 [.str []] [.t 41])) <|
        on1 (oo 5 43 (.app 1 16 (.t 39) (.t 42))) <|
        on1 (fa 6 44 1 8) <|
        on1 ⟨7,none,none,.k (.store 1 (.t 44) (.t 43))⟩ <|
        .done) [8] [0,2,5,7,8,9,10]))
  (.reg [mv 0 36 10,bc 1 37 .add 36 (.int .i64 1),mv 2 10 37] [0,2,5,7,8,9,10]))
def m29l1 : MC :=
  .seq (.seq (.reg [mv 0 80 14,mv 1 81 9,bi 2 82 .lss 80 81] [0,2,5,7,8,9,11,12,13,14,82])
  (.cond (.t 82)
    (.skip)
    (.exit 4)))
  (.seq (.block 5
    (.any (on1 (fa 0 85 3 13) <|
        .one (ld 1 86 1 false 85) true false <|
        on1 (mv 2 87 7) <|
        .one (oc 3 88 83 [.t 87]) false true <|
        on1 (oo 4 89 (.mkSl 3 [.int .i64 0,.int .i64 0,.str []] [.t 88])) <|
        on1 (oo 5 90 (.app 3 32 (.t 86) (.t 89))) <|
        on1 (fa 6 91 3 13) <|
        on1 ⟨7,none,none,.k (.store 1 (.t 91) (.t 90))⟩ <|
        .done) [13] [0,2,5,7,8,9,11,12,13,14]))
  (.reg [mv 0 83 14,bc 1 84 .add 83 (.int .i64 1),mv 2 14 84] [0,2,5,7,8,9,11,12,13,14]))
def m29k0 : MC :=
  .seq (.seq (.reg [mv 0 92 7,oc 1 93 81 [.t 92],bc 2 94 .neq 93 (.int .i64 0)] [0,2,5,7,8,9,11,12,13,94])
  (.cond (.t 94)
    (.seq (.reg [oo 0 95 (.build [.str [],.sl 1 [] .exact,.sl 4 [] .exact] []),mv 1 96 7,oc 2 97 81 [.t 96],⟨3,none,none,.k (.store 3 (.t 2) (.t 95))⟩,mv 4 3 97] [2,3])
    (.ret))
    (.skip)))
  (.reg [fa 0 98 2 8,ld 1 99 1 false 98,ld 2 100 4 true 13,oo 3 101 (.mkSl 4 [.str [],.int .i64 0,.int .i64 0,.sl 3 [] .exact] [.t 100]),oo 4 102 (.app 4 56 (.t 99) (.t 101)),fa 5 103 2 8,⟨6,none,none,.k (.store 1 (.t 103) (.t 102))⟩] [0,2,5,8,9,11,12])
def m29k1 : MC :=
  .reg [mv 0 56 12,bc 1 57 .add 56 (.int .i64 1),mv 2 12 57] [0,2,5,8,9,11,12]
def m29l2 : MC :=
  .seq (.seq (.reg [mv 0 53 12,mv 1 54 11,bi 2 55 .lss 53 54] [0,2,5,8,9,11,12,55])
  (.cond (.t 55)
    (.skip)
    (.exit 2)))
  (.seq (.block 3
    (.seq (.reg [mv 0 59 0,mv 1 60 5,oc 2 61 78 [.t 59,.t 60],mv 3 58 61,oo 4 62 (.ext (.t 58) 0),oo 5 63 (.ext (.t 58) 1),oo 6 64 (.ext (.t 58) 2),mv 7 4 62,mv 8 5 63,mv 9 6 64] [0,2,4,5,6,8,9,11,12])
    (.seq (.seq (.reg [mv 0 65 6,bc 1 66 .neq 65 (.int .i64 0)] [0,2,4,5,6,8,9,11,12,66])
    (.cond (.t 66)
      (.seq (.reg [oo 0 67 (.build [.str [],.sl 1 [] .exact,.sl 4 [] .exact] []),mv 1 68 6,⟨2,none,none,.k (.store 3 (.t 2) (.t 67))⟩,mv 3 3 68] [2,3])
      (.ret))
      (.skip)))
    (.seq (.reg [mv 0 69 4,oo 1 70 (.build [.sl 1 [] .exact,.int .i64 0,.int .i64 0] [(0,1,.t 69)]),oo 2 71 (.box (.t 70)),mv 3 7 71] [0,2,5,7,8,9,11,12])
    (.seq (.reg [mv 0 72 7,oc 1 73 79 [.t 72],mv 2 74 7,oc 3 75 82 [.t 74],mv 4 76 7,oc 5 77 82 [.t 76],oo 6 78 (.build [.str [],.int .i64 0,.int .i64 0] [(0,1,.t 73),(1,1,.t 75),(2,1,.t 77)]),oo 7 79 (.build [.str [],.int .i64 0,.int .i64 0,.sl 3 [] .exact] [(0,3,.t 78)]),oo 8 13 (.alloc [.str [],.int .i64 0,.int .i64 0,.sl 3 [] .exact]),⟨9,none,none,.k (.store 4 (.t 13) (.t 79))⟩] [0,2,5,7,8,9,11,12,13])
    (.seq (.seq (.reg [mc 0 14 (.int .i64 0)] [0,2,5,7,8,9,11,12,13,14])
    (.block 4
      (.loop m29l1)))
    (.named [0,2,5,7,8,9,11,12,13] m29k0)))))))
  (.named [0,2,5,8,9,11,12] m29k1))
def m29k2 : MC :=
  .cond (.t 112)
    (.seq (.reg [oo 0 113 (.build [.str [],.sl 1 [] .exact,.sl 4 [] .exact] []),⟨1,none,none,.k (.store 3 (.t 2) (.t 113))⟩,mc 2 3 (.int .i64 3)] [2,3])
    (.ret))
    (.skip)
def m29k3 : MC :=
  .seq (.reg [ld 0 114 3 true 8,⟨1,none,none,.k (.store 3 (.t 2) (.t 114))⟩,mc 2 3 (.int .i64 0)] [2,3])
  (.ret)
def m29k4 : MC :=
  .seq (.seq (.reg [mv 0 104 5,mv 1 105 0,oo 2 106 (.len false (.t 105)),bi 3 107 .neq 104 106,mv 4 108 107,og 5 109 108 false (.load 3 true (.t 8)),⟨6,some 110,(some (108,false)),.call (.f 22) [.t 109]⟩,og 7 111 108 false (.un .not (.t 110)),oo 8 112 (.pick (.t 108) (.c (.bool true)) (.t 111))] [2,8,112])
  (.named [2,8,112] m29k2))
  (.named [2,8] m29k3)
def m29k5 : MC :=
  .seq (.reg [mv 0 45 7,oc 1 46 80 [.t 45,.c (.int .u64 256)],mv 2 11 46] [0,2,5,7,8,9,11])
  (.seq (.seq (.reg [mv 0 47 7,oc 1 48 81 [.t 47],bc 2 49 .neq 48 (.int .i64 0)] [0,2,5,7,8,9,11,49])
  (.cond (.t 49)
    (.seq (.reg [oo 0 50 (.build [.str [],.sl 1 [] .exact,.sl 4 [] .exact] []),mv 1 51 7,oc 2 52 81 [.t 51],⟨3,none,none,.k (.store 3 (.t 2) (.t 50))⟩,mv 4 3 52] [2,3])
    (.ret))
    (.skip)))
  (.seq (.seq (.reg [mc 0 12 (.int .i64 0)] [0,2,5,8,9,11,12])
  (.block 2
    (.loop m29l2)))
  (.named [0,2,5,8] m29k4)))
def m29 : MC :=
  .seq (.reg [oo 0 2 (.alloc [.str [],.sl 1 [] .exact,.sl 4 [] .exact]),mc 1 3 (.int .i64 0)] [0,2])
  (.seq (.reg [mv 0 16 0,oc 1 17 78 [.t 16,.c (.int .i64 0)],mv 2 15 17,oo 3 18 (.ext (.t 15) 0),oo 4 19 (.ext (.t 15) 1),oo 5 20 (.ext (.t 15) 2),mv 6 4 18,mv 7 5 19,mv 8 6 20] [0,2,4,5,6])
  (.seq (.seq (.reg [mv 0 21 6,bc 1 22 .neq 21 (.int .i64 0)] [0,2,4,5,6,22])
  (.cond (.t 22)
    (.seq (.reg [oo 0 23 (.build [.str [],.sl 1 [] .exact,.sl 4 [] .exact] []),mv 1 24 6,⟨2,none,none,.k (.store 3 (.t 2) (.t 23))⟩,mv 3 3 24] [2,3])
    (.ret))
    (.skip)))
  (.seq (.reg [mv 0 25 4,oo 1 26 (.build [.sl 1 [] .exact,.int .i64 0,.int .i64 0] [(0,1,.t 25)]),oo 2 27 (.box (.t 26)),mv 3 7 27] [0,2,5,7])
  (.seq (.reg [mv 0 28 7,oc 1 29 79 [.t 28],oo 2 30 (.build [.str [],.sl 1 [] .exact,.sl 4 [] .exact] [(0,1,.t 29)]),oo 3 8 (.alloc [.str [],.sl 1 [] .exact,.sl 4 [] .exact]),⟨4,none,none,.k (.store 3 (.t 8) (.t 30))⟩] [0,2,5,7,8])
  (.seq (.reg [mv 0 31 7,oc 1 32 80 [.t 31,.c (.int .u64 8)],mv 2 9 32] [0,2,5,7,8,9])
  (.seq (.seq (.reg [mc 0 10 (.int .i64 0)] [0,2,5,7,8,9,10])
  (.block 0
    (.loop m29l0)))
  (.named [0,2,5,7,8,9] m29k5)))))))
theorem is29 : FnIs Tryz.prog 29 115 m29 [.c 2 3 true,.t 3] := .of Tryz.call29 Tryz.func29 (by kernel_rfl)
def m30 : MC :=
  .seq (.reg [mc 0 2 (.int .u64 0)] [0])
  (.seq (.reg [mv 0 3 0,oc 1 4 84 [.c (.int .u64 29),.t 3],mv 2 2 4] [2])
  (.ret))
theorem is30 : FnIs Tryz.prog 30 5 m30 [.t 2] := .of Tryz.call30 Tryz.func30 (by kernel_rfl)
def m31 : MC :=
  .seq (.reg [mc 0 2 (.int .u64 0)] [0])
  (.seq (.reg [mv 0 3 0,oc 1 4 85 [.c (.int .u64 29),.t 3],mv 2 2 4] [2])
  (.ret))
theorem is31 : FnIs Tryz.prog 31 5 m31 [.t 2] := .of Tryz.call31 Tryz.func31 (by kernel_rfl)
def m75 : MC :=
  .seq (.reg [mc 0 2 (.sl 1 [] .exact)] [0])
  (.seq (.reg [mv 0 4 0,oo 1 5 (.len false (.t 4)),oo 2 6 (.conv .u64 (.t 5)),oc 3 7 127 [.t 6],mv 4 8 0,oo 5 9 (.app 1 1 (.t 7) (.t 8)),mv 6 3 9] [0,3])
  (.seq (.reg [mv 0 10 3,mv 1 11 0,oc 2 12 128 [.t 11],oo 3 13 (.app 1 1 (.t 10) (.t 12)),mv 4 2 13] [2])
  (.ret)))
theorem is75 : FnIs Tryz.prog 75 14 m75 [.t 2] := .of Tryz.call75 Tryz.func75 (by kernel_rfl)
def m76l0 : MC :=
  .seq (.seq (.reg [mv 0 14 4,fa 1 15 1 1,ld 2 16 1 false 15,oo 3 17 (.len false (.t 16)),bi 4 18 .lss 14 17] [1,3,4,18])
  (.cond (.t 18)
    (.skip)
    (.exit 0)))
  (.seq (.block 1
    (.reg [mv 0 21 3,fa 1 22 1 1,ld 2 23 1 false 22,mv 3 24 4,oo 4 25 (.iadr 1 (.t 23) (.t 24)),ld 5 26 1 false 25,oc 6 27 129 [.t 26],oo 7 28 (.app 1 1 (.t 21) (.t 27)),mv 8 3 28] [1,3,4]))
  (.reg [mv 0 19 4,bc 1 20 .add 19 (.int .i64 1),mv 2 4 20] [1,3,4]))
def m76k0 : MC :=
  .seq (.reg [mv 0 29 3,fa 1 30 2 1,ld 2 31 1 false 30,oo 3 32 (.len false (.t 31)),oo 4 33 (.conv .u64 (.t 32)),oc 5 34 127 [.t 33],oo 6 35 (.app 1 1 (.t 29) (.t 34)),mv 7 2 35] [2])
  (.ret)
def m76 : MC :=
  .seq (.reg [oo 0 1 (.box (.t 0)),mc 1 2 (.sl 1 [] .exact)] [1])
  (.seq (.any (on1 (fa 0 5 0 1) <|
      .one (ld 1 6 1 false 5) true false <|
      on1 (fa 3 8 1 1) <|
      .one (ld 4 9 1 false 8) true false <|
      on1 (oo 5 10 (.len false (.t 9))) <|
      on1 (oo 6 11 (.conv .u64 (.t 10))) <|
      .one (oc 2 7 129 [.t 6]) false true <|
      .one (oc 7 12 127 [.t 11]) false true <|
      .one (oo 8 13 (.app 1 1 (.t 7) (.t 12))) false true <|
      on1 (mv 9 3 13) <|
      .done) [1] [1,3])
  (.seq (.seq (.reg [mc 0 4 (.int .i64 0)] [1,3,4])
  (.block 0
    (.loop m76l0)))
  (.named [1,3] m76k0)))
theorem is76 : FnIs Tryz.prog 76 36 m76 [.t 2] := .of Tryz.call76 Tryz.func76 (by kernel_rfl)
def m77l0 : MC :=
  .seq (.seq (.reg [mv 0 20 4,fa 1 21 3 1,ld 2 22 1 false 21,oo 3 23 (.len false (.t 22)),bi 4 24 .lss 20 23] [1,3,4,24])
  (.cond (.t 24)
    (.skip)
    (.exit 0)))
  (.seq (.block 1
    (.reg [mv 0 27 3,fa 1 28 3 1,ld 2 29 1 false 28,mv 3 30 4,oo 4 31 (.iadr 3 (.t 29) (.t 30)),ld 5 32 3 true 31,oc 6 33 131 [.t 32],oo 7 34 (.app 1 1 (.t 27) (.t 33)),mv 8 3 34] [1,3,4]))
  (.reg [mv 0 25 4,bc 1 26 .add 25 (.int .i64 1),mv 2 4 26] [1,3,4]))
def m77k0 : MC :=
  .seq (.reg [mv 0 35 3,mv 1 2 35] [2])
  (.ret)
def m77 : MC :=
  .seq (.reg [oo 0 1 (.box (.t 0)),mc 1 2 (.sl 1 [] .exact)] [1])
  (.seq (.any (on1 (fa 0 5 0 1) <|
      on1 (fa 1 6 0 5) <|
      .one (ld 2 7 1 false 6) true false <|
      on1 (fa 4 9 0 1) <|
      on1 (fa 5 10 1 9) <|
      .one (ld 6 11 1 false 10) true false <|
      .one (oc 3 8 129 [.t 7]) false true <|
      .one (oc 7 12 130 [.t 11]) false true <|
      .one (oo 8 13 (.app 1 1 (.t 8) (.t 12))) false true <|
      on1 (mv 9 3 13) <|
      .done) [1] [1,3])
  (.seq (.reg [mv 0 14 3,fa 1 15 0 1,fa 2 16 2 15,ld 3 17 1 false 16,oc 4 18 130 [.t 17],oo 5 19 (.app 1 1 (.t 14) (.t 18)),mv 6 3 19] [1,3])
  (.seq (.seq (.reg [mc 0 4 (.int .i64 0)] [1,3,4])
  (.block 0
    (.loop m77l0)))
  (.named [3] m77k0))))
theorem is77 : FnIs Tryz.prog 77 36 m77 [.t 2] := .of Tryz.call77 Tryz.func77 (by kernel_rfl)
def m78 : MC :=
  .seq (.reg [mc 0 4 (.sl 1 [] .exact),mc 1 5 (.int .i64 0),mc 2 6 (.int .i64 0)] [0,1])
  (.seq (.reg [mv 0 15 0,mv 1 16 1,oc 2 17 132 [.t 15,.t 16],mv 3 14 17,oo 4 18 (.ext (.t 14) 0),oo 5 19 (.ext (.t 14) 1),oo 6 20 (.ext (.t 14) 2),mv 7 7 18,mv 8 8 19,mv 9 9 20] [0,7,8,9])
  (.seq (.seq (.reg [mv 0 21 9,bc 1 22 .neq 21 (.int .i64 0)] [0,7,8,9,22])
  (.cond (.t 22)
    (.seq (.reg [mv 0 23 9,mc 1 4 (.sl 1 [] .exact),mc 2 5 (.int .i64 0),mv 3 6 23] [4,5,6])
    (.ret))
    (.skip)))
  (.seq (.seq (.reg [mv 0 24 7,bc 1 25 .gtr 24 (.int .u64 8192)] [0,7,8,25])
  (.cond (.t 25)
    (.seq (.reg [mc 0 4 (.sl 1 [] .exact),mc 1 5 (.int .i64 0),mc 2 6 (.int .i64 2)] [4,5,6])
    (.ret))
    (.skip)))
  (.seq (.reg [mv 0 26 8,mv 1 27 7,oo 2 28 (.conv .i64 (.t 27)),bi 3 29 .add 26 28,mv 4 10 29] [0,8,10])
  (.seq (.seq (.reg [mv 0 30 10,bc 1 31 .add 30 (.int .i64 4),mv 2 32 0,oo 3 33 (.len false (.t 32)),bi 4 34 .gtr 31 33] [0,8,10,34])
  (.cond (.t 34)
    (.seq (.reg [mc 0 4 (.sl 1 [] .exact),mc 1 5 (.int .i64 0),mc 2 6 (.int .i64 41)] [4,5,6])
    (.ret))
    (.skip)))
  (.seq (.reg [mv 0 35 0,mv 1 36 8,mv 2 37 10,oo 3 38 (.slV 1 (.t 35) (some (.t 36)) (some (.t 37)) none),⟨4,some 39,none,.call (.f 133) [.t 38,.c (.sl 1 [] .exact)]⟩,mv 5 11 39] [0,10,11])
  (.seq (.reg [mv 0 40 11,oc 1 41 128 [.t 40],mv 2 12 41] [0,10,11,12])
  (.seq (.reg [mv 0 42 12,mv 1 43 0,mv 2 44 10,mv 3 45 10,bc 4 46 .add 45 (.int .i64 4),oo 5 47 (.slV 1 (.t 43) (some (.t 44)) (some (.t 46)) none),oc 6 48 134 [.t 42,.t 47],mv 7 13 48] [10,11,13])
  (.seq (.seq (.reg [mv 0 49 13,oo 1 50 (.un .not (.t 49))] [10,11,50])
  (.cond (.t 50)
    (.seq (.reg [mc 0 4 (.sl 1 [] .exact),mc 1 5 (.int .i64 0),mc 2 6 (.int .i64 40)] [4,5,6])
    (.ret))
    (.skip)))
  (.seq (.reg [mv 0 51 11,mv 1 52 10,bc 2 53 .add 52 (.int .i64 4),mv 3 4 51,mv 4 5 53,mc 5 6 (.int .i64 0)] [4,5,6])
  (.ret)))))))))))
theorem is78 : FnIs Tryz.prog 78 54 m78 [.t 4,.t 5,.t 6] := .of Tryz.call78 Tryz.func78 (by kernel_rfl)
def m79 : MC :=
  .seq (.reg [mc 0 2 (.str [])] [0])
  (.seq (.seq (.reg [mv 0 6 0,oo 1 7 (.nilChk (.t 6)),fa 2 8 2 7,ld 3 9 1 false 8,bc 4 10 .neq 9 (.int .i64 0)] [0,10])
  (.cond (.t 10)
    (.seq (.reg [mc 0 2 (.str [])] [2])
    (.ret))
    (.skip)))
  (.seq (.any (on1 (mv 0 12 0) <|
      on1 (oo 1 13 (.nilChk (.t 12))) <|
      on1 (fa 2 14 0 13) <|
      on1 (ld 3 15 1 false 14) <|
      on1 (mv 4 16 0) <|
      on1 (oo 5 17 (.nilChk (.t 16))) <|
      on1 (fa 6 18 1 17) <|
      on1 (ld 7 19 1 false 18) <|
      on1 (oc 8 20 135 [.t 15,.t 19]) <|
      on1 (mv 9 11 20) <|
      on1 (oo 10 21 (.ext (.t 11) 0)) <|
      on1 (oo 11 22 (.ext (.t 11) 1)) <|
      on1 (oo 12 23 (.ext (.t 11) 2)) <|
      on1 (mv 13 3 21) <|
      on1 (mv 14 4 22) <|
      on1 (mv 15 5 23) <|
      .done) [] [0,3,4,5])
  (.seq (.reg [mv 0 24 0,mv 1 25 4,oo 2 26 (.nilChk (.t 24)),fa 3 27 1 26,⟨4,none,none,.k (.store 1 (.t 27) (.t 25))⟩] [0,3,5])
  (.seq (.reg [mv 0 28 0,mv 1 29 5,oo 2 30 (.nilChk (.t 28)),fa 3 31 2 30,⟨4,none,none,.k (.store 1 (.t 31) (.t 29))⟩] [3])
  (.seq (.reg [mv 0 32 3,mv 1 2 32] [2])
  (.ret))))))
theorem is79 : FnIs Tryz.prog 79 33 m79 [.t 2] := .of Tryz.call79 Tryz.func79 (by kernel_rfl)
def m80k0 : MC :=
  .cond (.t 40)
    (.seq (.reg [mv 0 41 0,oo 1 42 (.nilChk (.t 41)),fa 2 43 2 42,⟨3,none,none,.k (.store 1 (.t 43) (.c (.int .i64 3)))⟩] [])
    (.seq (.reg [mc 0 4 (.int .i64 0)] [4])
    (.ret)))
    (.skip)
def m80k1 : MC :=
  .seq (.reg [mv 0 44 5,oo 1 45 (.conv .i64 (.t 44)),mv 2 4 45] [4])
  (.ret)
def m80 : MC :=
  .seq (.reg [mc 0 4 (.int .i64 0)] [0,1])
  (.seq (.seq (.reg [mv 0 8 0,oo 1 9 (.nilChk (.t 8)),fa 2 10 2 9,ld 3 11 1 false 10,bc 4 12 .neq 11 (.int .i64 0)] [0,1,12])
  (.cond (.t 12)
    (.seq (.reg [mc 0 4 (.int .i64 0)] [4])
    (.ret))
    (.skip)))
  (.seq (.any (on1 (mv 0 14 0) <|
      on1 (oo 1 15 (.nilChk (.t 14))) <|
      on1 (fa 2 16 0 15) <|
      on1 (ld 3 17 1 false 16) <|
      on1 (mv 4 18 0) <|
      on1 (oo 5 19 (.nilChk (.t 18))) <|
      on1 (fa 6 20 1 19) <|
      on1 (ld 7 21 1 false 20) <|
      on1 (oc 8 22 132 [.t 17,.t 21]) <|
      on1 (mv 9 13 22) <|
      on1 (oo 10 23 (.ext (.t 13) 0)) <|
      on1 (oo 11 24 (.ext (.t 13) 1)) <|
      on1 (oo 12 25 (.ext (.t 13) 2)) <|
      on1 (mv 13 5 23) <|
      on1 (mv 14 6 24) <|
      on1 (mv 15 7 25) <|
      .done) [] [0,1,5,6,7])
  (.seq (.reg [mv 0 26 0,mv 1 27 6,oo 2 28 (.nilChk (.t 26)),fa 3 29 1 28,⟨4,none,none,.k (.store 1 (.t 29) (.t 27))⟩] [0,1,5,7])
  (.seq (.reg [mv 0 30 0,mv 1 31 7,oo 2 32 (.nilChk (.t 30)),fa 3 33 2 32,⟨4,none,none,.k (.store 1 (.t 33) (.t 31))⟩] [0,1,5,7])
  (.seq (.seq (.reg [mv 0 34 7,bc 1 35 .eql 34 (.int .i64 0),mv 2 36 35,gm 3 37 36 true 5,gm 4 38 36 true 1,og 5 39 36 true (.bin .gtr (.t 37) (.t 38)),oo 6 40 (.pick (.t 36) (.t 39) (.c (.bool false)))] [0,5,40])
  (.named [0,5,40] m80k0))
  (.named [5] m80k1))))))
theorem is80 : FnIs Tryz.prog 80 46 m80 [.t 4] := .of Tryz.call80 Tryz.func80 (by kernel_rfl)
def m81k0 : MC :=
  .cond (.t 19)
    (.seq (.reg [mc 0 2 (.int .i64 3)] [2])
    (.ret))
    (.skip)
def m81k1 : MC :=
  .seq (.reg [mv 0 20 0,oo 1 21 (.nilChk (.t 20)),fa 2 22 2 21,ld 3 23 1 false 22,mv 4 2 23] [2])
  (.ret)
def m81 : MC :=
  .seq (.reg [mc 0 2 (.int .i64 0)] [0])
  (.seq (.seq (.any (on1 (mv 0 3 0) <|
      on1 (oo 1 4 (.nilChk (.t 3))) <|
      on1 (fa 2 5 2 4) <|
      on1 (ld 3 6 1 false 5) <|
      on1 (bc 4 7 .eql 6 (.int .i64 0)) <|
      on1 (mv 5 8 7) <|
      on1 (gm 6 9 8 true 0) <|
      on1 (og 7 10 8 true (.nilChk (.t 9))) <|
      on1 (og 8 11 8 true (.fadr 1 (.t 10))) <|
      on1 (og 9 12 8 true (.load 1 false (.t 11))) <|
      on1 (gm 10 13 8 true 0) <|
      on1 (og 11 14 8 true (.nilChk (.t 13))) <|
      on1 (og 12 15 8 true (.fadr 0 (.t 14))) <|
      on1 (og 13 16 8 true (.load 1 false (.t 15))) <|
      on1 (og 14 17 8 true (.len false (.t 16))) <|
      on1 (og 15 18 8 true (.bin .neq (.t 12) (.t 17))) <|
      on1 (oo 16 19 (.pick (.t 8) (.t 18) (.c (.bool false)))) <|
      .done) [] [0,19])
  (.named [0,19] m81k0))
  (.named [0] m81k1))
theorem is81 : FnIs Tryz.prog 81 24 m81 [.t 2] := .of Tryz.call81 Tryz.func81 (by kernel_rfl)
def m82 : MC :=
  .seq (.reg [mc 0 2 (.int .i64 0)] [0])
  (.seq (.seq (.reg [mv 0 6 0,oo 1 7 (.nilChk (.t 6)),fa 2 8 2 7,ld 3 9 1 false 8,bc 4 10 .neq 9 (.int .i64 0)] [0,10])
  (.cond (.t 10)
    (.seq (.reg [mc 0 2 (.int .i64 0)] [2])
    (.ret))
    (.skip)))
  (.seq (.any (on1 (mv 0 12 0) <|
      on1 (oo 1 13 (.nilChk (.t 12))) <|
      on1 (fa 2 14 0 13) <|
      on1 (ld 3 15 1 false 14) <|
      on1 (mv 4 16 0) <|
      on1 (oo 5 17 (.nilChk (.t 16))) <|
      on1 (fa 6 18 1 17) <|
      on1 (ld 7 19 1 false 18) <|
      on1 (oc 8 20 136 [.t 15,.t 19]) <|
      on1 (mv 9 11 20) <|
      on1 (oo 10 21 (.ext (.t 11) 0)) <|
      on1 (oo 11 22 (.ext (.t 11) 1)) <|
      on1 (oo 12 23 (.ext (.t 11) 2)) <|
      on1 (mv 13 3 21) <|
      on1 (mv 14 4 22) <|
      on1 (mv 15 5 23) <|
      .done) [] [0,3,4,5])
  (.seq (.reg [mv 0 24 0,mv 1 25 4,oo 2 26 (.nilChk (.t 24)),fa 3 27 1 26,⟨4,none,none,.k (.store 1 (.t 27) (.t 25))⟩] [0,3,5])
  (.seq (.reg [mv 0 28 0,mv 1 29 5,oo 2 30 (.nilChk (.t 28)),fa 3 31 2 30,⟨4,none,none,.k (.store 1 (.t 31) (.t 29))⟩] [3])
  (.seq (.reg [mv 0 32 3,mv 1 2 32] [2])
  (.ret))))))
theorem is82 : FnIs Tryz.prog 82 33 m82 [.t 2] := .of Tryz.call82 Tryz.func82 (by kernel_rfl)
def m83 : MC :=
  .seq (.reg [oo 0 2 (.alloc [.int .i64 0,.int .i64 0,.str []])] [0,2])
  (.seq (.seq (.reg [mv 0 6 0,oo 1 7 (.nilChk (.t 6)),fa 2 8 2 7,ld 3 9 1 false 8,bc 4 10 .neq 9 (.int .i64 0)] [0,2,10])
  (.cond (.t 10)
    (.seq (.reg [oo 0 11 (.build [.int .i64 0,.int .i64 0,.str []] []),⟨1,none,none,.k (.store 3 (.t 2) (.t 11))⟩] [2])
    (.ret))
    (.skip)))
  (.seq (.any (on1 (mv 0 13 0) <|
      on1 (oo 1 14 (.nilChk (.t 13))) <|
      on1 (fa 2 15 0 14) <|
      .one (ld 3 16 1 false 15) true false <|
      on1 (mv 4 17 0) <|
      on1 (oo 5 18 (.nilChk (.t 17))) <|
      on1 (fa 6 19 1 18) <|
      .one (ld 7 20 1 false 19) true false <|
      .two (oc 8 21 137 [.t 16,.t 20]) false (on1 (mv 9 12 21) <|
      on1 (oo 10 22 (.ext (.t 12) 0)) <|
      on1 (oo 11 23 (.ext (.t 12) 1)) <|
      on1 (oo 12 24 (.ext (.t 12) 2)) <|
      .one (oo 13 3 (.alloc [.int .i64 0,.int .i64 0,.str []])) false true <|
      on1 ⟨14,none,none,.k (.store 3 (.t 3) (.t 22))⟩ <|
      on1 (mv 15 4 23) <|
      on1 (mv 16 5 24) <|
      .done) (oo 13 3 (.alloc [.int .i64 0,.int .i64 0,.str []])) true (on1 (oc 8 21 137 [.t 16,.t 20]) <|
      on1 (mv 9 12 21) <|
      on1 (oo 10 22 (.ext (.t 12) 0)) <|
      on1 (oo 11 23 (.ext (.t 12) 1)) <|
      on1 (oo 12 24 (.ext (.t 12) 2)) <|
      on1 ⟨14,none,none,.k (.store 3 (.t 3) (.t 22))⟩ <|
      on1 (mv 15 4 23) <|
      on1 (mv 16 5 24) <|
      .done)) [0] [0,2,3,4,5])
  (.seq (.reg [mv 0 25 0,mv 1 26 4,oo 2 27 (.nilChk (.t 25)),fa 3 28 1 27,⟨4,none,none,.k (.store 1 (.t 28) (.t 26))⟩] [0,2,3,5])
  (.seq (.reg [mv 0 29 0,mv 1 30 5,oo 2 31 (.nilChk (.t 29)),fa 3 32 2 31,⟨4,none,none,.k (.store 1 (.t 32) (.t 30))⟩] [2,3])
  (.seq (.reg [ld 0 33 3 true 3,⟨1,none,none,.k (.store 3 (.t 2) (.t 33))⟩] [2])
  (.ret))))))
theorem is83 : FnIs Tryz.prog 83 34 m83 [.c 2 3 true] := .of Tryz.call83 Tryz.func83 (by kernel_rfl)
def m84l0 : MC :=
  .seq (.reg [bi 0 26 .lss 25 24] [1,4,5,6,23,24,25,26])
  (.seq (.cond (.t 26)
    (.skip)
    (.exit 2))
  (.seq (.block 3
    (.seq (.reg [mv 0 27 25,oo 1 28 (.iadr 1 (.t 23) (.t 25)),ld 2 29 1 false 28,mv 3 7 27,mv 4 8 29] [1,4,5,6,7,8,23,24,25])
    (.reg [mv 0 30 6,mv 1 31 8,oo 2 32 (.conv .u64 (.t 31)),mv 3 33 7,oo 4 34 (.bin .mul (.c (.int .i64 8)) (.t 33)),bi 5 35 .shl 32 34,bi 6 36 .or 30 35,mv 7 6 36] [1,4,5,6,23,24,25])))
  (.reg [bc 0 37 .add 25 (.int .i64 1),mv 1 25 37] [1,4,5,6,23,24,25])))
def m84k0 : MC :=
  .seq (.reg [mv 0 38 4,mv 1 39 6,bi 2 40 .xor 38 39,bc 3 41 .add 40 (.int .u64 11400714819323198485),oc 4 42 138 [.t 41],mv 5 4 42] [1,4,5])
  (.reg [mv 0 43 1,mv 1 44 5,oo 2 45 (.slV 1 (.t 43) (some (.t 44)) none none),mv 3 1 45] [1,4])
def m84l1 : MC :=
  .seq (.seq (.reg [mv 0 15 1,oo 1 16 (.len false (.t 15)),bc 2 17 .gtr 16 (.int .i64 0)] [1,4,17])
  (.cond (.t 17)
    (.skip)
    (.exit 0)))
  (.block 1
    (.seq (.reg [mv 0 18 1,oo 1 19 (.len false (.t 18)),oo 2 20 (.min (.c (.int .i64 8)) (.t 19)),mv 3 5 20] [1,4,5])
    (.seq (.reg [mc 0 6 (.int .u64 0)] [1,4,5,6])
    (.seq (.seq (.reg [mv 0 21 1,mv 1 22 5,oo 2 23 (.slV 1 (.t 21) none (some (.t 22)) none),oo 3 24 (.len false (.t 23)),mc 4 25 (.int .i64 0)] [1,4,5,6,23,24,25])
    (.block 2
      (.loop m84l0)))
    (.named [1,4,5,6] m84k0)))))
def m84k1 : MC :=
  .seq (.reg [mv 0 46 4,oc 1 47 138 [.t 46],mv 2 4 47] [4])
  (.ret)
def m84 : MC :=
  .seq (.reg [mc 0 4 (.int .u64 0)] [0,1])
  (.seq (.reg [mv 0 9 0,mv 1 10 1,oo 2 11 (.len false (.t 10)),oo 3 12 (.conv .u64 (.t 11)),bc 4 13 .mul 12 (.int .u64 11400714819323198485),bi 5 14 .xor 9 13,mv 6 4 14] [1,4])
  (.seq (.block 0
    (.loop m84l1))
  (.named [4] m84k1)))
theorem is84 : FnIs Tryz.prog 84 48 m84 [.t 4] := .of Tryz.call84 Tryz.func84 (by kernel_rfl)
def m85l0 : MC :=
  .seq (.seq (.reg [mv 0 13 6,mv 1 14 1,oo 2 15 (.len false (.t 14)),bi 3 16 .lss 13 15] [1,5,6,16])
  (.cond (.t 16)
    (.skip)
    (.exit 0)))
  (.seq (.block 1
    (.reg [mv 0 19 5,mv 1 20 1,mv 2 21 6,oc 3 22 140 [.t 20,.t 21],bi 4 23 .xor 19 22,bc 5 24 .add 23 (.int .u64 11400714819323198485),oc 6 25 139 [.t 24],mv 7 5 25] [1,5,6]))
  (.reg [mv 0 17 6,bc 1 18 .add 17 (.int .i64 8),mv 2 6 18] [1,5,6]))
def m85k0 : MC :=
  .seq (.reg [mv 0 26 5,oc 1 27 139 [.t 26],mv 2 4 27] [4])
  (.ret)
def m85 : MC :=
  .seq (.reg [mc 0 4 (.int .u64 0)] [0,1])
  (.seq (.reg [mv 0 7 0,mv 1 8 1,oo 2 9 (.len false (.t 8)),oo 3 10 (.conv .u64 (.t 9)),bc 4 11 .mul 10 (.int .u64 11400714819323198485),bi 5 12 .xor 7 11,mv 6 5 12] [1,5])
  (.seq (.seq (.reg [mc 0 6 (.int .i64 0)] [1,5,6])
  (.block 0
    (.loop m85l0)))
  (.named [5] m85k0)))
theorem is85 : FnIs Tryz.prog 85 28 m85 [.t 4] := .of Tryz.call85 Tryz.func85 (by kernel_rfl)
def m127l0 : MC :=
  .seq (.seq (.reg [mv 0 4 0,bc 1 5 .geq 4 (.int .u64 128)] [0,3,5])
  (.cond (.t 5)
    (.skip)
    (.exit 0)))
  (.block 1
    (.seq (.reg [mv 0 6 3,mv 1 7 0,bc 2 8 .rem 7 (.int .u64 128),oo 3 9 (.conv .u8 (.t 8)),bc 4 10 .add 9 (.int .u8 128),oo 5 11 (.mkSl 1 [.int .u8 0] [.t 10]),oo 6 12 (.app 1 1 (.t 6) (.t 11)),mv 7 3 12] [0,3])
    (.reg [mv 0 13 0,bc 1 14 .quo 13 (.int .u64 128),mv 2 0 14] [0,3])))
def m127k0 : MC :=
  .seq (.reg [mv 0 15 3,mv 1 16 0,oo 2 17 (.conv .u8 (.t 16)),oo 3 18 (.mkSl 1 [.int .u8 0] [.t 17]),oo 4 19 (.app 1 1 (.t 15) (.t 18)),mv 5 2 19] [2])
  (.ret)
def m127 : MC :=
  .seq (.reg [mc 0 2 (.sl 1 [] .exact)] [0])
  (.seq (.reg [mc 0 3 (.sl 1 [] .exact)] [0,3])
  (.seq (.block 0
    (.loop m127l0))
  (.named [0,3] m127k0)))
theorem is127 : FnIs Tryz.prog 127 20 m127 [.t 2] := .of Tryz.call127 Tryz.func127 (by kernel_rfl)
def m128 : MC :=
  .seq (.reg [mc 0 2 (.sl 1 [] .exact)] [0])
  (.seq (.reg [mv 0 4 0,oc 1 5 181 [.t 4],mv 2 3 5] [3])
  (.seq (.reg [mv 0 6 3,bc 1 7 .rem 6 (.int .u32 256),oo 2 8 (.conv .u8 (.t 7)),mv 3 9 3,bc 4 10 .quo 9 (.int .u32 256),bc 5 11 .rem 10 (.int .u32 256),oo 6 12 (.conv .u8 (.t 11)),mv 7 13 3,bc 8 14 .quo 13 (.int .u32 65536),bc 9 15 .rem 14 (.int .u32 256),oo 10 16 (.conv .u8 (.t 15)),mv 11 17 3,bc 12 18 .quo 17 (.int .u32 16777216),oo 13 19 (.conv .u8 (.t 18)),oo 14 20 (.mkSl 1 [.int .u8 0] [.t 8,.t 12,.t 16,.t 19]),mv 15 2 20] [2])
  (.ret)))
theorem is128 : FnIs Tryz.prog 128 21 m128 [.t 2] := .of Tryz.call128 Tryz.func128 (by kernel_rfl)
def m129 : MC :=
  .seq (.reg [mc 0 2 (.sl 1 [] .exact)] [0])
  (.seq (.reg [mv 0 3 0,oo 1 4 (.len true (.t 3)),oo 2 5 (.conv .u64 (.t 4)),oc 3 6 127 [.t 5],mv 4 7 0,oo 5 8 (.app 1 1 (.t 6) (.t 7)),mv 6 2 8] [2])
  (.ret))
theorem is129 : FnIs Tryz.prog 129 9 m129 [.t 2] := .of Tryz.call129 Tryz.func129 (by kernel_rfl)
def m130 : MC :=
  .seq (.reg [mc 0 2 (.sl 1 [] .exact)] [0])
  (.seq (.seq (.reg [mv 0 3 0,bc 1 4 .geq 3 (.int .i64 0)] [0,4])
  (.cond (.t 4)
    (.seq (.reg [mv 0 5 0,oo 1 6 (.conv .u64 (.t 5)),oo 2 7 (.bin .mul (.c (.int .u64 2)) (.t 6)),oc 3 8 127 [.t 7],mv 4 2 8] [2])
    (.ret))
    (.skip)))
  (.seq (.reg [mv 0 9 0,bc 1 10 .add 9 (.int .i64 1),oo 2 11 (.un .neg (.t 10)),oo 3 12 (.conv .u64 (.t 11)),oo 4 13 (.bin .mul (.c (.int .u64 2)) (.t 12)),bc 5 14 .add 13 (.int .u64 1),oc 6 15 127 [.t 14],mv 7 2 15] [2])
  (.ret)))
theorem is130 : FnIs Tryz.prog 130 16 m130 [.t 2] := .of Tryz.call130 Tryz.func130 (by kernel_rfl)
def m131k0 : MC :=
  .cond (.t 26)
    (.seq (.reg [mv 0 29 3,fa 1 30 2 1,ld 2 31 1 false 30,oc 3 32 129 [.t 31],oo 4 33 (.app 1 1 (.t 29) (.t 32)),mv 5 2 33] [2])
    (.ret))
    (.skip)
def m131k1 : MC :=
  .cond (.t 18)
    (.seq (.reg [mv 0 21 3,fa 1 22 1 1,ld 2 23 1 false 22,oc 3 24 130 [.t 23],oo 4 25 (.app 1 1 (.t 21) (.t 24)),mv 5 2 25] [2])
    (.ret))
    (.seq (.seq (.reg [bc 0 27 .eql 9 (.int .i64 4),mv 1 26 27] [1,3,9,26])
    (.cond (.t 26)
      (.skip)
      (.reg [bc 0 28 .eql 9 (.int .i64 5),mv 1 26 28] [1,3,26])))
    (.named [1,3,26] m131k0))
def m131k2 : MC :=
  .seq (.reg [mv 0 34 3,mv 1 2 34] [2])
  (.ret)
def m131 : MC :=
  .seq (.reg [oo 0 1 (.box (.t 0)),mc 1 2 (.sl 1 [] .exact)] [1])
  (.seq (.reg [fa 0 4 0 1,ld 1 5 1 false 4,oo 2 6 (.conv .u8 (.t 5)),oo 3 7 (.mkSl 1 [.int .u8 0] [.t 6]),mv 4 3 7] [1,3])
  (.seq (.seq (.reg [fa 0 8 0 1,ld 1 9 1 false 8] [1,3,9])
  (.block 0
    (.seq (.reg [bc 0 11 .eql 9 (.int .i64 1),mv 1 10 11] [1,3,9,10])
    (.cond (.t 10)
      (.seq (.reg [mv 0 12 3,fa 1 13 1 1,ld 2 14 1 false 13,oo 3 15 (.conv .u8 (.t 14)),oo 4 16 (.mkSl 1 [.int .u8 0] [.t 15]),oo 5 17 (.app 1 1 (.t 12) (.t 16)),mv 6 2 17] [2])
      (.ret))
      (.seq (.seq (.reg [bc 0 19 .eql 9 (.int .i64 2),mv 1 18 19] [1,3,9,18])
      (.cond (.t 18)
        (.skip)
        (.reg [bc 0 20 .eql 9 (.int .i64 3),mv 1 18 20] [1,3,9,18])))
      (.named [1,3,9,18] m131k1))))))
  (.named [3] m131k2)))
theorem is131 : FnIs Tryz.prog 131 35 m131 [.t 2] := .of Tryz.call131 Tryz.func131 (by kernel_rfl)
def m132k0 : MC :=
  .reg [mv 0 24 10,bc 1 25 .sub 24 (.int .i64 1),mv 2 10 25] [0,1,7,9,10]
def m132l0 : MC :=
  .seq (.seq (.reg [mv 0 22 10,bc 1 23 .geq 22 (.int .i64 0)] [0,1,7,9,10,23])
  (.cond (.t 23)
    (.skip)
    (.exit 0)))
  (.seq (.block 1
    (.seq (.reg [mv 0 26 0,mv 1 27 1,mv 2 28 10,bi 3 29 .add 27 28,oo 4 30 (.iadr 1 (.t 26) (.t 29)),ld 5 31 1 false 30,bc 6 32 .lss 31 (.int .u8 128)] [0,1,7,9,10,32])
    (.cond (.t 32)
      (.reg [mv 0 33 10,mv 1 9 33] [0,1,7,9,10])
      (.skip))))
  (.named [0,1,7,9,10] m132k0))
def m132k1 : MC :=
  .cond (.t 39)
    (.seq (.reg [mc 0 4 (.int .u64 0),mc 1 5 (.int .i64 0),mc 2 6 (.int .i64 41)] [4,5,6])
    (.ret))
    (.skip)
def m132k2 : MC :=
  .cond (.t 66)
    (.seq (.reg [mc 0 4 (.int .u64 0),mc 1 5 (.int .i64 0),mc 2 6 (.int .i64 3)] [4,5,6])
    (.ret))
    (.skip)
def m132l1 : MC :=
  .seq (.seq (.reg [mv 0 68 12,bc 1 69 .geq 68 (.int .i64 0)] [0,1,9,11,12,69])
  (.cond (.t 69)
    (.skip)
    (.exit 2)))
  (.seq (.block 3
    (.reg [mv 0 72 11,bc 1 73 .mul 72 (.int .u64 128),mv 2 74 0,mv 3 75 1,mv 4 76 12,bi 5 77 .add 75 76,oo 6 78 (.iadr 1 (.t 74) (.t 77)),ld 7 79 1 false 78,bc 8 80 .rem 79 (.int .u8 128),oo 9 81 (.conv .u64 (.t 80)),bi 10 82 .add 73 81,mv 11 11 82] [0,1,9,11,12]))
  (.reg [mv 0 70 12,bc 1 71 .sub 70 (.int .i64 1),mv 2 12 71] [0,1,9,11,12]))
def m132k3 : MC :=
  .seq (.reg [mv 0 83 11,mv 1 84 1,mv 2 85 9,bi 3 86 .add 84 85,bc 4 87 .add 86 (.int .i64 1),mv 5 4 83,mv 6 5 87,mc 7 6 (.int .i64 0)] [4,5,6])
  (.ret)
def m132k4 : MC :=
  .seq (.reg [mc 0 11 (.int .u64 0)] [0,1,9,11])
  (.seq (.seq (.reg [mv 0 67 9,mv 1 12 67] [0,1,9,11,12])
  (.block 2
    (.loop m132l1)))
  (.named [1,9,11] m132k3))
def m132k5 : MC :=
  .seq (.seq (.reg [mv 0 40 9,bc 1 41 .lss 40 (.int .i64 0),mv 2 42 41,gm 3 43 42 false 9,og 4 44 42 false (.bin .eql (.t 43) (.c (.int .i64 9))),gm 5 45 42 false 44,gm 6 46 45 true 0,gm 7 47 45 true 1,og 8 48 45 true (.bin .add (.t 47) (.c (.int .i64 9))),og 9 49 45 true (.iadr 1 (.t 46) (.t 48)),og 10 50 45 true (.load 1 false (.t 49)),og 11 51 45 true (.bin .gtr (.t 50) (.c (.int .u8 1))),og 12 52 42 false (.pick (.t 45) (.t 51) (.c (.bool false))),oo 13 53 (.pick (.t 42) (.c (.bool true)) (.t 52)),mv 14 54 53,gm 15 55 54 false 9,og 16 56 54 false (.bin .gtr (.t 55) (.c (.int .i64 0))),gm 17 57 54 false 56,gm 18 58 57 true 0,gm 19 59 57 true 1,gm 20 60 57 true 9,og 21 61 57 true (.bin .add (.t 59) (.t 60)),og 22 62 57 true (.iadr 1 (.t 58) (.t 61)),og 23 63 57 true (.load 1 false (.t 62)),og 24 64 57 true (.bin .eql (.t 63) (.c (.int .u8 0))),og 25 65 54 false (.pick (.t 57) (.t 64) (.c (.bool false))),oo 26 66 (.pick (.t 54) (.c (.bool true)) (.t 65))] [0,1,9,66])
  (.named [0,1,9,66] m132k2))
  (.named [0,1,9] m132k4)
def m132k6 : MC :=
  .seq (.seq (.reg [mv 0 34 9,bc 1 35 .lss 34 (.int .i64 0),mv 2 36 35,gm 3 37 36 true 7,og 4 38 36 true (.bin .lss (.t 37) (.c (.int .i64 10))),oo 5 39 (.pick (.t 36) (.t 38) (.c (.bool false)))] [0,1,9,39])
  (.named [0,1,9,39] m132k1))
  (.named [0,1,9] m132k5)
def m132 : MC :=
  .seq (.reg [mc 0 4 (.int .u64 0),mc 1 5 (.int .i64 0),mc 2 6 (.int .i64 0)] [0,1])
  (.seq (.reg [mv 0 13 0,mv 1 14 1,oc 2 15 182 [.t 13,.t 14],mv 3 7 15] [0,1,7])
  (.seq (.seq (.reg [mv 0 16 7,bc 1 17 .lss 16 (.int .i64 0)] [0,1,7,17])
  (.cond (.t 17)
    (.seq (.reg [mc 0 4 (.int .u64 0),mc 1 5 (.int .i64 0),mc 2 6 (.int .i64 1)] [4,5,6])
    (.ret))
    (.skip)))
  (.seq (.reg [mv 0 18 7,oo 1 19 (.min (.t 18) (.c (.int .i64 10))),mv 2 8 19] [0,1,7,8])
  (.seq (.reg [mc 0 9 (.int .i64 (-1))] [0,1,7,8,9])
  (.seq (.seq (.reg [mv 0 20 8,bc 1 21 .sub 20 (.int .i64 1),mv 2 10 21] [0,1,7,9,10])
  (.block 0
    (.loop m132l0)))
  (.named [0,1,7,9] m132k6))))))
theorem is132 : FnIs Tryz.prog 132 88 m132 [.t 4,.t 5,.t 6] := .of Tryz.call132 Tryz.func132 (by kernel_rfl)
def m133 : MC :=
  .seq (.reg [mc 0 4 (.sl 1 [] .exact)] [0,1])
  (.seq (.reg [mc 0 5 (.sl 1 [] .exact)] [0,1,5])
  (.seq (.reg [mv 0 6 5,mv 1 7 0,oo 2 8 (.app 1 1 (.t 6) (.t 7)),mv 3 5 8] [1,5])
  (.seq (.reg [mv 0 9 5,mv 1 10 1,oo 2 11 (.app 1 1 (.t 9) (.t 10)),mv 3 4 11] [4])
  (.ret))))
theorem is133 : FnIs Tryz.prog 133 12 m133 [.t 4] := .of Tryz.call133 Tryz.func133 (by kernel_rfl)
def m134 : MC :=
  .seq (.reg [mc 0 4 (.bool false)] [0,1])
  (.seq (.reg [mv 0 5 0,oo 1 6 (.b2s (.t 5)),mv 2 7 1,oo 3 8 (.b2s (.t 7)),bi 4 9 .eql 6 8,mv 5 4 9] [4])
  (.ret))
theorem is134 : FnIs Tryz.prog 134 10 m134 [.t 4] := .of Tryz.call134 Tryz.func134 (by kernel_rfl)
def m135 : MC :=
  .seq (.reg [mc 0 4 (.str []),mc 1 5 (.int .i64 0),mc 2 6 (.int .i64 0)] [0,1])
  (.seq (.reg [mv 0 12 0,mv 1 13 1,oc 2 14 132 [.t 12,.t 13],mv 3 11 14,oo 4 15 (.ext (.t 11) 0),oo 5 16 (.ext (.t 11) 1),oo 6 17 (.ext (.t 11) 2),mv 7 7 15,mv 8 8 16,mv 9 9 17] [0,7,8,9])
  (.seq (.seq (.reg [mv 0 18 9,bc 1 19 .neq 18 (.int .i64 0)] [0,7,8,9,19])
  (.cond (.t 19)
    (.seq (.reg [mv 0 20 9,mc 1 4 (.str []),mc 2 5 (.int .i64 0),mv 3 6 20] [4,5,6])
    (.ret))
    (.skip)))
  (.seq (.seq (.reg [mv 0 21 7,mv 1 22 0,oo 2 23 (.len false (.t 22)),mv 3 24 8,bi 4 25 .sub 23 24,oo 5 26 (.conv .u64 (.t 25)),bi 6 27 .gtr 21 26] [0,7,8,27])
  (.cond (.t 27)
    (.seq (.reg [mc 0 4 (.str []),mc 1 5 (.int .i64 0),mc 2 6 (.int .i64 41)] [4,5,6])
    (.ret))
    (.skip)))
  (.seq (.reg [mv 0 28 8,mv 1 29 7,oo 2 30 (.conv .i64 (.t 29)),bi 3 31 .add 28 30,mv 4 10 31] [0,8,10])
  (.seq (.reg [mv 0 32 0,mv 1 33 8,mv 2 34 10,oo 3 35 (.slV 1 (.t 32) (some (.t 33)) (some (.t 34)) none),oo 4 36 (.b2s (.t 35)),mv 5 37 10,mv 6 4 36,mv 7 5 37,mc 8 6 (.int .i64 0)] [4,5,6])
  (.ret))))))
theorem is135 : FnIs Tryz.prog 135 38 m135 [.t 4,.t 5,.t 6] := .of Tryz.call135 Tryz.func135 (by kernel_rfl)
def m136 : MC :=
  .seq (.reg [mc 0 4 (.int .i64 0),mc 1 5 (.int .i64 0),mc 2 6 (.int .i64 0)] [0,1])
  (.seq (.reg [mv 0 11 0,mv 1 12 1,oc 2 13 132 [.t 11,.t 12],mv 3 10 13,oo 4 14 (.ext (.t 10) 0),oo 5 15 (.ext (.t 10) 1),oo 6 16 (.ext (.t 10) 2),mv 7 7 14,mv 8 8 15,mv 9 9 16] [7,8,9])
  (.seq (.seq (.reg [mv 0 17 9,bc 1 18 .neq 17 (.int .i64 0)] [7,8,9,18])
  (.cond (.t 18)
    (.seq (.reg [mv 0 19 9,mc 1 4 (.int .i64 0),mc 2 5 (.int .i64 0),mv 3 6 19] [4,5,6])
    (.ret))
    (.skip)))
  (.seq (.seq (.reg [mv 0 20 7,bc 1 21 .rem 20 (.int .u64 2),bc 2 22 .eql 21 (.int .u64 1)] [7,8,22])
  (.cond (.t 22)
    (.seq (.reg [mv 0 23 7,bc 1 24 .quo 23 (.int .u64 2),oo 2 25 (.conv .i64 (.t 24)),oo 3 26 (.un .neg (.t 25)),bc 4 27 .sub 26 (.int .i64 1),mv 5 28 8,mv 6 4 27,mv 7 5 28,mc 8 6 (.int .i64 0)] [4,5,6])
    (.ret))
    (.skip)))
  (.seq (.reg [mv 0 29 7,bc 1 30 .quo 29 (.int .u64 2),oo 2 31 (.conv .i64 (.t 30)),mv 3 32 8,mv 4 4 31,mv 5 5 32,mc 6 6 (.int .i64 0)] [4,5,6])
  (.ret)))))
theorem is136 : FnIs Tryz.prog 136 33 m136 [.t 4,.t 5,.t 6] := .of Tryz.call136 Tryz.func136 (by kernel_rfl)
def m137k0 : MC :=
  .cond (.t 61)
    (.reg [mv 0 65 0,mv 1 66 1,bc 2 67 .add 66 (.int .i64 1),oc 3 68 135 [.t 65,.t 67],mv 4 64 68,oo 5 69 (.ext (.t 64) 0),oo 6 70 (.ext (.t 64) 1),oo 7 71 (.ext (.t 64) 2),fa 8 72 2 8,⟨9,none,none,.k (.store 1 (.t 72) (.t 69))⟩,mv 10 9 70,mv 11 10 71] [4,8,9,10])
    (.reg [mc 0 10 (.int .i64 3)] [4,8,9,10])
def m137k1 : MC :=
  .cond (.t 49)
    (.reg [mv 0 53 0,mv 1 54 1,bc 2 55 .add 54 (.int .i64 1),oc 3 56 136 [.t 53,.t 55],mv 4 52 56,oo 5 57 (.ext (.t 52) 0),oo 6 58 (.ext (.t 52) 1),oo 7 59 (.ext (.t 52) 2),fa 8 60 1 8,⟨9,none,none,.k (.store 1 (.t 60) (.t 57))⟩,mv 10 9 58,mv 11 10 59] [4,8,9,10])
    (.seq (.seq (.reg [bc 0 62 .eql 29 (.int .i64 4),mv 1 61 62] [0,1,4,8,9,29,61])
    (.cond (.t 61)
      (.skip)
      (.reg [bc 0 63 .eql 29 (.int .i64 5),mv 1 61 63] [0,1,4,8,9,61])))
    (.named [0,1,4,8,9,61] m137k0))
def m137k2 : MC :=
  .seq (.seq (.reg [mv 0 77 10,bc 1 78 .neq 77 (.int .i64 0)] [4,8,9,10,78])
  (.cond (.t 78)
    (.seq (.reg [oo 0 79 (.build [.int .i64 0,.int .i64 0,.str []] []),mv 1 80 10,⟨2,none,none,.k (.store 3 (.t 4) (.t 79))⟩,mc 3 5 (.int .i64 0),mv 4 6 80] [4,5,6])
    (.ret))
    (.skip)))
  (.seq (.reg [ld 0 81 3 true 8,mv 1 82 9,⟨2,none,none,.k (.store 3 (.t 4) (.t 81))⟩,mv 3 5 82,mc 4 6 (.int .i64 0)] [4,5,6])
  (.ret))
def m137k3 : MC :=
  .seq (.seq (.reg [mv 0 73 10,bc 1 74 .eql 73 (.int .i64 0)] [4,8,9,10,74])
  (.cond (.t 74)
    (.reg [ld 0 75 3 true 8,oc 1 76 116 [.t 75],mv 2 10 76] [4,8,9,10])
    (.skip)))
  (.named [4,8,9,10] m137k2)
def m137 : MC :=
  .seq (.reg [oo 0 4 (.alloc [.int .i64 0,.int .i64 0,.str []]),mc 1 5 (.int .i64 0),mc 2 6 (.int .i64 0)] [0,1,4])
  (.seq (.reg [mv 0 11 0,mv 1 12 1,oc 2 13 182 [.t 11,.t 12],mv 3 7 13] [0,1,4,7])
  (.seq (.seq (.reg [mv 0 14 7,bc 1 15 .lss 14 (.int .i64 0)] [0,1,4,7,15])
  (.cond (.t 15)
    (.seq (.reg [oo 0 16 (.build [.int .i64 0,.int .i64 0,.str []] []),⟨1,none,none,.k (.store 3 (.t 4) (.t 16))⟩,mc 2 5 (.int .i64 0),mc 3 6 (.int .i64 1)] [4,5,6])
    (.ret))
    (.skip)))
  (.seq (.seq (.reg [mv 0 17 7,bc 1 18 .eql 17 (.int .i64 0)] [0,1,4,7,18])
  (.cond (.t 18)
    (.seq (.reg [oo 0 19 (.build [.int .i64 0,.int .i64 0,.str []] []),⟨1,none,none,.k (.store 3 (.t 4) (.t 19))⟩,mc 2 5 (.int .i64 0),mc 3 6 (.int .i64 41)] [4,5,6])
    (.ret))
    (.skip)))
  (.seq (.reg [mv 0 20 0,mv 1 21 1,oo 2 22 (.iadr 1 (.t 20) (.t 21)),ld 3 23 1 false 22,oo 4 24 (.conv .i64 (.t 23)),oo 5 25 (.build [.int .i64 0,.int .i64 0,.str []] [(0,1,.t 24)]),oo 6 8 (.alloc [.int .i64 0,.int .i64 0,.str []]),⟨7,none,none,.k (.store 3 (.t 8) (.t 25))⟩] [0,1,4,7,8])
  (.seq (.reg [mv 0 26 1,bc 1 27 .add 26 (.int .i64 1),mv 2 9 27] [0,1,4,7,8,9])
  (.seq (.reg [mc 0 10 (.int .i64 0)] [0,1,4,7,8,9,10])
  (.seq (.seq (.reg [fa 0 28 0 8,ld 1 29 1 false 28] [0,1,4,7,8,9,10,29])
  (.block 0
    (.seq (.reg [bc 0 31 .eql 29 (.int .i64 0),mv 1 30 31] [0,1,4,7,8,9,10,29,30])
    (.cond (.t 30)
      (.skip)
      (.seq (.reg [bc 0 33 .eql 29 (.int .i64 1),mv 1 32 33] [0,1,4,7,8,9,10,29,32])
      (.cond (.t 32)
        (.seq (.seq (.reg [mv 0 34 7,bc 1 35 .eql 34 (.int .i64 1)] [0,1,4,8,9,10,35])
        (.cond (.t 35)
          (.seq (.reg [oo 0 36 (.build [.int .i64 0,.int .i64 0,.str []] []),⟨1,none,none,.k (.store 3 (.t 4) (.t 36))⟩,mc 2 5 (.int .i64 0),mc 3 6 (.int .i64 41)] [4,5,6])
          (.ret))
          (.skip)))
        (.seq (.reg [mv 0 37 0,mv 1 38 1,bc 2 39 .add 38 (.int .i64 1),oo 3 40 (.iadr 1 (.t 37) (.t 39)),ld 4 41 1 false 40,oo 5 42 (.conv .i64 (.t 41)),fa 6 43 1 8,⟨7,none,none,.k (.store 1 (.t 43) (.t 42))⟩] [4,8,9,10])
        (.seq (.reg [mv 0 44 9,bc 1 45 .add 44 (.int .i64 1),mv 2 9 45] [4,8,9,10])
        (.seq (.reg [fa 0 46 1 8,ld 1 47 1 false 46,bc 2 48 .gtr 47 (.int .i64 1)] [4,8,9,10,48])
        (.cond (.t 48)
          (.reg [mc 0 10 (.int .i64 3)] [4,8,9,10])
          (.skip))))))
        (.seq (.seq (.reg [bc 0 50 .eql 29 (.int .i64 2),mv 1 49 50] [0,1,4,8,9,29,49])
        (.cond (.t 49)
          (.skip)
          (.reg [bc 0 51 .eql 29 (.int .i64 3),mv 1 49 51] [0,1,4,8,9,29,49])))
        (.named [0,1,4,8,9,29,49] m137k1))))))))
  (.named [4,8,9,10] m137k3))))))))
theorem is137 : FnIs Tryz.prog 137 83 m137 [.c 4 3 true,.t 5,.t 6] := .of Tryz.call137 Tryz.func137 (by kernel_rfl)
def m138 : MC :=
  .seq (.reg [mc 0 2 (.int .u64 0)] [0])
  (.seq (.reg [mv 0 3 0,mv 1 4 0,bc 2 5 .shr 4 (.int .u64 30),bi 3 6 .xor 3 5,mv 4 0 6] [0])
  (.seq (.reg [mv 0 7 0,bc 1 8 .mul 7 (.int .u64 13787848793156543929),mv 2 0 8] [0])
  (.seq (.reg [mv 0 9 0,mv 1 10 0,bc 2 11 .shr 10 (.int .u64 27),bi 3 12 .xor 9 11,mv 4 0 12] [0])
  (.seq (.reg [mv 0 13 0,bc 1 14 .mul 13 (.int .u64 10723151780598845931),mv 2 0 14] [0])
  (.seq (.reg [mv 0 15 0,mv 1 16 0,bc 2 17 .shr 16 (.int .u64 31),bi 3 18 .xor 15 17,mv 4 2 18] [2])
  (.ret))))))
theorem is138 : FnIs Tryz.prog 138 19 m138 [.t 2] := .of Tryz.call138 Tryz.func138 (by kernel_rfl)
def m139 : MC :=
  .seq (.reg [mc 0 2 (.int .u64 0)] [0])
  (.seq (.reg [mv 0 3 0,mv 1 4 0,bc 2 5 .shr 4 (.int .u64 30),bi 3 6 .xor 3 5,mv 4 0 6] [0])
  (.seq (.reg [mv 0 7 0,bc 1 8 .mul 7 (.int .u64 13787848793156543929),mv 2 0 8] [0])
  (.seq (.reg [mv 0 9 0,mv 1 10 0,bc 2 11 .shr 10 (.int .u64 27),bi 3 12 .xor 9 11,mv 4 0 12] [0])
  (.seq (.reg [mv 0 13 0,bc 1 14 .mul 13 (.int .u64 10723151780598845931),mv 2 0 14] [0])
  (.seq (.reg [mv 0 15 0,mv 1 16 0,bc 2 17 .shr 16 (.int .u64 31),bi 3 18 .xor 15 17,mv 4 2 18] [2])
  (.ret))))))
theorem is139 : FnIs Tryz.prog 139 19 m139 [.t 2] := .of Tryz.call139 Tryz.func139 (by kernel_rfl)
def m140k0 : MC :=
  .reg [mv 0 9 6,bc 1 10 .sub 9 (.int .i64 1),mv 2 6 10] [0,1,5,6]
def m140l0 : MC :=
  .seq (.seq (.reg [mv 0 7 6,bc 1 8 .geq 7 (.int .i64 0)] [0,1,5,6,8])
  (.cond (.t 8)
    (.skip)
    (.exit 0)))
  (.seq (.block 1
    (.seq (.reg [mv 0 11 5,bc 1 12 .mul 11 (.int .u64 256),mv 2 5 12] [0,1,5,6])
    (.seq (.reg [mv 0 13 1,mv 1 14 6,bi 2 15 .add 13 14,mv 3 16 0,oo 4 17 (.len false (.t 16)),bi 5 18 .lss 15 17] [0,1,5,6,18])
    (.cond (.t 18)
      (.reg [mv 0 19 5,mv 1 20 0,mv 2 21 1,mv 3 22 6,bi 4 23 .add 21 22,oo 5 24 (.iadr 1 (.t 20) (.t 23)),ld 6 25 1 false 24,oo 7 26 (.conv .u64 (.t 25)),bi 8 27 .add 19 26,mv 9 5 27] [0,1,5,6])
      (.skip)))))
  (.named [0,1,5,6] m140k0))
def m140k1 : MC :=
  .seq (.reg [mv 0 28 5,mv 1 4 28] [4])
  (.ret)
def m140 : MC :=
  .seq (.reg [mc 0 4 (.int .u64 0)] [0,1])
  (.seq (.reg [mc 0 5 (.int .u64 0)] [0,1,5])
  (.seq (.seq (.reg [mc 0 6 (.int .i64 7)] [0,1,5,6])
  (.block 0
    (.loop m140l0)))
  (.named [5] m140k1)))
theorem is140 : FnIs Tryz.prog 140 29 m140 [.t 4] := .of Tryz.call140 Tryz.func140 (by kernel_rfl)
def m181 : MC :=
  .seq (.reg [mc 0 2 (.int .u32 0)] [0])
  (.seq (.reg [mv 0 3 0,oc 1 4 209 [.c (.int .u32 0),.t 3],mv 2 2 4] [2])
  (.ret))
theorem is181 : FnIs Tryz.prog 181 5 m181 [.t 2] := .of Tryz.call181 Tryz.func181 (by kernel_rfl)
def m182k0 : MC :=
  .cond (.t 12)
    (.seq (.reg [mc 0 4 (.int .i64 (-1))] [4])
    (.ret))
    (.skip)
def m182k1 : MC :=
  .seq (.reg [mv 0 13 0,oo 1 14 (.len false (.t 13)),mv 2 15 1,bi 3 16 .sub 14 15,mv 4 4 16] [4])
  (.ret)
def m182 : MC :=
  .seq (.reg [mc 0 4 (.int .i64 0)] [0,1])
  (.seq (.seq (.reg [mv 0 5 1,bc 1 6 .lss 5 (.int .i64 0),mv 2 7 6,gm 3 8 7 false 1,gm 4 9 7 false 0,og 5 10 7 false (.len false (.t 9)),og 6 11 7 false (.bin .gtr (.t 8) (.t 10)),oo 7 12 (.pick (.t 7) (.c (.bool true)) (.t 11))] [0,1,12])
  (.named [0,1,12] m182k0))
  (.named [0,1] m182k1))
theorem is182 : FnIs Tryz.prog 182 17 m182 [.t 4] := .of Tryz.call182 Tryz.func182 (by kernel_rfl)
def m209k0 : MC :=
  .reg [mv 0 25 7,bc 1 26 .add 25 (.int .i64 1),mv 2 7 26] [1,5,6,7]
def m209l0 : MC :=
  .seq (.seq (.reg [mv 0 23 7,bc 1 24 .lss 23 (.int .i64 8)] [1,5,6,7,24])
  (.cond (.t 24)
    (.skip)
    (.exit 2)))
  (.seq (.block 3
    (.seq (.reg [mv 0 27 5,bc 1 28 .rem 27 (.int .u32 2),bc 2 29 .eql 28 (.int .u32 1)] [1,5,6,7,29])
    (.cond (.t 29)
      (.reg [mv 0 30 5,bc 1 31 .quo 30 (.int .u32 2),bc 2 32 .xor 31 (.int .u32 3988292384),mv 3 5 32] [1,5,6,7])
      (.reg [mv 0 33 5,bc 1 34 .quo 33 (.int .u32 2),mv 2 5 34] [1,5,6,7]))))
  (.named [1,5,6,7] m209k0))
def m209k1 : MC :=
  .reg [mv 0 14 6,bc 1 15 .add 14 (.int .i64 1),mv 2 6 15] [1,5,6]
def m209l1 : MC :=
  .seq (.seq (.reg [mv 0 10 6,mv 1 11 1,oo 2 12 (.len false (.t 11)),bi 3 13 .lss 10 12] [1,5,6,13])
  (.cond (.t 13)
    (.skip)
    (.exit 0)))
  (.seq (.block 1
    (.seq (.reg [mv 0 16 5,mv 1 17 1,mv 2 18 6,oo 3 19 (.iadr 1 (.t 17) (.t 18)),ld 4 20 1 false 19,oo 5 21 (.conv .u32 (.t 20)),bi 6 22 .xor 16 21,mv 7 5 22] [1,5,6])
    (.seq (.reg [mc 0 7 (.int .i64 0)] [1,5,6,7])
    (.block 2
      (.loop m209l0)))))
  (.named [1,5,6] m209k1))
def m209k2 : MC :=
  .seq (.reg [mv 0 35 5,oo 1 36 (.un .xor (.t 35)),mv 2 4 36] [4])
  (.ret)
def m209 : MC :=
  .seq (.reg [mc 0 4 (.int .u32 0)] [0,1])
  (.seq (.reg [mv 0 8 0,oo 1 9 (.un .xor (.t 8)),mv 2 5 9] [1,5])
  (.seq (.seq (.reg [mc 0 6 (.int .i64 0)] [1,5,6])
  (.block 0
    (.loop m209l1)))
  (.named [5] m209k2)))
theorem is209 : FnIs Tryz.prog 209 37 m209 [.t 4] := .of Tryz.call209 Tryz.func209 (by kernel_rfl)
end Go.Proofs.YtdjdhecanjmchaaGreatDoor
