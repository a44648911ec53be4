/- The functions of the seat in the small language (printed by a program), and that each is the program's. -/
import Derived.Test.YtdjdhecanjmchaaGreatDoorProg
import Derived.Test.YtdjdhecanjmchaaGreatDoorVr
import Derived.KernelRfl
set_option linter.unusedSimpArgs false
set_option linter.unusedVariables false
namespace Go.Proofs.YtdjdhecanjmchaaGreatDoor
open Go Go.V
def m4k0 : MC :=
  .cond (.t 22)
    (.seq (.reg [mc 0 4 (.bool true)] [4])
    (.ret))
    (.skip)
def m4k1 : MC :=
  .seq (.reg [ld 0 24 3 true 2,ld 1 25 3 true 3,oc 2 26 17 [.t 24,.t 25],mv 3 23 26,oo 4 27 (.ext (.t 23) 0),oo 5 28 (.ext (.t 23) 1),mv 6 5 27,mv 7 6 28] [2,3,5,6])
  (.seq (.reg [ld 0 30 3 true 2,ld 1 31 3 true 3,oc 2 32 18 [.t 30,.t 31],mv 3 29 32,oo 4 33 (.ext (.t 29) 0),oo 5 34 (.ext (.t 29) 1),mv 6 7 33,mv 7 8 34] [2,5,6,7,8])
  (.seq (.reg [ld 0 36 3 true 2,oc 1 37 19 [.t 36],mv 2 35 37,oo 3 38 (.ext (.t 35) 0),oo 4 39 (.ext (.t 35) 1),mv 5 9 38,mv 6 10 39] [2,5,6,7,8,9,10])
  (.seq (.reg [ld 0 41 3 true 2,oc 1 42 20 [.t 41],mv 2 40 42,oo 3 43 (.ext (.t 40) 0),oo 4 44 (.ext (.t 40) 1),mv 5 11 43,mv 6 12 44] [5,6,7,8,9,10,11,12])
  (.seq (.reg [mv 0 45 6,mv 1 46 8,bi 2 47 .eql 45 46,mv 3 48 47,gm 4 49 48 true 5,gm 5 50 48 true 7,⟨6,some 51,(some (48,true)),.call (.f 21) [.t 49,.t 50]⟩,oo 7 52 (.pick (.t 48) (.t 51) (.c (.bool false))),mv 8 53 52,gm 9 54 53 true 9,gm 10 55 53 true 11,og 11 56 53 true (.bin .eql (.t 54) (.t 55)),oo 12 57 (.pick (.t 53) (.t 56) (.c (.bool false))),mv 13 58 57,gm 14 59 58 true 10,gm 15 60 58 true 12,og 16 61 58 true (.bin .eql (.t 59) (.t 60)),oo 17 62 (.pick (.t 58) (.t 61) (.c (.bool false))),mv 18 4 62] [4])
  (.ret)))))
def m4 : MC :=
  .seq (.reg [oo 0 2 (.box (.t 0)),oo 1 3 (.box (.t 1)),mc 2 4 (.bool false)] [2,3])
  (.seq (.seq (.reg [oc 0 13 11 [],oo 1 14 (.un .not (.t 13))] [2,3,14])
  (.cond (.t 14)
    (.seq (.reg [mc 0 4 (.bool false)] [4])
    (.ret))
    (.skip)))
  (.seq (.seq (.reg [ld 0 15 3 true 2,oc 1 16 13 [.t 15],oo 2 17 (.un .not (.t 16)),mv 3 18 17,og 4 19 18 false (.load 3 true (.t 3)),⟨5,some 20,(some (18,false)),.call (.f 13) [.t 19]⟩,og 6 21 18 false (.un .not (.t 20)),oo 7 22 (.pick (.t 18) (.c (.bool true)) (.t 21))] [2,3,22])
  (.named [2,3,22] m4k0))
  (.named [2,3] m4k1)))
theorem is4 : FnIs Tryz.prog 4 63 m4 [.t 4] := .of Tryz.call4 Tryz.func4 (by kernel_rfl)
def m11k0 : MC :=
  .cond (.t 40)
    (.seq (.reg [mc 0 0 (.bool false)] [0])
    (.ret))
    (.skip)
def m11k1 : MC :=
  .cond (.t 75)
    (.seq (.reg [mc 0 0 (.bool false)] [0])
    (.ret))
    (.skip)
def m11k2 : MC :=
  .seq (.reg [mv 0 77 4,oc 1 78 24 [.t 77],mv 2 76 78,oo 3 79 (.ext (.t 76) 0),oo 4 80 (.ext (.t 76) 1),oo 5 12 (.alloc [.str [],.sl 1 [] .exact,.sl 4 [] .exact]),⟨6,none,none,.k (.store 3 (.t 12) (.t 79))⟩,mv 7 13 80] [1,4,12,13])
  (.seq (.reg [mv 0 82 4,mv 1 83 4,oo 2 84 (.len false (.t 83)),bc 3 85 .sub 84 (.int .i64 1),oo 4 86 (.slV 1 (.t 82) none (some (.t 85)) none),oc 5 87 24 [.t 86],mv 6 81 87,oo 7 88 (.ext (.t 81) 0),oo 8 89 (.ext (.t 81) 1),oo 9 14 (.alloc [.str [],.sl 1 [] .exact,.sl 4 [] .exact]),⟨10,none,none,.k (.store 3 (.t 14) (.t 88))⟩,mv 11 15 89] [1,12,13,15])
  (.seq (.any (.one (ld 0 91 3 true 1) true false <|
      .one (oc 1 92 35 [.c (.int .i64 8)]) false true <|
      on1 (oc 2 93 17 [.t 91,.t 92]) <|
      on1 (mv 3 90 93) <|
      on1 (oo 4 94 (.ext (.t 90) 0)) <|
      on1 (oo 5 95 (.ext (.t 90) 1)) <|
      on1 (mv 6 16 94) <|
      on1 (mv 7 17 95) <|
      .done) [1] [1,12,13,15,16,17])
  (.seq (.reg [oo 0 97 (.mkSl 1 [.str []] [.c (.str [97])]),oo 1 98 (.build [.str [],.sl 1 [] .exact,.sl 3 [] .exact,.int .i64 0,.int .i64 0] [(0,1,.c (.str [117,115,101,114])),(1,1,.t 97)]),⟨2,some 99,none,.call (.f 14) [.t 98,.c (.sl 4 [] .exact)]⟩,mv 3 96 99,oo 4 100 (.ext (.t 96) 0),oo 5 101 (.ext (.t 96) 1),oo 6 18 (.alloc [.str [],.sl 1 [] .exact,.sl 4 [] .exact]),⟨7,none,none,.k (.store 3 (.t 18) (.t 100))⟩,mv 8 19 101] [1,12,13,15,16,17,18,19])
  (.seq (.reg [ld 0 102 3 true 12,ld 1 103 3 true 1,oc 2 104 16 [.t 102,.t 103],mv 3 105 104,gm 4 106 105 true 13,og 5 107 105 true (.bin .eql (.t 106) (.c (.int .i64 0))),oo 6 108 (.pick (.t 105) (.t 107) (.c (.bool false))),mv 7 109 108,gm 8 110 109 true 15,og 9 111 109 true (.bin .eql (.t 110) (.c (.int .i64 41))),oo 10 112 (.pick (.t 109) (.t 111) (.c (.bool false))),mv 11 113 112,gm 12 114 113 true 16,og 13 115 113 true (.len false (.t 114)),og 14 116 113 true (.bin .eql (.t 115) (.c (.int .i64 1))),oo 15 117 (.pick (.t 113) (.t 116) (.c (.bool false))),mv 16 118 117,gm 17 119 118 true 16,og 18 120 118 true (.iadr 1 (.t 119) (.c (.int .i64 0))),og 19 121 118 true (.load 1 false (.t 120)),og 20 122 118 true (.bin .eql (.t 121) (.c (.int .i64 0))),oo 21 123 (.pick (.t 118) (.t 122) (.c (.bool false))),mv 22 124 123,gm 23 125 124 true 17,og 24 126 124 true (.bin .eql (.t 125) (.c (.int .i64 0))),oo 25 127 (.pick (.t 124) (.t 126) (.c (.bool false))),mv 26 128 127,gm 27 129 128 true 19,og 28 130 128 true (.bin .eql (.t 129) (.c (.int .i64 0))),oo 29 131 (.pick (.t 128) (.t 130) (.c (.bool false))),mv 30 132 131,og 31 133 132 true (.fadr 0 (.t 18)),og 32 134 132 true (.load 1 false (.t 133)),og 33 135 132 true (.bin .eql (.t 134) (.c (.str [117,115,101,114]))),oo 34 136 (.pick (.t 132) (.t 135) (.c (.bool false))),mv 35 137 136,og 36 138 137 true (.fadr 2 (.t 18)),og 37 139 137 true (.load 1 false (.t 138)),og 38 140 137 true (.len false (.t 139)),og 39 141 137 true (.bin .eql (.t 140) (.c (.int .i64 0))),oo 40 142 (.pick (.t 137) (.t 141) (.c (.bool false))),mv 41 0 142] [0])
  (.ret)))))
def m11k3 : MC :=
  .seq (.reg [mv 0 42 4,oc 1 43 25 [.t 42,.c (.int .i64 0)],mv 2 41 43,oo 3 44 (.ext (.t 41) 0),oo 4 45 (.ext (.t 41) 1),oo 5 46 (.ext (.t 41) 2),mv 6 6 44,mv 7 7 45,mv 8 8 46] [1,4,6,7,8])
  (.seq (.reg [mv 0 48 4,mv 1 49 7,oc 2 50 25 [.t 48,.t 49],mv 3 47 50,oo 4 51 (.ext (.t 47) 0),oo 5 52 (.ext (.t 47) 1),oo 6 53 (.ext (.t 47) 2),mv 7 9 51,mv 8 10 52,mv 9 11 53] [1,4,6,8,9,10,11])
  (.seq (.seq (.reg [mv 0 54 6,oo 1 55 (.b2s (.t 54)),bc 2 56 .neq 55 (.str [4,117,115,101,114,2,1,97,1,98,1]),mv 3 57 56,gm 4 58 57 false 9,og 5 59 57 false (.b2s (.t 58)),og 6 60 57 false (.bin .neq (.t 59) (.c (.str [1,117,10,18,2,14,0]))),oo 7 61 (.pick (.t 57) (.c (.bool true)) (.t 60)),mv 8 62 61,gm 9 63 62 false 8,og 10 64 62 false (.bin .neq (.t 63) (.c (.int .i64 0))),oo 11 65 (.pick (.t 62) (.c (.bool true)) (.t 64)),mv 12 66 65,gm 13 67 66 false 11,og 14 68 66 false (.bin .neq (.t 67) (.c (.int .i64 0))),oo 15 69 (.pick (.t 66) (.c (.bool true)) (.t 68)),mv 16 70 69,gm 17 71 70 false 10,gm 18 72 70 false 4,og 19 73 70 false (.len false (.t 72)),og 20 74 70 false (.bin .neq (.t 71) (.t 73)),oo 21 75 (.pick (.t 70) (.c (.bool true)) (.t 74))] [1,4,75])
  (.named [1,4,75] m11k1))
  (.named [1,4] m11k2)))
def m11 : MC :=
  .seq (.reg [mc 0 0 (.bool false)] [])
  (.seq (.reg [oc 0 20 35 [.c (.int .i64 7)],oo 1 1 (.alloc [.str [],.sl 1 [] .exact,.sl 4 [] .exact]),⟨2,none,none,.k (.store 3 (.t 1) (.t 20))⟩] [1])
  (.seq (.reg [ld 0 22 3 true 1,oc 1 23 19 [.t 22],mv 2 21 23,oo 3 24 (.ext (.t 21) 0),oo 4 25 (.ext (.t 21) 1),mv 5 2 24,mv 6 3 25] [1,2,3])
  (.seq (.reg [ld 0 27 3 true 1,oc 1 28 23 [.t 27],mv 2 26 28,oo 3 29 (.ext (.t 26) 0),oo 4 30 (.ext (.t 26) 1),mv 5 4 29,mv 6 5 30] [1,2,3,4,5])
  (.seq (.seq (.reg [mv 0 31 2,bc 1 32 .neq 31 (.str [117,115,101,114,9,101,118,101,110,116,9,107,110,111,119,9,97,9,98,10,117,9,53,9,57,9,55,9,110,117,108,108,10]),mv 2 33 32,gm 3 34 33 false 3,og 4 35 33 false (.bin .neq (.t 34) (.c (.int .i64 0))),oo 5 36 (.pick (.t 33) (.c (.bool true)) (.t 35)),mv 6 37 36,gm 7 38 37 false 5,og 8 39 37 false (.bin .neq (.t 38) (.c (.int .i64 0))),oo 9 40 (.pick (.t 37) (.c (.bool true)) (.t 39))] [1,4,40])
  (.named [1,4,40] m11k0))
  (.named [1,4] m11k3)))))
theorem is11 : FnIs Tryz.prog 11 143 m11 [.t 0] := .of Tryz.call11 Tryz.func11 (by kernel_rfl)
def m12 : MC :=
  .seq (.reg [oo 0 1 (.box (.t 0)),mc 1 2 (.bool false)] [1])
  (.seq (.reg [fa 0 3 0 1,ld 1 4 1 false 3,fa 2 5 1 1,ld 3 6 1 false 5,oo 4 7 (.build [.str [],.sl 1 [] .exact,.sl 4 [] .exact] [(0,1,.t 4),(1,1,.t 6)]),oc 5 8 13 [.t 7],mv 6 9 8,og 7 10 9 true (.fadr 2 (.t 1)),og 8 11 9 true (.load 1 false (.t 10)),og 9 12 9 true (.len false (.t 11)),og 10 13 9 true (.bin .leq (.t 12) (.c (.int .i64 40))),oo 11 14 (.pick (.t 9) (.t 13) (.c (.bool false))),mv 12 2 14] [2])
  (.ret))
theorem is12 : FnIs Tryz.prog 12 15 m12 [.t 2] := .of Tryz.call12 Tryz.func12 (by kernel_rfl)
def m13k0 : MC :=
  .cond (.t 22)
    (.seq (.reg [mc 0 2 (.bool false)] [2])
    (.ret))
    (.skip)
def m13l0 : MC :=
  .seq (.seq (.reg [mv 0 23 3,fa 1 24 1 1,ld 2 25 1 false 24,oo 3 26 (.len false (.t 25)),bi 4 27 .lss 23 26] [1,3,27])
  (.cond (.t 27)
    (.skip)
    (.exit 0)))
  (.seq (.block 1
    (.seq (.reg [fa 0 30 1 1,ld 1 31 1 false 30,mv 2 32 3,oo 3 33 (.iadr 1 (.t 31) (.t 32)),ld 4 34 1 false 33,oo 5 35 (.len true (.t 34)),bc 6 36 .gtr 35 (.int .i64 100)] [1,3,36])
    (.cond (.t 36)
      (.seq (.reg [mc 0 2 (.bool false)] [2])
      (.ret))
      (.skip))))
  (.reg [mv 0 28 3,bc 1 29 .add 28 (.int .i64 1),mv 2 3 29] [1,3]))
def m13k1 : MC :=
  .cond (.t 59)
    (.seq (.reg [mc 0 2 (.bool false)] [2])
    (.ret))
    (.skip)
def m13l1 : MC :=
  .seq (.seq (.reg [mv 0 60 6,fa 1 61 3 5,ld 2 62 1 false 61,oo 3 63 (.len false (.t 62)),bi 4 64 .lss 60 63] [1,4,5,6,64])
  (.cond (.t 64)
    (.skip)
    (.exit 4)))
  (.seq (.block 5
    (.seq (.reg [fa 0 67 3 5,ld 1 68 1 false 67,mv 2 69 6,oo 3 70 (.iadr 3 (.t 68) (.t 69)),fa 4 71 2 70,ld 5 72 1 false 71,oo 6 73 (.len true (.t 72)),bc 7 74 .gtr 73 (.int .i64 200)] [1,4,5,6,74])
    (.cond (.t 74)
      (.seq (.reg [mc 0 2 (.bool false)] [2])
      (.ret))
      (.skip))))
  (.reg [mv 0 65 6,bc 1 66 .add 65 (.int .i64 1),mv 2 6 66] [1,4,5,6]))
def m13k2 : MC :=
  .seq (.reg [mc 0 6 (.int .i64 0)] [1,4,5,6])
  (.block 4
    (.loop m13l1))
def m13k3 : MC :=
  .reg [mv 0 42 4,bc 1 43 .add 42 (.int .i64 1),mv 2 4 43] [1,4]
def m13l2 : MC :=
  .seq (.seq (.reg [mv 0 37 4,fa 1 38 2 1,ld 2 39 1 false 38,oo 3 40 (.len false (.t 39)),bi 4 41 .lss 37 40] [1,4,41])
  (.cond (.t 41)
    (.skip)
    (.exit 2)))
  (.seq (.block 3
    (.seq (.reg [fa 0 44 2 1,ld 1 45 1 false 44,mv 2 46 4,oo 3 47 (.iadr 4 (.t 45) (.t 46)),ld 4 48 4 true 47,oo 5 5 (.alloc [.str [],.int .i64 0,.int .i64 0,.sl 3 [] .exact]),⟨6,none,none,.k (.store 4 (.t 5) (.t 48))⟩] [1,4,5])
    (.seq (.seq (.reg [fa 0 49 0 5,fa 1 50 0 49,ld 2 51 1 false 50,oo 3 52 (.len true (.t 51)),bc 4 53 .gtr 52 (.int .i64 100),mv 5 54 53,og 6 55 54 false (.fadr 3 (.t 5)),og 7 56 54 false (.load 1 false (.t 55)),og 8 57 54 false (.len false (.t 56)),og 9 58 54 false (.bin .gtr (.t 57) (.c (.int .i64 20))),oo 10 59 (.pick (.t 54) (.c (.bool true)) (.t 58))] [1,4,5,59])
    (.named [1,4,5,59] m13k1))
    (.named [1,4,5] m13k2))))
  (.named [1,4] m13k3))
def m13k4 : MC :=
  .seq (.reg [mc 0 2 (.bool true)] [2])
  (.ret)
def m13k5 : MC :=
  .seq (.seq (.reg [mc 0 4 (.int .i64 0)] [1,4])
  (.block 2
    (.loop m13l2)))
  (.named [] m13k4)
def m13k6 : MC :=
  .seq (.seq (.reg [mc 0 3 (.int .i64 0)] [1,3])
  (.block 0
    (.loop m13l0)))
  (.named [1] m13k5)
def m13 : MC :=
  .seq (.reg [oo 0 1 (.box (.t 0)),mc 1 2 (.bool false)] [1])
  (.seq (.seq (.reg [fa 0 7 0 1,ld 1 8 1 false 7,oo 2 9 (.len true (.t 8)),bc 3 10 .gtr 9 (.int .i64 100),mv 4 11 10,og 5 12 11 false (.fadr 1 (.t 1)),og 6 13 11 false (.load 1 false (.t 12)),og 7 14 11 false (.len false (.t 13)),og 8 15 11 false (.bin .gtr (.t 14) (.c (.int .i64 20))),oo 9 16 (.pick (.t 11) (.c (.bool true)) (.t 15)),mv 10 17 16,og 11 18 17 false (.fadr 2 (.t 1)),og 12 19 17 false (.load 1 false (.t 18)),og 13 20 17 false (.len false (.t 19)),og 14 21 17 false (.bin .gtr (.t 20) (.c (.int .i64 40))),oo 15 22 (.pick (.t 17) (.c (.bool true)) (.t 21))] [1,22])
  (.named [1,22] m13k0))
  (.named [1] m13k6))
theorem is13 : FnIs Tryz.prog 13 75 m13 [.t 2] := .of Tryz.call13 Tryz.func13 (by kernel_rfl)
def m14k0 : MC :=
  .cond (.t 27)
    (.seq (.reg [oo 0 28 (.build [.str [],.sl 1 [] .exact,.sl 4 [] .exact] []),⟨1,none,none,.k (.store 3 (.t 4) (.t 28))⟩,mc 2 5 (.int .i64 1)] [4,5])
    (.ret))
    (.skip)
def m14k1 : MC :=
  .seq (.reg [ld 0 29 3 true 4,⟨1,none,none,.k (.store 3 (.t 4) (.t 29))⟩,mc 2 5 (.int .i64 0)] [4,5])
  (.ret)
def m14 : MC :=
  .seq (.reg [oo 0 2 (.box (.t 0)),oo 1 4 (.alloc [.str [],.sl 1 [] .exact,.sl 4 [] .exact]),mc 2 5 (.int .i64 0)] [1,2,4])
  (.seq (.seq (.reg [ld 0 7 5 true 2,oc 1 8 36 [.t 7],bc 2 9 .eql 8 (.str [])] [1,2,4,9])
  (.cond (.t 9)
    (.seq (.reg [ld 0 10 3 true 4,⟨1,none,none,.k (.store 3 (.t 4) (.t 10))⟩,mc 2 5 (.int .i64 240)] [4,5])
    (.ret))
    (.skip)))
  (.seq (.reg [ld 0 11 5 true 2,oc 1 12 26 [.t 11],mv 2 6 12] [1,2,4,6])
  (.seq (.reg [fa 0 13 0 2,ld 1 14 1 false 13,fa 2 15 1 2,ld 3 16 1 false 15,mv 4 17 1,oo 5 18 (.build [.str [],.sl 1 [] .exact,.sl 4 [] .exact] [(0,1,.t 14),(1,1,.t 16),(2,1,.t 17)]),⟨6,none,none,.k (.store 3 (.t 4) (.t 18))⟩] [1,4,6])
  (.seq (.seq (.reg [ld 0 19 3 true 4,oc 1 20 37 [.t 19],oo 2 21 (.un .not (.t 20)),mv 3 22 21,gm 4 23 22 false 1,gm 5 24 22 false 6,⟨6,some 25,(some (22,false)),.call (.f 38) [.t 23,.t 24,.f 39]⟩,og 7 26 22 false (.un .not (.t 25)),oo 8 27 (.pick (.t 22) (.c (.bool true)) (.t 26))] [4,27])
  (.named [4,27] m14k0))
  (.named [4] m14k1)))))
theorem is14 : FnIs Tryz.prog 14 30 m14 [.c 4 3 true,.t 5] := .of Tryz.call14 Tryz.func14 (by kernel_rfl)
def m16k0 : MC :=
  .cond (.t 19)
    (.seq (.reg [mc 0 4 (.bool false)] [4])
    (.ret))
    (.skip)
def m16l0 : MC :=
  .seq (.seq (.reg [mv 0 20 5,fa 1 21 1 2,ld 2 22 1 false 21,oo 3 23 (.len false (.t 22)),bi 4 24 .lss 20 23] [2,3,5,24])
  (.cond (.t 24)
    (.skip)
    (.exit 0)))
  (.seq (.block 1
    (.seq (.any (on1 (fa 0 27 1 2) <|
        on1 (ld 1 28 1 false 27) <|
        on1 (mv 2 29 5) <|
        on1 (oo 3 30 (.iadr 1 (.t 28) (.t 29))) <|
        on1 (ld 4 31 1 false 30) <|
        on1 (fa 5 32 1 3) <|
        on1 (ld 6 33 1 false 32) <|
        on1 (mv 7 34 5) <|
        on1 (oo 8 35 (.iadr 1 (.t 33) (.t 34))) <|
        on1 (ld 9 36 1 false 35) <|
        on1 (bi 10 37 .neq 31 36) <|
        .done) [] [2,3,5,37])
    (.cond (.t 37)
      (.seq (.reg [mc 0 4 (.bool false)] [4])
      (.ret))
      (.skip))))
  (.reg [mv 0 25 5,bc 1 26 .add 25 (.int .i64 1),mv 2 5 26] [2,3,5]))
def m16k1 : MC :=
  .seq (.reg [fa 0 38 2 2,ld 1 39 1 false 38,fa 2 40 2 3,ld 3 41 1 false 40,oc 4 42 43 [.t 39,.t 41],mv 5 4 42] [4])
  (.ret)
def m16k2 : MC :=
  .seq (.seq (.reg [mc 0 5 (.int .i64 0)] [2,3,5])
  (.block 0
    (.loop m16l0)))
  (.named [2,3] m16k1)
def m16 : MC :=
  .seq (.reg [oo 0 2 (.box (.t 0)),oo 1 3 (.box (.t 1)),mc 2 4 (.bool false)] [2,3])
  (.seq (.seq (.reg [fa 0 6 0 2,ld 1 7 1 false 6,fa 2 8 0 3,ld 3 9 1 false 8,bi 4 10 .neq 7 9,mv 5 11 10,og 6 12 11 false (.fadr 1 (.t 2)),og 7 13 11 false (.load 1 false (.t 12)),og 8 14 11 false (.len false (.t 13)),og 9 15 11 false (.fadr 1 (.t 3)),og 10 16 11 false (.load 1 false (.t 15)),og 11 17 11 false (.len false (.t 16)),og 12 18 11 false (.bin .neq (.t 14) (.t 17)),oo 13 19 (.pick (.t 11) (.c (.bool true)) (.t 18))] [2,3,19])
  (.named [2,3,19] m16k0))
  (.named [2,3] m16k2))
theorem is16 : FnIs Tryz.prog 16 43 m16 [.t 4] := .of Tryz.call16 Tryz.func16 (by kernel_rfl)
def m17k0 : MC :=
  .cond (.t 40)
    (.seq (.reg [mc 0 4 (.sl 1 [] .exact),mc 1 5 (.int .i64 1)] [4,5])
    (.ret))
    (.skip)
def m17k1 : MC :=
  .reg [bc 0 63 .add 44 (.int .i64 1),mv 1 44 63] [3,4,42,43,44]
def m17l0 : MC :=
  .seq (.reg [bi 0 45 .lss 44 43] [3,4,42,43,44,45])
  (.seq (.cond (.t 45)
    (.skip)
    (.exit 0))
  (.seq (.block 1
    (.seq (.reg [mv 0 46 44,oo 1 47 (.iadr 4 (.t 42) (.t 44)),ld 2 48 4 true 47,oo 3 8 (.alloc [.str [],.int .i64 0,.int .i64 0,.sl 3 [] .exact]),mv 4 7 46,⟨5,none,none,.k (.store 4 (.t 8) (.t 48))⟩] [3,4,7,8,42,43,44])
    (.seq (.any (on1 (fa 0 49 3 8) <|
        on1 (ld 1 50 1 false 49) <|
        on1 (fa 2 51 2 3) <|
        .one (ld 3 52 1 false 51) true false <|
        on1 (mv 4 53 7) <|
        on1 (oo 5 54 (.iadr 4 (.t 52) (.t 53))) <|
        on1 (fa 6 55 3 54) <|
        on1 (ld 7 56 1 false 55) <|
        .one (oc 8 57 47 [.t 50,.t 56]) false true <|
        on1 (oo 9 58 (.un .not (.t 57))) <|
        .done) [3] [3,4,7,42,43,44,58])
    (.cond (.t 58)
      (.reg [mv 0 59 4,mv 1 60 7,oo 2 61 (.mkSl 1 [.int .i64 0] [.t 60]),oo 3 62 (.app 1 8 (.t 59) (.t 61)),mv 4 4 62] [3,4,42,43,44])
      (.skip)))))
  (.named [3,4,42,43,44] m17k1)))
def m17k2 : MC :=
  .seq (.reg [mv 0 64 4,mv 1 4 64,mc 2 5 (.int .i64 0)] [4,5])
  (.ret)
def m17k3 : MC :=
  .seq (.seq (.reg [fa 0 41 2 2,ld 1 42 1 false 41,oo 2 43 (.len false (.t 42)),mc 3 44 (.int .i64 0)] [3,4,42,43,44])
  (.block 0
    (.loop m17l0)))
  (.named [4] m17k2)
def m17 : MC :=
  .seq (.reg [oo 0 2 (.box (.t 0)),oo 1 3 (.box (.t 1)),mc 2 4 (.sl 1 [] .exact),mc 3 5 (.int .i64 0)] [2,3,4])
  (.seq (.reg [oo 0 6 (.mov (.f 44))] [2,3,4,6])
  (.seq (.seq (.reg [ld 0 9 3 true 2,oc 1 10 37 [.t 9],oo 2 11 (.un .not (.t 10)),mv 3 12 11,og 4 13 12 false (.load 3 true (.t 3)),⟨5,some 14,(some (12,false)),.call (.f 37) [.t 13]⟩,og 6 15 12 false (.un .not (.t 14)),oo 7 16 (.pick (.t 12) (.c (.bool true)) (.t 15)),mv 8 17 16,og 9 18 17 false (.fadr 0 (.t 2)),og 10 19 17 false (.load 1 false (.t 18)),og 11 20 17 false (.fadr 0 (.t 3)),og 12 21 17 false (.load 1 false (.t 20)),og 13 22 17 false (.bin .neq (.t 19) (.t 21)),oo 14 23 (.pick (.t 17) (.c (.bool true)) (.t 22)),mv 15 24 23,og 16 25 24 false (.fadr 1 (.t 2)),og 17 26 24 false (.load 1 false (.t 25)),og 18 27 24 false (.fadr 1 (.t 3)),og 19 28 24 false (.load 1 false (.t 27)),⟨20,some 29,(some (24,false)),.call (.f 45) [.t 26,.t 28]⟩,og 21 30 24 false (.un .not (.t 29)),oo 22 31 (.pick (.t 24) (.c (.bool true)) (.t 30)),mv 23 32 31,og 24 33 32 false (.fadr 2 (.t 2)),og 25 34 32 false (.load 1 false (.t 33)),og 26 35 32 false (.fadr 2 (.t 3)),og 27 36 32 false (.load 1 false (.t 35)),gm 28 37 32 false 6,⟨29,some 38,(some (32,false)),.call (.f 46) [.t 34,.t 36,.t 37]⟩,og 30 39 32 false (.un .not (.t 38)),oo 31 40 (.pick (.t 32) (.c (.bool true)) (.t 39))] [2,3,4,40])
  (.named [2,3,4,40] m17k0))
  (.named [2,3,4] m17k3)))
theorem is17 : FnIs Tryz.prog 17 65 m17 [.t 4,.t 5] := .of Tryz.call17 Tryz.func17 (by kernel_rfl)
def m18k0 : MC :=
  .cond (.t 36)
    (.seq (.reg [mc 0 4 (.sl 1 [] .exact),mc 1 5 (.int .i64 1)] [4,5])
    (.ret))
    (.skip)
def m18k1 : MC :=
  .reg [mv 0 42 9,bc 1 43 .add 42 (.int .i64 1),mv 2 9 43] [2,3,8,9]
def m18l0 : MC :=
  .seq (.seq (.reg [mv 0 37 9,fa 1 38 2 2,ld 2 39 1 false 38,oo 3 40 (.len false (.t 39)),bi 4 41 .lss 37 40] [2,3,8,9,41])
  (.cond (.t 41)
    (.skip)
    (.exit 0)))
  (.seq (.block 1
    (.seq (.seq (.any (on1 (fa 0 44 2 2) <|
        on1 (ld 1 45 1 false 44) <|
        on1 (mv 2 46 9) <|
        on1 (oo 3 47 (.iadr 4 (.t 45) (.t 46))) <|
        on1 (fa 4 48 0 47) <|
        on1 (ld 5 49 3 true 48) <|
        on1 (fa 6 50 2 3) <|
        on1 (ld 7 51 1 false 50) <|
        on1 (mv 8 52 9) <|
        on1 (oo 9 53 (.iadr 4 (.t 51) (.t 52))) <|
        on1 (fa 10 54 0 53) <|
        on1 (ld 11 55 3 true 54) <|
        on1 (oo 12 56 (.eqv [.s,.i,.i] true (.t 49) (.t 55))) <|
        .done) [] [2,3,8,9,56])
    (.cond (.t 56)
      (.seq (.reg [mc 0 4 (.sl 1 [] .exact),mc 1 5 (.int .i64 1)] [4,5])
      (.ret))
      (.skip)))
    (.seq (.any (on1 (fa 0 57 2 2) <|
        .one (ld 1 58 1 false 57) true false <|
        on1 (mv 2 59 9) <|
        on1 (mv 3 60 9) <|
        on1 (bc 4 61 .add 60 (.int .i64 1)) <|
        on1 (oo 5 62 (.slV 4 (.t 58) (some (.t 59)) (some (.t 61)) none)) <|
        on1 (fa 6 63 2 3) <|
        .one (ld 7 64 1 false 63) true false <|
        on1 (mv 8 65 9) <|
        on1 (mv 9 66 9) <|
        on1 (bc 10 67 .add 66 (.int .i64 1)) <|
        on1 (oo 11 68 (.slV 4 (.t 64) (some (.t 65)) (some (.t 67)) none)) <|
        .one (oc 12 69 43 [.t 62,.t 68]) false true <|
        on1 (oo 13 70 (.un .not (.t 69))) <|
        .done) [2,3] [2,3,8,9,70])
    (.cond (.t 70)
      (.reg [mv 0 71 8,mv 1 72 9,oo 2 73 (.mkSl 1 [.int .i64 0] [.t 72]),oo 3 74 (.app 1 8 (.t 71) (.t 73)),mv 4 8 74] [2,3,8,9])
      (.skip)))))
  (.named [2,3,8,9] m18k1))
def m18k2 : MC :=
  .seq (.reg [mv 0 75 8,mv 1 4 75,mc 2 5 (.int .i64 0)] [4,5])
  (.ret)
def m18k3 : MC :=
  .seq (.reg [mc 0 8 (.sl 1 [] .exact)] [2,3,8])
  (.seq (.seq (.reg [mc 0 9 (.int .i64 0)] [2,3,8,9])
  (.block 0
    (.loop m18l0)))
  (.named [8] m18k2))
def m18 : MC :=
  .seq (.reg [oo 0 2 (.box (.t 0)),oo 1 3 (.box (.t 1)),mc 2 4 (.sl 1 [] .exact),mc 3 5 (.int .i64 0)] [2,3])
  (.seq (.any (.one (ld 0 10 3 true 2) true false <|
      .one (ld 1 11 3 true 3) true false <|
      .two (oo 2 6 (.alloc [.str [],.sl 1 [] .exact,.sl 4 [] .exact])) true (.one (oo 3 7 (.alloc [.str [],.sl 1 [] .exact,.sl 4 [] .exact])) false true <|
      .one ⟨4,none,none,.k (.store 3 (.t 6) (.t 10))⟩ false true <|
      on1 ⟨5,none,none,.k (.store 3 (.t 7) (.t 11))⟩ <|
      .done) (oo 3 7 (.alloc [.str [],.sl 1 [] .exact,.sl 4 [] .exact])) true (.one (oo 2 6 (.alloc [.str [],.sl 1 [] .exact,.sl 4 [] .exact])) false true <|
      .one ⟨4,none,none,.k (.store 3 (.t 6) (.t 10))⟩ false true <|
      on1 ⟨5,none,none,.k (.store 3 (.t 7) (.t 11))⟩ <|
      .done)) [2,3] [2,3,6,7])
  (.seq (.reg [fa 0 12 2 6,⟨1,none,none,.k (.store 1 (.t 12) (.c (.sl 4 [] .exact)))⟩] [2,3,6,7])
  (.seq (.reg [fa 0 13 2 7,⟨1,none,none,.k (.store 1 (.t 13) (.c (.sl 4 [] .exact)))⟩] [2,3,6,7])
  (.seq (.seq (.reg [ld 0 14 3 true 2,oc 1 15 22 [.t 14],oo 2 16 (.un .not (.t 15)),mv 3 17 16,og 4 18 17 false (.load 3 true (.t 3)),⟨5,some 19,(some (17,false)),.call (.f 22) [.t 18]⟩,og 6 20 17 false (.un .not (.t 19)),oo 7 21 (.pick (.t 17) (.c (.bool true)) (.t 20)),mv 8 22 21,og 9 23 22 false (.load 3 true (.t 6)),og 10 24 22 false (.load 3 true (.t 7)),⟨11,some 25,(some (22,false)),.call (.f 16) [.t 23,.t 24]⟩,og 12 26 22 false (.un .not (.t 25)),oo 13 27 (.pick (.t 22) (.c (.bool true)) (.t 26)),mv 14 28 27,og 15 29 28 false (.fadr 2 (.t 2)),og 16 30 28 false (.load 1 false (.t 29)),og 17 31 28 false (.len false (.t 30)),og 18 32 28 false (.fadr 2 (.t 3)),og 19 33 28 false (.load 1 false (.t 32)),og 20 34 28 false (.len false (.t 33)),og 21 35 28 false (.bin .neq (.t 31) (.t 34)),oo 22 36 (.pick (.t 28) (.c (.bool true)) (.t 35))] [2,3,36])
  (.named [2,3,36] m18k0))
  (.named [2,3] m18k3)))))
theorem is18 : FnIs Tryz.prog 18 76 m18 [.t 4,.t 5] := .of Tryz.call18 Tryz.func18 (by kernel_rfl)
def m19l0 : MC :=
  .seq (.reg [bi 0 46 .lss 45 44] [4,5,8,24,25,26,43,44,45,46])
  (.seq (.cond (.t 46)
    (.skip)
    (.exit 2))
  (.seq (.block 3
    (.seq (.reg [oo 0 47 (.iadr 3 (.t 43) (.t 45)),ld 1 48 3 true 47,oo 2 10 (.alloc [.int .i64 0,.int .i64 0,.str []]),⟨3,none,none,.k (.store 3 (.t 10) (.t 48))⟩] [4,5,8,10,24,25,26,43,44,45])
    (.reg [mv 0 49 8,ld 1 50 3 true 10,oc 2 51 52 [.t 50],oo 3 52 (.mkSl 1 [.str []] [.t 51]),oo 4 53 (.app 1 16 (.t 49) (.t 52)),mv 5 8 53] [4,5,8,24,25,26,43,44,45])))
  (.reg [bc 0 54 .add 45 (.int .i64 1),mv 1 45 54] [4,5,8,24,25,26,43,44,45])))
def m19k0 : MC :=
  .reg [mv 0 55 5,mv 1 56 8,⟨2,some 57,none,.call (.t 55) [.t 56]⟩] [4,5,24,25,26]
def m19k1 : MC :=
  .reg [bc 0 58 .add 26 (.int .i64 1),mv 1 26 58] [4,5,24,25,26]
def m19l1 : MC :=
  .seq (.reg [bi 0 27 .lss 26 25] [4,5,24,25,26,27])
  (.seq (.cond (.t 27)
    (.skip)
    (.exit 0))
  (.seq (.block 1
    (.seq (.reg [oo 0 28 (.iadr 4 (.t 24) (.t 26)),ld 1 29 4 true 28,oo 2 7 (.alloc [.str [],.int .i64 0,.int .i64 0,.sl 3 [] .exact]),⟨3,none,none,.k (.store 4 (.t 7) (.t 29))⟩] [4,5,7,24,25,26])
    (.seq (.any (on1 (fa 0 30 0 7) <|
        on1 (fa 1 31 0 30) <|
        .one (ld 2 32 1 false 31) true false <|
        on1 (fa 3 33 0 7) <|
        on1 (fa 4 34 1 33) <|
        .one (ld 5 35 1 false 34) true false <|
        on1 (fa 7 37 0 7) <|
        on1 (fa 8 38 2 37) <|
        .one (ld 9 39 1 false 38) true false <|
        .one (oc 6 36 51 [.t 35]) false true <|
        .one (oc 10 40 51 [.t 39]) false true <|
        on1 (oo 11 41 (.mkSl 1 [.str []] [.t 32,.t 36,.t 40])) <|
        on1 (mv 12 8 41) <|
        .done) [7] [4,5,7,8,24,25,26])
    (.seq (.seq (.reg [fa 0 42 3 7,ld 1 43 1 false 42,oo 2 44 (.len false (.t 43)),mc 3 45 (.int .i64 0)] [4,5,8,24,25,26,43,44,45])
    (.block 2
      (.loop m19l0)))
    (.named [4,5,8,24,25,26] m19k0)))))
  (.named [4,5,24,25,26] m19k1)))
def m19k2 : MC :=
  .seq (.reg [oc 0 59 53 [.t 4],mv 1 2 59,mc 2 3 (.int .i64 0)] [2,3])
  (.ret)
def m19 : MC :=
  .seq (.reg [oo 0 1 (.box (.t 0)),mc 1 2 (.str []),mc 2 3 (.int .i64 0)] [1])
  (.seq (.seq (.reg [ld 0 11 3 true 1,oc 1 12 37 [.t 11],oo 2 13 (.un .not (.t 12))] [1,13])
  (.cond (.t 13)
    (.seq (.reg [mc 0 2 (.str []),mc 1 3 (.int .i64 1)] [2,3])
    (.ret))
    (.skip)))
  (.seq (.reg [⟨0,some 4,none,.k .allocB⟩] [1,4])
  (.seq (.reg [oo 0 14 (.func (.func 48) [] [.t 4]),mv 1 5 14] [1,4,5])
  (.seq (.reg [mv 0 15 5,fa 1 16 0 1,ld 2 17 1 false 16,oo 3 18 (.mkSl 1 [.str []] [.t 17,.c (.str [101,118,101,110,116]),.c (.str [107,110,111,119])]),fa 4 19 1 1,ld 5 20 1 false 19,oo 6 21 (.app 1 16 (.t 18) (.t 20)),⟨7,some 22,none,.call (.t 15) [.t 21]⟩] [1,4,5])
  (.seq (.seq (.reg [fa 0 23 2 1,ld 1 24 1 false 23,oo 2 25 (.len false (.t 24)),mc 3 26 (.int .i64 0)] [4,5,24,25,26])
  (.block 0
    (.loop m19l1)))
  (.named [4] m19k2))))))
theorem is19 : FnIs Tryz.prog 19 60 m19 [.t 2,.t 3] := .of Tryz.call19 Tryz.func19 (by kernel_rfl)
def m20l0 : MC :=
  .seq (.seq (.reg [mv 0 15 5,fa 1 16 1 1,ld 2 17 1 false 16,oo 3 18 (.len false (.t 17)),bi 4 19 .lss 15 18] [1,4,5,19])
  (.cond (.t 19)
    (.skip)
    (.exit 0)))
  (.seq (.block 1
    (.reg [mv 0 22 4,bc 1 23 .add 22 (.str [9]),fa 2 24 1 1,ld 3 25 1 false 24,mv 4 26 5,oo 5 27 (.iadr 1 (.t 25) (.t 26)),ld 6 28 1 false 27,bi 7 29 .add 23 28,mv 8 4 29] [1,4,5]))
  (.reg [mv 0 20 5,bc 1 21 .add 20 (.int .i64 1),mv 2 5 21] [1,4,5]))
def m20l1 : MC :=
  .seq (.seq (.reg [mv 0 61 8,fa 1 62 3 7,ld 2 63 1 false 62,oo 3 64 (.len false (.t 63)),bi 4 65 .lss 61 64] [1,4,6,7,8,65])
  (.cond (.t 65)
    (.skip)
    (.exit 4)))
  (.seq (.block 5
    (.reg [mv 0 68 4,bc 1 69 .add 68 (.str [9]),fa 2 70 3 7,ld 3 71 1 false 70,mv 4 72 8,oo 5 73 (.iadr 3 (.t 71) (.t 72)),ld 6 74 3 true 73,oc 7 75 55 [.t 74],bi 8 76 .add 69 75,mv 9 4 76] [1,4,6,7,8]))
  (.reg [mv 0 66 8,bc 1 67 .add 66 (.int .i64 1),mv 2 8 67] [1,4,6,7,8]))
def m20k0 : MC :=
  .reg [mv 0 77 4,bc 1 78 .add 77 (.str [10]),mv 2 4 78] [1,4,6]
def m20k1 : MC :=
  .reg [mv 0 37 6,bc 1 38 .add 37 (.int .i64 1),mv 2 6 38] [1,4,6]
def m20l2 : MC :=
  .seq (.seq (.reg [mv 0 32 6,fa 1 33 2 1,ld 2 34 1 false 33,oo 3 35 (.len false (.t 34)),bi 4 36 .lss 32 35] [1,4,6,36])
  (.cond (.t 36)
    (.skip)
    (.exit 2)))
  (.seq (.block 3
    (.seq (.reg [fa 0 39 2 1,ld 1 40 1 false 39,mv 2 41 6,oo 3 42 (.iadr 4 (.t 40) (.t 41)),ld 4 43 4 true 42,oo 5 7 (.alloc [.str [],.int .i64 0,.int .i64 0,.sl 3 [] .exact]),⟨6,none,none,.k (.store 4 (.t 7) (.t 43))⟩] [1,4,6,7])
    (.seq (.any (on1 (mv 0 44 4) <|
        on1 (fa 1 45 0 7) <|
        on1 (fa 2 46 0 45) <|
        .one (ld 3 47 1 false 46) true false <|
        on1 (bi 4 48 .add 44 47) <|
        on1 (bc 5 49 .add 48 (.str [9])) <|
        on1 (fa 6 50 0 7) <|
        on1 (fa 7 51 1 50) <|
        .one (ld 8 52 1 false 51) true false <|
        on1 (fa 12 56 0 7) <|
        on1 (fa 13 57 2 56) <|
        .one (ld 14 58 1 false 57) true false <|
        .one (oc 9 53 54 [.t 52]) false true <|
        on1 (bi 10 54 .add 49 53) <|
        on1 (bc 11 55 .add 54 (.str [9])) <|
        .one (oc 15 59 54 [.t 58]) false true <|
        on1 (bi 16 60 .add 55 59) <|
        on1 (mv 17 4 60) <|
        .done) [7] [1,4,6,7])
    (.seq (.seq (.reg [mc 0 8 (.int .i64 0)] [1,4,6,7,8])
    (.block 4
      (.loop m20l1)))
    (.named [1,4,6] m20k0)))))
  (.named [1,4,6] m20k1))
def m20k2 : MC :=
  .seq (.reg [mv 0 79 4,mv 1 2 79,mc 2 3 (.int .i64 0)] [2,3])
  (.ret)
def m20k3 : MC :=
  .seq (.reg [mv 0 30 4,bc 1 31 .add 30 (.str [10]),mv 2 4 31] [1,4])
  (.seq (.seq (.reg [mc 0 6 (.int .i64 0)] [1,4,6])
  (.block 2
    (.loop m20l2)))
  (.named [4] m20k2))
def m20 : MC :=
  .seq (.reg [oo 0 1 (.box (.t 0)),mc 1 2 (.str []),mc 2 3 (.int .i64 0)] [1])
  (.seq (.seq (.reg [ld 0 9 3 true 1,oc 1 10 22 [.t 9],oo 2 11 (.un .not (.t 10))] [1,11])
  (.cond (.t 11)
    (.seq (.reg [mc 0 2 (.str []),mc 1 3 (.int .i64 1)] [2,3])
    (.ret))
    (.skip)))
  (.seq (.reg [fa 0 12 0 1,ld 1 13 1 false 12,bc 2 14 .add 13 (.str [9,101,118,101,110,116,9,107,110,111,119]),mv 3 4 14] [1,4])
  (.seq (.seq (.reg [mc 0 5 (.int .i64 0)] [1,4,5])
  (.block 0
    (.loop m20l0)))
  (.named [1,4] m20k3))))
theorem is20 : FnIs Tryz.prog 20 80 m20 [.t 2,.t 3] := .of Tryz.call20 Tryz.func20 (by kernel_rfl)
def m21l0 : MC :=
  .seq (.seq (.reg [mv 0 11 5,mv 1 12 0,oo 2 13 (.len false (.t 12)),bi 3 14 .lss 11 13] [0,1,5,14])
  (.cond (.t 14)
    (.skip)
    (.exit 0)))
  (.seq (.block 1
    (.seq (.any (on1 (mv 0 17 0) <|
        on1 (mv 1 18 5) <|
        on1 (oo 2 19 (.iadr 1 (.t 17) (.t 18))) <|
        on1 (ld 3 20 1 false 19) <|
        on1 (mv 4 21 1) <|
        on1 (mv 5 22 5) <|
        on1 (oo 6 23 (.iadr 1 (.t 21) (.t 22))) <|
        on1 (ld 7 24 1 false 23) <|
        on1 (bi 8 25 .neq 20 24) <|
        .done) [] [0,1,5,25])
    (.cond (.t 25)
      (.seq (.reg [mc 0 4 (.bool false)] [4])
      (.ret))
      (.skip))))
  (.reg [mv 0 15 5,bc 1 16 .add 15 (.int .i64 1),mv 2 5 16] [0,1,5]))
def m21k0 : MC :=
  .seq (.reg [mc 0 4 (.bool true)] [4])
  (.ret)
def m21 : MC :=
  .seq (.reg [mc 0 4 (.bool false)] [0,1])
  (.seq (.seq (.reg [mv 0 6 0,oo 1 7 (.len false (.t 6)),mv 2 8 1,oo 3 9 (.len false (.t 8)),bi 4 10 .neq 7 9] [0,1,10])
  (.cond (.t 10)
    (.seq (.reg [mc 0 4 (.bool false)] [4])
    (.ret))
    (.skip)))
  (.seq (.seq (.reg [mc 0 5 (.int .i64 0)] [0,1,5])
  (.block 0
    (.loop m21l0)))
  (.named [] m21k0)))
theorem is21 : FnIs Tryz.prog 21 26 m21 [.t 4] := .of Tryz.call21 Tryz.func21 (by kernel_rfl)
def m22k0 : MC :=
  .cond (.t 54)
    (.seq (.reg [mc 0 2 (.bool false)] [2])
    (.ret))
    (.skip)
def m22l0 : MC :=
  .seq (.seq (.reg [mv 0 55 6,fa 1 56 3 5,ld 2 57 1 false 56,oo 3 58 (.len false (.t 57)),bi 4 59 .lss 55 58] [1,3,4,5,6,59])
  (.cond (.t 59)
    (.skip)
    (.exit 2)))
  (.seq (.block 3
    (.seq (.reg [fa 0 62 3 5,ld 1 63 1 false 62,mv 2 64 6,oo 3 65 (.iadr 3 (.t 63) (.t 64)),ld 4 66 3 true 65,oc 5 67 56 [.t 66],oo 6 68 (.un .not (.t 67))] [1,3,4,5,6,68])
    (.cond (.t 68)
      (.seq (.reg [mc 0 2 (.bool false)] [2])
      (.ret))
      (.skip))))
  (.reg [mv 0 60 6,bc 1 61 .add 60 (.int .i64 1),mv 2 6 61] [1,3,4,5,6]))
def m22k1 : MC :=
  .seq (.reg [mc 0 6 (.int .i64 0)] [1,3,4,5,6])
  (.block 2
    (.loop m22l0))
def m22k2 : MC :=
  .reg [mv 0 17 4,bc 1 18 .add 17 (.int .i64 1),mv 2 4 18] [1,3,4]
def m22l1 : MC :=
  .seq (.seq (.reg [mv 0 12 4,fa 1 13 2 1,ld 2 14 1 false 13,oo 3 15 (.len false (.t 14)),bi 4 16 .lss 12 15] [1,3,4,16])
  (.cond (.t 16)
    (.skip)
    (.exit 0)))
  (.seq (.block 1
    (.seq (.reg [fa 0 19 2 1,ld 1 20 1 false 19,mv 2 21 4,oo 3 22 (.iadr 4 (.t 20) (.t 21)),ld 4 23 4 true 22,oo 5 5 (.alloc [.str [],.int .i64 0,.int .i64 0,.sl 3 [] .exact]),⟨6,none,none,.k (.store 4 (.t 5) (.t 23))⟩] [1,3,4,5])
    (.seq (.reg [fa 0 24 2 3,ld 1 25 1 false 24,fa 2 26 0 5,ld 3 27 3 true 26,oo 4 28 (.mkSl 3 [.str [],.int .i64 0,.int .i64 0] [.t 27]),oo 5 29 (.app 3 32 (.t 25) (.t 28)),fa 6 30 2 3,⟨7,none,none,.k (.store 1 (.t 30) (.t 29))⟩] [1,3,4,5])
    (.seq (.seq (.any (on1 (mv 0 31 4) <|
        on1 (bc 1 32 .gtr 31 (.int .i64 0)) <|
        on1 (mv 2 33 32) <|
        on1 (og 3 34 33 true (.fadr 2 (.t 1))) <|
        .one (og 4 35 33 true (.load 1 false (.t 34))) true false <|
        on1 (gm 5 36 33 true 4) <|
        on1 (og 6 37 33 true (.bin .sub (.t 36) (.c (.int .i64 1)))) <|
        on1 (og 7 38 33 true (.iadr 4 (.t 35) (.t 37))) <|
        on1 (og 8 39 33 true (.fadr 0 (.t 38))) <|
        on1 (og 9 40 33 true (.load 3 true (.t 39))) <|
        on1 (og 10 41 33 true (.fadr 0 (.t 5))) <|
        on1 (og 11 42 33 true (.load 3 true (.t 41))) <|
        .one ⟨12,some 43,(some (33,true)),.call (.f 27) [.t 40,.t 42]⟩ false true <|
        on1 (og 13 44 33 true (.un .not (.t 43))) <|
        on1 (oo 14 45 (.pick (.t 33) (.t 44) (.c (.bool false)))) <|
        on1 (mv 15 46 45) <|
        on1 (og 16 47 46 false (.fadr 3 (.t 5))) <|
        on1 (og 17 48 46 false (.load 1 false (.t 47))) <|
        on1 (og 18 49 46 false (.len false (.t 48))) <|
        on1 (og 19 50 46 false (.fadr 1 (.t 1))) <|
        on1 (og 20 51 46 false (.load 1 false (.t 50))) <|
        on1 (og 21 52 46 false (.len false (.t 51))) <|
        on1 (og 22 53 46 false (.bin .neq (.t 49) (.t 52))) <|
        on1 (oo 23 54 (.pick (.t 46) (.c (.bool true)) (.t 53))) <|
        .done) [1] [1,3,4,5,54])
    (.named [1,3,4,5,54] m22k0))
    (.named [1,3,4,5] m22k1)))))
  (.named [1,3,4] m22k2))
def m22k3 : MC :=
  .seq (.reg [ld 0 69 5 true 3,oc 1 70 40 [.t 69],mv 2 2 70] [2])
  (.ret)
def m22 : MC :=
  .seq (.reg [oo 0 1 (.box (.t 0)),mc 1 2 (.bool false)] [1])
  (.seq (.reg [fa 0 7 0 1,ld 1 8 1 false 7,fa 2 9 1 1,ld 3 10 1 false 9,oo 4 11 (.build [.str [],.sl 1 [] .exact,.sl 3 [] .exact,.int .i64 0,.int .i64 0] [(0,1,.t 8),(1,1,.t 10)]),oo 5 3 (.alloc [.str [],.sl 1 [] .exact,.sl 3 [] .exact,.int .i64 0,.int .i64 0]),⟨6,none,none,.k (.store 5 (.t 3) (.t 11))⟩] [1,3])
  (.seq (.seq (.reg [mc 0 4 (.int .i64 0)] [1,3,4])
  (.block 0
    (.loop m22l1)))
  (.named [3] m22k3)))
theorem is22 : FnIs Tryz.prog 22 71 m22 [.t 2] := .of Tryz.call22 Tryz.func22 (by kernel_rfl)
def m23l0 : MC :=
  .seq (.reg [bi 0 26 .lss 25 24] [1,4,23,24,25,26])
  (.seq (.cond (.t 26)
    (.skip)
    (.exit 0))
  (.seq (.block 1
    (.seq (.reg [oo 0 27 (.iadr 1 (.t 23) (.t 25)),ld 1 28 1 false 27,mv 2 6 28] [1,4,6,23,24,25])
    (.reg [mv 0 29 4,mv 1 30 6,oc 2 31 58 [.t 29,.t 30],mv 3 4 31] [1,4,23,24,25])))
  (.reg [bc 0 32 .add 25 (.int .i64 1),mv 1 25 32] [1,4,23,24,25])))
def m23l1 : MC :=
  .seq (.reg [bi 0 64 .lss 63 62] [2,4,41,42,43,61,62,63,64])
  (.seq (.cond (.t 64)
    (.skip)
    (.exit 4))
  (.seq (.block 5
    (.seq (.reg [oo 0 65 (.iadr 3 (.t 61) (.t 63)),ld 1 66 3 true 65,oo 2 10 (.alloc [.int .i64 0,.int .i64 0,.str []]),⟨3,none,none,.k (.store 3 (.t 10) (.t 66))⟩] [2,4,10,41,42,43,61,62,63])
    (.reg [mv 0 67 4,ld 1 68 3 true 10,oc 2 69 61 [.t 67,.t 68],mv 3 4 69] [2,4,41,42,43,61,62,63])))
  (.reg [bc 0 70 .add 63 (.int .i64 1),mv 1 63 70] [2,4,41,42,43,61,62,63])))
def m23k0 : MC :=
  .reg [mv 0 71 2,mv 1 72 4,oc 2 73 59 [.t 71,.t 72],mv 3 2 73] [2,41,42,43]
def m23k1 : MC :=
  .reg [bc 0 74 .add 43 (.int .i64 1),mv 1 43 74] [2,41,42,43]
def m23l2 : MC :=
  .seq (.reg [bi 0 44 .lss 43 42] [2,41,42,43,44])
  (.seq (.cond (.t 44)
    (.skip)
    (.exit 2))
  (.seq (.block 3
    (.seq (.reg [oo 0 45 (.iadr 4 (.t 41) (.t 43)),ld 1 46 4 true 45,oo 2 8 (.alloc [.str [],.int .i64 0,.int .i64 0,.sl 3 [] .exact]),⟨3,none,none,.k (.store 4 (.t 8) (.t 46))⟩] [2,8,41,42,43])
    (.seq (.reg [fa 0 47 0 8,fa 1 48 0 47,ld 2 49 1 false 48,⟨3,some 50,none,.call (.f 58) [.c (.sl 1 [] .exact),.t 49]⟩,mv 4 4 50] [2,4,8,41,42,43])
    (.seq (.any (on1 (mv 0 51 4) <|
        on1 (fa 1 52 0 8) <|
        on1 (fa 2 53 1 52) <|
        .one (ld 3 54 1 false 53) true false <|
        on1 (fa 5 56 0 8) <|
        on1 (fa 6 57 2 56) <|
        .one (ld 7 58 1 false 57) true false <|
        .one (oc 4 55 60 [.t 51,.t 54]) false true <|
        .one (oc 8 59 60 [.t 55,.t 58]) false true <|
        on1 (mv 9 4 59) <|
        .done) [8] [2,4,8,41,42,43])
    (.seq (.seq (.reg [fa 0 60 3 8,ld 1 61 1 false 60,oo 2 62 (.len false (.t 61)),mc 3 63 (.int .i64 0)] [2,4,41,42,43,61,62,63])
    (.block 4
      (.loop m23l1)))
    (.named [2,4,41,42,43] m23k0))))))
  (.named [2,41,42,43] m23k1)))
def m23k2 : MC :=
  .seq (.reg [mv 0 75 2,mv 1 2 75,mc 2 3 (.int .i64 0)] [2,3])
  (.ret)
def m23k3 : MC :=
  .seq (.reg [mv 0 33 4,fa 1 34 2 1,ld 2 35 1 false 34,oo 3 36 (.len false (.t 35)),oo 4 37 (.conv .u64 (.t 36)),oc 5 38 57 [.t 33,.t 37],⟨6,some 39,none,.call (.f 59) [.c (.sl 1 [] .exact),.t 38]⟩,mv 7 2 39] [1,2])
  (.seq (.seq (.reg [fa 0 40 2 1,ld 1 41 1 false 40,oo 2 42 (.len false (.t 41)),mc 3 43 (.int .i64 0)] [2,41,42,43])
  (.block 2
    (.loop m23l2)))
  (.named [2] m23k2))
def m23 : MC :=
  .seq (.reg [oo 0 1 (.box (.t 0)),mc 1 2 (.sl 1 [] .exact),mc 2 3 (.int .i64 0)] [1])
  (.seq (.seq (.reg [ld 0 11 3 true 1,oc 1 12 37 [.t 11],oo 2 13 (.un .not (.t 12))] [1,13])
  (.cond (.t 13)
    (.seq (.reg [mc 0 2 (.sl 1 [] .exact),mc 1 3 (.int .i64 1)] [2,3])
    (.ret))
    (.skip)))
  (.seq (.any (on1 (fa 0 14 0 1) <|
      .one (ld 1 15 1 false 14) true false <|
      on1 (fa 3 17 1 1) <|
      .one (ld 4 18 1 false 17) true false <|
      on1 (oo 5 19 (.len false (.t 18))) <|
      on1 (oo 6 20 (.conv .u64 (.t 19))) <|
      .one ⟨2,some 16,none,.call (.f 58) [.c (.sl 1 [] .exact),.t 15]⟩ false true <|
      .one (oc 7 21 57 [.t 16,.t 20]) false true <|
      on1 (mv 8 4 21) <|
      .done) [1] [1,4])
  (.seq (.seq (.reg [fa 0 22 1 1,ld 1 23 1 false 22,oo 2 24 (.len false (.t 23)),mc 3 25 (.int .i64 0)] [1,4,23,24,25])
  (.block 0
    (.loop m23l0)))
  (.named [1,4] m23k3))))
theorem is23 : FnIs Tryz.prog 23 76 m23 [.t 2,.t 3] := .of Tryz.call23 Tryz.func23 (by kernel_rfl)
def m24l0 : MC :=
  .seq (.reg [bi 0 23 .lss 22 21] [2,3,4,5,6,21,22,23])
  (.seq (.cond (.t 23)
    (.skip)
    (.exit 0))
  (.seq (.block 1
    (.any (on1 (fa 0 24 1 2) <|
        .one (ld 1 25 1 false 24) true false <|
        on1 (mv 2 26 5) <|
        .one (oc 3 27 64 [.t 26]) false true <|
        on1 (oo 4 28 (.mkSl 1 [.str []] [.t 27])) <|
        on1 (oo 5 29 (.app 1 16 (.t 25) (.t 28))) <|
        on1 (fa 6 30 1 2) <|
        on1 ⟨7,none,none,.k (.store 1 (.t 30) (.t 29))⟩ <|
        .done) [2] [2,3,4,5,6,21,22]))
  (.reg [bc 0 31 .add 22 (.int .i64 1),mv 1 22 31] [2,3,4,5,6,21,22])))
def m24l1 : MC :=
  .seq (.reg [bi 0 55 .lss 54 53] [2,3,4,6,8,9,36,37,53,54,55])
  (.seq (.cond (.t 55)
    (.skip)
    (.exit 4))
  (.seq (.block 5
    (.any (on1 (fa 0 56 3 9) <|
        .one (ld 1 57 1 false 56) true false <|
        on1 (mv 2 58 8) <|
        .one (oc 3 59 68 [.t 58]) false true <|
        on1 (oo 4 60 (.mkSl 3 [.int .i64 0,.int .i64 0,.str []] [.t 59])) <|
        on1 (oo 5 61 (.app 3 32 (.t 57) (.t 60))) <|
        on1 (fa 6 62 3 9) <|
        on1 ⟨7,none,none,.k (.store 1 (.t 62) (.t 61))⟩ <|
        .done) [9] [2,3,4,6,8,9,36,37,53,54]))
  (.reg [bc 0 63 .add 54 (.int .i64 1),mv 1 54 63] [2,3,4,6,8,9,36,37,53,54])))
def m24k0 : MC :=
  .seq (.reg [mv 0 64 8,oc 1 65 66 [.t 64]] [2,3,4,6,9,36,37])
  (.reg [fa 0 66 2 2,ld 1 67 1 false 66,ld 2 68 4 true 9,oo 3 69 (.mkSl 4 [.str [],.int .i64 0,.int .i64 0,.sl 3 [] .exact] [.t 68]),oo 4 70 (.app 4 56 (.t 67) (.t 69)),fa 5 71 2 2,⟨6,none,none,.k (.store 1 (.t 71) (.t 70))⟩] [2,3,4,6,36,37])
def m24k1 : MC :=
  .reg [bc 0 72 .add 37 (.int .i64 1),mv 1 37 72] [2,3,4,6,36,37]
def m24l2 : MC :=
  .seq (.reg [bi 0 38 .lss 37 36] [2,3,4,6,36,37,38])
  (.seq (.cond (.t 38)
    (.skip)
    (.exit 2))
  (.seq (.block 3
    (.seq (.reg [mv 0 39 4,oc 1 40 63 [.t 39],mv 2 8 40] [2,3,4,6,8,36,37])
    (.seq (.reg [oo 0 9 (.alloc [.str [],.int .i64 0,.int .i64 0,.sl 3 [] .exact])] [2,3,4,6,8,9,36,37])
    (.seq (.reg [mv 0 41 8,oc 1 42 64 [.t 41],fa 2 43 0 9,fa 3 44 0 43,⟨4,none,none,.k (.store 1 (.t 44) (.t 42))⟩] [2,3,4,6,8,9,36,37])
    (.seq (.reg [mv 0 45 8,oc 1 46 67 [.t 45],fa 2 47 0 9,fa 3 48 1 47,⟨4,none,none,.k (.store 1 (.t 48) (.t 46))⟩] [2,3,4,6,8,9,36,37])
    (.seq (.reg [mv 0 49 8,oc 1 50 67 [.t 49],fa 2 51 0 9,fa 3 52 2 51,⟨4,none,none,.k (.store 1 (.t 52) (.t 50))⟩] [2,3,4,6,8,9,36,37])
    (.seq (.seq (.reg [mv 0 53 6,mc 1 54 (.int .i64 0)] [2,3,4,6,8,9,36,37,53,54])
    (.block 4
      (.loop m24l1)))
    (.named [2,3,4,6,8,9,36,37] m24k0))))))))
  (.named [2,3,4,6,36,37] m24k1)))
def m24k2 : MC :=
  .seq (.reg [ld 0 79 3 true 2,⟨1,none,none,.k (.store 3 (.t 2) (.t 79))⟩,⟨2,none,none,.k (.store 1 (.t 3) (.c (.int .i64 0)))⟩] [2,3])
  (.ret)
def m24k3 : MC :=
  .seq (.reg [mv 0 73 4,oc 1 74 66 [.t 73]] [2,3])
  (.seq (.seq (.reg [ld 0 75 3 true 2,oc 1 76 37 [.t 75],oo 2 77 (.un .not (.t 76))] [2,3,77])
  (.cond (.t 77)
    (.reg [oo 0 78 (.ifc 32 (.c (.int .i64 3))),⟨1,none,none,.panic (.t 78)⟩] [2,3])
    (.skip)))
  (.named [2,3] m24k2))
def m24k4 : MC :=
  .seq (.reg [mv 0 32 5,oc 1 33 65 [.t 32,.c (.int .u64 256)],mv 2 7 33] [2,3,4,5,6,7])
  (.seq (.reg [mv 0 34 5,oc 1 35 66 [.t 34]] [2,3,4,6,7])
  (.seq (.seq (.reg [mv 0 36 7,mc 1 37 (.int .i64 0)] [2,3,4,6,36,37])
  (.block 2
    (.loop m24l2)))
  (.named [2,3,4] m24k3)))
def m24 : MC :=
  .seq (.reg [oo 0 2 (.alloc [.str [],.sl 1 [] .exact,.sl 4 [] .exact]),oo 1 3 (.alloc [.int .i64 0])] [0,2,3])
  (.seq (.dfr [oo 0 10 (.func (.func 62) [] [.t 2,.t 3])] (.t 10) [] [0,2,3])
  (.seq (.reg [mv 0 11 0,oo 1 12 (.build [.sl 1 [] .exact] [(0,1,.t 11)]),oo 2 13 (.box (.t 12)),mv 3 4 13] [2,3,4])
  (.seq (.reg [mv 0 14 4,oc 1 15 63 [.t 14],mv 2 5 15] [2,3,4,5])
  (.seq (.reg [mv 0 16 5,oc 1 17 64 [.t 16],fa 2 18 0 2,⟨3,none,none,.k (.store 1 (.t 18) (.t 17))⟩] [2,3,4,5])
  (.seq (.reg [mv 0 19 5,oc 1 20 65 [.t 19,.c (.int .u64 8)],mv 2 6 20] [2,3,4,5,6])
  (.seq (.seq (.reg [mv 0 21 6,mc 1 22 (.int .i64 0)] [2,3,4,5,6,21,22])
  (.block 0
    (.loop m24l0)))
  (.named [2,3,4,5,6] m24k4)))))))
theorem is24 : FnIs Tryz.prog 24 80 m24 [.c 2 3 true,.c 3 1 false] := .of Tryz.call24 Tryz.func24 (by kernel_rfl)
def m25k0 : MC :=
  .cond (.t 66)
    (.reg [oo 0 67 (.ifc 32 (.c (.int .i64 40))),⟨1,none,none,.panic (.t 67)⟩] [4,5,6,7,8,9])
    (.skip)
def m25k1 : MC :=
  .seq (.any (on1 (mv 0 68 9) <|
      on1 (mv 1 69 8) <|
      on1 (mv 2 70 8) <|
      on1 (oo 3 71 (.slV 1 (.t 68) none (some (.t 69)) (some (.t 70)))) <|
      on1 (mv 4 72 7) <|
      on1 (oo 5 73 (.nilChk (.t 72))) <|
      on1 (fa 6 74 1 73) <|
      on1 (ld 7 75 1 false 74) <|
      on1 (mv 8 4 71) <|
      on1 ⟨9,none,none,.k (.store 1 (.t 5) (.t 75))⟩ <|
      on1 ⟨10,none,none,.k (.store 1 (.t 6) (.c (.int .i64 0)))⟩ <|
      .done) [] [4,5,6])
  (.ret)
def m25k2 : MC :=
  .seq (.reg [mv 0 19 7,mv 1 20 8,bc 2 21 .add 20 (.int .u64 4),oc 3 22 72 [.t 19,.t 21],mv 4 9 22] [4,5,6,7,8,9])
  (.seq (.reg [mv 0 23 9,mv 1 24 8,oo 2 25 (.slV 1 (.t 23) none (some (.t 24)) none),oc 3 26 73 [.t 25],mv 4 10 26] [4,5,6,7,8,9,10])
  (.seq (.seq (.reg [mv 0 27 9,mv 1 28 8,oo 2 29 (.iadr 1 (.t 27) (.t 28)),ld 3 30 1 false 29,mv 4 31 10,oo 5 32 (.conv .u8 (.t 31)),bi 6 33 .neq 30 32,mv 7 34 33,gm 8 35 34 false 9,gm 9 36 34 false 8,og 10 37 34 false (.bin .add (.t 36) (.c (.int .u64 1))),og 11 38 34 false (.iadr 1 (.t 35) (.t 37)),og 12 39 34 false (.load 1 false (.t 38)),gm 13 40 34 false 10,og 14 41 34 false (.bin .shr (.t 40) (.c (.int .u64 8))),og 15 42 34 false (.conv .u8 (.t 41)),og 16 43 34 false (.bin .neq (.t 39) (.t 42)),oo 17 44 (.pick (.t 34) (.c (.bool true)) (.t 43)),mv 18 45 44,gm 19 46 45 false 9,gm 20 47 45 false 8,og 21 48 45 false (.bin .add (.t 47) (.c (.int .u64 2))),og 22 49 45 false (.iadr 1 (.t 46) (.t 48)),og 23 50 45 false (.load 1 false (.t 49)),gm 24 51 45 false 10,og 25 52 45 false (.bin .shr (.t 51) (.c (.int .u64 16))),og 26 53 45 false (.conv .u8 (.t 52)),og 27 54 45 false (.bin .neq (.t 50) (.t 53)),oo 28 55 (.pick (.t 45) (.c (.bool true)) (.t 54)),mv 29 56 55,gm 30 57 56 false 9,gm 31 58 56 false 8,og 32 59 56 false (.bin .add (.t 58) (.c (.int .u64 3))),og 33 60 56 false (.iadr 1 (.t 57) (.t 59)),og 34 61 56 false (.load 1 false (.t 60)),gm 35 62 56 false 10,og 36 63 56 false (.bin .shr (.t 62) (.c (.int .u64 24))),og 37 64 56 false (.conv .u8 (.t 63)),og 38 65 56 false (.bin .neq (.t 61) (.t 64)),oo 39 66 (.pick (.t 56) (.c (.bool true)) (.t 65))] [4,5,6,7,8,9,66])
  (.named [4,5,6,7,8,9,66] m25k0))
  (.named [4,5,6,7,8,9] m25k1)))
def m25 : MC :=
  .seq (.reg [mc 0 4 (.sl 1 [] .exact),oo 1 5 (.alloc [.int .i64 0]),oo 2 6 (.alloc [.int .i64 0])] [0,1,4,5,6])
  (.seq (.dfr [] (.f 69) [.t 5,.t 6] [0,1,4,5,6])
  (.seq (.reg [mv 0 11 0,mv 1 12 1,oc 2 13 70 [.t 11,.t 12],mv 3 7 13] [4,5,6,7])
  (.seq (.reg [mv 0 14 7,oc 1 15 71 [.t 14],mv 2 8 15] [4,5,6,7,8])
  (.seq (.seq (.reg [mv 0 16 8,bc 1 17 .gtr 16 (.int .u64 8192)] [4,5,6,7,8,17])
  (.cond (.t 17)
    (.reg [oo 0 18 (.ifc 32 (.c (.int .i64 2))),⟨1,none,none,.panic (.t 18)⟩] [4,5,6,7,8])
    (.skip)))
  (.named [4,5,6,7,8] m25k2)))))
theorem is25 : FnIs Tryz.prog 25 76 m25 [.t 4,.c 5 1 false,.c 6 1 false] := .of Tryz.call25 Tryz.func25 (by kernel_rfl)
def m27 : MC :=
  .seq (.reg [oo 0 2 (.box (.t 0)),oo 1 3 (.box (.t 1)),mc 2 4 (.bool false)] [2,3])
  (.seq (.seq (.reg [fa 0 5 0 2,ld 1 6 1 false 5,fa 2 7 0 3,ld 3 8 1 false 7,bi 4 9 .neq 6 8] [2,3,9])
  (.cond (.t 9)
    (.seq (.reg [fa 0 10 0 2,ld 1 11 1 false 10,fa 2 12 0 3,ld 3 13 1 false 12,bi 4 14 .lss 11 13,mv 5 4 14] [4])
    (.ret))
    (.skip)))
  (.seq (.seq (.reg [fa 0 15 1 2,ld 1 16 1 false 15,fa 2 17 1 3,ld 3 18 1 false 17,bi 4 19 .neq 16 18] [2,3,19])
  (.cond (.t 19)
    (.seq (.reg [fa 0 20 1 2,ld 1 21 1 false 20,fa 2 22 1 3,ld 3 23 1 false 22,bi 4 24 .lss 21 23,mv 5 4 24] [4])
    (.ret))
    (.skip)))
  (.seq (.reg [fa 0 25 2 2,ld 1 26 1 false 25,fa 2 27 2 3,ld 3 28 1 false 27,bi 4 29 .lss 26 28,mv 5 4 29] [4])
  (.ret))))
theorem is27 : FnIs Tryz.prog 27 30 m27 [.t 4] := .of Tryz.call27 Tryz.func27 (by kernel_rfl)
def m32k0 : MC :=
  .cond (.t 25)
    (.skip)
    (.reg [mv 0 34 4,oo 1 35 (.un .not (.t 34)),mv 2 36 35,og 3 37 36 true (.fadr 2 (.t 1)),og 4 38 36 true (.load 1 false (.t 37)),og 5 39 36 true (.bin .neq (.t 38) (.c (.str []))),oo 6 40 (.pick (.t 36) (.t 39) (.c (.bool false))),mv 7 25 40] [1,3,4,25])
def m32k1 : MC :=
  .cond (.t 59)
    (.seq (.reg [mc 0 2 (.int .i64 2)] [2])
    (.ret))
    (.skip)
def m32k2 : MC :=
  .cond (.t 41)
    (.seq (.reg [mc 0 2 (.int .i64 1)] [2])
    (.ret))
    (.seq (.reg [fa 0 60 1 1,ld 1 61 1 false 60,bc 2 62 .lss 61 (.int .i64 (-1152921504606846976)),mv 3 63 62,og 4 64 63 false (.fadr 1 (.t 1)),og 5 65 63 false (.load 1 false (.t 64)),og 6 66 63 false (.bin .gtr (.t 65) (.c (.int .i64 1152921504606846976))),oo 7 67 (.pick (.t 63) (.c (.bool true)) (.t 66)),mv 8 59 67] [1,4,59])
    (.named [1,4,59] m32k1))
def m32k3 : MC :=
  .cond (.t 25)
    (.seq (.reg [mc 0 2 (.int .i64 1)] [2])
    (.ret))
    (.seq (.reg [mv 0 42 3,oo 1 43 (.un .not (.t 42)),mv 2 44 43,og 3 45 44 true (.fadr 1 (.t 1)),og 4 46 44 true (.load 1 false (.t 45)),og 5 47 44 true (.bin .neq (.t 46) (.c (.int .i64 0))),oo 6 48 (.pick (.t 44) (.t 47) (.c (.bool false))),mv 7 49 48,og 8 50 49 true (.fadr 0 (.t 1)),og 9 51 49 true (.load 1 false (.t 50)),og 10 52 49 true (.bin .neq (.t 51) (.c (.int .i64 1))),gm 11 53 49 true 52,og 12 54 53 false (.fadr 1 (.t 1)),og 13 55 53 false (.load 1 false (.t 54)),og 14 56 53 false (.bin .neq (.t 55) (.c (.int .i64 1))),og 15 57 49 true (.pick (.t 53) (.c (.bool true)) (.t 56)),oo 16 58 (.pick (.t 49) (.t 57) (.c (.bool false))),mv 17 41 58] [1,4,41])
    (.named [1,4,41] m32k2))
def m32k4 : MC :=
  .cond (.t 85)
    (.seq (.reg [mc 0 2 (.int .i64 3)] [2])
    (.ret))
    (.skip)
def m32k5 : MC :=
  .cond (.t 110)
    (.seq (.reg [mc 0 2 (.int .i64 3)] [2])
    (.ret))
    (.skip)
def m32k6 : MC :=
  .reg [bc 0 111 .add 89 (.int .i64 1),mv 1 89 111] [1,6,88,89]
def m32l0 : MC :=
  .seq (.reg [bi 0 90 .lss 89 88] [1,6,88,89,90])
  (.seq (.cond (.t 90)
    (.skip)
    (.exit 1))
  (.seq (.block 2
    (.seq (.reg [mv 0 91 89,mv 1 7 91] [1,6,7,88,89])
    (.seq (.reg [fa 0 92 2 1,ld 1 93 1 false 92,mv 2 94 7,oo 3 95 (.istr (.t 93) (.t 94)),mv 4 8 95] [1,6,8,88,89])
    (.seq (.reg [mv 0 96 8,mv 1 97 6,bi 2 98 .lss 96 97,mv 3 99 98,gm 4 100 99 false 8,og 5 101 99 false (.bin .gtr (.t 100) (.c (.int .u8 126))),oo 6 102 (.pick (.t 99) (.c (.bool true)) (.t 101)),mv 7 103 102,gm 8 104 103 false 8,og 9 105 103 false (.bin .eql (.t 104) (.c (.int .u8 34))),oo 10 106 (.pick (.t 103) (.c (.bool true)) (.t 105)),mv 11 107 106,gm 12 108 107 false 8,og 13 109 107 false (.bin .eql (.t 108) (.c (.int .u8 92))),oo 14 110 (.pick (.t 107) (.c (.bool true)) (.t 109))] [1,6,88,89,110])
    (.named [1,6,88,89,110] m32k5)))))
  (.named [1,6,88,89] m32k6)))
def m32k7 : MC :=
  .seq (.reg [mc 0 2 (.int .i64 0)] [2])
  (.ret)
def m32k8 : MC :=
  .seq (.seq (.reg [fa 0 86 2 1,ld 1 87 1 false 86,oo 2 88 (.len true (.t 87)),mc 3 89 (.int .i64 0)] [1,6,88,89])
  (.block 1
    (.loop m32l0)))
  (.named [] m32k7)
def m32k9 : MC :=
  .seq (.seq (.reg [fa 0 73 2 1,ld 1 74 1 false 73,oo 2 75 (.len true (.t 74)),mv 3 76 5,bi 4 77 .gtr 75 76] [1,6,77])
  (.cond (.t 77)
    (.seq (.reg [mc 0 2 (.int .i64 2)] [2])
    (.ret))
    (.skip)))
  (.seq (.seq (.reg [fa 0 78 0 1,ld 1 79 1 false 78,bc 2 80 .eql 79 (.int .i64 5),mv 3 81 80,og 4 82 81 true (.fadr 2 (.t 1)),og 5 83 81 true (.load 1 false (.t 82)),og 6 84 81 true (.bin .eql (.t 83) (.c (.str []))),oo 7 85 (.pick (.t 81) (.t 84) (.c (.bool false)))] [1,6,85])
  (.named [1,6,85] m32k4))
  (.named [1,6] m32k8))
def m32k10 : MC :=
  .seq (.seq (.reg [mv 0 68 4,oo 1 69 (.un .not (.t 68))] [1,69])
  (.cond (.t 69)
    (.seq (.reg [mc 0 2 (.int .i64 0)] [2])
    (.ret))
    (.skip)))
  (.seq (.reg [mc 0 5 (.int .i64 64),mc 1 6 (.int .u8 32)] [1,5,6])
  (.seq (.seq (.reg [fa 0 70 0 1,ld 1 71 1 false 70,bc 2 72 .eql 71 (.int .i64 5)] [1,5,6,72])
  (.cond (.t 72)
    (.reg [mc 0 5 (.int .i64 32),mc 1 6 (.int .u8 33)] [1,5,6])
    (.skip)))
  (.named [1,5,6] m32k9)))
def m32k11 : MC :=
  .seq (.block 0
    (.seq (.seq (.reg [fa 0 26 0 1,ld 1 27 1 false 26,bc 2 28 .lss 27 (.int .i64 0),mv 3 29 28,og 4 30 29 false (.fadr 0 (.t 1)),og 5 31 29 false (.load 1 false (.t 30)),og 6 32 29 false (.bin .gtr (.t 31) (.c (.int .i64 5))),oo 7 33 (.pick (.t 29) (.c (.bool true)) (.t 32)),mv 8 25 33] [1,3,4,25])
    (.named [1,3,4,25] m32k0))
    (.named [1,3,4,25] m32k3)))
  (.named [1,4] m32k10)
def m32k12 : MC :=
  .seq (.reg [fa 0 17 0 1,ld 1 18 1 false 17,bc 2 19 .eql 18 (.int .i64 4),mv 3 20 19,og 4 21 20 false (.fadr 0 (.t 1)),og 5 22 20 false (.load 1 false (.t 21)),og 6 23 20 false (.bin .eql (.t 22) (.c (.int .i64 5))),oo 7 24 (.pick (.t 20) (.c (.bool true)) (.t 23)),mv 8 4 24] [1,3,4])
  (.named [1,3,4] m32k11)
def m32 : MC :=
  .seq (.reg [oo 0 1 (.box (.t 0)),mc 1 2 (.int .i64 0)] [1])
  (.seq (.reg [fa 0 9 0 1,ld 1 10 1 false 9,bc 2 11 .eql 10 (.int .i64 2),mv 3 12 11,og 4 13 12 false (.fadr 0 (.t 1)),og 5 14 12 false (.load 1 false (.t 13)),og 6 15 12 false (.bin .eql (.t 14) (.c (.int .i64 3))),oo 7 16 (.pick (.t 12) (.c (.bool true)) (.t 15)),mv 8 3 16] [1,3])
  (.named [1,3] m32k12))
theorem is32 : FnIs Tryz.prog 32 112 m32 [.t 2] := .of Tryz.call32 Tryz.func32 (by kernel_rfl)
def m35 : MC :=
  .seq (.reg [oo 0 2 (.alloc [.str [],.sl 1 [] .exact,.sl 4 [] .exact])] [0,2])
  (.seq (.reg [oo 0 4 (.build [.str [],.int .i64 0,.int .i64 0] [(0,1,.c (.str [117])),(1,1,.c (.int .i64 5)),(2,1,.c (.int .i64 9))]),mv 1 5 0,oo 2 6 (.build [.int .i64 0,.int .i64 0,.str []] [(0,1,.c (.int .i64 2)),(1,1,.t 5)]),oo 3 7 (.build [.int .i64 0,.int .i64 0,.str []] []),oo 4 8 (.mkSl 3 [.int .i64 0,.int .i64 0,.str []] [.t 6,.t 7]),oo 5 9 (.build [.str [],.int .i64 0,.int .i64 0,.sl 3 [] .exact] [(0,3,.t 4),(3,1,.t 8)]),oo 6 3 (.alloc [.str [],.int .i64 0,.int .i64 0,.sl 3 [] .exact]),⟨7,none,none,.k (.store 4 (.t 3) (.t 9))⟩] [2,3])
  (.seq (.reg [oo 0 10 (.mkSl 1 [.str []] [.c (.str [97]),.c (.str [98])]),ld 1 11 4 true 3,oo 2 12 (.mkSl 4 [.str [],.int .i64 0,.int .i64 0,.sl 3 [] .exact] [.t 11]),oo 3 13 (.build [.str [],.sl 1 [] .exact,.sl 4 [] .exact] [(0,1,.c (.str [117,115,101,114])),(1,1,.t 10),(2,1,.t 12)]),⟨4,none,none,.k (.store 3 (.t 2) (.t 13))⟩] [2])
  (.ret)))
theorem is35 : FnIs Tryz.prog 35 14 m35 [.c 2 3 true] := .of Tryz.call35 Tryz.func35 (by kernel_rfl)
def m36l0 : MC :=
  .seq (.reg [bi 0 33 .lss 32 31] [3,4,30,31,32,33])
  (.seq (.cond (.t 33)
    (.skip)
    (.exit 0))
  (.seq (.block 1
    (.seq (.reg [oo 0 34 (.iadr 3 (.t 30) (.t 32)),ld 1 35 3 true 34,oo 2 6 (.alloc [.str [],.int .i64 0,.int .i64 0]),⟨3,none,none,.k (.store 3 (.t 6) (.t 35))⟩] [3,4,6,30,31,32])
    (.seq (.any (on1 (mv 0 36 4) <|
        on1 (bc 1 37 .add 36 (.str [34])) <|
        on1 (fa 2 38 0 6) <|
        .one (ld 3 39 1 false 38) true false <|
        on1 (bi 4 40 .add 37 39) <|
        on1 (bc 5 41 .add 40 (.str [34,32])) <|
        on1 (fa 6 42 1 6) <|
        .one (ld 7 43 1 false 42) true false <|
        on1 (fa 11 47 2 6) <|
        .one (ld 12 48 1 false 47) true false <|
        .one (oc 8 44 51 [.t 43]) false true <|
        on1 (bi 9 45 .add 41 44) <|
        on1 (bc 10 46 .add 45 (.str [32])) <|
        .one (oc 13 49 51 [.t 48]) false true <|
        on1 (bi 14 50 .add 46 49) <|
        .one (oc 15 51 49 [.t 3,.t 50]) false true <|
        .done) [6] [3,30,31,32])
    (.reg [mc 0 4 (.str [44,32])] [3,4,30,31,32]))))
  (.reg [bc 0 52 .add 32 (.int .i64 1),mv 1 32 52] [3,4,30,31,32])))
def m36k0 : MC :=
  .seq (.reg [oc 0 53 53 [.t 3],mv 1 2 53] [2])
  (.ret)
def m36 : MC :=
  .seq (.reg [oo 0 1 (.box (.t 0)),mc 1 2 (.str [])] [1])
  (.seq (.seq (.reg [ld 0 7 5 true 1,oc 1 8 91 [.t 7],oo 2 9 (.un .not (.t 8))] [1,9])
  (.cond (.t 9)
    (.seq (.reg [mc 0 2 (.str [])] [2])
    (.ret))
    (.skip)))
  (.seq (.reg [⟨0,some 3,none,.k .allocB⟩] [1,3])
  (.seq (.any (on1 (fa 0 10 0 1) <|
      .one (ld 1 11 1 false 10) true false <|
      on1 (oo 2 12 (.bin .add (.c (.str [111,102,32])) (.t 11))) <|
      on1 (bc 3 13 .add 12 (.str [32,116,97,107,101,32])) <|
      on1 (fa 4 14 1 1) <|
      .one (ld 5 15 1 false 14) true false <|
      .one ⟨6,some 16,none,.call (.f 50) [.t 15,.c (.str [44,32])]⟩ false true <|
      on1 (bi 7 17 .add 13 16) <|
      .one (oc 8 18 49 [.t 3,.t 17]) false true <|
      .done) [1] [1,3])
  (.seq (.any (on1 (fa 0 19 3 1) <|
      .one (ld 1 20 1 false 19) true false <|
      on1 (fa 5 24 4 1) <|
      .one (ld 6 25 1 false 24) true false <|
      .one (oc 2 21 51 [.t 20]) false true <|
      on1 (oo 3 22 (.bin .add (.c (.str [32,115,101,101,100,32])) (.t 21))) <|
      on1 (bc 4 23 .add 22 (.str [32,107,101,101,112,32])) <|
      .one (oc 7 26 51 [.t 25]) false true <|
      on1 (bi 8 27 .add 23 26) <|
      .one (oc 9 28 49 [.t 3,.t 27]) false true <|
      .done) [1] [1,3])
  (.seq (.reg [mc 0 4 (.str [32,97,116,32])] [1,3,4])
  (.seq (.seq (.reg [fa 0 29 2 1,ld 1 30 1 false 29,oo 2 31 (.len false (.t 30)),mc 3 32 (.int .i64 0)] [3,4,30,31,32])
  (.block 0
    (.loop m36l0)))
  (.named [3] m36k0)))))))
theorem is36 : FnIs Tryz.prog 36 54 m36 [.t 2] := .of Tryz.call36 Tryz.func36 (by kernel_rfl)
def m37k0 : MC :=
  .cond (.t 29)
    (.seq (.reg [mc 0 2 (.bool false)] [2])
    (.ret))
    (.skip)
def m37k1 : MC :=
  .cond (.t 48)
    (.seq (.reg [mc 0 2 (.bool false)] [2])
    (.ret))
    (.skip)
def m37k2 : MC :=
  .reg [bc 0 49 .add 33 (.int .i64 1),mv 1 33 49] [1,31,32,33]
def m37l0 : MC :=
  .seq (.reg [bi 0 34 .lss 33 32] [1,31,32,33,34])
  (.seq (.cond (.t 34)
    (.skip)
    (.exit 0))
  (.seq (.block 1
    (.seq (.reg [mv 0 35 33,oo 1 36 (.iadr 1 (.t 31) (.t 33)),ld 2 37 1 false 36,mv 3 3 35,mv 4 4 37] [1,3,4,31,32,33])
    (.seq (.reg [mv 0 38 4,oc 1 39 92 [.t 38],oo 2 40 (.un .not (.t 39)),mv 3 41 40,og 4 42 41 false (.fadr 1 (.t 1)),og 5 43 41 false (.load 1 false (.t 42)),gm 6 44 41 false 3,og 7 45 41 false (.slV 1 (.t 43) none (some (.t 44)) none),gm 8 46 41 false 4,⟨9,some 47,(some (41,false)),.call (.f 93) [.t 45,.t 46]⟩,oo 10 48 (.pick (.t 41) (.c (.bool true)) (.t 47))] [1,31,32,33,48])
    (.named [1,31,32,33,48] m37k1))))
  (.named [1,31,32,33] m37k2)))
def m37k3 : MC :=
  .cond (.t 87)
    (.seq (.reg [mc 0 2 (.bool false)] [2])
    (.ret))
    (.skip)
def m37k4 : MC :=
  .cond (.t 102)
    (.seq (.reg [mc 0 2 (.bool false)] [2])
    (.ret))
    (.skip)
def m37k5 : MC :=
  .seq (.reg [fa 0 103 3 6,ld 1 104 1 false 103,oc 2 105 96 [.t 104,.f 97]] [1,51,52,53,105])
  (.cond (.t 105)
    (.seq (.reg [mc 0 2 (.bool false)] [2])
    (.ret))
    (.skip))
def m37k6 : MC :=
  .seq (.seq (.any (on1 (mv 0 88 5) <|
      on1 (bc 1 89 .gtr 88 (.int .i64 0)) <|
      on1 (mv 2 90 89) <|
      on1 (og 3 91 90 true (.fadr 2 (.t 1))) <|
      .one (og 4 92 90 true (.load 1 false (.t 91))) true false <|
      on1 (gm 5 93 90 true 5) <|
      on1 (og 6 94 90 true (.bin .sub (.t 93) (.c (.int .i64 1)))) <|
      on1 (og 7 95 90 true (.iadr 4 (.t 92) (.t 94))) <|
      on1 (og 8 96 90 true (.fadr 0 (.t 95))) <|
      on1 (og 9 97 90 true (.load 3 true (.t 96))) <|
      on1 (og 10 98 90 true (.fadr 0 (.t 6))) <|
      on1 (og 11 99 90 true (.load 3 true (.t 98))) <|
      .one ⟨12,some 100,(some (90,true)),.call (.f 95) [.t 97,.t 99]⟩ false true <|
      on1 (og 13 101 90 true (.bin .geq (.t 100) (.c (.int .i64 0)))) <|
      on1 (oo 14 102 (.pick (.t 90) (.t 101) (.c (.bool false)))) <|
      .done) [1] [1,6,51,52,53,102])
  (.named [1,6,51,52,53,102] m37k4))
  (.named [1,6,51,52,53] m37k5)
def m37k7 : MC :=
  .reg [bc 0 106 .add 53 (.int .i64 1),mv 1 53 106] [1,51,52,53]
def m37l1 : MC :=
  .seq (.reg [bi 0 54 .lss 53 52] [1,51,52,53,54])
  (.seq (.cond (.t 54)
    (.skip)
    (.exit 2))
  (.seq (.block 3
    (.seq (.reg [mv 0 55 53,oo 1 56 (.iadr 4 (.t 51) (.t 53)),ld 2 57 4 true 56,oo 3 6 (.alloc [.str [],.int .i64 0,.int .i64 0,.sl 3 [] .exact]),mv 4 5 55,⟨5,none,none,.k (.store 4 (.t 6) (.t 57))⟩] [1,5,6,51,52,53])
    (.seq (.reg [fa 0 58 0 6,fa 1 59 0 58,ld 2 60 1 false 59,oo 3 61 (.build [.int .i64 0,.int .i64 0,.str []] [(0,1,.c (.int .i64 5)),(2,1,.t 60)]),oo 4 7 (.alloc [.int .i64 0,.int .i64 0,.str []]),⟨5,none,none,.k (.store 3 (.t 7) (.t 61))⟩] [1,5,6,7,51,52,53])
    (.seq (.seq (.reg [ld 0 62 3 true 7,oc 1 63 32 [.t 62],bc 2 64 .neq 63 (.int .i64 0),mv 3 65 64,og 4 66 65 false (.fadr 0 (.t 6)),og 5 67 65 false (.fadr 1 (.t 66)),og 6 68 65 false (.load 1 false (.t 67)),⟨7,some 69,(some (65,false)),.call (.f 94) [.t 68]⟩,og 8 70 65 false (.un .not (.t 69)),oo 9 71 (.pick (.t 65) (.c (.bool true)) (.t 70)),mv 10 72 71,og 11 73 72 false (.fadr 0 (.t 6)),og 12 74 72 false (.fadr 2 (.t 73)),og 13 75 72 false (.load 1 false (.t 74)),⟨14,some 76,(some (72,false)),.call (.f 94) [.t 75]⟩,og 15 77 72 false (.un .not (.t 76)),oo 16 78 (.pick (.t 72) (.c (.bool true)) (.t 77)),mv 17 79 78,og 18 80 79 false (.fadr 3 (.t 6)),og 19 81 79 false (.load 1 false (.t 80)),og 20 82 79 false (.len false (.t 81)),og 21 83 79 false (.fadr 1 (.t 1)),og 22 84 79 false (.load 1 false (.t 83)),og 23 85 79 false (.len false (.t 84)),og 24 86 79 false (.bin .neq (.t 82) (.t 85)),oo 25 87 (.pick (.t 79) (.c (.bool true)) (.t 86))] [1,5,6,51,52,53,87])
    (.named [1,5,6,51,52,53,87] m37k3))
    (.named [1,5,6,51,52,53] m37k6)))))
  (.named [1,51,52,53] m37k7)))
def m37k8 : MC :=
  .seq (.reg [mc 0 2 (.bool true)] [2])
  (.ret)
def m37k9 : MC :=
  .seq (.seq (.reg [fa 0 50 2 1,ld 1 51 1 false 50,oo 2 52 (.len false (.t 51)),mc 3 53 (.int .i64 0)] [1,51,52,53])
  (.block 2
    (.loop m37l1)))
  (.named [] m37k8)
def m37k10 : MC :=
  .seq (.seq (.reg [fa 0 30 1 1,ld 1 31 1 false 30,oo 2 32 (.len false (.t 31)),mc 3 33 (.int .i64 0)] [1,31,32,33])
  (.block 0
    (.loop m37l0)))
  (.named [1] m37k9)
def m37 : MC :=
  .seq (.reg [oo 0 1 (.box (.t 0)),mc 1 2 (.bool false)] [1])
  (.seq (.seq (.reg [fa 0 8 0 1,ld 1 9 1 false 8,oc 2 10 92 [.t 9],oo 3 11 (.un .not (.t 10)),mv 4 12 11,og 5 13 12 false (.fadr 1 (.t 1)),og 6 14 12 false (.load 1 false (.t 13)),og 7 15 12 false (.len false (.t 14)),og 8 16 12 false (.bin .lss (.t 15) (.c (.int .i64 1))),oo 9 17 (.pick (.t 12) (.c (.bool true)) (.t 16)),mv 10 18 17,og 11 19 18 false (.fadr 1 (.t 1)),og 12 20 18 false (.load 1 false (.t 19)),og 13 21 18 false (.len false (.t 20)),og 14 22 18 false (.bin .gtr (.t 21) (.c (.int .i64 8))),oo 15 23 (.pick (.t 18) (.c (.bool true)) (.t 22)),mv 16 24 23,og 17 25 24 false (.fadr 2 (.t 1)),og 18 26 24 false (.load 1 false (.t 25)),og 19 27 24 false (.len false (.t 26)),og 20 28 24 false (.bin .gtr (.t 27) (.c (.int .i64 256))),oo 21 29 (.pick (.t 24) (.c (.bool true)) (.t 28))] [1,29])
  (.named [1,29] m37k0))
  (.named [1] m37k10))
theorem is37 : FnIs Tryz.prog 37 107 m37 [.t 2] := .of Tryz.call37 Tryz.func37 (by kernel_rfl)
def m38l0 : MC :=
  .seq (.reg [bi 0 18 .lss 17 16] [1,2,15,16,17,18])
  (.seq (.cond (.t 18)
    (.skip)
    (.exit 0))
  (.seq (.block 1
    (.seq (.reg [mv 0 19 17,oo 1 20 (.iadr 4 (.t 15) (.t 17)),ld 2 21 4 true 20,oo 3 8 (.alloc [.str [],.int .i64 0,.int .i64 0,.sl 3 [] .exact]),mv 4 7 19,⟨5,none,none,.k (.store 4 (.t 8) (.t 21))⟩] [1,2,7,8,15,16,17])
    (.seq (.reg [mv 0 22 1,mv 1 23 7,oo 2 24 (.iadr 3 (.t 22) (.t 23)),ld 3 25 3 true 24,oo 4 9 (.alloc [.str [],.int .i64 0,.int .i64 0]),⟨5,none,none,.k (.store 3 (.t 9) (.t 25))⟩] [1,2,8,9,15,16,17])
    (.seq (.reg [mv 0 26 2,ld 1 27 4 true 8,ld 2 28 3 true 9,⟨3,some 29,none,.call (.t 26) [.t 27,.t 28]⟩,oo 4 30 (.un .not (.t 29))] [1,2,15,16,17,30])
    (.cond (.t 30)
      (.seq (.reg [mc 0 6 (.bool false)] [6])
      (.ret))
      (.skip))))))
  (.reg [bc 0 31 .add 17 (.int .i64 1),mv 1 17 31] [1,2,15,16,17])))
def m38k0 : MC :=
  .seq (.reg [mc 0 6 (.bool true)] [6])
  (.ret)
def m38 : MC :=
  .seq (.reg [mc 0 6 (.bool false)] [0,1,2])
  (.seq (.seq (.reg [mv 0 10 0,oo 1 11 (.len false (.t 10)),mv 2 12 1,oo 3 13 (.len false (.t 12)),bi 4 14 .neq 11 13] [0,1,2,14])
  (.cond (.t 14)
    (.seq (.reg [mc 0 6 (.bool false)] [6])
    (.ret))
    (.skip)))
  (.seq (.seq (.reg [mv 0 15 0,oo 1 16 (.len false (.t 15)),mc 2 17 (.int .i64 0)] [1,2,15,16,17])
  (.block 0
    (.loop m38l0)))
  (.named [] m38k0)))
theorem is38 : FnIs Tryz.prog 38 32 m38 [.t 6] := .of Tryz.call38 Tryz.func38 (by kernel_rfl)
def m39 : MC :=
  .seq (.reg [oo 0 2 (.box (.t 0)),oo 1 3 (.box (.t 1)),mc 2 4 (.bool false)] [2,3])
  (.seq (.reg [fa 0 5 0 2,ld 1 6 3 true 5,ld 2 7 3 true 3,oo 3 8 (.eqv [.s,.i,.i] false (.t 6) (.t 7)),mv 4 4 8] [4])
  (.ret))
theorem is39 : FnIs Tryz.prog 39 9 m39 [.t 4] := .of Tryz.call39 Tryz.func39 (by kernel_rfl)
end Go.Proofs.YtdjdhecanjmchaaGreatDoor
