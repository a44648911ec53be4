/- The functions of the seat in the small language (printed by a program), and that each is the program's. -/
import Derived.Test.YtdjdhecanjmchaaGreatDoorProg
import Derived.Test.YtdjdhecanjmchaaGreatDoorVr
import Derived.KernelRfl
set_option linter.unusedSimpArgs false
set_option linter.unusedVariables false
namespace Go.Proofs.YtdjdhecanjmchaaGreatDoor
open Go Go.V
def m3k0 : MC :=
  .cond (.t 19)
    (.seq (.reg [mc 0 4 (.bool true)] [4])
    (.ret))
    (.skip)
def m3k1 : MC :=
  .seq (.reg [ld 0 21 5 true 2,
      mv 1 22 1,
      oc 2 23 14 [.t 21,.t 22],
      mv 3 20 23,
      oo 4 24 (.ext (.t 20) 0),
      oo 5 25 (.ext (.t 20) 1),
      oo 6 5 (.alloc [.str [],.sl 1 [] .exact,.sl 4 [] .exact]),
      ⟨7,none,none,.k (.store 3 (.t 5) (.t 24))⟩,
      mv 8 6 25] [1,2,5,6])
  (.seq (.reg [ld 0 27 5 true 2,
      mv 1 28 1,
      oc 2 29 15 [.t 27,.t 28],
      mv 3 26 29,
      oo 4 30 (.ext (.t 26) 0),
      oo 5 31 (.ext (.t 26) 1),
      oo 6 7 (.alloc [.str [],.sl 1 [] .exact,.sl 4 [] .exact]),
      ⟨7,none,none,.k (.store 3 (.t 7) (.t 30))⟩,
      mv 8 8 31] [5,6,7,8])
  (.seq (.reg [mv 0 32 6,
      mv 1 33 8,
      bi 2 34 .eql 32 33,
      mv 3 35 34,
      og 4 36 35 true (.load 3 true (.t 5)),
      og 5 37 35 true (.load 3 true (.t 7)),
      ⟨6,some 38,(some (35,true)),.call (.f 16) [.t 36,.t 37]⟩,
      oo 7 39 (.pick (.t 35) (.t 38) (.c (.bool false))),
      mv 8 4 39] [4])
  (.ret)))
def m3 : MC :=
  .seq (.reg [oo 0 2 (.box (.t 0)),
      mc 1 4 (.bool false)] [1,2])
  (.seq (.seq (.reg [oc 0 9 11 [],
      oo 1 10 (.un .not (.t 9))] [1,2,10])
  (.cond (.t 10)
    (.seq (.reg [mc 0 4 (.bool false)] [4])
    (.ret))
    (.skip)))
  (.seq (.seq (.reg [ld 0 11 5 true 2,
      oc 1 12 12 [.t 11],
      oo 2 13 (.un .not (.t 12)),
      mv 3 14 13,
      gm 4 15 14 false 1,
      og 5 16 14 false (.build [.str [],.sl 1 [] .exact,.sl 4 [] .exact] [(2,1,.t 15)]),
      ⟨6,some 17,(some (14,false)),.call (.f 13) [.t 16]⟩,
      og 7 18 14 false (.un .not (.t 17)),
      oo 8 19 (.pick (.t 14) (.c (.bool true)) (.t 18))] [1,2,19])
  (.named [1,2,19] m3k0))
  (.named [1,2] m3k1)))
theorem is3 : FnIs Tryz.prog 3 40 m3 [.t 4] := .of Tryz.call3 Tryz.func3 (by kernel_rfl)
def m7k0 : MC :=
  .cond (.t 23)
    (.seq (.reg [mc 0 4 (.bool true)] [4])
    (.ret))
    (.skip)
def m7k1 : MC :=
  .cond (.t 58)
    (.seq (.reg [mc 0 4 (.bool false)] [4])
    (.ret))
    (.skip)
def m7k2 : MC :=
  .cond (.t 92)
    (.seq (.reg [mc 0 4 (.bool false)] [4])
    (.ret))
    (.skip)
def m7k3 : MC :=
  .reg [mv 0 63 8,
      bc 1 64 .add 63 (.int .i64 1),
      mv 2 8 64] [1,2,5,7,8]
def m7l0 : MC :=
  .seq (.seq (.reg [mv 0 59 8,
      mv 1 60 7,
      oo 2 61 (.len false (.t 60)),
      bi 3 62 .lss 59 61] [1,2,5,7,8,62])
  (.cond (.t 62)
    (.skip)
    (.exit 0)))
  (.seq (.block 1
    (.seq (.any (on1 (fa 0 65 2 5) <|
        .one (ld 1 66 1 false 65) true false <|
        on1 (mv 2 67 8) <|
        on1 (oo 3 68 (.iadr 4 (.t 66) (.t 67))) <|
        on1 (fa 4 69 0 68) <|
        .one (ld 5 70 3 true 69) true false <|
        on1 (mv 6 71 7) <|
        on1 (mv 7 72 8) <|
        on1 (oo 8 73 (.iadr 3 (.t 71) (.t 72))) <|
        .one (ld 9 74 3 true 73) true false <|
        on1 (oo 10 75 (.eqv [.s,.i,.i] true (.t 70) (.t 74))) <|
        on1 (mv 11 76 75) <|
        on1 (gm 12 77 76 false 8) <|
        on1 (og 13 78 76 false (.bin .gtr (.t 77) (.c (.int .i64 0)))) <|
        on1 (gm 14 79 76 false 78) <|
        on1 (gm 15 80 79 true 7) <|
        on1 (gm 16 81 79 true 8) <|
        on1 (og 17 82 79 true (.bin .sub (.t 81) (.c (.int .i64 1)))) <|
        on1 (og 18 83 79 true (.iadr 3 (.t 80) (.t 82))) <|
        on1 (og 19 84 79 true (.load 3 true (.t 83))) <|
        on1 (gm 20 85 79 true 7) <|
        on1 (gm 21 86 79 true 8) <|
        on1 (og 22 87 79 true (.iadr 3 (.t 85) (.t 86))) <|
        on1 (og 23 88 79 true (.load 3 true (.t 87))) <|
        .one ⟨24,some 89,(some (79,true)),.call (.f 27) [.t 84,.t 88]⟩ false true <|
        on1 (og 25 90 79 true (.un .not (.t 89))) <|
        on1 (og 26 91 76 false (.pick (.t 79) (.t 90) (.c (.bool false)))) <|
        on1 (oo 27 92 (.pick (.t 76) (.c (.bool true)) (.t 91))) <|
        .done) [5] [1,2,5,7,8,92])
    (.named [1,2,5,7,8,92] m7k2)))
  (.named [1,2,5,7,8] m7k3))
def m7k4 : MC :=
  .seq (.seq (.reg [mv 0 93 1,
      oo 1 94 (.len false (.t 93)),
      bc 2 95 .eql 94 (.int .i64 0)] [1,2,95])
  (.cond (.t 95)
    (.seq (.reg [mc 0 4 (.bool true)] [4])
    (.ret))
    (.skip)))
  (.seq (.any (.one (ld 0 97 5 true 2) true false <|
      on1 (mv 1 98 1) <|
      on1 (mv 2 99 1) <|
      on1 (oo 3 100 (.len false (.t 99))) <|
      on1 (bc 4 101 .sub 100 (.int .i64 1)) <|
      on1 (oo 5 102 (.slV 4 (.t 98) none (some (.t 101)) none)) <|
      .two (oc 6 103 14 [.t 97,.t 102]) false (on1 (mv 7 96 103) <|
      on1 (oo 8 104 (.ext (.t 96) 0)) <|
      on1 (oo 9 105 (.ext (.t 96) 1)) <|
      .one (oo 10 9 (.alloc [.str [],.sl 1 [] .exact,.sl 4 [] .exact])) false true <|
      on1 ⟨11,none,none,.k (.store 3 (.t 9) (.t 104))⟩ <|
      on1 (mv 12 10 105) <|
      .done)
      (oo 10 9 (.alloc [.str [],.sl 1 [] .exact,.sl 4 [] .exact])) true (on1 (oc 6 103 14 [.t 97,.t 102]) <|
      on1 (mv 7 96 103) <|
      on1 (oo 8 104 (.ext (.t 96) 0)) <|
      on1 (oo 9 105 (.ext (.t 96) 1)) <|
      on1 ⟨11,none,none,.k (.store 3 (.t 9) (.t 104))⟩ <|
      on1 (mv 12 10 105) <|
      .done)) [2] [1,2,10])
  (.seq (.any (.one (ld 0 107 5 true 2) true false <|
      on1 (oo 1 108 (.mkSl 4 [.str [],.int .i64 0,.int .i64 0,.sl 3 [] .exact] [])) <|
      on1 (mv 2 109 1) <|
      on1 (mv 4 111 1) <|
      on1 (mv 5 112 1) <|
      on1 (oo 6 113 (.len false (.t 112))) <|
      on1 (bc 7 114 .sub 113 (.int .i64 1)) <|
      on1 (oo 8 115 (.iadr 4 (.t 111) (.t 114))) <|
      .one (ld 9 116 4 true 115) true false <|
      on1 (oo 10 117 (.mkSl 4 [.str [],.int .i64 0,.int .i64 0,.sl 3 [] .exact] [.t 116])) <|
      .two (oo 3 110 (.app 4 56 (.t 108) (.t 109))) true (.two (oo 11 118 (.app 4 56 (.t 110) (.t 117))) true (.two (oc 12 119 14 [.t 107,.t 118]) true (on1 (mv 13 106 119) <|
      on1 (oo 14 120 (.ext (.t 106) 0)) <|
      on1 (oo 15 121 (.ext (.t 106) 1)) <|
      .one (oo 16 11 (.alloc [.str [],.sl 1 [] .exact,.sl 4 [] .exact])) false true <|
      on1 ⟨17,none,none,.k (.store 3 (.t 11) (.t 120))⟩ <|
      on1 (mv 18 12 121) <|
      .done)
      (oo 16 11 (.alloc [.str [],.sl 1 [] .exact,.sl 4 [] .exact])) true (.one (oc 12 119 14 [.t 107,.t 118]) false true <|
      on1 (mv 13 106 119) <|
      on1 (oo 14 120 (.ext (.t 106) 0)) <|
      on1 (oo 15 121 (.ext (.t 106) 1)) <|
      on1 ⟨17,none,none,.k (.store 3 (.t 11) (.t 120))⟩ <|
      on1 (mv 18 12 121) <|
      .done))
      (oo 16 11 (.alloc [.str [],.sl 1 [] .exact,.sl 4 [] .exact])) true (.one (oo 11 118 (.app 4 56 (.t 110) (.t 117))) false true <|
      .one (oc 12 119 14 [.t 107,.t 118]) false true <|
      on1 (mv 13 106 119) <|
      on1 (oo 14 120 (.ext (.t 106) 0)) <|
      on1 (oo 15 121 (.ext (.t 106) 1)) <|
      on1 ⟨17,none,none,.k (.store 3 (.t 11) (.t 120))⟩ <|
      on1 (mv 18 12 121) <|
      .done))
      (oo 16 11 (.alloc [.str [],.sl 1 [] .exact,.sl 4 [] .exact])) true (.one (oo 3 110 (.app 4 56 (.t 108) (.t 109))) false true <|
      .one (oo 11 118 (.app 4 56 (.t 110) (.t 117))) false true <|
      .one (oc 12 119 14 [.t 107,.t 118]) false true <|
      on1 (mv 13 106 119) <|
      on1 (oo 14 120 (.ext (.t 106) 0)) <|
      on1 (oo 15 121 (.ext (.t 106) 1)) <|
      on1 ⟨17,none,none,.k (.store 3 (.t 11) (.t 120))⟩ <|
      on1 (mv 18 12 121) <|
      .done)) [2] [10,12])
  (.seq (.reg [mv 0 122 10,
      bc 1 123 .eql 122 (.int .i64 1),
      mv 2 124 123,
      gm 3 125 124 true 12,
      og 4 126 124 true (.bin .eql (.t 125) (.c (.int .i64 1))),
      oo 5 127 (.pick (.t 124) (.t 126) (.c (.bool false))),
      mv 6 4 127] [4])
  (.ret))))
def m7k5 : MC :=
  .seq (.seq (.reg [mc 0 8 (.int .i64 0)] [1,2,5,7,8])
  (.block 0
    (.loop m7l0)))
  (.named [1,2] m7k4)
def m7k6 : MC :=
  .seq (.reg [ld 0 25 5 true 2,
      mv 1 26 1,
      oc 2 27 14 [.t 25,.t 26],
      mv 3 24 27,
      oo 4 28 (.ext (.t 24) 0),
      oo 5 29 (.ext (.t 24) 1),
      oo 6 5 (.alloc [.str [],.sl 1 [] .exact,.sl 4 [] .exact]),
      ⟨7,none,none,.k (.store 3 (.t 5) (.t 28))⟩,
      mv 8 6 29] [1,2,5,6])
  (.seq (.seq (.reg [mv 0 30 6,
      bc 1 31 .neq 30 (.int .i64 0)] [1,2,5,31])
  (.cond (.t 31)
    (.seq (.reg [ld 0 32 3 true 5,
        oo 1 33 (.build [.str [],.sl 1 [] .exact,.sl 4 [] .exact] []),
        oc 2 34 16 [.t 32,.t 33],
        mv 3 4 34] [4])
    (.ret))
    (.skip)))
  (.seq (.reg [ld 0 35 5 true 2,
      oc 1 36 26 [.t 35],
      mv 2 7 36] [1,2,5,7])
  (.seq (.seq (.reg [mv 0 37 7,
      oo 1 38 (.len false (.t 37)),
      fa 2 39 2 5,
      ld 3 40 1 false 39,
      oo 4 41 (.len false (.t 40)),
      bi 5 42 .neq 38 41,
      mv 6 43 42,
      og 7 44 43 false (.fadr 0 (.t 5)),
      og 8 45 43 false (.load 1 false (.t 44)),
      og 9 46 43 false (.fadr 0 (.t 2)),
      og 10 47 43 false (.load 1 false (.t 46)),
      og 11 48 43 false (.bin .neq (.t 45) (.t 47)),
      oo 12 49 (.pick (.t 43) (.c (.bool true)) (.t 48)),
      mv 13 50 49,
      og 14 51 50 false (.fadr 1 (.t 5)),
      og 15 52 50 false (.load 1 false (.t 51)),
      og 16 53 50 false (.len false (.t 52)),
      og 17 54 50 false (.fadr 1 (.t 2)),
      og 18 55 50 false (.load 1 false (.t 54)),
      og 19 56 50 false (.len false (.t 55)),
      og 20 57 50 false (.bin .neq (.t 53) (.t 56)),
      oo 21 58 (.pick (.t 50) (.c (.bool true)) (.t 57))] [1,2,5,7,58])
  (.named [1,2,5,7,58] m7k1))
  (.named [1,2,5,7] m7k5))))
def m7 : MC :=
  .seq (.reg [oo 0 2 (.box (.t 0)),
      mc 1 4 (.bool false)] [1,2])
  (.seq (.seq (.reg [oc 0 13 11 [],
      oo 1 14 (.un .not (.t 13))] [1,2,14])
  (.cond (.t 14)
    (.seq (.reg [mc 0 4 (.bool false)] [4])
    (.ret))
    (.skip)))
  (.seq (.seq (.reg [ld 0 15 5 true 2,
      oc 1 16 12 [.t 15],
      oo 2 17 (.un .not (.t 16)),
      mv 3 18 17,
      gm 4 19 18 false 1,
      og 5 20 18 false (.build [.str [],.sl 1 [] .exact,.sl 4 [] .exact] [(2,1,.t 19)]),
      ⟨6,some 21,(some (18,false)),.call (.f 13) [.t 20]⟩,
      og 7 22 18 false (.un .not (.t 21)),
      oo 8 23 (.pick (.t 18) (.c (.bool true)) (.t 22))] [1,2,23])
  (.named [1,2,23] m7k0))
  (.named [1,2] m7k6)))
theorem is7 : FnIs Tryz.prog 7 128 m7 [.t 4] := .of Tryz.call7 Tryz.func7 (by kernel_rfl)
def m15l0 : MC :=
  .seq (.seq (.reg [mv 0 16 8,
      mv 1 17 1,
      oo 2 18 (.len false (.t 17)),
      bi 3 19 .lss 16 18] [1,2,4,6,7,8,19])
  (.cond (.t 19)
    (.skip)
    (.exit 0)))
  (.seq (.block 1
    (.reg [mv 0 22 7,
        mv 1 23 1,
        mv 2 24 8,
        oo 3 25 (.iadr 4 (.t 23) (.t 24)),
        fa 4 26 0 25,
        ld 5 27 3 true 26,
        oo 6 28 (.mkSl 3 [.str [],.int .i64 0,.int .i64 0] [.t 27]),
        oo 7 29 (.app 3 32 (.t 22) (.t 28)),
        mv 8 7 29] [1,2,4,6,7,8]))
  (.reg [mv 0 20 8,
      bc 1 21 .add 20 (.int .i64 1),
      mv 2 8 21] [1,2,4,6,7,8]))
def m15k0 : MC :=
  .cond (.t 44)
    (.seq (.reg [oo 0 45 (.build [.str [],.sl 1 [] .exact,.sl 4 [] .exact] []),
        ⟨1,none,none,.k (.store 3 (.t 4) (.t 45))⟩,
        mc 2 5 (.int .i64 1)] [4,5])
    (.ret))
    (.skip)
def m15k1 : MC :=
  .seq (.reg [ld 0 46 3 true 9,
      ⟨1,none,none,.k (.store 3 (.t 4) (.t 46))⟩,
      mc 2 5 (.int .i64 0)] [4,5])
  (.ret)
def m15k2 : MC :=
  .seq (.reg [fa 0 30 0 2,
      ld 1 31 1 false 30,
      fa 2 32 1 2,
      ld 3 33 1 false 32,
      mv 4 34 1,
      oo 5 35 (.build [.str [],.sl 1 [] .exact,.sl 4 [] .exact] [(0,1,.t 31),(1,1,.t 33),(2,1,.t 34)]),
      oo 6 9 (.alloc [.str [],.sl 1 [] .exact,.sl 4 [] .exact]),
      ⟨7,none,none,.k (.store 3 (.t 9) (.t 35))⟩] [4,6,7,9])
  (.seq (.seq (.reg [mv 0 36 6,
      mv 1 37 7,
      oc 2 38 42 [.t 36,.t 37],
      oo 3 39 (.un .not (.t 38)),
      mv 4 40 39,
      og 5 41 40 false (.load 3 true (.t 9)),
      ⟨6,some 42,(some (40,false)),.call (.f 22) [.t 41]⟩,
      og 7 43 40 false (.un .not (.t 42)),
      oo 8 44 (.pick (.t 40) (.c (.bool true)) (.t 43))] [4,9,44])
  (.named [4,9,44] m15k0))
  (.named [4,9] m15k1))
def m15 : MC :=
  .seq (.reg [oo 0 2 (.box (.t 0)),
      oo 1 4 (.alloc [.str [],.sl 1 [] .exact,.sl 4 [] .exact]),
      mc 2 5 (.int .i64 0)] [1,2,4])
  (.seq (.seq (.reg [ld 0 10 5 true 2,
      oc 1 11 40 [.t 10],
      oo 2 12 (.un .not (.t 11))] [1,2,4,12])
  (.cond (.t 12)
    (.seq (.reg [oo 0 13 (.build [.str [],.sl 1 [] .exact,.sl 4 [] .exact] []),
        ⟨1,none,none,.k (.store 3 (.t 4) (.t 13))⟩,
        mc 2 5 (.int .i64 240)] [4,5])
    (.ret))
    (.skip)))
  (.seq (.reg [ld 0 14 5 true 2,
      oc 1 15 41 [.t 14],
      mv 2 6 15] [1,2,4,6])
  (.seq (.reg [mc 0 7 (.sl 3 [] .exact)] [1,2,4,6,7])
  (.seq (.seq (.reg [mc 0 8 (.int .i64 0)] [1,2,4,6,7,8])
  (.block 0
    (.loop m15l0)))
  (.named [1,2,4,6,7] m15k2)))))
theorem is15 : FnIs Tryz.prog 15 47 m15 [.c 4 3 true,.t 5] := .of Tryz.call15 Tryz.func15 (by kernel_rfl)
def m26r0 : MC :=
  .reg [oo 0 3 (.alloc [.str [],.int .i64 0,.int .i64 0]),
      ⟨1,none,none,.k (.store 3 (.t 3) (.t 6))⟩] [2,3]
def m26r1 : MC :=
  .block 1
    (.reg [ld 0 7 1 false 2,
        ld 1 8 3 true 3,
        oo 2 9 (.mkSl 3 [.str [],.int .i64 0,.int .i64 0] [.t 8]),
        oo 3 10 (.app 3 32 (.t 7) (.t 9)),
        ⟨4,none,none,.k (.store 1 (.t 2) (.t 10))⟩] [])
def m26 : MC :=
  .seq (.reg [oo 0 1 (.box (.t 0)),
      oo 1 2 (.alloc [.sl 3 [] .exact])] [1,2])
  (.seq (.seq (.reg [ld 0 4 5 true 1,
      oc 1 5 74 [.t 4]] [2,5])
  (.block 0
    (.rfn (.t 5) [6] m26r0 m26r1)))
  (.seq (.reg [ld 0 11 1 false 2,
      ⟨1,none,none,.k (.store 1 (.t 2) (.t 11))⟩] [2])
  (.ret)))
theorem is26 : FnIs Tryz.prog 26 12 m26 [.c 2 1 false] := .of Tryz.call26 Tryz.func26 (by kernel_rfl)
def m41k0 : MC :=
  .reg [mv 0 13 5,
      bc 1 14 .add 13 (.int .i64 1),
      mv 2 5 14] [1,3,4,5]
def m41l0 : MC :=
  .seq (.seq (.reg [mv 0 9 5,
      mv 1 10 3,
      oo 2 11 (.len false (.t 10)),
      bi 3 12 .lss 9 11] [1,3,4,5,12])
  (.cond (.t 12)
    (.skip)
    (.exit 0)))
  (.seq (.block 1
    (.seq (.any (on1 (fa 0 15 3 1) <|
        .one (ld 1 16 1 false 15) true false <|
        on1 (mv 2 17 3) <|
        on1 (mv 3 18 5) <|
        on1 (oo 4 19 (.iadr 3 (.t 17) (.t 18))) <|
        .one (ld 5 20 3 true 19) true false <|
        on1 (fa 7 22 4 1) <|
        .one (ld 8 23 1 false 22) true false <|
        .one (oc 6 21 104 [.t 20]) false true <|
        .one (oc 9 24 103 [.t 16,.t 21,.t 23]) false true <|
        .done) [1] [1,3,4,5,24])
    (.cond (.t 24)
      (.reg [mv 0 25 4,
          mv 1 26 3,
          mv 2 27 5,
          oo 3 28 (.iadr 3 (.t 26) (.t 27)),
          ld 4 29 3 true 28,
          oo 5 30 (.mkSl 3 [.str [],.int .i64 0,.int .i64 0] [.t 29]),
          oo 6 31 (.app 3 32 (.t 25) (.t 30)),
          mv 7 4 31] [1,3,4,5])
      (.skip))))
  (.named [1,3,4,5] m41k0))
def m41k1 : MC :=
  .seq (.reg [mv 0 32 4,
      mv 1 2 32] [2])
  (.ret)
def m41 : MC :=
  .seq (.reg [oo 0 1 (.box (.t 0)),
      mc 1 2 (.sl 3 [] .exact)] [1])
  (.seq (.reg [fa 0 6 2 1,
      ld 1 7 1 false 6,
      oc 2 8 102 [.t 7],
      mv 3 3 8] [1,3])
  (.seq (.reg [mc 0 4 (.sl 3 [] .exact)] [1,3,4])
  (.seq (.seq (.reg [mc 0 5 (.int .i64 0)] [1,3,4,5])
  (.block 0
    (.loop m41l0)))
  (.named [4] m41k1))))
theorem is41 : FnIs Tryz.prog 41 33 m41 [.t 2] := .of Tryz.call41 Tryz.func41 (by kernel_rfl)
def m74 : MC :=
  .seq (.reg [oo 0 1 (.box (.t 0)),
      mc 1 2 (.nilf)] [1])
  (.seq (.reg [oo 0 3 (.func (.func 123) [] [.t 1]),
      mv 1 2 3] [2])
  (.ret))
theorem is74 : FnIs Tryz.prog 74 4 m74 [.t 2] := .of Tryz.call74 Tryz.func74 (by kernel_rfl)
def m102k0 : MC :=
  .cond (.t 27)
    (.skip)
    (.exit 2)
def m102k1 : MC :=
  .block 3
    (.reg [mv 0 28 5,
        bc 1 29 .add 28 (.int .i64 1),
        mv 2 5 29] [0,3,4,5])
def m102l0 : MC :=
  .seq (.seq (.any (on1 (mv 0 13 5) <|
      on1 (mv 1 14 3) <|
      on1 (oo 2 15 (.len false (.t 14))) <|
      on1 (bi 3 16 .lss 13 15) <|
      on1 (mv 4 17 16) <|
      on1 (gm 5 18 17 true 3) <|
      on1 (gm 6 19 17 true 5) <|
      on1 (og 7 20 17 true (.iadr 3 (.t 18) (.t 19))) <|
      on1 (og 8 21 17 true (.load 3 true (.t 20))) <|
      on1 (gm 9 22 17 true 0) <|
      on1 (gm 10 23 17 true 4) <|
      on1 (og 11 24 17 true (.iadr 3 (.t 22) (.t 23))) <|
      on1 (og 12 25 17 true (.load 3 true (.t 24))) <|
      on1 ⟨13,some 26,(some (17,true)),.call (.f 27) [.t 21,.t 25]⟩ <|
      on1 (oo 14 27 (.pick (.t 17) (.t 26) (.c (.bool false)))) <|
      .done) [] [0,3,4,5,27])
  (.named [0,3,4,5,27] m102k0))
  (.named [0,3,4,5] m102k1)
def m102k2 : MC :=
  .cond (.t 44)
    (.exit 1)
    (.skip)
def m102k3 : MC :=
  .seq (.reg [oo 0 45 (.mkSl 3 [.str [],.int .i64 0,.int .i64 0] []),
      mv 1 46 3,
      mv 2 47 5,
      oo 3 48 (.slV 3 (.t 46) none (some (.t 47)) none),
      oo 4 49 (.app 3 32 (.t 45) (.t 48)),
      mv 5 6 49] [0,3,4,5,6])
  (.seq (.reg [mv 0 50 6,
      mv 1 51 0,
      mv 2 52 4,
      oo 3 53 (.iadr 3 (.t 51) (.t 52)),
      ld 4 54 3 true 53,
      oo 5 55 (.mkSl 3 [.str [],.int .i64 0,.int .i64 0] [.t 54]),
      oo 6 56 (.app 3 32 (.t 50) (.t 55)),
      mv 7 6 56] [0,3,4,5,6])
  (.reg [mv 0 57 6,
      mv 1 58 3,
      mv 2 59 5,
      oo 3 60 (.slV 3 (.t 58) (some (.t 59)) none none),
      oo 4 61 (.app 3 32 (.t 57) (.t 60)),
      mv 5 3 61] [0,3,4]))
def m102k4 : MC :=
  .seq (.seq (.any (on1 (mv 0 30 5) <|
      on1 (mv 1 31 3) <|
      on1 (oo 2 32 (.len false (.t 31))) <|
      on1 (bi 3 33 .lss 30 32) <|
      on1 (mv 4 34 33) <|
      on1 (gm 5 35 34 true 3) <|
      on1 (gm 6 36 34 true 5) <|
      on1 (og 7 37 34 true (.iadr 3 (.t 35) (.t 36))) <|
      on1 (og 8 38 34 true (.load 3 true (.t 37))) <|
      on1 (gm 9 39 34 true 0) <|
      on1 (gm 10 40 34 true 4) <|
      on1 (og 11 41 34 true (.iadr 3 (.t 39) (.t 40))) <|
      on1 (og 12 42 34 true (.load 3 true (.t 41))) <|
      on1 (og 13 43 34 true (.eqv [.s,.i,.i] false (.t 38) (.t 42))) <|
      on1 (oo 14 44 (.pick (.t 34) (.t 43) (.c (.bool false)))) <|
      .done) [] [0,3,4,5,44])
  (.named [0,3,4,5,44] m102k2))
  (.named [0,3,4,5] m102k3)
def m102k5 : MC :=
  .reg [mv 0 11 4,
      bc 1 12 .add 11 (.int .i64 1),
      mv 2 4 12] [0,3,4]
def m102l1 : MC :=
  .seq (.seq (.reg [mv 0 7 4,
      mv 1 8 0,
      oo 2 9 (.len false (.t 8)),
      bi 3 10 .lss 7 9] [0,3,4,10])
  (.cond (.t 10)
    (.skip)
    (.exit 0)))
  (.seq (.block 1
    (.seq (.reg [mc 0 5 (.int .i64 0)] [0,3,4,5])
    (.seq (.block 2
      (.loop m102l0))
    (.named [0,3,4,5] m102k4))))
  (.named [0,3,4] m102k5))
def m102k6 : MC :=
  .seq (.reg [mv 0 62 3,
      mv 1 2 62] [2])
  (.ret)
def m102 : MC :=
  .seq (.reg [mc 0 2 (.sl 3 [] .exact)] [0])
  (.seq (.reg [mc 0 3 (.sl 3 [] .exact)] [0,3])
  (.seq (.seq (.reg [mc 0 4 (.int .i64 0)] [0,3,4])
  (.block 0
    (.loop m102l1)))
  (.named [3] m102k6)))
theorem is102 : FnIs Tryz.prog 102 63 m102 [.t 2] := .of Tryz.call102 Tryz.func102 (by kernel_rfl)
def m103 : MC :=
  .seq (.reg [mc 0 6 (.bool false)] [0,1,2])
  (.seq (.reg [mv 0 7 0,
      oo 1 8 (.conv .u64 (.t 7)),
      mv 2 9 1,
      oc 3 10 85 [.t 8,.t 9],
      bc 4 11 .rem 10 (.int .u64 1000),
      oo 5 12 (.conv .i64 (.t 11)),
      mv 6 13 2,
      bi 7 14 .lss 12 13,
      mv 8 6 14] [6])
  (.ret))
theorem is103 : FnIs Tryz.prog 103 15 m103 [.t 6] := .of Tryz.call103 Tryz.func103 (by kernel_rfl)
def m104 : MC :=
  .seq (.reg [oo 0 1 (.box (.t 0)),
      mc 1 2 (.sl 1 [] .exact)] [1])
  (.seq (.reg [fa 0 4 0 1,
      ld 1 5 1 false 4,
      ⟨2,some 6,none,.call (.f 165) [.c (.sl 1 [] .exact),.t 5]⟩,
      mv 3 3 6] [1,3])
  (.seq (.reg [mv 0 7 3,
      fa 1 8 1 1,
      ld 2 9 1 false 8,
      oc 3 10 166 [.t 7,.t 9],
      mv 4 3 10] [1,3])
  (.seq (.reg [mv 0 11 3,
      fa 1 12 2 1,
      ld 2 13 1 false 12,
      oc 3 14 166 [.t 11,.t 13],
      mv 4 2 14] [2])
  (.ret))))
theorem is104 : FnIs Tryz.prog 104 15 m104 [.t 2] := .of Tryz.call104 Tryz.func104 (by kernel_rfl)
def m125 : MC :=
  .seq (.reg [mc 0 6 (.bool false)] [0,1,2])
  (.seq (.reg [mv 0 7 0,
      oo 1 8 (.conv .u64 (.t 7)),
      mv 2 9 1,
      oc 3 10 84 [.t 8,.t 9],
      bc 4 11 .rem 10 (.int .u64 1000),
      oo 5 12 (.conv .i64 (.t 11)),
      mv 6 13 2,
      bi 7 14 .lss 12 13,
      mv 8 6 14] [6])
  (.ret))
theorem is125 : FnIs Tryz.prog 125 15 m125 [.t 6] := .of Tryz.call125 Tryz.func125 (by kernel_rfl)
def m126 : MC :=
  .seq (.reg [oo 0 3 (.box (.t 1)),
      mc 1 4 (.sl 1 [] .exact)] [0,3])
  (.seq (.any (on1 (mv 0 5 0) <|
      on1 (fa 1 6 0 3) <|
      .one (ld 2 7 1 false 6) true false <|
      on1 (fa 4 9 1 3) <|
      .one (ld 5 10 1 false 9) true false <|
      on1 (fa 7 12 2 3) <|
      .one (ld 8 13 1 false 12) true false <|
      .one (oc 3 8 58 [.t 5,.t 7]) false true <|
      .one (oc 6 11 60 [.t 8,.t 10]) false true <|
      .one (oc 9 14 60 [.t 11,.t 13]) false true <|
      on1 (mv 10 4 14) <|
      .done) [3] [4])
  (.ret))
theorem is126 : FnIs Tryz.prog 126 15 m126 [.t 4] := .of Tryz.call126 Tryz.func126 (by kernel_rfl)
def m165 : MC :=
  .seq (.reg [mc 0 4 (.sl 1 [] .exact)] [0,1])
  (.seq (.reg [mv 0 5 0,
      mv 1 6 1,
      oc 2 7 129 [.t 6],
      oc 3 8 133 [.t 5,.t 7],
      mv 4 4 8] [4])
  (.ret))
theorem is165 : FnIs Tryz.prog 165 9 m165 [.t 4] := .of Tryz.call165 Tryz.func165 (by kernel_rfl)
def m166 : MC :=
  .seq (.reg [mc 0 4 (.sl 1 [] .exact)] [0,1])
  (.seq (.reg [mv 0 5 0,
      mv 1 6 1,
      oc 2 7 130 [.t 6],
      oc 3 8 133 [.t 5,.t 7],
      mv 4 4 8] [4])
  (.ret))
theorem is166 : FnIs Tryz.prog 166 9 m166 [.t 4] := .of Tryz.call166 Tryz.func166 (by kernel_rfl)
def m177 : MC :=
  .seq (.reg [mc 0 2 (.sl 3 [] .exact)] [0])
  (.seq (.seq (.reg [mv 0 3 0,
      oo 1 4 (.nn 23 false (.t 3))] [0,4])
  (.cond (.t 4)
    (.seq (.reg [mc 0 2 (.sl 3 [] .exact)] [2])
    (.ret))
    (.skip)))
  (.seq (.reg [oo 0 5 (.mkSl 3 [.str [],.int .i64 0,.int .i64 0] []),
      mv 1 6 0,
      oo 2 7 (.appO 3 32 (.t 5) (.t 6)),
      mv 3 2 7] [2])
  (.ret)))
theorem is177 : FnIs Tryz.prog 177 8 m177 [.t 2] := .of Tryz.call177 Tryz.func177 (by kernel_rfl)
end Go.Proofs.YtdjdhecanjmchaaGreatDoor
