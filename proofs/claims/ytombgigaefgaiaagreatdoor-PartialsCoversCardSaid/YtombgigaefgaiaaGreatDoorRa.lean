/- The functions of the seat in the small language (printed by a program), and that each is the program's. -/
import Derived.Test.YtombgigaefgaiaaGreatDoorProg
import Derived.Test.YtombgigaefgaiaaGreatDoorVr
import Derived.KernelRfl
set_option linter.unusedSimpArgs false
set_option linter.unusedVariables false
namespace Go.Proofs.YtombgigaefgaiaaGreatDoor
open Go Go.V
def m3k0 : MC :=
  .cond (.t 42)
    (.seq (.reg [mc 0 4 (.bool false)] [4])
    (.ret))
    (.skip)
def m3k1 : MC :=
  .cond (.t 50)
    (.seq (.reg [mv 0 51 7,
        oo 1 52 (.len false (.t 51)),
        bc 2 53 .eql 52 (.int .i64 0),
        mv 3 4 53] [4])
    (.ret))
    (.skip)
def m3k2 : MC :=
  .cond (.t 74)
    (.seq (.reg [mc 0 4 (.bool false)] [4])
    (.ret))
    (.skip)
def m3l0 : MC :=
  .seq (.seq (.reg [mv 0 75 12,
      mv 1 76 7,
      oo 2 77 (.len false (.t 76)),
      bi 3 78 .lss 75 77] [1,2,7,11,12,78])
  (.cond (.t 78)
    (.skip)
    (.exit 0)))
  (.seq (.block 1
    (.seq (.any (on1 (mv 0 81 7) <|
        on1 (mv 1 82 12) <|
        on1 (oo 2 83 (.iadr 2 (.t 81) (.t 82))) <|
        on1 (fa 3 84 1 83) <|
        on1 (ld 4 85 1 false 84) <|
        on1 (mv 5 86 7) <|
        on1 (mv 6 87 12) <|
        on1 (oo 7 88 (.iadr 2 (.t 86) (.t 87))) <|
        on1 (fa 8 89 0 88) <|
        on1 (ld 9 90 1 false 89) <|
        on1 (bi 10 91 .sub 85 90) <|
        on1 (bc 11 92 .add 91 (.int .i64 1)) <|
        on1 (mv 12 93 1) <|
        on1 (bi 13 94 .geq 92 93) <|
        .done) [] [1,2,7,11,12,94])
    (.cond (.t 94)
      (.seq (.reg [mc 0 4 (.bool false)] [4])
      (.ret))
      (.skip))))
  (.reg [mv 0 79 12,
      bc 1 80 .add 79 (.int .i64 1),
      mv 2 12 80] [1,2,7,11,12]))
def m3k3 : MC :=
  .seq (.reg [mc 0 12 (.int .i64 0)] [1,2,7,11,12])
  (.block 0
    (.loop m3l0))
def m3k4 : MC :=
  .seq (.any (on1 (mv 0 95 11) <|
      .one (ld 2 97 2 true 2) true false <|
      on1 (oo 3 98 (.mkSl 2 [.int .i64 0,.int .i64 0] [.t 97])) <|
      .one (oc 1 96 10 [.t 95]) false true <|
      .one (oc 4 99 7 [.t 96,.t 98]) false true <|
      on1 (mv 5 4 99) <|
      .done) [2] [4])
  (.ret)
def m3k5 : MC :=
  .seq (.reg [mv 0 54 7,
      mv 1 11 54] [1,2,5,6,7,11])
  (.seq (.seq (.reg [mv 0 55 6] [1,2,5,7,11,55])
  (.cond (.t 55)
    (.seq (.any (on1 (oo 0 56 (.mkSl 2 [.int .i64 0,.int .i64 0] [])) <|
        on1 (mv 1 57 7) <|
        .one (ld 3 59 2 true 5) true false <|
        on1 (oo 4 60 (.mkSl 2 [.int .i64 0,.int .i64 0] [.t 59])) <|
        .one (oo 2 58 (.app 2 16 (.t 56) (.t 57))) false true <|
        .one (oo 5 61 (.app 2 16 (.t 58) (.t 60))) false true <|
        on1 (mv 6 11 61) <|
        .done) [5] [1,2,5,7,11])
    (.seq (.seq (.reg [fa 0 62 0 5,
        ld 1 63 1 false 62,
        mv 2 64 1,
        bi 3 65 .rem 63 64,
        bc 4 66 .neq 65 (.int .i64 0),
        mv 5 67 66,
        og 6 68 67 false (.fadr 1 (.t 5)),
        og 7 69 67 false (.load 1 false (.t 68)),
        og 8 70 67 false (.bin .add (.t 69) (.c (.int .i64 1))),
        gm 9 71 67 false 1,
        og 10 72 67 false (.bin .rem (.t 70) (.t 71)),
        og 11 73 67 false (.bin .neq (.t 72) (.c (.int .i64 0))),
        oo 12 74 (.pick (.t 67) (.c (.bool true)) (.t 73))] [1,2,7,11,74])
    (.named [1,2,7,11,74] m3k2))
    (.named [1,2,7,11] m3k3)))
    (.skip)))
  (.named [2,11] m3k4))
def m3k6 : MC :=
  .seq (.seq (.reg [ld 0 43 2 true 2,
      oc 1 44 8 [.t 43],
      oo 2 45 (.un .not (.t 44)),
      mv 3 46 45,
      gm 4 47 46 false 1,
      ⟨5,some 48,(some (46,false)),.call (.f 9) [.t 47]⟩,
      og 6 49 46 false (.un .not (.t 48)),
      oo 7 50 (.pick (.t 46) (.c (.bool true)) (.t 49))] [1,2,5,6,7,50])
  (.named [1,2,5,6,7,50] m3k1))
  (.named [1,2,5,6,7] m3k5)
def m3 : MC :=
  .seq (.reg [oo 0 2 (.box (.t 0)),
      mc 1 4 (.bool false)] [1,2])
  (.seq (.seq (.reg [oc 0 13 4 [],
      oo 1 14 (.un .not (.t 13))] [1,2,14])
  (.cond (.t 14)
    (.seq (.reg [mc 0 4 (.bool false)] [4])
    (.ret))
    (.skip)))
  (.seq (.reg [ld 0 16 2 true 2,
      mv 1 17 1,
      oc 2 18 5 [.t 16,.t 17],
      mv 3 15 18,
      oo 4 19 (.ext (.t 15) 0),
      oo 5 20 (.ext (.t 15) 1),
      oo 6 21 (.ext (.t 15) 2),
      oo 7 5 (.alloc [.int .i64 0,.int .i64 0]),
      ⟨8,none,none,.k (.store 2 (.t 5) (.t 19))⟩,
      mv 9 6 20,
      mv 10 7 21] [1,2,5,6,7])
  (.seq (.reg [ld 0 23 2 true 2,
      mv 1 24 1,
      oc 2 25 6 [.t 23,.t 24],
      mv 3 22 25,
      oo 4 26 (.ext (.t 22) 0),
      oo 5 27 (.ext (.t 22) 1),
      oo 6 28 (.ext (.t 22) 2),
      oo 7 8 (.alloc [.int .i64 0,.int .i64 0]),
      ⟨8,none,none,.k (.store 2 (.t 8) (.t 26))⟩,
      mv 9 9 27,
      mv 10 10 28] [1,2,5,6,7,8,9,10])
  (.seq (.seq (.reg [ld 0 29 2 true 5,
      ld 1 30 2 true 8,
      oo 2 31 (.eqv [.i,.i] true (.t 29) (.t 30)),
      mv 3 32 31,
      gm 4 33 32 false 6,
      gm 5 34 32 false 9,
      og 6 35 32 false (.cmp 0 true (.t 33) (.t 34)),
      oo 7 36 (.pick (.t 32) (.c (.bool true)) (.t 35)),
      mv 8 37 36,
      gm 9 38 37 false 7,
      gm 10 39 37 false 10,
      ⟨11,some 40,(some (37,false)),.call (.f 7) [.t 38,.t 39]⟩,
      og 12 41 37 false (.un .not (.t 40)),
      oo 13 42 (.pick (.t 37) (.c (.bool true)) (.t 41))] [1,2,5,6,7,42])
  (.named [1,2,5,6,7,42] m3k0))
  (.named [1,2,5,6,7] m3k6)))))
theorem is3 : FnIs Tryz.prog 3 100 m3 [.t 4] := .of Tryz.call3 Tryz.func3 (by kernel_rfl)
def m6k0 : MC :=
  .cond (.t 17)
    (.seq (.reg [oo 0 18 (.build [.int .i64 0,.int .i64 0] []),
        ⟨1,none,none,.k (.store 2 (.t 4) (.t 18))⟩,
        mc 2 5 (.bool false),
        mc 3 6 (.sl 2 [] .exact)] [4,5,6])
    (.ret))
    (.skip)
def m6k1 : MC :=
  .seq (.reg [mv 0 66 7,
      mv 1 67 8,
      oo 2 68 (.build [.int .i64 0,.int .i64 0] [(0,1,.t 66),(1,1,.t 67)]),
      mv 3 69 9,
      ⟨4,none,none,.k (.store 2 (.t 4) (.t 68))⟩,
      mc 5 5 (.bool true),
      mv 6 6 69] [4,5,6])
  (.ret)
def m6k2 : MC :=
  .seq (.seq (.reg [mv 0 54 8,
      fa 1 55 1 2,
      ld 2 56 1 false 55,
      bi 3 57 .lss 54 56] [2,4,7,8,9,57])
  (.cond (.t 57)
    (.reg [mv 0 58 9,
        mv 1 59 8,
        bc 2 60 .add 59 (.int .i64 1),
        fa 3 61 1 2,
        ld 4 62 1 false 61,
        oo 5 63 (.build [.int .i64 0,.int .i64 0] [(0,1,.t 60),(1,1,.t 62)]),
        oo 6 64 (.mkSl 2 [.int .i64 0,.int .i64 0] [.t 63]),
        oo 7 65 (.app 2 16 (.t 58) (.t 64)),
        mv 8 9 65] [4,7,8,9])
    (.skip)))
  (.named [4,7,8,9] m6k1)
def m6k3 : MC :=
  .seq (.reg [fa 0 19 0 2,
      ld 1 20 1 false 19,
      mv 2 21 1,
      bi 3 22 .add 20 21,
      bc 4 23 .sub 22 (.int .i64 1),
      mv 5 24 1,
      bi 6 25 .quo 23 24,
      mv 7 26 1,
      bi 8 27 .mul 25 26,
      mv 9 7 27] [1,2,4,7])
  (.seq (.reg [fa 0 28 1 2,
      ld 1 29 1 false 28,
      bc 2 30 .add 29 (.int .i64 1),
      mv 3 31 1,
      bi 4 32 .quo 30 31,
      mv 5 33 1,
      bi 6 34 .mul 32 33,
      bc 7 35 .sub 34 (.int .i64 1),
      mv 8 8 35] [2,4,7,8])
  (.seq (.seq (.reg [mv 0 36 7,
      mv 1 37 8,
      bi 2 38 .gtr 36 37] [2,4,7,8,38])
  (.cond (.t 38)
    (.seq (.any (on1 (oo 0 39 (.build [.int .i64 0,.int .i64 0] [])) <|
        .one (ld 1 40 2 true 2) true false <|
        on1 (oo 2 41 (.mkSl 2 [.int .i64 0,.int .i64 0] [.t 40])) <|
        .one ⟨3,none,none,.k (.store 2 (.t 4) (.t 39))⟩ false true <|
        on1 (mc 4 5 (.bool false)) <|
        on1 (mv 5 6 41) <|
        .done) [2] [4,5,6])
    (.ret))
    (.skip)))
  (.seq (.reg [mc 0 9 (.sl 2 [] .exact)] [2,4,7,8,9])
  (.seq (.seq (.reg [fa 0 42 0 2,
      ld 1 43 1 false 42,
      mv 2 44 7,
      bi 3 45 .lss 43 44] [2,4,7,8,9,45])
  (.cond (.t 45)
    (.reg [mv 0 46 9,
        fa 1 47 0 2,
        ld 2 48 1 false 47,
        mv 3 49 7,
        bc 4 50 .sub 49 (.int .i64 1),
        oo 5 51 (.build [.int .i64 0,.int .i64 0] [(0,1,.t 48),(1,1,.t 50)]),
        oo 6 52 (.mkSl 2 [.int .i64 0,.int .i64 0] [.t 51]),
        oo 7 53 (.app 2 16 (.t 46) (.t 52)),
        mv 8 9 53] [2,4,7,8,9])
    (.skip)))
  (.named [2,4,7,8,9] m6k2)))))
def m6 : MC :=
  .seq (.reg [oo 0 2 (.box (.t 0)),
      oo 1 4 (.alloc [.int .i64 0,.int .i64 0]),
      mc 2 5 (.bool false),
      mc 3 6 (.sl 2 [] .exact)] [1,2,4])
  (.seq (.seq (.reg [ld 0 10 2 true 2,
      oc 1 11 8 [.t 10],
      oo 2 12 (.un .not (.t 11)),
      mv 3 13 12,
      gm 4 14 13 false 1,
      ⟨5,some 15,(some (13,false)),.call (.f 9) [.t 14]⟩,
      og 6 16 13 false (.un .not (.t 15)),
      oo 7 17 (.pick (.t 13) (.c (.bool true)) (.t 16))] [1,2,4,17])
  (.named [1,2,4,17] m6k0))
  (.named [1,2,4] m6k3))
theorem is6 : FnIs Tryz.prog 6 70 m6 [.c 4 2 true,.t 5,.t 6] := .of Tryz.call6 Tryz.func6 (by kernel_rfl)
def m8 : MC :=
  .seq (.reg [oo 0 1 (.box (.t 0)),
      mc 1 2 (.bool false)] [1])
  (.seq (.reg [fa 0 3 0 1,
      ld 1 4 1 false 3,
      bc 2 5 .geq 4 (.int .i64 0),
      mv 3 6 5,
      og 4 7 6 true (.fadr 1 (.t 1)),
      og 5 8 6 true (.load 1 false (.t 7)),
      og 6 9 6 true (.fadr 0 (.t 1)),
      og 7 10 6 true (.load 1 false (.t 9)),
      og 8 11 6 true (.bin .geq (.t 8) (.t 10)),
      oo 9 12 (.pick (.t 6) (.t 11) (.c (.bool false))),
      mv 10 13 12,
      og 11 14 13 true (.fadr 1 (.t 1)),
      og 12 15 13 true (.load 1 false (.t 14)),
      og 13 16 13 true (.bin .leq (.t 15) (.c (.int .i64 1099511627776))),
      oo 14 17 (.pick (.t 13) (.t 16) (.c (.bool false))),
      mv 15 2 17] [2])
  (.ret))
theorem is8 : FnIs Tryz.prog 8 18 m8 [.t 2] := .of Tryz.call8 Tryz.func8 (by kernel_rfl)
def m9 : MC :=
  .seq (.reg [mc 0 2 (.bool false)] [0])
  (.seq (.reg [mv 0 3 0,
      bc 1 4 .geq 3 (.int .i64 1),
      mv 2 5 4,
      gm 3 6 5 true 0,
      og 4 7 5 true (.bin .leq (.t 6) (.c (.int .i64 1099511627776))),
      oo 5 8 (.pick (.t 5) (.t 7) (.c (.bool false))),
      mv 6 2 8] [2])
  (.ret))
theorem is9 : FnIs Tryz.prog 9 9 m9 [.t 2] := .of Tryz.call9 Tryz.func9 (by kernel_rfl)
def m10k0 : MC :=
  .reg [bc 0 19 .add 8 (.int .i64 1),
      mv 1 8 19] [3,6,7,8]
def m10l0 : MC :=
  .seq (.reg [bi 0 9 .lss 8 7] [3,6,7,8,9])
  (.seq (.cond (.t 9)
    (.skip)
    (.exit 0))
  (.seq (.block 1
    (.seq (.reg [oo 0 10 (.iadr 2 (.t 6) (.t 8)),
        ld 1 11 2 true 10,
        oo 2 5 (.alloc [.int .i64 0,.int .i64 0]),
        ⟨3,none,none,.k (.store 2 (.t 5) (.t 11))⟩] [3,5,6,7,8])
    (.seq (.reg [ld 0 12 2 true 5,
        oc 1 13 18 [.t 12],
        bc 2 14 .eql 13 (.int .i64 0)] [3,5,6,7,8,14])
    (.cond (.t 14)
      (.reg [mv 0 15 3,
          ld 1 16 2 true 5,
          oo 2 17 (.mkSl 2 [.int .i64 0,.int .i64 0] [.t 16]),
          oo 3 18 (.appG 2 16 (.t 15) (.t 17)),
          mv 4 3 18] [3,6,7,8])
      (.skip)))))
  (.named [3,6,7,8] m10k0)))
def m10k1 : MC :=
  .seq (.reg [mv 0 20 3,
      oc 1 21 20 [.t 20,.f 21]] [3])
  (.seq (.reg [mv 0 22 3,
      oc 1 23 22 [.t 22,.f 23],
      mv 2 2 23] [2])
  (.ret))
def m10 : MC :=
  .seq (.reg [mc 0 2 (.sl 2 [] .exact)] [0])
  (.seq (.reg [mc 0 3 (.sl 2 [] .exact)] [0,3])
  (.seq (.seq (.reg [mv 0 6 0,
      oo 1 7 (.len false (.t 6)),
      mc 2 8 (.int .i64 0)] [3,6,7,8])
  (.block 0
    (.loop m10l0)))
  (.named [3] m10k1)))
theorem is10 : FnIs Tryz.prog 10 24 m10 [.t 2] := .of Tryz.call10 Tryz.func10 (by kernel_rfl)
def m20 : MC :=
  .seq (.reg [mv 0 5 0,
      oo 1 6 (.len false (.t 5)),
      mv 2 4 6] [0,1,4])
  (.reg [mv 0 7 0,
      mv 1 8 4,
      mv 2 9 4,
      oo 3 10 (.conv .u64 (.t 9)),
      oc 4 11 38 [.t 10],
      mv 5 12 1,
      oc 6 13 37 [.t 7,.c (.int .i64 0),.t 8,.t 11,.t 12]] [])
theorem is20 : FnIs Tryz.prog 20 14 m20 [] := .of Tryz.call20 Tryz.func20 (by kernel_rfl)
def m21 : MC :=
  .seq (.reg [oo 0 2 (.box (.t 0)),
      oo 1 3 (.box (.t 1)),
      mc 2 4 (.int .i64 0)] [2,3])
  (.seq (.reg [fa 0 5 0 2,
      ld 1 6 1 false 5,
      fa 2 7 0 3,
      ld 3 8 1 false 7,
      bi 4 9 .sub 6 8,
      mv 5 4 9] [4])
  (.ret))
theorem is21 : FnIs Tryz.prog 21 10 m21 [.t 4] := .of Tryz.call21 Tryz.func21 (by kernel_rfl)
def m22k0 : MC :=
  .reg [mv 0 38 5,
      ld 1 39 2 true 7,
      oo 2 40 (.mkSl 2 [.int .i64 0,.int .i64 0] [.t 39]),
      oo 3 41 (.appG 2 16 (.t 38) (.t 40)),
      mv 4 5 41] [1,5,11,12,13]
def m22k1 : MC :=
  .reg [bc 0 42 .add 13 (.int .i64 1),
      mv 1 13 42] [1,5,11,12,13]
def m22l0 : MC :=
  .seq (.reg [bi 0 14 .lss 13 12] [1,5,11,12,13,14])
  (.seq (.cond (.t 14)
    (.skip)
    (.exit 0))
  (.seq (.block 1
    (.seq (.reg [oo 0 15 (.iadr 2 (.t 11) (.t 13)),
        ld 1 16 2 true 15,
        oo 2 7 (.alloc [.int .i64 0,.int .i64 0]),
        ⟨3,none,none,.k (.store 2 (.t 7) (.t 16))⟩] [1,5,7,11,12,13])
    (.seq (.seq (.reg [mv 0 17 5,
        oo 1 18 (.len false (.t 17)),
        mv 2 8 18] [1,5,7,8,11,12,13])
    (.seq (.reg [mv 0 19 8,
        bc 1 20 .gtr 19 (.int .i64 0)] [1,5,7,8,11,12,13,20])
    (.cond (.t 20)
      (.seq (.any (on1 (mv 0 22 1) <|
          on1 (mv 1 23 5) <|
          on1 (mv 2 24 8) <|
          on1 (bc 3 25 .sub 24 (.int .i64 1)) <|
          on1 (oo 4 26 (.iadr 2 (.t 23) (.t 25))) <|
          .one (ld 5 27 2 true 26) true false <|
          .one (ld 6 28 2 true 7) true false <|
          .two ⟨7,some 29,none,.call (.t 22) [.t 27,.t 28]⟩ false (on1 (mv 8 21 29) <|
          on1 (oo 9 30 (.ext (.t 21) 0)) <|
          on1 (oo 10 31 (.ext (.t 21) 1)) <|
          .one (oo 11 9 (.alloc [.int .i64 0,.int .i64 0])) false true <|
          on1 ⟨12,none,none,.k (.store 2 (.t 9) (.t 30))⟩ <|
          on1 (mv 13 10 31) <|
          .done)
          (oo 11 9 (.alloc [.int .i64 0,.int .i64 0])) true (on1 ⟨7,some 29,none,.call (.t 22) [.t 27,.t 28]⟩ <|
          on1 (mv 8 21 29) <|
          on1 (oo 9 30 (.ext (.t 21) 0)) <|
          on1 (oo 10 31 (.ext (.t 21) 1)) <|
          on1 ⟨12,none,none,.k (.store 2 (.t 9) (.t 30))⟩ <|
          on1 (mv 13 10 31) <|
          .done)) [5,7] [1,5,7,8,9,10,11,12,13])
      (.seq (.reg [mv 0 32 10] [1,5,7,8,9,11,12,13,32])
      (.cond (.t 32)
        (.seq (.reg [mv 0 33 5,
            mv 1 34 8,
            bc 2 35 .sub 34 (.int .i64 1),
            ld 3 36 2 true 9,
            oo 4 37 (.iadr 2 (.t 33) (.t 35)),
            ⟨5,none,none,.k (.store 2 (.t 37) (.t 36))⟩] [1,5,11,12,13])
        (.exit 1))
        (.skip))))
      (.skip))))
    (.named [1,5,7,11,12,13] m22k0))))
  (.named [1,5,11,12,13] m22k1)))
def m22k2 : MC :=
  .seq (.reg [mv 0 43 5,
      mv 1 4 43] [4])
  (.ret)
def m22 : MC :=
  .seq (.reg [mc 0 4 (.sl 2 [] .exact)] [0,1])
  (.seq (.reg [mc 0 5 (.sl 2 [] .exact)] [0,1,5])
  (.seq (.seq (.reg [mv 0 11 0,
      oo 1 12 (.len false (.t 11)),
      mc 2 13 (.int .i64 0)] [1,5,11,12,13])
  (.block 0
    (.loop m22l0)))
  (.named [5] m22k2)))
theorem is22 : FnIs Tryz.prog 22 44 m22 [.t 4] := .of Tryz.call22 Tryz.func22 (by kernel_rfl)
def m23 : MC :=
  .seq (.reg [oo 0 2 (.box (.t 0)),
      oo 1 3 (.box (.t 1)),
      oo 2 4 (.alloc [.int .i64 0,.int .i64 0]),
      mc 3 5 (.bool false)] [2,3,4])
  (.seq (.any (on1 (fa 0 6 0 2) <|
      on1 (ld 1 7 1 false 6) <|
      on1 (fa 2 8 1 2) <|
      on1 (ld 3 9 1 false 8) <|
      on1 (fa 4 10 1 3) <|
      on1 (ld 5 11 1 false 10) <|
      on1 (oo 6 12 (.max (.t 9) (.t 11))) <|
      on1 (oo 7 13 (.build [.int .i64 0,.int .i64 0] [(0,1,.t 7),(1,1,.t 12)])) <|
      on1 (fa 8 14 0 3) <|
      .one (ld 9 15 1 false 14) true false <|
      on1 (fa 10 16 1 2) <|
      .one (ld 11 17 1 false 16) true false <|
      on1 (bc 12 18 .add 17 (.int .i64 1)) <|
      on1 (bi 13 19 .leq 15 18) <|
      .one ⟨14,none,none,.k (.store 2 (.t 4) (.t 13))⟩ false true <|
      on1 (mv 15 5 19) <|
      .done) [2,3] [4,5])
  (.ret))
theorem is23 : FnIs Tryz.prog 23 20 m23 [.c 4 2 true,.t 5] := .of Tryz.call23 Tryz.func23 (by kernel_rfl)
def m37k0 : MC :=
  .cond (.t 75)
    (.seq (.reg [mv 0 76 0,
        mv 1 77 1,
        mv 2 78 2,
        mv 3 79 4,
        oc 4 80 63 [.t 76,.t 77,.t 78,.t 79]] [0,1,2,3,4,10,11,12,13,80])
    (.cond (.t 80)
      (.ret)
      (.skip)))
    (.skip)
def m37k1 : MC :=
  .cond (.t 97)
    (.seq (.reg [mv 0 98 0,
        mv 1 99 1,
        mv 2 100 2,
        mv 3 101 13,
        mv 4 102 4,
        oc 5 103 64 [.t 98,.t 99,.t 100,.t 101,.t 102],
        mv 6 15 103] [0,2,3,4,10,11,15])
    (.seq (.reg [mv 0 104 15,
        mv 1 1 104] [0,1,2,3,4,10,11])
    (.exit 1)))
    (.skip)
def m37k2 : MC :=
  .seq (.reg [mv 0 106 0,
      mv 1 107 1,
      mv 2 108 2,
      mv 3 109 13,
      mv 4 110 4,
      oc 5 111 65 [.t 106,.t 107,.t 108,.t 109,.t 110],
      mv 6 105 111,
      oo 7 112 (.ext (.t 105) 0),
      oo 8 113 (.ext (.t 105) 1),
      mv 9 16 112,
      mv 10 17 113] [0,1,2,3,4,12,16,17])
  (.seq (.reg [mv 0 114 17,
      mv 1 11 114] [0,1,2,3,4,11,12,16])
  (.seq (.reg [mv 0 115 16,
      mv 1 116 1,
      bi 2 117 .sub 115 116,
      mv 3 118 2,
      mv 4 119 16,
      bi 5 120 .sub 118 119,
      mv 6 18 117,
      mv 7 19 120] [0,1,2,3,4,11,12,16,18,19])
  (.seq (.reg [mv 0 121 12,
      bc 1 122 .quo 121 (.int .i64 8),
      mv 2 20 122] [0,1,2,3,4,11,16,18,19,20])
  (.seq (.reg [mv 0 123 18,
      mv 1 124 19,
      bi 2 125 .lss 123 124] [0,1,2,3,4,11,16,18,19,20,125])
  (.cond (.t 125)
    (.seq (.reg [mv 0 126 18,
        mv 1 127 20,
        bi 2 128 .geq 126 127,
        mv 3 10 128] [0,1,2,3,4,10,11,16])
    (.seq (.reg [mv 0 129 0,
        mv 1 130 1,
        mv 2 131 16,
        mv 3 132 3,
        mv 4 133 4,
        oc 5 134 37 [.t 129,.t 130,.t 131,.t 132,.t 133]] [0,2,3,4,10,11,16])
    (.reg [mv 0 135 16,
        bc 1 136 .add 135 (.int .i64 1),
        mv 2 1 136] [0,1,2,3,4,10,11])))
    (.seq (.reg [mv 0 137 19,
        mv 1 138 20,
        bi 2 139 .geq 137 138,
        mv 3 10 139] [0,1,2,3,4,10,11,16])
    (.seq (.reg [mv 0 140 0,
        mv 1 141 16,
        bc 2 142 .add 141 (.int .i64 1),
        mv 3 143 2,
        mv 4 144 3,
        mv 5 145 4,
        oc 6 146 37 [.t 140,.t 142,.t 143,.t 144,.t 145]] [0,1,3,4,10,11,16])
    (.reg [mv 0 147 16,
        mv 1 2 147] [0,1,2,3,4,10,11]))))))))
def m37k3 : MC :=
  .seq (.seq (.any (on1 (mv 0 81 1) <|
      on1 (bc 1 82 .gtr 81 (.int .i64 0)) <|
      on1 (mv 2 83 82) <|
      on1 (gm 3 84 83 true 4) <|
      on1 (gm 4 85 83 true 0) <|
      on1 (gm 5 86 83 true 1) <|
      on1 (og 6 87 83 true (.bin .sub (.t 86) (.c (.int .i64 1)))) <|
      on1 (og 7 88 83 true (.iadr 2 (.t 85) (.t 87))) <|
      on1 (og 8 89 83 true (.load 2 true (.t 88))) <|
      on1 (gm 9 90 83 true 0) <|
      on1 (gm 10 91 83 true 13) <|
      on1 (og 11 92 83 true (.iadr 2 (.t 90) (.t 91))) <|
      on1 (og 12 93 83 true (.load 2 true (.t 92))) <|
      on1 ⟨13,some 94,(some (83,true)),.call (.t 84) [.t 89,.t 93]⟩ <|
      on1 (og 14 95 83 true (.bin .lss (.t 94) (.c (.int .i64 0)))) <|
      on1 (og 15 96 83 true (.un .not (.t 95))) <|
      on1 (oo 16 97 (.pick (.t 83) (.t 96) (.c (.bool false)))) <|
      .done) [] [0,1,2,3,4,10,11,12,13,97])
  (.named [0,1,2,3,4,10,11,12,13,97] m37k1))
  (.named [0,1,2,3,4,12,13] m37k2)
def m37k4 : MC :=
  .seq (.seq (.reg [mv 0 68 10,
      mv 1 69 68,
      gm 2 70 69 true 11,
      oo 3 71 (.pick (.t 69) (.t 70) (.c (.bool false))),
      mv 4 72 71,
      gm 5 73 72 true 14,
      og 6 74 72 true (.bin .eql (.t 73) (.c (.int .i64 1))),
      oo 7 75 (.pick (.t 72) (.t 74) (.c (.bool false)))] [0,1,2,3,4,10,11,12,13,75])
  (.named [0,1,2,3,4,10,11,12,13,75] m37k0))
  (.named [0,1,2,3,4,10,11,12,13] m37k3)
def m37k5 : MC :=
  .seq (.reg [mv 0 48 0,
      mv 1 49 1,
      mv 2 50 2,
      mv 3 51 4,
      oc 4 52 61 [.t 48,.t 49,.t 50,.t 51],
      mv 5 47 52,
      oo 6 53 (.ext (.t 47) 0),
      oo 7 54 (.ext (.t 47) 1),
      mv 8 13 53,
      mv 9 14 54] [0,1,2,3,4,10,11,12,13,14])
  (.seq (.seq (.reg [mv 0 55 14,
      bc 1 56 .eql 55 (.int .i64 2)] [0,1,2,3,4,10,11,12,13,14,56])
  (.cond (.t 56)
    (.seq (.reg [mv 0 57 0,
        mv 1 58 1,
        mv 2 59 2,
        mv 3 60 4,
        oc 4 61 62 [.t 57,.t 58,.t 59,.t 60]] [0,1,2,3,4,10,11,12,13])
    (.seq (.reg [mv 0 62 2,
        bc 1 63 .sub 62 (.int .i64 1),
        mv 2 64 13,
        mv 3 65 1,
        bi 4 66 .sub 64 65,
        bi 5 67 .sub 63 66,
        mv 6 13 67] [0,1,2,3,4,10,11,12,13])
    (.reg [mc 0 14 (.int .i64 1)] [0,1,2,3,4,10,11,12,13,14])))
    (.skip)))
  (.named [0,1,2,3,4,10,11,12,13,14] m37k4))
def m37l0 : MC :=
  .block 1
    (.seq (.reg [mv 0 21 2,
        mv 1 22 1,
        bi 2 23 .sub 21 22,
        mv 3 12 23] [0,1,2,3,4,10,11,12])
    (.seq (.seq (.reg [mv 0 24 12,
        bc 1 25 .leq 24 (.int .i64 12)] [0,1,2,3,4,10,11,12,25])
    (.cond (.t 25)
      (.seq (.reg [mv 0 26 0,
          mv 1 27 1,
          mv 2 28 2,
          mv 3 29 4,
          oc 4 30 58 [.t 26,.t 27,.t 28,.t 29]] [])
      (.ret))
      (.skip)))
    (.seq (.seq (.reg [mv 0 31 3,
        bc 1 32 .eql 31 (.int .i64 0)] [0,1,2,3,4,10,11,12,32])
    (.cond (.t 32)
      (.seq (.reg [mv 0 33 0,
          mv 1 34 1,
          mv 2 35 2,
          mv 3 36 4,
          oc 4 37 59 [.t 33,.t 34,.t 35,.t 36]] [])
      (.ret))
      (.skip)))
    (.seq (.seq (.reg [mv 0 38 10,
        oo 1 39 (.un .not (.t 38))] [0,1,2,3,4,10,11,12,39])
    (.cond (.t 39)
      (.seq (.reg [mv 0 40 0,
          mv 1 41 1,
          mv 2 42 2,
          mv 3 43 4,
          oc 4 44 60 [.t 40,.t 41,.t 42,.t 43]] [0,1,2,3,4,10,11,12])
      (.reg [mv 0 45 3,
          bc 1 46 .sub 45 (.int .i64 1),
          mv 2 3 46] [0,1,2,3,4,10,11,12]))
      (.skip)))
    (.named [0,1,2,3,4,10,11,12] m37k5)))))
def m37 : MC :=
  .seq (.reg [mc 0 10 (.bool true)] [0,1,2,3,4,10])
  (.seq (.reg [mc 0 11 (.bool true)] [0,1,2,3,4,10,11])
  (.block 0
    (.loop m37l0)))
theorem is37 : FnIs Tryz.prog 37 148 m37 [] := .of Tryz.call37 Tryz.func37 (by kernel_rfl)
def m38 : MC :=
  .seq (.reg [mc 0 2 (.int .i64 0)] [0])
  (.seq (.cond (.c (.bool false))
    (.seq (.reg [mv 0 3 0,
        oo 1 4 (.conv .u32 (.t 3)),
        oc 2 5 66 [.t 4],
        mv 3 2 5] [2])
    (.ret))
    (.skip))
  (.seq (.reg [mv 0 6 0,
      oc 1 7 67 [.t 6],
      mv 2 2 7] [2])
  (.ret)))
theorem is38 : FnIs Tryz.prog 38 8 m38 [.t 2] := .of Tryz.call38 Tryz.func38 (by kernel_rfl)
def m58k0 : MC :=
  .cond (.t 34)
    (.skip)
    (.exit 2)
def m58k1 : MC :=
  .seq (.block 3
    (.any (on1 (mv 0 37 0) <|
        on1 (mv 1 38 9) <|
        on1 (mv 2 39 0) <|
        on1 (mv 3 40 9) <|
        on1 (bc 4 41 .sub 40 (.int .i64 1)) <|
        on1 (mv 5 42 0) <|
        on1 (mv 6 43 9) <|
        on1 (bc 7 44 .sub 43 (.int .i64 1)) <|
        on1 (oo 8 45 (.iadr 2 (.t 42) (.t 44))) <|
        on1 (ld 9 46 2 true 45) <|
        on1 (mv 10 47 0) <|
        on1 (mv 11 48 9) <|
        on1 (oo 12 49 (.iadr 2 (.t 47) (.t 48))) <|
        on1 (ld 13 50 2 true 49) <|
        on1 (oo 14 51 (.iadr 2 (.t 37) (.t 38))) <|
        on1 ⟨15,none,none,.k (.store 2 (.t 51) (.t 46))⟩ <|
        on1 (oo 16 52 (.iadr 2 (.t 39) (.t 41))) <|
        on1 ⟨17,none,none,.k (.store 2 (.t 52) (.t 50))⟩ <|
        .done) [] [0,1,2,3,8,9]))
  (.reg [mv 0 35 9,
      bc 1 36 .sub 35 (.int .i64 1),
      mv 2 9 36] [0,1,2,3,8,9])
def m58l0 : MC :=
  .seq (.seq (.any (on1 (mv 0 18 9) <|
      on1 (mv 1 19 1) <|
      on1 (bi 2 20 .gtr 18 19) <|
      on1 (mv 3 21 20) <|
      on1 (gm 4 22 21 true 3) <|
      on1 (gm 5 23 21 true 0) <|
      on1 (gm 6 24 21 true 9) <|
      on1 (og 7 25 21 true (.iadr 2 (.t 23) (.t 24))) <|
      on1 (og 8 26 21 true (.load 2 true (.t 25))) <|
      on1 (gm 9 27 21 true 0) <|
      on1 (gm 10 28 21 true 9) <|
      on1 (og 11 29 21 true (.bin .sub (.t 28) (.c (.int .i64 1)))) <|
      on1 (og 12 30 21 true (.iadr 2 (.t 27) (.t 29))) <|
      on1 (og 13 31 21 true (.load 2 true (.t 30))) <|
      on1 ⟨14,some 32,(some (21,true)),.call (.t 22) [.t 26,.t 31]⟩ <|
      on1 (og 15 33 21 true (.bin .lss (.t 32) (.c (.int .i64 0)))) <|
      on1 (oo 16 34 (.pick (.t 21) (.t 33) (.c (.bool false)))) <|
      .done) [] [0,1,2,3,8,9,34])
  (.named [0,1,2,3,8,9,34] m58k0))
  (.named [0,1,2,3,8,9] m58k1)
def m58k2 : MC :=
  .reg [mv 0 15 8,
      bc 1 16 .add 15 (.int .i64 1),
      mv 2 8 16] [0,1,2,3,8]
def m58l1 : MC :=
  .seq (.seq (.reg [mv 0 12 8,
      mv 1 13 2,
      bi 2 14 .lss 12 13] [0,1,2,3,8,14])
  (.cond (.t 14)
    (.skip)
    (.exit 0)))
  (.seq (.block 1
    (.seq (.reg [mv 0 17 8,
        mv 1 9 17] [0,1,2,3,8,9])
    (.block 2
      (.loop m58l0))))
  (.named [0,1,2,3,8] m58k2))
def m58 : MC :=
  .seq (.reg [mv 0 10 1,
      bc 1 11 .add 10 (.int .i64 1),
      mv 2 8 11] [0,1,2,3,8])
  (.block 0
    (.loop m58l1))
theorem is58 : FnIs Tryz.prog 58 53 m58 [] := .of Tryz.call58 Tryz.func58 (by kernel_rfl)
def m67k0 : MC :=
  .seq (.reg [mv 0 19 2,
      mv 1 20 0,
      oo 2 21 (.conv .u8 (.t 20)),
      oo 3 22 (.istr (.c (.str [0,1,2,2,3,3,3,3,4,4,4,4,4,4,4,4,5,5,5,5,5,5,5,5,5,5,5,5,5,5,5,5,6,6,6,6,6,6,6,6,6,6,6,6,6,6,6,6,6,6,6,6,6,6,6,6,6,6,6,6,6,6,6,6,7,7,7,7,7,7,7,7,7,7,7,7,7,7,7,7,7,7,7,7,7,7,7,7,7,7,7,7,7,7,7,7,7,7,7,7,7,7,7,7,7,7,7,7,7,7,7,7,7,7,7,7,7,7,7,7,7,7,7,7,7,7,7,7,8,8,8,8,8,8,8,8,8,8,8,8,8,8,8,8,8,8,8,8,8,8,8,8,8,8,8,8,8,8,8,8,8,8,8,8,8,8,8,8,8,8,8,8,8,8,8,8,8,8,8,8,8,8,8,8,8,8,8,8,8,8,8,8,8,8,8,8,8,8,8,8,8,8,8,8,8,8,8,8,8,8,8,8,8,8,8,8,8,8,8,8,8,8,8,8,8,8,8,8,8,8,8,8,8,8,8,8,8,8,8,8,8,8,8,8,8,8,8,8,8,8,8,8,8,8,8,8])) (.t 21)),
      oo 4 23 (.conv .i64 (.t 22)),
      bi 5 24 .add 19 23,
      mv 6 2 24] [2])
  (.ret)
def m67k1 : MC :=
  .seq (.seq (.reg [mv 0 13 0,
      bc 1 14 .geq 13 (.int .u64 256)] [0,2,14])
  (.cond (.t 14)
    (.seq (.reg [mv 0 15 0,
        bc 1 16 .shr 15 (.int .u64 8),
        mv 2 0 16] [0,2])
    (.reg [mv 0 17 2,
        bc 1 18 .add 17 (.int .i64 8),
        mv 2 2 18] [0,2]))
    (.skip)))
  (.named [0,2] m67k0)
def m67k2 : MC :=
  .seq (.seq (.reg [mv 0 7 0,
      bc 1 8 .geq 7 (.int .u64 65536)] [0,2,8])
  (.cond (.t 8)
    (.seq (.reg [mv 0 9 0,
        bc 1 10 .shr 9 (.int .u64 16),
        mv 2 0 10] [0,2])
    (.reg [mv 0 11 2,
        bc 1 12 .add 11 (.int .i64 16),
        mv 2 2 12] [0,2]))
    (.skip)))
  (.named [0,2] m67k1)
def m67 : MC :=
  .seq (.reg [mc 0 2 (.int .i64 0)] [0,2])
  (.seq (.seq (.reg [mv 0 3 0,
      bc 1 4 .geq 3 (.int .u64 4294967296)] [0,2,4])
  (.cond (.t 4)
    (.seq (.reg [mv 0 5 0,
        bc 1 6 .shr 5 (.int .u64 32),
        mv 2 0 6] [0])
    (.reg [mc 0 2 (.int .i64 32)] [0,2]))
    (.skip)))
  (.named [0,2] m67k2))
theorem is67 : FnIs Tryz.prog 67 25 m67 [.t 2] := .of Tryz.call67 Tryz.func67 (by kernel_rfl)
end Go.Proofs.YtombgigaefgaiaaGreatDoor
