/- The functions of the seat in the small language (printed by a program), and that each is the program's. -/
import Derived.Test.YtdjdhecanjmchaaGreatDoorProg
import Derived.Test.YtdjdhecanjmchaaGreatDoorVr
import Derived.KernelRfl
set_option linter.unusedSimpArgs false
set_option linter.unusedVariables false
namespace Go.Proofs.YtdjdhecanjmchaaGreatDoor
open Go Go.V
def m40k0 : MC :=
  .cond (.t 42)
    (.seq (.reg [mc 0 2 (.bool false)] [2])
    (.ret))
    (.skip)
def m40k1 : MC :=
  .cond (.t 68)
    (.seq (.reg [mc 0 2 (.bool false)] [2])
    (.ret))
    (.skip)
def m40k2 : MC :=
  .reg [mv 0 48 3,bc 1 49 .add 48 (.int .i64 1),mv 2 3 49] [1,3]
def m40l0 : MC :=
  .seq (.seq (.reg [mv 0 43 3,fa 1 44 1 1,ld 2 45 1 false 44,oo 3 46 (.len false (.t 45)),bi 4 47 .lss 43 46] [1,3,47])
  (.cond (.t 47)
    (.skip)
    (.exit 0)))
  (.seq (.block 1
    (.seq (.any (on1 (fa 0 50 1 1) <|
        .one (ld 1 51 1 false 50) true false <|
        on1 (mv 2 52 3) <|
        on1 (oo 3 53 (.iadr 1 (.t 51) (.t 52))) <|
        .one (ld 4 54 1 false 53) true false <|
        .one (oc 5 55 98 [.t 54]) false true <|
        on1 (oo 6 56 (.un .not (.t 55))) <|
        on1 (mv 7 57 56) <|
        on1 (og 8 58 57 false (.fadr 1 (.t 1))) <|
        .one (og 9 59 57 false (.load 1 false (.t 58))) true false <|
        on1 (gm 10 60 57 false 3) <|
        on1 (og 11 61 57 false (.slV 1 (.t 59) none (some (.t 60)) none)) <|
        on1 (og 12 62 57 false (.fadr 1 (.t 1))) <|
        .one (og 13 63 57 false (.load 1 false (.t 62))) true false <|
        on1 (gm 14 64 57 false 3) <|
        on1 (og 15 65 57 false (.iadr 1 (.t 63) (.t 64))) <|
        on1 (og 16 66 57 false (.load 1 false (.t 65))) <|
        .one ⟨17,some 67,(some (57,false)),.call (.f 100) [.t 61,.t 66]⟩ false true <|
        on1 (oo 18 68 (.pick (.t 57) (.c (.bool true)) (.t 67))) <|
        .done) [1] [1,3,68])
    (.named [1,3,68] m40k1)))
  (.named [1,3] m40k2))
def m40l1 : MC :=
  .seq (.seq (.reg [mv 0 69 4,fa 1 70 2 1,ld 2 71 1 false 70,oo 3 72 (.len false (.t 71)),bi 4 73 .lss 69 72] [1,4,73])
  (.cond (.t 73)
    (.skip)
    (.exit 2)))
  (.seq (.block 3
    (.seq (.reg [fa 0 76 2 1,ld 1 77 1 false 76,mv 2 78 4,oo 3 79 (.iadr 3 (.t 77) (.t 78)),ld 4 80 3 true 79,oc 5 81 101 [.t 80],oo 6 82 (.un .not (.t 81))] [1,4,82])
    (.cond (.t 82)
      (.seq (.reg [mc 0 2 (.bool false)] [2])
      (.ret))
      (.skip))))
  (.reg [mv 0 74 4,bc 1 75 .add 74 (.int .i64 1),mv 2 4 75] [1,4]))
def m40k3 : MC :=
  .seq (.reg [mc 0 2 (.bool true)] [2])
  (.ret)
def m40k4 : MC :=
  .seq (.seq (.reg [mc 0 4 (.int .i64 0)] [1,4])
  (.block 2
    (.loop m40l1)))
  (.named [] m40k3)
def m40k5 : MC :=
  .seq (.seq (.reg [mc 0 3 (.int .i64 0)] [1,3])
  (.block 0
    (.loop m40l0)))
  (.named [1] m40k4)
def m40 : MC :=
  .seq (.reg [oo 0 1 (.box (.t 0)),mc 1 2 (.bool false)] [1])
  (.seq (.seq (.reg [fa 0 5 0 1,ld 1 6 1 false 5,oc 2 7 98 [.t 6],oo 3 8 (.un .not (.t 7)),mv 4 9 8,og 5 10 9 false (.fadr 1 (.t 1)),og 6 11 9 false (.load 1 false (.t 10)),og 7 12 9 false (.len false (.t 11)),og 8 13 9 false (.bin .lss (.t 12) (.c (.int .i64 1))),oo 9 14 (.pick (.t 9) (.c (.bool true)) (.t 13)),mv 10 15 14,og 11 16 15 false (.fadr 1 (.t 1)),og 12 17 15 false (.load 1 false (.t 16)),og 13 18 15 false (.len false (.t 17)),og 14 19 15 false (.bin .gtr (.t 18) (.c (.int .i64 8))),oo 15 20 (.pick (.t 15) (.c (.bool true)) (.t 19)),mv 16 21 20,og 17 22 21 false (.fadr 2 (.t 1)),og 18 23 21 false (.load 1 false (.t 22)),og 19 24 21 false (.len false (.t 23)),og 20 25 21 false (.bin .gtr (.t 24) (.c (.int .i64 256))),oo 21 26 (.pick (.t 21) (.c (.bool true)) (.t 25)),mv 22 27 26,og 23 28 27 false (.fadr 3 (.t 1)),og 24 29 27 false (.load 1 false (.t 28)),⟨25,some 30,(some (27,false)),.call (.f 99) [.t 29]⟩,og 26 31 27 false (.un .not (.t 30)),oo 27 32 (.pick (.t 27) (.c (.bool true)) (.t 31)),mv 28 33 32,og 29 34 33 false (.fadr 4 (.t 1)),og 30 35 33 false (.load 1 false (.t 34)),og 31 36 33 false (.bin .lss (.t 35) (.c (.int .i64 0))),oo 32 37 (.pick (.t 33) (.c (.bool true)) (.t 36)),mv 33 38 37,og 34 39 38 false (.fadr 4 (.t 1)),og 35 40 38 false (.load 1 false (.t 39)),og 36 41 38 false (.bin .gtr (.t 40) (.c (.int .i64 1000))),oo 37 42 (.pick (.t 38) (.c (.bool true)) (.t 41))] [1,42])
  (.named [1,42] m40k0))
  (.named [1] m40k5))
theorem is40 : FnIs Tryz.prog 40 83 m40 [.t 2] := .of Tryz.call40 Tryz.func40 (by kernel_rfl)
def m42l0 : MC :=
  .seq (.seq (.reg [mv 0 11 5,mv 1 12 0,oo 2 13 (.len false (.t 12)),bi 3 14 .lss 11 13] [0,1,5,14])
  (.cond (.t 14)
    (.skip)
    (.exit 0)))
  (.seq (.block 1
    (.seq (.any (on1 (mv 0 17 0) <|
        on1 (mv 1 18 5) <|
        on1 (oo 2 19 (.iadr 3 (.t 17) (.t 18))) <|
        on1 (ld 3 20 3 true 19) <|
        on1 (mv 4 21 1) <|
        on1 (mv 5 22 5) <|
        on1 (oo 6 23 (.iadr 3 (.t 21) (.t 22))) <|
        on1 (ld 7 24 3 true 23) <|
        on1 (oo 8 25 (.eqv [.s,.i,.i] true (.t 20) (.t 24))) <|
        .done) [] [0,1,5,25])
    (.cond (.t 25)
      (.seq (.reg [mc 0 4 (.bool false)] [4])
      (.ret))
      (.skip))))
  (.reg [mv 0 15 5,bc 1 16 .add 15 (.int .i64 1),mv 2 5 16] [0,1,5]))
def m42k0 : MC :=
  .seq (.reg [mc 0 4 (.bool true)] [4])
  (.ret)
def m42 : MC :=
  .seq (.reg [mc 0 4 (.bool false)] [0,1])
  (.seq (.seq (.reg [mv 0 6 0,oo 1 7 (.len false (.t 6)),mv 2 8 1,oo 3 9 (.len false (.t 8)),bi 4 10 .neq 7 9] [0,1,10])
  (.cond (.t 10)
    (.seq (.reg [mc 0 4 (.bool false)] [4])
    (.ret))
    (.skip)))
  (.seq (.seq (.reg [mc 0 5 (.int .i64 0)] [0,1,5])
  (.block 0
    (.loop m42l0)))
  (.named [] m42k0)))
theorem is42 : FnIs Tryz.prog 42 26 m42 [.t 4] := .of Tryz.call42 Tryz.func42 (by kernel_rfl)
def m43k0 : MC :=
  .cond (.t 43)
    (.seq (.reg [mc 0 4 (.bool false)] [4])
    (.ret))
    (.skip)
def m43k1 : MC :=
  .reg [mv 0 16 5,bc 1 17 .add 16 (.int .i64 1),mv 2 5 17] [0,1,5]
def m43l0 : MC :=
  .seq (.seq (.reg [mv 0 12 5,mv 1 13 0,oo 2 14 (.len false (.t 13)),bi 3 15 .lss 12 14] [0,1,5,15])
  (.cond (.t 15)
    (.skip)
    (.exit 0)))
  (.seq (.block 1
    (.seq (.any (on1 (mv 0 18 0) <|
        on1 (mv 1 19 5) <|
        on1 (oo 2 20 (.iadr 4 (.t 18) (.t 19))) <|
        on1 (fa 3 21 3 20) <|
        on1 (ld 4 22 1 false 21) <|
        on1 (mv 5 23 1) <|
        on1 (mv 6 24 5) <|
        on1 (oo 7 25 (.iadr 4 (.t 23) (.t 24))) <|
        on1 (fa 8 26 3 25) <|
        on1 (ld 9 27 1 false 26) <|
        on1 (oc 10 28 105 [.t 22,.t 27]) <|
        on1 (mv 11 6 28) <|
        .done) [] [0,1,5,6])
    (.seq (.any (on1 (mv 0 29 6) <|
        on1 (oo 1 30 (.un .not (.t 29))) <|
        on1 (mv 2 31 30) <|
        on1 (gm 3 32 31 false 0) <|
        on1 (gm 4 33 31 false 5) <|
        on1 (og 5 34 31 false (.iadr 4 (.t 32) (.t 33))) <|
        on1 (og 6 35 31 false (.fadr 0 (.t 34))) <|
        on1 (og 7 36 31 false (.load 3 true (.t 35))) <|
        on1 (gm 8 37 31 false 1) <|
        on1 (gm 9 38 31 false 5) <|
        on1 (og 10 39 31 false (.iadr 4 (.t 37) (.t 38))) <|
        on1 (og 11 40 31 false (.fadr 0 (.t 39))) <|
        on1 (og 12 41 31 false (.load 3 true (.t 40))) <|
        on1 (og 13 42 31 false (.eqv [.s,.i,.i] true (.t 36) (.t 41))) <|
        on1 (oo 14 43 (.pick (.t 31) (.c (.bool true)) (.t 42))) <|
        .done) [] [0,1,5,43])
    (.named [0,1,5,43] m43k0))))
  (.named [0,1,5] m43k1))
def m43k2 : MC :=
  .seq (.reg [mc 0 4 (.bool true)] [4])
  (.ret)
def m43 : MC :=
  .seq (.reg [mc 0 4 (.bool false)] [0,1])
  (.seq (.seq (.reg [mv 0 7 0,oo 1 8 (.len false (.t 7)),mv 2 9 1,oo 3 10 (.len false (.t 9)),bi 4 11 .neq 8 10] [0,1,11])
  (.cond (.t 11)
    (.seq (.reg [mc 0 4 (.bool false)] [4])
    (.ret))
    (.skip)))
  (.seq (.seq (.reg [mc 0 5 (.int .i64 0)] [0,1,5])
  (.block 0
    (.loop m43l0)))
  (.named [] m43k2)))
theorem is43 : FnIs Tryz.prog 43 44 m43 [.t 4] := .of Tryz.call43 Tryz.func43 (by kernel_rfl)
def m44 : MC :=
  .seq (.reg [oo 0 2 (.box (.t 0)),oo 1 3 (.box (.t 1)),mc 2 4 (.bool false)] [2,3])
  (.seq (.reg [fa 0 5 0 2,ld 1 6 3 true 5,fa 2 7 0 3,ld 3 8 3 true 7,oo 4 9 (.eqv [.s,.i,.i] false (.t 6) (.t 8)),mv 5 4 9] [4])
  (.ret))
theorem is44 : FnIs Tryz.prog 44 10 m44 [.t 4] := .of Tryz.call44 Tryz.func44 (by kernel_rfl)
def m45l0 : MC :=
  .seq (.reg [bi 0 14 .lss 13 12] [0,1,12,13,14])
  (.seq (.cond (.t 14)
    (.skip)
    (.exit 0))
  (.seq (.block 1
    (.seq (.reg [mv 0 15 13,mv 1 5 15] [0,1,5,12,13])
    (.seq (.any (on1 (mv 0 16 0) <|
        on1 (mv 1 17 5) <|
        on1 (oo 2 18 (.iadr 1 (.t 16) (.t 17))) <|
        on1 (ld 3 19 1 false 18) <|
        on1 (mv 4 20 1) <|
        on1 (mv 5 21 5) <|
        on1 (oo 6 22 (.iadr 1 (.t 20) (.t 21))) <|
        on1 (ld 7 23 1 false 22) <|
        on1 (bi 8 24 .neq 19 23) <|
        .done) [] [0,1,12,13,24])
    (.cond (.t 24)
      (.seq (.reg [mc 0 4 (.bool false)] [4])
      (.ret))
      (.skip)))))
  (.reg [bc 0 25 .add 13 (.int .i64 1),mv 1 13 25] [0,1,12,13])))
def m45k0 : MC :=
  .seq (.reg [mc 0 4 (.bool true)] [4])
  (.ret)
def m45 : MC :=
  .seq (.reg [mc 0 4 (.bool false)] [0,1])
  (.seq (.seq (.reg [mv 0 6 0,oo 1 7 (.len false (.t 6)),mv 2 8 1,oo 3 9 (.len false (.t 8)),bi 4 10 .neq 7 9] [0,1,10])
  (.cond (.t 10)
    (.seq (.reg [mc 0 4 (.bool false)] [4])
    (.ret))
    (.skip)))
  (.seq (.seq (.reg [mv 0 11 0,oo 1 12 (.len false (.t 11)),mc 2 13 (.int .i64 0)] [0,1,12,13])
  (.block 0
    (.loop m45l0)))
  (.named [] m45k0)))
theorem is45 : FnIs Tryz.prog 45 26 m45 [.t 4] := .of Tryz.call45 Tryz.func45 (by kernel_rfl)
def m46l0 : MC :=
  .seq (.reg [bi 0 18 .lss 17 16] [1,2,15,16,17,18])
  (.seq (.cond (.t 18)
    (.skip)
    (.exit 0))
  (.seq (.block 1
    (.seq (.reg [mv 0 19 17,oo 1 20 (.iadr 4 (.t 15) (.t 17)),ld 2 21 4 true 20,oo 3 8 (.alloc [.str [],.int .i64 0,.int .i64 0,.sl 3 [] .exact]),mv 4 7 19,⟨5,none,none,.k (.store 4 (.t 8) (.t 21))⟩] [1,2,7,8,15,16,17])
    (.seq (.reg [mv 0 22 1,mv 1 23 7,oo 2 24 (.iadr 4 (.t 22) (.t 23)),ld 3 25 4 true 24,oo 4 9 (.alloc [.str [],.int .i64 0,.int .i64 0,.sl 3 [] .exact]),⟨5,none,none,.k (.store 4 (.t 9) (.t 25))⟩] [1,2,8,9,15,16,17])
    (.seq (.reg [mv 0 26 2,ld 1 27 4 true 8,ld 2 28 4 true 9,⟨3,some 29,none,.call (.t 26) [.t 27,.t 28]⟩,oo 4 30 (.un .not (.t 29))] [1,2,15,16,17,30])
    (.cond (.t 30)
      (.seq (.reg [mc 0 6 (.bool false)] [6])
      (.ret))
      (.skip))))))
  (.reg [bc 0 31 .add 17 (.int .i64 1),mv 1 17 31] [1,2,15,16,17])))
def m46k0 : MC :=
  .seq (.reg [mc 0 6 (.bool true)] [6])
  (.ret)
def m46 : MC :=
  .seq (.reg [mc 0 6 (.bool false)] [0,1,2])
  (.seq (.seq (.reg [mv 0 10 0,oo 1 11 (.len false (.t 10)),mv 2 12 1,oo 3 13 (.len false (.t 12)),bi 4 14 .neq 11 13] [0,1,2,14])
  (.cond (.t 14)
    (.seq (.reg [mc 0 6 (.bool false)] [6])
    (.ret))
    (.skip)))
  (.seq (.seq (.reg [mv 0 15 0,oo 1 16 (.len false (.t 15)),mc 2 17 (.int .i64 0)] [1,2,15,16,17])
  (.block 0
    (.loop m46l0)))
  (.named [] m46k0)))
theorem is46 : FnIs Tryz.prog 46 32 m46 [.t 6] := .of Tryz.call46 Tryz.func46 (by kernel_rfl)
def m47l0 : MC :=
  .seq (.reg [bi 0 14 .lss 13 12] [0,1,12,13,14])
  (.seq (.cond (.t 14)
    (.skip)
    (.exit 0))
  (.seq (.block 1
    (.seq (.reg [mv 0 15 13,mv 1 5 15] [0,1,5,12,13])
    (.seq (.any (on1 (mv 0 16 0) <|
        on1 (mv 1 17 5) <|
        on1 (oo 2 18 (.iadr 3 (.t 16) (.t 17))) <|
        on1 (ld 3 19 3 true 18) <|
        on1 (mv 4 20 1) <|
        on1 (mv 5 21 5) <|
        on1 (oo 6 22 (.iadr 3 (.t 20) (.t 21))) <|
        on1 (ld 7 23 3 true 22) <|
        on1 (oo 8 24 (.eqv [.i,.i,.s] true (.t 19) (.t 23))) <|
        .done) [] [0,1,12,13,24])
    (.cond (.t 24)
      (.seq (.reg [mc 0 4 (.bool false)] [4])
      (.ret))
      (.skip)))))
  (.reg [bc 0 25 .add 13 (.int .i64 1),mv 1 13 25] [0,1,12,13])))
def m47k0 : MC :=
  .seq (.reg [mc 0 4 (.bool true)] [4])
  (.ret)
def m47 : MC :=
  .seq (.reg [mc 0 4 (.bool false)] [0,1])
  (.seq (.seq (.reg [mv 0 6 0,oo 1 7 (.len false (.t 6)),mv 2 8 1,oo 3 9 (.len false (.t 8)),bi 4 10 .neq 7 9] [0,1,10])
  (.cond (.t 10)
    (.seq (.reg [mc 0 4 (.bool false)] [4])
    (.ret))
    (.skip)))
  (.seq (.seq (.reg [mv 0 11 0,oo 1 12 (.len false (.t 11)),mc 2 13 (.int .i64 0)] [0,1,12,13])
  (.block 0
    (.loop m47l0)))
  (.named [] m47k0)))
theorem is47 : FnIs Tryz.prog 47 26 m47 [.t 4] := .of Tryz.call47 Tryz.func47 (by kernel_rfl)
def m48 : MC :=
  .reg [mv 0 3 0,⟨1,some 4,none,.call (.f 50) [.t 3,.c (.str [9])]⟩,bc 2 5 .add 4 (.str [10]),oc 3 6 49 [.t 1,.t 5]] []
theorem is48 : FnIs Tryz.prog 48 7 m48 [] := .of Tryz.call48 Tryz.func48 (by kernel_rfl)
def m54k0 : MC :=
  .cond (.t 13)
    (.skip)
    (.exit 0)
def m54k1 : MC :=
  .seq (.reg [mv 0 22 6,oo 1 23 (.bin .add (.c (.int .i64 48)) (.t 22)),oo 2 24 (.conv .u8 (.t 23)),oo 3 25 (.mkSl 1 [.int .u8 0] [.t 24]),oo 4 26 (.b2s (.t 25)),mv 5 27 3,bi 6 28 .add 26 27,mv 7 3 28] [0,3,4,5])
  (.reg [mv 0 29 4,bc 1 30 .quo 29 (.int .i64 10),mv 2 4 30] [0,3,4,5])
def m54k2 : MC :=
  .reg [mv 0 14 5,bc 1 15 .add 14 (.int .i64 1),mv 2 5 15] [0,3,4,5]
def m54k3 : MC :=
  .seq (.block 1
    (.seq (.reg [mv 0 16 4,bc 1 17 .rem 16 (.int .i64 10),mv 2 6 17] [0,3,4,5,6])
    (.seq (.seq (.reg [mv 0 18 6,bc 1 19 .lss 18 (.int .i64 0)] [0,3,4,5,6,19])
    (.cond (.t 19)
      (.reg [mv 0 20 6,oo 1 21 (.un .neg (.t 20)),mv 2 6 21] [0,3,4,5,6])
      (.skip)))
    (.named [0,3,4,5,6] m54k1))))
  (.named [0,3,4,5] m54k2)
def m54l0 : MC :=
  .seq (.seq (.reg [mv 0 8 5,bc 1 9 .lss 8 (.int .i64 1),mv 2 10 9,gm 3 11 10 false 4,og 4 12 10 false (.bin .neq (.t 11) (.c (.int .i64 0))),oo 5 13 (.pick (.t 10) (.c (.bool true)) (.t 12))] [0,3,4,5,13])
  (.named [0,3,4,5,13] m54k0))
  (.named [0,3,4,5] m54k3)
def m54k4 : MC :=
  .seq (.seq (.reg [mv 0 31 0,bc 1 32 .lss 31 (.int .i64 0)] [3,32])
  (.cond (.t 32)
    (.seq (.reg [mv 0 33 3,oo 1 34 (.bin .add (.c (.str [45])) (.t 33)),mv 2 2 34] [2])
    (.ret))
    (.skip)))
  (.seq (.reg [mv 0 35 3,mv 1 2 35] [2])
  (.ret))
def m54 : MC :=
  .seq (.reg [mc 0 2 (.str [])] [0])
  (.seq (.reg [mc 0 3 (.str [])] [0,3])
  (.seq (.reg [mv 0 7 0,mv 1 4 7] [0,3,4])
  (.seq (.seq (.reg [mc 0 5 (.int .i64 0)] [0,3,4,5])
  (.block 0
    (.loop m54l0)))
  (.named [0,3] m54k4))))
theorem is54 : FnIs Tryz.prog 54 36 m54 [.t 2] := .of Tryz.call54 Tryz.func54 (by kernel_rfl)
def m55 : MC :=
  .seq (.reg [oo 0 1 (.box (.t 0)),mc 1 2 (.str [])] [1])
  (.seq (.seq (.reg [ld 0 3 3 true 1,oc 1 4 56 [.t 3],oo 2 5 (.un .not (.t 4))] [1,5])
  (.cond (.t 5)
    (.seq (.reg [mc 0 2 (.str [])] [2])
    (.ret))
    (.skip)))
  (.seq (.seq (.reg [fa 0 6 0 1,ld 1 7 1 false 6] [1,7])
  (.block 0
    (.seq (.reg [bc 0 9 .eql 7 (.int .i64 1),mv 1 8 9] [1,7,8])
    (.cond (.t 8)
      (.seq (.seq (.reg [fa 0 10 1 1,ld 1 11 1 false 10,bc 2 12 .eql 11 (.int .i64 1)] [12])
      (.cond (.t 12)
        (.seq (.reg [mc 0 2 (.str [116,114,117,101])] [2])
        (.ret))
        (.skip)))
      (.seq (.reg [mc 0 2 (.str [102,97,108,115,101])] [2])
      (.ret)))
      (.seq (.reg [bc 0 14 .eql 7 (.int .i64 2),mv 1 13 14] [1,7,13])
      (.cond (.t 13)
        (.seq (.reg [fa 0 15 1 1,ld 1 16 1 false 15,oc 2 17 54 [.t 16],mv 3 2 17] [2])
        (.ret))
        (.seq (.reg [bc 0 19 .eql 7 (.int .i64 3),mv 1 18 19] [1,7,18])
        (.cond (.t 18)
          (.seq (.reg [fa 0 20 1 1,ld 1 21 1 false 20,oc 2 22 115 [.t 21],mv 3 2 22] [2])
          (.ret))
          (.seq (.reg [bc 0 24 .eql 7 (.int .i64 4),mv 1 23 24] [1,7,23])
          (.cond (.t 23)
            (.seq (.reg [fa 0 25 2 1,ld 1 26 1 false 25,oo 2 27 (.bin .add (.c (.str [34])) (.t 26)),bc 3 28 .add 27 (.str [34]),mv 4 2 28] [2])
            (.ret))
            (.seq (.reg [bc 0 30 .eql 7 (.int .i64 5),mv 1 29 30] [1,29])
            (.cond (.t 29)
              (.seq (.reg [fa 0 31 2 1,ld 1 32 1 false 31,oo 2 33 (.bin .add (.c (.str [64])) (.t 32)),mv 3 2 33] [2])
              (.ret))
              (.skip)))))))))))))
  (.seq (.reg [mc 0 2 (.str [110,117,108,108])] [2])
  (.ret))))
theorem is55 : FnIs Tryz.prog 55 34 m55 [.t 2] := .of Tryz.call55 Tryz.func55 (by kernel_rfl)
def m56 : MC :=
  .seq (.reg [oo 0 1 (.box (.t 0)),mc 1 2 (.bool false)] [1])
  (.seq (.reg [ld 0 3 3 true 1,oc 1 4 116 [.t 3],bc 2 5 .eql 4 (.int .i64 0),mv 3 2 5] [2])
  (.ret))
theorem is56 : FnIs Tryz.prog 56 6 m56 [.t 2] := .of Tryz.call56 Tryz.func56 (by kernel_rfl)
def m57l0 : MC :=
  .seq (.seq (.reg [mv 0 11 1,bc 1 12 .geq 11 (.int .u64 128)] [1,4,12])
  (.cond (.t 12)
    (.skip)
    (.exit 0)))
  (.seq (.block 1
    (.reg [mv 0 15 4,mv 1 16 1,oo 2 17 (.conv .u8 (.t 16)),bc 3 18 .or 17 (.int .u8 128),oo 4 19 (.mkSl 1 [.int .u8 0] [.t 18]),oo 5 20 (.app 1 1 (.t 15) (.t 19)),mv 6 4 20] [1,4]))
  (.reg [mv 0 13 1,bc 1 14 .shr 13 (.int .u64 7),mv 2 1 14] [1,4]))
def m57k0 : MC :=
  .seq (.reg [mv 0 21 4,mv 1 22 1,oo 2 23 (.conv .u8 (.t 22)),oo 3 24 (.mkSl 1 [.int .u8 0] [.t 23]),oo 4 25 (.app 1 1 (.t 21) (.t 24)),mv 5 4 25] [4])
  (.ret)
def m57 : MC :=
  .seq (.reg [mc 0 4 (.sl 1 [] .exact)] [0,1])
  (.seq (.reg [mv 0 5 0,mv 1 6 0,oo 2 7 (.len false (.t 6)),mv 3 8 0,oo 4 9 (.len false (.t 8)),oo 5 10 (.slV 1 (.t 5) none (some (.t 7)) (some (.t 9))),mv 6 4 10] [1,4])
  (.seq (.block 0
    (.loop m57l0))
  (.named [1,4] m57k0)))
theorem is57 : FnIs Tryz.prog 57 26 m57 [.t 4] := .of Tryz.call57 Tryz.func57 (by kernel_rfl)
def m58 : MC :=
  .seq (.reg [mc 0 4 (.sl 1 [] .exact)] [0,1])
  (.seq (.reg [mv 0 5 0,mv 1 6 1,oo 2 7 (.len true (.t 6)),oo 3 8 (.conv .u64 (.t 7)),oc 4 9 57 [.t 5,.t 8],mv 5 10 1,oo 6 11 (.app 1 1 (.t 9) (.t 10)),mv 7 4 11] [4])
  (.ret))
theorem is58 : FnIs Tryz.prog 58 12 m58 [.t 4] := .of Tryz.call58 Tryz.func58 (by kernel_rfl)
def m59 : MC :=
  .seq (.reg [mc 0 4 (.sl 1 [] .exact)] [0,1])
  (.seq (.reg [mv 0 6 0,mv 1 7 1,oo 2 8 (.len false (.t 7)),oo 3 9 (.conv .u64 (.t 8)),oc 4 10 57 [.t 6,.t 9],mv 5 11 1,oo 6 12 (.app 1 1 (.t 10) (.t 11)),mv 7 4 12] [1,4])
  (.seq (.reg [mv 0 13 1,oc 1 14 73 [.t 13],mv 2 5 14] [4,5])
  (.seq (.reg [mv 0 15 4,mv 1 16 5,oo 2 17 (.conv .u8 (.t 16)),mv 3 18 5,bc 4 19 .shr 18 (.int .u64 8),oo 5 20 (.conv .u8 (.t 19)),mv 6 21 5,bc 7 22 .shr 21 (.int .u64 16),oo 8 23 (.conv .u8 (.t 22)),mv 9 24 5,bc 10 25 .shr 24 (.int .u64 24),oo 11 26 (.conv .u8 (.t 25)),oo 12 27 (.mkSl 1 [.int .u8 0] [.t 17,.t 20,.t 23,.t 26]),oo 13 28 (.app 1 1 (.t 15) (.t 27)),mv 14 4 28] [4])
  (.ret))))
theorem is59 : FnIs Tryz.prog 59 29 m59 [.t 4] := .of Tryz.call59 Tryz.func59 (by kernel_rfl)
def m60 : MC :=
  .seq (.reg [mc 0 4 (.sl 1 [] .exact)] [0,1])
  (.seq (.reg [mv 0 5 0,mv 1 6 1,oo 2 7 (.conv .u64 (.t 6)),bc 3 8 .shl 7 (.int .u64 1),mv 4 9 1,bc 5 10 .shr 9 (.int .u64 63),oo 6 11 (.conv .u64 (.t 10)),bi 7 12 .xor 8 11,oc 8 13 57 [.t 5,.t 12],mv 9 4 13] [4])
  (.ret))
theorem is60 : FnIs Tryz.prog 60 14 m60 [.t 4] := .of Tryz.call60 Tryz.func60 (by kernel_rfl)
def m61k0 : MC :=
  .cond (.t 38)
    (.reg [mv 0 41 4,fa 1 42 2 3,ld 2 43 1 false 42,oc 3 44 58 [.t 41,.t 43],mv 4 4 44] [4])
    (.skip)
def m61k1 : MC :=
  .cond (.t 31)
    (.reg [mv 0 34 4,fa 1 35 1 3,ld 2 36 1 false 35,oc 3 37 60 [.t 34,.t 36],mv 4 4 37] [4])
    (.seq (.seq (.reg [bc 0 39 .eql 22 (.int .i64 4),mv 1 38 39] [3,4,22,38])
    (.cond (.t 38)
      (.skip)
      (.reg [bc 0 40 .eql 22 (.int .i64 5),mv 1 38 40] [3,4,38])))
    (.named [3,4,38] m61k0))
def m61k2 : MC :=
  .seq (.reg [mv 0 45 4,mv 1 4 45] [4])
  (.ret)
def m61 : MC :=
  .seq (.reg [oo 0 3 (.box (.t 1)),mc 1 4 (.sl 1 [] .exact)] [0,3])
  (.seq (.reg [mv 0 5 0,oo 1 6 (.len false (.t 5)),bc 2 7 .add 6 (.int .i64 16),oo 3 8 (.mkCap 1 1 (.t 7)),mv 4 9 0,oo 5 10 (.app 1 1 (.t 8) (.t 9)),mv 6 4 10] [3,4])
  (.seq (.seq (.reg [ld 0 11 3 true 3,oc 1 12 32 [.t 11],bc 2 13 .neq 12 (.int .i64 0)] [3,4,13])
  (.cond (.t 13)
    (.seq (.reg [mv 0 14 4,mv 1 4 14] [4])
    (.ret))
    (.skip)))
  (.seq (.reg [mv 0 15 4,fa 1 16 0 3,ld 2 17 1 false 16,oo 3 18 (.conv .u8 (.t 17)),oo 4 19 (.mkSl 1 [.int .u8 0] [.t 18]),oo 5 20 (.app 1 1 (.t 15) (.t 19)),mv 6 4 20] [3,4])
  (.seq (.seq (.reg [fa 0 21 0 3,ld 1 22 1 false 21] [3,4,22])
  (.block 0
    (.seq (.reg [bc 0 24 .eql 22 (.int .i64 1),mv 1 23 24] [3,4,22,23])
    (.cond (.t 23)
      (.reg [mv 0 25 4,fa 1 26 1 3,ld 2 27 1 false 26,oo 3 28 (.conv .u8 (.t 27)),oo 4 29 (.mkSl 1 [.int .u8 0] [.t 28]),oo 5 30 (.app 1 1 (.t 25) (.t 29)),mv 6 4 30] [4])
      (.seq (.seq (.reg [bc 0 32 .eql 22 (.int .i64 2),mv 1 31 32] [3,4,22,31])
      (.cond (.t 31)
        (.skip)
        (.reg [bc 0 33 .eql 22 (.int .i64 3),mv 1 31 33] [3,4,22,31])))
      (.named [3,4,22,31] m61k1))))))
  (.named [4] m61k2)))))
theorem is61 : FnIs Tryz.prog 61 46 m61 [.t 4] := .of Tryz.call61 Tryz.func61 (by kernel_rfl)
def m62k0 : MC :=
  .reg [oo 0 15 (.build [.str [],.sl 1 [] .exact,.sl 4 [] .exact] []),mv 1 16 3,⟨2,none,none,.k (.store 3 (.t 0) (.t 15))⟩,⟨3,none,none,.k (.store 1 (.t 1) (.t 16))⟩] []
def m62 : MC :=
  .seq (.rcv (some 5) [mv 1 2 5] [0,1,2])
  (.seq (.reg [mv 0 6 2,oo 1 7 (.cmp 1 true (.t 6) (.c (.nili)))] [0,1,2,7])
  (.cond (.t 7)
    (.seq (.reg [mv 0 9 2,oo 1 10 (.tas 32 (.int .i64 0) (.t 9)),mv 2 8 10,oo 3 11 (.ext (.t 8) 0),oo 4 12 (.ext (.t 8) 1),mv 5 3 11,mv 6 4 12] [0,1,3,4])
    (.seq (.seq (.reg [mv 0 13 4,oo 1 14 (.un .not (.t 13))] [0,1,3,14])
    (.cond (.t 14)
      (.reg [mc 0 3 (.int .i64 3)] [0,1,3])
      (.skip)))
    (.named [0,1,3] m62k0)))
    (.skip)))
theorem is62 : FnIs Tryz.prog 62 17 m62 [] := .of Tryz.call62 Tryz.func62 (by kernel_rfl)
def m63 : MC :=
  .seq (.reg [mc 0 2 (.nilp)] [0])
  (.seq (.reg [mv 0 7 0,oo 1 8 (.nilChk (.t 7)),fa 2 9 0 8,ld 3 10 1 false 9,oc 4 11 25 [.t 10,.c (.int .i64 0)],mv 5 6 11,oo 6 12 (.ext (.t 6) 0),oo 7 13 (.ext (.t 6) 1),oo 8 14 (.ext (.t 6) 2),mv 9 3 12,mv 10 4 13,mv 11 5 14] [0,3,4,5])
  (.seq (.reg [mv 0 15 0,mv 1 16 4,mv 2 17 5,oc 3 18 117 [.t 15,.t 16,.t 17]] [3])
  (.seq (.reg [mv 0 19 3,oo 1 20 (.build [.sl 1 [] .exact] [(0,1,.t 19)]),oo 2 21 (.box (.t 20)),mv 3 2 21] [2])
  (.ret))))
theorem is63 : FnIs Tryz.prog 63 22 m63 [.t 2] := .of Tryz.call63 Tryz.func63 (by kernel_rfl)
def m64 : MC :=
  .seq (.reg [mc 0 2 (.str [])] [0])
  (.seq (.reg [mv 0 7 0,oo 1 8 (.nilChk (.t 7)),fa 2 9 0 8,ld 3 10 1 false 9,oc 4 11 118 [.t 10,.c (.int .i64 0)],mv 5 6 11,oo 6 12 (.ext (.t 6) 0),oo 7 13 (.ext (.t 6) 1),oo 8 14 (.ext (.t 6) 2),mv 9 3 12,mv 10 4 13,mv 11 5 14] [0,3,4,5])
  (.seq (.reg [mv 0 15 0,mv 1 16 4,mv 2 17 5,oc 3 18 117 [.t 15,.t 16,.t 17]] [3])
  (.seq (.reg [mv 0 19 3,mv 1 2 19] [2])
  (.ret))))
theorem is64 : FnIs Tryz.prog 64 20 m64 [.t 2] := .of Tryz.call64 Tryz.func64 (by kernel_rfl)
def m65k0 : MC :=
  .seq (.reg [mv 0 25 5,oo 1 26 (.conv .i64 (.t 25)),mv 2 4 26] [4])
  (.ret)
def m65 : MC :=
  .seq (.reg [mc 0 4 (.int .i64 0)] [0,1])
  (.seq (.reg [mv 0 9 0,oo 1 10 (.nilChk (.t 9)),fa 2 11 0 10,ld 3 12 1 false 11,oc 4 13 119 [.t 12,.c (.int .i64 0)],mv 5 8 13,oo 6 14 (.ext (.t 8) 0),oo 7 15 (.ext (.t 8) 1),oo 8 16 (.ext (.t 8) 2),mv 9 5 14,mv 10 6 15,mv 11 7 16] [0,1,5,6,7])
  (.seq (.reg [mv 0 17 0,mv 1 18 6,mv 2 19 7,oc 3 20 117 [.t 17,.t 18,.t 19]] [1,5])
  (.seq (.seq (.reg [mv 0 21 5,mv 1 22 1,bi 2 23 .gtr 21 22] [5,23])
  (.cond (.t 23)
    (.reg [oo 0 24 (.ifc 32 (.c (.int .i64 3))),⟨1,none,none,.panic (.t 24)⟩] [5])
    (.skip)))
  (.named [5] m65k0))))
theorem is65 : FnIs Tryz.prog 65 27 m65 [.t 4] := .of Tryz.call65 Tryz.func65 (by kernel_rfl)
def m66 : MC :=
  .seq (.reg [mv 0 2 0,oo 1 3 (.nilChk (.t 2)),fa 2 4 0 3,ld 3 5 1 false 4,oo 4 6 (.len false (.t 5)),bc 5 7 .gtr 6 (.int .i64 0)] [7])
  (.cond (.t 7)
    (.reg [oo 0 8 (.ifc 32 (.c (.int .i64 3))),⟨1,none,none,.panic (.t 8)⟩] [])
    (.skip))
theorem is66 : FnIs Tryz.prog 66 9 m66 [] := .of Tryz.call66 Tryz.func66 (by kernel_rfl)
def m67 : MC :=
  .seq (.reg [mc 0 2 (.int .i64 0)] [0])
  (.seq (.reg [mv 0 7 0,oo 1 8 (.nilChk (.t 7)),fa 2 9 0 8,ld 3 10 1 false 9,oc 4 11 120 [.t 10,.c (.int .i64 0)],mv 5 6 11,oo 6 12 (.ext (.t 6) 0),oo 7 13 (.ext (.t 6) 1),oo 8 14 (.ext (.t 6) 2),mv 9 3 12,mv 10 4 13,mv 11 5 14] [0,3,4,5])
  (.seq (.reg [mv 0 15 0,mv 1 16 4,mv 2 17 5,oc 3 18 117 [.t 15,.t 16,.t 17]] [3])
  (.seq (.reg [mv 0 19 3,mv 1 2 19] [2])
  (.ret))))
theorem is67 : FnIs Tryz.prog 67 20 m67 [.t 2] := .of Tryz.call67 Tryz.func67 (by kernel_rfl)
def m68 : MC :=
  .seq (.reg [oo 0 2 (.alloc [.int .i64 0,.int .i64 0,.str []])] [0,2])
  (.seq (.reg [mv 0 7 0,oo 1 8 (.nilChk (.t 7)),fa 2 9 0 8,ld 3 10 1 false 9,oc 4 11 121 [.t 10,.c (.int .i64 0)],mv 5 6 11,oo 6 12 (.ext (.t 6) 0),oo 7 13 (.ext (.t 6) 1),oo 8 14 (.ext (.t 6) 2),oo 9 3 (.alloc [.int .i64 0,.int .i64 0,.str []]),⟨10,none,none,.k (.store 3 (.t 3) (.t 12))⟩,mv 11 4 13,mv 12 5 14] [0,2,3,4,5])
  (.seq (.reg [mv 0 15 0,mv 1 16 4,mv 2 17 5,oc 3 18 117 [.t 15,.t 16,.t 17]] [2,3])
  (.seq (.reg [ld 0 19 3 true 3,⟨1,none,none,.k (.store 3 (.t 2) (.t 19))⟩] [2])
  (.ret))))
theorem is68 : FnIs Tryz.prog 68 20 m68 [.c 2 3 true] := .of Tryz.call68 Tryz.func68 (by kernel_rfl)
def m69k0 : MC :=
  .reg [mv 0 18 0,mv 1 19 1,mv 2 20 5,oo 3 21 (.nilChk (.t 18)),⟨4,none,none,.k (.store 1 (.t 21) (.c (.int .i64 0)))⟩,oo 5 22 (.nilChk (.t 19)),⟨6,none,none,.k (.store 1 (.t 22) (.t 20))⟩] []
def m69 : MC :=
  .seq (.rcv (some 7) [mv 1 4 7] [0,1,4])
  (.seq (.reg [mv 0 8 4,oo 1 9 (.cmp 1 true (.t 8) (.c (.nili)))] [0,1,4,9])
  (.cond (.t 9)
    (.seq (.reg [mv 0 11 4,oo 1 12 (.tas 32 (.int .i64 0) (.t 11)),mv 2 10 12,oo 3 13 (.ext (.t 10) 0),oo 4 14 (.ext (.t 10) 1),mv 5 5 13,mv 6 6 14] [0,1,4,5,6])
    (.seq (.seq (.reg [mv 0 15 6,oo 1 16 (.un .not (.t 15))] [0,1,4,5,16])
    (.cond (.t 16)
      (.reg [mv 0 17 4,⟨1,none,none,.panic (.t 17)⟩] [0,1,5])
      (.skip)))
    (.named [0,1,5] m69k0)))
    (.skip)))
theorem is69 : FnIs Tryz.prog 69 23 m69 [] := .of Tryz.call69 Tryz.func69 (by kernel_rfl)
def m70k0 : MC :=
  .cond (.t 12)
    (.reg [oo 0 13 (.ifc 32 (.c (.int .i64 1))),⟨1,none,none,.panic (.t 13)⟩] [0,1])
    (.skip)
def m70k1 : MC :=
  .seq (.reg [mv 0 14 0,mv 1 15 1,oo 2 16 (.build [.sl 1 [] .exact,.int .i64 0] [(0,1,.t 14),(1,1,.t 15)]),oo 3 17 (.box (.t 16)),mv 4 4 17] [4])
  (.ret)
def m70 : MC :=
  .seq (.reg [mc 0 4 (.nilp)] [0,1])
  (.seq (.seq (.reg [mv 0 5 1,bc 1 6 .lss 5 (.int .i64 0),mv 2 7 6,gm 3 8 7 false 1,gm 4 9 7 false 0,og 5 10 7 false (.len false (.t 9)),og 6 11 7 false (.bin .gtr (.t 8) (.t 10)),oo 7 12 (.pick (.t 7) (.c (.bool true)) (.t 11))] [0,1,12])
  (.named [0,1,12] m70k0))
  (.named [0,1] m70k1))
theorem is70 : FnIs Tryz.prog 70 18 m70 [.t 4] := .of Tryz.call70 Tryz.func70 (by kernel_rfl)
def m71k0 : MC :=
  .cond (.t 36)
    (.reg [oo 0 37 (.ifc 32 (.c (.int .i64 3))),⟨1,none,none,.panic (.t 37)⟩] [2])
    (.skip)
def m71k1 : MC :=
  .seq (.reg [mv 0 38 2,mv 1 2 38] [2])
  (.ret)
def m71l0 : MC :=
  .seq (.seq (.reg [mv 0 5 3,bc 1 6 .lss 5 (.int .i64 10)] [0,2,3,6])
  (.cond (.t 6)
    (.skip)
    (.exit 0)))
  (.seq (.block 1
    (.seq (.reg [mv 0 9 0,oc 1 10 72 [.t 9,.c (.int .u64 1)],oo 2 11 (.iadr 1 (.t 10) (.c (.int .i64 0))),ld 3 12 1 false 11,mv 4 4 12] [0,2,3,4])
    (.seq (.reg [mv 0 13 2,mv 1 14 4,bc 2 15 .and 14 (.int .u8 127),oo 3 16 (.conv .u64 (.t 15)),mv 4 17 3,oo 5 18 (.bin .mul (.c (.int .i64 7)) (.t 17)),bi 6 19 .shl 16 18,bi 7 20 .or 13 19,mv 8 2 20] [0,2,3,4])
    (.seq (.reg [mv 0 21 4,bc 1 22 .lss 21 (.int .u8 128)] [0,2,3,4,22])
    (.cond (.t 22)
      (.seq (.seq (.reg [mv 0 23 3,bc 1 24 .eql 23 (.int .i64 9),mv 2 25 24,gm 3 26 25 true 4,og 4 27 25 true (.bin .gtr (.t 26) (.c (.int .u8 1))),oo 5 28 (.pick (.t 25) (.t 27) (.c (.bool false))),mv 6 29 28,gm 7 30 29 false 3,og 8 31 29 false (.bin .gtr (.t 30) (.c (.int .i64 0))),gm 9 32 29 false 31,gm 10 33 32 true 4,og 11 34 32 true (.bin .eql (.t 33) (.c (.int .u8 0))),og 12 35 29 false (.pick (.t 32) (.t 34) (.c (.bool false))),oo 13 36 (.pick (.t 29) (.c (.bool true)) (.t 35))] [2,36])
      (.named [2,36] m71k0))
      (.named [2] m71k1))
      (.skip))))))
  (.reg [mv 0 7 3,bc 1 8 .add 7 (.int .i64 1),mv 2 3 8] [0,2,3]))
def m71k2 : MC :=
  .reg [oo 0 39 (.ifc 32 (.c (.int .i64 3))),⟨1,none,none,.panic (.t 39)⟩] [2]
def m71 : MC :=
  .seq (.reg [mc 0 2 (.int .u64 0)] [0,2])
  (.seq (.seq (.reg [mc 0 3 (.int .i64 0)] [0,2,3])
  (.block 0
    (.loop m71l0)))
  (.named [2] m71k2))
theorem is71 : FnIs Tryz.prog 71 40 m71 [.t 2] := .of Tryz.call71 Tryz.func71 (by kernel_rfl)
def m72k0 : MC :=
  .seq (.reg [mv 0 21 0,oo 1 22 (.nilChk (.t 21)),fa 2 23 1 22,ld 3 24 1 false 23,mv 4 25 1,oo 5 26 (.conv .i64 (.t 25)),bi 6 27 .add 24 26,mv 7 5 27] [0,5])
  (.seq (.any (on1 (mv 0 28 0) <|
      on1 (oo 1 29 (.nilChk (.t 28))) <|
      on1 (fa 2 30 0 29) <|
      on1 (ld 3 31 1 false 30) <|
      on1 (mv 4 32 0) <|
      on1 (oo 5 33 (.nilChk (.t 32))) <|
      on1 (fa 6 34 1 33) <|
      on1 (ld 7 35 1 false 34) <|
      on1 (mv 8 36 5) <|
      on1 (mv 9 37 5) <|
      on1 (oo 10 38 (.slV 1 (.t 31) (some (.t 35)) (some (.t 36)) (some (.t 37)))) <|
      on1 (mv 11 6 38) <|
      .done) [] [0,5,6])
  (.seq (.reg [mv 0 39 0,mv 1 40 5,oo 2 41 (.nilChk (.t 39)),fa 3 42 1 41,⟨4,none,none,.k (.store 1 (.t 42) (.t 40))⟩] [6])
  (.seq (.reg [mv 0 43 6,mv 1 4 43] [4])
  (.ret))))
def m72 : MC :=
  .seq (.reg [mc 0 4 (.sl 1 [] .exact)] [0,1])
  (.seq (.seq (.any (on1 (mv 0 7 1) <|
      on1 (mv 1 8 0) <|
      on1 (oo 2 9 (.nilChk (.t 8))) <|
      on1 (fa 3 10 0 9) <|
      on1 (ld 4 11 1 false 10) <|
      on1 (oo 5 12 (.len false (.t 11))) <|
      on1 (mv 6 13 0) <|
      on1 (oo 7 14 (.nilChk (.t 13))) <|
      on1 (fa 8 15 1 14) <|
      on1 (ld 9 16 1 false 15) <|
      on1 (bi 10 17 .sub 12 16) <|
      on1 (oo 11 18 (.conv .u64 (.t 17))) <|
      on1 (bi 12 19 .gtr 7 18) <|
      .done) [] [0,1,19])
  (.cond (.t 19)
    (.reg [oo 0 20 (.ifc 32 (.c (.int .i64 41))),⟨1,none,none,.panic (.t 20)⟩] [0,1])
    (.skip)))
  (.named [0,1] m72k0))
theorem is72 : FnIs Tryz.prog 72 44 m72 [.t 4] := .of Tryz.call72 Tryz.func72 (by kernel_rfl)
def m73 : MC :=
  .seq (.reg [mc 0 2 (.int .u32 0)] [0])
  (.seq (.reg [mv 0 3 0,oc 1 4 122 [.c (.int .u32 0),.t 3],mv 2 2 4] [2])
  (.ret))
theorem is73 : FnIs Tryz.prog 73 5 m73 [.t 2] := .of Tryz.call73 Tryz.func73 (by kernel_rfl)
def m91k0 : MC :=
  .cond (.t 42)
    (.seq (.reg [mc 0 2 (.bool false)] [2])
    (.ret))
    (.skip)
def m91k1 : MC :=
  .cond (.t 61)
    (.seq (.reg [mc 0 2 (.bool false)] [2])
    (.ret))
    (.skip)
def m91k2 : MC :=
  .reg [bc 0 62 .add 46 (.int .i64 1),mv 1 46 62] [1,44,45,46]
def m91l0 : MC :=
  .seq (.reg [bi 0 47 .lss 46 45] [1,44,45,46,47])
  (.seq (.cond (.t 47)
    (.skip)
    (.exit 0))
  (.seq (.block 1
    (.seq (.reg [mv 0 48 46,oo 1 49 (.iadr 1 (.t 44) (.t 46)),ld 2 50 1 false 49,mv 3 3 48,mv 4 4 50] [1,3,4,44,45,46])
    (.seq (.reg [mv 0 51 4,oc 1 52 92 [.t 51],oo 2 53 (.un .not (.t 52)),mv 3 54 53,og 4 55 54 false (.fadr 1 (.t 1)),og 5 56 54 false (.load 1 false (.t 55)),gm 6 57 54 false 3,og 7 58 54 false (.slV 1 (.t 56) none (some (.t 57)) none),gm 8 59 54 false 4,⟨9,some 60,(some (54,false)),.call (.f 93) [.t 58,.t 59]⟩,oo 10 61 (.pick (.t 54) (.c (.bool true)) (.t 60))] [1,44,45,46,61])
    (.named [1,44,45,46,61] m91k1))))
  (.named [1,44,45,46] m91k2)))
def m91k3 : MC :=
  .seq (.reg [fa 0 63 2 1,ld 1 64 1 false 63,oc 2 65 153 [.t 64,.f 154],oo 3 66 (.un .not (.t 65)),mv 4 2 66] [2])
  (.ret)
def m91k4 : MC :=
  .seq (.seq (.reg [fa 0 43 1 1,ld 1 44 1 false 43,oo 2 45 (.len false (.t 44)),mc 3 46 (.int .i64 0)] [1,44,45,46])
  (.block 0
    (.loop m91l0)))
  (.named [1] m91k3)
def m91 : MC :=
  .seq (.reg [oo 0 1 (.box (.t 0)),mc 1 2 (.bool false)] [1])
  (.seq (.seq (.reg [fa 0 5 0 1,ld 1 6 1 false 5,oc 2 7 92 [.t 6],oo 3 8 (.un .not (.t 7)),mv 4 9 8,og 5 10 9 false (.fadr 1 (.t 1)),og 6 11 9 false (.load 1 false (.t 10)),og 7 12 9 false (.len false (.t 11)),og 8 13 9 false (.bin .lss (.t 12) (.c (.int .i64 1))),oo 9 14 (.pick (.t 9) (.c (.bool true)) (.t 13)),mv 10 15 14,og 11 16 15 false (.fadr 1 (.t 1)),og 12 17 15 false (.load 1 false (.t 16)),og 13 18 15 false (.len false (.t 17)),og 14 19 15 false (.bin .gtr (.t 18) (.c (.int .i64 8))),oo 15 20 (.pick (.t 15) (.c (.bool true)) (.t 19)),mv 16 21 20,og 17 22 21 false (.fadr 2 (.t 1)),og 18 23 21 false (.load 1 false (.t 22)),og 19 24 21 false (.len false (.t 23)),og 20 25 21 false (.bin .gtr (.t 24) (.c (.int .i64 256))),oo 21 26 (.pick (.t 21) (.c (.bool true)) (.t 25)),mv 22 27 26,og 23 28 27 false (.fadr 3 (.t 1)),og 24 29 27 false (.load 1 false (.t 28)),⟨25,some 30,(some (27,false)),.call (.f 152) [.t 29]⟩,og 26 31 27 false (.un .not (.t 30)),oo 27 32 (.pick (.t 27) (.c (.bool true)) (.t 31)),mv 28 33 32,og 29 34 33 false (.fadr 4 (.t 1)),og 30 35 33 false (.load 1 false (.t 34)),og 31 36 33 false (.bin .lss (.t 35) (.c (.int .i64 0))),oo 32 37 (.pick (.t 33) (.c (.bool true)) (.t 36)),mv 33 38 37,og 34 39 38 false (.fadr 4 (.t 1)),og 35 40 38 false (.load 1 false (.t 39)),og 36 41 38 false (.bin .gtr (.t 40) (.c (.int .i64 1000))),oo 37 42 (.pick (.t 38) (.c (.bool true)) (.t 41))] [1,42])
  (.named [1,42] m91k0))
  (.named [1] m91k4))
theorem is91 : FnIs Tryz.prog 91 67 m91 [.t 2] := .of Tryz.call91 Tryz.func91 (by kernel_rfl)
def m92k0 : MC :=
  .cond (.t 15)
    (.seq (.reg [mc 0 2 (.bool false)] [2])
    (.ret))
    (.skip)
def m92k1 : MC :=
  .cond (.t 31)
    (.skip)
    (.seq (.reg [mc 0 2 (.bool false)] [2])
    (.ret))
def m92k2 : MC :=
  .cond (.t 24)
    (.skip)
    (.seq (.reg [mv 0 32 3,bc 1 33 .gtr 32 (.int .i64 0),mv 2 34 33,gm 3 35 34 true 4,og 4 36 34 true (.bin .geq (.t 35) (.c (.int .u8 48))),gm 5 37 34 true 36,gm 6 38 37 true 4,og 7 39 37 true (.bin .leq (.t 38) (.c (.int .u8 57))),og 8 40 34 true (.pick (.t 37) (.t 39) (.c (.bool false))),gm 9 41 34 true 40,gm 10 42 41 false 4,og 11 43 41 false (.bin .eql (.t 42) (.c (.int .u8 95))),og 12 44 34 true (.pick (.t 41) (.c (.bool true)) (.t 43)),oo 13 45 (.pick (.t 34) (.t 44) (.c (.bool false))),mv 14 31 45] [0,17,18,31])
    (.named [0,17,18,31] m92k1))
def m92k3 : MC :=
  .reg [bc 0 46 .add 18 (.int .i64 1),mv 1 18 46] [0,17,18]
def m92l0 : MC :=
  .seq (.reg [bi 0 19 .lss 18 17] [0,17,18,19])
  (.seq (.cond (.t 19)
    (.skip)
    (.exit 0))
  (.seq (.block 1
    (.seq (.reg [mv 0 20 18,mv 1 3 20] [0,3,17,18])
    (.seq (.reg [mv 0 21 0,mv 1 22 3,oo 2 23 (.istr (.t 21) (.t 22)),mv 3 4 23] [0,3,4,17,18])
    (.block 2
      (.seq (.reg [mv 0 25 4,bc 1 26 .geq 25 (.int .u8 97),mv 2 27 26,gm 3 28 27 true 4,og 4 29 27 true (.bin .leq (.t 28) (.c (.int .u8 122))),oo 5 30 (.pick (.t 27) (.t 29) (.c (.bool false))),mv 6 24 30] [0,3,4,17,18,24])
      (.named [0,3,4,17,18,24] m92k2))))))
  (.named [0,17,18] m92k3)))
def m92k4 : MC :=
  .seq (.reg [mc 0 2 (.bool true)] [2])
  (.ret)
def m92k5 : MC :=
  .seq (.seq (.reg [mv 0 16 0,oo 1 17 (.len true (.t 16)),mc 2 18 (.int .i64 0)] [0,17,18])
  (.block 0
    (.loop m92l0)))
  (.named [] m92k4)
def m92 : MC :=
  .seq (.reg [mc 0 2 (.bool false)] [0])
  (.seq (.seq (.reg [mv 0 5 0,bc 1 6 .eql 5 (.str []),mv 2 7 6,gm 3 8 7 false 0,og 4 9 7 false (.len true (.t 8)),og 5 10 7 false (.bin .gtr (.t 9) (.c (.int .i64 24))),oo 6 11 (.pick (.t 7) (.c (.bool true)) (.t 10)),mv 7 12 11,gm 8 13 12 false 0,⟨9,some 14,(some (12,false)),.call (.f 156) [.t 13]⟩,oo 10 15 (.pick (.t 12) (.c (.bool true)) (.t 14))] [0,15])
  (.named [0,15] m92k0))
  (.named [0] m92k5))
theorem is92 : FnIs Tryz.prog 92 47 m92 [.t 2] := .of Tryz.call92 Tryz.func92 (by kernel_rfl)
def m93 : MC :=
  .seq (.reg [mc 0 4 (.bool false)] [0,1])
  (.seq (.reg [mv 0 5 0,mv 1 6 1,oc 2 7 157 [.t 5,.t 6],bc 3 8 .geq 7 (.int .i64 0),mv 4 4 8] [4])
  (.ret))
theorem is93 : FnIs Tryz.prog 93 9 m93 [.t 4] := .of Tryz.call93 Tryz.func93 (by kernel_rfl)
def m94 : MC :=
  .seq (.reg [mc 0 2 (.bool false)] [0])
  (.seq (.reg [mv 0 3 0,bc 1 4 .geq 3 (.int .i64 0),mv 2 5 4,gm 3 6 5 true 0,og 4 7 5 true (.bin .leq (.t 6) (.c (.int .i64 1099511627776))),oo 5 8 (.pick (.t 5) (.t 7) (.c (.bool false))),mv 6 2 8] [2])
  (.ret))
theorem is94 : FnIs Tryz.prog 94 9 m94 [.t 2] := .of Tryz.call94 Tryz.func94 (by kernel_rfl)
def m95 : MC :=
  .seq (.reg [oo 0 2 (.box (.t 0)),oo 1 3 (.box (.t 1)),mc 2 4 (.int .i64 0)] [2,3])
  (.seq (.any (on1 (fa 0 5 0 2) <|
      .one (ld 1 6 1 false 5) true false <|
      on1 (fa 2 7 0 3) <|
      .one (ld 3 8 1 false 7) true false <|
      on1 (fa 5 10 1 2) <|
      .one (ld 6 11 1 false 10) true false <|
      on1 (fa 7 12 1 3) <|
      .one (ld 8 13 1 false 12) true false <|
      on1 (fa 10 15 2 2) <|
      .one (ld 11 16 1 false 15) true false <|
      on1 (fa 12 17 2 3) <|
      .one (ld 13 18 1 false 17) true false <|
      .one (oc 4 9 159 [.t 6,.t 8]) false true <|
      .one (oc 9 14 160 [.t 11,.t 13]) false true <|
      .one (oc 14 19 160 [.t 16,.t 18]) false true <|
      on1 (oo 15 20 (.mkSl 1 [.int .i64 0] [.t 9,.t 14,.t 19])) <|
      .one (oc 16 21 158 [.t 20]) false true <|
      on1 (mv 17 4 21) <|
      .done) [2,3] [4])
  (.ret))
theorem is95 : FnIs Tryz.prog 95 22 m95 [.t 4] := .of Tryz.call95 Tryz.func95 (by kernel_rfl)
def m96 : MC :=
  .seq (.reg [mc 0 4 (.bool false)] [0,1])
  (.seq (.reg [mv 0 5 0,mv 1 6 1,oc 2 7 161 [.t 5,.t 6],bc 3 8 .geq 7 (.int .i64 0),mv 4 4 8] [4])
  (.ret))
theorem is96 : FnIs Tryz.prog 96 9 m96 [.t 4] := .of Tryz.call96 Tryz.func96 (by kernel_rfl)
def m97 : MC :=
  .seq (.reg [oo 0 1 (.box (.t 0)),mc 1 2 (.bool false)] [1])
  (.seq (.reg [ld 0 3 3 true 1,oc 1 4 32 [.t 3],bc 2 5 .neq 4 (.int .i64 0),mv 3 2 5] [2])
  (.ret))
theorem is97 : FnIs Tryz.prog 97 6 m97 [.t 2] := .of Tryz.call97 Tryz.func97 (by kernel_rfl)
def m98 : MC :=
  .seq (.reg [mc 0 2 (.bool false)] [0])
  (.seq (.reg [mv 0 3 0,bc 1 4 .neq 3 (.str []),mv 2 5 4,gm 3 6 5 true 0,og 4 7 5 true (.len true (.t 6)),og 5 8 5 true (.bin .leq (.t 7) (.c (.int .i64 24))),oo 6 9 (.pick (.t 5) (.t 8) (.c (.bool false))),mv 7 10 9,gm 8 11 10 true 0,og 9 12 10 true (.s2y (.t 11)),⟨10,some 13,(some (10,true)),.call (.f 162) [.t 12,.c (.int .i64 0)]⟩,gm 11 14 10 true 0,og 12 15 10 true (.len true (.t 14)),og 13 16 10 true (.bin .eql (.t 13) (.t 15)),oo 14 17 (.pick (.t 10) (.t 16) (.c (.bool false))),mv 15 18 17,gm 16 19 18 true 0,⟨17,some 20,(some (18,true)),.call (.f 163) [.t 19]⟩,og 18 21 18 true (.un .not (.t 20)),oo 19 22 (.pick (.t 18) (.t 21) (.c (.bool false))),mv 20 2 22] [2])
  (.ret))
theorem is98 : FnIs Tryz.prog 98 23 m98 [.t 2] := .of Tryz.call98 Tryz.func98 (by kernel_rfl)
def m99 : MC :=
  .seq (.reg [mc 0 2 (.bool false)] [0])
  (.seq (.reg [mv 0 3 0,bc 1 4 .geq 3 (.int .i64 0),mv 2 5 4,gm 3 6 5 true 0,og 4 7 5 true (.bin .leq (.t 6) (.c (.int .i64 1099511627776))),oo 5 8 (.pick (.t 5) (.t 7) (.c (.bool false))),mv 6 2 8] [2])
  (.ret))
theorem is99 : FnIs Tryz.prog 99 9 m99 [.t 2] := .of Tryz.call99 Tryz.func99 (by kernel_rfl)
def m100l0 : MC :=
  .seq (.seq (.reg [mv 0 6 5,mv 1 7 0,oo 2 8 (.len false (.t 7)),bi 3 9 .lss 6 8] [0,1,5,9])
  (.cond (.t 9)
    (.skip)
    (.exit 0)))
  (.seq (.block 1
    (.seq (.reg [mv 0 12 0,mv 1 13 5,oo 2 14 (.iadr 1 (.t 12) (.t 13)),ld 3 15 1 false 14,mv 4 16 1,bi 5 17 .eql 15 16] [0,1,5,17])
    (.cond (.t 17)
      (.seq (.reg [mc 0 4 (.bool true)] [4])
      (.ret))
      (.skip))))
  (.reg [mv 0 10 5,bc 1 11 .add 10 (.int .i64 1),mv 2 5 11] [0,1,5]))
def m100k0 : MC :=
  .seq (.reg [mc 0 4 (.bool false)] [4])
  (.ret)
def m100 : MC :=
  .seq (.reg [mc 0 4 (.bool false)] [0,1])
  (.seq (.seq (.reg [mc 0 5 (.int .i64 0)] [0,1,5])
  (.block 0
    (.loop m100l0)))
  (.named [] m100k0))
theorem is100 : FnIs Tryz.prog 100 18 m100 [.t 4] := .of Tryz.call100 Tryz.func100 (by kernel_rfl)
def m101 : MC :=
  .seq (.reg [oo 0 1 (.box (.t 0)),mc 1 2 (.bool false)] [1])
  (.seq (.reg [fa 0 4 0 1,ld 1 5 1 false 4,oc 2 6 164 [.t 5],mv 3 3 6] [1,3])
  (.seq (.reg [mv 0 7 3,mv 1 8 7,og 2 9 8 true (.fadr 1 (.t 1)),og 3 10 8 true (.load 1 false (.t 9)),⟨4,some 11,(some (8,true)),.call (.f 99) [.t 10]⟩,oo 5 12 (.pick (.t 8) (.t 11) (.c (.bool false))),mv 6 13 12,og 7 14 13 true (.fadr 2 (.t 1)),og 8 15 13 true (.load 1 false (.t 14)),⟨9,some 16,(some (13,true)),.call (.f 99) [.t 15]⟩,oo 10 17 (.pick (.t 13) (.t 16) (.c (.bool false))),mv 11 2 17] [2])
  (.ret)))
theorem is101 : FnIs Tryz.prog 101 18 m101 [.t 2] := .of Tryz.call101 Tryz.func101 (by kernel_rfl)
def m105l0 : MC :=
  .seq (.seq (.reg [mv 0 11 5,mv 1 12 0,oo 2 13 (.len false (.t 12)),bi 3 14 .lss 11 13] [0,1,5,14])
  (.cond (.t 14)
    (.skip)
    (.exit 0)))
  (.seq (.block 1
    (.seq (.any (on1 (mv 0 17 0) <|
        on1 (mv 1 18 5) <|
        on1 (oo 2 19 (.iadr 3 (.t 17) (.t 18))) <|
        on1 (ld 3 20 3 true 19) <|
        on1 (mv 4 21 1) <|
        on1 (mv 5 22 5) <|
        on1 (oo 6 23 (.iadr 3 (.t 21) (.t 22))) <|
        on1 (ld 7 24 3 true 23) <|
        on1 (oo 8 25 (.eqv [.i,.i,.s] true (.t 20) (.t 24))) <|
        .done) [] [0,1,5,25])
    (.cond (.t 25)
      (.seq (.reg [mc 0 4 (.bool false)] [4])
      (.ret))
      (.skip))))
  (.reg [mv 0 15 5,bc 1 16 .add 15 (.int .i64 1),mv 2 5 16] [0,1,5]))
def m105k0 : MC :=
  .seq (.reg [mc 0 4 (.bool true)] [4])
  (.ret)
def m105 : MC :=
  .seq (.reg [mc 0 4 (.bool false)] [0,1])
  (.seq (.seq (.reg [mv 0 6 0,oo 1 7 (.len false (.t 6)),mv 2 8 1,oo 3 9 (.len false (.t 8)),bi 4 10 .neq 7 9] [0,1,10])
  (.cond (.t 10)
    (.seq (.reg [mc 0 4 (.bool false)] [4])
    (.ret))
    (.skip)))
  (.seq (.seq (.reg [mc 0 5 (.int .i64 0)] [0,1,5])
  (.block 0
    (.loop m105l0)))
  (.named [] m105k0)))
theorem is105 : FnIs Tryz.prog 105 26 m105 [.t 4] := .of Tryz.call105 Tryz.func105 (by kernel_rfl)
def m109 : MC :=
  .seq (.reg [oo 0 1 (.box (.t 0)),mc 1 2 (.str [])] [])
  (.seq (.reg [mc 0 2 (.str [110,117,108,108])] [2])
  (.ret))
theorem is109 : FnIs Tryz.prog 109 3 m109 [.t 2] := .of Tryz.call109 Tryz.func109 (by kernel_rfl)
def m110 : MC :=
  .seq (.reg [oo 0 1 (.box (.t 0)),mc 1 2 (.str [])] [1])
  (.seq (.reg [fa 0 3 0 1,fa 1 4 1 3,ld 2 5 1 false 4,bc 3 6 .eql 5 (.int .i64 1),oc 4 7 170 [.t 6],mv 5 2 7] [2])
  (.ret))
theorem is110 : FnIs Tryz.prog 110 8 m110 [.t 2] := .of Tryz.call110 Tryz.func110 (by kernel_rfl)
def m111 : MC :=
  .seq (.reg [oo 0 1 (.box (.t 0)),mc 1 2 (.str [])] [1])
  (.seq (.reg [fa 0 3 0 1,fa 1 4 1 3,ld 2 5 1 false 4,oc 3 6 51 [.t 5],mv 4 2 6] [2])
  (.ret))
theorem is111 : FnIs Tryz.prog 111 7 m111 [.t 2] := .of Tryz.call111 Tryz.func111 (by kernel_rfl)
def m112 : MC :=
  .seq (.reg [oo 0 1 (.box (.t 0)),mc 1 2 (.str [])] [1])
  (.seq (.reg [fa 0 3 0 1,fa 1 4 1 3,ld 2 5 1 false 4,oc 3 6 171 [.t 5],mv 4 2 6] [2])
  (.ret))
theorem is112 : FnIs Tryz.prog 112 7 m112 [.t 2] := .of Tryz.call112 Tryz.func112 (by kernel_rfl)
def m113 : MC :=
  .seq (.reg [oo 0 1 (.box (.t 0)),mc 1 2 (.str [])] [1])
  (.seq (.reg [fa 0 3 0 1,fa 1 4 2 3,ld 2 5 1 false 4,oo 3 6 (.bin .add (.c (.str [34])) (.t 5)),bc 4 7 .add 6 (.str [34]),mv 5 2 7] [2])
  (.ret))
theorem is113 : FnIs Tryz.prog 113 8 m113 [.t 2] := .of Tryz.call113 Tryz.func113 (by kernel_rfl)
def m114 : MC :=
  .seq (.reg [oo 0 1 (.box (.t 0)),mc 1 2 (.str [])] [1])
  (.seq (.reg [fa 0 3 0 1,fa 1 4 2 3,ld 2 5 1 false 4,oo 3 6 (.bin .add (.c (.str [64])) (.t 5)),mv 4 2 6] [2])
  (.ret))
theorem is114 : FnIs Tryz.prog 114 7 m114 [.t 2] := .of Tryz.call114 Tryz.func114 (by kernel_rfl)
def m115k0 : MC :=
  .cond (.t 13)
    (.skip)
    (.exit 0)
def m115k1 : MC :=
  .seq (.reg [mv 0 26 6,oo 1 27 (.bin .add (.c (.int .i64 48)) (.t 26)),oo 2 28 (.conv .u8 (.t 27)),oo 3 29 (.mkSl 1 [.int .u8 0] [.t 28]),oo 4 30 (.b2s (.t 29)),mv 5 31 3,bi 6 32 .add 30 31,mv 7 3 32] [0,3,4,5])
  (.reg [mv 0 33 4,bc 1 34 .quo 33 (.int .i64 10),mv 2 4 34] [0,3,4,5])
def m115k2 : MC :=
  .seq (.seq (.reg [mv 0 22 5,bc 1 23 .eql 22 (.int .i64 6)] [0,3,4,5,6,23])
  (.cond (.t 23)
    (.reg [mv 0 24 3,oo 1 25 (.bin .add (.c (.str [46])) (.t 24)),mv 2 3 25] [0,3,4,5,6])
    (.skip)))
  (.named [0,3,4,5,6] m115k1)
def m115k3 : MC :=
  .reg [mv 0 14 5,bc 1 15 .add 14 (.int .i64 1),mv 2 5 15] [0,3,4,5]
def m115k4 : MC :=
  .seq (.block 1
    (.seq (.reg [mv 0 16 4,bc 1 17 .rem 16 (.int .i64 10),mv 2 6 17] [0,3,4,5,6])
    (.seq (.seq (.reg [mv 0 18 6,bc 1 19 .lss 18 (.int .i64 0)] [0,3,4,5,6,19])
    (.cond (.t 19)
      (.reg [mv 0 20 6,oo 1 21 (.un .neg (.t 20)),mv 2 6 21] [0,3,4,5,6])
      (.skip)))
    (.named [0,3,4,5,6] m115k2))))
  (.named [0,3,4,5] m115k3)
def m115l0 : MC :=
  .seq (.seq (.reg [mv 0 8 5,bc 1 9 .lss 8 (.int .i64 7),mv 2 10 9,gm 3 11 10 false 4,og 4 12 10 false (.bin .neq (.t 11) (.c (.int .i64 0))),oo 5 13 (.pick (.t 10) (.c (.bool true)) (.t 12))] [0,3,4,5,13])
  (.named [0,3,4,5,13] m115k0))
  (.named [0,3,4,5] m115k4)
def m115k5 : MC :=
  .seq (.seq (.reg [mv 0 35 0,bc 1 36 .lss 35 (.int .i64 0)] [3,36])
  (.cond (.t 36)
    (.seq (.reg [mv 0 37 3,oo 1 38 (.bin .add (.c (.str [45])) (.t 37)),mv 2 2 38] [2])
    (.ret))
    (.skip)))
  (.seq (.reg [mv 0 39 3,mv 1 2 39] [2])
  (.ret))
def m115 : MC :=
  .seq (.reg [mc 0 2 (.str [])] [0])
  (.seq (.reg [mc 0 3 (.str [])] [0,3])
  (.seq (.reg [mv 0 7 0,mv 1 4 7] [0,3,4])
  (.seq (.seq (.reg [mc 0 5 (.int .i64 0)] [0,3,4,5])
  (.block 0
    (.loop m115l0)))
  (.named [0,3] m115k5))))
theorem is115 : FnIs Tryz.prog 115 40 m115 [.t 2] := .of Tryz.call115 Tryz.func115 (by kernel_rfl)
def m116k0 : MC :=
  .cond (.t 31)
    (.seq (.reg [mc 0 2 (.int .i64 2)] [2])
    (.ret))
    (.skip)
def m116k1 : MC :=
  .cond (.t 51)
    (.seq (.reg [mc 0 2 (.int .i64 3)] [2])
    (.ret))
    (.skip)
def m116k2 : MC :=
  .seq (.reg [mc 0 2 (.int .i64 0)] [2])
  (.ret)
def m116k3 : MC :=
  .seq (.seq (.reg [fa 0 32 0 1,ld 1 33 1 false 32,bc 2 34 .eql 33 (.int .i64 4),mv 3 35 34,og 4 36 35 true (.fadr 2 (.t 1)),og 5 37 35 true (.load 1 false (.t 36)),⟨6,some 38,(some (35,true)),.call (.f 174) [.t 37]⟩,og 7 39 35 true (.un .not (.t 38)),oo 8 40 (.pick (.t 35) (.t 39) (.c (.bool false))),mv 9 41 40,og 10 42 41 false (.fadr 0 (.t 1)),og 11 43 41 false (.load 1 false (.t 42)),og 12 44 41 false (.bin .eql (.t 43) (.c (.int .i64 5))),gm 13 45 41 false 44,og 14 46 45 true (.fadr 2 (.t 1)),og 15 47 45 true (.load 1 false (.t 46)),⟨16,some 48,(some (45,true)),.call (.f 175) [.t 47]⟩,og 17 49 45 true (.un .not (.t 48)),og 18 50 41 false (.pick (.t 45) (.t 49) (.c (.bool false))),oo 19 51 (.pick (.t 41) (.c (.bool true)) (.t 50))] [51])
  (.named [51] m116k1))
  (.named [] m116k2)
def m116 : MC :=
  .seq (.reg [oo 0 1 (.box (.t 0)),mc 1 2 (.int .i64 0)] [1])
  (.seq (.seq (.reg [ld 0 3 3 true 1,oc 1 4 172 [.t 3],oo 2 5 (.un .not (.t 4))] [1,5])
  (.cond (.t 5)
    (.seq (.reg [mc 0 2 (.int .i64 1)] [2])
    (.ret))
    (.skip)))
  (.seq (.seq (.reg [fa 0 6 1 1,ld 1 7 1 false 6,oc 2 8 173 [.t 7],oo 3 9 (.un .not (.t 8)),mv 4 10 9,og 5 11 10 false (.fadr 0 (.t 1)),og 6 12 10 false (.load 1 false (.t 11)),og 7 13 10 false (.bin .eql (.t 12) (.c (.int .i64 4))),gm 8 14 10 false 13,og 9 15 14 true (.fadr 2 (.t 1)),og 10 16 14 true (.load 1 false (.t 15)),og 11 17 14 true (.len true (.t 16)),og 12 18 14 true (.bin .gtr (.t 17) (.c (.int .i64 64))),og 13 19 10 false (.pick (.t 14) (.t 18) (.c (.bool false))),oo 14 20 (.pick (.t 10) (.c (.bool true)) (.t 19)),mv 15 21 20,og 16 22 21 false (.fadr 0 (.t 1)),og 17 23 21 false (.load 1 false (.t 22)),og 18 24 21 false (.bin .eql (.t 23) (.c (.int .i64 5))),gm 19 25 21 false 24,og 20 26 25 true (.fadr 2 (.t 1)),og 21 27 25 true (.load 1 false (.t 26)),og 22 28 25 true (.len true (.t 27)),og 23 29 25 true (.bin .gtr (.t 28) (.c (.int .i64 32))),og 24 30 21 false (.pick (.t 25) (.t 29) (.c (.bool false))),oo 25 31 (.pick (.t 21) (.c (.bool true)) (.t 30))] [1,31])
  (.named [1,31] m116k0))
  (.named [1] m116k3)))
theorem is116 : FnIs Tryz.prog 116 52 m116 [.t 2] := .of Tryz.call116 Tryz.func116 (by kernel_rfl)
def m117k0 : MC :=
  .any (on1 (mv 0 10 0) <|
      on1 (mv 1 11 0) <|
      on1 (oo 2 12 (.nilChk (.t 11))) <|
      on1 (fa 3 13 0 12) <|
      on1 (ld 4 14 1 false 13) <|
      on1 (mv 5 15 1) <|
      on1 (mv 6 16 0) <|
      on1 (oo 7 17 (.nilChk (.t 16))) <|
      on1 (fa 8 18 0 17) <|
      on1 (ld 9 19 1 false 18) <|
      on1 (oo 10 20 (.len false (.t 19))) <|
      on1 (mv 11 21 0) <|
      on1 (oo 12 22 (.nilChk (.t 21))) <|
      on1 (fa 13 23 0 22) <|
      on1 (ld 14 24 1 false 23) <|
      on1 (oo 15 25 (.len false (.t 24))) <|
      on1 (oo 16 26 (.slV 1 (.t 14) (some (.t 15)) (some (.t 20)) (some (.t 25)))) <|
      on1 (oo 17 27 (.nilChk (.t 10))) <|
      on1 (fa 18 28 0 27) <|
      on1 ⟨19,none,none,.k (.store 1 (.t 28) (.t 26))⟩ <|
      .done) [] []
def m117 : MC :=
  .seq (.seq (.reg [mv 0 6 2,bc 1 7 .neq 6 (.int .i64 0)] [0,1,2,7])
  (.cond (.t 7)
    (.reg [mv 0 8 2,oo 1 9 (.ifc 32 (.t 8)),⟨2,none,none,.panic (.t 9)⟩] [0,1])
    (.skip)))
  (.named [0,1] m117k0)
theorem is117 : FnIs Tryz.prog 117 29 m117 [] := .of Tryz.call117 Tryz.func117 (by kernel_rfl)
def m118 : MC :=
  .seq (.reg [mc 0 4 (.str []),oo 1 5 (.alloc [.int .i64 0]),oo 2 6 (.alloc [.int .i64 0])] [0,1,4,5,6])
  (.seq (.dfr [] (.f 69) [.t 5,.t 6] [0,1,4,5,6])
  (.seq (.reg [mv 0 9 0,mv 1 10 1,oc 2 11 70 [.t 9,.t 10],mv 3 7 11] [4,5,6,7])
  (.seq (.reg [mv 0 12 7,mv 1 13 7,oc 2 14 71 [.t 13],oc 3 15 72 [.t 12,.t 14],mv 4 8 15] [4,5,6,7,8])
  (.seq (.any (on1 (mv 0 16 8) <|
      on1 (oo 1 17 (.b2s (.t 16))) <|
      on1 (mv 2 18 7) <|
      on1 (oo 3 19 (.nilChk (.t 18))) <|
      on1 (fa 4 20 1 19) <|
      on1 (ld 5 21 1 false 20) <|
      on1 (mv 6 4 17) <|
      on1 ⟨7,none,none,.k (.store 1 (.t 5) (.t 21))⟩ <|
      on1 ⟨8,none,none,.k (.store 1 (.t 6) (.c (.int .i64 0)))⟩ <|
      .done) [] [4,5,6])
  (.ret)))))
theorem is118 : FnIs Tryz.prog 118 22 m118 [.t 4,.c 5 1 false,.c 6 1 false] := .of Tryz.call118 Tryz.func118 (by kernel_rfl)
def m119 : MC :=
  .seq (.reg [mc 0 4 (.int .u64 0),oo 1 5 (.alloc [.int .i64 0]),oo 2 6 (.alloc [.int .i64 0])] [0,1,4,5,6])
  (.seq (.dfr [] (.f 69) [.t 5,.t 6] [0,1,4,5,6])
  (.seq (.reg [mv 0 9 0,mv 1 10 1,oc 2 11 70 [.t 9,.t 10],mv 3 7 11] [4,5,6,7])
  (.seq (.reg [mv 0 12 7,oc 1 13 71 [.t 12],mv 2 8 13] [4,5,6,7,8])
  (.seq (.any (on1 (mv 0 14 8) <|
      on1 (mv 1 15 7) <|
      on1 (oo 2 16 (.nilChk (.t 15))) <|
      on1 (fa 3 17 1 16) <|
      on1 (ld 4 18 1 false 17) <|
      on1 (mv 5 4 14) <|
      on1 ⟨6,none,none,.k (.store 1 (.t 5) (.t 18))⟩ <|
      on1 ⟨7,none,none,.k (.store 1 (.t 6) (.c (.int .i64 0)))⟩ <|
      .done) [] [4,5,6])
  (.ret)))))
theorem is119 : FnIs Tryz.prog 119 19 m119 [.t 4,.c 5 1 false,.c 6 1 false] := .of Tryz.call119 Tryz.func119 (by kernel_rfl)
def m120 : MC :=
  .seq (.reg [mc 0 4 (.int .i64 0),mc 1 5 (.int .i64 0),mc 2 6 (.int .i64 0)] [0,1])
  (.seq (.reg [mv 0 9 0,mv 1 10 1,oc 2 11 119 [.t 9,.t 10],mv 3 8 11,oo 4 12 (.ext (.t 8) 0),oo 5 13 (.ext (.t 8) 1),oo 6 14 (.ext (.t 8) 2),mv 7 7 12,mv 8 5 13,mv 9 6 14] [5,6,7])
  (.seq (.seq (.reg [mv 0 15 6,bc 1 16 .neq 15 (.int .i64 0)] [5,6,7,16])
  (.cond (.t 16)
    (.seq (.reg [mv 0 17 6,mc 1 4 (.int .i64 0),mc 2 5 (.int .i64 0),mv 3 6 17] [4,5,6])
    (.ret))
    (.skip)))
  (.seq (.reg [mv 0 18 7,bc 1 19 .shr 18 (.int .u64 1),oo 2 20 (.conv .i64 (.t 19)),mv 3 21 7,bc 4 22 .and 21 (.int .u64 1),oo 5 23 (.conv .i64 (.t 22)),oo 6 24 (.un .neg (.t 23)),bi 7 25 .xor 20 24,mv 8 26 5,mv 9 4 25,mv 10 5 26,mc 11 6 (.int .i64 0)] [4,5,6])
  (.ret))))
theorem is120 : FnIs Tryz.prog 120 27 m120 [.t 4,.t 5,.t 6] := .of Tryz.call120 Tryz.func120 (by kernel_rfl)
def m121k0 : MC :=
  .cond (.t 14)
    (.seq (.reg [ld 0 15 3 true 4,⟨1,none,none,.k (.store 3 (.t 4) (.t 15))⟩,mc 2 5 (.int .i64 0),mc 3 6 (.int .i64 1)] [4,5,6])
    (.ret))
    (.skip)
def m121k1 : MC :=
  .reg [mv 0 48 5,bc 1 49 .add 48 (.int .i64 1),mv 2 5 49] [4,5,6]
def m121k2 : MC :=
  .cond (.t 61)
    (.reg [mv 0 65 0,mv 1 66 5,oc 2 67 118 [.t 65,.t 66],mv 3 64 67,oo 4 68 (.ext (.t 64) 0),oo 5 69 (.ext (.t 64) 1),oo 6 70 (.ext (.t 64) 2),fa 7 71 2 4,⟨8,none,none,.k (.store 1 (.t 71) (.t 68))⟩,mv 9 5 69,mv 10 6 70] [4,5,6])
    (.reg [mc 0 6 (.int .i64 3)] [4,5,6])
def m121k3 : MC :=
  .cond (.t 50)
    (.reg [mv 0 54 0,mv 1 55 5,oc 2 56 120 [.t 54,.t 55],mv 3 53 56,oo 4 57 (.ext (.t 53) 0),oo 5 58 (.ext (.t 53) 1),oo 6 59 (.ext (.t 53) 2),fa 7 60 1 4,⟨8,none,none,.k (.store 1 (.t 60) (.t 57))⟩,mv 9 5 58,mv 10 6 59] [4,5,6])
    (.seq (.seq (.reg [bc 0 62 .eql 30 (.int .i64 4),mv 1 61 62] [0,4,5,30,61])
    (.cond (.t 61)
      (.skip)
      (.reg [bc 0 63 .eql 30 (.int .i64 5),mv 1 61 63] [0,4,5,61])))
    (.named [0,4,5,61] m121k2))
def m121k4 : MC :=
  .seq (.seq (.reg [mv 0 76 6,bc 1 77 .neq 76 (.int .i64 0)] [4,5,6,77])
  (.cond (.t 77)
    (.seq (.reg [oo 0 78 (.build [.int .i64 0,.int .i64 0,.str []] []),mv 1 79 6,⟨2,none,none,.k (.store 3 (.t 4) (.t 78))⟩,mc 3 5 (.int .i64 0),mv 4 6 79] [4,5,6])
    (.ret))
    (.skip)))
  (.seq (.reg [ld 0 80 3 true 4,mv 1 81 5,⟨2,none,none,.k (.store 3 (.t 4) (.t 80))⟩,mv 3 5 81,mc 4 6 (.int .i64 0)] [4,5,6])
  (.ret))
def m121k5 : MC :=
  .seq (.seq (.reg [mv 0 72 6,bc 1 73 .eql 72 (.int .i64 0)] [4,5,6,73])
  (.cond (.t 73)
    (.reg [ld 0 74 3 true 4,oc 1 75 32 [.t 74],mv 2 6 75] [4,5,6])
    (.skip)))
  (.named [4,5,6] m121k4)
def m121k6 : MC :=
  .seq (.seq (.reg [mv 0 16 1,mv 1 17 0,oo 2 18 (.len false (.t 17)),bi 3 19 .eql 16 18] [0,1,4,6,19])
  (.cond (.t 19)
    (.seq (.reg [ld 0 20 3 true 4,⟨1,none,none,.k (.store 3 (.t 4) (.t 20))⟩,mc 2 5 (.int .i64 0),mc 3 6 (.int .i64 41)] [4,5,6])
    (.ret))
    (.skip)))
  (.seq (.reg [mv 0 21 0,mv 1 22 1,oo 2 23 (.iadr 1 (.t 21) (.t 22)),ld 3 24 1 false 23,oo 4 25 (.conv .i64 (.t 24)),fa 5 26 0 4,⟨6,none,none,.k (.store 1 (.t 26) (.t 25))⟩] [0,1,4,6])
  (.seq (.reg [mv 0 27 1,bc 1 28 .add 27 (.int .i64 1),mv 2 5 28] [0,4,5,6])
  (.seq (.seq (.reg [fa 0 29 0 4,ld 1 30 1 false 29] [0,4,5,6,30])
  (.block 0
    (.seq (.reg [bc 0 32 .eql 30 (.int .i64 0),mv 1 31 32] [0,4,5,6,30,31])
    (.cond (.t 31)
      (.skip)
      (.seq (.reg [bc 0 34 .eql 30 (.int .i64 1),mv 1 33 34] [0,4,5,6,30,33])
      (.cond (.t 33)
        (.seq (.seq (.reg [mv 0 35 5,mv 1 36 0,oo 2 37 (.len false (.t 36)),bi 3 38 .eql 35 37] [0,4,5,6,38])
        (.cond (.t 38)
          (.reg [mc 0 6 (.int .i64 41)] [4,5,6])
          (.seq (.reg [mv 0 39 0,mv 1 40 5,oo 2 41 (.iadr 1 (.t 39) (.t 40)),ld 3 42 1 false 41,oo 4 43 (.conv .i64 (.t 42)),fa 5 44 1 4,⟨6,none,none,.k (.store 1 (.t 44) (.t 43))⟩] [4,5,6])
          (.seq (.reg [fa 0 45 1 4,ld 1 46 1 false 45,bc 2 47 .gtr 46 (.int .i64 1)] [4,5,6,47])
          (.cond (.t 47)
            (.reg [mc 0 6 (.int .i64 3)] [4,5,6])
            (.skip))))))
        (.named [4,5,6] m121k1))
        (.seq (.seq (.reg [bc 0 51 .eql 30 (.int .i64 2),mv 1 50 51] [0,4,5,30,50])
        (.cond (.t 50)
          (.skip)
          (.reg [bc 0 52 .eql 30 (.int .i64 3),mv 1 50 52] [0,4,5,30,50])))
        (.named [0,4,5,30,50] m121k3))))))))
  (.named [4,5,6] m121k5))))
def m121 : MC :=
  .seq (.reg [oo 0 4 (.alloc [.int .i64 0,.int .i64 0,.str []]),mc 1 5 (.int .i64 0),mc 2 6 (.int .i64 0)] [0,1,4,6])
  (.seq (.seq (.reg [mv 0 7 1,bc 1 8 .lss 7 (.int .i64 0),mv 2 9 8,gm 3 10 9 false 1,gm 4 11 9 false 0,og 5 12 9 false (.len false (.t 11)),og 6 13 9 false (.bin .gtr (.t 10) (.t 12)),oo 7 14 (.pick (.t 9) (.c (.bool true)) (.t 13))] [0,1,4,6,14])
  (.named [0,1,4,6,14] m121k0))
  (.named [0,1,4,6] m121k6))
theorem is121 : FnIs Tryz.prog 121 82 m121 [.c 4 3 true,.t 5,.t 6] := .of Tryz.call121 Tryz.func121 (by kernel_rfl)
def m122l0 : MC :=
  .seq (.reg [bi 0 15 .lss 14 13] [5,6,12,13,14,15])
  (.seq (.cond (.t 15)
    (.skip)
    (.exit 0))
  (.seq (.block 1
    (.seq (.reg [oo 0 16 (.iadr 1 (.t 12) (.t 14)),ld 1 17 1 false 16,mv 2 8 17] [5,6,8,12,13,14])
    (.reg [mv 0 18 6,bc 1 19 .shr 18 (.int .u64 8),mv 2 20 6,oo 3 21 (.conv .u8 (.t 20)),mv 4 22 8,bi 5 23 .xor 21 22,oo 6 24 (.iadrA 1 256 (.t 5) (.t 23)),ld 7 25 1 false 24,bi 8 26 .xor 19 25,mv 9 6 26] [5,6,12,13,14])))
  (.reg [bc 0 27 .add 14 (.int .i64 1),mv 1 14 27] [5,6,12,13,14])))
def m122k0 : MC :=
  .seq (.reg [mv 0 28 6,oo 1 29 (.un .xor (.t 28)),mv 2 4 29] [4])
  (.ret)
def m122 : MC :=
  .seq (.reg [mc 0 4 (.int .u32 0)] [0,1])
  (.seq (.reg [oc 0 9 176 [],oo 1 5 (.alloc [.int .u32 0,.int .u32 0,.int .u32 0,.int .u32 0,.int .u32 0,.int .u32 0,.int .u32 0,.int .u32 0,.int .u32 0,.int .u32 0,.int .u32 0,.int .u32 0,.int .u32 0,.int .u32 0,.int .u32 0,.int .u32 0,.int .u32 0,.int .u32 0,.int .u32 0,.int .u32 0,.int .u32 0,.int .u32 0,.int .u32 0,.int .u32 0,.int .u32 0,.int .u32 0,.int .u32 0,.int .u32 0,.int .u32 0,.int .u32 0,.int .u32 0,.int .u32 0,.int .u32 0,.int .u32 0,.int .u32 0,.int .u32 0,.int .u32 0,.int .u32 0,.int .u32 0,.int .u32 0,.int .u32 0,.int .u32 0,.int .u32 0,.int .u32 0,.int .u32 0,.int .u32 0,.int .u32 0,.int .u32 0,.int .u32 0,.int .u32 0,.int .u32 0,.int .u32 0,.int .u32 0,.int .u32 0,.int .u32 0,.int .u32 0,.int .u32 0,.int .u32 0,.int .u32 0,.int .u32 0,.int .u32 0,.int .u32 0,.int .u32 0,.int .u32 0,.int .u32 0,.int .u32 0,.int .u32 0,.int .u32 0,.int .u32 0,.int .u32 0,.int .u32 0,.int .u32 0,.int .u32 0,.int .u32 0,.int .u32 0,.int .u32 0,.int .u32 0,.int .u32 0,.int .u32 0,.int .u32 0,.int .u32 0,.int .u32 0,.int .u32 0,.int .u32 0,.int .u32 0,.int .u32 0,.int .u32 0,.int .u32 0,.int .u32 0,.int .u32 0,.int .u32 0,.int .u32 0,.int .u32 0,.int .u32 0,.int .u32 0,.int .u32 0,.int .u32 0,.int .u32 0,.int .u32 0,.int .u32 0,.int .u32 0,.int .u32 0,.int .u32 0,.int .u32 0,.int .u32 0,.int .u32 0,.int .u32 0,.int .u32 0,.int .u32 0,.int .u32 0,.int .u32 0,.int .u32 0,.int .u32 0,.int .u32 0,.int .u32 0,.int .u32 0,.int .u32 0,.int .u32 0,.int .u32 0,.int .u32 0,.int .u32 0,.int .u32 0,.int .u32 0,.int .u32 0,.int .u32 0,.int .u32 0,.int .u32 0,.int .u32 0,.int .u32 0,.int .u32 0,.int .u32 0,.int .u32 0,.int .u32 0,.int .u32 0,.int .u32 0,.int .u32 0,.int .u32 0,.int .u32 0,.int .u32 0,.int .u32 0,.int .u32 0,.int .u32 0,.int .u32 0,.int .u32 0,.int .u32 0,.int .u32 0,.int .u32 0,.int .u32 0,.int .u32 0,.int .u32 0,.int .u32 0,.int .u32 0,.int .u32 0,.int .u32 0,.int .u32 0,.int .u32 0,.int .u32 0,.int .u32 0,.int .u32 0,.int .u32 0,.int .u32 0,.int .u32 0,.int .u32 0,.int .u32 0,.int .u32 0,.int .u32 0,.int .u32 0,.int .u32 0,.int .u32 0,.int .u32 0,.int .u32 0,.int .u32 0,.int .u32 0,.int .u32 0,.int .u32 0,.int .u32 0,.int .u32 0,.int .u32 0,.int .u32 0,.int .u32 0,.int .u32 0,.int .u32 0,.int .u32 0,.int .u32 0,.int .u32 0,.int .u32 0,.int .u32 0,.int .u32 0,.int .u32 0,.int .u32 0,.int .u32 0,.int .u32 0,.int .u32 0,.int .u32 0,.int .u32 0,.int .u32 0,.int .u32 0,.int .u32 0,.int .u32 0,.int .u32 0,.int .u32 0,.int .u32 0,.int .u32 0,.int .u32 0,.int .u32 0,.int .u32 0,.int .u32 0,.int .u32 0,.int .u32 0,.int .u32 0,.int .u32 0,.int .u32 0,.int .u32 0,.int .u32 0,.int .u32 0,.int .u32 0,.int .u32 0,.int .u32 0,.int .u32 0,.int .u32 0,.int .u32 0,.int .u32 0,.int .u32 0,.int .u32 0,.int .u32 0,.int .u32 0,.int .u32 0,.int .u32 0,.int .u32 0,.int .u32 0,.int .u32 0,.int .u32 0,.int .u32 0,.int .u32 0,.int .u32 0,.int .u32 0,.int .u32 0,.int .u32 0,.int .u32 0,.int .u32 0,.int .u32 0,.int .u32 0,.int .u32 0,.int .u32 0,.int .u32 0,.int .u32 0,.int .u32 0,.int .u32 0,.int .u32 0,.int .u32 0,.int .u32 0,.int .u32 0,.int .u32 0,.int .u32 0,.int .u32 0,.int .u32 0]),⟨2,none,none,.k (.store 256 (.t 5) (.t 9))⟩] [0,1,5])
  (.seq (.reg [mv 0 10 0,oo 1 11 (.un .xor (.t 10)),mv 2 6 11] [1,5,6])
  (.seq (.seq (.reg [mv 0 12 1,oo 1 13 (.len false (.t 12)),mc 2 14 (.int .i64 0)] [5,6,12,13,14])
  (.block 0
    (.loop m122l0)))
  (.named [6] m122k0))))
theorem is122 : FnIs Tryz.prog 122 30 m122 [.t 4] := .of Tryz.call122 Tryz.func122 (by kernel_rfl)
def m123k0 : MC :=
  .cond (.t 25)
    (.ret)
    (.skip)
def m123k1 : MC :=
  .reg [bc 0 26 .add 9 (.int .i64 1),mv 1 9 26] [0,1,7,8,9]
def m123l0 : MC :=
  .seq (.reg [bi 0 10 .lss 9 8] [0,1,7,8,9,10])
  (.seq (.cond (.t 10)
    (.skip)
    (.exit 0))
  (.seq (.block 1
    (.seq (.reg [oo 0 11 (.iadr 3 (.t 7) (.t 9)),ld 1 12 3 true 11,oo 2 4 (.alloc [.str [],.int .i64 0,.int .i64 0]),⟨3,none,none,.k (.store 3 (.t 4) (.t 12))⟩] [0,1,4,7,8,9])
    (.seq (.any (on1 (fa 0 13 3 1) <|
        .one (ld 1 14 1 false 13) true false <|
        .one (ld 2 15 3 true 4) true false <|
        on1 (fa 4 17 4 1) <|
        .one (ld 5 18 1 false 17) true false <|
        .one ⟨3,some 16,none,.call (.f 126) [.c (.sl 1 [] .exact),.t 15]⟩ false true <|
        .one (oc 6 19 125 [.t 14,.t 16,.t 18]) false true <|
        on1 (mv 7 20 19) <|
        on1 (gm 8 21 20 true 0) <|
        on1 (og 9 22 20 true (.load 3 true (.t 4))) <|
        .one ⟨10,some 23,(some (20,true)),.call (.t 21) [.t 22]⟩ false true <|
        on1 (og 11 24 20 true (.un .not (.t 23))) <|
        on1 (oo 12 25 (.pick (.t 20) (.t 24) (.c (.bool false)))) <|
        .done) [1,4] [0,1,7,8,9,25])
    (.named [0,1,7,8,9,25] m123k0))))
  (.named [0,1,7,8,9] m123k1)))
def m123 : MC :=
  .seq (.reg [fa 0 5 2 1,ld 1 6 1 false 5,oc 2 7 124 [.t 6],oo 3 8 (.len false (.t 7)),mc 4 9 (.int .i64 0)] [0,1,7,8,9])
  (.block 0
    (.loop m123l0))
theorem is123 : FnIs Tryz.prog 123 27 m123 [] := .of Tryz.call123 Tryz.func123 (by kernel_rfl)
def m124 : MC :=
  .seq (.reg [mc 0 2 (.sl 3 [] .exact)] [0])
  (.seq (.reg [mv 0 3 0,oc 1 4 177 [.t 3],mv 2 2 4] [2])
  (.seq (.reg [mv 0 5 2,oc 1 6 178 [.t 5,.f 179]] [2])
  (.seq (.reg [mv 0 7 2,oc 1 8 180 [.t 7],mv 2 2 8] [2])
  (.ret))))
theorem is124 : FnIs Tryz.prog 124 9 m124 [.t 2] := .of Tryz.call124 Tryz.func124 (by kernel_rfl)
def m152 : MC :=
  .seq (.reg [mc 0 2 (.bool false)] [0])
  (.seq (.reg [mv 0 3 0,bc 1 4 .geq 3 (.int .i64 0),mv 2 5 4,gm 3 6 5 true 0,og 4 7 5 true (.bin .leq (.t 6) (.c (.int .i64 1099511627776))),oo 5 8 (.pick (.t 5) (.t 7) (.c (.bool false))),mv 6 2 8] [2])
  (.ret))
theorem is152 : FnIs Tryz.prog 152 9 m152 [.t 2] := .of Tryz.call152 Tryz.func152 (by kernel_rfl)
def m153 : MC :=
  .seq (.reg [mc 0 4 (.bool false)] [0,1])
  (.seq (.reg [mv 0 5 0,mv 1 6 1,oc 2 7 193 [.t 5,.t 6],bc 3 8 .geq 7 (.int .i64 0),mv 4 4 8] [4])
  (.ret))
theorem is153 : FnIs Tryz.prog 153 9 m153 [.t 4] := .of Tryz.call153 Tryz.func153 (by kernel_rfl)
end Go.Proofs.YtdjdhecanjmchaaGreatDoor
