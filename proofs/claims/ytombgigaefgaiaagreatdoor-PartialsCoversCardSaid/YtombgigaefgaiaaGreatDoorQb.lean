/- The functions of the seat in the small language (printed by a program), and that each is the program's. -/
import Derived.Test.YtombgigaefgaiaaGreatDoorProg
import Derived.Test.YtombgigaefgaiaaGreatDoorVr
import Derived.KernelRfl
set_option linter.unusedSimpArgs false
set_option linter.unusedVariables false
namespace Go.Proofs.YtombgigaefgaiaaGreatDoor
open Go Go.V
def m71k0 : MC :=
  .reg [mv 0 20 6,bc 1 21 .add 20 (.int .i64 1),mv 2 6 21] [0,1,5,6]
def m71l0 : MC :=
  .seq (.seq (.reg [mv 0 16 6,mv 1 17 0,oo 2 18 (.len false (.t 17)),bi 3 19 .lss 16 18] [0,1,5,6,19])
  (.cond (.t 19)
    (.skip)
    (.exit 0)))
  (.seq (.block 1
    (.seq (.reg [mv 0 22 0,mv 1 23 6,oo 2 24 (.iadr 9 (.t 22) (.t 23)),ld 3 25 9 true 24,oo 4 7 (.alloc [.str [],.str [],.int .i64 0,.int .i64 0,.int .i64 0,.int .i64 0,.str [],.int .i64 0,.int .i64 0]),⟨5,none,none,.k (.store 9 (.t 7) (.t 25))⟩] [0,1,5,6,7])
    (.seq (.reg [mv 0 26 1,ld 1 27 9 true 7,⟨2,some 28,none,.call (.t 26) [.t 27]⟩,oo 3 29 (.un .not (.t 28))] [0,1,5,6,7,29])
    (.cond (.t 29)
      (.seq (.reg [mv 0 30 0,mv 1 31 5,ld 2 32 9 true 7,oo 3 33 (.iadr 9 (.t 30) (.t 31)),⟨4,none,none,.k (.store 9 (.t 33) (.t 32))⟩] [0,1,5,6])
      (.reg [mv 0 34 5,bc 1 35 .add 34 (.int .i64 1),mv 2 5 35] [0,1,5,6]))
      (.skip)))))
  (.named [0,1,5,6] m71k0))
def m71k1 : MC :=
  .seq (.reg [mv 0 36 0,mv 1 37 5,oo 2 38 (.slV 9 (.t 36) (some (.t 37)) none none),⟨3,none,none,.k (.clr 9 [.str [],.str [],.int .i64 0,.int .i64 0,.int .i64 0,.int .i64 0,.str [],.int .i64 0,.int .i64 0] (.t 38))⟩] [0,5])
  (.seq (.reg [mv 0 39 0,mv 1 40 5,oo 2 41 (.slV 9 (.t 39) none (some (.t 40)) none),mv 3 4 41] [4])
  (.ret))
def m71 : MC :=
  .seq (.reg [mc 0 4 (.sl 9 [] .exact)] [0,1])
  (.seq (.reg [mv 0 8 0,mv 1 9 1,oc 2 10 96 [.t 8,.t 9],mv 3 5 10] [0,1,5])
  (.seq (.seq (.reg [mv 0 11 5,bc 1 12 .eql 11 (.int .i64 (-1))] [0,1,5,12])
  (.cond (.t 12)
    (.seq (.reg [mv 0 13 0,mv 1 4 13] [4])
    (.ret))
    (.skip)))
  (.seq (.seq (.reg [mv 0 14 5,bc 1 15 .add 14 (.int .i64 1),mv 2 6 15] [0,1,5,6])
  (.block 0
    (.loop m71l0)))
  (.named [0,5] m71k1))))
theorem is71 : FnIs Tryz.prog 71 42 m71 [.t 4] := .of Tryz.call71 Tryz.func71 (by kernel_rfl)
def m72 : MC :=
  .seq (.reg [mc 0 2 (.sl 9 [] .exact)] [0])
  (.seq (.seq (.reg [mv 0 3 0,oo 1 4 (.nn 111 false (.t 3))] [0,4])
  (.cond (.t 4)
    (.seq (.reg [mc 0 2 (.sl 9 [] .exact)] [2])
    (.ret))
    (.skip)))
  (.seq (.reg [oo 0 5 (.mkSl 9 [.str [],.str [],.int .i64 0,.int .i64 0,.int .i64 0,.int .i64 0,.str [],.int .i64 0,.int .i64 0] []),mv 1 6 0,oo 2 7 (.appO 9 96 (.t 5) (.t 6)),mv 3 2 7] [2])
  (.ret)))
theorem is72 : FnIs Tryz.prog 72 8 m72 [.t 2] := .of Tryz.call72 Tryz.func72 (by kernel_rfl)
def m73 : MC :=
  .seq (.reg [oo 0 3 (.box (.t 0)),mc 1 4 (.bool false)] [1,2,3])
  (.seq (.reg [fa 0 5 0 3,ld 1 6 1 false 5,ld 2 7 1 false 1,bi 3 8 .neq 6 7,mv 4 9 8,og 5 10 9 false (.fadr 7 (.t 3)),og 6 11 9 false (.load 1 false (.t 10)),og 7 12 9 false (.load 1 false (.t 2)),og 8 13 9 false (.bin .gtr (.t 11) (.t 12)),oo 9 14 (.pick (.t 9) (.c (.bool true)) (.t 13)),mv 10 4 14] [4])
  (.ret))
theorem is73 : FnIs Tryz.prog 73 15 m73 [.t 4] := .of Tryz.call73 Tryz.func73 (by kernel_rfl)
def m74k0 : MC :=
  .cond (.t 28)
    (.seq (.reg [oo 0 29 (.build [.int .i64 0,.int .i64 0,.str []] []),⟨1,none,none,.k (.store 3 (.t 6) (.t 29))⟩] [6])
    (.ret))
    (.skip)
def m74k1 : MC :=
  .seq (.reg [fa 0 30 5 4,ld 1 31 1 false 30,mv 2 32 7,oo 3 33 (.iadr 3 (.t 31) (.t 32)),ld 4 34 3 true 33,⟨5,none,none,.k (.store 3 (.t 6) (.t 34))⟩] [6])
  (.ret)
def m74k2 : MC :=
  .cond (.t 35)
    (.seq (.reg [ld 0 40 12 true 5,oo 1 41 (.func (.func 100) [] [.t 3,.t 4,.t 5]),oc 2 42 99 [.t 40,.t 41],⟨3,none,none,.k (.store 3 (.t 6) (.t 42))⟩] [6])
    (.ret))
    (.skip)
def m74k3 : MC :=
  .seq (.reg [oo 0 43 (.build [.int .i64 0,.int .i64 0,.str []] []),⟨1,none,none,.k (.store 3 (.t 6) (.t 43))⟩] [6])
  (.ret)
def m74 : MC :=
  .seq (.reg [oo 0 3 (.box (.t 0)),oo 1 4 (.box (.t 1)),oo 2 5 (.box (.t 2)),oo 3 6 (.alloc [.int .i64 0,.int .i64 0,.str []])] [3,4,5,6])
  (.seq (.seq (.reg [fa 0 8 0 5,ld 1 9 1 false 8] [3,4,5,6,9])
  (.block 0
    (.seq (.reg [bc 0 11 .eql 9 (.int .i64 1),mv 1 10 11] [3,4,5,6,9,10])
    (.cond (.t 10)
      (.seq (.reg [fa 0 12 4 5,ld 1 13 3 true 12,⟨2,none,none,.k (.store 3 (.t 6) (.t 13))⟩] [6])
      (.ret))
      (.seq (.reg [bc 0 15 .eql 9 (.int .i64 2),mv 1 14 15] [3,4,5,6,9,14])
      (.cond (.t 14)
        (.seq (.reg [fa 0 16 2 3,ld 1 17 1 false 16,oo 2 18 (.func (.func 98) [] [.t 5]),oc 3 19 97 [.t 17,.t 18],mv 4 7 19] [4,6,7])
        (.seq (.seq (.reg [mv 0 20 7,bc 1 21 .lss 20 (.int .i64 0),mv 2 22 21,gm 3 23 22 false 7,og 4 24 22 false (.fadr 5 (.t 4)),og 5 25 22 false (.load 1 false (.t 24)),og 6 26 22 false (.len false (.t 25)),og 7 27 22 false (.bin .geq (.t 23) (.t 26)),oo 8 28 (.pick (.t 22) (.c (.bool true)) (.t 27))] [4,6,7,28])
        (.named [4,6,7,28] m74k0))
        (.named [4,6,7] m74k1)))
        (.seq (.seq (.reg [bc 0 36 .eql 9 (.int .i64 6),mv 1 35 36] [3,4,5,6,9,35])
        (.cond (.t 35)
          (.skip)
          (.seq (.reg [bc 0 37 .eql 9 (.int .i64 7),mv 1 35 37] [3,4,5,6,9,35])
          (.cond (.t 35)
            (.skip)
            (.seq (.reg [bc 0 38 .eql 9 (.int .i64 8),mv 1 35 38] [3,4,5,6,9,35])
            (.cond (.t 35)
              (.skip)
              (.reg [bc 0 39 .eql 9 (.int .i64 9),mv 1 35 39] [3,4,5,6,35])))))))
        (.named [3,4,5,6,35] m74k2))))))))
  (.named [6] m74k3))
theorem is74 : FnIs Tryz.prog 74 44 m74 [.c 6 3 true] := .of Tryz.call74 Tryz.func74 (by kernel_rfl)
def m75k0 : MC :=
  .cond (.t 10)
    (.seq (.reg [mc 0 2 (.int .i64 2)] [2])
    (.ret))
    (.skip)
def m75k1 : MC :=
  .seq (.seq (.reg [ld 0 11 12 true 1,oc 1 12 103 [.t 11,.c (.bool false)],oo 2 13 (.un .not (.t 12))] [13])
  (.cond (.t 13)
    (.seq (.reg [mc 0 2 (.int .i64 3)] [2])
    (.ret))
    (.skip)))
  (.seq (.reg [mc 0 2 (.int .i64 0)] [2])
  (.ret))
def m75 : MC :=
  .seq (.reg [oo 0 1 (.box (.t 0)),mc 1 2 (.int .i64 0)] [1])
  (.seq (.seq (.reg [ld 0 3 12 true 1,oc 1 4 101 [.t 3],bc 2 5 .gtr 4 (.int .i64 64),mv 3 6 5,og 4 7 6 false (.load 12 true (.t 1)),⟨5,some 8,(some (6,false)),.call (.f 102) [.t 7]⟩,og 6 9 6 false (.bin .gtr (.t 8) (.c (.int .i64 12))),oo 7 10 (.pick (.t 6) (.c (.bool true)) (.t 9))] [1,10])
  (.named [1,10] m75k0))
  (.named [1] m75k1))
theorem is75 : FnIs Tryz.prog 75 14 m75 [.t 2] := .of Tryz.call75 Tryz.func75 (by kernel_rfl)
def m77l0 : MC :=
  .seq (.reg [bi 0 48 .lss 47 46] [2,3,4,6,9,45,46,47,48])
  (.seq (.cond (.t 48)
    (.skip)
    (.exit 0))
  (.seq (.block 1
    (.seq (.reg [oo 0 49 (.iadr 12 (.t 45) (.t 47)),ld 1 50 12 true 49,oo 2 11 (.alloc [.int .i64 0,.str [],.str [],.str [],.int .i64 0,.int .i64 0,.str [],.sl 2 [] .exact,.int .i64 0,.int .i64 0,.int .i64 0,.sl 12 [] .exact]),⟨3,none,none,.k (.store 12 (.t 11) (.t 50))⟩] [2,3,4,6,9,11,45,46,47])
    (.seq (.reg [ld 0 52 6 true 6,ld 1 53 12 true 11,oc 2 54 77 [.t 52,.t 53],mv 3 51 54,oo 4 55 (.ext (.t 51) 0),oo 5 56 (.ext (.t 51) 1),oo 6 12 (.alloc [.int .i64 0,.sl 2 [] .exact,.str []]),⟨7,none,none,.k (.store 3 (.t 12) (.t 55))⟩,mv 8 13 56] [2,3,4,6,9,12,13,45,46,47])
    (.seq (.seq (.reg [mv 0 57 13,bc 1 58 .neq 57 (.int .i64 0)] [2,3,4,6,9,12,13,45,46,47,58])
    (.cond (.t 58)
      (.seq (.reg [mv 0 59 13,oc 1 60 76 [.t 59],oo 2 61 (.ext (.t 60) 0),oo 3 62 (.ext (.t 60) 1),⟨4,none,none,.k (.store 3 (.t 4) (.t 61))⟩,mv 5 5 62] [4,5])
      (.ret))
      (.skip)))
    (.reg [mv 0 63 9,ld 1 64 3 true 12,oo 2 65 (.mkSl 3 [.int .i64 0,.sl 2 [] .exact,.str []] [.t 64]),oo 3 66 (.app 3 48 (.t 63) (.t 65)),mv 4 9 66] [2,3,4,6,9,45,46,47])))))
  (.reg [bc 0 67 .add 47 (.int .i64 1),mv 1 47 67] [2,3,4,6,9,45,46,47])))
def m77k0 : MC :=
  .seq (.any (.one (ld 0 68 6 true 2) true false <|
      on1 (fa 1 69 0 3) <|
      .one (ld 2 70 1 false 69) true false <|
      .one (ld 4 72 12 true 3) true false <|
      on1 (mv 5 73 9) <|
      .one (oc 3 71 108 [.t 68,.t 70]) false true <|
      .one ⟨6,some 74,none,.call (.t 71) [.t 72,.t 73]⟩ false true <|
      on1 (oo 7 75 (.ext (.t 74) 0)) <|
      on1 (oo 8 76 (.ext (.t 74) 1)) <|
      on1 ⟨9,none,none,.k (.store 3 (.t 4) (.t 75))⟩ <|
      on1 (mv 10 5 76) <|
      .done) [2,3] [4,5])
  (.ret)
def m77k1 : MC :=
  .seq (.reg [mc 0 9 (.sl 3 [] .exact)] [2,3,4,6,9])
  (.seq (.seq (.reg [fa 0 44 11 3,ld 1 45 1 false 44,oo 2 46 (.len false (.t 45)),mc 3 47 (.int .i64 0)] [2,3,4,6,9,45,46,47])
  (.block 0
    (.loop m77l0)))
  (.named [2,3,4,9] m77k0))
def m77 : MC :=
  .seq (.reg [oo 0 2 (.box (.t 0)),oo 1 3 (.box (.t 1)),oo 2 4 (.alloc [.int .i64 0,.sl 2 [] .exact,.str []]),mc 3 5 (.int .i64 0)] [2,3,4])
  (.seq (.reg [ld 0 14 6 true 2,oo 1 6 (.alloc [.sl 4 [] .exact,.sl 18 [] .exact,.sl 18 [] .exact,.sl 18 [] .exact,.str [],.nilf]),⟨2,none,none,.k (.store 6 (.t 6) (.t 14))⟩] [2,3,4,6])
  (.seq (.seq (.reg [fa 0 15 0 3,ld 1 16 1 false 15,bc 2 17 .eql 16 (.int .i64 5)] [2,3,4,6,17])
  (.cond (.t 17)
    (.seq (.reg [fa 0 18 0 2,fa 1 19 0 18,ld 2 20 1 false 19,oo 3 21 (.func (.func 105) [] [.t 3]),oc 4 22 104 [.t 20,.t 21],mv 5 7 22] [2,3,4,6,7])
    (.seq (.seq (.reg [mv 0 23 7,bc 1 24 .lss 23 (.int .i64 0)] [2,3,4,6,7,24])
    (.cond (.t 24)
      (.seq (.reg [oc 0 25 76 [.c (.int .i64 4)],oo 1 26 (.ext (.t 25) 0),oo 2 27 (.ext (.t 25) 1),⟨3,none,none,.k (.store 3 (.t 4) (.t 26))⟩,mv 4 5 27] [4,5])
      (.ret))
      (.skip)))
    (.seq (.reg [fa 0 28 0 2,fa 1 29 0 28,ld 2 30 1 false 29,mv 3 31 7,oo 4 32 (.iadr 4 (.t 30) (.t 31)),ld 5 33 4 true 32,oo 6 8 (.alloc [.str [],.str [],.sl 4 [] .exact,.int .i64 0]),⟨7,none,none,.k (.store 4 (.t 8) (.t 33))⟩] [2,3,4,6,8])
    (.seq (.seq (.reg [fa 0 34 1 8,ld 1 35 1 false 34,fa 2 36 4 2,ld 3 37 1 false 36,bi 4 38 .neq 35 37] [2,3,4,6,8,38])
    (.cond (.t 38)
      (.seq (.reg [oc 0 39 76 [.c (.int .i64 5)],oo 1 40 (.ext (.t 39) 0),oo 2 41 (.ext (.t 39) 1),⟨3,none,none,.k (.store 3 (.t 4) (.t 40))⟩,mv 4 5 41] [4,5])
      (.ret))
      (.skip)))
    (.reg [oo 0 42 (.func (.func 106) [] [.t 8]),fa 1 43 5 6,⟨2,none,none,.k (.store 1 (.t 43) (.t 42))⟩] [2,3,4,6])))))
    (.skip)))
  (.named [2,3,4,6] m77k1)))
theorem is77 : FnIs Tryz.prog 77 77 m77 [.c 4 3 true,.t 5] := .of Tryz.call77 Tryz.func77 (by kernel_rfl)
def m88l0 : MC :=
  .seq (.seq (.reg [mv 0 11 8,mv 1 12 1,bi 2 13 .leq 11 12] [0,1,2,6,7,8,13])
  (.cond (.t 13)
    (.skip)
    (.exit 0)))
  (.block 1
    (.seq (.reg [mv 0 14 0,mv 1 15 7,mv 2 16 8,mv 3 17 2,oc 4 18 114 [.t 14,.t 15,.t 16,.t 17]] [0,1,2,6,8])
    (.seq (.reg [mv 0 19 8,mv 1 7 19] [0,1,2,6,7,8])
    (.reg [mv 0 20 8,mv 1 21 6,bi 2 22 .add 20 21,mv 3 8 22] [0,1,2,6,7,8]))))
def m88l1 : MC :=
  .seq (.seq (.reg [mv 0 33 8,mv 1 34 1,bi 2 35 .leq 33 34] [0,1,2,6,7,8,35])
  (.cond (.t 35)
    (.skip)
    (.exit 4)))
  (.block 5
    (.seq (.reg [mv 0 36 0,mv 1 37 7,mv 2 38 7,mv 3 39 6,bi 4 40 .add 38 39,mv 5 41 8,mv 6 42 2,oc 7 43 115 [.t 36,.t 37,.t 40,.t 41,.t 42]] [0,1,2,6,8])
    (.seq (.reg [mv 0 44 8,mv 1 7 44] [0,1,2,6,7,8])
    (.reg [mv 0 45 8,mv 1 46 6,oo 2 47 (.bin .mul (.c (.int .i64 2)) (.t 46)),bi 3 48 .add 45 47,mv 4 8 48] [0,1,2,6,7,8]))))
def m88k0 : MC :=
  .reg [mv 0 61 6,bc 1 62 .mul 61 (.int .i64 2),mv 2 6 62] [0,1,2,6]
def m88k1 : MC :=
  .seq (.seq (.reg [mv 0 49 7,mv 1 50 6,bi 2 51 .add 49 50,mv 3 9 51] [0,1,2,6,7,9])
  (.seq (.reg [mv 0 52 9,mv 1 53 1,bi 2 54 .lss 52 53] [0,1,2,6,7,9,54])
  (.cond (.t 54)
    (.reg [mv 0 55 0,mv 1 56 7,mv 2 57 9,mv 3 58 1,mv 4 59 2,oc 5 60 115 [.t 55,.t 56,.t 57,.t 58,.t 59]] [0,1,2,6])
    (.skip))))
  (.named [0,1,2,6] m88k0)
def m88l2 : MC :=
  .seq (.seq (.reg [mv 0 28 6,mv 1 29 1,bi 2 30 .lss 28 29] [0,1,2,6,30])
  (.cond (.t 30)
    (.skip)
    (.exit 2)))
  (.block 3
    (.seq (.reg [mv 0 31 6,oo 1 32 (.bin .mul (.c (.int .i64 2)) (.t 31)),mc 2 7 (.int .i64 0),mv 3 8 32] [0,1,2,6,7,8])
    (.seq (.block 4
      (.loop m88l1))
    (.named [0,1,2,6,7] m88k1))))
def m88k2 : MC :=
  .seq (.reg [mv 0 23 0,mv 1 24 7,mv 2 25 1,mv 3 26 2,oc 4 27 114 [.t 23,.t 24,.t 25,.t 26]] [0,1,2,6])
  (.block 2
    (.loop m88l2))
def m88 : MC :=
  .seq (.reg [mc 0 6 (.int .i64 20)] [0,1,2,6])
  (.seq (.reg [mv 0 10 6,mc 1 7 (.int .i64 0),mv 2 8 10] [0,1,2,6,7,8])
  (.seq (.block 0
    (.loop m88l0))
  (.named [0,1,2,6,7] m88k2)))
theorem is88 : FnIs Tryz.prog 88 63 m88 [] := .of Tryz.call88 Tryz.func88 (by kernel_rfl)
def m89 : MC :=
  .seq (.reg [mc 0 2 (.bool false)] [0])
  (.seq (.reg [mv 0 4 0,oc 1 5 51 [.t 4],mv 2 3 5,oo 3 6 (.ext (.t 3) 0),oo 4 7 (.ext (.t 3) 1),mv 5 2 7] [2])
  (.seq (.reg [mv 0 8 2,mv 1 2 8] [2])
  (.ret)))
theorem is89 : FnIs Tryz.prog 89 9 m89 [.t 2] := .of Tryz.call89 Tryz.func89 (by kernel_rfl)
def m90l0 : MC :=
  .seq (.seq (.reg [mv 0 15 9,mv 1 16 10,bi 2 17 .lss 15 16] [0,1,2,8,9,10,17])
  (.cond (.t 17)
    (.skip)
    (.exit 0)))
  (.block 1
    (.seq (.reg [mv 0 18 9,mv 1 19 10,bi 2 20 .add 18 19,oo 3 21 (.conv .u64 (.t 20)),bc 4 22 .shr 21 (.int .u64 1),oo 5 23 (.conv .i64 (.t 22)),mv 6 11 23] [0,1,2,8,9,10,11])
    (.seq (.reg [mv 0 24 2,mv 1 25 0,mv 2 26 11,oo 3 27 (.iadr 6 (.t 25) (.t 26)),ld 4 28 6 true 27,mv 5 29 1,⟨6,some 30,none,.call (.t 24) [.t 28,.t 29]⟩,bc 7 31 .lss 30 (.int .i64 0)] [0,1,2,8,9,10,11,31])
    (.cond (.t 31)
      (.reg [mv 0 32 11,bc 1 33 .add 32 (.int .i64 1),mv 2 9 33] [0,1,2,8,9,10])
      (.reg [mv 0 34 11,mv 1 10 34] [0,1,2,8,9,10])))))
def m90k0 : MC :=
  .seq (.reg [mv 0 35 9,mv 1 36 9,mv 2 37 8,bi 3 38 .lss 36 37,mv 4 39 38,gm 5 40 39 true 2,gm 6 41 39 true 0,gm 7 42 39 true 9,og 8 43 39 true (.iadr 6 (.t 41) (.t 42)),og 9 44 39 true (.load 6 true (.t 43)),gm 10 45 39 true 1,⟨11,some 46,(some (39,true)),.call (.t 40) [.t 44,.t 45]⟩,og 12 47 39 true (.bin .eql (.t 46) (.c (.int .i64 0))),oo 13 48 (.pick (.t 39) (.t 47) (.c (.bool false))),mv 14 6 35,mv 15 7 48] [6,7])
  (.ret)
def m90 : MC :=
  .seq (.reg [mc 0 6 (.int .i64 0),mc 1 7 (.bool false)] [0,1,2])
  (.seq (.reg [mv 0 12 0,oo 1 13 (.len false (.t 12)),mv 2 8 13] [0,1,2,8])
  (.seq (.reg [mv 0 14 8,mc 1 9 (.int .i64 0),mv 2 10 14] [0,1,2,8,9,10])
  (.seq (.block 0
    (.loop m90l0))
  (.named [0,1,2,8,9] m90k0))))
theorem is90 : FnIs Tryz.prog 90 49 m90 [.t 6,.t 7] := .of Tryz.call90 Tryz.func90 (by kernel_rfl)
def m91 : MC :=
  .seq (.reg [oo 0 2 (.box (.t 0)),mc 1 4 (.int .i64 0)] [1,2])
  (.seq (.reg [fa 0 5 0 2,ld 1 6 1 false 5,mv 2 7 1,oc 3 8 41 [.t 6,.t 7],mv 4 4 8] [4])
  (.ret))
theorem is91 : FnIs Tryz.prog 91 9 m91 [.t 4] := .of Tryz.call91 Tryz.func91 (by kernel_rfl)
def m93k0 : MC :=
  .cond (.t 20)
    (.seq (.reg [ld 0 21 5 true 4,⟨1,none,none,.k (.store 5 (.t 6) (.t 21))⟩] [6])
    (.ret))
    (.skip)
def m93k1 : MC :=
  .seq (.reg [mv 0 22 7,ld 1 23 5 true 4,ld 2 24 6 true 5,⟨3,some 25,none,.call (.mth 22 [(156,250),(158,254),(159,260),(161,276)]) [.t 23,.t 24]⟩,⟨4,none,none,.k (.store 5 (.t 6) (.t 25))⟩] [6])
  (.ret)
def m93 : MC :=
  .seq (.reg [oo 0 4 (.box (.t 1)),oo 1 5 (.box (.t 2)),oo 2 6 (.alloc [.int .i64 0,.int .i64 0,.int .u64 0,.sl 6 [] .exact,.sl 2 [] .exact])] [0,4,5,6])
  (.seq (.reg [mv 0 10 0,oc 1 11 51 [.t 10],mv 2 9 11,oo 3 12 (.ext (.t 9) 0),oo 4 13 (.ext (.t 9) 1),mv 5 7 12,mv 6 8 13] [4,5,6,7,8])
  (.seq (.seq (.reg [mv 0 14 8,oo 1 15 (.un .not (.t 14)),mv 2 16 15,og 3 17 16 false (.fadr 5 (.t 5)),og 4 18 16 false (.load 1 false (.t 17)),og 5 19 16 false (.bin .eql (.t 18) (.c (.int .i64 0))),oo 6 20 (.pick (.t 16) (.c (.bool true)) (.t 19))] [4,5,6,7,20])
  (.named [4,5,6,7,20] m93k0))
  (.named [4,5,6,7] m93k1)))
theorem is93 : FnIs Tryz.prog 93 26 m93 [.c 6 5 true] := .of Tryz.call93 Tryz.func93 (by kernel_rfl)
def m94 : MC :=
  .seq (.reg [oo 0 1 (.box (.t 0)),mc 1 2 (.bool false)] [1])
  (.seq (.reg [fa 0 3 0 1,ld 1 4 1 false 3,bc 2 5 .eql 4 (.int .i64 0),mv 3 6 5,og 4 7 6 true (.fadr 1 (.t 1)),og 5 8 6 true (.load 2 true (.t 7)),og 6 9 6 true (.build [.int .i64 0,.int .u64 0] []),og 7 10 6 true (.eqv [.i,.i] false (.t 8) (.t 9)),oo 8 11 (.pick (.t 6) (.t 10) (.c (.bool false))),mv 9 12 11,og 10 13 12 true (.fadr 3 (.t 1)),og 11 14 12 true (.load 1 false (.t 13)),og 12 15 12 true (.len false (.t 14)),og 13 16 12 true (.bin .eql (.t 15) (.c (.int .i64 0))),oo 14 17 (.pick (.t 12) (.t 16) (.c (.bool false))),mv 15 18 17,og 16 19 18 true (.fadr 4 (.t 1)),og 17 20 18 true (.load 1 false (.t 19)),og 18 21 18 true (.len false (.t 20)),og 19 22 18 true (.bin .eql (.t 21) (.c (.int .i64 0))),oo 20 23 (.pick (.t 18) (.t 22) (.c (.bool false))),mv 21 2 23] [2])
  (.ret))
theorem is94 : FnIs Tryz.prog 94 24 m94 [.t 2] := .of Tryz.call94 Tryz.func94 (by kernel_rfl)
def m95 : MC :=
  .seq (.reg [mc 0 6 (.sl 6 [] .exact)] [0,1,2])
  (.seq (.reg [mv 0 10 0,mv 1 11 1,oo 2 12 (.slV 6 (.t 10) (some (.t 11)) none none)] [0,1,2])
  (.seq (.reg [mv 0 13 2,oo 1 14 (.len false (.t 13)),mv 2 7 14] [0,1,2,7])
  (.seq (.seq (.reg [mv 0 15 7,bc 1 16 .eql 15 (.int .i64 0)] [0,1,2,7,16])
  (.cond (.t 16)
    (.seq (.reg [mv 0 17 0,mv 1 6 17] [6])
    (.ret))
    (.skip)))
  (.seq (.reg [mv 0 18 0,oo 1 19 (.len false (.t 18)),mv 2 8 19] [0,1,2,7,8])
  (.seq (.seq (.reg [mv 0 20 1,mv 1 21 8,bi 2 22 .eql 20 21] [0,1,2,7,8,22])
  (.cond (.t 22)
    (.seq (.reg [mv 0 23 0,mv 1 24 2,oo 2 25 (.app 6 80 (.t 23) (.t 24)),mv 3 6 25] [6])
    (.ret))
    (.skip)))
  .bad)))))
theorem is95 : FnIs Tryz.prog 95 95 m95 [.t 6] := .of Tryz.call95 Tryz.func95 (by kernel_rfl)
def m96l0 : MC :=
  .seq (.reg [bi 0 9 .lss 8 7] [0,1,7,8,9])
  (.seq (.cond (.t 9)
    (.skip)
    (.exit 0))
  (.seq (.block 1
    (.seq (.reg [mv 0 10 8,mv 1 5 10] [0,1,5,7,8])
    (.seq (.reg [mv 0 11 1,mv 1 12 0,mv 2 13 5,oo 3 14 (.iadr 9 (.t 12) (.t 13)),ld 4 15 9 true 14,⟨5,some 16,none,.call (.t 11) [.t 15]⟩] [0,1,5,7,8,16])
    (.cond (.t 16)
      (.seq (.reg [mv 0 17 5,mv 1 4 17] [4])
      (.ret))
      (.skip)))))
  (.reg [bc 0 18 .add 8 (.int .i64 1),mv 1 8 18] [0,1,7,8])))
def m96k0 : MC :=
  .seq (.reg [mc 0 4 (.int .i64 (-1))] [4])
  (.ret)
def m96 : MC :=
  .seq (.reg [mc 0 4 (.int .i64 0)] [0,1])
  (.seq (.seq (.reg [mv 0 6 0,oo 1 7 (.len false (.t 6)),mc 2 8 (.int .i64 0)] [0,1,7,8])
  (.block 0
    (.loop m96l0)))
  (.named [] m96k0))
theorem is96 : FnIs Tryz.prog 96 19 m96 [.t 4] := .of Tryz.call96 Tryz.func96 (by kernel_rfl)
def m97l0 : MC :=
  .seq (.reg [bi 0 9 .lss 8 7] [0,1,7,8,9])
  (.seq (.cond (.t 9)
    (.skip)
    (.exit 0))
  (.seq (.block 1
    (.seq (.reg [mv 0 10 8,mv 1 5 10] [0,1,5,7,8])
    (.seq (.reg [mv 0 11 1,mv 1 12 0,mv 2 13 5,oo 3 14 (.iadr 4 (.t 12) (.t 13)),ld 4 15 4 true 14,⟨5,some 16,none,.call (.t 11) [.t 15]⟩] [0,1,5,7,8,16])
    (.cond (.t 16)
      (.seq (.reg [mv 0 17 5,mv 1 4 17] [4])
      (.ret))
      (.skip)))))
  (.reg [bc 0 18 .add 8 (.int .i64 1),mv 1 8 18] [0,1,7,8])))
def m97k0 : MC :=
  .seq (.reg [mc 0 4 (.int .i64 (-1))] [4])
  (.ret)
def m97 : MC :=
  .seq (.reg [mc 0 4 (.int .i64 0)] [0,1])
  (.seq (.seq (.reg [mv 0 6 0,oo 1 7 (.len false (.t 6)),mc 2 8 (.int .i64 0)] [0,1,7,8])
  (.block 0
    (.loop m97l0)))
  (.named [] m97k0))
theorem is97 : FnIs Tryz.prog 97 19 m97 [.t 4] := .of Tryz.call97 Tryz.func97 (by kernel_rfl)
def m98 : MC :=
  .seq (.reg [oo 0 2 (.box (.t 0)),mc 1 3 (.bool false)] [1,2])
  (.seq (.reg [fa 0 4 0 2,ld 1 5 1 false 4,fa 2 6 2 1,ld 3 7 1 false 6,bi 4 8 .eql 5 7,mv 5 3 8] [3])
  (.ret))
theorem is98 : FnIs Tryz.prog 98 9 m98 [.t 3] := .of Tryz.call98 Tryz.func98 (by kernel_rfl)
def m101l0 : MC :=
  .seq (.reg [bi 0 9 .lss 8 7] [2,6,7,8,9])
  (.seq (.cond (.t 9)
    (.skip)
    (.exit 0))
  (.seq (.block 1
    (.seq (.reg [oo 0 10 (.iadr 12 (.t 6) (.t 8)),ld 1 11 12 true 10,oo 2 4 (.alloc [.int .i64 0,.str [],.str [],.str [],.int .i64 0,.int .i64 0,.str [],.sl 2 [] .exact,.int .i64 0,.int .i64 0,.int .i64 0,.sl 12 [] .exact]),⟨3,none,none,.k (.store 12 (.t 4) (.t 11))⟩] [2,4,6,7,8])
    (.reg [mv 0 12 2,ld 1 13 12 true 4,oc 2 14 101 [.t 13],bi 3 15 .add 12 14,mv 4 2 15] [2,6,7,8])))
  (.reg [bc 0 16 .add 8 (.int .i64 1),mv 1 8 16] [2,6,7,8])))
def m101k0 : MC :=
  .seq (.reg [mv 0 17 2,mv 1 2 17] [2])
  (.ret)
def m101 : MC :=
  .seq (.reg [oo 0 1 (.box (.t 0)),mc 1 2 (.int .i64 0)] [1])
  (.seq (.reg [mc 0 2 (.int .i64 1)] [1,2])
  (.seq (.seq (.reg [fa 0 5 11 1,ld 1 6 1 false 5,oo 2 7 (.len false (.t 6)),mc 3 8 (.int .i64 0)] [2,6,7,8])
  (.block 0
    (.loop m101l0)))
  (.named [2] m101k0)))
theorem is101 : FnIs Tryz.prog 101 18 m101 [.t 2] := .of Tryz.call101 Tryz.func101 (by kernel_rfl)
def m102l0 : MC :=
  .seq (.reg [bi 0 9 .lss 8 7] [2,6,7,8,9])
  (.seq (.cond (.t 9)
    (.skip)
    (.exit 0))
  (.seq (.block 1
    (.seq (.reg [oo 0 10 (.iadr 12 (.t 6) (.t 8)),ld 1 11 12 true 10,oo 2 4 (.alloc [.int .i64 0,.str [],.str [],.str [],.int .i64 0,.int .i64 0,.str [],.sl 2 [] .exact,.int .i64 0,.int .i64 0,.int .i64 0,.sl 12 [] .exact]),⟨3,none,none,.k (.store 12 (.t 4) (.t 11))⟩] [2,4,6,7,8])
    (.reg [mv 0 12 2,ld 1 13 12 true 4,oc 2 14 102 [.t 13],oo 3 15 (.max (.t 12) (.t 14)),mv 4 2 15] [2,6,7,8])))
  (.reg [bc 0 16 .add 8 (.int .i64 1),mv 1 8 16] [2,6,7,8])))
def m102k0 : MC :=
  .seq (.reg [mv 0 17 2,bc 1 18 .add 17 (.int .i64 1),mv 2 2 18] [2])
  (.ret)
def m102 : MC :=
  .seq (.reg [oo 0 1 (.box (.t 0)),mc 1 2 (.int .i64 0)] [1,2])
  (.seq (.seq (.reg [fa 0 5 11 1,ld 1 6 1 false 5,oo 2 7 (.len false (.t 6)),mc 3 8 (.int .i64 0)] [2,6,7,8])
  (.block 0
    (.loop m102l0)))
  (.named [2] m102k0))
theorem is102 : FnIs Tryz.prog 102 19 m102 [.t 2] := .of Tryz.call102 Tryz.func102 (by kernel_rfl)
def m103k0 : MC :=
  .cond (.t 49)
    (.seq (.reg [mc 0 4 (.bool false)] [4])
    (.ret))
    (.skip)
def m103k1 : MC :=
  .cond (.t 67)
    (.seq (.reg [mc 0 4 (.bool false)] [4])
    (.ret))
    (.skip)
def m103k2 : MC :=
  .seq (.reg [fa 0 68 0 2,ld 1 69 1 false 68,bc 2 70 .eql 69 (.int .i64 4)] [1,2,5,6,70])
  (.cond (.t 70)
    (.reg [mc 0 6 (.int .i64 1)] [1,2,5,6])
    (.skip))
def m103k3 : MC :=
  .cond (.t 116)
    (.seq (.reg [mc 0 4 (.bool false)] [4])
    (.ret))
    (.skip)
def m103k4 : MC :=
  .cond (.t 149)
    (.seq (.reg [mc 0 4 (.bool false)] [4])
    (.ret))
    (.skip)
def m103k5 : MC :=
  .reg [mc 0 1 (.bool true)] [1,2,5,6]
def m103k6 : MC :=
  .seq (.seq (.reg [fa 0 117 9 2,fa 1 118 0 117,ld 2 119 1 false 118,bc 3 120 .lss 119 (.int .i64 1),mv 4 121 120,og 5 122 121 false (.fadr 9 (.t 2)),og 6 123 121 false (.fadr 0 (.t 122)),og 7 124 121 false (.load 1 false (.t 123)),og 8 125 121 false (.bin .gtr (.t 124) (.c (.int .i64 4))),oo 9 126 (.pick (.t 121) (.c (.bool true)) (.t 125)),mv 10 127 126,og 11 128 127 false (.fadr 9 (.t 2)),og 12 129 127 false (.fadr 0 (.t 128)),og 13 130 127 false (.load 1 false (.t 129)),og 14 131 127 false (.bin .eql (.t 130) (.c (.int .i64 1))),og 15 132 127 false (.fadr 9 (.t 2)),og 16 133 127 false (.fadr 1 (.t 132)),og 17 134 127 false (.load 1 false (.t 133)),og 18 135 127 false (.bin .eql (.t 134) (.c (.int .i64 0))),og 19 136 127 false (.cmp 0 true (.t 131) (.t 135)),oo 20 137 (.pick (.t 127) (.c (.bool true)) (.t 136)),mv 21 138 137,og 22 139 138 false (.fadr 9 (.t 2)),og 23 140 138 false (.fadr 1 (.t 139)),og 24 141 138 false (.load 1 false (.t 140)),og 25 142 138 false (.bin .lss (.t 141) (.c (.int .i64 0))),oo 26 143 (.pick (.t 138) (.c (.bool true)) (.t 142)),mv 27 144 143,og 28 145 144 false (.fadr 9 (.t 2)),og 29 146 144 false (.fadr 1 (.t 145)),og 30 147 144 false (.load 1 false (.t 146)),og 31 148 144 false (.bin .gtr (.t 147) (.c (.int .i64 1099511627776))),oo 32 149 (.pick (.t 144) (.c (.bool true)) (.t 148))] [2,5,6,149])
  (.named [2,5,6,149] m103k4))
  (.named [2,5,6] m103k5)
def m103k7 : MC :=
  .seq (.seq (.reg [mv 0 91 1,mv 1 92 91,og 2 93 92 false (.load 1 false (.g 0)),og 3 94 92 false (.fadr 1 (.t 2)),og 4 95 92 false (.load 1 false (.t 94)),⟨5,some 96,(some (92,false)),.call (.f 124) [.t 93,.t 95]⟩,og 6 97 92 false (.un .not (.t 96)),oo 7 98 (.pick (.t 92) (.c (.bool true)) (.t 97)),mv 8 99 98,og 9 100 99 false (.fadr 3 (.t 2)),og 10 101 99 false (.load 1 false (.t 100)),⟨11,some 102,(some (99,false)),.call (.f 123) [.t 101]⟩,og 12 103 99 false (.un .not (.t 102)),oo 13 104 (.pick (.t 99) (.c (.bool true)) (.t 103)),mv 14 105 104,og 15 106 105 false (.fadr 8 (.t 2)),og 16 107 105 false (.load 1 false (.t 106)),gm 17 108 105 false 7,og 18 109 105 false (.bin .lss (.t 107) (.t 108)),oo 19 110 (.pick (.t 105) (.c (.bool true)) (.t 109)),mv 20 111 110,og 21 112 111 false (.fadr 8 (.t 2)),og 22 113 111 false (.load 1 false (.t 112)),gm 23 114 111 false 8,og 24 115 111 false (.bin .gtr (.t 113) (.t 114)),oo 25 116 (.pick (.t 111) (.c (.bool true)) (.t 115))] [2,5,6,116])
  (.named [2,5,6,116] m103k3))
  (.named [2,5,6] m103k6)
def m103k8 : MC :=
  .cond (.t 50)
    (.seq (.reg [fa 0 54 2 2,ld 1 55 1 false 54,fa 2 56 2 5,⟨3,none,none,.k (.store 1 (.t 56) (.t 55))⟩] [1,2,5,6])
    (.seq (.seq (.reg [mv 0 57 1,fa 1 58 0 2,ld 2 59 1 false 58,bc 3 60 .eql 59 (.int .i64 2),oo 4 61 (.cmp 0 true (.t 57) (.t 60)),mv 5 62 61,og 6 63 62 false (.fadr 2 (.t 2)),og 7 64 62 false (.load 1 false (.t 63)),⟨8,some 65,(some (62,false)),.call (.f 123) [.t 64]⟩,og 9 66 62 false (.un .not (.t 65)),oo 10 67 (.pick (.t 62) (.c (.bool true)) (.t 66))] [1,2,5,6,67])
    (.named [1,2,5,6,67] m103k1))
    (.named [1,2,5,6] m103k2)))
    (.seq (.reg [bc 0 72 .eql 16 (.int .i64 5),mv 1 71 72] [1,2,5,16,71])
    (.cond (.t 71)
      (.seq (.any (on1 (fa 0 73 1 2) <|
          on1 (ld 1 74 1 false 73) <|
          on1 (fa 2 75 3 2) <|
          .one (ld 3 76 1 false 75) true false <|
          on1 (fa 4 77 8 2) <|
          .one (ld 5 78 1 false 77) true false <|
          on1 (fa 6 79 9 2) <|
          .one (ld 7 80 2 true 79) true false <|
          on1 (fa 8 81 1 5) <|
          .one ⟨9,none,none,.k (.store 1 (.t 81) (.t 74))⟩ false true <|
          on1 (fa 10 82 3 5) <|
          .one ⟨11,none,none,.k (.store 1 (.t 82) (.t 76))⟩ false true <|
          on1 (fa 12 83 8 5) <|
          .one ⟨13,none,none,.k (.store 1 (.t 83) (.t 78))⟩ false true <|
          on1 (fa 14 84 9 5) <|
          on1 ⟨15,none,none,.k (.store 2 (.t 84) (.t 80))⟩ <|
          .done) [2] [1,2,5])
      (.seq (.reg [mc 0 6 (.int .i64 2)] [1,2,5,6])
      (.seq (.reg [mc 0 7 (.int .i64 0),mc 1 8 (.int .i64 0)] [1,2,5,6,7,8])
      (.seq (.seq (.reg [fa 0 85 1 2,ld 1 86 1 false 85] [1,2,5,6,7,8,86])
      (.block 1
        (.seq (.reg [bc 0 88 .eql 86 (.str [113,117,97,110,116,105,108,101]),mv 1 87 88] [1,2,5,6,7,8,86,87])
        (.cond (.t 87)
          (.reg [mc 0 7 (.int .i64 1),mc 1 8 (.int .i64 1000)] [1,2,5,6,7,8])
          (.seq (.reg [bc 0 90 .eql 86 (.str [100,101,99,97,121]),mv 1 89 90] [1,2,5,6,7,8,89])
          (.cond (.t 89)
            (.reg [mc 0 7 (.int .i64 1),mc 1 8 (.int .i64 1073741824)] [1,2,5,6,7,8])
            (.skip)))))))
      (.named [1,2,5,6,7,8] m103k7)))))
      (.seq (.reg [bc 0 151 .eql 16 (.int .i64 6),mv 1 150 151] [1,2,5,16,150])
      (.cond (.t 150)
        (.seq (.reg [fa 0 152 1 2,ld 1 153 1 false 152,fa 2 154 1 5,⟨3,none,none,.k (.store 1 (.t 154) (.t 153))⟩,mc 4 6 (.int .i64 1)] [1,2,5,6])
        (.seq (.reg [oo 0 155 (.load 1 false (.g 1)),fa 1 156 1 2,ld 2 157 1 false 156,oc 3 158 124 [.t 155,.t 157],oo 4 159 (.un .not (.t 158))] [1,2,5,6,159])
        (.cond (.t 159)
          (.seq (.reg [mc 0 4 (.bool false)] [4])
          (.ret))
          (.skip))))
        (.seq (.reg [bc 0 161 .eql 16 (.int .i64 7),mv 1 160 161] [1,2,5,16,160])
        (.cond (.t 160)
          (.seq (.reg [fa 0 162 1 2,ld 1 163 1 false 162,fa 2 164 1 5,⟨3,none,none,.k (.store 1 (.t 164) (.t 163))⟩,mc 4 6 (.int .i64 2)] [1,2,5,6])
          (.seq (.reg [oo 0 165 (.load 1 false (.g 2)),fa 1 166 1 2,ld 2 167 1 false 166,oc 3 168 124 [.t 165,.t 167],oo 4 169 (.un .not (.t 168))] [1,2,5,6,169])
          (.cond (.t 169)
            (.seq (.reg [mc 0 4 (.bool false)] [4])
            (.ret))
            (.skip))))
          (.seq (.reg [bc 0 171 .eql 16 (.int .i64 8),mv 1 170 171] [1,2,5,16,170])
          (.cond (.t 170)
            (.reg [mc 0 6 (.int .i64 3)] [1,2,5,6])
            (.seq (.reg [bc 0 173 .eql 16 (.int .i64 9),mv 1 172 173] [1,2,5,172])
            (.cond (.t 172)
              (.reg [mc 0 6 (.int .i64 2)] [1,2,5,6])
              (.seq (.reg [mc 0 4 (.bool false)] [4])
              (.ret))))))))))))
def m103k9 : MC :=
  .cond (.t 184)
    (.seq (.reg [mc 0 4 (.bool false)] [4])
    (.ret))
    (.skip)
def m103l0 : MC :=
  .seq (.reg [bi 0 189 .lss 188 187] [1,2,186,187,188,189])
  (.seq (.cond (.t 189)
    (.skip)
    (.exit 2))
  (.seq (.block 3
    (.seq (.reg [oo 0 190 (.iadr 12 (.t 186) (.t 188)),ld 1 191 12 true 190,oo 2 10 (.alloc [.int .i64 0,.str [],.str [],.str [],.int .i64 0,.int .i64 0,.str [],.sl 2 [] .exact,.int .i64 0,.int .i64 0,.int .i64 0,.sl 12 [] .exact]),⟨3,none,none,.k (.store 12 (.t 10) (.t 191))⟩] [1,2,10,186,187,188])
    (.seq (.reg [ld 0 192 12 true 10,mv 1 193 1,oc 2 194 103 [.t 192,.t 193],oo 3 195 (.un .not (.t 194))] [1,2,186,187,188,195])
    (.cond (.t 195)
      (.seq (.reg [mc 0 4 (.bool false)] [4])
      (.ret))
      (.skip)))))
  (.reg [bc 0 196 .add 188 (.int .i64 1),mv 1 188 196] [1,2,186,187,188])))
def m103k10 : MC :=
  .cond (.t 204)
    (.seq (.reg [fa 0 205 11 2,ld 1 206 1 false 205,oo 2 207 (.iadr 12 (.t 206) (.c (.int .i64 0))),ld 3 208 12 true 207,oo 4 11 (.alloc [.int .i64 0,.str [],.str [],.str [],.int .i64 0,.int .i64 0,.str [],.sl 2 [] .exact,.int .i64 0,.int .i64 0,.int .i64 0,.sl 12 [] .exact]),⟨5,none,none,.k (.store 12 (.t 11) (.t 208))⟩] [11])
    (.seq (.reg [ld 0 209 12 true 11,oo 1 210 (.build [.int .i64 0,.int .i64 0,.str []] [(0,1,.c (.int .i64 1)),(1,1,.c (.int .i64 1))]),oo 2 211 (.build [.int .i64 0,.str [],.str [],.str [],.int .i64 0,.int .i64 0,.str [],.sl 2 [] .exact,.int .i64 0,.int .i64 0,.int .i64 0,.sl 12 [] .exact] [(0,1,.c (.int .i64 1)),(4,3,.t 210)]),oc 3 212 125 [.t 209,.t 211],mv 4 4 212] [4])
    (.ret)))
    (.skip)
def m103k11 : MC :=
  .seq (.reg [mc 0 4 (.bool true)] [4])
  (.ret)
def m103k12 : MC :=
  .seq (.seq (.reg [fa 0 197 1 2,ld 1 198 1 false 197,bc 2 199 .eql 198 (.str [99,111,117,110,116]),mv 3 200 199,og 4 201 200 true (.fadr 0 (.t 2)),og 5 202 200 true (.load 1 false (.t 201)),og 6 203 200 true (.bin .eql (.t 202) (.c (.int .i64 5))),oo 7 204 (.pick (.t 200) (.t 203) (.c (.bool false)))] [2,204])
  (.named [2,204] m103k10))
  (.named [] m103k11)
def m103k13 : MC :=
  .seq (.seq (.reg [fa 0 185 11 2,ld 1 186 1 false 185,oo 2 187 (.len false (.t 186)),mc 3 188 (.int .i64 0)] [1,2,186,187,188])
  (.block 2
    (.loop m103l0)))
  (.named [2] m103k12)
def m103k14 : MC :=
  .seq (.seq (.reg [ld 0 174 12 true 2,ld 1 175 12 true 5,oc 2 176 125 [.t 174,.t 175],oo 3 177 (.un .not (.t 176)),mv 4 178 177,og 5 179 178 false (.fadr 11 (.t 2)),og 6 180 178 false (.load 1 false (.t 179)),og 7 181 178 false (.len false (.t 180)),gm 8 182 178 false 6,og 9 183 178 false (.bin .neq (.t 181) (.t 182)),oo 10 184 (.pick (.t 178) (.c (.bool true)) (.t 183))] [1,2,184])
  (.named [1,2,184] m103k9))
  (.named [1,2] m103k13)
def m103 : MC :=
  .seq (.reg [oo 0 2 (.box (.t 0)),mc 1 4 (.bool false)] [1,2])
  (.seq (.reg [fa 0 12 0 2,ld 1 13 1 false 12,oo 2 14 (.build [.int .i64 0,.str [],.str [],.str [],.int .i64 0,.int .i64 0,.str [],.sl 2 [] .exact,.int .i64 0,.int .i64 0,.int .i64 0,.sl 12 [] .exact] [(0,1,.t 13)]),oo 3 5 (.alloc [.int .i64 0,.str [],.str [],.str [],.int .i64 0,.int .i64 0,.str [],.sl 2 [] .exact,.int .i64 0,.int .i64 0,.int .i64 0,.sl 12 [] .exact]),⟨4,none,none,.k (.store 12 (.t 5) (.t 14))⟩] [1,2,5])
  (.seq (.reg [mc 0 6 (.int .i64 0)] [1,2,5,6])
  (.seq (.seq (.reg [fa 0 15 0 2,ld 1 16 1 false 15] [1,2,5,6,16])
  (.block 0
    (.seq (.reg [bc 0 18 .eql 16 (.int .i64 1),mv 1 17 18] [1,2,5,6,16,17])
    (.cond (.t 17)
      (.seq (.any (on1 (fa 0 19 4 2) <|
          on1 (ld 1 20 3 true 19) <|
          on1 (fa 2 21 7 2) <|
          .one (ld 3 22 1 false 21) true false <|
          on1 (fa 4 23 2 2) <|
          .one (ld 5 24 1 false 23) true false <|
          on1 (fa 6 25 4 5) <|
          .one ⟨7,none,none,.k (.store 3 (.t 25) (.t 20))⟩ false true <|
          on1 (fa 8 26 7 5) <|
          .one ⟨9,none,none,.k (.store 1 (.t 26) (.t 22))⟩ false true <|
          on1 (fa 10 27 2 5) <|
          on1 ⟨11,none,none,.k (.store 1 (.t 27) (.t 24))⟩ <|
          .done) [2] [1,2,5,6])
      (.seq (.reg [fa 0 28 4 2,ld 1 29 3 true 28,oc 2 30 121 [.t 29],bc 3 31 .neq 30 (.int .i64 0),mv 4 32 31,og 5 33 32 false (.fadr 4 (.t 2)),og 6 34 32 false (.fadr 1 (.t 33)),og 7 35 32 false (.load 1 false (.t 34)),og 8 36 32 false (.bin .lss (.t 35) (.c (.int .i64 0))),oo 9 37 (.pick (.t 32) (.c (.bool true)) (.t 36)),mv 10 38 37,og 11 39 38 false (.fadr 4 (.t 2)),og 12 40 38 false (.fadr 0 (.t 39)),og 13 41 38 false (.load 1 false (.t 40)),og 14 42 38 false (.fadr 7 (.t 2)),og 15 43 38 false (.load 1 false (.t 42)),og 16 44 38 false (.fadr 2 (.t 2)),og 17 45 38 false (.load 1 false (.t 44)),og 18 46 38 false (.build [.int .i64 0,.sl 2 [] .exact,.str []] [(0,1,.t 41),(1,1,.t 43),(2,1,.t 45)]),⟨19,some 47,(some (38,false)),.call (.f 122) [.t 46]⟩,og 20 48 38 false (.bin .neq (.t 47) (.c (.int .i64 0))),oo 21 49 (.pick (.t 38) (.c (.bool true)) (.t 48))] [1,2,5,6,49])
      (.named [1,2,5,6,49] m103k0)))
      (.seq (.seq (.reg [bc 0 51 .eql 16 (.int .i64 2),mv 1 50 51] [1,2,5,6,16,50])
      (.cond (.t 50)
        (.skip)
        (.seq (.reg [bc 0 52 .eql 16 (.int .i64 3),mv 1 50 52] [1,2,5,6,16,50])
        (.cond (.t 50)
          (.skip)
          (.reg [bc 0 53 .eql 16 (.int .i64 4),mv 1 50 53] [1,2,5,6,16,50])))))
      (.named [1,2,5,6,16,50] m103k8))))))
  (.named [1,2,5,6] m103k14))))
theorem is103 : FnIs Tryz.prog 103 213 m103 [.t 4] := .of Tryz.call103 Tryz.func103 (by kernel_rfl)
def m104l0 : MC :=
  .seq (.reg [bi 0 9 .lss 8 7] [0,1,7,8,9])
  (.seq (.cond (.t 9)
    (.skip)
    (.exit 0))
  (.seq (.block 1
    (.seq (.reg [mv 0 10 8,mv 1 5 10] [0,1,5,7,8])
    (.seq (.reg [mv 0 11 1,mv 1 12 0,mv 2 13 5,oo 3 14 (.iadr 4 (.t 12) (.t 13)),ld 4 15 4 true 14,⟨5,some 16,none,.call (.t 11) [.t 15]⟩] [0,1,5,7,8,16])
    (.cond (.t 16)
      (.seq (.reg [mv 0 17 5,mv 1 4 17] [4])
      (.ret))
      (.skip)))))
  (.reg [bc 0 18 .add 8 (.int .i64 1),mv 1 8 18] [0,1,7,8])))
def m104k0 : MC :=
  .seq (.reg [mc 0 4 (.int .i64 (-1))] [4])
  (.ret)
def m104 : MC :=
  .seq (.reg [mc 0 4 (.int .i64 0)] [0,1])
  (.seq (.seq (.reg [mv 0 6 0,oo 1 7 (.len false (.t 6)),mc 2 8 (.int .i64 0)] [0,1,7,8])
  (.block 0
    (.loop m104l0)))
  (.named [] m104k0))
theorem is104 : FnIs Tryz.prog 104 19 m104 [.t 4] := .of Tryz.call104 Tryz.func104 (by kernel_rfl)
def m105 : MC :=
  .seq (.reg [oo 0 2 (.box (.t 0)),mc 1 3 (.bool false)] [1,2])
  (.seq (.reg [fa 0 4 0 2,ld 1 5 1 false 4,fa 2 6 3 1,ld 3 7 1 false 6,bi 4 8 .eql 5 7,mv 5 3 8] [3])
  (.ret))
theorem is105 : FnIs Tryz.prog 105 9 m105 [.t 3] := .of Tryz.call105 Tryz.func105 (by kernel_rfl)
def m106 : MC :=
  .seq (.reg [oo 0 2 (.box (.t 0)),oo 1 3 (.alloc [.int .i64 0,.sl 2 [] .exact,.str []]),mc 2 4 (.int .i64 0)] [1,2,3])
  (.seq (.reg [fa 0 6 2 1,ld 1 7 1 false 6,oo 2 8 (.func (.func 107) [] [.t 2]),oc 3 9 97 [.t 7,.t 8],mv 4 5 9] [1,3,5])
  (.seq (.seq (.reg [mv 0 10 5,bc 1 11 .lss 10 (.int .i64 0)] [1,3,5,11])
  (.cond (.t 11)
    (.seq (.reg [oc 0 12 76 [.c (.int .i64 4)],oo 1 13 (.ext (.t 12) 0),oo 2 14 (.ext (.t 12) 1),⟨3,none,none,.k (.store 3 (.t 3) (.t 13))⟩,mv 4 4 14] [3,4])
    (.ret))
    (.skip)))
  (.seq (.reg [fa 0 15 2 1,ld 1 16 1 false 15,mv 2 17 5,oo 3 18 (.iadr 4 (.t 16) (.t 17)),fa 4 19 1 18,ld 5 20 3 true 19,⟨6,none,none,.k (.store 3 (.t 3) (.t 20))⟩,mc 7 4 (.int .i64 0)] [3,4])
  (.ret))))
theorem is106 : FnIs Tryz.prog 106 21 m106 [.c 3 3 true,.t 4] := .of Tryz.call106 Tryz.func106 (by kernel_rfl)
def m107 : MC :=
  .seq (.reg [oo 0 2 (.box (.t 0)),mc 1 3 (.bool false)] [1,2])
  (.seq (.reg [fa 0 4 0 2,ld 1 5 1 false 4,ld 2 6 1 false 1,bi 3 7 .eql 5 6,mv 4 3 7] [3])
  (.ret))
theorem is107 : FnIs Tryz.prog 107 8 m107 [.t 3] := .of Tryz.call107 Tryz.func107 (by kernel_rfl)
def m108 : MC :=
  .seq (.reg [oo 0 2 (.box (.t 0)),mc 1 4 (.nilf)] [1,2])
  (.seq (.reg [⟨0,some 5,none,.k .mkMap⟩,ld 1 6 6 true 2,oo 2 7 (.func (.func 126) [.t 6] []),⟨3,none,none,.k (.insC .i64 1 (.t 5) (.t 7))⟩,ld 4 8 6 true 2,oo 5 9 (.func (.func 127) [.t 8] []),⟨6,none,none,.k (.insC .i64 2 (.t 5) (.t 9))⟩,ld 7 10 6 true 2,oo 8 11 (.func (.func 128) [.t 10] []),⟨9,none,none,.k (.insC .i64 3 (.t 5) (.t 11))⟩,ld 10 12 6 true 2,oo 11 13 (.func (.func 129) [.t 12] []),⟨12,none,none,.k (.insC .i64 4 (.t 5) (.t 13))⟩,ld 13 14 6 true 2,oo 14 15 (.func (.func 130) [.t 14] []),⟨15,none,none,.k (.insC .i64 5 (.t 5) (.t 15))⟩,ld 16 16 6 true 2,oo 17 17 (.func (.func 131) [.t 16] []),⟨18,none,none,.k (.insC .i64 6 (.t 5) (.t 17))⟩,ld 19 18 6 true 2,oo 20 19 (.func (.func 132) [.t 18] []),⟨21,none,none,.k (.insC .i64 7 (.t 5) (.t 19))⟩,ld 22 20 6 true 2,oo 23 21 (.func (.func 133) [.t 20] []),⟨24,none,none,.k (.insC .i64 8 (.t 5) (.t 21))⟩,ld 25 22 6 true 2,oo 26 23 (.func (.func 134) [.t 22] []),⟨27,none,none,.k (.insC .i64 9 (.t 5) (.t 23))⟩,mv 28 24 5,mv 29 25 1,oo 30 26 (.look false false (.nilf) (.t 24) (.t 25)),mv 31 4 26] [4])
  (.ret))
theorem is108 : FnIs Tryz.prog 108 27 m108 [.t 4] := .of Tryz.call108 Tryz.func108 (by kernel_rfl)
def m114k0 : MC :=
  .cond (.t 34)
    (.skip)
    (.exit 2)
def m114k1 : MC :=
  .seq (.block 3
    (.any (on1 (mv 0 37 0) <|
        on1 (mv 1 38 9) <|
        on1 (mv 2 39 0) <|
        on1 (mv 3 40 9) <|
        on1 (bc 4 41 .sub 40 (.int .i64 1)) <|
        on1 (mv 5 42 0) <|
        on1 (mv 6 43 9) <|
        on1 (bc 7 44 .sub 43 (.int .i64 1)) <|
        on1 (oo 8 45 (.iadr 6 (.t 42) (.t 44))) <|
        on1 (ld 9 46 6 true 45) <|
        on1 (mv 10 47 0) <|
        on1 (mv 11 48 9) <|
        on1 (oo 12 49 (.iadr 6 (.t 47) (.t 48))) <|
        on1 (ld 13 50 6 true 49) <|
        on1 (oo 14 51 (.iadr 6 (.t 37) (.t 38))) <|
        on1 ⟨15,none,none,.k (.store 6 (.t 51) (.t 46))⟩ <|
        on1 (oo 16 52 (.iadr 6 (.t 39) (.t 41))) <|
        on1 ⟨17,none,none,.k (.store 6 (.t 52) (.t 50))⟩ <|
        .done) [] [0,1,2,3,8,9]))
  (.reg [mv 0 35 9,bc 1 36 .sub 35 (.int .i64 1),mv 2 9 36] [0,1,2,3,8,9])
def m114l0 : MC :=
  .seq (.seq (.any (on1 (mv 0 18 9) <|
      on1 (mv 1 19 1) <|
      on1 (bi 2 20 .gtr 18 19) <|
      on1 (mv 3 21 20) <|
      on1 (gm 4 22 21 true 3) <|
      on1 (gm 5 23 21 true 0) <|
      on1 (gm 6 24 21 true 9) <|
      on1 (og 7 25 21 true (.iadr 6 (.t 23) (.t 24))) <|
      on1 (og 8 26 21 true (.load 6 true (.t 25))) <|
      on1 (gm 9 27 21 true 0) <|
      on1 (gm 10 28 21 true 9) <|
      on1 (og 11 29 21 true (.bin .sub (.t 28) (.c (.int .i64 1)))) <|
      on1 (og 12 30 21 true (.iadr 6 (.t 27) (.t 29))) <|
      on1 (og 13 31 21 true (.load 6 true (.t 30))) <|
      on1 ⟨14,some 32,(some (21,true)),.call (.t 22) [.t 26,.t 31]⟩ <|
      on1 (og 15 33 21 true (.bin .lss (.t 32) (.c (.int .i64 0)))) <|
      on1 (oo 16 34 (.pick (.t 21) (.t 33) (.c (.bool false)))) <|
      .done) [] [0,1,2,3,8,9,34])
  (.named [0,1,2,3,8,9,34] m114k0))
  (.named [0,1,2,3,8,9] m114k1)
def m114k2 : MC :=
  .reg [mv 0 15 8,bc 1 16 .add 15 (.int .i64 1),mv 2 8 16] [0,1,2,3,8]
def m114l1 : MC :=
  .seq (.seq (.reg [mv 0 12 8,mv 1 13 2,bi 2 14 .lss 12 13] [0,1,2,3,8,14])
  (.cond (.t 14)
    (.skip)
    (.exit 0)))
  (.seq (.block 1
    (.seq (.reg [mv 0 17 8,mv 1 9 17] [0,1,2,3,8,9])
    (.block 2
      (.loop m114l0))))
  (.named [0,1,2,3,8] m114k2))
def m114 : MC :=
  .seq (.reg [mv 0 10 1,bc 1 11 .add 10 (.int .i64 1),mv 2 8 11] [0,1,2,3,8])
  (.block 0
    (.loop m114l1))
theorem is114 : FnIs Tryz.prog 114 53 m114 [] := .of Tryz.call114 Tryz.func114 (by kernel_rfl)
def m121k0 : MC :=
  .cond (.t 25)
    (.skip)
    (.reg [mv 0 34 4,oo 1 35 (.un .not (.t 34)),mv 2 36 35,og 3 37 36 true (.fadr 2 (.t 1)),og 4 38 36 true (.load 1 false (.t 37)),og 5 39 36 true (.bin .neq (.t 38) (.c (.str []))),oo 6 40 (.pick (.t 36) (.t 39) (.c (.bool false))),mv 7 25 40] [1,3,4,25])
def m121k1 : MC :=
  .cond (.t 59)
    (.seq (.reg [mc 0 2 (.int .i64 2)] [2])
    (.ret))
    (.skip)
def m121k2 : MC :=
  .cond (.t 41)
    (.seq (.reg [mc 0 2 (.int .i64 1)] [2])
    (.ret))
    (.seq (.reg [fa 0 60 1 1,ld 1 61 1 false 60,bc 2 62 .lss 61 (.int .i64 (-1152921504606846976)),mv 3 63 62,og 4 64 63 false (.fadr 1 (.t 1)),og 5 65 63 false (.load 1 false (.t 64)),og 6 66 63 false (.bin .gtr (.t 65) (.c (.int .i64 1152921504606846976))),oo 7 67 (.pick (.t 63) (.c (.bool true)) (.t 66)),mv 8 59 67] [1,4,59])
    (.named [1,4,59] m121k1))
def m121k3 : MC :=
  .cond (.t 25)
    (.seq (.reg [mc 0 2 (.int .i64 1)] [2])
    (.ret))
    (.seq (.reg [mv 0 42 3,oo 1 43 (.un .not (.t 42)),mv 2 44 43,og 3 45 44 true (.fadr 1 (.t 1)),og 4 46 44 true (.load 1 false (.t 45)),og 5 47 44 true (.bin .neq (.t 46) (.c (.int .i64 0))),oo 6 48 (.pick (.t 44) (.t 47) (.c (.bool false))),mv 7 49 48,og 8 50 49 true (.fadr 0 (.t 1)),og 9 51 49 true (.load 1 false (.t 50)),og 10 52 49 true (.bin .neq (.t 51) (.c (.int .i64 1))),gm 11 53 49 true 52,og 12 54 53 false (.fadr 1 (.t 1)),og 13 55 53 false (.load 1 false (.t 54)),og 14 56 53 false (.bin .neq (.t 55) (.c (.int .i64 1))),og 15 57 49 true (.pick (.t 53) (.c (.bool true)) (.t 56)),oo 16 58 (.pick (.t 49) (.t 57) (.c (.bool false))),mv 17 41 58] [1,4,41])
    (.named [1,4,41] m121k2))
def m121k4 : MC :=
  .cond (.t 85)
    (.seq (.reg [mc 0 2 (.int .i64 3)] [2])
    (.ret))
    (.skip)
def m121k5 : MC :=
  .cond (.t 110)
    (.seq (.reg [mc 0 2 (.int .i64 3)] [2])
    (.ret))
    (.skip)
def m121k6 : MC :=
  .reg [bc 0 111 .add 89 (.int .i64 1),mv 1 89 111] [1,6,88,89]
def m121l0 : MC :=
  .seq (.reg [bi 0 90 .lss 89 88] [1,6,88,89,90])
  (.seq (.cond (.t 90)
    (.skip)
    (.exit 1))
  (.seq (.block 2
    (.seq (.reg [mv 0 91 89,mv 1 7 91] [1,6,7,88,89])
    (.seq (.reg [fa 0 92 2 1,ld 1 93 1 false 92,mv 2 94 7,oo 3 95 (.istr (.t 93) (.t 94)),mv 4 8 95] [1,6,8,88,89])
    (.seq (.reg [mv 0 96 8,mv 1 97 6,bi 2 98 .lss 96 97,mv 3 99 98,gm 4 100 99 false 8,og 5 101 99 false (.bin .gtr (.t 100) (.c (.int .u8 126))),oo 6 102 (.pick (.t 99) (.c (.bool true)) (.t 101)),mv 7 103 102,gm 8 104 103 false 8,og 9 105 103 false (.bin .eql (.t 104) (.c (.int .u8 34))),oo 10 106 (.pick (.t 103) (.c (.bool true)) (.t 105)),mv 11 107 106,gm 12 108 107 false 8,og 13 109 107 false (.bin .eql (.t 108) (.c (.int .u8 92))),oo 14 110 (.pick (.t 107) (.c (.bool true)) (.t 109))] [1,6,88,89,110])
    (.named [1,6,88,89,110] m121k5)))))
  (.named [1,6,88,89] m121k6)))
def m121k7 : MC :=
  .seq (.reg [mc 0 2 (.int .i64 0)] [2])
  (.ret)
def m121k8 : MC :=
  .seq (.seq (.reg [fa 0 86 2 1,ld 1 87 1 false 86,oo 2 88 (.len true (.t 87)),mc 3 89 (.int .i64 0)] [1,6,88,89])
  (.block 1
    (.loop m121l0)))
  (.named [] m121k7)
def m121k9 : MC :=
  .seq (.seq (.reg [fa 0 73 2 1,ld 1 74 1 false 73,oo 2 75 (.len true (.t 74)),mv 3 76 5,bi 4 77 .gtr 75 76] [1,6,77])
  (.cond (.t 77)
    (.seq (.reg [mc 0 2 (.int .i64 2)] [2])
    (.ret))
    (.skip)))
  (.seq (.seq (.reg [fa 0 78 0 1,ld 1 79 1 false 78,bc 2 80 .eql 79 (.int .i64 5),mv 3 81 80,og 4 82 81 true (.fadr 2 (.t 1)),og 5 83 81 true (.load 1 false (.t 82)),og 6 84 81 true (.bin .eql (.t 83) (.c (.str []))),oo 7 85 (.pick (.t 81) (.t 84) (.c (.bool false)))] [1,6,85])
  (.named [1,6,85] m121k4))
  (.named [1,6] m121k8))
def m121k10 : MC :=
  .seq (.seq (.reg [mv 0 68 4,oo 1 69 (.un .not (.t 68))] [1,69])
  (.cond (.t 69)
    (.seq (.reg [mc 0 2 (.int .i64 0)] [2])
    (.ret))
    (.skip)))
  (.seq (.reg [mc 0 5 (.int .i64 64),mc 1 6 (.int .u8 32)] [1,5,6])
  (.seq (.seq (.reg [fa 0 70 0 1,ld 1 71 1 false 70,bc 2 72 .eql 71 (.int .i64 5)] [1,5,6,72])
  (.cond (.t 72)
    (.reg [mc 0 5 (.int .i64 32),mc 1 6 (.int .u8 33)] [1,5,6])
    (.skip)))
  (.named [1,5,6] m121k9)))
def m121k11 : MC :=
  .seq (.block 0
    (.seq (.seq (.reg [fa 0 26 0 1,ld 1 27 1 false 26,bc 2 28 .lss 27 (.int .i64 0),mv 3 29 28,og 4 30 29 false (.fadr 0 (.t 1)),og 5 31 29 false (.load 1 false (.t 30)),og 6 32 29 false (.bin .gtr (.t 31) (.c (.int .i64 5))),oo 7 33 (.pick (.t 29) (.c (.bool true)) (.t 32)),mv 8 25 33] [1,3,4,25])
    (.named [1,3,4,25] m121k0))
    (.named [1,3,4,25] m121k3)))
  (.named [1,4] m121k10)
def m121k12 : MC :=
  .seq (.reg [fa 0 17 0 1,ld 1 18 1 false 17,bc 2 19 .eql 18 (.int .i64 4),mv 3 20 19,og 4 21 20 false (.fadr 0 (.t 1)),og 5 22 20 false (.load 1 false (.t 21)),og 6 23 20 false (.bin .eql (.t 22) (.c (.int .i64 5))),oo 7 24 (.pick (.t 20) (.c (.bool true)) (.t 23)),mv 8 4 24] [1,3,4])
  (.named [1,3,4] m121k11)
def m121 : MC :=
  .seq (.reg [oo 0 1 (.box (.t 0)),mc 1 2 (.int .i64 0)] [1])
  (.seq (.reg [fa 0 9 0 1,ld 1 10 1 false 9,bc 2 11 .eql 10 (.int .i64 2),mv 3 12 11,og 4 13 12 false (.fadr 0 (.t 1)),og 5 14 12 false (.load 1 false (.t 13)),og 6 15 12 false (.bin .eql (.t 14) (.c (.int .i64 3))),oo 7 16 (.pick (.t 12) (.c (.bool true)) (.t 15)),mv 8 3 16] [1,3])
  (.named [1,3] m121k12))
theorem is121 : FnIs Tryz.prog 121 112 m121 [.t 2] := .of Tryz.call121 Tryz.func121 (by kernel_rfl)
def m122k0 : MC :=
  .cond (.t 21)
    (.seq (.reg [mc 0 2 (.int .i64 3)] [2])
    (.ret))
    (.skip)
def m122k1 : MC :=
  .cond (.t 39)
    (.seq (.reg [mc 0 2 (.int .i64 3)] [2])
    (.ret))
    (.skip)
def m122k2 : MC :=
  .cond (.t 48)
    (.seq (.reg [mc 0 2 (.int .i64 70)] [2])
    (.ret))
    (.skip)
def m122k3 : MC :=
  .seq (.reg [mc 0 2 (.int .i64 0)] [2])
  (.ret)
def m122k4 : MC :=
  .seq (.seq (.reg [fa 0 40 1 1,ld 1 41 1 false 40,oc 2 42 145 [.t 41],bc 3 43 .neq 42 (.int .i64 0),mv 4 44 43,og 5 45 44 false (.fadr 1 (.t 1)),og 6 46 44 false (.load 1 false (.t 45)),⟨7,some 47,(some (44,false)),.call (.f 146) [.t 46,.f 147]⟩,oo 8 48 (.pick (.t 44) (.c (.bool true)) (.t 47))] [48])
  (.named [48] m122k2))
  (.named [] m122k3)
def m122k5 : MC :=
  .seq (.seq (.reg [fa 0 22 0 1,ld 1 23 1 false 22,bc 2 24 .eql 23 (.int .i64 5),fa 3 25 2 1,ld 4 26 1 false 25,bc 5 27 .neq 26 (.str []),oo 6 28 (.cmp 0 true (.t 24) (.t 27)),mv 7 29 28,og 8 30 29 false (.fadr 2 (.t 1)),og 9 31 29 false (.load 1 false (.t 30)),og 10 32 29 false (.bin .neq (.t 31) (.c (.str []))),gm 11 33 29 false 32,og 12 34 33 true (.fadr 2 (.t 1)),og 13 35 33 true (.load 1 false (.t 34)),⟨14,some 36,(some (33,true)),.call (.f 123) [.t 35]⟩,og 15 37 33 true (.un .not (.t 36)),og 16 38 29 false (.pick (.t 33) (.t 37) (.c (.bool false))),oo 17 39 (.pick (.t 29) (.c (.bool true)) (.t 38))] [1,39])
  (.named [1,39] m122k1))
  (.named [1] m122k4)
def m122 : MC :=
  .seq (.reg [oo 0 1 (.box (.t 0)),mc 1 2 (.int .i64 0)] [1])
  (.seq (.seq (.reg [fa 0 3 0 1,ld 1 4 1 false 3,bc 2 5 .lss 4 (.int .i64 1),mv 3 6 5,og 4 7 6 false (.fadr 0 (.t 1)),og 5 8 6 false (.load 1 false (.t 7)),og 6 9 6 false (.bin .gtr (.t 8) (.c (.int .i64 5))),oo 7 10 (.pick (.t 6) (.c (.bool true)) (.t 9)),mv 8 11 10,og 9 12 11 false (.fadr 1 (.t 1)),og 10 13 11 false (.load 1 false (.t 12)),og 11 14 11 false (.len false (.t 13)),og 12 15 11 false (.bin .gtr (.t 14) (.c (.int .i64 0))),gm 13 16 11 false 15,og 14 17 16 true (.load 3 true (.t 1)),⟨15,some 18,(some (16,true)),.call (.f 144) [.t 17]⟩,og 16 19 16 true (.un .not (.t 18)),og 17 20 11 false (.pick (.t 16) (.t 19) (.c (.bool false))),oo 18 21 (.pick (.t 11) (.c (.bool true)) (.t 20))] [1,21])
  (.named [1,21] m122k0))
  (.named [1] m122k5))
theorem is122 : FnIs Tryz.prog 122 49 m122 [.t 2] := .of Tryz.call122 Tryz.func122 (by kernel_rfl)
def m123k0 : MC :=
  .cond (.t 15)
    (.seq (.reg [mc 0 2 (.bool false)] [2])
    (.ret))
    (.skip)
def m123k1 : MC :=
  .cond (.t 31)
    (.skip)
    (.seq (.reg [mc 0 2 (.bool false)] [2])
    (.ret))
def m123k2 : MC :=
  .cond (.t 24)
    (.skip)
    (.seq (.reg [mv 0 32 3,bc 1 33 .gtr 32 (.int .i64 0),mv 2 34 33,gm 3 35 34 true 4,og 4 36 34 true (.bin .geq (.t 35) (.c (.int .u8 48))),gm 5 37 34 true 36,gm 6 38 37 true 4,og 7 39 37 true (.bin .leq (.t 38) (.c (.int .u8 57))),og 8 40 34 true (.pick (.t 37) (.t 39) (.c (.bool false))),gm 9 41 34 true 40,gm 10 42 41 false 4,og 11 43 41 false (.bin .eql (.t 42) (.c (.int .u8 95))),og 12 44 34 true (.pick (.t 41) (.c (.bool true)) (.t 43)),oo 13 45 (.pick (.t 34) (.t 44) (.c (.bool false))),mv 14 31 45] [0,17,18,31])
    (.named [0,17,18,31] m123k1))
def m123k3 : MC :=
  .reg [bc 0 46 .add 18 (.int .i64 1),mv 1 18 46] [0,17,18]
def m123l0 : MC :=
  .seq (.reg [bi 0 19 .lss 18 17] [0,17,18,19])
  (.seq (.cond (.t 19)
    (.skip)
    (.exit 0))
  (.seq (.block 1
    (.seq (.reg [mv 0 20 18,mv 1 3 20] [0,3,17,18])
    (.seq (.reg [mv 0 21 0,mv 1 22 3,oo 2 23 (.istr (.t 21) (.t 22)),mv 3 4 23] [0,3,4,17,18])
    (.block 2
      (.seq (.reg [mv 0 25 4,bc 1 26 .geq 25 (.int .u8 97),mv 2 27 26,gm 3 28 27 true 4,og 4 29 27 true (.bin .leq (.t 28) (.c (.int .u8 122))),oo 5 30 (.pick (.t 27) (.t 29) (.c (.bool false))),mv 6 24 30] [0,3,4,17,18,24])
      (.named [0,3,4,17,18,24] m123k2))))))
  (.named [0,17,18] m123k3)))
def m123k4 : MC :=
  .seq (.reg [mc 0 2 (.bool true)] [2])
  (.ret)
def m123k5 : MC :=
  .seq (.seq (.reg [mv 0 16 0,oo 1 17 (.len true (.t 16)),mc 2 18 (.int .i64 0)] [0,17,18])
  (.block 0
    (.loop m123l0)))
  (.named [] m123k4)
def m123 : MC :=
  .seq (.reg [mc 0 2 (.bool false)] [0])
  (.seq (.seq (.reg [mv 0 5 0,bc 1 6 .eql 5 (.str []),mv 2 7 6,gm 3 8 7 false 0,og 4 9 7 false (.len true (.t 8)),og 5 10 7 false (.bin .gtr (.t 9) (.c (.int .i64 24))),oo 6 11 (.pick (.t 7) (.c (.bool true)) (.t 10)),mv 7 12 11,gm 8 13 12 false 0,⟨9,some 14,(some (12,false)),.call (.f 148) [.t 13]⟩,oo 10 15 (.pick (.t 12) (.c (.bool true)) (.t 14))] [0,15])
  (.named [0,15] m123k0))
  (.named [0] m123k5))
theorem is123 : FnIs Tryz.prog 123 47 m123 [.t 2] := .of Tryz.call123 Tryz.func123 (by kernel_rfl)
def m124 : MC :=
  .seq (.reg [mc 0 4 (.bool false)] [0,1])
  (.seq (.reg [mv 0 5 0,mv 1 6 1,oc 2 7 149 [.t 5,.t 6],bc 3 8 .geq 7 (.int .i64 0),mv 4 4 8] [4])
  (.ret))
theorem is124 : FnIs Tryz.prog 124 9 m124 [.t 4] := .of Tryz.call124 Tryz.func124 (by kernel_rfl)
def m125 : MC :=
  .seq (.reg [oo 0 2 (.box (.t 0)),oo 1 3 (.box (.t 1)),mc 2 4 (.bool false)] [2,3])
  (.seq (.reg [fa 0 5 0 2,ld 1 6 1 false 5,fa 2 7 0 3,ld 3 8 1 false 7,bi 4 9 .eql 6 8,mv 5 10 9,og 6 11 10 true (.fadr 1 (.t 2)),og 7 12 10 true (.load 1 false (.t 11)),og 8 13 10 true (.fadr 1 (.t 3)),og 9 14 10 true (.load 1 false (.t 13)),og 10 15 10 true (.bin .eql (.t 12) (.t 14)),oo 11 16 (.pick (.t 10) (.t 15) (.c (.bool false))),mv 12 17 16,og 13 18 17 true (.fadr 2 (.t 2)),og 14 19 17 true (.load 1 false (.t 18)),og 15 20 17 true (.fadr 2 (.t 3)),og 16 21 17 true (.load 1 false (.t 20)),og 17 22 17 true (.bin .eql (.t 19) (.t 21)),oo 18 23 (.pick (.t 17) (.t 22) (.c (.bool false))),mv 19 24 23,og 20 25 24 true (.fadr 3 (.t 2)),og 21 26 24 true (.load 1 false (.t 25)),og 22 27 24 true (.fadr 3 (.t 3)),og 23 28 24 true (.load 1 false (.t 27)),og 24 29 24 true (.bin .eql (.t 26) (.t 28)),oo 25 30 (.pick (.t 24) (.t 29) (.c (.bool false))),mv 26 31 30,og 27 32 31 true (.fadr 4 (.t 2)),og 28 33 31 true (.load 3 true (.t 32)),og 29 34 31 true (.fadr 4 (.t 3)),og 30 35 31 true (.load 3 true (.t 34)),og 31 36 31 true (.eqv [.i,.i,.s] false (.t 33) (.t 35)),oo 32 37 (.pick (.t 31) (.t 36) (.c (.bool false))),mv 33 38 37,og 34 39 38 true (.fadr 7 (.t 2)),og 35 40 38 true (.load 1 false (.t 39)),og 36 41 38 true (.fadr 7 (.t 3)),og 37 42 38 true (.load 1 false (.t 41)),⟨38,some 43,(some (38,true)),.call (.f 150) [.t 40,.t 42]⟩,oo 39 44 (.pick (.t 38) (.t 43) (.c (.bool false))),mv 40 45 44,og 41 46 45 true (.fadr 8 (.t 2)),og 42 47 45 true (.load 1 false (.t 46)),og 43 48 45 true (.fadr 8 (.t 3)),og 44 49 45 true (.load 1 false (.t 48)),og 45 50 45 true (.bin .eql (.t 47) (.t 49)),oo 46 51 (.pick (.t 45) (.t 50) (.c (.bool false))),mv 47 52 51,og 48 53 52 true (.fadr 9 (.t 2)),og 49 54 52 true (.load 2 true (.t 53)),og 50 55 52 true (.fadr 9 (.t 3)),og 51 56 52 true (.load 2 true (.t 55)),og 52 57 52 true (.eqv [.i,.i] false (.t 54) (.t 56)),oo 53 58 (.pick (.t 52) (.t 57) (.c (.bool false))),mv 54 4 58] [4])
  (.ret))
theorem is125 : FnIs Tryz.prog 125 59 m125 [.t 4] := .of Tryz.call125 Tryz.func125 (by kernel_rfl)
def m126 : MC :=
  .seq (.reg [oo 0 3 (.box (.t 0)),oo 1 4 (.box (.t 1)),oo 2 6 (.alloc [.int .i64 0,.sl 2 [] .exact,.str []]),mc 3 7 (.int .i64 0)] [4,6])
  (.seq (.reg [fa 0 8 4 4,fa 1 9 0 8,ld 2 10 1 false 9,fa 3 11 7 4,ld 4 12 1 false 11,fa 5 13 2 4,ld 6 14 1 false 13,oo 7 15 (.build [.int .i64 0,.sl 2 [] .exact,.str []] [(0,1,.t 10),(1,1,.t 12),(2,1,.t 14)]),⟨8,none,none,.k (.store 3 (.t 6) (.t 15))⟩,mc 9 7 (.int .i64 0)] [6,7])
  (.ret))
theorem is126 : FnIs Tryz.prog 126 16 m126 [.c 6 3 true,.t 7] := .of Tryz.call126 Tryz.func126 (by kernel_rfl)
def m127 : MC :=
  .seq (.reg [oo 0 3 (.box (.t 0)),oo 1 4 (.box (.t 1)),oo 2 6 (.alloc [.int .i64 0,.sl 2 [] .exact,.str []]),mc 3 7 (.int .i64 0)] [3,4,6])
  (.seq (.reg [fa 0 8 5 3,ld 1 9 1 false 8,fa 2 10 2 4,ld 3 11 1 false 10,⟨4,some 12,none,.call (.t 9) [.t 11]⟩,oo 5 13 (.ext (.t 12) 0),oo 6 14 (.ext (.t 12) 1),⟨7,none,none,.k (.store 3 (.t 6) (.t 13))⟩,mv 8 7 14] [6,7])
  (.ret))
theorem is127 : FnIs Tryz.prog 127 15 m127 [.c 6 3 true,.t 7] := .of Tryz.call127 Tryz.func127 (by kernel_rfl)
def m130k0 : MC :=
  .cond (.t 34)
    (.seq (.reg [mv 0 37 2,oo 1 38 (.iadr 3 (.t 37) (.c (.int .i64 0))),fa 2 39 0 38,ld 3 40 1 false 39,bc 4 41 .eql 40 (.int .i64 4)] [2,4,6,8,41])
    (.cond (.t 41)
      (.seq (.reg [mv 0 42 2,oo 1 43 (.iadr 3 (.t 42) (.c (.int .i64 0))),ld 2 44 3 true 43,⟨3,none,none,.k (.store 3 (.t 6) (.t 44))⟩,mc 4 7 (.int .i64 0)] [6,7])
      (.ret))
      (.skip)))
    (.skip)
def m130k1 : MC :=
  .cond (.t 28)
    (.seq (.reg [mv 0 31 2,oo 1 32 (.iadr 3 (.t 31) (.c (.int .i64 0))),ld 2 33 3 true 32,⟨3,none,none,.k (.store 3 (.t 6) (.t 33))⟩,mc 4 7 (.int .i64 0)] [6,7])
    (.ret))
    (.seq (.seq (.reg [bc 0 35 .eql 23 (.str [109,105,110]),mv 1 34 35] [2,4,6,8,23,34])
    (.cond (.t 34)
      (.skip)
      (.reg [bc 0 36 .eql 23 (.str [109,97,120]),mv 1 34 36] [2,4,6,8,34])))
    (.named [2,4,6,8,34] m130k0))
def m130k2 : MC :=
  .cond (.t 24)
    (.seq (.reg [oo 0 27 (.build [.int .i64 0,.sl 2 [] .exact,.str []] [(0,1,.c (.int .i64 2))]),⟨1,none,none,.k (.store 3 (.t 6) (.t 27))⟩,mc 2 7 (.int .i64 0)] [6,7])
    (.ret))
    (.seq (.seq (.reg [bc 0 29 .eql 23 (.str [102,105,114,115,116]),mv 1 28 29] [2,4,6,8,23,28])
    (.cond (.t 28)
      (.skip)
      (.reg [bc 0 30 .eql 23 (.str [108,97,115,116]),mv 1 28 30] [2,4,6,8,23,28])))
    (.named [2,4,6,8,23,28] m130k1))
def m130k3 : MC :=
  .cond (.t 60)
    (.seq (.reg [ld 0 61 3 true 8,⟨1,none,none,.k (.store 3 (.t 6) (.t 61))⟩,mc 2 7 (.int .i64 0)] [6,7])
    (.ret))
    (.skip)
def m130k4 : MC :=
  .seq (.reg [mv 0 62 2,oo 1 63 (.iadr 3 (.t 62) (.c (.int .i64 0))),ld 2 64 3 true 63,⟨3,none,none,.k (.store 3 (.t 6) (.t 64))⟩,mc 4 7 (.int .i64 0)] [6,7])
  (.ret)
def m130k5 : MC :=
  .seq (.seq (.reg [mv 0 45 2,oo 1 46 (.iadr 3 (.t 45) (.c (.int .i64 0))),ld 2 47 3 true 46,oc 3 48 144 [.t 47],oo 4 49 (.un .not (.t 48))] [2,4,6,8,49])
  (.cond (.t 49)
    (.seq (.reg [oc 0 50 76 [.c (.int .i64 5)],oo 1 51 (.ext (.t 50) 0),oo 2 52 (.ext (.t 50) 1),⟨3,none,none,.k (.store 3 (.t 6) (.t 51))⟩,mv 4 7 52] [6,7])
    (.ret))
    (.skip)))
  (.seq (.seq (.reg [fa 0 53 1 4,ld 1 54 1 false 53,bc 2 55 .eql 54 (.str [109,101,97,110]),mv 3 56 55,og 4 57 56 false (.fadr 1 (.t 4)),og 5 58 56 false (.load 1 false (.t 57)),og 6 59 56 false (.bin .eql (.t 58) (.c (.str [100,101,99,97,121]))),oo 7 60 (.pick (.t 56) (.c (.bool true)) (.t 59))] [2,6,8,60])
  (.named [2,6,8,60] m130k3))
  (.named [2,6] m130k4))
def m130 : MC :=
  .seq (.reg [oo 0 3 (.box (.t 0)),oo 1 4 (.box (.t 1)),oo 2 6 (.alloc [.int .i64 0,.sl 2 [] .exact,.str []]),mc 3 7 (.int .i64 0)] [2,4,6])
  (.seq (.seq (.reg [mv 0 9 2,oo 1 10 (.iadr 3 (.t 9) (.c (.int .i64 1))),fa 2 11 0 10,ld 3 12 1 false 11,bc 4 13 .neq 12 (.int .i64 1)] [2,4,6,13])
  (.cond (.t 13)
    (.seq (.reg [oc 0 14 76 [.c (.int .i64 5)],oo 1 15 (.ext (.t 14) 0),oo 2 16 (.ext (.t 14) 1),⟨3,none,none,.k (.store 3 (.t 6) (.t 15))⟩,mv 4 7 16] [6,7])
    (.ret))
    (.skip)))
  (.seq (.reg [mv 0 17 2,oo 1 18 (.iadr 3 (.t 17) (.c (.int .i64 0))),fa 2 19 1 18,ld 3 20 1 false 19,oo 4 21 (.build [.int .i64 0,.sl 2 [] .exact,.str []] [(0,1,.c (.int .i64 3)),(1,1,.t 20)]),oo 5 8 (.alloc [.int .i64 0,.sl 2 [] .exact,.str []]),⟨6,none,none,.k (.store 3 (.t 8) (.t 21))⟩] [2,4,6,8])
  (.seq (.seq (.reg [fa 0 22 1 4,ld 1 23 1 false 22] [2,4,6,8,23])
  (.block 0
    (.seq (.seq (.reg [bc 0 25 .eql 23 (.str [99,111,117,110,116]),mv 1 24 25] [2,4,6,8,23,24])
    (.cond (.t 24)
      (.skip)
      (.reg [bc 0 26 .eql 23 (.str [100,105,115,116,105,110,99,116]),mv 1 24 26] [2,4,6,8,23,24])))
    (.named [2,4,6,8,23,24] m130k2))))
  (.named [2,4,6,8] m130k5))))
theorem is130 : FnIs Tryz.prog 130 65 m130 [.c 6 3 true,.t 7] := .of Tryz.call130 Tryz.func130 (by kernel_rfl)
def m145k0 : MC :=
  .cond (.t 29)
    (.seq (.reg [mc 0 2 (.int .i64 3)] [2])
    (.ret))
    (.skip)
def m145k1 : MC :=
  .cond (.t 20)
    (.seq (.reg [mc 0 2 (.int .i64 70)] [2])
    (.ret))
    (.seq (.any (on1 (mv 0 30 3) <|
        on1 (bc 1 31 .gtr 30 (.int .i64 0)) <|
        on1 (mv 2 32 31) <|
        on1 (og 3 33 32 true (.fadr 0 (.t 4))) <|
        on1 (og 4 34 32 true (.load 1 false (.t 33))) <|
        on1 (gm 5 35 32 true 0) <|
        on1 (gm 6 36 32 true 3) <|
        on1 (og 7 37 32 true (.bin .sub (.t 36) (.c (.int .i64 1)))) <|
        on1 (og 8 38 32 true (.iadr 2 (.t 35) (.t 37))) <|
        on1 (og 9 39 32 true (.fadr 0 (.t 38))) <|
        on1 (og 10 40 32 true (.load 1 false (.t 39))) <|
        on1 (og 11 41 32 true (.bin .leq (.t 34) (.t 40))) <|
        on1 (oo 12 42 (.pick (.t 32) (.t 41) (.c (.bool false)))) <|
        on1 (mv 13 29 42) <|
        .done) [] [0,8,9,10,29])
    (.named [0,8,9,10,29] m145k0))
def m145k2 : MC :=
  .reg [bc 0 43 .add 10 (.int .i64 1),mv 1 10 43] [0,8,9,10]
def m145l0 : MC :=
  .seq (.reg [bi 0 11 .lss 10 9] [0,8,9,10,11])
  (.seq (.cond (.t 11)
    (.skip)
    (.exit 0))
  (.seq (.block 1
    (.seq (.reg [mv 0 12 10,oo 1 13 (.iadr 2 (.t 8) (.t 10)),ld 2 14 2 true 13,oo 3 4 (.alloc [.str [],.int .i64 0]),mv 4 3 12,⟨5,none,none,.k (.store 2 (.t 4) (.t 14))⟩] [0,3,4,8,9,10])
    (.block 2
      (.seq (.reg [fa 0 16 0 4,ld 1 17 1 false 16,oc 2 18 180 [.t 17],oo 3 19 (.un .not (.t 18)),mv 4 15 19] [0,3,4,8,9,10,15])
      (.cond (.t 15)
        (.seq (.reg [mc 0 2 (.int .i64 1)] [2])
        (.ret))
        (.seq (.reg [fa 0 21 1 4,ld 1 22 1 false 21,bc 2 23 .eql 22 (.int .i64 0),mv 3 24 23,og 4 25 24 false (.fadr 1 (.t 4)),og 5 26 24 false (.load 1 false (.t 25)),⟨6,some 27,(some (24,false)),.call (.f 181) [.t 26,.c (.int .i64 8)]⟩,oo 7 28 (.pick (.t 24) (.c (.bool true)) (.t 27)),mv 8 20 28] [0,3,4,8,9,10,20])
        (.named [0,3,4,8,9,10,20] m145k1)))))))
  (.named [0,8,9,10] m145k2)))
def m145k3 : MC :=
  .seq (.reg [mc 0 2 (.int .i64 0)] [2])
  (.ret)
def m145 : MC :=
  .seq (.reg [mc 0 2 (.int .i64 0)] [0])
  (.seq (.seq (.reg [mv 0 5 0,oo 1 6 (.len false (.t 5)),bc 2 7 .gtr 6 (.int .i64 4)] [0,7])
  (.cond (.t 7)
    (.seq (.reg [mc 0 2 (.int .i64 2)] [2])
    (.ret))
    (.skip)))
  (.seq (.seq (.reg [mv 0 8 0,oo 1 9 (.len false (.t 8)),mc 2 10 (.int .i64 0)] [0,8,9,10])
  (.block 0
    (.loop m145l0)))
  (.named [] m145k3)))
theorem is145 : FnIs Tryz.prog 145 44 m145 [.t 2] := .of Tryz.call145 Tryz.func145 (by kernel_rfl)
def m146 : MC :=
  .seq (.reg [mc 0 4 (.bool false)] [0,1])
  (.seq (.reg [mv 0 5 0,mv 1 6 1,oc 2 7 182 [.t 5,.t 6],bc 3 8 .geq 7 (.int .i64 0),mv 4 4 8] [4])
  (.ret))
theorem is146 : FnIs Tryz.prog 146 9 m146 [.t 4] := .of Tryz.call146 Tryz.func146 (by kernel_rfl)
def m148 : MC :=
  .seq (.reg [mc 0 2 (.bool false)] [0])
  (.seq (.reg [mv 0 3 0,bc 1 4 .neq 3 (.str []),mv 2 5 4,gm 3 6 5 true 0,⟨4,some 7,(some (5,true)),.call (.f 183) [.t 6,.c (.str [32])]⟩,og 5 8 5 true (.un .not (.t 7)),oo 6 9 (.pick (.t 5) (.t 8) (.c (.bool false))),mv 7 10 9,gm 8 11 10 true 0,og 9 12 10 true (.bin .add (.c (.str [32])) (.t 11)),og 10 13 10 true (.bin .add (.t 12) (.c (.str [32]))),⟨11,some 14,(some (10,true)),.call (.f 183) [.c (.str [32,116,97,98,108,101,32,102,101,97,116,117,114,101,32,111,102,32,107,101,101,112,32,98,111,111,108,32,116,101,120,116,32,107,101,121,32,105,110,116,32,100,101,99,32,105,102,32,116,104,101,110,32,101,108,115,101,32,100,101,102,97,117,108,116,32,111,114,32,97,110,100,32,110,111,116,32,116,114,117,101,32,102,97,108,115,101,32,110,117,108,108,32,99,111,117,110,116,32,115,117,109,32,109,101,97,110,32,109,105,110,32,109,97,120,32,102,105,114,115,116,32,108,97,115,116,32,100,105,115,116,105,110,99,116,32,113,117,97,110,116,105,108,101,32,100,101,99,97,121,32,97,108,108,32,115,108,105,100,105,110,103,32,116,117,109,98,108,105,110,103,32,115,101,115,115,105,111,110,32,119,104,101,114,101,32]),.t 13]⟩,oo 12 15 (.pick (.t 10) (.t 14) (.c (.bool false))),mv 13 2 15] [2])
  (.ret))
theorem is148 : FnIs Tryz.prog 148 16 m148 [.t 2] := .of Tryz.call148 Tryz.func148 (by kernel_rfl)
def m149l0 : MC :=
  .seq (.reg [bi 0 9 .lss 8 7] [0,1,7,8,9])
  (.seq (.cond (.t 9)
    (.skip)
    (.exit 0))
  (.seq (.block 1
    (.seq (.reg [mv 0 10 8,mv 1 5 10] [0,1,5,7,8])
    (.seq (.reg [mv 0 11 1,mv 1 12 0,mv 2 13 5,oo 3 14 (.iadr 1 (.t 12) (.t 13)),ld 4 15 1 false 14,bi 5 16 .eql 11 15] [0,1,5,7,8,16])
    (.cond (.t 16)
      (.seq (.reg [mv 0 17 5,mv 1 4 17] [4])
      (.ret))
      (.skip)))))
  (.reg [bc 0 18 .add 8 (.int .i64 1),mv 1 8 18] [0,1,7,8])))
def m149k0 : MC :=
  .seq (.reg [mc 0 4 (.int .i64 (-1))] [4])
  (.ret)
def m149 : MC :=
  .seq (.reg [mc 0 4 (.int .i64 0)] [0,1])
  (.seq (.seq (.reg [mv 0 6 0,oo 1 7 (.len false (.t 6)),mc 2 8 (.int .i64 0)] [0,1,7,8])
  (.block 0
    (.loop m149l0)))
  (.named [] m149k0))
theorem is149 : FnIs Tryz.prog 149 19 m149 [.t 4] := .of Tryz.call149 Tryz.func149 (by kernel_rfl)
def m150l0 : MC :=
  .seq (.reg [bi 0 14 .lss 13 12] [0,1,12,13,14])
  (.seq (.cond (.t 14)
    (.skip)
    (.exit 0))
  (.seq (.block 1
    (.seq (.reg [mv 0 15 13,mv 1 5 15] [0,1,5,12,13])
    (.seq (.any (on1 (mv 0 16 0) <|
        on1 (mv 1 17 5) <|
        on1 (oo 2 18 (.iadr 2 (.t 16) (.t 17))) <|
        on1 (ld 3 19 2 true 18) <|
        on1 (mv 4 20 1) <|
        on1 (mv 5 21 5) <|
        on1 (oo 6 22 (.iadr 2 (.t 20) (.t 21))) <|
        on1 (ld 7 23 2 true 22) <|
        on1 (oo 8 24 (.eqv [.s,.i] true (.t 19) (.t 23))) <|
        .done) [] [0,1,12,13,24])
    (.cond (.t 24)
      (.seq (.reg [mc 0 4 (.bool false)] [4])
      (.ret))
      (.skip)))))
  (.reg [bc 0 25 .add 13 (.int .i64 1),mv 1 13 25] [0,1,12,13])))
def m150k0 : MC :=
  .seq (.reg [mc 0 4 (.bool true)] [4])
  (.ret)
def m150 : MC :=
  .seq (.reg [mc 0 4 (.bool false)] [0,1])
  (.seq (.seq (.reg [mv 0 6 0,oo 1 7 (.len false (.t 6)),mv 2 8 1,oo 3 9 (.len false (.t 8)),bi 4 10 .neq 7 9] [0,1,10])
  (.cond (.t 10)
    (.seq (.reg [mc 0 4 (.bool false)] [4])
    (.ret))
    (.skip)))
  (.seq (.seq (.reg [mv 0 11 0,oo 1 12 (.len false (.t 11)),mc 2 13 (.int .i64 0)] [0,1,12,13])
  (.block 0
    (.loop m150l0)))
  (.named [] m150k0)))
theorem is150 : FnIs Tryz.prog 150 26 m150 [.t 4] := .of Tryz.call150 Tryz.func150 (by kernel_rfl)
end Go.Proofs.YtombgigaefgaiaaGreatDoor
