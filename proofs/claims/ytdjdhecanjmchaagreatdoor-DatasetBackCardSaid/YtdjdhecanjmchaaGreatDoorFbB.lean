/- The functions of the seat in the small language (printed by a program), and that each is the program's. -/
import Derived.Test.YtdjdhecanjmchaaGreatDoorProg
import Derived.Test.YtdjdhecanjmchaaGreatDoorVpB
import Derived.KernelRfl
set_option linter.unusedSimpArgs false
set_option linter.unusedVariables false
namespace Go.Proofs.YtdjdhecanjmchaaGreatDoor
open Go Go.V
def m40k0 : MC :=
  .cond (.t 42)
    (.seq (.reg [⟨0, some 2, none, .k (.mov (.c (.bool false)))⟩] [2])
    (.ret))
    (.skip)
def m40k1 : MC :=
  .cond (.t 68)
    (.seq (.reg [⟨0, some 2, none, .k (.mov (.c (.bool false)))⟩] [2])
    (.ret))
    (.skip)
def m40k2 : MC :=
  .reg [⟨0, some 48, none, .k (.mov (.t 3))⟩, ⟨1, some 49, none, .k (.bin .add (.t 48) (.c (.int .i64 1)))⟩, ⟨2, some 3, none, .k (.mov (.t 49))⟩] [1, 3]
def m40l0 : MC :=
  .seq (.seq (.reg [⟨0, some 43, none, .k (.mov (.t 3))⟩, ⟨1, some 44, none, .k (.fadr 1 (.t 1))⟩, ⟨2, some 45, none, .k (.load 1 false (.t 44))⟩, ⟨3, some 46, none, .k (.len false (.t 45))⟩, ⟨4, some 47, none, .k (.bin .lss (.t 43) (.t 46))⟩] [1, 3, 47])
  (.cond (.t 47)
    (.skip)
    (.exit 0)))
  (.seq (.block 1
    (.seq (.any (.one ⟨0, some 50, none, .k (.fadr 1 (.t 1))⟩ false false <|
        .one ⟨1, some 51, none, .k (.load 1 false (.t 50))⟩ true false <|
        .one ⟨2, some 52, none, .k (.mov (.t 3))⟩ false false <|
        .one ⟨3, some 53, none, .k (.iadr 1 (.t 51) (.t 52))⟩ false false <|
        .one ⟨4, some 54, none, .k (.load 1 false (.t 53))⟩ true false <|
        .one ⟨5, some 55, none, .call (.f 98) [.t 54]⟩ false true <|
        .one ⟨6, some 56, none, .k (.un .not (.t 55))⟩ false false <|
        .one ⟨7, some 57, none, .k (.mov (.t 56))⟩ false false <|
        .one ⟨8, some 58, (some (57, false)), .k (.fadr 1 (.t 1))⟩ false false <|
        .one ⟨9, some 59, (some (57, false)), .k (.load 1 false (.t 58))⟩ true false <|
        .one ⟨10, some 60, (some (57, false)), .k (.mov (.t 3))⟩ false false <|
        .one ⟨11, some 61, (some (57, false)), .k (.slV 1 (.t 59) none (some (.t 60)) none)⟩ false false <|
        .one ⟨12, some 62, (some (57, false)), .k (.fadr 1 (.t 1))⟩ false false <|
        .one ⟨13, some 63, (some (57, false)), .k (.load 1 false (.t 62))⟩ true false <|
        .one ⟨14, some 64, (some (57, false)), .k (.mov (.t 3))⟩ false false <|
        .one ⟨15, some 65, (some (57, false)), .k (.iadr 1 (.t 63) (.t 64))⟩ false false <|
        .one ⟨16, some 66, (some (57, false)), .k (.load 1 false (.t 65))⟩ false false <|
        .one ⟨17, some 67, (some (57, false)), .call (.f 100) [.t 61, .t 66]⟩ false true <|
        .one ⟨18, some 68, none, .k (.pick (.t 57) (.c (.bool true)) (.t 67))⟩ false false <|
        .done) [1] [1, 3, 68])
    (.named [1, 3, 68] m40k1)))
  (.named [1, 3] m40k2))
def m40l1 : MC :=
  .seq (.seq (.reg [⟨0, some 69, none, .k (.mov (.t 4))⟩, ⟨1, some 70, none, .k (.fadr 2 (.t 1))⟩, ⟨2, some 71, none, .k (.load 1 false (.t 70))⟩, ⟨3, some 72, none, .k (.len false (.t 71))⟩, ⟨4, some 73, none, .k (.bin .lss (.t 69) (.t 72))⟩] [1, 4, 73])
  (.cond (.t 73)
    (.skip)
    (.exit 2)))
  (.seq (.block 3
    (.seq (.reg [⟨0, some 76, none, .k (.fadr 2 (.t 1))⟩, ⟨1, some 77, none, .k (.load 1 false (.t 76))⟩, ⟨2, some 78, none, .k (.mov (.t 4))⟩, ⟨3, some 79, none, .k (.iadr 3 (.t 77) (.t 78))⟩, ⟨4, some 80, none, .k (.load 3 true (.t 79))⟩, ⟨5, some 81, none, .call (.f 101) [.t 80]⟩, ⟨6, some 82, none, .k (.un .not (.t 81))⟩] [1, 4, 82])
    (.cond (.t 82)
      (.seq (.reg [⟨0, some 2, none, .k (.mov (.c (.bool false)))⟩] [2])
      (.ret))
      (.skip))))
  (.reg [⟨0, some 74, none, .k (.mov (.t 4))⟩, ⟨1, some 75, none, .k (.bin .add (.t 74) (.c (.int .i64 1)))⟩, ⟨2, some 4, none, .k (.mov (.t 75))⟩] [1, 4]))
def m40k3 : MC :=
  .seq (.reg [⟨0, some 2, none, .k (.mov (.c (.bool true)))⟩] [2])
  (.ret)
def m40k4 : MC :=
  .seq (.seq (.reg [⟨0, some 4, none, .k (.mov (.c (.int .i64 0)))⟩] [1, 4])
  (.block 2
    (.loop m40l1)))
  (.named [] m40k3)
def m40k5 : MC :=
  .seq (.seq (.reg [⟨0, some 3, none, .k (.mov (.c (.int .i64 0)))⟩] [1, 3])
  (.block 0
    (.loop m40l0)))
  (.named [1] m40k4)
def m40 : MC :=
  .seq (.reg [⟨0, some 1, none, .k (.box (.t 0))⟩, ⟨1, some 2, none, .k (.mov (.c (.bool false)))⟩] [1])
  (.seq (.seq (.reg [⟨0, some 5, none, .k (.fadr 0 (.t 1))⟩, ⟨1, some 6, none, .k (.load 1 false (.t 5))⟩, ⟨2, some 7, none, .call (.f 98) [.t 6]⟩, ⟨3, some 8, none, .k (.un .not (.t 7))⟩, ⟨4, some 9, none, .k (.mov (.t 8))⟩, ⟨5, some 10, (some (9, false)), .k (.fadr 1 (.t 1))⟩, ⟨6, some 11, (some (9, false)), .k (.load 1 false (.t 10))⟩, ⟨7, some 12, (some (9, false)), .k (.len false (.t 11))⟩, ⟨8, some 13, (some (9, false)), .k (.bin .lss (.t 12) (.c (.int .i64 1)))⟩, ⟨9, some 14, none, .k (.pick (.t 9) (.c (.bool true)) (.t 13))⟩, ⟨10, some 15, none, .k (.mov (.t 14))⟩, ⟨11, some 16, (some (15, false)), .k (.fadr 1 (.t 1))⟩, ⟨12, some 17, (some (15, false)), .k (.load 1 false (.t 16))⟩, ⟨13, some 18, (some (15, false)), .k (.len false (.t 17))⟩, ⟨14, some 19, (some (15, false)), .k (.bin .gtr (.t 18) (.c (.int .i64 8)))⟩, ⟨15, some 20, none, .k (.pick (.t 15) (.c (.bool true)) (.t 19))⟩, ⟨16, some 21, none, .k (.mov (.t 20))⟩, ⟨17, some 22, (some (21, false)), .k (.fadr 2 (.t 1))⟩, ⟨18, some 23, (some (21, false)), .k (.load 1 false (.t 22))⟩, ⟨19, some 24, (some (21, false)), .k (.len false (.t 23))⟩, ⟨20, some 25, (some (21, false)), .k (.bin .gtr (.t 24) (.c (.int .i64 256)))⟩, ⟨21, some 26, none, .k (.pick (.t 21) (.c (.bool true)) (.t 25))⟩, ⟨22, some 27, none, .k (.mov (.t 26))⟩, ⟨23, some 28, (some (27, false)), .k (.fadr 3 (.t 1))⟩, ⟨24, some 29, (some (27, false)), .k (.load 1 false (.t 28))⟩, ⟨25, some 30, (some (27, false)), .call (.f 99) [.t 29]⟩, ⟨26, some 31, (some (27, false)), .k (.un .not (.t 30))⟩, ⟨27, some 32, none, .k (.pick (.t 27) (.c (.bool true)) (.t 31))⟩, ⟨28, some 33, none, .k (.mov (.t 32))⟩, ⟨29, some 34, (some (33, false)), .k (.fadr 4 (.t 1))⟩, ⟨30, some 35, (some (33, false)), .k (.load 1 false (.t 34))⟩, ⟨31, some 36, (some (33, false)), .k (.bin .lss (.t 35) (.c (.int .i64 0)))⟩, ⟨32, some 37, none, .k (.pick (.t 33) (.c (.bool true)) (.t 36))⟩, ⟨33, some 38, none, .k (.mov (.t 37))⟩, ⟨34, some 39, (some (38, false)), .k (.fadr 4 (.t 1))⟩, ⟨35, some 40, (some (38, false)), .k (.load 1 false (.t 39))⟩, ⟨36, some 41, (some (38, false)), .k (.bin .gtr (.t 40) (.c (.int .i64 1000)))⟩, ⟨37, some 42, none, .k (.pick (.t 38) (.c (.bool true)) (.t 41))⟩] [1, 42])
  (.named [1, 42] m40k0))
  (.named [1] m40k5))
theorem is40 : FnIs Tryz.prog 40 83 m40 [.t 2] := .of Tryz.call40 Tryz.func40 (by kernel_rfl)
def m43k0 : MC :=
  .cond (.t 43)
    (.seq (.reg [⟨0, some 4, none, .k (.mov (.c (.bool false)))⟩] [4])
    (.ret))
    (.skip)
def m43k1 : MC :=
  .reg [⟨0, some 16, none, .k (.mov (.t 5))⟩, ⟨1, some 17, none, .k (.bin .add (.t 16) (.c (.int .i64 1)))⟩, ⟨2, some 5, none, .k (.mov (.t 17))⟩] [0, 1, 5]
def m43l0 : MC :=
  .seq (.seq (.reg [⟨0, some 12, none, .k (.mov (.t 5))⟩, ⟨1, some 13, none, .k (.mov (.t 0))⟩, ⟨2, some 14, none, .k (.len false (.t 13))⟩, ⟨3, some 15, none, .k (.bin .lss (.t 12) (.t 14))⟩] [0, 1, 5, 15])
  (.cond (.t 15)
    (.skip)
    (.exit 0)))
  (.seq (.block 1
    (.seq (.any (.one ⟨0, some 18, none, .k (.mov (.t 0))⟩ false false <|
        .one ⟨1, some 19, none, .k (.mov (.t 5))⟩ false false <|
        .one ⟨2, some 20, none, .k (.iadr 4 (.t 18) (.t 19))⟩ false false <|
        .one ⟨3, some 21, none, .k (.fadr 3 (.t 20))⟩ false false <|
        .one ⟨4, some 22, none, .k (.load 1 false (.t 21))⟩ false false <|
        .one ⟨5, some 23, none, .k (.mov (.t 1))⟩ false false <|
        .one ⟨6, some 24, none, .k (.mov (.t 5))⟩ false false <|
        .one ⟨7, some 25, none, .k (.iadr 4 (.t 23) (.t 24))⟩ false false <|
        .one ⟨8, some 26, none, .k (.fadr 3 (.t 25))⟩ false false <|
        .one ⟨9, some 27, none, .k (.load 1 false (.t 26))⟩ false false <|
        .one ⟨10, some 28, none, .call (.f 105) [.t 22, .t 27]⟩ false false <|
        .one ⟨11, some 6, none, .k (.mov (.t 28))⟩ false false <|
        .done) [] [0, 1, 5, 6])
    (.seq (.any (.one ⟨0, some 29, none, .k (.mov (.t 6))⟩ false false <|
        .one ⟨1, some 30, none, .k (.un .not (.t 29))⟩ false false <|
        .one ⟨2, some 31, none, .k (.mov (.t 30))⟩ false false <|
        .one ⟨3, some 32, (some (31, false)), .k (.mov (.t 0))⟩ false false <|
        .one ⟨4, some 33, (some (31, false)), .k (.mov (.t 5))⟩ false false <|
        .one ⟨5, some 34, (some (31, false)), .k (.iadr 4 (.t 32) (.t 33))⟩ false false <|
        .one ⟨6, some 35, (some (31, false)), .k (.fadr 0 (.t 34))⟩ false false <|
        .one ⟨7, some 36, (some (31, false)), .k (.load 3 true (.t 35))⟩ false false <|
        .one ⟨8, some 37, (some (31, false)), .k (.mov (.t 1))⟩ false false <|
        .one ⟨9, some 38, (some (31, false)), .k (.mov (.t 5))⟩ false false <|
        .one ⟨10, some 39, (some (31, false)), .k (.iadr 4 (.t 37) (.t 38))⟩ false false <|
        .one ⟨11, some 40, (some (31, false)), .k (.fadr 0 (.t 39))⟩ false false <|
        .one ⟨12, some 41, (some (31, false)), .k (.load 3 true (.t 40))⟩ false false <|
        .one ⟨13, some 42, (some (31, false)), .k (.eqv [.s, .i, .i] true (.t 36) (.t 41))⟩ false false <|
        .one ⟨14, some 43, none, .k (.pick (.t 31) (.c (.bool true)) (.t 42))⟩ false false <|
        .done) [] [0, 1, 5, 43])
    (.named [0, 1, 5, 43] m43k0))))
  (.named [0, 1, 5] m43k1))
def m43k2 : MC :=
  .seq (.reg [⟨0, some 4, none, .k (.mov (.c (.bool true)))⟩] [4])
  (.ret)
def m43 : MC :=
  .seq (.reg [⟨0, some 4, none, .k (.mov (.c (.bool false)))⟩] [0, 1])
  (.seq (.seq (.reg [⟨0, some 7, none, .k (.mov (.t 0))⟩, ⟨1, some 8, none, .k (.len false (.t 7))⟩, ⟨2, some 9, none, .k (.mov (.t 1))⟩, ⟨3, some 10, none, .k (.len false (.t 9))⟩, ⟨4, some 11, none, .k (.bin .neq (.t 8) (.t 10))⟩] [0, 1, 11])
  (.cond (.t 11)
    (.seq (.reg [⟨0, some 4, none, .k (.mov (.c (.bool false)))⟩] [4])
    (.ret))
    (.skip)))
  (.seq (.seq (.reg [⟨0, some 5, none, .k (.mov (.c (.int .i64 0)))⟩] [0, 1, 5])
  (.block 0
    (.loop m43l0)))
  (.named [] m43k2)))
theorem is43 : FnIs Tryz.prog 43 44 m43 [.t 4] := .of Tryz.call43 Tryz.func43 (by kernel_rfl)
def m44 : MC :=
  .seq (.reg [⟨0, some 2, none, .k (.box (.t 0))⟩, ⟨1, some 3, none, .k (.box (.t 1))⟩, ⟨2, some 4, none, .k (.mov (.c (.bool false)))⟩] [2, 3])
  (.seq (.reg [⟨0, some 5, none, .k (.fadr 0 (.t 2))⟩, ⟨1, some 6, none, .k (.load 3 true (.t 5))⟩, ⟨2, some 7, none, .k (.fadr 0 (.t 3))⟩, ⟨3, some 8, none, .k (.load 3 true (.t 7))⟩, ⟨4, some 9, none, .k (.eqv [.s, .i, .i] false (.t 6) (.t 8))⟩, ⟨5, some 4, none, .k (.mov (.t 9))⟩] [4])
  (.ret))
theorem is44 : FnIs Tryz.prog 44 10 m44 [.t 4] := .of Tryz.call44 Tryz.func44 (by kernel_rfl)
def m45l0 : MC :=
  .seq (.reg [⟨0, some 14, none, .k (.bin .lss (.t 13) (.t 12))⟩] [0, 1, 12, 13, 14])
  (.seq (.cond (.t 14)
    (.skip)
    (.exit 0))
  (.seq (.block 1
    (.seq (.reg [⟨0, some 15, none, .k (.mov (.t 13))⟩, ⟨1, some 5, none, .k (.mov (.t 15))⟩] [0, 1, 5, 12, 13])
    (.seq (.any (.one ⟨0, some 16, none, .k (.mov (.t 0))⟩ false false <|
        .one ⟨1, some 17, none, .k (.mov (.t 5))⟩ false false <|
        .one ⟨2, some 18, none, .k (.iadr 1 (.t 16) (.t 17))⟩ false false <|
        .one ⟨3, some 19, none, .k (.load 1 false (.t 18))⟩ false false <|
        .one ⟨4, some 20, none, .k (.mov (.t 1))⟩ false false <|
        .one ⟨5, some 21, none, .k (.mov (.t 5))⟩ false false <|
        .one ⟨6, some 22, none, .k (.iadr 1 (.t 20) (.t 21))⟩ false false <|
        .one ⟨7, some 23, none, .k (.load 1 false (.t 22))⟩ false false <|
        .one ⟨8, some 24, none, .k (.bin .neq (.t 19) (.t 23))⟩ false false <|
        .done) [] [0, 1, 12, 13, 24])
    (.cond (.t 24)
      (.seq (.reg [⟨0, some 4, none, .k (.mov (.c (.bool false)))⟩] [4])
      (.ret))
      (.skip)))))
  (.reg [⟨0, some 25, none, .k (.bin .add (.t 13) (.c (.int .i64 1)))⟩, ⟨1, some 13, none, .k (.mov (.t 25))⟩] [0, 1, 12, 13])))
def m45k0 : MC :=
  .seq (.reg [⟨0, some 4, none, .k (.mov (.c (.bool true)))⟩] [4])
  (.ret)
def m45 : MC :=
  .seq (.reg [⟨0, some 4, none, .k (.mov (.c (.bool false)))⟩] [0, 1])
  (.seq (.seq (.reg [⟨0, some 6, none, .k (.mov (.t 0))⟩, ⟨1, some 7, none, .k (.len false (.t 6))⟩, ⟨2, some 8, none, .k (.mov (.t 1))⟩, ⟨3, some 9, none, .k (.len false (.t 8))⟩, ⟨4, some 10, none, .k (.bin .neq (.t 7) (.t 9))⟩] [0, 1, 10])
  (.cond (.t 10)
    (.seq (.reg [⟨0, some 4, none, .k (.mov (.c (.bool false)))⟩] [4])
    (.ret))
    (.skip)))
  (.seq (.seq (.reg [⟨0, some 11, none, .k (.mov (.t 0))⟩, ⟨1, some 12, none, .k (.len false (.t 11))⟩, ⟨2, some 13, none, .k (.mov (.c (.int .i64 0)))⟩] [0, 1, 12, 13])
  (.block 0
    (.loop m45l0)))
  (.named [] m45k0)))
theorem is45 : FnIs Tryz.prog 45 26 m45 [.t 4] := .of Tryz.call45 Tryz.func45 (by kernel_rfl)
def m46l0 : MC :=
  .seq (.reg [⟨0, some 18, none, .k (.bin .lss (.t 17) (.t 16))⟩] [1, 2, 15, 16, 17, 18])
  (.seq (.cond (.t 18)
    (.skip)
    (.exit 0))
  (.seq (.block 1
    (.seq (.reg [⟨0, some 19, none, .k (.mov (.t 17))⟩, ⟨1, some 20, none, .k (.iadr 4 (.t 15) (.t 17))⟩, ⟨2, some 21, none, .k (.load 4 true (.t 20))⟩, ⟨3, some 8, none, .k (.alloc [.str [], .int .i64 0, .int .i64 0, .sl 3 [] .exact])⟩, ⟨4, some 7, none, .k (.mov (.t 19))⟩, ⟨5, none, none, .k (.store 4 (.t 8) (.t 21))⟩] [1, 2, 7, 8, 15, 16, 17])
    (.seq (.reg [⟨0, some 22, none, .k (.mov (.t 1))⟩, ⟨1, some 23, none, .k (.mov (.t 7))⟩, ⟨2, some 24, none, .k (.iadr 4 (.t 22) (.t 23))⟩, ⟨3, some 25, none, .k (.load 4 true (.t 24))⟩, ⟨4, some 9, none, .k (.alloc [.str [], .int .i64 0, .int .i64 0, .sl 3 [] .exact])⟩, ⟨5, none, none, .k (.store 4 (.t 9) (.t 25))⟩] [1, 2, 8, 9, 15, 16, 17])
    (.seq (.reg [⟨0, some 26, none, .k (.mov (.t 2))⟩, ⟨1, some 27, none, .k (.load 4 true (.t 8))⟩, ⟨2, some 28, none, .k (.load 4 true (.t 9))⟩, ⟨3, some 29, none, .call (.t 26) [.t 27, .t 28]⟩, ⟨4, some 30, none, .k (.un .not (.t 29))⟩] [1, 2, 15, 16, 17, 30])
    (.cond (.t 30)
      (.seq (.reg [⟨0, some 6, none, .k (.mov (.c (.bool false)))⟩] [6])
      (.ret))
      (.skip))))))
  (.reg [⟨0, some 31, none, .k (.bin .add (.t 17) (.c (.int .i64 1)))⟩, ⟨1, some 17, none, .k (.mov (.t 31))⟩] [1, 2, 15, 16, 17])))
def m46k0 : MC :=
  .seq (.reg [⟨0, some 6, none, .k (.mov (.c (.bool true)))⟩] [6])
  (.ret)
def m46 : MC :=
  .seq (.reg [⟨0, some 6, none, .k (.mov (.c (.bool false)))⟩] [0, 1, 2])
  (.seq (.seq (.reg [⟨0, some 10, none, .k (.mov (.t 0))⟩, ⟨1, some 11, none, .k (.len false (.t 10))⟩, ⟨2, some 12, none, .k (.mov (.t 1))⟩, ⟨3, some 13, none, .k (.len false (.t 12))⟩, ⟨4, some 14, none, .k (.bin .neq (.t 11) (.t 13))⟩] [0, 1, 2, 14])
  (.cond (.t 14)
    (.seq (.reg [⟨0, some 6, none, .k (.mov (.c (.bool false)))⟩] [6])
    (.ret))
    (.skip)))
  (.seq (.seq (.reg [⟨0, some 15, none, .k (.mov (.t 0))⟩, ⟨1, some 16, none, .k (.len false (.t 15))⟩, ⟨2, some 17, none, .k (.mov (.c (.int .i64 0)))⟩] [1, 2, 15, 16, 17])
  (.block 0
    (.loop m46l0)))
  (.named [] m46k0)))
theorem is46 : FnIs Tryz.prog 46 32 m46 [.t 6] := .of Tryz.call46 Tryz.func46 (by kernel_rfl)
def m47l0 : MC :=
  .seq (.reg [⟨0, some 14, none, .k (.bin .lss (.t 13) (.t 12))⟩] [0, 1, 12, 13, 14])
  (.seq (.cond (.t 14)
    (.skip)
    (.exit 0))
  (.seq (.block 1
    (.seq (.reg [⟨0, some 15, none, .k (.mov (.t 13))⟩, ⟨1, some 5, none, .k (.mov (.t 15))⟩] [0, 1, 5, 12, 13])
    (.seq (.any (.one ⟨0, some 16, none, .k (.mov (.t 0))⟩ false false <|
        .one ⟨1, some 17, none, .k (.mov (.t 5))⟩ false false <|
        .one ⟨2, some 18, none, .k (.iadr 3 (.t 16) (.t 17))⟩ false false <|
        .one ⟨3, some 19, none, .k (.load 3 true (.t 18))⟩ false false <|
        .one ⟨4, some 20, none, .k (.mov (.t 1))⟩ false false <|
        .one ⟨5, some 21, none, .k (.mov (.t 5))⟩ false false <|
        .one ⟨6, some 22, none, .k (.iadr 3 (.t 20) (.t 21))⟩ false false <|
        .one ⟨7, some 23, none, .k (.load 3 true (.t 22))⟩ false false <|
        .one ⟨8, some 24, none, .k (.eqv [.i, .i, .s] true (.t 19) (.t 23))⟩ false false <|
        .done) [] [0, 1, 12, 13, 24])
    (.cond (.t 24)
      (.seq (.reg [⟨0, some 4, none, .k (.mov (.c (.bool false)))⟩] [4])
      (.ret))
      (.skip)))))
  (.reg [⟨0, some 25, none, .k (.bin .add (.t 13) (.c (.int .i64 1)))⟩, ⟨1, some 13, none, .k (.mov (.t 25))⟩] [0, 1, 12, 13])))
def m47k0 : MC :=
  .seq (.reg [⟨0, some 4, none, .k (.mov (.c (.bool true)))⟩] [4])
  (.ret)
def m47 : MC :=
  .seq (.reg [⟨0, some 4, none, .k (.mov (.c (.bool false)))⟩] [0, 1])
  (.seq (.seq (.reg [⟨0, some 6, none, .k (.mov (.t 0))⟩, ⟨1, some 7, none, .k (.len false (.t 6))⟩, ⟨2, some 8, none, .k (.mov (.t 1))⟩, ⟨3, some 9, none, .k (.len false (.t 8))⟩, ⟨4, some 10, none, .k (.bin .neq (.t 7) (.t 9))⟩] [0, 1, 10])
  (.cond (.t 10)
    (.seq (.reg [⟨0, some 4, none, .k (.mov (.c (.bool false)))⟩] [4])
    (.ret))
    (.skip)))
  (.seq (.seq (.reg [⟨0, some 11, none, .k (.mov (.t 0))⟩, ⟨1, some 12, none, .k (.len false (.t 11))⟩, ⟨2, some 13, none, .k (.mov (.c (.int .i64 0)))⟩] [0, 1, 12, 13])
  (.block 0
    (.loop m47l0)))
  (.named [] m47k0)))
theorem is47 : FnIs Tryz.prog 47 26 m47 [.t 4] := .of Tryz.call47 Tryz.func47 (by kernel_rfl)
def m48 : MC :=
  .reg [⟨0, some 3, none, .k (.mov (.t 0))⟩, ⟨1, some 4, none, .call (.f 50) [.t 3, .c (.str [9])]⟩, ⟨2, some 5, none, .k (.bin .add (.t 4) (.c (.str [10])))⟩, ⟨3, some 6, none, .call (.f 49) [.t 1, .t 5]⟩] []
theorem is48 : FnIs Tryz.prog 48 7 m48 [] := .of Tryz.call48 Tryz.func48 (by kernel_rfl)
def m56 : MC :=
  .seq (.reg [⟨0, some 1, none, .k (.box (.t 0))⟩, ⟨1, some 2, none, .k (.mov (.c (.bool false)))⟩] [1])
  (.seq (.reg [⟨0, some 3, none, .k (.load 3 true (.t 1))⟩, ⟨1, some 4, none, .call (.f 116) [.t 3]⟩, ⟨2, some 5, none, .k (.bin .eql (.t 4) (.c (.int .i64 0)))⟩, ⟨3, some 2, none, .k (.mov (.t 5))⟩] [2])
  (.ret))
theorem is56 : FnIs Tryz.prog 56 6 m56 [.t 2] := .of Tryz.call56 Tryz.func56 (by kernel_rfl)
def m57l0 : MC :=
  .seq (.seq (.reg [⟨0, some 11, none, .k (.mov (.t 1))⟩, ⟨1, some 12, none, .k (.bin .geq (.t 11) (.c (.int .u64 128)))⟩] [1, 4, 12])
  (.cond (.t 12)
    (.skip)
    (.exit 0)))
  (.seq (.block 1
    (.reg [⟨0, some 15, none, .k (.mov (.t 4))⟩, ⟨1, some 16, none, .k (.mov (.t 1))⟩, ⟨2, some 17, none, .k (.conv .u8 (.t 16))⟩, ⟨3, some 18, none, .k (.bin .or (.t 17) (.c (.int .u8 128)))⟩, ⟨4, some 19, none, .k (.mkSl 1 [.int .u8 0] [.t 18])⟩, ⟨5, some 20, none, .k (.app 1 1 (.t 15) (.t 19))⟩, ⟨6, some 4, none, .k (.mov (.t 20))⟩] [1, 4]))
  (.reg [⟨0, some 13, none, .k (.mov (.t 1))⟩, ⟨1, some 14, none, .k (.bin .shr (.t 13) (.c (.int .u64 7)))⟩, ⟨2, some 1, none, .k (.mov (.t 14))⟩] [1, 4]))
def m57k0 : MC :=
  .seq (.reg [⟨0, some 21, none, .k (.mov (.t 4))⟩, ⟨1, some 22, none, .k (.mov (.t 1))⟩, ⟨2, some 23, none, .k (.conv .u8 (.t 22))⟩, ⟨3, some 24, none, .k (.mkSl 1 [.int .u8 0] [.t 23])⟩, ⟨4, some 25, none, .k (.app 1 1 (.t 21) (.t 24))⟩, ⟨5, some 4, none, .k (.mov (.t 25))⟩] [4])
  (.ret)
def m57 : MC :=
  .seq (.reg [⟨0, some 4, none, .k (.mov (.c (.sl 1 [] .exact)))⟩] [0, 1])
  (.seq (.reg [⟨0, some 5, none, .k (.mov (.t 0))⟩, ⟨1, some 6, none, .k (.mov (.t 0))⟩, ⟨2, some 7, none, .k (.len false (.t 6))⟩, ⟨3, some 8, none, .k (.mov (.t 0))⟩, ⟨4, some 9, none, .k (.len false (.t 8))⟩, ⟨5, some 10, none, .k (.slV 1 (.t 5) none (some (.t 7)) (some (.t 9)))⟩, ⟨6, some 4, none, .k (.mov (.t 10))⟩] [1, 4])
  (.seq (.block 0
    (.loop m57l0))
  (.named [1, 4] m57k0)))
theorem is57 : FnIs Tryz.prog 57 26 m57 [.t 4] := .of Tryz.call57 Tryz.func57 (by kernel_rfl)
def m58 : MC :=
  .seq (.reg [⟨0, some 4, none, .k (.mov (.c (.sl 1 [] .exact)))⟩] [0, 1])
  (.seq (.reg [⟨0, some 5, none, .k (.mov (.t 0))⟩, ⟨1, some 6, none, .k (.mov (.t 1))⟩, ⟨2, some 7, none, .k (.len true (.t 6))⟩, ⟨3, some 8, none, .k (.conv .u64 (.t 7))⟩, ⟨4, some 9, none, .call (.f 57) [.t 5, .t 8]⟩, ⟨5, some 10, none, .k (.mov (.t 1))⟩, ⟨6, some 11, none, .k (.app 1 1 (.t 9) (.t 10))⟩, ⟨7, some 4, none, .k (.mov (.t 11))⟩] [4])
  (.ret))
theorem is58 : FnIs Tryz.prog 58 12 m58 [.t 4] := .of Tryz.call58 Tryz.func58 (by kernel_rfl)
def m59 : MC :=
  .seq (.reg [⟨0, some 4, none, .k (.mov (.c (.sl 1 [] .exact)))⟩] [0, 1])
  (.seq (.reg [⟨0, some 6, none, .k (.mov (.t 0))⟩, ⟨1, some 7, none, .k (.mov (.t 1))⟩, ⟨2, some 8, none, .k (.len false (.t 7))⟩, ⟨3, some 9, none, .k (.conv .u64 (.t 8))⟩, ⟨4, some 10, none, .call (.f 57) [.t 6, .t 9]⟩, ⟨5, some 11, none, .k (.mov (.t 1))⟩, ⟨6, some 12, none, .k (.app 1 1 (.t 10) (.t 11))⟩, ⟨7, some 4, none, .k (.mov (.t 12))⟩] [1, 4])
  (.seq (.reg [⟨0, some 13, none, .k (.mov (.t 1))⟩, ⟨1, some 14, none, .call (.f 73) [.t 13]⟩, ⟨2, some 5, none, .k (.mov (.t 14))⟩] [4, 5])
  (.seq (.reg [⟨0, some 15, none, .k (.mov (.t 4))⟩, ⟨1, some 16, none, .k (.mov (.t 5))⟩, ⟨2, some 17, none, .k (.conv .u8 (.t 16))⟩, ⟨3, some 18, none, .k (.mov (.t 5))⟩, ⟨4, some 19, none, .k (.bin .shr (.t 18) (.c (.int .u64 8)))⟩, ⟨5, some 20, none, .k (.conv .u8 (.t 19))⟩, ⟨6, some 21, none, .k (.mov (.t 5))⟩, ⟨7, some 22, none, .k (.bin .shr (.t 21) (.c (.int .u64 16)))⟩, ⟨8, some 23, none, .k (.conv .u8 (.t 22))⟩, ⟨9, some 24, none, .k (.mov (.t 5))⟩, ⟨10, some 25, none, .k (.bin .shr (.t 24) (.c (.int .u64 24)))⟩, ⟨11, some 26, none, .k (.conv .u8 (.t 25))⟩, ⟨12, some 27, none, .k (.mkSl 1 [.int .u8 0] [.t 17, .t 20, .t 23, .t 26])⟩, ⟨13, some 28, none, .k (.app 1 1 (.t 15) (.t 27))⟩, ⟨14, some 4, none, .k (.mov (.t 28))⟩] [4])
  (.ret))))
theorem is59 : FnIs Tryz.prog 59 29 m59 [.t 4] := .of Tryz.call59 Tryz.func59 (by kernel_rfl)
def m60 : MC :=
  .seq (.reg [⟨0, some 4, none, .k (.mov (.c (.sl 1 [] .exact)))⟩] [0, 1])
  (.seq (.reg [⟨0, some 5, none, .k (.mov (.t 0))⟩, ⟨1, some 6, none, .k (.mov (.t 1))⟩, ⟨2, some 7, none, .k (.conv .u64 (.t 6))⟩, ⟨3, some 8, none, .k (.bin .shl (.t 7) (.c (.int .u64 1)))⟩, ⟨4, some 9, none, .k (.mov (.t 1))⟩, ⟨5, some 10, none, .k (.bin .shr (.t 9) (.c (.int .u64 63)))⟩, ⟨6, some 11, none, .k (.conv .u64 (.t 10))⟩, ⟨7, some 12, none, .k (.bin .xor (.t 8) (.t 11))⟩, ⟨8, some 13, none, .call (.f 57) [.t 5, .t 12]⟩, ⟨9, some 4, none, .k (.mov (.t 13))⟩] [4])
  (.ret))
theorem is60 : FnIs Tryz.prog 60 14 m60 [.t 4] := .of Tryz.call60 Tryz.func60 (by kernel_rfl)
def m61k0 : MC :=
  .cond (.t 38)
    (.reg [⟨0, some 41, none, .k (.mov (.t 4))⟩, ⟨1, some 42, none, .k (.fadr 2 (.t 3))⟩, ⟨2, some 43, none, .k (.load 1 false (.t 42))⟩, ⟨3, some 44, none, .call (.f 58) [.t 41, .t 43]⟩, ⟨4, some 4, none, .k (.mov (.t 44))⟩] [4])
    (.skip)
def m61k1 : MC :=
  .cond (.t 31)
    (.reg [⟨0, some 34, none, .k (.mov (.t 4))⟩, ⟨1, some 35, none, .k (.fadr 1 (.t 3))⟩, ⟨2, some 36, none, .k (.load 1 false (.t 35))⟩, ⟨3, some 37, none, .call (.f 60) [.t 34, .t 36]⟩, ⟨4, some 4, none, .k (.mov (.t 37))⟩] [4])
    (.seq (.seq (.reg [⟨0, some 39, none, .k (.bin .eql (.t 22) (.c (.int .i64 4)))⟩, ⟨1, some 38, none, .k (.mov (.t 39))⟩] [3, 4, 22, 38])
    (.cond (.t 38)
      (.skip)
      (.reg [⟨0, some 40, none, .k (.bin .eql (.t 22) (.c (.int .i64 5)))⟩, ⟨1, some 38, none, .k (.mov (.t 40))⟩] [3, 4, 38])))
    (.named [3, 4, 38] m61k0))
def m61k2 : MC :=
  .seq (.reg [⟨0, some 45, none, .k (.mov (.t 4))⟩, ⟨1, some 4, none, .k (.mov (.t 45))⟩] [4])
  (.ret)
def m61 : MC :=
  .seq (.reg [⟨0, some 3, none, .k (.box (.t 1))⟩, ⟨1, some 4, none, .k (.mov (.c (.sl 1 [] .exact)))⟩] [0, 3])
  (.seq (.reg [⟨0, some 5, none, .k (.mov (.t 0))⟩, ⟨1, some 6, none, .k (.len false (.t 5))⟩, ⟨2, some 7, none, .k (.bin .add (.t 6) (.c (.int .i64 16)))⟩, ⟨3, some 8, none, .k (.mkCap 1 1 (.t 7))⟩, ⟨4, some 9, none, .k (.mov (.t 0))⟩, ⟨5, some 10, none, .k (.app 1 1 (.t 8) (.t 9))⟩, ⟨6, some 4, none, .k (.mov (.t 10))⟩] [3, 4])
  (.seq (.seq (.reg [⟨0, some 11, none, .k (.load 3 true (.t 3))⟩, ⟨1, some 12, none, .call (.f 32) [.t 11]⟩, ⟨2, some 13, none, .k (.bin .neq (.t 12) (.c (.int .i64 0)))⟩] [3, 4, 13])
  (.cond (.t 13)
    (.seq (.reg [⟨0, some 14, none, .k (.mov (.t 4))⟩, ⟨1, some 4, none, .k (.mov (.t 14))⟩] [4])
    (.ret))
    (.skip)))
  (.seq (.reg [⟨0, some 15, none, .k (.mov (.t 4))⟩, ⟨1, some 16, none, .k (.fadr 0 (.t 3))⟩, ⟨2, some 17, none, .k (.load 1 false (.t 16))⟩, ⟨3, some 18, none, .k (.conv .u8 (.t 17))⟩, ⟨4, some 19, none, .k (.mkSl 1 [.int .u8 0] [.t 18])⟩, ⟨5, some 20, none, .k (.app 1 1 (.t 15) (.t 19))⟩, ⟨6, some 4, none, .k (.mov (.t 20))⟩] [3, 4])
  (.seq (.seq (.reg [⟨0, some 21, none, .k (.fadr 0 (.t 3))⟩, ⟨1, some 22, none, .k (.load 1 false (.t 21))⟩] [3, 4, 22])
  (.block 0
    (.seq (.reg [⟨0, some 24, none, .k (.bin .eql (.t 22) (.c (.int .i64 1)))⟩, ⟨1, some 23, none, .k (.mov (.t 24))⟩] [3, 4, 22, 23])
    (.cond (.t 23)
      (.reg [⟨0, some 25, none, .k (.mov (.t 4))⟩, ⟨1, some 26, none, .k (.fadr 1 (.t 3))⟩, ⟨2, some 27, none, .k (.load 1 false (.t 26))⟩, ⟨3, some 28, none, .k (.conv .u8 (.t 27))⟩, ⟨4, some 29, none, .k (.mkSl 1 [.int .u8 0] [.t 28])⟩, ⟨5, some 30, none, .k (.app 1 1 (.t 25) (.t 29))⟩, ⟨6, some 4, none, .k (.mov (.t 30))⟩] [4])
      (.seq (.seq (.reg [⟨0, some 32, none, .k (.bin .eql (.t 22) (.c (.int .i64 2)))⟩, ⟨1, some 31, none, .k (.mov (.t 32))⟩] [3, 4, 22, 31])
      (.cond (.t 31)
        (.skip)
        (.reg [⟨0, some 33, none, .k (.bin .eql (.t 22) (.c (.int .i64 3)))⟩, ⟨1, some 31, none, .k (.mov (.t 33))⟩] [3, 4, 22, 31])))
      (.named [3, 4, 22, 31] m61k1))))))
  (.named [4] m61k2)))))
theorem is61 : FnIs Tryz.prog 61 46 m61 [.t 4] := .of Tryz.call61 Tryz.func61 (by kernel_rfl)
def m62k0 : MC :=
  .reg [⟨0, some 15, none, .k (.build [.str [], .sl 1 [] .exact, .sl 4 [] .exact] [])⟩, ⟨1, some 16, none, .k (.mov (.t 3))⟩, ⟨2, none, none, .k (.store 3 (.t 0) (.t 15))⟩, ⟨3, none, none, .k (.store 1 (.t 1) (.t 16))⟩] []
def m62 : MC :=
  .seq (.rcv (some 5) [⟨1, some 2, none, .k (.mov (.t 5))⟩] [0, 1, 2])
  (.seq (.reg [⟨0, some 6, none, .k (.mov (.t 2))⟩, ⟨1, some 7, none, .k (.cmp 1 true (.t 6) (.c (.nili)))⟩] [0, 1, 2, 7])
  (.cond (.t 7)
    (.seq (.reg [⟨0, some 9, none, .k (.mov (.t 2))⟩, ⟨1, some 10, none, .k (.tas 32 (.int .i64 0) (.t 9))⟩, ⟨2, some 8, none, .k (.mov (.t 10))⟩, ⟨3, some 11, none, .k (.ext (.t 8) 0)⟩, ⟨4, some 12, none, .k (.ext (.t 8) 1)⟩, ⟨5, some 3, none, .k (.mov (.t 11))⟩, ⟨6, some 4, none, .k (.mov (.t 12))⟩] [0, 1, 3, 4])
    (.seq (.seq (.reg [⟨0, some 13, none, .k (.mov (.t 4))⟩, ⟨1, some 14, none, .k (.un .not (.t 13))⟩] [0, 1, 3, 14])
    (.cond (.t 14)
      (.reg [⟨0, some 3, none, .k (.mov (.c (.int .i64 3)))⟩] [0, 1, 3])
      (.skip)))
    (.named [0, 1, 3] m62k0)))
    (.skip)))
theorem is62 : FnIs Tryz.prog 62 17 m62 [] := .of Tryz.call62 Tryz.func62 (by kernel_rfl)
def m63 : MC :=
  .seq (.reg [⟨0, some 2, none, .k (.mov (.c (.nilp)))⟩] [0])
  (.seq (.reg [⟨0, some 7, none, .k (.mov (.t 0))⟩, ⟨1, some 8, none, .k (.nilChk (.t 7))⟩, ⟨2, some 9, none, .k (.fadr 0 (.t 8))⟩, ⟨3, some 10, none, .k (.load 1 false (.t 9))⟩, ⟨4, some 11, none, .call (.f 25) [.t 10, .c (.int .i64 0)]⟩, ⟨5, some 6, none, .k (.mov (.t 11))⟩, ⟨6, some 12, none, .k (.ext (.t 6) 0)⟩, ⟨7, some 13, none, .k (.ext (.t 6) 1)⟩, ⟨8, some 14, none, .k (.ext (.t 6) 2)⟩, ⟨9, some 3, none, .k (.mov (.t 12))⟩, ⟨10, some 4, none, .k (.mov (.t 13))⟩, ⟨11, some 5, none, .k (.mov (.t 14))⟩] [0, 3, 4, 5])
  (.seq (.reg [⟨0, some 15, none, .k (.mov (.t 0))⟩, ⟨1, some 16, none, .k (.mov (.t 4))⟩, ⟨2, some 17, none, .k (.mov (.t 5))⟩, ⟨3, some 18, none, .call (.f 117) [.t 15, .t 16, .t 17]⟩] [3])
  (.seq (.reg [⟨0, some 19, none, .k (.mov (.t 3))⟩, ⟨1, some 20, none, .k (.build [.sl 1 [] .exact] [(0, 1, .t 19)])⟩, ⟨2, some 21, none, .k (.box (.t 20))⟩, ⟨3, some 2, none, .k (.mov (.t 21))⟩] [2])
  (.ret))))
theorem is63 : FnIs Tryz.prog 63 22 m63 [.t 2] := .of Tryz.call63 Tryz.func63 (by kernel_rfl)
def m64 : MC :=
  .seq (.reg [⟨0, some 2, none, .k (.mov (.c (.str [])))⟩] [0])
  (.seq (.reg [⟨0, some 7, none, .k (.mov (.t 0))⟩, ⟨1, some 8, none, .k (.nilChk (.t 7))⟩, ⟨2, some 9, none, .k (.fadr 0 (.t 8))⟩, ⟨3, some 10, none, .k (.load 1 false (.t 9))⟩, ⟨4, some 11, none, .call (.f 118) [.t 10, .c (.int .i64 0)]⟩, ⟨5, some 6, none, .k (.mov (.t 11))⟩, ⟨6, some 12, none, .k (.ext (.t 6) 0)⟩, ⟨7, some 13, none, .k (.ext (.t 6) 1)⟩, ⟨8, some 14, none, .k (.ext (.t 6) 2)⟩, ⟨9, some 3, none, .k (.mov (.t 12))⟩, ⟨10, some 4, none, .k (.mov (.t 13))⟩, ⟨11, some 5, none, .k (.mov (.t 14))⟩] [0, 3, 4, 5])
  (.seq (.reg [⟨0, some 15, none, .k (.mov (.t 0))⟩, ⟨1, some 16, none, .k (.mov (.t 4))⟩, ⟨2, some 17, none, .k (.mov (.t 5))⟩, ⟨3, some 18, none, .call (.f 117) [.t 15, .t 16, .t 17]⟩] [3])
  (.seq (.reg [⟨0, some 19, none, .k (.mov (.t 3))⟩, ⟨1, some 2, none, .k (.mov (.t 19))⟩] [2])
  (.ret))))
theorem is64 : FnIs Tryz.prog 64 20 m64 [.t 2] := .of Tryz.call64 Tryz.func64 (by kernel_rfl)
def m65k0 : MC :=
  .seq (.reg [⟨0, some 25, none, .k (.mov (.t 5))⟩, ⟨1, some 26, none, .k (.conv .i64 (.t 25))⟩, ⟨2, some 4, none, .k (.mov (.t 26))⟩] [4])
  (.ret)
def m65 : MC :=
  .seq (.reg [⟨0, some 4, none, .k (.mov (.c (.int .i64 0)))⟩] [0, 1])
  (.seq (.reg [⟨0, some 9, none, .k (.mov (.t 0))⟩, ⟨1, some 10, none, .k (.nilChk (.t 9))⟩, ⟨2, some 11, none, .k (.fadr 0 (.t 10))⟩, ⟨3, some 12, none, .k (.load 1 false (.t 11))⟩, ⟨4, some 13, none, .call (.f 119) [.t 12, .c (.int .i64 0)]⟩, ⟨5, some 8, none, .k (.mov (.t 13))⟩, ⟨6, some 14, none, .k (.ext (.t 8) 0)⟩, ⟨7, some 15, none, .k (.ext (.t 8) 1)⟩, ⟨8, some 16, none, .k (.ext (.t 8) 2)⟩, ⟨9, some 5, none, .k (.mov (.t 14))⟩, ⟨10, some 6, none, .k (.mov (.t 15))⟩, ⟨11, some 7, none, .k (.mov (.t 16))⟩] [0, 1, 5, 6, 7])
  (.seq (.reg [⟨0, some 17, none, .k (.mov (.t 0))⟩, ⟨1, some 18, none, .k (.mov (.t 6))⟩, ⟨2, some 19, none, .k (.mov (.t 7))⟩, ⟨3, some 20, none, .call (.f 117) [.t 17, .t 18, .t 19]⟩] [1, 5])
  (.seq (.seq (.reg [⟨0, some 21, none, .k (.mov (.t 5))⟩, ⟨1, some 22, none, .k (.mov (.t 1))⟩, ⟨2, some 23, none, .k (.bin .gtr (.t 21) (.t 22))⟩] [5, 23])
  (.cond (.t 23)
    (.reg [⟨0, some 24, none, .k (.ifc 32 (.c (.int .i64 3)))⟩, ⟨1, none, none, .panic (.t 24)⟩] [5])
    (.skip)))
  (.named [5] m65k0))))
theorem is65 : FnIs Tryz.prog 65 27 m65 [.t 4] := .of Tryz.call65 Tryz.func65 (by kernel_rfl)
def m66 : MC :=
  .seq (.reg [⟨0, some 2, none, .k (.mov (.t 0))⟩, ⟨1, some 3, none, .k (.nilChk (.t 2))⟩, ⟨2, some 4, none, .k (.fadr 0 (.t 3))⟩, ⟨3, some 5, none, .k (.load 1 false (.t 4))⟩, ⟨4, some 6, none, .k (.len false (.t 5))⟩, ⟨5, some 7, none, .k (.bin .gtr (.t 6) (.c (.int .i64 0)))⟩] [7])
  (.cond (.t 7)
    (.reg [⟨0, some 8, none, .k (.ifc 32 (.c (.int .i64 3)))⟩, ⟨1, none, none, .panic (.t 8)⟩] [])
    (.skip))
theorem is66 : FnIs Tryz.prog 66 9 m66 [] := .of Tryz.call66 Tryz.func66 (by kernel_rfl)
def m67 : MC :=
  .seq (.reg [⟨0, some 2, none, .k (.mov (.c (.int .i64 0)))⟩] [0])
  (.seq (.reg [⟨0, some 7, none, .k (.mov (.t 0))⟩, ⟨1, some 8, none, .k (.nilChk (.t 7))⟩, ⟨2, some 9, none, .k (.fadr 0 (.t 8))⟩, ⟨3, some 10, none, .k (.load 1 false (.t 9))⟩, ⟨4, some 11, none, .call (.f 120) [.t 10, .c (.int .i64 0)]⟩, ⟨5, some 6, none, .k (.mov (.t 11))⟩, ⟨6, some 12, none, .k (.ext (.t 6) 0)⟩, ⟨7, some 13, none, .k (.ext (.t 6) 1)⟩, ⟨8, some 14, none, .k (.ext (.t 6) 2)⟩, ⟨9, some 3, none, .k (.mov (.t 12))⟩, ⟨10, some 4, none, .k (.mov (.t 13))⟩, ⟨11, some 5, none, .k (.mov (.t 14))⟩] [0, 3, 4, 5])
  (.seq (.reg [⟨0, some 15, none, .k (.mov (.t 0))⟩, ⟨1, some 16, none, .k (.mov (.t 4))⟩, ⟨2, some 17, none, .k (.mov (.t 5))⟩, ⟨3, some 18, none, .call (.f 117) [.t 15, .t 16, .t 17]⟩] [3])
  (.seq (.reg [⟨0, some 19, none, .k (.mov (.t 3))⟩, ⟨1, some 2, none, .k (.mov (.t 19))⟩] [2])
  (.ret))))
theorem is67 : FnIs Tryz.prog 67 20 m67 [.t 2] := .of Tryz.call67 Tryz.func67 (by kernel_rfl)
def m68 : MC :=
  .seq (.reg [⟨0, some 2, none, .k (.alloc [.int .i64 0, .int .i64 0, .str []])⟩] [0, 2])
  (.seq (.reg [⟨0, some 7, none, .k (.mov (.t 0))⟩, ⟨1, some 8, none, .k (.nilChk (.t 7))⟩, ⟨2, some 9, none, .k (.fadr 0 (.t 8))⟩, ⟨3, some 10, none, .k (.load 1 false (.t 9))⟩, ⟨4, some 11, none, .call (.f 121) [.t 10, .c (.int .i64 0)]⟩, ⟨5, some 6, none, .k (.mov (.t 11))⟩, ⟨6, some 12, none, .k (.ext (.t 6) 0)⟩, ⟨7, some 13, none, .k (.ext (.t 6) 1)⟩, ⟨8, some 14, none, .k (.ext (.t 6) 2)⟩, ⟨9, some 3, none, .k (.alloc [.int .i64 0, .int .i64 0, .str []])⟩, ⟨10, none, none, .k (.store 3 (.t 3) (.t 12))⟩, ⟨11, some 4, none, .k (.mov (.t 13))⟩, ⟨12, some 5, none, .k (.mov (.t 14))⟩] [0, 2, 3, 4, 5])
  (.seq (.reg [⟨0, some 15, none, .k (.mov (.t 0))⟩, ⟨1, some 16, none, .k (.mov (.t 4))⟩, ⟨2, some 17, none, .k (.mov (.t 5))⟩, ⟨3, some 18, none, .call (.f 117) [.t 15, .t 16, .t 17]⟩] [2, 3])
  (.seq (.reg [⟨0, some 19, none, .k (.load 3 true (.t 3))⟩, ⟨1, none, none, .k (.store 3 (.t 2) (.t 19))⟩] [2])
  (.ret))))
theorem is68 : FnIs Tryz.prog 68 20 m68 [.c 2 3 true] := .of Tryz.call68 Tryz.func68 (by kernel_rfl)
def m69k0 : MC :=
  .reg [⟨0, some 18, none, .k (.mov (.t 0))⟩, ⟨1, some 19, none, .k (.mov (.t 1))⟩, ⟨2, some 20, none, .k (.mov (.t 5))⟩, ⟨3, some 21, none, .k (.nilChk (.t 18))⟩, ⟨4, none, none, .k (.store 1 (.t 21) (.c (.int .i64 0)))⟩, ⟨5, some 22, none, .k (.nilChk (.t 19))⟩, ⟨6, none, none, .k (.store 1 (.t 22) (.t 20))⟩] []
def m69 : MC :=
  .seq (.rcv (some 7) [⟨1, some 4, none, .k (.mov (.t 7))⟩] [0, 1, 4])
  (.seq (.reg [⟨0, some 8, none, .k (.mov (.t 4))⟩, ⟨1, some 9, none, .k (.cmp 1 true (.t 8) (.c (.nili)))⟩] [0, 1, 4, 9])
  (.cond (.t 9)
    (.seq (.reg [⟨0, some 11, none, .k (.mov (.t 4))⟩, ⟨1, some 12, none, .k (.tas 32 (.int .i64 0) (.t 11))⟩, ⟨2, some 10, none, .k (.mov (.t 12))⟩, ⟨3, some 13, none, .k (.ext (.t 10) 0)⟩, ⟨4, some 14, none, .k (.ext (.t 10) 1)⟩, ⟨5, some 5, none, .k (.mov (.t 13))⟩, ⟨6, some 6, none, .k (.mov (.t 14))⟩] [0, 1, 4, 5, 6])
    (.seq (.seq (.reg [⟨0, some 15, none, .k (.mov (.t 6))⟩, ⟨1, some 16, none, .k (.un .not (.t 15))⟩] [0, 1, 4, 5, 16])
    (.cond (.t 16)
      (.reg [⟨0, some 17, none, .k (.mov (.t 4))⟩, ⟨1, none, none, .panic (.t 17)⟩] [0, 1, 5])
      (.skip)))
    (.named [0, 1, 5] m69k0)))
    (.skip)))
theorem is69 : FnIs Tryz.prog 69 23 m69 [] := .of Tryz.call69 Tryz.func69 (by kernel_rfl)
def m70k0 : MC :=
  .cond (.t 12)
    (.reg [⟨0, some 13, none, .k (.ifc 32 (.c (.int .i64 1)))⟩, ⟨1, none, none, .panic (.t 13)⟩] [0, 1])
    (.skip)
def m70k1 : MC :=
  .seq (.reg [⟨0, some 14, none, .k (.mov (.t 0))⟩, ⟨1, some 15, none, .k (.mov (.t 1))⟩, ⟨2, some 16, none, .k (.build [.sl 1 [] .exact, .int .i64 0] [(0, 1, .t 14), (1, 1, .t 15)])⟩, ⟨3, some 17, none, .k (.box (.t 16))⟩, ⟨4, some 4, none, .k (.mov (.t 17))⟩] [4])
  (.ret)
def m70 : MC :=
  .seq (.reg [⟨0, some 4, none, .k (.mov (.c (.nilp)))⟩] [0, 1])
  (.seq (.seq (.reg [⟨0, some 5, none, .k (.mov (.t 1))⟩, ⟨1, some 6, none, .k (.bin .lss (.t 5) (.c (.int .i64 0)))⟩, ⟨2, some 7, none, .k (.mov (.t 6))⟩, ⟨3, some 8, (some (7, false)), .k (.mov (.t 1))⟩, ⟨4, some 9, (some (7, false)), .k (.mov (.t 0))⟩, ⟨5, some 10, (some (7, false)), .k (.len false (.t 9))⟩, ⟨6, some 11, (some (7, false)), .k (.bin .gtr (.t 8) (.t 10))⟩, ⟨7, some 12, none, .k (.pick (.t 7) (.c (.bool true)) (.t 11))⟩] [0, 1, 12])
  (.named [0, 1, 12] m70k0))
  (.named [0, 1] m70k1))
theorem is70 : FnIs Tryz.prog 70 18 m70 [.t 4] := .of Tryz.call70 Tryz.func70 (by kernel_rfl)
def m71k0 : MC :=
  .cond (.t 36)
    (.reg [⟨0, some 37, none, .k (.ifc 32 (.c (.int .i64 3)))⟩, ⟨1, none, none, .panic (.t 37)⟩] [2])
    (.skip)
def m71k1 : MC :=
  .seq (.reg [⟨0, some 38, none, .k (.mov (.t 2))⟩, ⟨1, some 2, none, .k (.mov (.t 38))⟩] [2])
  (.ret)
def m71l0 : MC :=
  .seq (.seq (.reg [⟨0, some 5, none, .k (.mov (.t 3))⟩, ⟨1, some 6, none, .k (.bin .lss (.t 5) (.c (.int .i64 10)))⟩] [0, 2, 3, 6])
  (.cond (.t 6)
    (.skip)
    (.exit 0)))
  (.seq (.block 1
    (.seq (.reg [⟨0, some 9, none, .k (.mov (.t 0))⟩, ⟨1, some 10, none, .call (.f 72) [.t 9, .c (.int .u64 1)]⟩, ⟨2, some 11, none, .k (.iadr 1 (.t 10) (.c (.int .i64 0)))⟩, ⟨3, some 12, none, .k (.load 1 false (.t 11))⟩, ⟨4, some 4, none, .k (.mov (.t 12))⟩] [0, 2, 3, 4])
    (.seq (.reg [⟨0, some 13, none, .k (.mov (.t 2))⟩, ⟨1, some 14, none, .k (.mov (.t 4))⟩, ⟨2, some 15, none, .k (.bin .and (.t 14) (.c (.int .u8 127)))⟩, ⟨3, some 16, none, .k (.conv .u64 (.t 15))⟩, ⟨4, some 17, none, .k (.mov (.t 3))⟩, ⟨5, some 18, none, .k (.bin .mul (.c (.int .i64 7)) (.t 17))⟩, ⟨6, some 19, none, .k (.bin .shl (.t 16) (.t 18))⟩, ⟨7, some 20, none, .k (.bin .or (.t 13) (.t 19))⟩, ⟨8, some 2, none, .k (.mov (.t 20))⟩] [0, 2, 3, 4])
    (.seq (.reg [⟨0, some 21, none, .k (.mov (.t 4))⟩, ⟨1, some 22, none, .k (.bin .lss (.t 21) (.c (.int .u8 128)))⟩] [0, 2, 3, 4, 22])
    (.cond (.t 22)
      (.seq (.seq (.reg [⟨0, some 23, none, .k (.mov (.t 3))⟩, ⟨1, some 24, none, .k (.bin .eql (.t 23) (.c (.int .i64 9)))⟩, ⟨2, some 25, none, .k (.mov (.t 24))⟩, ⟨3, some 26, (some (25, true)), .k (.mov (.t 4))⟩, ⟨4, some 27, (some (25, true)), .k (.bin .gtr (.t 26) (.c (.int .u8 1)))⟩, ⟨5, some 28, none, .k (.pick (.t 25) (.t 27) (.c (.bool false)))⟩, ⟨6, some 29, none, .k (.mov (.t 28))⟩, ⟨7, some 30, (some (29, false)), .k (.mov (.t 3))⟩, ⟨8, some 31, (some (29, false)), .k (.bin .gtr (.t 30) (.c (.int .i64 0)))⟩, ⟨9, some 32, (some (29, false)), .k (.mov (.t 31))⟩, ⟨10, some 33, (some (32, true)), .k (.mov (.t 4))⟩, ⟨11, some 34, (some (32, true)), .k (.bin .eql (.t 33) (.c (.int .u8 0)))⟩, ⟨12, some 35, (some (29, false)), .k (.pick (.t 32) (.t 34) (.c (.bool false)))⟩, ⟨13, some 36, none, .k (.pick (.t 29) (.c (.bool true)) (.t 35))⟩] [2, 36])
      (.named [2, 36] m71k0))
      (.named [2] m71k1))
      (.skip))))))
  (.reg [⟨0, some 7, none, .k (.mov (.t 3))⟩, ⟨1, some 8, none, .k (.bin .add (.t 7) (.c (.int .i64 1)))⟩, ⟨2, some 3, none, .k (.mov (.t 8))⟩] [0, 2, 3]))
def m71k2 : MC :=
  .reg [⟨0, some 39, none, .k (.ifc 32 (.c (.int .i64 3)))⟩, ⟨1, none, none, .panic (.t 39)⟩] [2]
def m71 : MC :=
  .seq (.reg [⟨0, some 2, none, .k (.mov (.c (.int .u64 0)))⟩] [0, 2])
  (.seq (.seq (.reg [⟨0, some 3, none, .k (.mov (.c (.int .i64 0)))⟩] [0, 2, 3])
  (.block 0
    (.loop m71l0)))
  (.named [2] m71k2))
theorem is71 : FnIs Tryz.prog 71 40 m71 [.t 2] := .of Tryz.call71 Tryz.func71 (by kernel_rfl)
def m72k0 : MC :=
  .seq (.reg [⟨0, some 21, none, .k (.mov (.t 0))⟩, ⟨1, some 22, none, .k (.nilChk (.t 21))⟩, ⟨2, some 23, none, .k (.fadr 1 (.t 22))⟩, ⟨3, some 24, none, .k (.load 1 false (.t 23))⟩, ⟨4, some 25, none, .k (.mov (.t 1))⟩, ⟨5, some 26, none, .k (.conv .i64 (.t 25))⟩, ⟨6, some 27, none, .k (.bin .add (.t 24) (.t 26))⟩, ⟨7, some 5, none, .k (.mov (.t 27))⟩] [0, 5])
  (.seq (.any (.one ⟨0, some 28, none, .k (.mov (.t 0))⟩ false false <|
      .one ⟨1, some 29, none, .k (.nilChk (.t 28))⟩ false false <|
      .one ⟨2, some 30, none, .k (.fadr 0 (.t 29))⟩ false false <|
      .one ⟨3, some 31, none, .k (.load 1 false (.t 30))⟩ false false <|
      .one ⟨4, some 32, none, .k (.mov (.t 0))⟩ false false <|
      .one ⟨5, some 33, none, .k (.nilChk (.t 32))⟩ false false <|
      .one ⟨6, some 34, none, .k (.fadr 1 (.t 33))⟩ false false <|
      .one ⟨7, some 35, none, .k (.load 1 false (.t 34))⟩ false false <|
      .one ⟨8, some 36, none, .k (.mov (.t 5))⟩ false false <|
      .one ⟨9, some 37, none, .k (.mov (.t 5))⟩ false false <|
      .one ⟨10, some 38, none, .k (.slV 1 (.t 31) (some (.t 35)) (some (.t 36)) (some (.t 37)))⟩ false false <|
      .one ⟨11, some 6, none, .k (.mov (.t 38))⟩ false false <|
      .done) [] [0, 5, 6])
  (.seq (.reg [⟨0, some 39, none, .k (.mov (.t 0))⟩, ⟨1, some 40, none, .k (.mov (.t 5))⟩, ⟨2, some 41, none, .k (.nilChk (.t 39))⟩, ⟨3, some 42, none, .k (.fadr 1 (.t 41))⟩, ⟨4, none, none, .k (.store 1 (.t 42) (.t 40))⟩] [6])
  (.seq (.reg [⟨0, some 43, none, .k (.mov (.t 6))⟩, ⟨1, some 4, none, .k (.mov (.t 43))⟩] [4])
  (.ret))))
def m72 : MC :=
  .seq (.reg [⟨0, some 4, none, .k (.mov (.c (.sl 1 [] .exact)))⟩] [0, 1])
  (.seq (.seq (.any (.one ⟨0, some 7, none, .k (.mov (.t 1))⟩ false false <|
      .one ⟨1, some 8, none, .k (.mov (.t 0))⟩ false false <|
      .one ⟨2, some 9, none, .k (.nilChk (.t 8))⟩ false false <|
      .one ⟨3, some 10, none, .k (.fadr 0 (.t 9))⟩ false false <|
      .one ⟨4, some 11, none, .k (.load 1 false (.t 10))⟩ false false <|
      .one ⟨5, some 12, none, .k (.len false (.t 11))⟩ false false <|
      .one ⟨6, some 13, none, .k (.mov (.t 0))⟩ false false <|
      .one ⟨7, some 14, none, .k (.nilChk (.t 13))⟩ false false <|
      .one ⟨8, some 15, none, .k (.fadr 1 (.t 14))⟩ false false <|
      .one ⟨9, some 16, none, .k (.load 1 false (.t 15))⟩ false false <|
      .one ⟨10, some 17, none, .k (.bin .sub (.t 12) (.t 16))⟩ false false <|
      .one ⟨11, some 18, none, .k (.conv .u64 (.t 17))⟩ false false <|
      .one ⟨12, some 19, none, .k (.bin .gtr (.t 7) (.t 18))⟩ false false <|
      .done) [] [0, 1, 19])
  (.cond (.t 19)
    (.reg [⟨0, some 20, none, .k (.ifc 32 (.c (.int .i64 41)))⟩, ⟨1, none, none, .panic (.t 20)⟩] [0, 1])
    (.skip)))
  (.named [0, 1] m72k0))
theorem is72 : FnIs Tryz.prog 72 44 m72 [.t 4] := .of Tryz.call72 Tryz.func72 (by kernel_rfl)
def m73 : MC :=
  .seq (.reg [⟨0, some 2, none, .k (.mov (.c (.int .u32 0)))⟩] [0])
  (.seq (.reg [⟨0, some 3, none, .k (.mov (.t 0))⟩, ⟨1, some 4, none, .call (.f 122) [.c (.int .u32 0), .t 3]⟩, ⟨2, some 2, none, .k (.mov (.t 4))⟩] [2])
  (.ret))
theorem is73 : FnIs Tryz.prog 73 5 m73 [.t 2] := .of Tryz.call73 Tryz.func73 (by kernel_rfl)
def m91k0 : MC :=
  .cond (.t 42)
    (.seq (.reg [⟨0, some 2, none, .k (.mov (.c (.bool false)))⟩] [2])
    (.ret))
    (.skip)
def m91k1 : MC :=
  .cond (.t 61)
    (.seq (.reg [⟨0, some 2, none, .k (.mov (.c (.bool false)))⟩] [2])
    (.ret))
    (.skip)
def m91k2 : MC :=
  .reg [⟨0, some 62, none, .k (.bin .add (.t 46) (.c (.int .i64 1)))⟩, ⟨1, some 46, none, .k (.mov (.t 62))⟩] [1, 44, 45, 46]
def m91l0 : MC :=
  .seq (.reg [⟨0, some 47, none, .k (.bin .lss (.t 46) (.t 45))⟩] [1, 44, 45, 46, 47])
  (.seq (.cond (.t 47)
    (.skip)
    (.exit 0))
  (.seq (.block 1
    (.seq (.reg [⟨0, some 48, none, .k (.mov (.t 46))⟩, ⟨1, some 49, none, .k (.iadr 1 (.t 44) (.t 46))⟩, ⟨2, some 50, none, .k (.load 1 false (.t 49))⟩, ⟨3, some 3, none, .k (.mov (.t 48))⟩, ⟨4, some 4, none, .k (.mov (.t 50))⟩] [1, 3, 4, 44, 45, 46])
    (.seq (.reg [⟨0, some 51, none, .k (.mov (.t 4))⟩, ⟨1, some 52, none, .call (.f 92) [.t 51]⟩, ⟨2, some 53, none, .k (.un .not (.t 52))⟩, ⟨3, some 54, none, .k (.mov (.t 53))⟩, ⟨4, some 55, (some (54, false)), .k (.fadr 1 (.t 1))⟩, ⟨5, some 56, (some (54, false)), .k (.load 1 false (.t 55))⟩, ⟨6, some 57, (some (54, false)), .k (.mov (.t 3))⟩, ⟨7, some 58, (some (54, false)), .k (.slV 1 (.t 56) none (some (.t 57)) none)⟩, ⟨8, some 59, (some (54, false)), .k (.mov (.t 4))⟩, ⟨9, some 60, (some (54, false)), .call (.f 93) [.t 58, .t 59]⟩, ⟨10, some 61, none, .k (.pick (.t 54) (.c (.bool true)) (.t 60))⟩] [1, 44, 45, 46, 61])
    (.named [1, 44, 45, 46, 61] m91k1))))
  (.named [1, 44, 45, 46] m91k2)))
def m91k3 : MC :=
  .seq (.reg [⟨0, some 63, none, .k (.fadr 2 (.t 1))⟩, ⟨1, some 64, none, .k (.load 1 false (.t 63))⟩, ⟨2, some 65, none, .call (.f 153) [.t 64, .f 154]⟩, ⟨3, some 66, none, .k (.un .not (.t 65))⟩, ⟨4, some 2, none, .k (.mov (.t 66))⟩] [2])
  (.ret)
def m91k4 : MC :=
  .seq (.seq (.reg [⟨0, some 43, none, .k (.fadr 1 (.t 1))⟩, ⟨1, some 44, none, .k (.load 1 false (.t 43))⟩, ⟨2, some 45, none, .k (.len false (.t 44))⟩, ⟨3, some 46, none, .k (.mov (.c (.int .i64 0)))⟩] [1, 44, 45, 46])
  (.block 0
    (.loop m91l0)))
  (.named [1] m91k3)
def m91 : MC :=
  .seq (.reg [⟨0, some 1, none, .k (.box (.t 0))⟩, ⟨1, some 2, none, .k (.mov (.c (.bool false)))⟩] [1])
  (.seq (.seq (.reg [⟨0, some 5, none, .k (.fadr 0 (.t 1))⟩, ⟨1, some 6, none, .k (.load 1 false (.t 5))⟩, ⟨2, some 7, none, .call (.f 92) [.t 6]⟩, ⟨3, some 8, none, .k (.un .not (.t 7))⟩, ⟨4, some 9, none, .k (.mov (.t 8))⟩, ⟨5, some 10, (some (9, false)), .k (.fadr 1 (.t 1))⟩, ⟨6, some 11, (some (9, false)), .k (.load 1 false (.t 10))⟩, ⟨7, some 12, (some (9, false)), .k (.len false (.t 11))⟩, ⟨8, some 13, (some (9, false)), .k (.bin .lss (.t 12) (.c (.int .i64 1)))⟩, ⟨9, some 14, none, .k (.pick (.t 9) (.c (.bool true)) (.t 13))⟩, ⟨10, some 15, none, .k (.mov (.t 14))⟩, ⟨11, some 16, (some (15, false)), .k (.fadr 1 (.t 1))⟩, ⟨12, some 17, (some (15, false)), .k (.load 1 false (.t 16))⟩, ⟨13, some 18, (some (15, false)), .k (.len false (.t 17))⟩, ⟨14, some 19, (some (15, false)), .k (.bin .gtr (.t 18) (.c (.int .i64 8)))⟩, ⟨15, some 20, none, .k (.pick (.t 15) (.c (.bool true)) (.t 19))⟩, ⟨16, some 21, none, .k (.mov (.t 20))⟩, ⟨17, some 22, (some (21, false)), .k (.fadr 2 (.t 1))⟩, ⟨18, some 23, (some (21, false)), .k (.load 1 false (.t 22))⟩, ⟨19, some 24, (some (21, false)), .k (.len false (.t 23))⟩, ⟨20, some 25, (some (21, false)), .k (.bin .gtr (.t 24) (.c (.int .i64 256)))⟩, ⟨21, some 26, none, .k (.pick (.t 21) (.c (.bool true)) (.t 25))⟩, ⟨22, some 27, none, .k (.mov (.t 26))⟩, ⟨23, some 28, (some (27, false)), .k (.fadr 3 (.t 1))⟩, ⟨24, some 29, (some (27, false)), .k (.load 1 false (.t 28))⟩, ⟨25, some 30, (some (27, false)), .call (.f 152) [.t 29]⟩, ⟨26, some 31, (some (27, false)), .k (.un .not (.t 30))⟩, ⟨27, some 32, none, .k (.pick (.t 27) (.c (.bool true)) (.t 31))⟩, ⟨28, some 33, none, .k (.mov (.t 32))⟩, ⟨29, some 34, (some (33, false)), .k (.fadr 4 (.t 1))⟩, ⟨30, some 35, (some (33, false)), .k (.load 1 false (.t 34))⟩, ⟨31, some 36, (some (33, false)), .k (.bin .lss (.t 35) (.c (.int .i64 0)))⟩, ⟨32, some 37, none, .k (.pick (.t 33) (.c (.bool true)) (.t 36))⟩, ⟨33, some 38, none, .k (.mov (.t 37))⟩, ⟨34, some 39, (some (38, false)), .k (.fadr 4 (.t 1))⟩, ⟨35, some 40, (some (38, false)), .k (.load 1 false (.t 39))⟩, ⟨36, some 41, (some (38, false)), .k (.bin .gtr (.t 40) (.c (.int .i64 1000)))⟩, ⟨37, some 42, none, .k (.pick (.t 38) (.c (.bool true)) (.t 41))⟩] [1, 42])
  (.named [1, 42] m91k0))
  (.named [1] m91k4))
theorem is91 : FnIs Tryz.prog 91 67 m91 [.t 2] := .of Tryz.call91 Tryz.func91 (by kernel_rfl)
def m92k0 : MC :=
  .cond (.t 15)
    (.seq (.reg [⟨0, some 2, none, .k (.mov (.c (.bool false)))⟩] [2])
    (.ret))
    (.skip)
def m92k1 : MC :=
  .cond (.t 31)
    (.skip)
    (.seq (.reg [⟨0, some 2, none, .k (.mov (.c (.bool false)))⟩] [2])
    (.ret))
def m92k2 : MC :=
  .cond (.t 24)
    (.skip)
    (.seq (.reg [⟨0, some 32, none, .k (.mov (.t 3))⟩, ⟨1, some 33, none, .k (.bin .gtr (.t 32) (.c (.int .i64 0)))⟩, ⟨2, some 34, none, .k (.mov (.t 33))⟩, ⟨3, some 35, (some (34, true)), .k (.mov (.t 4))⟩, ⟨4, some 36, (some (34, true)), .k (.bin .geq (.t 35) (.c (.int .u8 48)))⟩, ⟨5, some 37, (some (34, true)), .k (.mov (.t 36))⟩, ⟨6, some 38, (some (37, true)), .k (.mov (.t 4))⟩, ⟨7, some 39, (some (37, true)), .k (.bin .leq (.t 38) (.c (.int .u8 57)))⟩, ⟨8, some 40, (some (34, true)), .k (.pick (.t 37) (.t 39) (.c (.bool false)))⟩, ⟨9, some 41, (some (34, true)), .k (.mov (.t 40))⟩, ⟨10, some 42, (some (41, false)), .k (.mov (.t 4))⟩, ⟨11, some 43, (some (41, false)), .k (.bin .eql (.t 42) (.c (.int .u8 95)))⟩, ⟨12, some 44, (some (34, true)), .k (.pick (.t 41) (.c (.bool true)) (.t 43))⟩, ⟨13, some 45, none, .k (.pick (.t 34) (.t 44) (.c (.bool false)))⟩, ⟨14, some 31, none, .k (.mov (.t 45))⟩] [0, 17, 18, 31])
    (.named [0, 17, 18, 31] m92k1))
def m92k3 : MC :=
  .reg [⟨0, some 46, none, .k (.bin .add (.t 18) (.c (.int .i64 1)))⟩, ⟨1, some 18, none, .k (.mov (.t 46))⟩] [0, 17, 18]
def m92l0 : MC :=
  .seq (.reg [⟨0, some 19, none, .k (.bin .lss (.t 18) (.t 17))⟩] [0, 17, 18, 19])
  (.seq (.cond (.t 19)
    (.skip)
    (.exit 0))
  (.seq (.block 1
    (.seq (.reg [⟨0, some 20, none, .k (.mov (.t 18))⟩, ⟨1, some 3, none, .k (.mov (.t 20))⟩] [0, 3, 17, 18])
    (.seq (.reg [⟨0, some 21, none, .k (.mov (.t 0))⟩, ⟨1, some 22, none, .k (.mov (.t 3))⟩, ⟨2, some 23, none, .k (.istr (.t 21) (.t 22))⟩, ⟨3, some 4, none, .k (.mov (.t 23))⟩] [0, 3, 4, 17, 18])
    (.block 2
      (.seq (.reg [⟨0, some 25, none, .k (.mov (.t 4))⟩, ⟨1, some 26, none, .k (.bin .geq (.t 25) (.c (.int .u8 97)))⟩, ⟨2, some 27, none, .k (.mov (.t 26))⟩, ⟨3, some 28, (some (27, true)), .k (.mov (.t 4))⟩, ⟨4, some 29, (some (27, true)), .k (.bin .leq (.t 28) (.c (.int .u8 122)))⟩, ⟨5, some 30, none, .k (.pick (.t 27) (.t 29) (.c (.bool false)))⟩, ⟨6, some 24, none, .k (.mov (.t 30))⟩] [0, 3, 4, 17, 18, 24])
      (.named [0, 3, 4, 17, 18, 24] m92k2))))))
  (.named [0, 17, 18] m92k3)))
def m92k4 : MC :=
  .seq (.reg [⟨0, some 2, none, .k (.mov (.c (.bool true)))⟩] [2])
  (.ret)
def m92k5 : MC :=
  .seq (.seq (.reg [⟨0, some 16, none, .k (.mov (.t 0))⟩, ⟨1, some 17, none, .k (.len true (.t 16))⟩, ⟨2, some 18, none, .k (.mov (.c (.int .i64 0)))⟩] [0, 17, 18])
  (.block 0
    (.loop m92l0)))
  (.named [] m92k4)
def m92 : MC :=
  .seq (.reg [⟨0, some 2, none, .k (.mov (.c (.bool false)))⟩] [0])
  (.seq (.seq (.reg [⟨0, some 5, none, .k (.mov (.t 0))⟩, ⟨1, some 6, none, .k (.bin .eql (.t 5) (.c (.str [])))⟩, ⟨2, some 7, none, .k (.mov (.t 6))⟩, ⟨3, some 8, (some (7, false)), .k (.mov (.t 0))⟩, ⟨4, some 9, (some (7, false)), .k (.len true (.t 8))⟩, ⟨5, some 10, (some (7, false)), .k (.bin .gtr (.t 9) (.c (.int .i64 24)))⟩, ⟨6, some 11, none, .k (.pick (.t 7) (.c (.bool true)) (.t 10))⟩, ⟨7, some 12, none, .k (.mov (.t 11))⟩, ⟨8, some 13, (some (12, false)), .k (.mov (.t 0))⟩, ⟨9, some 14, (some (12, false)), .call (.f 156) [.t 13]⟩, ⟨10, some 15, none, .k (.pick (.t 12) (.c (.bool true)) (.t 14))⟩] [0, 15])
  (.named [0, 15] m92k0))
  (.named [0] m92k5))
theorem is92 : FnIs Tryz.prog 92 47 m92 [.t 2] := .of Tryz.call92 Tryz.func92 (by kernel_rfl)
def m93 : MC :=
  .seq (.reg [⟨0, some 4, none, .k (.mov (.c (.bool false)))⟩] [0, 1])
  (.seq (.reg [⟨0, some 5, none, .k (.mov (.t 0))⟩, ⟨1, some 6, none, .k (.mov (.t 1))⟩, ⟨2, some 7, none, .call (.f 157) [.t 5, .t 6]⟩, ⟨3, some 8, none, .k (.bin .geq (.t 7) (.c (.int .i64 0)))⟩, ⟨4, some 4, none, .k (.mov (.t 8))⟩] [4])
  (.ret))
theorem is93 : FnIs Tryz.prog 93 9 m93 [.t 4] := .of Tryz.call93 Tryz.func93 (by kernel_rfl)
def m94 : MC :=
  .seq (.reg [⟨0, some 2, none, .k (.mov (.c (.bool false)))⟩] [0])
  (.seq (.reg [⟨0, some 3, none, .k (.mov (.t 0))⟩, ⟨1, some 4, none, .k (.bin .geq (.t 3) (.c (.int .i64 0)))⟩, ⟨2, some 5, none, .k (.mov (.t 4))⟩, ⟨3, some 6, (some (5, true)), .k (.mov (.t 0))⟩, ⟨4, some 7, (some (5, true)), .k (.bin .leq (.t 6) (.c (.int .i64 1099511627776)))⟩, ⟨5, some 8, none, .k (.pick (.t 5) (.t 7) (.c (.bool false)))⟩, ⟨6, some 2, none, .k (.mov (.t 8))⟩] [2])
  (.ret))
theorem is94 : FnIs Tryz.prog 94 9 m94 [.t 2] := .of Tryz.call94 Tryz.func94 (by kernel_rfl)
def m95 : MC :=
  .seq (.reg [⟨0, some 2, none, .k (.box (.t 0))⟩, ⟨1, some 3, none, .k (.box (.t 1))⟩, ⟨2, some 4, none, .k (.mov (.c (.int .i64 0)))⟩] [2, 3])
  (.seq (.any (.one ⟨0, some 5, none, .k (.fadr 0 (.t 2))⟩ false false <|
      .one ⟨1, some 6, none, .k (.load 1 false (.t 5))⟩ true false <|
      .one ⟨2, some 7, none, .k (.fadr 0 (.t 3))⟩ false false <|
      .one ⟨3, some 8, none, .k (.load 1 false (.t 7))⟩ true false <|
      .one ⟨5, some 10, none, .k (.fadr 1 (.t 2))⟩ false false <|
      .one ⟨6, some 11, none, .k (.load 1 false (.t 10))⟩ true false <|
      .one ⟨7, some 12, none, .k (.fadr 1 (.t 3))⟩ false false <|
      .one ⟨8, some 13, none, .k (.load 1 false (.t 12))⟩ true false <|
      .one ⟨10, some 15, none, .k (.fadr 2 (.t 2))⟩ false false <|
      .one ⟨11, some 16, none, .k (.load 1 false (.t 15))⟩ true false <|
      .one ⟨12, some 17, none, .k (.fadr 2 (.t 3))⟩ false false <|
      .one ⟨13, some 18, none, .k (.load 1 false (.t 17))⟩ true false <|
      .one ⟨4, some 9, none, .call (.f 159) [.t 6, .t 8]⟩ false true <|
      .one ⟨9, some 14, none, .call (.f 160) [.t 11, .t 13]⟩ false true <|
      .one ⟨14, some 19, none, .call (.f 160) [.t 16, .t 18]⟩ false true <|
      .one ⟨15, some 20, none, .k (.mkSl 1 [.int .i64 0] [.t 9, .t 14, .t 19])⟩ false false <|
      .one ⟨16, some 21, none, .call (.f 158) [.t 20]⟩ false true <|
      .one ⟨17, some 4, none, .k (.mov (.t 21))⟩ false false <|
      .done) [2, 3] [4])
  (.ret))
theorem is95 : FnIs Tryz.prog 95 22 m95 [.t 4] := .of Tryz.call95 Tryz.func95 (by kernel_rfl)
def m96 : MC :=
  .seq (.reg [⟨0, some 4, none, .k (.mov (.c (.bool false)))⟩] [0, 1])
  (.seq (.reg [⟨0, some 5, none, .k (.mov (.t 0))⟩, ⟨1, some 6, none, .k (.mov (.t 1))⟩, ⟨2, some 7, none, .call (.f 161) [.t 5, .t 6]⟩, ⟨3, some 8, none, .k (.bin .geq (.t 7) (.c (.int .i64 0)))⟩, ⟨4, some 4, none, .k (.mov (.t 8))⟩] [4])
  (.ret))
theorem is96 : FnIs Tryz.prog 96 9 m96 [.t 4] := .of Tryz.call96 Tryz.func96 (by kernel_rfl)
def m97 : MC :=
  .seq (.reg [⟨0, some 1, none, .k (.box (.t 0))⟩, ⟨1, some 2, none, .k (.mov (.c (.bool false)))⟩] [1])
  (.seq (.reg [⟨0, some 3, none, .k (.load 3 true (.t 1))⟩, ⟨1, some 4, none, .call (.f 32) [.t 3]⟩, ⟨2, some 5, none, .k (.bin .neq (.t 4) (.c (.int .i64 0)))⟩, ⟨3, some 2, none, .k (.mov (.t 5))⟩] [2])
  (.ret))
theorem is97 : FnIs Tryz.prog 97 6 m97 [.t 2] := .of Tryz.call97 Tryz.func97 (by kernel_rfl)
def m98 : MC :=
  .seq (.reg [⟨0, some 2, none, .k (.mov (.c (.bool false)))⟩] [0])
  (.seq (.reg [⟨0, some 3, none, .k (.mov (.t 0))⟩, ⟨1, some 4, none, .k (.bin .neq (.t 3) (.c (.str [])))⟩, ⟨2, some 5, none, .k (.mov (.t 4))⟩, ⟨3, some 6, (some (5, true)), .k (.mov (.t 0))⟩, ⟨4, some 7, (some (5, true)), .k (.len true (.t 6))⟩, ⟨5, some 8, (some (5, true)), .k (.bin .leq (.t 7) (.c (.int .i64 24)))⟩, ⟨6, some 9, none, .k (.pick (.t 5) (.t 8) (.c (.bool false)))⟩, ⟨7, some 10, none, .k (.mov (.t 9))⟩, ⟨8, some 11, (some (10, true)), .k (.mov (.t 0))⟩, ⟨9, some 12, (some (10, true)), .k (.s2y (.t 11))⟩, ⟨10, some 13, (some (10, true)), .call (.f 162) [.t 12, .c (.int .i64 0)]⟩, ⟨11, some 14, (some (10, true)), .k (.mov (.t 0))⟩, ⟨12, some 15, (some (10, true)), .k (.len true (.t 14))⟩, ⟨13, some 16, (some (10, true)), .k (.bin .eql (.t 13) (.t 15))⟩, ⟨14, some 17, none, .k (.pick (.t 10) (.t 16) (.c (.bool false)))⟩, ⟨15, some 18, none, .k (.mov (.t 17))⟩, ⟨16, some 19, (some (18, true)), .k (.mov (.t 0))⟩, ⟨17, some 20, (some (18, true)), .call (.f 163) [.t 19]⟩, ⟨18, some 21, (some (18, true)), .k (.un .not (.t 20))⟩, ⟨19, some 22, none, .k (.pick (.t 18) (.t 21) (.c (.bool false)))⟩, ⟨20, some 2, none, .k (.mov (.t 22))⟩] [2])
  (.ret))
theorem is98 : FnIs Tryz.prog 98 23 m98 [.t 2] := .of Tryz.call98 Tryz.func98 (by kernel_rfl)
def m99 : MC :=
  .seq (.reg [⟨0, some 2, none, .k (.mov (.c (.bool false)))⟩] [0])
  (.seq (.reg [⟨0, some 3, none, .k (.mov (.t 0))⟩, ⟨1, some 4, none, .k (.bin .geq (.t 3) (.c (.int .i64 0)))⟩, ⟨2, some 5, none, .k (.mov (.t 4))⟩, ⟨3, some 6, (some (5, true)), .k (.mov (.t 0))⟩, ⟨4, some 7, (some (5, true)), .k (.bin .leq (.t 6) (.c (.int .i64 1099511627776)))⟩, ⟨5, some 8, none, .k (.pick (.t 5) (.t 7) (.c (.bool false)))⟩, ⟨6, some 2, none, .k (.mov (.t 8))⟩] [2])
  (.ret))
theorem is99 : FnIs Tryz.prog 99 9 m99 [.t 2] := .of Tryz.call99 Tryz.func99 (by kernel_rfl)
def m100l0 : MC :=
  .seq (.seq (.reg [⟨0, some 6, none, .k (.mov (.t 5))⟩, ⟨1, some 7, none, .k (.mov (.t 0))⟩, ⟨2, some 8, none, .k (.len false (.t 7))⟩, ⟨3, some 9, none, .k (.bin .lss (.t 6) (.t 8))⟩] [0, 1, 5, 9])
  (.cond (.t 9)
    (.skip)
    (.exit 0)))
  (.seq (.block 1
    (.seq (.reg [⟨0, some 12, none, .k (.mov (.t 0))⟩, ⟨1, some 13, none, .k (.mov (.t 5))⟩, ⟨2, some 14, none, .k (.iadr 1 (.t 12) (.t 13))⟩, ⟨3, some 15, none, .k (.load 1 false (.t 14))⟩, ⟨4, some 16, none, .k (.mov (.t 1))⟩, ⟨5, some 17, none, .k (.bin .eql (.t 15) (.t 16))⟩] [0, 1, 5, 17])
    (.cond (.t 17)
      (.seq (.reg [⟨0, some 4, none, .k (.mov (.c (.bool true)))⟩] [4])
      (.ret))
      (.skip))))
  (.reg [⟨0, some 10, none, .k (.mov (.t 5))⟩, ⟨1, some 11, none, .k (.bin .add (.t 10) (.c (.int .i64 1)))⟩, ⟨2, some 5, none, .k (.mov (.t 11))⟩] [0, 1, 5]))
def m100k0 : MC :=
  .seq (.reg [⟨0, some 4, none, .k (.mov (.c (.bool false)))⟩] [4])
  (.ret)
def m100 : MC :=
  .seq (.reg [⟨0, some 4, none, .k (.mov (.c (.bool false)))⟩] [0, 1])
  (.seq (.seq (.reg [⟨0, some 5, none, .k (.mov (.c (.int .i64 0)))⟩] [0, 1, 5])
  (.block 0
    (.loop m100l0)))
  (.named [] m100k0))
theorem is100 : FnIs Tryz.prog 100 18 m100 [.t 4] := .of Tryz.call100 Tryz.func100 (by kernel_rfl)
def m101 : MC :=
  .seq (.reg [⟨0, some 1, none, .k (.box (.t 0))⟩, ⟨1, some 2, none, .k (.mov (.c (.bool false)))⟩] [1])
  (.seq (.reg [⟨0, some 4, none, .k (.fadr 0 (.t 1))⟩, ⟨1, some 5, none, .k (.load 1 false (.t 4))⟩, ⟨2, some 6, none, .call (.f 164) [.t 5]⟩, ⟨3, some 3, none, .k (.mov (.t 6))⟩] [1, 3])
  (.seq (.reg [⟨0, some 7, none, .k (.mov (.t 3))⟩, ⟨1, some 8, none, .k (.mov (.t 7))⟩, ⟨2, some 9, (some (8, true)), .k (.fadr 1 (.t 1))⟩, ⟨3, some 10, (some (8, true)), .k (.load 1 false (.t 9))⟩, ⟨4, some 11, (some (8, true)), .call (.f 99) [.t 10]⟩, ⟨5, some 12, none, .k (.pick (.t 8) (.t 11) (.c (.bool false)))⟩, ⟨6, some 13, none, .k (.mov (.t 12))⟩, ⟨7, some 14, (some (13, true)), .k (.fadr 2 (.t 1))⟩, ⟨8, some 15, (some (13, true)), .k (.load 1 false (.t 14))⟩, ⟨9, some 16, (some (13, true)), .call (.f 99) [.t 15]⟩, ⟨10, some 17, none, .k (.pick (.t 13) (.t 16) (.c (.bool false)))⟩, ⟨11, some 2, none, .k (.mov (.t 17))⟩] [2])
  (.ret)))
theorem is101 : FnIs Tryz.prog 101 18 m101 [.t 2] := .of Tryz.call101 Tryz.func101 (by kernel_rfl)
def m105l0 : MC :=
  .seq (.seq (.reg [⟨0, some 11, none, .k (.mov (.t 5))⟩, ⟨1, some 12, none, .k (.mov (.t 0))⟩, ⟨2, some 13, none, .k (.len false (.t 12))⟩, ⟨3, some 14, none, .k (.bin .lss (.t 11) (.t 13))⟩] [0, 1, 5, 14])
  (.cond (.t 14)
    (.skip)
    (.exit 0)))
  (.seq (.block 1
    (.seq (.any (.one ⟨0, some 17, none, .k (.mov (.t 0))⟩ false false <|
        .one ⟨1, some 18, none, .k (.mov (.t 5))⟩ false false <|
        .one ⟨2, some 19, none, .k (.iadr 3 (.t 17) (.t 18))⟩ false false <|
        .one ⟨3, some 20, none, .k (.load 3 true (.t 19))⟩ false false <|
        .one ⟨4, some 21, none, .k (.mov (.t 1))⟩ false false <|
        .one ⟨5, some 22, none, .k (.mov (.t 5))⟩ false false <|
        .one ⟨6, some 23, none, .k (.iadr 3 (.t 21) (.t 22))⟩ false false <|
        .one ⟨7, some 24, none, .k (.load 3 true (.t 23))⟩ false false <|
        .one ⟨8, some 25, none, .k (.eqv [.i, .i, .s] true (.t 20) (.t 24))⟩ false false <|
        .done) [] [0, 1, 5, 25])
    (.cond (.t 25)
      (.seq (.reg [⟨0, some 4, none, .k (.mov (.c (.bool false)))⟩] [4])
      (.ret))
      (.skip))))
  (.reg [⟨0, some 15, none, .k (.mov (.t 5))⟩, ⟨1, some 16, none, .k (.bin .add (.t 15) (.c (.int .i64 1)))⟩, ⟨2, some 5, none, .k (.mov (.t 16))⟩] [0, 1, 5]))
def m105k0 : MC :=
  .seq (.reg [⟨0, some 4, none, .k (.mov (.c (.bool true)))⟩] [4])
  (.ret)
def m105 : MC :=
  .seq (.reg [⟨0, some 4, none, .k (.mov (.c (.bool false)))⟩] [0, 1])
  (.seq (.seq (.reg [⟨0, some 6, none, .k (.mov (.t 0))⟩, ⟨1, some 7, none, .k (.len false (.t 6))⟩, ⟨2, some 8, none, .k (.mov (.t 1))⟩, ⟨3, some 9, none, .k (.len false (.t 8))⟩, ⟨4, some 10, none, .k (.bin .neq (.t 7) (.t 9))⟩] [0, 1, 10])
  (.cond (.t 10)
    (.seq (.reg [⟨0, some 4, none, .k (.mov (.c (.bool false)))⟩] [4])
    (.ret))
    (.skip)))
  (.seq (.seq (.reg [⟨0, some 5, none, .k (.mov (.c (.int .i64 0)))⟩] [0, 1, 5])
  (.block 0
    (.loop m105l0)))
  (.named [] m105k0)))
theorem is105 : FnIs Tryz.prog 105 26 m105 [.t 4] := .of Tryz.call105 Tryz.func105 (by kernel_rfl)
def m109 : MC :=
  .seq (.reg [⟨0, some 1, none, .k (.box (.t 0))⟩, ⟨1, some 2, none, .k (.mov (.c (.str [])))⟩] [])
  (.seq (.reg [⟨0, some 2, none, .k (.mov (.c (.str [110, 117, 108, 108])))⟩] [2])
  (.ret))
theorem is109 : FnIs Tryz.prog 109 3 m109 [.t 2] := .of Tryz.call109 Tryz.func109 (by kernel_rfl)
def m110 : MC :=
  .seq (.reg [⟨0, some 1, none, .k (.box (.t 0))⟩, ⟨1, some 2, none, .k (.mov (.c (.str [])))⟩] [1])
  (.seq (.reg [⟨0, some 3, none, .k (.fadr 0 (.t 1))⟩, ⟨1, some 4, none, .k (.fadr 1 (.t 3))⟩, ⟨2, some 5, none, .k (.load 1 false (.t 4))⟩, ⟨3, some 6, none, .k (.bin .eql (.t 5) (.c (.int .i64 1)))⟩, ⟨4, some 7, none, .call (.f 170) [.t 6]⟩, ⟨5, some 2, none, .k (.mov (.t 7))⟩] [2])
  (.ret))
theorem is110 : FnIs Tryz.prog 110 8 m110 [.t 2] := .of Tryz.call110 Tryz.func110 (by kernel_rfl)
def m111 : MC :=
  .seq (.reg [⟨0, some 1, none, .k (.box (.t 0))⟩, ⟨1, some 2, none, .k (.mov (.c (.str [])))⟩] [1])
  (.seq (.reg [⟨0, some 3, none, .k (.fadr 0 (.t 1))⟩, ⟨1, some 4, none, .k (.fadr 1 (.t 3))⟩, ⟨2, some 5, none, .k (.load 1 false (.t 4))⟩, ⟨3, some 6, none, .call (.f 51) [.t 5]⟩, ⟨4, some 2, none, .k (.mov (.t 6))⟩] [2])
  (.ret))
theorem is111 : FnIs Tryz.prog 111 7 m111 [.t 2] := .of Tryz.call111 Tryz.func111 (by kernel_rfl)
def m112 : MC :=
  .seq (.reg [⟨0, some 1, none, .k (.box (.t 0))⟩, ⟨1, some 2, none, .k (.mov (.c (.str [])))⟩] [1])
  (.seq (.reg [⟨0, some 3, none, .k (.fadr 0 (.t 1))⟩, ⟨1, some 4, none, .k (.fadr 1 (.t 3))⟩, ⟨2, some 5, none, .k (.load 1 false (.t 4))⟩, ⟨3, some 6, none, .call (.f 171) [.t 5]⟩, ⟨4, some 2, none, .k (.mov (.t 6))⟩] [2])
  (.ret))
theorem is112 : FnIs Tryz.prog 112 7 m112 [.t 2] := .of Tryz.call112 Tryz.func112 (by kernel_rfl)
def m113 : MC :=
  .seq (.reg [⟨0, some 1, none, .k (.box (.t 0))⟩, ⟨1, some 2, none, .k (.mov (.c (.str [])))⟩] [1])
  (.seq (.reg [⟨0, some 3, none, .k (.fadr 0 (.t 1))⟩, ⟨1, some 4, none, .k (.fadr 2 (.t 3))⟩, ⟨2, some 5, none, .k (.load 1 false (.t 4))⟩, ⟨3, some 6, none, .k (.bin .add (.c (.str [34])) (.t 5))⟩, ⟨4, some 7, none, .k (.bin .add (.t 6) (.c (.str [34])))⟩, ⟨5, some 2, none, .k (.mov (.t 7))⟩] [2])
  (.ret))
theorem is113 : FnIs Tryz.prog 113 8 m113 [.t 2] := .of Tryz.call113 Tryz.func113 (by kernel_rfl)
def m114 : MC :=
  .seq (.reg [⟨0, some 1, none, .k (.box (.t 0))⟩, ⟨1, some 2, none, .k (.mov (.c (.str [])))⟩] [1])
  (.seq (.reg [⟨0, some 3, none, .k (.fadr 0 (.t 1))⟩, ⟨1, some 4, none, .k (.fadr 2 (.t 3))⟩, ⟨2, some 5, none, .k (.load 1 false (.t 4))⟩, ⟨3, some 6, none, .k (.bin .add (.c (.str [64])) (.t 5))⟩, ⟨4, some 2, none, .k (.mov (.t 6))⟩] [2])
  (.ret))
theorem is114 : FnIs Tryz.prog 114 7 m114 [.t 2] := .of Tryz.call114 Tryz.func114 (by kernel_rfl)
def m116k0 : MC :=
  .cond (.t 31)
    (.seq (.reg [⟨0, some 2, none, .k (.mov (.c (.int .i64 2)))⟩] [2])
    (.ret))
    (.skip)
def m116k1 : MC :=
  .cond (.t 51)
    (.seq (.reg [⟨0, some 2, none, .k (.mov (.c (.int .i64 3)))⟩] [2])
    (.ret))
    (.skip)
def m116k2 : MC :=
  .seq (.reg [⟨0, some 2, none, .k (.mov (.c (.int .i64 0)))⟩] [2])
  (.ret)
def m116k3 : MC :=
  .seq (.seq (.reg [⟨0, some 32, none, .k (.fadr 0 (.t 1))⟩, ⟨1, some 33, none, .k (.load 1 false (.t 32))⟩, ⟨2, some 34, none, .k (.bin .eql (.t 33) (.c (.int .i64 4)))⟩, ⟨3, some 35, none, .k (.mov (.t 34))⟩, ⟨4, some 36, (some (35, true)), .k (.fadr 2 (.t 1))⟩, ⟨5, some 37, (some (35, true)), .k (.load 1 false (.t 36))⟩, ⟨6, some 38, (some (35, true)), .call (.f 174) [.t 37]⟩, ⟨7, some 39, (some (35, true)), .k (.un .not (.t 38))⟩, ⟨8, some 40, none, .k (.pick (.t 35) (.t 39) (.c (.bool false)))⟩, ⟨9, some 41, none, .k (.mov (.t 40))⟩, ⟨10, some 42, (some (41, false)), .k (.fadr 0 (.t 1))⟩, ⟨11, some 43, (some (41, false)), .k (.load 1 false (.t 42))⟩, ⟨12, some 44, (some (41, false)), .k (.bin .eql (.t 43) (.c (.int .i64 5)))⟩, ⟨13, some 45, (some (41, false)), .k (.mov (.t 44))⟩, ⟨14, some 46, (some (45, true)), .k (.fadr 2 (.t 1))⟩, ⟨15, some 47, (some (45, true)), .k (.load 1 false (.t 46))⟩, ⟨16, some 48, (some (45, true)), .call (.f 175) [.t 47]⟩, ⟨17, some 49, (some (45, true)), .k (.un .not (.t 48))⟩, ⟨18, some 50, (some (41, false)), .k (.pick (.t 45) (.t 49) (.c (.bool false)))⟩, ⟨19, some 51, none, .k (.pick (.t 41) (.c (.bool true)) (.t 50))⟩] [51])
  (.named [51] m116k1))
  (.named [] m116k2)
def m116 : MC :=
  .seq (.reg [⟨0, some 1, none, .k (.box (.t 0))⟩, ⟨1, some 2, none, .k (.mov (.c (.int .i64 0)))⟩] [1])
  (.seq (.seq (.reg [⟨0, some 3, none, .k (.load 3 true (.t 1))⟩, ⟨1, some 4, none, .call (.f 172) [.t 3]⟩, ⟨2, some 5, none, .k (.un .not (.t 4))⟩] [1, 5])
  (.cond (.t 5)
    (.seq (.reg [⟨0, some 2, none, .k (.mov (.c (.int .i64 1)))⟩] [2])
    (.ret))
    (.skip)))
  (.seq (.seq (.reg [⟨0, some 6, none, .k (.fadr 1 (.t 1))⟩, ⟨1, some 7, none, .k (.load 1 false (.t 6))⟩, ⟨2, some 8, none, .call (.f 173) [.t 7]⟩, ⟨3, some 9, none, .k (.un .not (.t 8))⟩, ⟨4, some 10, none, .k (.mov (.t 9))⟩, ⟨5, some 11, (some (10, false)), .k (.fadr 0 (.t 1))⟩, ⟨6, some 12, (some (10, false)), .k (.load 1 false (.t 11))⟩, ⟨7, some 13, (some (10, false)), .k (.bin .eql (.t 12) (.c (.int .i64 4)))⟩, ⟨8, some 14, (some (10, false)), .k (.mov (.t 13))⟩, ⟨9, some 15, (some (14, true)), .k (.fadr 2 (.t 1))⟩, ⟨10, some 16, (some (14, true)), .k (.load 1 false (.t 15))⟩, ⟨11, some 17, (some (14, true)), .k (.len true (.t 16))⟩, ⟨12, some 18, (some (14, true)), .k (.bin .gtr (.t 17) (.c (.int .i64 64)))⟩, ⟨13, some 19, (some (10, false)), .k (.pick (.t 14) (.t 18) (.c (.bool false)))⟩, ⟨14, some 20, none, .k (.pick (.t 10) (.c (.bool true)) (.t 19))⟩, ⟨15, some 21, none, .k (.mov (.t 20))⟩, ⟨16, some 22, (some (21, false)), .k (.fadr 0 (.t 1))⟩, ⟨17, some 23, (some (21, false)), .k (.load 1 false (.t 22))⟩, ⟨18, some 24, (some (21, false)), .k (.bin .eql (.t 23) (.c (.int .i64 5)))⟩, ⟨19, some 25, (some (21, false)), .k (.mov (.t 24))⟩, ⟨20, some 26, (some (25, true)), .k (.fadr 2 (.t 1))⟩, ⟨21, some 27, (some (25, true)), .k (.load 1 false (.t 26))⟩, ⟨22, some 28, (some (25, true)), .k (.len true (.t 27))⟩, ⟨23, some 29, (some (25, true)), .k (.bin .gtr (.t 28) (.c (.int .i64 32)))⟩, ⟨24, some 30, (some (21, false)), .k (.pick (.t 25) (.t 29) (.c (.bool false)))⟩, ⟨25, some 31, none, .k (.pick (.t 21) (.c (.bool true)) (.t 30))⟩] [1, 31])
  (.named [1, 31] m116k0))
  (.named [1] m116k3)))
theorem is116 : FnIs Tryz.prog 116 52 m116 [.t 2] := .of Tryz.call116 Tryz.func116 (by kernel_rfl)
def m117k0 : MC :=
  .any (.one ⟨0, some 10, none, .k (.mov (.t 0))⟩ false false <|
      .one ⟨1, some 11, none, .k (.mov (.t 0))⟩ false false <|
      .one ⟨2, some 12, none, .k (.nilChk (.t 11))⟩ false false <|
      .one ⟨3, some 13, none, .k (.fadr 0 (.t 12))⟩ false false <|
      .one ⟨4, some 14, none, .k (.load 1 false (.t 13))⟩ false false <|
      .one ⟨5, some 15, none, .k (.mov (.t 1))⟩ false false <|
      .one ⟨6, some 16, none, .k (.mov (.t 0))⟩ false false <|
      .one ⟨7, some 17, none, .k (.nilChk (.t 16))⟩ false false <|
      .one ⟨8, some 18, none, .k (.fadr 0 (.t 17))⟩ false false <|
      .one ⟨9, some 19, none, .k (.load 1 false (.t 18))⟩ false false <|
      .one ⟨10, some 20, none, .k (.len false (.t 19))⟩ false false <|
      .one ⟨11, some 21, none, .k (.mov (.t 0))⟩ false false <|
      .one ⟨12, some 22, none, .k (.nilChk (.t 21))⟩ false false <|
      .one ⟨13, some 23, none, .k (.fadr 0 (.t 22))⟩ false false <|
      .one ⟨14, some 24, none, .k (.load 1 false (.t 23))⟩ false false <|
      .one ⟨15, some 25, none, .k (.len false (.t 24))⟩ false false <|
      .one ⟨16, some 26, none, .k (.slV 1 (.t 14) (some (.t 15)) (some (.t 20)) (some (.t 25)))⟩ false false <|
      .one ⟨17, some 27, none, .k (.nilChk (.t 10))⟩ false false <|
      .one ⟨18, some 28, none, .k (.fadr 0 (.t 27))⟩ false false <|
      .one ⟨19, none, none, .k (.store 1 (.t 28) (.t 26))⟩ false false <|
      .done) [] []
def m117 : MC :=
  .seq (.seq (.reg [⟨0, some 6, none, .k (.mov (.t 2))⟩, ⟨1, some 7, none, .k (.bin .neq (.t 6) (.c (.int .i64 0)))⟩] [0, 1, 2, 7])
  (.cond (.t 7)
    (.reg [⟨0, some 8, none, .k (.mov (.t 2))⟩, ⟨1, some 9, none, .k (.ifc 32 (.t 8))⟩, ⟨2, none, none, .panic (.t 9)⟩] [0, 1])
    (.skip)))
  (.named [0, 1] m117k0)
theorem is117 : FnIs Tryz.prog 117 29 m117 [] := .of Tryz.call117 Tryz.func117 (by kernel_rfl)
def m118 : MC :=
  .seq (.reg [⟨0, some 4, none, .k (.mov (.c (.str [])))⟩, ⟨1, some 5, none, .k (.alloc [.int .i64 0])⟩, ⟨2, some 6, none, .k (.alloc [.int .i64 0])⟩] [0, 1, 4, 5, 6])
  (.seq (.dfr [] (.f 69) [.t 5, .t 6] [0, 1, 4, 5, 6])
  (.seq (.reg [⟨0, some 9, none, .k (.mov (.t 0))⟩, ⟨1, some 10, none, .k (.mov (.t 1))⟩, ⟨2, some 11, none, .call (.f 70) [.t 9, .t 10]⟩, ⟨3, some 7, none, .k (.mov (.t 11))⟩] [4, 5, 6, 7])
  (.seq (.reg [⟨0, some 12, none, .k (.mov (.t 7))⟩, ⟨1, some 13, none, .k (.mov (.t 7))⟩, ⟨2, some 14, none, .call (.f 71) [.t 13]⟩, ⟨3, some 15, none, .call (.f 72) [.t 12, .t 14]⟩, ⟨4, some 8, none, .k (.mov (.t 15))⟩] [4, 5, 6, 7, 8])
  (.seq (.any (.one ⟨0, some 16, none, .k (.mov (.t 8))⟩ false false <|
      .one ⟨1, some 17, none, .k (.b2s (.t 16))⟩ false false <|
      .one ⟨2, some 18, none, .k (.mov (.t 7))⟩ false false <|
      .one ⟨3, some 19, none, .k (.nilChk (.t 18))⟩ false false <|
      .one ⟨4, some 20, none, .k (.fadr 1 (.t 19))⟩ false false <|
      .one ⟨5, some 21, none, .k (.load 1 false (.t 20))⟩ false false <|
      .one ⟨6, some 4, none, .k (.mov (.t 17))⟩ false false <|
      .one ⟨7, none, none, .k (.store 1 (.t 5) (.t 21))⟩ false false <|
      .one ⟨8, none, none, .k (.store 1 (.t 6) (.c (.int .i64 0)))⟩ false false <|
      .done) [] [4, 5, 6])
  (.ret)))))
theorem is118 : FnIs Tryz.prog 118 22 m118 [.t 4, .c 5 1 false, .c 6 1 false] := .of Tryz.call118 Tryz.func118 (by kernel_rfl)
def m119 : MC :=
  .seq (.reg [⟨0, some 4, none, .k (.mov (.c (.int .u64 0)))⟩, ⟨1, some 5, none, .k (.alloc [.int .i64 0])⟩, ⟨2, some 6, none, .k (.alloc [.int .i64 0])⟩] [0, 1, 4, 5, 6])
  (.seq (.dfr [] (.f 69) [.t 5, .t 6] [0, 1, 4, 5, 6])
  (.seq (.reg [⟨0, some 9, none, .k (.mov (.t 0))⟩, ⟨1, some 10, none, .k (.mov (.t 1))⟩, ⟨2, some 11, none, .call (.f 70) [.t 9, .t 10]⟩, ⟨3, some 7, none, .k (.mov (.t 11))⟩] [4, 5, 6, 7])
  (.seq (.reg [⟨0, some 12, none, .k (.mov (.t 7))⟩, ⟨1, some 13, none, .call (.f 71) [.t 12]⟩, ⟨2, some 8, none, .k (.mov (.t 13))⟩] [4, 5, 6, 7, 8])
  (.seq (.any (.one ⟨0, some 14, none, .k (.mov (.t 8))⟩ false false <|
      .one ⟨1, some 15, none, .k (.mov (.t 7))⟩ false false <|
      .one ⟨2, some 16, none, .k (.nilChk (.t 15))⟩ false false <|
      .one ⟨3, some 17, none, .k (.fadr 1 (.t 16))⟩ false false <|
      .one ⟨4, some 18, none, .k (.load 1 false (.t 17))⟩ false false <|
      .one ⟨5, some 4, none, .k (.mov (.t 14))⟩ false false <|
      .one ⟨6, none, none, .k (.store 1 (.t 5) (.t 18))⟩ false false <|
      .one ⟨7, none, none, .k (.store 1 (.t 6) (.c (.int .i64 0)))⟩ false false <|
      .done) [] [4, 5, 6])
  (.ret)))))
theorem is119 : FnIs Tryz.prog 119 19 m119 [.t 4, .c 5 1 false, .c 6 1 false] := .of Tryz.call119 Tryz.func119 (by kernel_rfl)
def m120 : MC :=
  .seq (.reg [⟨0, some 4, none, .k (.mov (.c (.int .i64 0)))⟩, ⟨1, some 5, none, .k (.mov (.c (.int .i64 0)))⟩, ⟨2, some 6, none, .k (.mov (.c (.int .i64 0)))⟩] [0, 1])
  (.seq (.reg [⟨0, some 9, none, .k (.mov (.t 0))⟩, ⟨1, some 10, none, .k (.mov (.t 1))⟩, ⟨2, some 11, none, .call (.f 119) [.t 9, .t 10]⟩, ⟨3, some 8, none, .k (.mov (.t 11))⟩, ⟨4, some 12, none, .k (.ext (.t 8) 0)⟩, ⟨5, some 13, none, .k (.ext (.t 8) 1)⟩, ⟨6, some 14, none, .k (.ext (.t 8) 2)⟩, ⟨7, some 7, none, .k (.mov (.t 12))⟩, ⟨8, some 5, none, .k (.mov (.t 13))⟩, ⟨9, some 6, none, .k (.mov (.t 14))⟩] [5, 6, 7])
  (.seq (.seq (.reg [⟨0, some 15, none, .k (.mov (.t 6))⟩, ⟨1, some 16, none, .k (.bin .neq (.t 15) (.c (.int .i64 0)))⟩] [5, 6, 7, 16])
  (.cond (.t 16)
    (.seq (.reg [⟨0, some 17, none, .k (.mov (.t 6))⟩, ⟨1, some 4, none, .k (.mov (.c (.int .i64 0)))⟩, ⟨2, some 5, none, .k (.mov (.c (.int .i64 0)))⟩, ⟨3, some 6, none, .k (.mov (.t 17))⟩] [4, 5, 6])
    (.ret))
    (.skip)))
  (.seq (.reg [⟨0, some 18, none, .k (.mov (.t 7))⟩, ⟨1, some 19, none, .k (.bin .shr (.t 18) (.c (.int .u64 1)))⟩, ⟨2, some 20, none, .k (.conv .i64 (.t 19))⟩, ⟨3, some 21, none, .k (.mov (.t 7))⟩, ⟨4, some 22, none, .k (.bin .and (.t 21) (.c (.int .u64 1)))⟩, ⟨5, some 23, none, .k (.conv .i64 (.t 22))⟩, ⟨6, some 24, none, .k (.un .neg (.t 23))⟩, ⟨7, some 25, none, .k (.bin .xor (.t 20) (.t 24))⟩, ⟨8, some 26, none, .k (.mov (.t 5))⟩, ⟨9, some 4, none, .k (.mov (.t 25))⟩, ⟨10, some 5, none, .k (.mov (.t 26))⟩, ⟨11, some 6, none, .k (.mov (.c (.int .i64 0)))⟩] [4, 5, 6])
  (.ret))))
theorem is120 : FnIs Tryz.prog 120 27 m120 [.t 4, .t 5, .t 6] := .of Tryz.call120 Tryz.func120 (by kernel_rfl)
def m121k0 : MC :=
  .cond (.t 14)
    (.seq (.reg [⟨0, some 15, none, .k (.load 3 true (.t 4))⟩, ⟨1, none, none, .k (.store 3 (.t 4) (.t 15))⟩, ⟨2, some 5, none, .k (.mov (.c (.int .i64 0)))⟩, ⟨3, some 6, none, .k (.mov (.c (.int .i64 1)))⟩] [4, 5, 6])
    (.ret))
    (.skip)
def m121k1 : MC :=
  .reg [⟨0, some 48, none, .k (.mov (.t 5))⟩, ⟨1, some 49, none, .k (.bin .add (.t 48) (.c (.int .i64 1)))⟩, ⟨2, some 5, none, .k (.mov (.t 49))⟩] [4, 5, 6]
def m121k2 : MC :=
  .cond (.t 61)
    (.reg [⟨0, some 65, none, .k (.mov (.t 0))⟩, ⟨1, some 66, none, .k (.mov (.t 5))⟩, ⟨2, some 67, none, .call (.f 118) [.t 65, .t 66]⟩, ⟨3, some 64, none, .k (.mov (.t 67))⟩, ⟨4, some 68, none, .k (.ext (.t 64) 0)⟩, ⟨5, some 69, none, .k (.ext (.t 64) 1)⟩, ⟨6, some 70, none, .k (.ext (.t 64) 2)⟩, ⟨7, some 71, none, .k (.fadr 2 (.t 4))⟩, ⟨8, none, none, .k (.store 1 (.t 71) (.t 68))⟩, ⟨9, some 5, none, .k (.mov (.t 69))⟩, ⟨10, some 6, none, .k (.mov (.t 70))⟩] [4, 5, 6])
    (.reg [⟨0, some 6, none, .k (.mov (.c (.int .i64 3)))⟩] [4, 5, 6])
def m121k3 : MC :=
  .cond (.t 50)
    (.reg [⟨0, some 54, none, .k (.mov (.t 0))⟩, ⟨1, some 55, none, .k (.mov (.t 5))⟩, ⟨2, some 56, none, .call (.f 120) [.t 54, .t 55]⟩, ⟨3, some 53, none, .k (.mov (.t 56))⟩, ⟨4, some 57, none, .k (.ext (.t 53) 0)⟩, ⟨5, some 58, none, .k (.ext (.t 53) 1)⟩, ⟨6, some 59, none, .k (.ext (.t 53) 2)⟩, ⟨7, some 60, none, .k (.fadr 1 (.t 4))⟩, ⟨8, none, none, .k (.store 1 (.t 60) (.t 57))⟩, ⟨9, some 5, none, .k (.mov (.t 58))⟩, ⟨10, some 6, none, .k (.mov (.t 59))⟩] [4, 5, 6])
    (.seq (.seq (.reg [⟨0, some 62, none, .k (.bin .eql (.t 30) (.c (.int .i64 4)))⟩, ⟨1, some 61, none, .k (.mov (.t 62))⟩] [0, 4, 5, 30, 61])
    (.cond (.t 61)
      (.skip)
      (.reg [⟨0, some 63, none, .k (.bin .eql (.t 30) (.c (.int .i64 5)))⟩, ⟨1, some 61, none, .k (.mov (.t 63))⟩] [0, 4, 5, 61])))
    (.named [0, 4, 5, 61] m121k2))
def m121k4 : MC :=
  .seq (.seq (.reg [⟨0, some 76, none, .k (.mov (.t 6))⟩, ⟨1, some 77, none, .k (.bin .neq (.t 76) (.c (.int .i64 0)))⟩] [4, 5, 6, 77])
  (.cond (.t 77)
    (.seq (.reg [⟨0, some 78, none, .k (.build [.int .i64 0, .int .i64 0, .str []] [])⟩, ⟨1, some 79, none, .k (.mov (.t 6))⟩, ⟨2, none, none, .k (.store 3 (.t 4) (.t 78))⟩, ⟨3, some 5, none, .k (.mov (.c (.int .i64 0)))⟩, ⟨4, some 6, none, .k (.mov (.t 79))⟩] [4, 5, 6])
    (.ret))
    (.skip)))
  (.seq (.reg [⟨0, some 80, none, .k (.load 3 true (.t 4))⟩, ⟨1, some 81, none, .k (.mov (.t 5))⟩, ⟨2, none, none, .k (.store 3 (.t 4) (.t 80))⟩, ⟨3, some 5, none, .k (.mov (.t 81))⟩, ⟨4, some 6, none, .k (.mov (.c (.int .i64 0)))⟩] [4, 5, 6])
  (.ret))
def m121k5 : MC :=
  .seq (.seq (.reg [⟨0, some 72, none, .k (.mov (.t 6))⟩, ⟨1, some 73, none, .k (.bin .eql (.t 72) (.c (.int .i64 0)))⟩] [4, 5, 6, 73])
  (.cond (.t 73)
    (.reg [⟨0, some 74, none, .k (.load 3 true (.t 4))⟩, ⟨1, some 75, none, .call (.f 32) [.t 74]⟩, ⟨2, some 6, none, .k (.mov (.t 75))⟩] [4, 5, 6])
    (.skip)))
  (.named [4, 5, 6] m121k4)
def m121k6 : MC :=
  .seq (.seq (.reg [⟨0, some 16, none, .k (.mov (.t 1))⟩, ⟨1, some 17, none, .k (.mov (.t 0))⟩, ⟨2, some 18, none, .k (.len false (.t 17))⟩, ⟨3, some 19, none, .k (.bin .eql (.t 16) (.t 18))⟩] [0, 1, 4, 6, 19])
  (.cond (.t 19)
    (.seq (.reg [⟨0, some 20, none, .k (.load 3 true (.t 4))⟩, ⟨1, none, none, .k (.store 3 (.t 4) (.t 20))⟩, ⟨2, some 5, none, .k (.mov (.c (.int .i64 0)))⟩, ⟨3, some 6, none, .k (.mov (.c (.int .i64 41)))⟩] [4, 5, 6])
    (.ret))
    (.skip)))
  (.seq (.reg [⟨0, some 21, none, .k (.mov (.t 0))⟩, ⟨1, some 22, none, .k (.mov (.t 1))⟩, ⟨2, some 23, none, .k (.iadr 1 (.t 21) (.t 22))⟩, ⟨3, some 24, none, .k (.load 1 false (.t 23))⟩, ⟨4, some 25, none, .k (.conv .i64 (.t 24))⟩, ⟨5, some 26, none, .k (.fadr 0 (.t 4))⟩, ⟨6, none, none, .k (.store 1 (.t 26) (.t 25))⟩] [0, 1, 4, 6])
  (.seq (.reg [⟨0, some 27, none, .k (.mov (.t 1))⟩, ⟨1, some 28, none, .k (.bin .add (.t 27) (.c (.int .i64 1)))⟩, ⟨2, some 5, none, .k (.mov (.t 28))⟩] [0, 4, 5, 6])
  (.seq (.seq (.reg [⟨0, some 29, none, .k (.fadr 0 (.t 4))⟩, ⟨1, some 30, none, .k (.load 1 false (.t 29))⟩] [0, 4, 5, 6, 30])
  (.block 0
    (.seq (.reg [⟨0, some 32, none, .k (.bin .eql (.t 30) (.c (.int .i64 0)))⟩, ⟨1, some 31, none, .k (.mov (.t 32))⟩] [0, 4, 5, 6, 30, 31])
    (.cond (.t 31)
      (.skip)
      (.seq (.reg [⟨0, some 34, none, .k (.bin .eql (.t 30) (.c (.int .i64 1)))⟩, ⟨1, some 33, none, .k (.mov (.t 34))⟩] [0, 4, 5, 6, 30, 33])
      (.cond (.t 33)
        (.seq (.seq (.reg [⟨0, some 35, none, .k (.mov (.t 5))⟩, ⟨1, some 36, none, .k (.mov (.t 0))⟩, ⟨2, some 37, none, .k (.len false (.t 36))⟩, ⟨3, some 38, none, .k (.bin .eql (.t 35) (.t 37))⟩] [0, 4, 5, 6, 38])
        (.cond (.t 38)
          (.reg [⟨0, some 6, none, .k (.mov (.c (.int .i64 41)))⟩] [4, 5, 6])
          (.seq (.reg [⟨0, some 39, none, .k (.mov (.t 0))⟩, ⟨1, some 40, none, .k (.mov (.t 5))⟩, ⟨2, some 41, none, .k (.iadr 1 (.t 39) (.t 40))⟩, ⟨3, some 42, none, .k (.load 1 false (.t 41))⟩, ⟨4, some 43, none, .k (.conv .i64 (.t 42))⟩, ⟨5, some 44, none, .k (.fadr 1 (.t 4))⟩, ⟨6, none, none, .k (.store 1 (.t 44) (.t 43))⟩] [4, 5, 6])
          (.seq (.reg [⟨0, some 45, none, .k (.fadr 1 (.t 4))⟩, ⟨1, some 46, none, .k (.load 1 false (.t 45))⟩, ⟨2, some 47, none, .k (.bin .gtr (.t 46) (.c (.int .i64 1)))⟩] [4, 5, 6, 47])
          (.cond (.t 47)
            (.reg [⟨0, some 6, none, .k (.mov (.c (.int .i64 3)))⟩] [4, 5, 6])
            (.skip))))))
        (.named [4, 5, 6] m121k1))
        (.seq (.seq (.reg [⟨0, some 51, none, .k (.bin .eql (.t 30) (.c (.int .i64 2)))⟩, ⟨1, some 50, none, .k (.mov (.t 51))⟩] [0, 4, 5, 30, 50])
        (.cond (.t 50)
          (.skip)
          (.reg [⟨0, some 52, none, .k (.bin .eql (.t 30) (.c (.int .i64 3)))⟩, ⟨1, some 50, none, .k (.mov (.t 52))⟩] [0, 4, 5, 30, 50])))
        (.named [0, 4, 5, 30, 50] m121k3))))))))
  (.named [4, 5, 6] m121k5))))
def m121 : MC :=
  .seq (.reg [⟨0, some 4, none, .k (.alloc [.int .i64 0, .int .i64 0, .str []])⟩, ⟨1, some 5, none, .k (.mov (.c (.int .i64 0)))⟩, ⟨2, some 6, none, .k (.mov (.c (.int .i64 0)))⟩] [0, 1, 4, 6])
  (.seq (.seq (.reg [⟨0, some 7, none, .k (.mov (.t 1))⟩, ⟨1, some 8, none, .k (.bin .lss (.t 7) (.c (.int .i64 0)))⟩, ⟨2, some 9, none, .k (.mov (.t 8))⟩, ⟨3, some 10, (some (9, false)), .k (.mov (.t 1))⟩, ⟨4, some 11, (some (9, false)), .k (.mov (.t 0))⟩, ⟨5, some 12, (some (9, false)), .k (.len false (.t 11))⟩, ⟨6, some 13, (some (9, false)), .k (.bin .gtr (.t 10) (.t 12))⟩, ⟨7, some 14, none, .k (.pick (.t 9) (.c (.bool true)) (.t 13))⟩] [0, 1, 4, 6, 14])
  (.named [0, 1, 4, 6, 14] m121k0))
  (.named [0, 1, 4, 6] m121k6))
theorem is121 : FnIs Tryz.prog 121 82 m121 [.c 4 3 true, .t 5, .t 6] := .of Tryz.call121 Tryz.func121 (by kernel_rfl)
def m122l0 : MC :=
  .seq (.reg [⟨0, some 15, none, .k (.bin .lss (.t 14) (.t 13))⟩] [5, 6, 12, 13, 14, 15])
  (.seq (.cond (.t 15)
    (.skip)
    (.exit 0))
  (.seq (.block 1
    (.seq (.reg [⟨0, some 16, none, .k (.iadr 1 (.t 12) (.t 14))⟩, ⟨1, some 17, none, .k (.load 1 false (.t 16))⟩, ⟨2, some 8, none, .k (.mov (.t 17))⟩] [5, 6, 8, 12, 13, 14])
    (.reg [⟨0, some 18, none, .k (.mov (.t 6))⟩, ⟨1, some 19, none, .k (.bin .shr (.t 18) (.c (.int .u64 8)))⟩, ⟨2, some 20, none, .k (.mov (.t 6))⟩, ⟨3, some 21, none, .k (.conv .u8 (.t 20))⟩, ⟨4, some 22, none, .k (.mov (.t 8))⟩, ⟨5, some 23, none, .k (.bin .xor (.t 21) (.t 22))⟩, ⟨6, some 24, none, .k (.iadrA 1 256 (.t 5) (.t 23))⟩, ⟨7, some 25, none, .k (.load 1 false (.t 24))⟩, ⟨8, some 26, none, .k (.bin .xor (.t 19) (.t 25))⟩, ⟨9, some 6, none, .k (.mov (.t 26))⟩] [5, 6, 12, 13, 14])))
  (.reg [⟨0, some 27, none, .k (.bin .add (.t 14) (.c (.int .i64 1)))⟩, ⟨1, some 14, none, .k (.mov (.t 27))⟩] [5, 6, 12, 13, 14])))
def m122k0 : MC :=
  .seq (.reg [⟨0, some 28, none, .k (.mov (.t 6))⟩, ⟨1, some 29, none, .k (.un .xor (.t 28))⟩, ⟨2, some 4, none, .k (.mov (.t 29))⟩] [4])
  (.ret)
def m122 : MC :=
  .seq (.reg [⟨0, some 4, none, .k (.mov (.c (.int .u32 0)))⟩] [0, 1])
  (.seq (.reg [⟨0, some 9, none, .call (.f 176) []⟩, ⟨1, some 5, none, .k (.alloc [.int .u32 0, .int .u32 0, .int .u32 0, .int .u32 0, .int .u32 0, .int .u32 0, .int .u32 0, .int .u32 0, .int .u32 0, .int .u32 0, .int .u32 0, .int .u32 0, .int .u32 0, .int .u32 0, .int .u32 0, .int .u32 0, .int .u32 0, .int .u32 0, .int .u32 0, .int .u32 0, .int .u32 0, .int .u32 0, .int .u32 0, .int .u32 0, .int .u32 0, .int .u32 0, .int .u32 0, .int .u32 0, .int .u32 0, .int .u32 0, .int .u32 0, .int .u32 0, .int .u32 0, .int .u32 0, .int .u32 0, .int .u32 0, .int .u32 0, .int .u32 0, .int .u32 0, .int .u32 0, .int .u32 0, .int .u32 0, .int .u32 0, .int .u32 0, .int .u32 0, .int .u32 0, .int .u32 0, .int .u32 0, .int .u32 0, .int .u32 0, .int .u32 0, .int .u32 0, .int .u32 0, .int .u32 0, .int .u32 0, .int .u32 0, .int .u32 0, .int .u32 0, .int .u32 0, .int .u32 0, .int .u32 0, .int .u32 0, .int .u32 0, .int .u32 0, .int .u32 0, .int .u32 0, .int .u32 0, .int .u32 0, .int .u32 0, .int .u32 0, .int .u32 0, .int .u32 0, .int .u32 0, .int .u32 0, .int .u32 0, .int .u32 0, .int .u32 0, .int .u32 0, .int .u32 0, .int .u32 0, .int .u32 0, .int .u32 0, .int .u32 0, .int .u32 0, .int .u32 0, .int .u32 0, .int .u32 0, .int .u32 0, .int .u32 0, .int .u32 0, .int .u32 0, .int .u32 0, .int .u32 0, .int .u32 0, .int .u32 0, .int .u32 0, .int .u32 0, .int .u32 0, .int .u32 0, .int .u32 0, .int .u32 0, .int .u32 0, .int .u32 0, .int .u32 0, .int .u32 0, .int .u32 0, .int .u32 0, .int .u32 0, .int .u32 0, .int .u32 0, .int .u32 0, .int .u32 0, .int .u32 0, .int .u32 0, .int .u32 0, .int .u32 0, .int .u32 0, .int .u32 0, .int .u32 0, .int .u32 0, .int .u32 0, .int .u32 0, .int .u32 0, .int .u32 0, .int .u32 0, .int .u32 0, .int .u32 0, .int .u32 0, .int .u32 0, .int .u32 0, .int .u32 0, .int .u32 0, .int .u32 0, .int .u32 0, .int .u32 0, .int .u32 0, .int .u32 0, .int .u32 0, .int .u32 0, .int .u32 0, .int .u32 0, .int .u32 0, .int .u32 0, .int .u32 0, .int .u32 0, .int .u32 0, .int .u32 0, .int .u32 0, .int .u32 0, .int .u32 0, .int .u32 0, .int .u32 0, .int .u32 0, .int .u32 0, .int .u32 0, .int .u32 0, .int .u32 0, .int .u32 0, .int .u32 0, .int .u32 0, .int .u32 0, .int .u32 0, .int .u32 0, .int .u32 0, .int .u32 0, .int .u32 0, .int .u32 0, .int .u32 0, .int .u32 0, .int .u32 0, .int .u32 0, .int .u32 0, .int .u32 0, .int .u32 0, .int .u32 0, .int .u32 0, .int .u32 0, .int .u32 0, .int .u32 0, .int .u32 0, .int .u32 0, .int .u32 0, .int .u32 0, .int .u32 0, .int .u32 0, .int .u32 0, .int .u32 0, .int .u32 0, .int .u32 0, .int .u32 0, .int .u32 0, .int .u32 0, .int .u32 0, .int .u32 0, .int .u32 0, .int .u32 0, .int .u32 0, .int .u32 0, .int .u32 0, .int .u32 0, .int .u32 0, .int .u32 0, .int .u32 0, .int .u32 0, .int .u32 0, .int .u32 0, .int .u32 0, .int .u32 0, .int .u32 0, .int .u32 0, .int .u32 0, .int .u32 0, .int .u32 0, .int .u32 0, .int .u32 0, .int .u32 0, .int .u32 0, .int .u32 0, .int .u32 0, .int .u32 0, .int .u32 0, .int .u32 0, .int .u32 0, .int .u32 0, .int .u32 0, .int .u32 0, .int .u32 0, .int .u32 0, .int .u32 0, .int .u32 0, .int .u32 0, .int .u32 0, .int .u32 0, .int .u32 0, .int .u32 0, .int .u32 0, .int .u32 0, .int .u32 0, .int .u32 0, .int .u32 0, .int .u32 0, .int .u32 0, .int .u32 0, .int .u32 0, .int .u32 0, .int .u32 0, .int .u32 0, .int .u32 0, .int .u32 0, .int .u32 0, .int .u32 0, .int .u32 0, .int .u32 0, .int .u32 0, .int .u32 0, .int .u32 0])⟩, ⟨2, none, none, .k (.store 256 (.t 5) (.t 9))⟩] [0, 1, 5])
  (.seq (.reg [⟨0, some 10, none, .k (.mov (.t 0))⟩, ⟨1, some 11, none, .k (.un .xor (.t 10))⟩, ⟨2, some 6, none, .k (.mov (.t 11))⟩] [1, 5, 6])
  (.seq (.seq (.reg [⟨0, some 12, none, .k (.mov (.t 1))⟩, ⟨1, some 13, none, .k (.len false (.t 12))⟩, ⟨2, some 14, none, .k (.mov (.c (.int .i64 0)))⟩] [5, 6, 12, 13, 14])
  (.block 0
    (.loop m122l0)))
  (.named [6] m122k0))))
theorem is122 : FnIs Tryz.prog 122 30 m122 [.t 4] := .of Tryz.call122 Tryz.func122 (by kernel_rfl)
def m123k0 : MC :=
  .cond (.t 25)
    (.ret)
    (.skip)
def m123k1 : MC :=
  .reg [⟨0, some 26, none, .k (.bin .add (.t 9) (.c (.int .i64 1)))⟩, ⟨1, some 9, none, .k (.mov (.t 26))⟩] [0, 1, 7, 8, 9]
def m123l0 : MC :=
  .seq (.reg [⟨0, some 10, none, .k (.bin .lss (.t 9) (.t 8))⟩] [0, 1, 7, 8, 9, 10])
  (.seq (.cond (.t 10)
    (.skip)
    (.exit 0))
  (.seq (.block 1
    (.seq (.reg [⟨0, some 11, none, .k (.iadr 3 (.t 7) (.t 9))⟩, ⟨1, some 12, none, .k (.load 3 true (.t 11))⟩, ⟨2, some 4, none, .k (.alloc [.str [], .int .i64 0, .int .i64 0])⟩, ⟨3, none, none, .k (.store 3 (.t 4) (.t 12))⟩] [0, 1, 4, 7, 8, 9])
    (.seq (.any (.one ⟨0, some 13, none, .k (.fadr 3 (.t 1))⟩ false false <|
        .one ⟨1, some 14, none, .k (.load 1 false (.t 13))⟩ true false <|
        .one ⟨2, some 15, none, .k (.load 3 true (.t 4))⟩ true false <|
        .one ⟨4, some 17, none, .k (.fadr 4 (.t 1))⟩ false false <|
        .one ⟨5, some 18, none, .k (.load 1 false (.t 17))⟩ true false <|
        .one ⟨3, some 16, none, .call (.f 126) [.c (.sl 1 [] .exact), .t 15]⟩ false true <|
        .one ⟨6, some 19, none, .call (.f 125) [.t 14, .t 16, .t 18]⟩ false true <|
        .one ⟨7, some 20, none, .k (.mov (.t 19))⟩ false false <|
        .one ⟨8, some 21, (some (20, true)), .k (.mov (.t 0))⟩ false false <|
        .one ⟨9, some 22, (some (20, true)), .k (.load 3 true (.t 4))⟩ false false <|
        .one ⟨10, some 23, (some (20, true)), .call (.t 21) [.t 22]⟩ false true <|
        .one ⟨11, some 24, (some (20, true)), .k (.un .not (.t 23))⟩ false false <|
        .one ⟨12, some 25, none, .k (.pick (.t 20) (.t 24) (.c (.bool false)))⟩ false false <|
        .done) [1, 4] [0, 1, 7, 8, 9, 25])
    (.named [0, 1, 7, 8, 9, 25] m123k0))))
  (.named [0, 1, 7, 8, 9] m123k1)))
def m123 : MC :=
  .seq (.reg [⟨0, some 5, none, .k (.fadr 2 (.t 1))⟩, ⟨1, some 6, none, .k (.load 1 false (.t 5))⟩, ⟨2, some 7, none, .call (.f 124) [.t 6]⟩, ⟨3, some 8, none, .k (.len false (.t 7))⟩, ⟨4, some 9, none, .k (.mov (.c (.int .i64 0)))⟩] [0, 1, 7, 8, 9])
  (.block 0
    (.loop m123l0))
theorem is123 : FnIs Tryz.prog 123 27 m123 [] := .of Tryz.call123 Tryz.func123 (by kernel_rfl)
def m124 : MC :=
  .seq (.reg [⟨0, some 2, none, .k (.mov (.c (.sl 3 [] .exact)))⟩] [0])
  (.seq (.reg [⟨0, some 3, none, .k (.mov (.t 0))⟩, ⟨1, some 4, none, .call (.f 177) [.t 3]⟩, ⟨2, some 2, none, .k (.mov (.t 4))⟩] [2])
  (.seq (.reg [⟨0, some 5, none, .k (.mov (.t 2))⟩, ⟨1, some 6, none, .call (.f 178) [.t 5, .f 179]⟩] [2])
  (.seq (.reg [⟨0, some 7, none, .k (.mov (.t 2))⟩, ⟨1, some 8, none, .call (.f 180) [.t 7]⟩, ⟨2, some 2, none, .k (.mov (.t 8))⟩] [2])
  (.ret))))
theorem is124 : FnIs Tryz.prog 124 9 m124 [.t 2] := .of Tryz.call124 Tryz.func124 (by kernel_rfl)
def m152 : MC :=
  .seq (.reg [⟨0, some 2, none, .k (.mov (.c (.bool false)))⟩] [0])
  (.seq (.reg [⟨0, some 3, none, .k (.mov (.t 0))⟩, ⟨1, some 4, none, .k (.bin .geq (.t 3) (.c (.int .i64 0)))⟩, ⟨2, some 5, none, .k (.mov (.t 4))⟩, ⟨3, some 6, (some (5, true)), .k (.mov (.t 0))⟩, ⟨4, some 7, (some (5, true)), .k (.bin .leq (.t 6) (.c (.int .i64 1099511627776)))⟩, ⟨5, some 8, none, .k (.pick (.t 5) (.t 7) (.c (.bool false)))⟩, ⟨6, some 2, none, .k (.mov (.t 8))⟩] [2])
  (.ret))
theorem is152 : FnIs Tryz.prog 152 9 m152 [.t 2] := .of Tryz.call152 Tryz.func152 (by kernel_rfl)
def m153 : MC :=
  .seq (.reg [⟨0, some 4, none, .k (.mov (.c (.bool false)))⟩] [0, 1])
  (.seq (.reg [⟨0, some 5, none, .k (.mov (.t 0))⟩, ⟨1, some 6, none, .k (.mov (.t 1))⟩, ⟨2, some 7, none, .call (.f 193) [.t 5, .t 6]⟩, ⟨3, some 8, none, .k (.bin .geq (.t 7) (.c (.int .i64 0)))⟩, ⟨4, some 4, none, .k (.mov (.t 8))⟩] [4])
  (.ret))
theorem is153 : FnIs Tryz.prog 153 9 m153 [.t 4] := .of Tryz.call153 Tryz.func153 (by kernel_rfl)
end Go.Proofs.YtdjdhecanjmchaaGreatDoor
