/- The functions of the seat in the small language (printed by a program), and that each is the program's. -/
import Derived.Test.YtdjdhecanjmchaaGreatDoorProg
import Derived.Test.YtdjdhecanjmchaaGreatDoorVpB
import Derived.KernelRfl
set_option linter.unusedSimpArgs false
set_option linter.unusedVariables false
namespace Go.Proofs.YtdjdhecanjmchaaGreatDoor
open Go Go.V
def m11k0 : MC :=
  .cond (.t 40)
    (.seq (.reg [⟨0, some 0, none, .k (.mov (.c (.bool false)))⟩] [0])
    (.ret))
    (.skip)
def m11k1 : MC :=
  .cond (.t 75)
    (.seq (.reg [⟨0, some 0, none, .k (.mov (.c (.bool false)))⟩] [0])
    (.ret))
    (.skip)
def m11k2 : MC :=
  .seq (.reg [⟨0, some 77, none, .k (.mov (.t 4))⟩, ⟨1, some 78, none, .call (.f 24) [.t 77]⟩, ⟨2, some 76, none, .k (.mov (.t 78))⟩, ⟨3, some 79, none, .k (.ext (.t 76) 0)⟩, ⟨4, some 80, none, .k (.ext (.t 76) 1)⟩, ⟨5, some 12, none, .k (.alloc [.str [], .sl 1 [] .exact, .sl 4 [] .exact])⟩, ⟨6, none, none, .k (.store 3 (.t 12) (.t 79))⟩, ⟨7, some 13, none, .k (.mov (.t 80))⟩] [1, 4, 12, 13])
  (.seq (.reg [⟨0, some 82, none, .k (.mov (.t 4))⟩, ⟨1, some 83, none, .k (.mov (.t 4))⟩, ⟨2, some 84, none, .k (.len false (.t 83))⟩, ⟨3, some 85, none, .k (.bin .sub (.t 84) (.c (.int .i64 1)))⟩, ⟨4, some 86, none, .k (.slV 1 (.t 82) none (some (.t 85)) none)⟩, ⟨5, some 87, none, .call (.f 24) [.t 86]⟩, ⟨6, some 81, none, .k (.mov (.t 87))⟩, ⟨7, some 88, none, .k (.ext (.t 81) 0)⟩, ⟨8, some 89, none, .k (.ext (.t 81) 1)⟩, ⟨9, some 14, none, .k (.alloc [.str [], .sl 1 [] .exact, .sl 4 [] .exact])⟩, ⟨10, none, none, .k (.store 3 (.t 14) (.t 88))⟩, ⟨11, some 15, none, .k (.mov (.t 89))⟩] [1, 12, 13, 15])
  (.seq (.any (.one ⟨0, some 91, none, .k (.load 3 true (.t 1))⟩ true false <|
      .one ⟨1, some 92, none, .call (.f 35) [.c (.int .i64 8)]⟩ false true <|
      .one ⟨2, some 93, none, .call (.f 17) [.t 91, .t 92]⟩ false false <|
      .one ⟨3, some 90, none, .k (.mov (.t 93))⟩ false false <|
      .one ⟨4, some 94, none, .k (.ext (.t 90) 0)⟩ false false <|
      .one ⟨5, some 95, none, .k (.ext (.t 90) 1)⟩ false false <|
      .one ⟨6, some 16, none, .k (.mov (.t 94))⟩ false false <|
      .one ⟨7, some 17, none, .k (.mov (.t 95))⟩ false false <|
      .done) [1] [1, 12, 13, 15, 16, 17])
  (.seq (.reg [⟨0, some 97, none, .k (.mkSl 1 [.str []] [.c (.str [97])])⟩, ⟨1, some 98, none, .k (.build [.str [], .sl 1 [] .exact, .sl 3 [] .exact, .int .i64 0, .int .i64 0] [(0, 1, .c (.str [117, 115, 101, 114])), (1, 1, .t 97)])⟩, ⟨2, some 99, none, .call (.f 14) [.t 98, .c (.sl 4 [] .exact)]⟩, ⟨3, some 96, none, .k (.mov (.t 99))⟩, ⟨4, some 100, none, .k (.ext (.t 96) 0)⟩, ⟨5, some 101, none, .k (.ext (.t 96) 1)⟩, ⟨6, some 18, none, .k (.alloc [.str [], .sl 1 [] .exact, .sl 4 [] .exact])⟩, ⟨7, none, none, .k (.store 3 (.t 18) (.t 100))⟩, ⟨8, some 19, none, .k (.mov (.t 101))⟩] [1, 12, 13, 15, 16, 17, 18, 19])
  (.seq (.reg [⟨0, some 102, none, .k (.load 3 true (.t 12))⟩, ⟨1, some 103, none, .k (.load 3 true (.t 1))⟩, ⟨2, some 104, none, .call (.f 16) [.t 102, .t 103]⟩, ⟨3, some 105, none, .k (.mov (.t 104))⟩, ⟨4, some 106, (some (105, true)), .k (.mov (.t 13))⟩, ⟨5, some 107, (some (105, true)), .k (.bin .eql (.t 106) (.c (.int .i64 0)))⟩, ⟨6, some 108, none, .k (.pick (.t 105) (.t 107) (.c (.bool false)))⟩, ⟨7, some 109, none, .k (.mov (.t 108))⟩, ⟨8, some 110, (some (109, true)), .k (.mov (.t 15))⟩, ⟨9, some 111, (some (109, true)), .k (.bin .eql (.t 110) (.c (.int .i64 41)))⟩, ⟨10, some 112, none, .k (.pick (.t 109) (.t 111) (.c (.bool false)))⟩, ⟨11, some 113, none, .k (.mov (.t 112))⟩, ⟨12, some 114, (some (113, true)), .k (.mov (.t 16))⟩, ⟨13, some 115, (some (113, true)), .k (.len false (.t 114))⟩, ⟨14, some 116, (some (113, true)), .k (.bin .eql (.t 115) (.c (.int .i64 1)))⟩, ⟨15, some 117, none, .k (.pick (.t 113) (.t 116) (.c (.bool false)))⟩, ⟨16, some 118, none, .k (.mov (.t 117))⟩, ⟨17, some 119, (some (118, true)), .k (.mov (.t 16))⟩, ⟨18, some 120, (some (118, true)), .k (.iadr 1 (.t 119) (.c (.int .i64 0)))⟩, ⟨19, some 121, (some (118, true)), .k (.load 1 false (.t 120))⟩, ⟨20, some 122, (some (118, true)), .k (.bin .eql (.t 121) (.c (.int .i64 0)))⟩, ⟨21, some 123, none, .k (.pick (.t 118) (.t 122) (.c (.bool false)))⟩, ⟨22, some 124, none, .k (.mov (.t 123))⟩, ⟨23, some 125, (some (124, true)), .k (.mov (.t 17))⟩, ⟨24, some 126, (some (124, true)), .k (.bin .eql (.t 125) (.c (.int .i64 0)))⟩, ⟨25, some 127, none, .k (.pick (.t 124) (.t 126) (.c (.bool false)))⟩, ⟨26, some 128, none, .k (.mov (.t 127))⟩, ⟨27, some 129, (some (128, true)), .k (.mov (.t 19))⟩, ⟨28, some 130, (some (128, true)), .k (.bin .eql (.t 129) (.c (.int .i64 0)))⟩, ⟨29, some 131, none, .k (.pick (.t 128) (.t 130) (.c (.bool false)))⟩, ⟨30, some 132, none, .k (.mov (.t 131))⟩, ⟨31, some 133, (some (132, true)), .k (.fadr 0 (.t 18))⟩, ⟨32, some 134, (some (132, true)), .k (.load 1 false (.t 133))⟩, ⟨33, some 135, (some (132, true)), .k (.bin .eql (.t 134) (.c (.str [117, 115, 101, 114])))⟩, ⟨34, some 136, none, .k (.pick (.t 132) (.t 135) (.c (.bool false)))⟩, ⟨35, some 137, none, .k (.mov (.t 136))⟩, ⟨36, some 138, (some (137, true)), .k (.fadr 2 (.t 18))⟩, ⟨37, some 139, (some (137, true)), .k (.load 1 false (.t 138))⟩, ⟨38, some 140, (some (137, true)), .k (.len false (.t 139))⟩, ⟨39, some 141, (some (137, true)), .k (.bin .eql (.t 140) (.c (.int .i64 0)))⟩, ⟨40, some 142, none, .k (.pick (.t 137) (.t 141) (.c (.bool false)))⟩, ⟨41, some 0, none, .k (.mov (.t 142))⟩] [0])
  (.ret)))))
def m11k3 : MC :=
  .seq (.reg [⟨0, some 42, none, .k (.mov (.t 4))⟩, ⟨1, some 43, none, .call (.f 25) [.t 42, .c (.int .i64 0)]⟩, ⟨2, some 41, none, .k (.mov (.t 43))⟩, ⟨3, some 44, none, .k (.ext (.t 41) 0)⟩, ⟨4, some 45, none, .k (.ext (.t 41) 1)⟩, ⟨5, some 46, none, .k (.ext (.t 41) 2)⟩, ⟨6, some 6, none, .k (.mov (.t 44))⟩, ⟨7, some 7, none, .k (.mov (.t 45))⟩, ⟨8, some 8, none, .k (.mov (.t 46))⟩] [1, 4, 6, 7, 8])
  (.seq (.reg [⟨0, some 48, none, .k (.mov (.t 4))⟩, ⟨1, some 49, none, .k (.mov (.t 7))⟩, ⟨2, some 50, none, .call (.f 25) [.t 48, .t 49]⟩, ⟨3, some 47, none, .k (.mov (.t 50))⟩, ⟨4, some 51, none, .k (.ext (.t 47) 0)⟩, ⟨5, some 52, none, .k (.ext (.t 47) 1)⟩, ⟨6, some 53, none, .k (.ext (.t 47) 2)⟩, ⟨7, some 9, none, .k (.mov (.t 51))⟩, ⟨8, some 10, none, .k (.mov (.t 52))⟩, ⟨9, some 11, none, .k (.mov (.t 53))⟩] [1, 4, 6, 8, 9, 10, 11])
  (.seq (.seq (.reg [⟨0, some 54, none, .k (.mov (.t 6))⟩, ⟨1, some 55, none, .k (.b2s (.t 54))⟩, ⟨2, some 56, none, .k (.bin .neq (.t 55) (.c (.str [4, 117, 115, 101, 114, 2, 1, 97, 1, 98, 1])))⟩, ⟨3, some 57, none, .k (.mov (.t 56))⟩, ⟨4, some 58, (some (57, false)), .k (.mov (.t 9))⟩, ⟨5, some 59, (some (57, false)), .k (.b2s (.t 58))⟩, ⟨6, some 60, (some (57, false)), .k (.bin .neq (.t 59) (.c (.str [1, 117, 10, 18, 2, 14, 0])))⟩, ⟨7, some 61, none, .k (.pick (.t 57) (.c (.bool true)) (.t 60))⟩, ⟨8, some 62, none, .k (.mov (.t 61))⟩, ⟨9, some 63, (some (62, false)), .k (.mov (.t 8))⟩, ⟨10, some 64, (some (62, false)), .k (.bin .neq (.t 63) (.c (.int .i64 0)))⟩, ⟨11, some 65, none, .k (.pick (.t 62) (.c (.bool true)) (.t 64))⟩, ⟨12, some 66, none, .k (.mov (.t 65))⟩, ⟨13, some 67, (some (66, false)), .k (.mov (.t 11))⟩, ⟨14, some 68, (some (66, false)), .k (.bin .neq (.t 67) (.c (.int .i64 0)))⟩, ⟨15, some 69, none, .k (.pick (.t 66) (.c (.bool true)) (.t 68))⟩, ⟨16, some 70, none, .k (.mov (.t 69))⟩, ⟨17, some 71, (some (70, false)), .k (.mov (.t 10))⟩, ⟨18, some 72, (some (70, false)), .k (.mov (.t 4))⟩, ⟨19, some 73, (some (70, false)), .k (.len false (.t 72))⟩, ⟨20, some 74, (some (70, false)), .k (.bin .neq (.t 71) (.t 73))⟩, ⟨21, some 75, none, .k (.pick (.t 70) (.c (.bool true)) (.t 74))⟩] [1, 4, 75])
  (.named [1, 4, 75] m11k1))
  (.named [1, 4] m11k2)))
def m11 : MC :=
  .seq (.reg [⟨0, some 0, none, .k (.mov (.c (.bool false)))⟩] [])
  (.seq (.reg [⟨0, some 20, none, .call (.f 35) [.c (.int .i64 7)]⟩, ⟨1, some 1, none, .k (.alloc [.str [], .sl 1 [] .exact, .sl 4 [] .exact])⟩, ⟨2, none, none, .k (.store 3 (.t 1) (.t 20))⟩] [1])
  (.seq (.reg [⟨0, some 22, none, .k (.load 3 true (.t 1))⟩, ⟨1, some 23, none, .call (.f 19) [.t 22]⟩, ⟨2, some 21, none, .k (.mov (.t 23))⟩, ⟨3, some 24, none, .k (.ext (.t 21) 0)⟩, ⟨4, some 25, none, .k (.ext (.t 21) 1)⟩, ⟨5, some 2, none, .k (.mov (.t 24))⟩, ⟨6, some 3, none, .k (.mov (.t 25))⟩] [1, 2, 3])
  (.seq (.reg [⟨0, some 27, none, .k (.load 3 true (.t 1))⟩, ⟨1, some 28, none, .call (.f 23) [.t 27]⟩, ⟨2, some 26, none, .k (.mov (.t 28))⟩, ⟨3, some 29, none, .k (.ext (.t 26) 0)⟩, ⟨4, some 30, none, .k (.ext (.t 26) 1)⟩, ⟨5, some 4, none, .k (.mov (.t 29))⟩, ⟨6, some 5, none, .k (.mov (.t 30))⟩] [1, 2, 3, 4, 5])
  (.seq (.seq (.reg [⟨0, some 31, none, .k (.mov (.t 2))⟩, ⟨1, some 32, none, .k (.bin .neq (.t 31) (.c (.str [117, 115, 101, 114, 9, 101, 118, 101, 110, 116, 9, 107, 110, 111, 119, 9, 97, 9, 98, 10, 117, 9, 53, 9, 57, 9, 55, 9, 110, 117, 108, 108, 10])))⟩, ⟨2, some 33, none, .k (.mov (.t 32))⟩, ⟨3, some 34, (some (33, false)), .k (.mov (.t 3))⟩, ⟨4, some 35, (some (33, false)), .k (.bin .neq (.t 34) (.c (.int .i64 0)))⟩, ⟨5, some 36, none, .k (.pick (.t 33) (.c (.bool true)) (.t 35))⟩, ⟨6, some 37, none, .k (.mov (.t 36))⟩, ⟨7, some 38, (some (37, false)), .k (.mov (.t 5))⟩, ⟨8, some 39, (some (37, false)), .k (.bin .neq (.t 38) (.c (.int .i64 0)))⟩, ⟨9, some 40, none, .k (.pick (.t 37) (.c (.bool true)) (.t 39))⟩] [1, 4, 40])
  (.named [1, 4, 40] m11k0))
  (.named [1, 4] m11k3)))))
theorem is11 : FnIs Tryz.prog 11 143 m11 [.t 0] := .of Tryz.call11 Tryz.func11 (by kernel_rfl)
def m13k0 : MC :=
  .cond (.t 22)
    (.seq (.reg [⟨0, some 2, none, .k (.mov (.c (.bool false)))⟩] [2])
    (.ret))
    (.skip)
def m13l0 : MC :=
  .seq (.seq (.reg [⟨0, some 23, none, .k (.mov (.t 3))⟩, ⟨1, some 24, none, .k (.fadr 1 (.t 1))⟩, ⟨2, some 25, none, .k (.load 1 false (.t 24))⟩, ⟨3, some 26, none, .k (.len false (.t 25))⟩, ⟨4, some 27, none, .k (.bin .lss (.t 23) (.t 26))⟩] [1, 3, 27])
  (.cond (.t 27)
    (.skip)
    (.exit 0)))
  (.seq (.block 1
    (.seq (.reg [⟨0, some 30, none, .k (.fadr 1 (.t 1))⟩, ⟨1, some 31, none, .k (.load 1 false (.t 30))⟩, ⟨2, some 32, none, .k (.mov (.t 3))⟩, ⟨3, some 33, none, .k (.iadr 1 (.t 31) (.t 32))⟩, ⟨4, some 34, none, .k (.load 1 false (.t 33))⟩, ⟨5, some 35, none, .k (.len true (.t 34))⟩, ⟨6, some 36, none, .k (.bin .gtr (.t 35) (.c (.int .i64 100)))⟩] [1, 3, 36])
    (.cond (.t 36)
      (.seq (.reg [⟨0, some 2, none, .k (.mov (.c (.bool false)))⟩] [2])
      (.ret))
      (.skip))))
  (.reg [⟨0, some 28, none, .k (.mov (.t 3))⟩, ⟨1, some 29, none, .k (.bin .add (.t 28) (.c (.int .i64 1)))⟩, ⟨2, some 3, none, .k (.mov (.t 29))⟩] [1, 3]))
def m13k1 : MC :=
  .cond (.t 59)
    (.seq (.reg [⟨0, some 2, none, .k (.mov (.c (.bool false)))⟩] [2])
    (.ret))
    (.skip)
def m13l1 : MC :=
  .seq (.seq (.reg [⟨0, some 60, none, .k (.mov (.t 6))⟩, ⟨1, some 61, none, .k (.fadr 3 (.t 5))⟩, ⟨2, some 62, none, .k (.load 1 false (.t 61))⟩, ⟨3, some 63, none, .k (.len false (.t 62))⟩, ⟨4, some 64, none, .k (.bin .lss (.t 60) (.t 63))⟩] [1, 4, 5, 6, 64])
  (.cond (.t 64)
    (.skip)
    (.exit 4)))
  (.seq (.block 5
    (.seq (.reg [⟨0, some 67, none, .k (.fadr 3 (.t 5))⟩, ⟨1, some 68, none, .k (.load 1 false (.t 67))⟩, ⟨2, some 69, none, .k (.mov (.t 6))⟩, ⟨3, some 70, none, .k (.iadr 3 (.t 68) (.t 69))⟩, ⟨4, some 71, none, .k (.fadr 2 (.t 70))⟩, ⟨5, some 72, none, .k (.load 1 false (.t 71))⟩, ⟨6, some 73, none, .k (.len true (.t 72))⟩, ⟨7, some 74, none, .k (.bin .gtr (.t 73) (.c (.int .i64 200)))⟩] [1, 4, 5, 6, 74])
    (.cond (.t 74)
      (.seq (.reg [⟨0, some 2, none, .k (.mov (.c (.bool false)))⟩] [2])
      (.ret))
      (.skip))))
  (.reg [⟨0, some 65, none, .k (.mov (.t 6))⟩, ⟨1, some 66, none, .k (.bin .add (.t 65) (.c (.int .i64 1)))⟩, ⟨2, some 6, none, .k (.mov (.t 66))⟩] [1, 4, 5, 6]))
def m13k2 : MC :=
  .seq (.reg [⟨0, some 6, none, .k (.mov (.c (.int .i64 0)))⟩] [1, 4, 5, 6])
  (.block 4
    (.loop m13l1))
def m13k3 : MC :=
  .reg [⟨0, some 42, none, .k (.mov (.t 4))⟩, ⟨1, some 43, none, .k (.bin .add (.t 42) (.c (.int .i64 1)))⟩, ⟨2, some 4, none, .k (.mov (.t 43))⟩] [1, 4]
def m13l2 : MC :=
  .seq (.seq (.reg [⟨0, some 37, none, .k (.mov (.t 4))⟩, ⟨1, some 38, none, .k (.fadr 2 (.t 1))⟩, ⟨2, some 39, none, .k (.load 1 false (.t 38))⟩, ⟨3, some 40, none, .k (.len false (.t 39))⟩, ⟨4, some 41, none, .k (.bin .lss (.t 37) (.t 40))⟩] [1, 4, 41])
  (.cond (.t 41)
    (.skip)
    (.exit 2)))
  (.seq (.block 3
    (.seq (.reg [⟨0, some 44, none, .k (.fadr 2 (.t 1))⟩, ⟨1, some 45, none, .k (.load 1 false (.t 44))⟩, ⟨2, some 46, none, .k (.mov (.t 4))⟩, ⟨3, some 47, none, .k (.iadr 4 (.t 45) (.t 46))⟩, ⟨4, some 48, none, .k (.load 4 true (.t 47))⟩, ⟨5, some 5, none, .k (.alloc [.str [], .int .i64 0, .int .i64 0, .sl 3 [] .exact])⟩, ⟨6, none, none, .k (.store 4 (.t 5) (.t 48))⟩] [1, 4, 5])
    (.seq (.seq (.reg [⟨0, some 49, none, .k (.fadr 0 (.t 5))⟩, ⟨1, some 50, none, .k (.fadr 0 (.t 49))⟩, ⟨2, some 51, none, .k (.load 1 false (.t 50))⟩, ⟨3, some 52, none, .k (.len true (.t 51))⟩, ⟨4, some 53, none, .k (.bin .gtr (.t 52) (.c (.int .i64 100)))⟩, ⟨5, some 54, none, .k (.mov (.t 53))⟩, ⟨6, some 55, (some (54, false)), .k (.fadr 3 (.t 5))⟩, ⟨7, some 56, (some (54, false)), .k (.load 1 false (.t 55))⟩, ⟨8, some 57, (some (54, false)), .k (.len false (.t 56))⟩, ⟨9, some 58, (some (54, false)), .k (.bin .gtr (.t 57) (.c (.int .i64 20)))⟩, ⟨10, some 59, none, .k (.pick (.t 54) (.c (.bool true)) (.t 58))⟩] [1, 4, 5, 59])
    (.named [1, 4, 5, 59] m13k1))
    (.named [1, 4, 5] m13k2))))
  (.named [1, 4] m13k3))
def m13k4 : MC :=
  .seq (.reg [⟨0, some 2, none, .k (.mov (.c (.bool true)))⟩] [2])
  (.ret)
def m13k5 : MC :=
  .seq (.seq (.reg [⟨0, some 4, none, .k (.mov (.c (.int .i64 0)))⟩] [1, 4])
  (.block 2
    (.loop m13l2)))
  (.named [] m13k4)
def m13k6 : MC :=
  .seq (.seq (.reg [⟨0, some 3, none, .k (.mov (.c (.int .i64 0)))⟩] [1, 3])
  (.block 0
    (.loop m13l0)))
  (.named [1] m13k5)
def m13 : MC :=
  .seq (.reg [⟨0, some 1, none, .k (.box (.t 0))⟩, ⟨1, some 2, none, .k (.mov (.c (.bool false)))⟩] [1])
  (.seq (.seq (.reg [⟨0, some 7, none, .k (.fadr 0 (.t 1))⟩, ⟨1, some 8, none, .k (.load 1 false (.t 7))⟩, ⟨2, some 9, none, .k (.len true (.t 8))⟩, ⟨3, some 10, none, .k (.bin .gtr (.t 9) (.c (.int .i64 100)))⟩, ⟨4, some 11, none, .k (.mov (.t 10))⟩, ⟨5, some 12, (some (11, false)), .k (.fadr 1 (.t 1))⟩, ⟨6, some 13, (some (11, false)), .k (.load 1 false (.t 12))⟩, ⟨7, some 14, (some (11, false)), .k (.len false (.t 13))⟩, ⟨8, some 15, (some (11, false)), .k (.bin .gtr (.t 14) (.c (.int .i64 20)))⟩, ⟨9, some 16, none, .k (.pick (.t 11) (.c (.bool true)) (.t 15))⟩, ⟨10, some 17, none, .k (.mov (.t 16))⟩, ⟨11, some 18, (some (17, false)), .k (.fadr 2 (.t 1))⟩, ⟨12, some 19, (some (17, false)), .k (.load 1 false (.t 18))⟩, ⟨13, some 20, (some (17, false)), .k (.len false (.t 19))⟩, ⟨14, some 21, (some (17, false)), .k (.bin .gtr (.t 20) (.c (.int .i64 40)))⟩, ⟨15, some 22, none, .k (.pick (.t 17) (.c (.bool true)) (.t 21))⟩] [1, 22])
  (.named [1, 22] m13k0))
  (.named [1] m13k6))
theorem is13 : FnIs Tryz.prog 13 75 m13 [.t 2] := .of Tryz.call13 Tryz.func13 (by kernel_rfl)
def m14k0 : MC :=
  .cond (.t 27)
    (.seq (.reg [⟨0, some 28, none, .k (.build [.str [], .sl 1 [] .exact, .sl 4 [] .exact] [])⟩, ⟨1, none, none, .k (.store 3 (.t 4) (.t 28))⟩, ⟨2, some 5, none, .k (.mov (.c (.int .i64 1)))⟩] [4, 5])
    (.ret))
    (.skip)
def m14k1 : MC :=
  .seq (.reg [⟨0, some 29, none, .k (.load 3 true (.t 4))⟩, ⟨1, none, none, .k (.store 3 (.t 4) (.t 29))⟩, ⟨2, some 5, none, .k (.mov (.c (.int .i64 0)))⟩] [4, 5])
  (.ret)
def m14 : MC :=
  .seq (.reg [⟨0, some 2, none, .k (.box (.t 0))⟩, ⟨1, some 4, none, .k (.alloc [.str [], .sl 1 [] .exact, .sl 4 [] .exact])⟩, ⟨2, some 5, none, .k (.mov (.c (.int .i64 0)))⟩] [1, 2, 4])
  (.seq (.seq (.reg [⟨0, some 7, none, .k (.load 5 true (.t 2))⟩, ⟨1, some 8, none, .call (.f 36) [.t 7]⟩, ⟨2, some 9, none, .k (.bin .eql (.t 8) (.c (.str [])))⟩] [1, 2, 4, 9])
  (.cond (.t 9)
    (.seq (.reg [⟨0, some 10, none, .k (.load 3 true (.t 4))⟩, ⟨1, none, none, .k (.store 3 (.t 4) (.t 10))⟩, ⟨2, some 5, none, .k (.mov (.c (.int .i64 240)))⟩] [4, 5])
    (.ret))
    (.skip)))
  (.seq (.reg [⟨0, some 11, none, .k (.load 5 true (.t 2))⟩, ⟨1, some 12, none, .call (.f 26) [.t 11]⟩, ⟨2, some 6, none, .k (.mov (.t 12))⟩] [1, 2, 4, 6])
  (.seq (.reg [⟨0, some 13, none, .k (.fadr 0 (.t 2))⟩, ⟨1, some 14, none, .k (.load 1 false (.t 13))⟩, ⟨2, some 15, none, .k (.fadr 1 (.t 2))⟩, ⟨3, some 16, none, .k (.load 1 false (.t 15))⟩, ⟨4, some 17, none, .k (.mov (.t 1))⟩, ⟨5, some 18, none, .k (.build [.str [], .sl 1 [] .exact, .sl 4 [] .exact] [(0, 1, .t 14), (1, 1, .t 16), (2, 1, .t 17)])⟩, ⟨6, none, none, .k (.store 3 (.t 4) (.t 18))⟩] [1, 4, 6])
  (.seq (.seq (.reg [⟨0, some 19, none, .k (.load 3 true (.t 4))⟩, ⟨1, some 20, none, .call (.f 37) [.t 19]⟩, ⟨2, some 21, none, .k (.un .not (.t 20))⟩, ⟨3, some 22, none, .k (.mov (.t 21))⟩, ⟨4, some 23, (some (22, false)), .k (.mov (.t 1))⟩, ⟨5, some 24, (some (22, false)), .k (.mov (.t 6))⟩, ⟨6, some 25, (some (22, false)), .call (.f 38) [.t 23, .t 24, .f 39]⟩, ⟨7, some 26, (some (22, false)), .k (.un .not (.t 25))⟩, ⟨8, some 27, none, .k (.pick (.t 22) (.c (.bool true)) (.t 26))⟩] [4, 27])
  (.named [4, 27] m14k0))
  (.named [4] m14k1)))))
theorem is14 : FnIs Tryz.prog 14 30 m14 [.c 4 3 true, .t 5] := .of Tryz.call14 Tryz.func14 (by kernel_rfl)
def m16k0 : MC :=
  .cond (.t 19)
    (.seq (.reg [⟨0, some 4, none, .k (.mov (.c (.bool false)))⟩] [4])
    (.ret))
    (.skip)
def m16l0 : MC :=
  .seq (.seq (.reg [⟨0, some 20, none, .k (.mov (.t 5))⟩, ⟨1, some 21, none, .k (.fadr 1 (.t 2))⟩, ⟨2, some 22, none, .k (.load 1 false (.t 21))⟩, ⟨3, some 23, none, .k (.len false (.t 22))⟩, ⟨4, some 24, none, .k (.bin .lss (.t 20) (.t 23))⟩] [2, 3, 5, 24])
  (.cond (.t 24)
    (.skip)
    (.exit 0)))
  (.seq (.block 1
    (.seq (.any (.one ⟨0, some 27, none, .k (.fadr 1 (.t 2))⟩ false false <|
        .one ⟨1, some 28, none, .k (.load 1 false (.t 27))⟩ false false <|
        .one ⟨2, some 29, none, .k (.mov (.t 5))⟩ false false <|
        .one ⟨3, some 30, none, .k (.iadr 1 (.t 28) (.t 29))⟩ false false <|
        .one ⟨4, some 31, none, .k (.load 1 false (.t 30))⟩ false false <|
        .one ⟨5, some 32, none, .k (.fadr 1 (.t 3))⟩ false false <|
        .one ⟨6, some 33, none, .k (.load 1 false (.t 32))⟩ false false <|
        .one ⟨7, some 34, none, .k (.mov (.t 5))⟩ false false <|
        .one ⟨8, some 35, none, .k (.iadr 1 (.t 33) (.t 34))⟩ false false <|
        .one ⟨9, some 36, none, .k (.load 1 false (.t 35))⟩ false false <|
        .one ⟨10, some 37, none, .k (.bin .neq (.t 31) (.t 36))⟩ false false <|
        .done) [] [2, 3, 5, 37])
    (.cond (.t 37)
      (.seq (.reg [⟨0, some 4, none, .k (.mov (.c (.bool false)))⟩] [4])
      (.ret))
      (.skip))))
  (.reg [⟨0, some 25, none, .k (.mov (.t 5))⟩, ⟨1, some 26, none, .k (.bin .add (.t 25) (.c (.int .i64 1)))⟩, ⟨2, some 5, none, .k (.mov (.t 26))⟩] [2, 3, 5]))
def m16k1 : MC :=
  .seq (.reg [⟨0, some 38, none, .k (.fadr 2 (.t 2))⟩, ⟨1, some 39, none, .k (.load 1 false (.t 38))⟩, ⟨2, some 40, none, .k (.fadr 2 (.t 3))⟩, ⟨3, some 41, none, .k (.load 1 false (.t 40))⟩, ⟨4, some 42, none, .call (.f 43) [.t 39, .t 41]⟩, ⟨5, some 4, none, .k (.mov (.t 42))⟩] [4])
  (.ret)
def m16k2 : MC :=
  .seq (.seq (.reg [⟨0, some 5, none, .k (.mov (.c (.int .i64 0)))⟩] [2, 3, 5])
  (.block 0
    (.loop m16l0)))
  (.named [2, 3] m16k1)
def m16 : MC :=
  .seq (.reg [⟨0, some 2, none, .k (.box (.t 0))⟩, ⟨1, some 3, none, .k (.box (.t 1))⟩, ⟨2, some 4, none, .k (.mov (.c (.bool false)))⟩] [2, 3])
  (.seq (.seq (.reg [⟨0, some 6, none, .k (.fadr 0 (.t 2))⟩, ⟨1, some 7, none, .k (.load 1 false (.t 6))⟩, ⟨2, some 8, none, .k (.fadr 0 (.t 3))⟩, ⟨3, some 9, none, .k (.load 1 false (.t 8))⟩, ⟨4, some 10, none, .k (.bin .neq (.t 7) (.t 9))⟩, ⟨5, some 11, none, .k (.mov (.t 10))⟩, ⟨6, some 12, (some (11, false)), .k (.fadr 1 (.t 2))⟩, ⟨7, some 13, (some (11, false)), .k (.load 1 false (.t 12))⟩, ⟨8, some 14, (some (11, false)), .k (.len false (.t 13))⟩, ⟨9, some 15, (some (11, false)), .k (.fadr 1 (.t 3))⟩, ⟨10, some 16, (some (11, false)), .k (.load 1 false (.t 15))⟩, ⟨11, some 17, (some (11, false)), .k (.len false (.t 16))⟩, ⟨12, some 18, (some (11, false)), .k (.bin .neq (.t 14) (.t 17))⟩, ⟨13, some 19, none, .k (.pick (.t 11) (.c (.bool true)) (.t 18))⟩] [2, 3, 19])
  (.named [2, 3, 19] m16k0))
  (.named [2, 3] m16k2))
theorem is16 : FnIs Tryz.prog 16 43 m16 [.t 4] := .of Tryz.call16 Tryz.func16 (by kernel_rfl)
def m17k0 : MC :=
  .cond (.t 40)
    (.seq (.reg [⟨0, some 4, none, .k (.mov (.c (.sl 1 [] .exact)))⟩, ⟨1, some 5, none, .k (.mov (.c (.int .i64 1)))⟩] [4, 5])
    (.ret))
    (.skip)
def m17k1 : MC :=
  .reg [⟨0, some 63, none, .k (.bin .add (.t 44) (.c (.int .i64 1)))⟩, ⟨1, some 44, none, .k (.mov (.t 63))⟩] [3, 4, 42, 43, 44]
def m17l0 : MC :=
  .seq (.reg [⟨0, some 45, none, .k (.bin .lss (.t 44) (.t 43))⟩] [3, 4, 42, 43, 44, 45])
  (.seq (.cond (.t 45)
    (.skip)
    (.exit 0))
  (.seq (.block 1
    (.seq (.reg [⟨0, some 46, none, .k (.mov (.t 44))⟩, ⟨1, some 47, none, .k (.iadr 4 (.t 42) (.t 44))⟩, ⟨2, some 48, none, .k (.load 4 true (.t 47))⟩, ⟨3, some 8, none, .k (.alloc [.str [], .int .i64 0, .int .i64 0, .sl 3 [] .exact])⟩, ⟨4, some 7, none, .k (.mov (.t 46))⟩, ⟨5, none, none, .k (.store 4 (.t 8) (.t 48))⟩] [3, 4, 7, 8, 42, 43, 44])
    (.seq (.any (.one ⟨0, some 49, none, .k (.fadr 3 (.t 8))⟩ false false <|
        .one ⟨1, some 50, none, .k (.load 1 false (.t 49))⟩ false false <|
        .one ⟨2, some 51, none, .k (.fadr 2 (.t 3))⟩ false false <|
        .one ⟨3, some 52, none, .k (.load 1 false (.t 51))⟩ true false <|
        .one ⟨4, some 53, none, .k (.mov (.t 7))⟩ false false <|
        .one ⟨5, some 54, none, .k (.iadr 4 (.t 52) (.t 53))⟩ false false <|
        .one ⟨6, some 55, none, .k (.fadr 3 (.t 54))⟩ false false <|
        .one ⟨7, some 56, none, .k (.load 1 false (.t 55))⟩ false false <|
        .one ⟨8, some 57, none, .call (.f 47) [.t 50, .t 56]⟩ false true <|
        .one ⟨9, some 58, none, .k (.un .not (.t 57))⟩ false false <|
        .done) [3] [3, 4, 7, 42, 43, 44, 58])
    (.cond (.t 58)
      (.reg [⟨0, some 59, none, .k (.mov (.t 4))⟩, ⟨1, some 60, none, .k (.mov (.t 7))⟩, ⟨2, some 61, none, .k (.mkSl 1 [.int .i64 0] [.t 60])⟩, ⟨3, some 62, none, .k (.app 1 8 (.t 59) (.t 61))⟩, ⟨4, some 4, none, .k (.mov (.t 62))⟩] [3, 4, 42, 43, 44])
      (.skip)))))
  (.named [3, 4, 42, 43, 44] m17k1)))
def m17k2 : MC :=
  .seq (.reg [⟨0, some 64, none, .k (.mov (.t 4))⟩, ⟨1, some 4, none, .k (.mov (.t 64))⟩, ⟨2, some 5, none, .k (.mov (.c (.int .i64 0)))⟩] [4, 5])
  (.ret)
def m17k3 : MC :=
  .seq (.seq (.reg [⟨0, some 41, none, .k (.fadr 2 (.t 2))⟩, ⟨1, some 42, none, .k (.load 1 false (.t 41))⟩, ⟨2, some 43, none, .k (.len false (.t 42))⟩, ⟨3, some 44, none, .k (.mov (.c (.int .i64 0)))⟩] [3, 4, 42, 43, 44])
  (.block 0
    (.loop m17l0)))
  (.named [4] m17k2)
def m17 : MC :=
  .seq (.reg [⟨0, some 2, none, .k (.box (.t 0))⟩, ⟨1, some 3, none, .k (.box (.t 1))⟩, ⟨2, some 4, none, .k (.mov (.c (.sl 1 [] .exact)))⟩, ⟨3, some 5, none, .k (.mov (.c (.int .i64 0)))⟩] [2, 3, 4])
  (.seq (.reg [⟨0, some 6, none, .k (.mov (.f 44))⟩] [2, 3, 4, 6])
  (.seq (.seq (.reg [⟨0, some 9, none, .k (.load 3 true (.t 2))⟩, ⟨1, some 10, none, .call (.f 37) [.t 9]⟩, ⟨2, some 11, none, .k (.un .not (.t 10))⟩, ⟨3, some 12, none, .k (.mov (.t 11))⟩, ⟨4, some 13, (some (12, false)), .k (.load 3 true (.t 3))⟩, ⟨5, some 14, (some (12, false)), .call (.f 37) [.t 13]⟩, ⟨6, some 15, (some (12, false)), .k (.un .not (.t 14))⟩, ⟨7, some 16, none, .k (.pick (.t 12) (.c (.bool true)) (.t 15))⟩, ⟨8, some 17, none, .k (.mov (.t 16))⟩, ⟨9, some 18, (some (17, false)), .k (.fadr 0 (.t 2))⟩, ⟨10, some 19, (some (17, false)), .k (.load 1 false (.t 18))⟩, ⟨11, some 20, (some (17, false)), .k (.fadr 0 (.t 3))⟩, ⟨12, some 21, (some (17, false)), .k (.load 1 false (.t 20))⟩, ⟨13, some 22, (some (17, false)), .k (.bin .neq (.t 19) (.t 21))⟩, ⟨14, some 23, none, .k (.pick (.t 17) (.c (.bool true)) (.t 22))⟩, ⟨15, some 24, none, .k (.mov (.t 23))⟩, ⟨16, some 25, (some (24, false)), .k (.fadr 1 (.t 2))⟩, ⟨17, some 26, (some (24, false)), .k (.load 1 false (.t 25))⟩, ⟨18, some 27, (some (24, false)), .k (.fadr 1 (.t 3))⟩, ⟨19, some 28, (some (24, false)), .k (.load 1 false (.t 27))⟩, ⟨20, some 29, (some (24, false)), .call (.f 45) [.t 26, .t 28]⟩, ⟨21, some 30, (some (24, false)), .k (.un .not (.t 29))⟩, ⟨22, some 31, none, .k (.pick (.t 24) (.c (.bool true)) (.t 30))⟩, ⟨23, some 32, none, .k (.mov (.t 31))⟩, ⟨24, some 33, (some (32, false)), .k (.fadr 2 (.t 2))⟩, ⟨25, some 34, (some (32, false)), .k (.load 1 false (.t 33))⟩, ⟨26, some 35, (some (32, false)), .k (.fadr 2 (.t 3))⟩, ⟨27, some 36, (some (32, false)), .k (.load 1 false (.t 35))⟩, ⟨28, some 37, (some (32, false)), .k (.mov (.t 6))⟩, ⟨29, some 38, (some (32, false)), .call (.f 46) [.t 34, .t 36, .t 37]⟩, ⟨30, some 39, (some (32, false)), .k (.un .not (.t 38))⟩, ⟨31, some 40, none, .k (.pick (.t 32) (.c (.bool true)) (.t 39))⟩] [2, 3, 4, 40])
  (.named [2, 3, 4, 40] m17k0))
  (.named [2, 3, 4] m17k3)))
theorem is17 : FnIs Tryz.prog 17 65 m17 [.t 4, .t 5] := .of Tryz.call17 Tryz.func17 (by kernel_rfl)
def m18k0 : MC :=
  .cond (.t 36)
    (.seq (.reg [⟨0, some 4, none, .k (.mov (.c (.sl 1 [] .exact)))⟩, ⟨1, some 5, none, .k (.mov (.c (.int .i64 1)))⟩] [4, 5])
    (.ret))
    (.skip)
def m18k1 : MC :=
  .reg [⟨0, some 42, none, .k (.mov (.t 9))⟩, ⟨1, some 43, none, .k (.bin .add (.t 42) (.c (.int .i64 1)))⟩, ⟨2, some 9, none, .k (.mov (.t 43))⟩] [2, 3, 8, 9]
def m18l0 : MC :=
  .seq (.seq (.reg [⟨0, some 37, none, .k (.mov (.t 9))⟩, ⟨1, some 38, none, .k (.fadr 2 (.t 2))⟩, ⟨2, some 39, none, .k (.load 1 false (.t 38))⟩, ⟨3, some 40, none, .k (.len false (.t 39))⟩, ⟨4, some 41, none, .k (.bin .lss (.t 37) (.t 40))⟩] [2, 3, 8, 9, 41])
  (.cond (.t 41)
    (.skip)
    (.exit 0)))
  (.seq (.block 1
    (.seq (.seq (.any (.one ⟨0, some 44, none, .k (.fadr 2 (.t 2))⟩ false false <|
        .one ⟨1, some 45, none, .k (.load 1 false (.t 44))⟩ false false <|
        .one ⟨2, some 46, none, .k (.mov (.t 9))⟩ false false <|
        .one ⟨3, some 47, none, .k (.iadr 4 (.t 45) (.t 46))⟩ false false <|
        .one ⟨4, some 48, none, .k (.fadr 0 (.t 47))⟩ false false <|
        .one ⟨5, some 49, none, .k (.load 3 true (.t 48))⟩ false false <|
        .one ⟨6, some 50, none, .k (.fadr 2 (.t 3))⟩ false false <|
        .one ⟨7, some 51, none, .k (.load 1 false (.t 50))⟩ false false <|
        .one ⟨8, some 52, none, .k (.mov (.t 9))⟩ false false <|
        .one ⟨9, some 53, none, .k (.iadr 4 (.t 51) (.t 52))⟩ false false <|
        .one ⟨10, some 54, none, .k (.fadr 0 (.t 53))⟩ false false <|
        .one ⟨11, some 55, none, .k (.load 3 true (.t 54))⟩ false false <|
        .one ⟨12, some 56, none, .k (.eqv [.s, .i, .i] true (.t 49) (.t 55))⟩ false false <|
        .done) [] [2, 3, 8, 9, 56])
    (.cond (.t 56)
      (.seq (.reg [⟨0, some 4, none, .k (.mov (.c (.sl 1 [] .exact)))⟩, ⟨1, some 5, none, .k (.mov (.c (.int .i64 1)))⟩] [4, 5])
      (.ret))
      (.skip)))
    (.seq (.any (.one ⟨0, some 57, none, .k (.fadr 2 (.t 2))⟩ false false <|
        .one ⟨1, some 58, none, .k (.load 1 false (.t 57))⟩ true false <|
        .one ⟨2, some 59, none, .k (.mov (.t 9))⟩ false false <|
        .one ⟨3, some 60, none, .k (.mov (.t 9))⟩ false false <|
        .one ⟨4, some 61, none, .k (.bin .add (.t 60) (.c (.int .i64 1)))⟩ false false <|
        .one ⟨5, some 62, none, .k (.slV 4 (.t 58) (some (.t 59)) (some (.t 61)) none)⟩ false false <|
        .one ⟨6, some 63, none, .k (.fadr 2 (.t 3))⟩ false false <|
        .one ⟨7, some 64, none, .k (.load 1 false (.t 63))⟩ true false <|
        .one ⟨8, some 65, none, .k (.mov (.t 9))⟩ false false <|
        .one ⟨9, some 66, none, .k (.mov (.t 9))⟩ false false <|
        .one ⟨10, some 67, none, .k (.bin .add (.t 66) (.c (.int .i64 1)))⟩ false false <|
        .one ⟨11, some 68, none, .k (.slV 4 (.t 64) (some (.t 65)) (some (.t 67)) none)⟩ false false <|
        .one ⟨12, some 69, none, .call (.f 43) [.t 62, .t 68]⟩ false true <|
        .one ⟨13, some 70, none, .k (.un .not (.t 69))⟩ false false <|
        .done) [2, 3] [2, 3, 8, 9, 70])
    (.cond (.t 70)
      (.reg [⟨0, some 71, none, .k (.mov (.t 8))⟩, ⟨1, some 72, none, .k (.mov (.t 9))⟩, ⟨2, some 73, none, .k (.mkSl 1 [.int .i64 0] [.t 72])⟩, ⟨3, some 74, none, .k (.app 1 8 (.t 71) (.t 73))⟩, ⟨4, some 8, none, .k (.mov (.t 74))⟩] [2, 3, 8, 9])
      (.skip)))))
  (.named [2, 3, 8, 9] m18k1))
def m18k2 : MC :=
  .seq (.reg [⟨0, some 75, none, .k (.mov (.t 8))⟩, ⟨1, some 4, none, .k (.mov (.t 75))⟩, ⟨2, some 5, none, .k (.mov (.c (.int .i64 0)))⟩] [4, 5])
  (.ret)
def m18k3 : MC :=
  .seq (.reg [⟨0, some 8, none, .k (.mov (.c (.sl 1 [] .exact)))⟩] [2, 3, 8])
  (.seq (.seq (.reg [⟨0, some 9, none, .k (.mov (.c (.int .i64 0)))⟩] [2, 3, 8, 9])
  (.block 0
    (.loop m18l0)))
  (.named [8] m18k2))
def m18 : MC :=
  .seq (.reg [⟨0, some 2, none, .k (.box (.t 0))⟩, ⟨1, some 3, none, .k (.box (.t 1))⟩, ⟨2, some 4, none, .k (.mov (.c (.sl 1 [] .exact)))⟩, ⟨3, some 5, none, .k (.mov (.c (.int .i64 0)))⟩] [2, 3])
  (.seq (.any (.one ⟨0, some 10, none, .k (.load 3 true (.t 2))⟩ true false <|
      .one ⟨1, some 11, none, .k (.load 3 true (.t 3))⟩ true false <|
      .two ⟨2, some 6, none, .k (.alloc [.str [], .sl 1 [] .exact, .sl 4 [] .exact])⟩ true (.one ⟨3, some 7, none, .k (.alloc [.str [], .sl 1 [] .exact, .sl 4 [] .exact])⟩ false true <|
      .one ⟨4, none, none, .k (.store 3 (.t 6) (.t 10))⟩ false true <|
      .one ⟨5, none, none, .k (.store 3 (.t 7) (.t 11))⟩ false false <|
      .done) ⟨3, some 7, none, .k (.alloc [.str [], .sl 1 [] .exact, .sl 4 [] .exact])⟩ true (.one ⟨2, some 6, none, .k (.alloc [.str [], .sl 1 [] .exact, .sl 4 [] .exact])⟩ false true <|
      .one ⟨4, none, none, .k (.store 3 (.t 6) (.t 10))⟩ false true <|
      .one ⟨5, none, none, .k (.store 3 (.t 7) (.t 11))⟩ false false <|
      .done)) [2, 3] [2, 3, 6, 7])
  (.seq (.reg [⟨0, some 12, none, .k (.fadr 2 (.t 6))⟩, ⟨1, none, none, .k (.store 1 (.t 12) (.c (.sl 4 [] .exact)))⟩] [2, 3, 6, 7])
  (.seq (.reg [⟨0, some 13, none, .k (.fadr 2 (.t 7))⟩, ⟨1, none, none, .k (.store 1 (.t 13) (.c (.sl 4 [] .exact)))⟩] [2, 3, 6, 7])
  (.seq (.seq (.reg [⟨0, some 14, none, .k (.load 3 true (.t 2))⟩, ⟨1, some 15, none, .call (.f 22) [.t 14]⟩, ⟨2, some 16, none, .k (.un .not (.t 15))⟩, ⟨3, some 17, none, .k (.mov (.t 16))⟩, ⟨4, some 18, (some (17, false)), .k (.load 3 true (.t 3))⟩, ⟨5, some 19, (some (17, false)), .call (.f 22) [.t 18]⟩, ⟨6, some 20, (some (17, false)), .k (.un .not (.t 19))⟩, ⟨7, some 21, none, .k (.pick (.t 17) (.c (.bool true)) (.t 20))⟩, ⟨8, some 22, none, .k (.mov (.t 21))⟩, ⟨9, some 23, (some (22, false)), .k (.load 3 true (.t 6))⟩, ⟨10, some 24, (some (22, false)), .k (.load 3 true (.t 7))⟩, ⟨11, some 25, (some (22, false)), .call (.f 16) [.t 23, .t 24]⟩, ⟨12, some 26, (some (22, false)), .k (.un .not (.t 25))⟩, ⟨13, some 27, none, .k (.pick (.t 22) (.c (.bool true)) (.t 26))⟩, ⟨14, some 28, none, .k (.mov (.t 27))⟩, ⟨15, some 29, (some (28, false)), .k (.fadr 2 (.t 2))⟩, ⟨16, some 30, (some (28, false)), .k (.load 1 false (.t 29))⟩, ⟨17, some 31, (some (28, false)), .k (.len false (.t 30))⟩, ⟨18, some 32, (some (28, false)), .k (.fadr 2 (.t 3))⟩, ⟨19, some 33, (some (28, false)), .k (.load 1 false (.t 32))⟩, ⟨20, some 34, (some (28, false)), .k (.len false (.t 33))⟩, ⟨21, some 35, (some (28, false)), .k (.bin .neq (.t 31) (.t 34))⟩, ⟨22, some 36, none, .k (.pick (.t 28) (.c (.bool true)) (.t 35))⟩] [2, 3, 36])
  (.named [2, 3, 36] m18k0))
  (.named [2, 3] m18k3)))))
def m19l0 : MC :=
  .seq (.reg [⟨0, some 46, none, .k (.bin .lss (.t 45) (.t 44))⟩] [4, 5, 8, 24, 25, 26, 43, 44, 45, 46])
  (.seq (.cond (.t 46)
    (.skip)
    (.exit 2))
  (.seq (.block 3
    (.seq (.reg [⟨0, some 47, none, .k (.iadr 3 (.t 43) (.t 45))⟩, ⟨1, some 48, none, .k (.load 3 true (.t 47))⟩, ⟨2, some 10, none, .k (.alloc [.int .i64 0, .int .i64 0, .str []])⟩, ⟨3, none, none, .k (.store 3 (.t 10) (.t 48))⟩] [4, 5, 8, 10, 24, 25, 26, 43, 44, 45])
    (.reg [⟨0, some 49, none, .k (.mov (.t 8))⟩, ⟨1, some 50, none, .k (.load 3 true (.t 10))⟩, ⟨2, some 51, none, .call (.f 52) [.t 50]⟩, ⟨3, some 52, none, .k (.mkSl 1 [.str []] [.t 51])⟩, ⟨4, some 53, none, .k (.app 1 16 (.t 49) (.t 52))⟩, ⟨5, some 8, none, .k (.mov (.t 53))⟩] [4, 5, 8, 24, 25, 26, 43, 44, 45])))
  (.reg [⟨0, some 54, none, .k (.bin .add (.t 45) (.c (.int .i64 1)))⟩, ⟨1, some 45, none, .k (.mov (.t 54))⟩] [4, 5, 8, 24, 25, 26, 43, 44, 45])))
def m19k0 : MC :=
  .reg [⟨0, some 55, none, .k (.mov (.t 5))⟩, ⟨1, some 56, none, .k (.mov (.t 8))⟩, ⟨2, some 57, none, .call (.t 55) [.t 56]⟩] [4, 5, 24, 25, 26]
def m19k1 : MC :=
  .reg [⟨0, some 58, none, .k (.bin .add (.t 26) (.c (.int .i64 1)))⟩, ⟨1, some 26, none, .k (.mov (.t 58))⟩] [4, 5, 24, 25, 26]
def m19l1 : MC :=
  .seq (.reg [⟨0, some 27, none, .k (.bin .lss (.t 26) (.t 25))⟩] [4, 5, 24, 25, 26, 27])
  (.seq (.cond (.t 27)
    (.skip)
    (.exit 0))
  (.seq (.block 1
    (.seq (.reg [⟨0, some 28, none, .k (.iadr 4 (.t 24) (.t 26))⟩, ⟨1, some 29, none, .k (.load 4 true (.t 28))⟩, ⟨2, some 7, none, .k (.alloc [.str [], .int .i64 0, .int .i64 0, .sl 3 [] .exact])⟩, ⟨3, none, none, .k (.store 4 (.t 7) (.t 29))⟩] [4, 5, 7, 24, 25, 26])
    (.seq (.any (.one ⟨0, some 30, none, .k (.fadr 0 (.t 7))⟩ false false <|
        .one ⟨1, some 31, none, .k (.fadr 0 (.t 30))⟩ false false <|
        .one ⟨2, some 32, none, .k (.load 1 false (.t 31))⟩ true false <|
        .one ⟨3, some 33, none, .k (.fadr 0 (.t 7))⟩ false false <|
        .one ⟨4, some 34, none, .k (.fadr 1 (.t 33))⟩ false false <|
        .one ⟨5, some 35, none, .k (.load 1 false (.t 34))⟩ true false <|
        .one ⟨7, some 37, none, .k (.fadr 0 (.t 7))⟩ false false <|
        .one ⟨8, some 38, none, .k (.fadr 2 (.t 37))⟩ false false <|
        .one ⟨9, some 39, none, .k (.load 1 false (.t 38))⟩ true false <|
        .one ⟨6, some 36, none, .call (.f 51) [.t 35]⟩ false true <|
        .one ⟨10, some 40, none, .call (.f 51) [.t 39]⟩ false true <|
        .one ⟨11, some 41, none, .k (.mkSl 1 [.str []] [.t 32, .t 36, .t 40])⟩ false false <|
        .one ⟨12, some 8, none, .k (.mov (.t 41))⟩ false false <|
        .done) [7] [4, 5, 7, 8, 24, 25, 26])
    (.seq (.seq (.reg [⟨0, some 42, none, .k (.fadr 3 (.t 7))⟩, ⟨1, some 43, none, .k (.load 1 false (.t 42))⟩, ⟨2, some 44, none, .k (.len false (.t 43))⟩, ⟨3, some 45, none, .k (.mov (.c (.int .i64 0)))⟩] [4, 5, 8, 24, 25, 26, 43, 44, 45])
    (.block 2
      (.loop m19l0)))
    (.named [4, 5, 8, 24, 25, 26] m19k0)))))
  (.named [4, 5, 24, 25, 26] m19k1)))
def m19k2 : MC :=
  .seq (.reg [⟨0, some 59, none, .call (.f 53) [.t 4]⟩, ⟨1, some 2, none, .k (.mov (.t 59))⟩, ⟨2, some 3, none, .k (.mov (.c (.int .i64 0)))⟩] [2, 3])
  (.ret)
def m19 : MC :=
  .seq (.reg [⟨0, some 1, none, .k (.box (.t 0))⟩, ⟨1, some 2, none, .k (.mov (.c (.str [])))⟩, ⟨2, some 3, none, .k (.mov (.c (.int .i64 0)))⟩] [1])
  (.seq (.seq (.reg [⟨0, some 11, none, .k (.load 3 true (.t 1))⟩, ⟨1, some 12, none, .call (.f 37) [.t 11]⟩, ⟨2, some 13, none, .k (.un .not (.t 12))⟩] [1, 13])
  (.cond (.t 13)
    (.seq (.reg [⟨0, some 2, none, .k (.mov (.c (.str [])))⟩, ⟨1, some 3, none, .k (.mov (.c (.int .i64 1)))⟩] [2, 3])
    (.ret))
    (.skip)))
  (.seq (.reg [⟨0, some 4, none, .k .allocB⟩] [1, 4])
  (.seq (.reg [⟨0, some 14, none, .k (.func (.func 48) [] [.t 4])⟩, ⟨1, some 5, none, .k (.mov (.t 14))⟩] [1, 4, 5])
  (.seq (.reg [⟨0, some 15, none, .k (.mov (.t 5))⟩, ⟨1, some 16, none, .k (.fadr 0 (.t 1))⟩, ⟨2, some 17, none, .k (.load 1 false (.t 16))⟩, ⟨3, some 18, none, .k (.mkSl 1 [.str []] [.t 17, .c (.str [101, 118, 101, 110, 116]), .c (.str [107, 110, 111, 119])])⟩, ⟨4, some 19, none, .k (.fadr 1 (.t 1))⟩, ⟨5, some 20, none, .k (.load 1 false (.t 19))⟩, ⟨6, some 21, none, .k (.app 1 16 (.t 18) (.t 20))⟩, ⟨7, some 22, none, .call (.t 15) [.t 21]⟩] [1, 4, 5])
  (.seq (.seq (.reg [⟨0, some 23, none, .k (.fadr 2 (.t 1))⟩, ⟨1, some 24, none, .k (.load 1 false (.t 23))⟩, ⟨2, some 25, none, .k (.len false (.t 24))⟩, ⟨3, some 26, none, .k (.mov (.c (.int .i64 0)))⟩] [4, 5, 24, 25, 26])
  (.block 0
    (.loop m19l1)))
  (.named [4] m19k2))))))
theorem is19 : FnIs Tryz.prog 19 60 m19 [.t 2, .t 3] := .of Tryz.call19 Tryz.func19 (by kernel_rfl)
def m22k0 : MC :=
  .cond (.t 54)
    (.seq (.reg [⟨0, some 2, none, .k (.mov (.c (.bool false)))⟩] [2])
    (.ret))
    (.skip)
def m22l0 : MC :=
  .seq (.seq (.reg [⟨0, some 55, none, .k (.mov (.t 6))⟩, ⟨1, some 56, none, .k (.fadr 3 (.t 5))⟩, ⟨2, some 57, none, .k (.load 1 false (.t 56))⟩, ⟨3, some 58, none, .k (.len false (.t 57))⟩, ⟨4, some 59, none, .k (.bin .lss (.t 55) (.t 58))⟩] [1, 3, 4, 5, 6, 59])
  (.cond (.t 59)
    (.skip)
    (.exit 2)))
  (.seq (.block 3
    (.seq (.reg [⟨0, some 62, none, .k (.fadr 3 (.t 5))⟩, ⟨1, some 63, none, .k (.load 1 false (.t 62))⟩, ⟨2, some 64, none, .k (.mov (.t 6))⟩, ⟨3, some 65, none, .k (.iadr 3 (.t 63) (.t 64))⟩, ⟨4, some 66, none, .k (.load 3 true (.t 65))⟩, ⟨5, some 67, none, .call (.f 56) [.t 66]⟩, ⟨6, some 68, none, .k (.un .not (.t 67))⟩] [1, 3, 4, 5, 6, 68])
    (.cond (.t 68)
      (.seq (.reg [⟨0, some 2, none, .k (.mov (.c (.bool false)))⟩] [2])
      (.ret))
      (.skip))))
  (.reg [⟨0, some 60, none, .k (.mov (.t 6))⟩, ⟨1, some 61, none, .k (.bin .add (.t 60) (.c (.int .i64 1)))⟩, ⟨2, some 6, none, .k (.mov (.t 61))⟩] [1, 3, 4, 5, 6]))
def m22k1 : MC :=
  .seq (.reg [⟨0, some 6, none, .k (.mov (.c (.int .i64 0)))⟩] [1, 3, 4, 5, 6])
  (.block 2
    (.loop m22l0))
def m22k2 : MC :=
  .reg [⟨0, some 17, none, .k (.mov (.t 4))⟩, ⟨1, some 18, none, .k (.bin .add (.t 17) (.c (.int .i64 1)))⟩, ⟨2, some 4, none, .k (.mov (.t 18))⟩] [1, 3, 4]
def m22l1 : MC :=
  .seq (.seq (.reg [⟨0, some 12, none, .k (.mov (.t 4))⟩, ⟨1, some 13, none, .k (.fadr 2 (.t 1))⟩, ⟨2, some 14, none, .k (.load 1 false (.t 13))⟩, ⟨3, some 15, none, .k (.len false (.t 14))⟩, ⟨4, some 16, none, .k (.bin .lss (.t 12) (.t 15))⟩] [1, 3, 4, 16])
  (.cond (.t 16)
    (.skip)
    (.exit 0)))
  (.seq (.block 1
    (.seq (.reg [⟨0, some 19, none, .k (.fadr 2 (.t 1))⟩, ⟨1, some 20, none, .k (.load 1 false (.t 19))⟩, ⟨2, some 21, none, .k (.mov (.t 4))⟩, ⟨3, some 22, none, .k (.iadr 4 (.t 20) (.t 21))⟩, ⟨4, some 23, none, .k (.load 4 true (.t 22))⟩, ⟨5, some 5, none, .k (.alloc [.str [], .int .i64 0, .int .i64 0, .sl 3 [] .exact])⟩, ⟨6, none, none, .k (.store 4 (.t 5) (.t 23))⟩] [1, 3, 4, 5])
    (.seq (.reg [⟨0, some 24, none, .k (.fadr 2 (.t 3))⟩, ⟨1, some 25, none, .k (.load 1 false (.t 24))⟩, ⟨2, some 26, none, .k (.fadr 0 (.t 5))⟩, ⟨3, some 27, none, .k (.load 3 true (.t 26))⟩, ⟨4, some 28, none, .k (.mkSl 3 [.str [], .int .i64 0, .int .i64 0] [.t 27])⟩, ⟨5, some 29, none, .k (.app 3 32 (.t 25) (.t 28))⟩, ⟨6, some 30, none, .k (.fadr 2 (.t 3))⟩, ⟨7, none, none, .k (.store 1 (.t 30) (.t 29))⟩] [1, 3, 4, 5])
    (.seq (.seq (.any (.one ⟨0, some 31, none, .k (.mov (.t 4))⟩ false false <|
        .one ⟨1, some 32, none, .k (.bin .gtr (.t 31) (.c (.int .i64 0)))⟩ false false <|
        .one ⟨2, some 33, none, .k (.mov (.t 32))⟩ false false <|
        .one ⟨3, some 34, (some (33, true)), .k (.fadr 2 (.t 1))⟩ false false <|
        .one ⟨4, some 35, (some (33, true)), .k (.load 1 false (.t 34))⟩ true false <|
        .one ⟨5, some 36, (some (33, true)), .k (.mov (.t 4))⟩ false false <|
        .one ⟨6, some 37, (some (33, true)), .k (.bin .sub (.t 36) (.c (.int .i64 1)))⟩ false false <|
        .one ⟨7, some 38, (some (33, true)), .k (.iadr 4 (.t 35) (.t 37))⟩ false false <|
        .one ⟨8, some 39, (some (33, true)), .k (.fadr 0 (.t 38))⟩ false false <|
        .one ⟨9, some 40, (some (33, true)), .k (.load 3 true (.t 39))⟩ false false <|
        .one ⟨10, some 41, (some (33, true)), .k (.fadr 0 (.t 5))⟩ false false <|
        .one ⟨11, some 42, (some (33, true)), .k (.load 3 true (.t 41))⟩ false false <|
        .one ⟨12, some 43, (some (33, true)), .call (.f 27) [.t 40, .t 42]⟩ false true <|
        .one ⟨13, some 44, (some (33, true)), .k (.un .not (.t 43))⟩ false false <|
        .one ⟨14, some 45, none, .k (.pick (.t 33) (.t 44) (.c (.bool false)))⟩ false false <|
        .one ⟨15, some 46, none, .k (.mov (.t 45))⟩ false false <|
        .one ⟨16, some 47, (some (46, false)), .k (.fadr 3 (.t 5))⟩ false false <|
        .one ⟨17, some 48, (some (46, false)), .k (.load 1 false (.t 47))⟩ false false <|
        .one ⟨18, some 49, (some (46, false)), .k (.len false (.t 48))⟩ false false <|
        .one ⟨19, some 50, (some (46, false)), .k (.fadr 1 (.t 1))⟩ false false <|
        .one ⟨20, some 51, (some (46, false)), .k (.load 1 false (.t 50))⟩ false false <|
        .one ⟨21, some 52, (some (46, false)), .k (.len false (.t 51))⟩ false false <|
        .one ⟨22, some 53, (some (46, false)), .k (.bin .neq (.t 49) (.t 52))⟩ false false <|
        .one ⟨23, some 54, none, .k (.pick (.t 46) (.c (.bool true)) (.t 53))⟩ false false <|
        .done) [1] [1, 3, 4, 5, 54])
    (.named [1, 3, 4, 5, 54] m22k0))
    (.named [1, 3, 4, 5] m22k1)))))
  (.named [1, 3, 4] m22k2))
def m22k3 : MC :=
  .seq (.reg [⟨0, some 69, none, .k (.load 5 true (.t 3))⟩, ⟨1, some 70, none, .call (.f 40) [.t 69]⟩, ⟨2, some 2, none, .k (.mov (.t 70))⟩] [2])
  (.ret)
def m22 : MC :=
  .seq (.reg [⟨0, some 1, none, .k (.box (.t 0))⟩, ⟨1, some 2, none, .k (.mov (.c (.bool false)))⟩] [1])
  (.seq (.reg [⟨0, some 7, none, .k (.fadr 0 (.t 1))⟩, ⟨1, some 8, none, .k (.load 1 false (.t 7))⟩, ⟨2, some 9, none, .k (.fadr 1 (.t 1))⟩, ⟨3, some 10, none, .k (.load 1 false (.t 9))⟩, ⟨4, some 11, none, .k (.build [.str [], .sl 1 [] .exact, .sl 3 [] .exact, .int .i64 0, .int .i64 0] [(0, 1, .t 8), (1, 1, .t 10)])⟩, ⟨5, some 3, none, .k (.alloc [.str [], .sl 1 [] .exact, .sl 3 [] .exact, .int .i64 0, .int .i64 0])⟩, ⟨6, none, none, .k (.store 5 (.t 3) (.t 11))⟩] [1, 3])
  (.seq (.seq (.reg [⟨0, some 4, none, .k (.mov (.c (.int .i64 0)))⟩] [1, 3, 4])
  (.block 0
    (.loop m22l1)))
  (.named [3] m22k3)))
theorem is22 : FnIs Tryz.prog 22 71 m22 [.t 2] := .of Tryz.call22 Tryz.func22 (by kernel_rfl)
def m23l0 : MC :=
  .seq (.reg [⟨0, some 26, none, .k (.bin .lss (.t 25) (.t 24))⟩] [1, 4, 23, 24, 25, 26])
  (.seq (.cond (.t 26)
    (.skip)
    (.exit 0))
  (.seq (.block 1
    (.seq (.reg [⟨0, some 27, none, .k (.iadr 1 (.t 23) (.t 25))⟩, ⟨1, some 28, none, .k (.load 1 false (.t 27))⟩, ⟨2, some 6, none, .k (.mov (.t 28))⟩] [1, 4, 6, 23, 24, 25])
    (.reg [⟨0, some 29, none, .k (.mov (.t 4))⟩, ⟨1, some 30, none, .k (.mov (.t 6))⟩, ⟨2, some 31, none, .call (.f 58) [.t 29, .t 30]⟩, ⟨3, some 4, none, .k (.mov (.t 31))⟩] [1, 4, 23, 24, 25])))
  (.reg [⟨0, some 32, none, .k (.bin .add (.t 25) (.c (.int .i64 1)))⟩, ⟨1, some 25, none, .k (.mov (.t 32))⟩] [1, 4, 23, 24, 25])))
def m23l1 : MC :=
  .seq (.reg [⟨0, some 64, none, .k (.bin .lss (.t 63) (.t 62))⟩] [2, 4, 41, 42, 43, 61, 62, 63, 64])
  (.seq (.cond (.t 64)
    (.skip)
    (.exit 4))
  (.seq (.block 5
    (.seq (.reg [⟨0, some 65, none, .k (.iadr 3 (.t 61) (.t 63))⟩, ⟨1, some 66, none, .k (.load 3 true (.t 65))⟩, ⟨2, some 10, none, .k (.alloc [.int .i64 0, .int .i64 0, .str []])⟩, ⟨3, none, none, .k (.store 3 (.t 10) (.t 66))⟩] [2, 4, 10, 41, 42, 43, 61, 62, 63])
    (.reg [⟨0, some 67, none, .k (.mov (.t 4))⟩, ⟨1, some 68, none, .k (.load 3 true (.t 10))⟩, ⟨2, some 69, none, .call (.f 61) [.t 67, .t 68]⟩, ⟨3, some 4, none, .k (.mov (.t 69))⟩] [2, 4, 41, 42, 43, 61, 62, 63])))
  (.reg [⟨0, some 70, none, .k (.bin .add (.t 63) (.c (.int .i64 1)))⟩, ⟨1, some 63, none, .k (.mov (.t 70))⟩] [2, 4, 41, 42, 43, 61, 62, 63])))
def m23k0 : MC :=
  .reg [⟨0, some 71, none, .k (.mov (.t 2))⟩, ⟨1, some 72, none, .k (.mov (.t 4))⟩, ⟨2, some 73, none, .call (.f 59) [.t 71, .t 72]⟩, ⟨3, some 2, none, .k (.mov (.t 73))⟩] [2, 41, 42, 43]
def m23k1 : MC :=
  .reg [⟨0, some 74, none, .k (.bin .add (.t 43) (.c (.int .i64 1)))⟩, ⟨1, some 43, none, .k (.mov (.t 74))⟩] [2, 41, 42, 43]
def m23l2 : MC :=
  .seq (.reg [⟨0, some 44, none, .k (.bin .lss (.t 43) (.t 42))⟩] [2, 41, 42, 43, 44])
  (.seq (.cond (.t 44)
    (.skip)
    (.exit 2))
  (.seq (.block 3
    (.seq (.reg [⟨0, some 45, none, .k (.iadr 4 (.t 41) (.t 43))⟩, ⟨1, some 46, none, .k (.load 4 true (.t 45))⟩, ⟨2, some 8, none, .k (.alloc [.str [], .int .i64 0, .int .i64 0, .sl 3 [] .exact])⟩, ⟨3, none, none, .k (.store 4 (.t 8) (.t 46))⟩] [2, 8, 41, 42, 43])
    (.seq (.reg [⟨0, some 47, none, .k (.fadr 0 (.t 8))⟩, ⟨1, some 48, none, .k (.fadr 0 (.t 47))⟩, ⟨2, some 49, none, .k (.load 1 false (.t 48))⟩, ⟨3, some 50, none, .call (.f 58) [.c (.sl 1 [] .exact), .t 49]⟩, ⟨4, some 4, none, .k (.mov (.t 50))⟩] [2, 4, 8, 41, 42, 43])
    (.seq (.any (.one ⟨0, some 51, none, .k (.mov (.t 4))⟩ false false <|
        .one ⟨1, some 52, none, .k (.fadr 0 (.t 8))⟩ false false <|
        .one ⟨2, some 53, none, .k (.fadr 1 (.t 52))⟩ false false <|
        .one ⟨3, some 54, none, .k (.load 1 false (.t 53))⟩ true false <|
        .one ⟨5, some 56, none, .k (.fadr 0 (.t 8))⟩ false false <|
        .one ⟨6, some 57, none, .k (.fadr 2 (.t 56))⟩ false false <|
        .one ⟨7, some 58, none, .k (.load 1 false (.t 57))⟩ true false <|
        .one ⟨4, some 55, none, .call (.f 60) [.t 51, .t 54]⟩ false true <|
        .one ⟨8, some 59, none, .call (.f 60) [.t 55, .t 58]⟩ false true <|
        .one ⟨9, some 4, none, .k (.mov (.t 59))⟩ false false <|
        .done) [8] [2, 4, 8, 41, 42, 43])
    (.seq (.seq (.reg [⟨0, some 60, none, .k (.fadr 3 (.t 8))⟩, ⟨1, some 61, none, .k (.load 1 false (.t 60))⟩, ⟨2, some 62, none, .k (.len false (.t 61))⟩, ⟨3, some 63, none, .k (.mov (.c (.int .i64 0)))⟩] [2, 4, 41, 42, 43, 61, 62, 63])
    (.block 4
      (.loop m23l1)))
    (.named [2, 4, 41, 42, 43] m23k0))))))
  (.named [2, 41, 42, 43] m23k1)))
def m23k2 : MC :=
  .seq (.reg [⟨0, some 75, none, .k (.mov (.t 2))⟩, ⟨1, some 2, none, .k (.mov (.t 75))⟩, ⟨2, some 3, none, .k (.mov (.c (.int .i64 0)))⟩] [2, 3])
  (.ret)
def m23k3 : MC :=
  .seq (.reg [⟨0, some 33, none, .k (.mov (.t 4))⟩, ⟨1, some 34, none, .k (.fadr 2 (.t 1))⟩, ⟨2, some 35, none, .k (.load 1 false (.t 34))⟩, ⟨3, some 36, none, .k (.len false (.t 35))⟩, ⟨4, some 37, none, .k (.conv .u64 (.t 36))⟩, ⟨5, some 38, none, .call (.f 57) [.t 33, .t 37]⟩, ⟨6, some 39, none, .call (.f 59) [.c (.sl 1 [] .exact), .t 38]⟩, ⟨7, some 2, none, .k (.mov (.t 39))⟩] [1, 2])
  (.seq (.seq (.reg [⟨0, some 40, none, .k (.fadr 2 (.t 1))⟩, ⟨1, some 41, none, .k (.load 1 false (.t 40))⟩, ⟨2, some 42, none, .k (.len false (.t 41))⟩, ⟨3, some 43, none, .k (.mov (.c (.int .i64 0)))⟩] [2, 41, 42, 43])
  (.block 2
    (.loop m23l2)))
  (.named [2] m23k2))
def m23 : MC :=
  .seq (.reg [⟨0, some 1, none, .k (.box (.t 0))⟩, ⟨1, some 2, none, .k (.mov (.c (.sl 1 [] .exact)))⟩, ⟨2, some 3, none, .k (.mov (.c (.int .i64 0)))⟩] [1])
  (.seq (.seq (.reg [⟨0, some 11, none, .k (.load 3 true (.t 1))⟩, ⟨1, some 12, none, .call (.f 37) [.t 11]⟩, ⟨2, some 13, none, .k (.un .not (.t 12))⟩] [1, 13])
  (.cond (.t 13)
    (.seq (.reg [⟨0, some 2, none, .k (.mov (.c (.sl 1 [] .exact)))⟩, ⟨1, some 3, none, .k (.mov (.c (.int .i64 1)))⟩] [2, 3])
    (.ret))
    (.skip)))
  (.seq (.any (.one ⟨0, some 14, none, .k (.fadr 0 (.t 1))⟩ false false <|
      .one ⟨1, some 15, none, .k (.load 1 false (.t 14))⟩ true false <|
      .one ⟨3, some 17, none, .k (.fadr 1 (.t 1))⟩ false false <|
      .one ⟨4, some 18, none, .k (.load 1 false (.t 17))⟩ true false <|
      .one ⟨5, some 19, none, .k (.len false (.t 18))⟩ false false <|
      .one ⟨6, some 20, none, .k (.conv .u64 (.t 19))⟩ false false <|
      .one ⟨2, some 16, none, .call (.f 58) [.c (.sl 1 [] .exact), .t 15]⟩ false true <|
      .one ⟨7, some 21, none, .call (.f 57) [.t 16, .t 20]⟩ false true <|
      .one ⟨8, some 4, none, .k (.mov (.t 21))⟩ false false <|
      .done) [1] [1, 4])
  (.seq (.seq (.reg [⟨0, some 22, none, .k (.fadr 1 (.t 1))⟩, ⟨1, some 23, none, .k (.load 1 false (.t 22))⟩, ⟨2, some 24, none, .k (.len false (.t 23))⟩, ⟨3, some 25, none, .k (.mov (.c (.int .i64 0)))⟩] [1, 4, 23, 24, 25])
  (.block 0
    (.loop m23l0)))
  (.named [1, 4] m23k3))))
theorem is23 : FnIs Tryz.prog 23 76 m23 [.t 2, .t 3] := .of Tryz.call23 Tryz.func23 (by kernel_rfl)
def m24l0 : MC :=
  .seq (.reg [⟨0, some 23, none, .k (.bin .lss (.t 22) (.t 21))⟩] [2, 3, 4, 5, 6, 21, 22, 23])
  (.seq (.cond (.t 23)
    (.skip)
    (.exit 0))
  (.seq (.block 1
    (.any (.one ⟨0, some 24, none, .k (.fadr 1 (.t 2))⟩ false false <|
        .one ⟨1, some 25, none, .k (.load 1 false (.t 24))⟩ true false <|
        .one ⟨2, some 26, none, .k (.mov (.t 5))⟩ false false <|
        .one ⟨3, some 27, none, .call (.f 64) [.t 26]⟩ false true <|
        .one ⟨4, some 28, none, .k (.mkSl 1 [.str []] [.t 27])⟩ false false <|
        .one ⟨5, some 29, none, .k (.app 1 16 (.t 25) (.t 28))⟩ false false <|
        .one ⟨6, some 30, none, .k (.fadr 1 (.t 2))⟩ false false <|
        .one ⟨7, none, none, .k (.store 1 (.t 30) (.t 29))⟩ false false <|
        .done) [2] [2, 3, 4, 5, 6, 21, 22]))
  (.reg [⟨0, some 31, none, .k (.bin .add (.t 22) (.c (.int .i64 1)))⟩, ⟨1, some 22, none, .k (.mov (.t 31))⟩] [2, 3, 4, 5, 6, 21, 22])))
def m24l1 : MC :=
  .seq (.reg [⟨0, some 55, none, .k (.bin .lss (.t 54) (.t 53))⟩] [2, 3, 4, 6, 8, 9, 36, 37, 53, 54, 55])
  (.seq (.cond (.t 55)
    (.skip)
    (.exit 4))
  (.seq (.block 5
    (.any (.one ⟨0, some 56, none, .k (.fadr 3 (.t 9))⟩ false false <|
        .one ⟨1, some 57, none, .k (.load 1 false (.t 56))⟩ true false <|
        .one ⟨2, some 58, none, .k (.mov (.t 8))⟩ false false <|
        .one ⟨3, some 59, none, .call (.f 68) [.t 58]⟩ false true <|
        .one ⟨4, some 60, none, .k (.mkSl 3 [.int .i64 0, .int .i64 0, .str []] [.t 59])⟩ false false <|
        .one ⟨5, some 61, none, .k (.app 3 32 (.t 57) (.t 60))⟩ false false <|
        .one ⟨6, some 62, none, .k (.fadr 3 (.t 9))⟩ false false <|
        .one ⟨7, none, none, .k (.store 1 (.t 62) (.t 61))⟩ false false <|
        .done) [9] [2, 3, 4, 6, 8, 9, 36, 37, 53, 54]))
  (.reg [⟨0, some 63, none, .k (.bin .add (.t 54) (.c (.int .i64 1)))⟩, ⟨1, some 54, none, .k (.mov (.t 63))⟩] [2, 3, 4, 6, 8, 9, 36, 37, 53, 54])))
def m24k0 : MC :=
  .seq (.reg [⟨0, some 64, none, .k (.mov (.t 8))⟩, ⟨1, some 65, none, .call (.f 66) [.t 64]⟩] [2, 3, 4, 6, 9, 36, 37])
  (.reg [⟨0, some 66, none, .k (.fadr 2 (.t 2))⟩, ⟨1, some 67, none, .k (.load 1 false (.t 66))⟩, ⟨2, some 68, none, .k (.load 4 true (.t 9))⟩, ⟨3, some 69, none, .k (.mkSl 4 [.str [], .int .i64 0, .int .i64 0, .sl 3 [] .exact] [.t 68])⟩, ⟨4, some 70, none, .k (.app 4 56 (.t 67) (.t 69))⟩, ⟨5, some 71, none, .k (.fadr 2 (.t 2))⟩, ⟨6, none, none, .k (.store 1 (.t 71) (.t 70))⟩] [2, 3, 4, 6, 36, 37])
def m24k1 : MC :=
  .reg [⟨0, some 72, none, .k (.bin .add (.t 37) (.c (.int .i64 1)))⟩, ⟨1, some 37, none, .k (.mov (.t 72))⟩] [2, 3, 4, 6, 36, 37]
def m24l2 : MC :=
  .seq (.reg [⟨0, some 38, none, .k (.bin .lss (.t 37) (.t 36))⟩] [2, 3, 4, 6, 36, 37, 38])
  (.seq (.cond (.t 38)
    (.skip)
    (.exit 2))
  (.seq (.block 3
    (.seq (.reg [⟨0, some 39, none, .k (.mov (.t 4))⟩, ⟨1, some 40, none, .call (.f 63) [.t 39]⟩, ⟨2, some 8, none, .k (.mov (.t 40))⟩] [2, 3, 4, 6, 8, 36, 37])
    (.seq (.reg [⟨0, some 9, none, .k (.alloc [.str [], .int .i64 0, .int .i64 0, .sl 3 [] .exact])⟩] [2, 3, 4, 6, 8, 9, 36, 37])
    (.seq (.reg [⟨0, some 41, none, .k (.mov (.t 8))⟩, ⟨1, some 42, none, .call (.f 64) [.t 41]⟩, ⟨2, some 43, none, .k (.fadr 0 (.t 9))⟩, ⟨3, some 44, none, .k (.fadr 0 (.t 43))⟩, ⟨4, none, none, .k (.store 1 (.t 44) (.t 42))⟩] [2, 3, 4, 6, 8, 9, 36, 37])
    (.seq (.reg [⟨0, some 45, none, .k (.mov (.t 8))⟩, ⟨1, some 46, none, .call (.f 67) [.t 45]⟩, ⟨2, some 47, none, .k (.fadr 0 (.t 9))⟩, ⟨3, some 48, none, .k (.fadr 1 (.t 47))⟩, ⟨4, none, none, .k (.store 1 (.t 48) (.t 46))⟩] [2, 3, 4, 6, 8, 9, 36, 37])
    (.seq (.reg [⟨0, some 49, none, .k (.mov (.t 8))⟩, ⟨1, some 50, none, .call (.f 67) [.t 49]⟩, ⟨2, some 51, none, .k (.fadr 0 (.t 9))⟩, ⟨3, some 52, none, .k (.fadr 2 (.t 51))⟩, ⟨4, none, none, .k (.store 1 (.t 52) (.t 50))⟩] [2, 3, 4, 6, 8, 9, 36, 37])
    (.seq (.seq (.reg [⟨0, some 53, none, .k (.mov (.t 6))⟩, ⟨1, some 54, none, .k (.mov (.c (.int .i64 0)))⟩] [2, 3, 4, 6, 8, 9, 36, 37, 53, 54])
    (.block 4
      (.loop m24l1)))
    (.named [2, 3, 4, 6, 8, 9, 36, 37] m24k0))))))))
  (.named [2, 3, 4, 6, 36, 37] m24k1)))
def m24k2 : MC :=
  .seq (.reg [⟨0, some 79, none, .k (.load 3 true (.t 2))⟩, ⟨1, none, none, .k (.store 3 (.t 2) (.t 79))⟩, ⟨2, none, none, .k (.store 1 (.t 3) (.c (.int .i64 0)))⟩] [2, 3])
  (.ret)
def m24k3 : MC :=
  .seq (.reg [⟨0, some 73, none, .k (.mov (.t 4))⟩, ⟨1, some 74, none, .call (.f 66) [.t 73]⟩] [2, 3])
  (.seq (.seq (.reg [⟨0, some 75, none, .k (.load 3 true (.t 2))⟩, ⟨1, some 76, none, .call (.f 37) [.t 75]⟩, ⟨2, some 77, none, .k (.un .not (.t 76))⟩] [2, 3, 77])
  (.cond (.t 77)
    (.reg [⟨0, some 78, none, .k (.ifc 32 (.c (.int .i64 3)))⟩, ⟨1, none, none, .panic (.t 78)⟩] [2, 3])
    (.skip)))
  (.named [2, 3] m24k2))
def m24k4 : MC :=
  .seq (.reg [⟨0, some 32, none, .k (.mov (.t 5))⟩, ⟨1, some 33, none, .call (.f 65) [.t 32, .c (.int .u64 256)]⟩, ⟨2, some 7, none, .k (.mov (.t 33))⟩] [2, 3, 4, 5, 6, 7])
  (.seq (.reg [⟨0, some 34, none, .k (.mov (.t 5))⟩, ⟨1, some 35, none, .call (.f 66) [.t 34]⟩] [2, 3, 4, 6, 7])
  (.seq (.seq (.reg [⟨0, some 36, none, .k (.mov (.t 7))⟩, ⟨1, some 37, none, .k (.mov (.c (.int .i64 0)))⟩] [2, 3, 4, 6, 36, 37])
  (.block 2
    (.loop m24l2)))
  (.named [2, 3, 4] m24k3)))
def m24 : MC :=
  .seq (.reg [⟨0, some 2, none, .k (.alloc [.str [], .sl 1 [] .exact, .sl 4 [] .exact])⟩, ⟨1, some 3, none, .k (.alloc [.int .i64 0])⟩] [0, 2, 3])
  (.seq (.dfr [⟨0, some 10, none, .k (.func (.func 62) [] [.t 2, .t 3])⟩] (.t 10) [] [0, 2, 3])
  (.seq (.reg [⟨0, some 11, none, .k (.mov (.t 0))⟩, ⟨1, some 12, none, .k (.build [.sl 1 [] .exact] [(0, 1, .t 11)])⟩, ⟨2, some 13, none, .k (.box (.t 12))⟩, ⟨3, some 4, none, .k (.mov (.t 13))⟩] [2, 3, 4])
  (.seq (.reg [⟨0, some 14, none, .k (.mov (.t 4))⟩, ⟨1, some 15, none, .call (.f 63) [.t 14]⟩, ⟨2, some 5, none, .k (.mov (.t 15))⟩] [2, 3, 4, 5])
  (.seq (.reg [⟨0, some 16, none, .k (.mov (.t 5))⟩, ⟨1, some 17, none, .call (.f 64) [.t 16]⟩, ⟨2, some 18, none, .k (.fadr 0 (.t 2))⟩, ⟨3, none, none, .k (.store 1 (.t 18) (.t 17))⟩] [2, 3, 4, 5])
  (.seq (.reg [⟨0, some 19, none, .k (.mov (.t 5))⟩, ⟨1, some 20, none, .call (.f 65) [.t 19, .c (.int .u64 8)]⟩, ⟨2, some 6, none, .k (.mov (.t 20))⟩] [2, 3, 4, 5, 6])
  (.seq (.seq (.reg [⟨0, some 21, none, .k (.mov (.t 6))⟩, ⟨1, some 22, none, .k (.mov (.c (.int .i64 0)))⟩] [2, 3, 4, 5, 6, 21, 22])
  (.block 0
    (.loop m24l0)))
  (.named [2, 3, 4, 5, 6] m24k4)))))))
theorem is24 : FnIs Tryz.prog 24 80 m24 [.c 2 3 true, .c 3 1 false] := .of Tryz.call24 Tryz.func24 (by kernel_rfl)
def m25k0 : MC :=
  .cond (.t 66)
    (.reg [⟨0, some 67, none, .k (.ifc 32 (.c (.int .i64 40)))⟩, ⟨1, none, none, .panic (.t 67)⟩] [4, 5, 6, 7, 8, 9])
    (.skip)
def m25k1 : MC :=
  .seq (.any (.one ⟨0, some 68, none, .k (.mov (.t 9))⟩ false false <|
      .one ⟨1, some 69, none, .k (.mov (.t 8))⟩ false false <|
      .one ⟨2, some 70, none, .k (.mov (.t 8))⟩ false false <|
      .one ⟨3, some 71, none, .k (.slV 1 (.t 68) none (some (.t 69)) (some (.t 70)))⟩ false false <|
      .one ⟨4, some 72, none, .k (.mov (.t 7))⟩ false false <|
      .one ⟨5, some 73, none, .k (.nilChk (.t 72))⟩ false false <|
      .one ⟨6, some 74, none, .k (.fadr 1 (.t 73))⟩ false false <|
      .one ⟨7, some 75, none, .k (.load 1 false (.t 74))⟩ false false <|
      .one ⟨8, some 4, none, .k (.mov (.t 71))⟩ false false <|
      .one ⟨9, none, none, .k (.store 1 (.t 5) (.t 75))⟩ false false <|
      .one ⟨10, none, none, .k (.store 1 (.t 6) (.c (.int .i64 0)))⟩ false false <|
      .done) [] [4, 5, 6])
  (.ret)
def m25k2 : MC :=
  .seq (.reg [⟨0, some 19, none, .k (.mov (.t 7))⟩, ⟨1, some 20, none, .k (.mov (.t 8))⟩, ⟨2, some 21, none, .k (.bin .add (.t 20) (.c (.int .u64 4)))⟩, ⟨3, some 22, none, .call (.f 72) [.t 19, .t 21]⟩, ⟨4, some 9, none, .k (.mov (.t 22))⟩] [4, 5, 6, 7, 8, 9])
  (.seq (.reg [⟨0, some 23, none, .k (.mov (.t 9))⟩, ⟨1, some 24, none, .k (.mov (.t 8))⟩, ⟨2, some 25, none, .k (.slV 1 (.t 23) none (some (.t 24)) none)⟩, ⟨3, some 26, none, .call (.f 73) [.t 25]⟩, ⟨4, some 10, none, .k (.mov (.t 26))⟩] [4, 5, 6, 7, 8, 9, 10])
  (.seq (.seq (.reg [⟨0, some 27, none, .k (.mov (.t 9))⟩, ⟨1, some 28, none, .k (.mov (.t 8))⟩, ⟨2, some 29, none, .k (.iadr 1 (.t 27) (.t 28))⟩, ⟨3, some 30, none, .k (.load 1 false (.t 29))⟩, ⟨4, some 31, none, .k (.mov (.t 10))⟩, ⟨5, some 32, none, .k (.conv .u8 (.t 31))⟩, ⟨6, some 33, none, .k (.bin .neq (.t 30) (.t 32))⟩, ⟨7, some 34, none, .k (.mov (.t 33))⟩, ⟨8, some 35, (some (34, false)), .k (.mov (.t 9))⟩, ⟨9, some 36, (some (34, false)), .k (.mov (.t 8))⟩, ⟨10, some 37, (some (34, false)), .k (.bin .add (.t 36) (.c (.int .u64 1)))⟩, ⟨11, some 38, (some (34, false)), .k (.iadr 1 (.t 35) (.t 37))⟩, ⟨12, some 39, (some (34, false)), .k (.load 1 false (.t 38))⟩, ⟨13, some 40, (some (34, false)), .k (.mov (.t 10))⟩, ⟨14, some 41, (some (34, false)), .k (.bin .shr (.t 40) (.c (.int .u64 8)))⟩, ⟨15, some 42, (some (34, false)), .k (.conv .u8 (.t 41))⟩, ⟨16, some 43, (some (34, false)), .k (.bin .neq (.t 39) (.t 42))⟩, ⟨17, some 44, none, .k (.pick (.t 34) (.c (.bool true)) (.t 43))⟩, ⟨18, some 45, none, .k (.mov (.t 44))⟩, ⟨19, some 46, (some (45, false)), .k (.mov (.t 9))⟩, ⟨20, some 47, (some (45, false)), .k (.mov (.t 8))⟩, ⟨21, some 48, (some (45, false)), .k (.bin .add (.t 47) (.c (.int .u64 2)))⟩, ⟨22, some 49, (some (45, false)), .k (.iadr 1 (.t 46) (.t 48))⟩, ⟨23, some 50, (some (45, false)), .k (.load 1 false (.t 49))⟩, ⟨24, some 51, (some (45, false)), .k (.mov (.t 10))⟩, ⟨25, some 52, (some (45, false)), .k (.bin .shr (.t 51) (.c (.int .u64 16)))⟩, ⟨26, some 53, (some (45, false)), .k (.conv .u8 (.t 52))⟩, ⟨27, some 54, (some (45, false)), .k (.bin .neq (.t 50) (.t 53))⟩, ⟨28, some 55, none, .k (.pick (.t 45) (.c (.bool true)) (.t 54))⟩, ⟨29, some 56, none, .k (.mov (.t 55))⟩, ⟨30, some 57, (some (56, false)), .k (.mov (.t 9))⟩, ⟨31, some 58, (some (56, false)), .k (.mov (.t 8))⟩, ⟨32, some 59, (some (56, false)), .k (.bin .add (.t 58) (.c (.int .u64 3)))⟩, ⟨33, some 60, (some (56, false)), .k (.iadr 1 (.t 57) (.t 59))⟩, ⟨34, some 61, (some (56, false)), .k (.load 1 false (.t 60))⟩, ⟨35, some 62, (some (56, false)), .k (.mov (.t 10))⟩, ⟨36, some 63, (some (56, false)), .k (.bin .shr (.t 62) (.c (.int .u64 24)))⟩, ⟨37, some 64, (some (56, false)), .k (.conv .u8 (.t 63))⟩, ⟨38, some 65, (some (56, false)), .k (.bin .neq (.t 61) (.t 64))⟩, ⟨39, some 66, none, .k (.pick (.t 56) (.c (.bool true)) (.t 65))⟩] [4, 5, 6, 7, 8, 9, 66])
  (.named [4, 5, 6, 7, 8, 9, 66] m25k0))
  (.named [4, 5, 6, 7, 8, 9] m25k1)))
def m25 : MC :=
  .seq (.reg [⟨0, some 4, none, .k (.mov (.c (.sl 1 [] .exact)))⟩, ⟨1, some 5, none, .k (.alloc [.int .i64 0])⟩, ⟨2, some 6, none, .k (.alloc [.int .i64 0])⟩] [0, 1, 4, 5, 6])
  (.seq (.dfr [] (.f 69) [.t 5, .t 6] [0, 1, 4, 5, 6])
  (.seq (.reg [⟨0, some 11, none, .k (.mov (.t 0))⟩, ⟨1, some 12, none, .k (.mov (.t 1))⟩, ⟨2, some 13, none, .call (.f 70) [.t 11, .t 12]⟩, ⟨3, some 7, none, .k (.mov (.t 13))⟩] [4, 5, 6, 7])
  (.seq (.reg [⟨0, some 14, none, .k (.mov (.t 7))⟩, ⟨1, some 15, none, .call (.f 71) [.t 14]⟩, ⟨2, some 8, none, .k (.mov (.t 15))⟩] [4, 5, 6, 7, 8])
  (.seq (.seq (.reg [⟨0, some 16, none, .k (.mov (.t 8))⟩, ⟨1, some 17, none, .k (.bin .gtr (.t 16) (.c (.int .u64 8192)))⟩] [4, 5, 6, 7, 8, 17])
  (.cond (.t 17)
    (.reg [⟨0, some 18, none, .k (.ifc 32 (.c (.int .i64 2)))⟩, ⟨1, none, none, .panic (.t 18)⟩] [4, 5, 6, 7, 8])
    (.skip)))
  (.named [4, 5, 6, 7, 8] m25k2)))))
theorem is25 : FnIs Tryz.prog 25 76 m25 [.t 4, .c 5 1 false, .c 6 1 false] := .of Tryz.call25 Tryz.func25 (by kernel_rfl)
def m27 : MC :=
  .seq (.reg [⟨0, some 2, none, .k (.box (.t 0))⟩, ⟨1, some 3, none, .k (.box (.t 1))⟩, ⟨2, some 4, none, .k (.mov (.c (.bool false)))⟩] [2, 3])
  (.seq (.seq (.reg [⟨0, some 5, none, .k (.fadr 0 (.t 2))⟩, ⟨1, some 6, none, .k (.load 1 false (.t 5))⟩, ⟨2, some 7, none, .k (.fadr 0 (.t 3))⟩, ⟨3, some 8, none, .k (.load 1 false (.t 7))⟩, ⟨4, some 9, none, .k (.bin .neq (.t 6) (.t 8))⟩] [2, 3, 9])
  (.cond (.t 9)
    (.seq (.reg [⟨0, some 10, none, .k (.fadr 0 (.t 2))⟩, ⟨1, some 11, none, .k (.load 1 false (.t 10))⟩, ⟨2, some 12, none, .k (.fadr 0 (.t 3))⟩, ⟨3, some 13, none, .k (.load 1 false (.t 12))⟩, ⟨4, some 14, none, .k (.bin .lss (.t 11) (.t 13))⟩, ⟨5, some 4, none, .k (.mov (.t 14))⟩] [4])
    (.ret))
    (.skip)))
  (.seq (.seq (.reg [⟨0, some 15, none, .k (.fadr 1 (.t 2))⟩, ⟨1, some 16, none, .k (.load 1 false (.t 15))⟩, ⟨2, some 17, none, .k (.fadr 1 (.t 3))⟩, ⟨3, some 18, none, .k (.load 1 false (.t 17))⟩, ⟨4, some 19, none, .k (.bin .neq (.t 16) (.t 18))⟩] [2, 3, 19])
  (.cond (.t 19)
    (.seq (.reg [⟨0, some 20, none, .k (.fadr 1 (.t 2))⟩, ⟨1, some 21, none, .k (.load 1 false (.t 20))⟩, ⟨2, some 22, none, .k (.fadr 1 (.t 3))⟩, ⟨3, some 23, none, .k (.load 1 false (.t 22))⟩, ⟨4, some 24, none, .k (.bin .lss (.t 21) (.t 23))⟩, ⟨5, some 4, none, .k (.mov (.t 24))⟩] [4])
    (.ret))
    (.skip)))
  (.seq (.reg [⟨0, some 25, none, .k (.fadr 2 (.t 2))⟩, ⟨1, some 26, none, .k (.load 1 false (.t 25))⟩, ⟨2, some 27, none, .k (.fadr 2 (.t 3))⟩, ⟨3, some 28, none, .k (.load 1 false (.t 27))⟩, ⟨4, some 29, none, .k (.bin .lss (.t 26) (.t 28))⟩, ⟨5, some 4, none, .k (.mov (.t 29))⟩] [4])
  (.ret))))
theorem is27 : FnIs Tryz.prog 27 30 m27 [.t 4] := .of Tryz.call27 Tryz.func27 (by kernel_rfl)
def m32k0 : MC :=
  .cond (.t 25)
    (.skip)
    (.reg [⟨0, some 34, none, .k (.mov (.t 4))⟩, ⟨1, some 35, none, .k (.un .not (.t 34))⟩, ⟨2, some 36, none, .k (.mov (.t 35))⟩, ⟨3, some 37, (some (36, true)), .k (.fadr 2 (.t 1))⟩, ⟨4, some 38, (some (36, true)), .k (.load 1 false (.t 37))⟩, ⟨5, some 39, (some (36, true)), .k (.bin .neq (.t 38) (.c (.str [])))⟩, ⟨6, some 40, none, .k (.pick (.t 36) (.t 39) (.c (.bool false)))⟩, ⟨7, some 25, none, .k (.mov (.t 40))⟩] [1, 3, 4, 25])
def m32k1 : MC :=
  .cond (.t 59)
    (.seq (.reg [⟨0, some 2, none, .k (.mov (.c (.int .i64 2)))⟩] [2])
    (.ret))
    (.skip)
def m32k2 : MC :=
  .cond (.t 41)
    (.seq (.reg [⟨0, some 2, none, .k (.mov (.c (.int .i64 1)))⟩] [2])
    (.ret))
    (.seq (.reg [⟨0, some 60, none, .k (.fadr 1 (.t 1))⟩, ⟨1, some 61, none, .k (.load 1 false (.t 60))⟩, ⟨2, some 62, none, .k (.bin .lss (.t 61) (.c (.int .i64 (-1152921504606846976))))⟩, ⟨3, some 63, none, .k (.mov (.t 62))⟩, ⟨4, some 64, (some (63, false)), .k (.fadr 1 (.t 1))⟩, ⟨5, some 65, (some (63, false)), .k (.load 1 false (.t 64))⟩, ⟨6, some 66, (some (63, false)), .k (.bin .gtr (.t 65) (.c (.int .i64 1152921504606846976)))⟩, ⟨7, some 67, none, .k (.pick (.t 63) (.c (.bool true)) (.t 66))⟩, ⟨8, some 59, none, .k (.mov (.t 67))⟩] [1, 4, 59])
    (.named [1, 4, 59] m32k1))
def m32k3 : MC :=
  .cond (.t 25)
    (.seq (.reg [⟨0, some 2, none, .k (.mov (.c (.int .i64 1)))⟩] [2])
    (.ret))
    (.seq (.reg [⟨0, some 42, none, .k (.mov (.t 3))⟩, ⟨1, some 43, none, .k (.un .not (.t 42))⟩, ⟨2, some 44, none, .k (.mov (.t 43))⟩, ⟨3, some 45, (some (44, true)), .k (.fadr 1 (.t 1))⟩, ⟨4, some 46, (some (44, true)), .k (.load 1 false (.t 45))⟩, ⟨5, some 47, (some (44, true)), .k (.bin .neq (.t 46) (.c (.int .i64 0)))⟩, ⟨6, some 48, none, .k (.pick (.t 44) (.t 47) (.c (.bool false)))⟩, ⟨7, some 49, none, .k (.mov (.t 48))⟩, ⟨8, some 50, (some (49, true)), .k (.fadr 0 (.t 1))⟩, ⟨9, some 51, (some (49, true)), .k (.load 1 false (.t 50))⟩, ⟨10, some 52, (some (49, true)), .k (.bin .neq (.t 51) (.c (.int .i64 1)))⟩, ⟨11, some 53, (some (49, true)), .k (.mov (.t 52))⟩, ⟨12, some 54, (some (53, false)), .k (.fadr 1 (.t 1))⟩, ⟨13, some 55, (some (53, false)), .k (.load 1 false (.t 54))⟩, ⟨14, some 56, (some (53, false)), .k (.bin .neq (.t 55) (.c (.int .i64 1)))⟩, ⟨15, some 57, (some (49, true)), .k (.pick (.t 53) (.c (.bool true)) (.t 56))⟩, ⟨16, some 58, none, .k (.pick (.t 49) (.t 57) (.c (.bool false)))⟩, ⟨17, some 41, none, .k (.mov (.t 58))⟩] [1, 4, 41])
    (.named [1, 4, 41] m32k2))
def m32k4 : MC :=
  .cond (.t 85)
    (.seq (.reg [⟨0, some 2, none, .k (.mov (.c (.int .i64 3)))⟩] [2])
    (.ret))
    (.skip)
def m32k5 : MC :=
  .cond (.t 110)
    (.seq (.reg [⟨0, some 2, none, .k (.mov (.c (.int .i64 3)))⟩] [2])
    (.ret))
    (.skip)
def m32k6 : MC :=
  .reg [⟨0, some 111, none, .k (.bin .add (.t 89) (.c (.int .i64 1)))⟩, ⟨1, some 89, none, .k (.mov (.t 111))⟩] [1, 6, 88, 89]
def m32l0 : MC :=
  .seq (.reg [⟨0, some 90, none, .k (.bin .lss (.t 89) (.t 88))⟩] [1, 6, 88, 89, 90])
  (.seq (.cond (.t 90)
    (.skip)
    (.exit 1))
  (.seq (.block 2
    (.seq (.reg [⟨0, some 91, none, .k (.mov (.t 89))⟩, ⟨1, some 7, none, .k (.mov (.t 91))⟩] [1, 6, 7, 88, 89])
    (.seq (.reg [⟨0, some 92, none, .k (.fadr 2 (.t 1))⟩, ⟨1, some 93, none, .k (.load 1 false (.t 92))⟩, ⟨2, some 94, none, .k (.mov (.t 7))⟩, ⟨3, some 95, none, .k (.istr (.t 93) (.t 94))⟩, ⟨4, some 8, none, .k (.mov (.t 95))⟩] [1, 6, 8, 88, 89])
    (.seq (.reg [⟨0, some 96, none, .k (.mov (.t 8))⟩, ⟨1, some 97, none, .k (.mov (.t 6))⟩, ⟨2, some 98, none, .k (.bin .lss (.t 96) (.t 97))⟩, ⟨3, some 99, none, .k (.mov (.t 98))⟩, ⟨4, some 100, (some (99, false)), .k (.mov (.t 8))⟩, ⟨5, some 101, (some (99, false)), .k (.bin .gtr (.t 100) (.c (.int .u8 126)))⟩, ⟨6, some 102, none, .k (.pick (.t 99) (.c (.bool true)) (.t 101))⟩, ⟨7, some 103, none, .k (.mov (.t 102))⟩, ⟨8, some 104, (some (103, false)), .k (.mov (.t 8))⟩, ⟨9, some 105, (some (103, false)), .k (.bin .eql (.t 104) (.c (.int .u8 34)))⟩, ⟨10, some 106, none, .k (.pick (.t 103) (.c (.bool true)) (.t 105))⟩, ⟨11, some 107, none, .k (.mov (.t 106))⟩, ⟨12, some 108, (some (107, false)), .k (.mov (.t 8))⟩, ⟨13, some 109, (some (107, false)), .k (.bin .eql (.t 108) (.c (.int .u8 92)))⟩, ⟨14, some 110, none, .k (.pick (.t 107) (.c (.bool true)) (.t 109))⟩] [1, 6, 88, 89, 110])
    (.named [1, 6, 88, 89, 110] m32k5)))))
  (.named [1, 6, 88, 89] m32k6)))
def m32k7 : MC :=
  .seq (.reg [⟨0, some 2, none, .k (.mov (.c (.int .i64 0)))⟩] [2])
  (.ret)
def m32k8 : MC :=
  .seq (.seq (.reg [⟨0, some 86, none, .k (.fadr 2 (.t 1))⟩, ⟨1, some 87, none, .k (.load 1 false (.t 86))⟩, ⟨2, some 88, none, .k (.len true (.t 87))⟩, ⟨3, some 89, none, .k (.mov (.c (.int .i64 0)))⟩] [1, 6, 88, 89])
  (.block 1
    (.loop m32l0)))
  (.named [] m32k7)
def m32k9 : MC :=
  .seq (.seq (.reg [⟨0, some 73, none, .k (.fadr 2 (.t 1))⟩, ⟨1, some 74, none, .k (.load 1 false (.t 73))⟩, ⟨2, some 75, none, .k (.len true (.t 74))⟩, ⟨3, some 76, none, .k (.mov (.t 5))⟩, ⟨4, some 77, none, .k (.bin .gtr (.t 75) (.t 76))⟩] [1, 6, 77])
  (.cond (.t 77)
    (.seq (.reg [⟨0, some 2, none, .k (.mov (.c (.int .i64 2)))⟩] [2])
    (.ret))
    (.skip)))
  (.seq (.seq (.reg [⟨0, some 78, none, .k (.fadr 0 (.t 1))⟩, ⟨1, some 79, none, .k (.load 1 false (.t 78))⟩, ⟨2, some 80, none, .k (.bin .eql (.t 79) (.c (.int .i64 5)))⟩, ⟨3, some 81, none, .k (.mov (.t 80))⟩, ⟨4, some 82, (some (81, true)), .k (.fadr 2 (.t 1))⟩, ⟨5, some 83, (some (81, true)), .k (.load 1 false (.t 82))⟩, ⟨6, some 84, (some (81, true)), .k (.bin .eql (.t 83) (.c (.str [])))⟩, ⟨7, some 85, none, .k (.pick (.t 81) (.t 84) (.c (.bool false)))⟩] [1, 6, 85])
  (.named [1, 6, 85] m32k4))
  (.named [1, 6] m32k8))
def m32k10 : MC :=
  .seq (.seq (.reg [⟨0, some 68, none, .k (.mov (.t 4))⟩, ⟨1, some 69, none, .k (.un .not (.t 68))⟩] [1, 69])
  (.cond (.t 69)
    (.seq (.reg [⟨0, some 2, none, .k (.mov (.c (.int .i64 0)))⟩] [2])
    (.ret))
    (.skip)))
  (.seq (.reg [⟨0, some 5, none, .k (.mov (.c (.int .i64 64)))⟩, ⟨1, some 6, none, .k (.mov (.c (.int .u8 32)))⟩] [1, 5, 6])
  (.seq (.seq (.reg [⟨0, some 70, none, .k (.fadr 0 (.t 1))⟩, ⟨1, some 71, none, .k (.load 1 false (.t 70))⟩, ⟨2, some 72, none, .k (.bin .eql (.t 71) (.c (.int .i64 5)))⟩] [1, 5, 6, 72])
  (.cond (.t 72)
    (.reg [⟨0, some 5, none, .k (.mov (.c (.int .i64 32)))⟩, ⟨1, some 6, none, .k (.mov (.c (.int .u8 33)))⟩] [1, 5, 6])
    (.skip)))
  (.named [1, 5, 6] m32k9)))
def m32k11 : MC :=
  .seq (.block 0
    (.seq (.seq (.reg [⟨0, some 26, none, .k (.fadr 0 (.t 1))⟩, ⟨1, some 27, none, .k (.load 1 false (.t 26))⟩, ⟨2, some 28, none, .k (.bin .lss (.t 27) (.c (.int .i64 0)))⟩, ⟨3, some 29, none, .k (.mov (.t 28))⟩, ⟨4, some 30, (some (29, false)), .k (.fadr 0 (.t 1))⟩, ⟨5, some 31, (some (29, false)), .k (.load 1 false (.t 30))⟩, ⟨6, some 32, (some (29, false)), .k (.bin .gtr (.t 31) (.c (.int .i64 5)))⟩, ⟨7, some 33, none, .k (.pick (.t 29) (.c (.bool true)) (.t 32))⟩, ⟨8, some 25, none, .k (.mov (.t 33))⟩] [1, 3, 4, 25])
    (.named [1, 3, 4, 25] m32k0))
    (.named [1, 3, 4, 25] m32k3)))
  (.named [1, 4] m32k10)
def m32k12 : MC :=
  .seq (.reg [⟨0, some 17, none, .k (.fadr 0 (.t 1))⟩, ⟨1, some 18, none, .k (.load 1 false (.t 17))⟩, ⟨2, some 19, none, .k (.bin .eql (.t 18) (.c (.int .i64 4)))⟩, ⟨3, some 20, none, .k (.mov (.t 19))⟩, ⟨4, some 21, (some (20, false)), .k (.fadr 0 (.t 1))⟩, ⟨5, some 22, (some (20, false)), .k (.load 1 false (.t 21))⟩, ⟨6, some 23, (some (20, false)), .k (.bin .eql (.t 22) (.c (.int .i64 5)))⟩, ⟨7, some 24, none, .k (.pick (.t 20) (.c (.bool true)) (.t 23))⟩, ⟨8, some 4, none, .k (.mov (.t 24))⟩] [1, 3, 4])
  (.named [1, 3, 4] m32k11)
def m32 : MC :=
  .seq (.reg [⟨0, some 1, none, .k (.box (.t 0))⟩, ⟨1, some 2, none, .k (.mov (.c (.int .i64 0)))⟩] [1])
  (.seq (.reg [⟨0, some 9, none, .k (.fadr 0 (.t 1))⟩, ⟨1, some 10, none, .k (.load 1 false (.t 9))⟩, ⟨2, some 11, none, .k (.bin .eql (.t 10) (.c (.int .i64 2)))⟩, ⟨3, some 12, none, .k (.mov (.t 11))⟩, ⟨4, some 13, (some (12, false)), .k (.fadr 0 (.t 1))⟩, ⟨5, some 14, (some (12, false)), .k (.load 1 false (.t 13))⟩, ⟨6, some 15, (some (12, false)), .k (.bin .eql (.t 14) (.c (.int .i64 3)))⟩, ⟨7, some 16, none, .k (.pick (.t 12) (.c (.bool true)) (.t 15))⟩, ⟨8, some 3, none, .k (.mov (.t 16))⟩] [1, 3])
  (.named [1, 3] m32k12))
theorem is32 : FnIs Tryz.prog 32 112 m32 [.t 2] := .of Tryz.call32 Tryz.func32 (by kernel_rfl)
def m35 : MC :=
  .seq (.reg [⟨0, some 2, none, .k (.alloc [.str [], .sl 1 [] .exact, .sl 4 [] .exact])⟩] [0, 2])
  (.seq (.reg [⟨0, some 4, none, .k (.build [.str [], .int .i64 0, .int .i64 0] [(0, 1, .c (.str [117])), (1, 1, .c (.int .i64 5)), (2, 1, .c (.int .i64 9))])⟩, ⟨1, some 5, none, .k (.mov (.t 0))⟩, ⟨2, some 6, none, .k (.build [.int .i64 0, .int .i64 0, .str []] [(0, 1, .c (.int .i64 2)), (1, 1, .t 5)])⟩, ⟨3, some 7, none, .k (.build [.int .i64 0, .int .i64 0, .str []] [])⟩, ⟨4, some 8, none, .k (.mkSl 3 [.int .i64 0, .int .i64 0, .str []] [.t 6, .t 7])⟩, ⟨5, some 9, none, .k (.build [.str [], .int .i64 0, .int .i64 0, .sl 3 [] .exact] [(0, 3, .t 4), (3, 1, .t 8)])⟩, ⟨6, some 3, none, .k (.alloc [.str [], .int .i64 0, .int .i64 0, .sl 3 [] .exact])⟩, ⟨7, none, none, .k (.store 4 (.t 3) (.t 9))⟩] [2, 3])
  (.seq (.reg [⟨0, some 10, none, .k (.mkSl 1 [.str []] [.c (.str [97]), .c (.str [98])])⟩, ⟨1, some 11, none, .k (.load 4 true (.t 3))⟩, ⟨2, some 12, none, .k (.mkSl 4 [.str [], .int .i64 0, .int .i64 0, .sl 3 [] .exact] [.t 11])⟩, ⟨3, some 13, none, .k (.build [.str [], .sl 1 [] .exact, .sl 4 [] .exact] [(0, 1, .c (.str [117, 115, 101, 114])), (1, 1, .t 10), (2, 1, .t 12)])⟩, ⟨4, none, none, .k (.store 3 (.t 2) (.t 13))⟩] [2])
  (.ret)))
theorem is35 : FnIs Tryz.prog 35 14 m35 [.c 2 3 true] := .of Tryz.call35 Tryz.func35 (by kernel_rfl)
def m36l0 : MC :=
  .seq (.reg [⟨0, some 33, none, .k (.bin .lss (.t 32) (.t 31))⟩] [3, 4, 30, 31, 32, 33])
  (.seq (.cond (.t 33)
    (.skip)
    (.exit 0))
  (.seq (.block 1
    (.seq (.reg [⟨0, some 34, none, .k (.iadr 3 (.t 30) (.t 32))⟩, ⟨1, some 35, none, .k (.load 3 true (.t 34))⟩, ⟨2, some 6, none, .k (.alloc [.str [], .int .i64 0, .int .i64 0])⟩, ⟨3, none, none, .k (.store 3 (.t 6) (.t 35))⟩] [3, 4, 6, 30, 31, 32])
    (.seq (.any (.one ⟨0, some 36, none, .k (.mov (.t 4))⟩ false false <|
        .one ⟨1, some 37, none, .k (.bin .add (.t 36) (.c (.str [34])))⟩ false false <|
        .one ⟨2, some 38, none, .k (.fadr 0 (.t 6))⟩ false false <|
        .one ⟨3, some 39, none, .k (.load 1 false (.t 38))⟩ true false <|
        .one ⟨4, some 40, none, .k (.bin .add (.t 37) (.t 39))⟩ false false <|
        .one ⟨5, some 41, none, .k (.bin .add (.t 40) (.c (.str [34, 32])))⟩ false false <|
        .one ⟨6, some 42, none, .k (.fadr 1 (.t 6))⟩ false false <|
        .one ⟨7, some 43, none, .k (.load 1 false (.t 42))⟩ true false <|
        .one ⟨11, some 47, none, .k (.fadr 2 (.t 6))⟩ false false <|
        .one ⟨12, some 48, none, .k (.load 1 false (.t 47))⟩ true false <|
        .one ⟨8, some 44, none, .call (.f 51) [.t 43]⟩ false true <|
        .one ⟨9, some 45, none, .k (.bin .add (.t 41) (.t 44))⟩ false false <|
        .one ⟨10, some 46, none, .k (.bin .add (.t 45) (.c (.str [32])))⟩ false false <|
        .one ⟨13, some 49, none, .call (.f 51) [.t 48]⟩ false true <|
        .one ⟨14, some 50, none, .k (.bin .add (.t 46) (.t 49))⟩ false false <|
        .one ⟨15, some 51, none, .call (.f 49) [.t 3, .t 50]⟩ false true <|
        .done) [6] [3, 30, 31, 32])
    (.reg [⟨0, some 4, none, .k (.mov (.c (.str [44, 32])))⟩] [3, 4, 30, 31, 32]))))
  (.reg [⟨0, some 52, none, .k (.bin .add (.t 32) (.c (.int .i64 1)))⟩, ⟨1, some 32, none, .k (.mov (.t 52))⟩] [3, 4, 30, 31, 32])))
def m36k0 : MC :=
  .seq (.reg [⟨0, some 53, none, .call (.f 53) [.t 3]⟩, ⟨1, some 2, none, .k (.mov (.t 53))⟩] [2])
  (.ret)
def m36 : MC :=
  .seq (.reg [⟨0, some 1, none, .k (.box (.t 0))⟩, ⟨1, some 2, none, .k (.mov (.c (.str [])))⟩] [1])
  (.seq (.seq (.reg [⟨0, some 7, none, .k (.load 5 true (.t 1))⟩, ⟨1, some 8, none, .call (.f 91) [.t 7]⟩, ⟨2, some 9, none, .k (.un .not (.t 8))⟩] [1, 9])
  (.cond (.t 9)
    (.seq (.reg [⟨0, some 2, none, .k (.mov (.c (.str [])))⟩] [2])
    (.ret))
    (.skip)))
  (.seq (.reg [⟨0, some 3, none, .k .allocB⟩] [1, 3])
  (.seq (.any (.one ⟨0, some 10, none, .k (.fadr 0 (.t 1))⟩ false false <|
      .one ⟨1, some 11, none, .k (.load 1 false (.t 10))⟩ true false <|
      .one ⟨2, some 12, none, .k (.bin .add (.c (.str [111, 102, 32])) (.t 11))⟩ false false <|
      .one ⟨3, some 13, none, .k (.bin .add (.t 12) (.c (.str [32, 116, 97, 107, 101, 32])))⟩ false false <|
      .one ⟨4, some 14, none, .k (.fadr 1 (.t 1))⟩ false false <|
      .one ⟨5, some 15, none, .k (.load 1 false (.t 14))⟩ true false <|
      .one ⟨6, some 16, none, .call (.f 50) [.t 15, .c (.str [44, 32])]⟩ false true <|
      .one ⟨7, some 17, none, .k (.bin .add (.t 13) (.t 16))⟩ false false <|
      .one ⟨8, some 18, none, .call (.f 49) [.t 3, .t 17]⟩ false true <|
      .done) [1] [1, 3])
  (.seq (.any (.one ⟨0, some 19, none, .k (.fadr 3 (.t 1))⟩ false false <|
      .one ⟨1, some 20, none, .k (.load 1 false (.t 19))⟩ true false <|
      .one ⟨5, some 24, none, .k (.fadr 4 (.t 1))⟩ false false <|
      .one ⟨6, some 25, none, .k (.load 1 false (.t 24))⟩ true false <|
      .one ⟨2, some 21, none, .call (.f 51) [.t 20]⟩ false true <|
      .one ⟨3, some 22, none, .k (.bin .add (.c (.str [32, 115, 101, 101, 100, 32])) (.t 21))⟩ false false <|
      .one ⟨4, some 23, none, .k (.bin .add (.t 22) (.c (.str [32, 107, 101, 101, 112, 32])))⟩ false false <|
      .one ⟨7, some 26, none, .call (.f 51) [.t 25]⟩ false true <|
      .one ⟨8, some 27, none, .k (.bin .add (.t 23) (.t 26))⟩ false false <|
      .one ⟨9, some 28, none, .call (.f 49) [.t 3, .t 27]⟩ false true <|
      .done) [1] [1, 3])
  (.seq (.reg [⟨0, some 4, none, .k (.mov (.c (.str [32, 97, 116, 32])))⟩] [1, 3, 4])
  (.seq (.seq (.reg [⟨0, some 29, none, .k (.fadr 2 (.t 1))⟩, ⟨1, some 30, none, .k (.load 1 false (.t 29))⟩, ⟨2, some 31, none, .k (.len false (.t 30))⟩, ⟨3, some 32, none, .k (.mov (.c (.int .i64 0)))⟩] [3, 4, 30, 31, 32])
  (.block 0
    (.loop m36l0)))
  (.named [3] m36k0)))))))
theorem is36 : FnIs Tryz.prog 36 54 m36 [.t 2] := .of Tryz.call36 Tryz.func36 (by kernel_rfl)
def m37k0 : MC :=
  .cond (.t 29)
    (.seq (.reg [⟨0, some 2, none, .k (.mov (.c (.bool false)))⟩] [2])
    (.ret))
    (.skip)
def m37k1 : MC :=
  .cond (.t 48)
    (.seq (.reg [⟨0, some 2, none, .k (.mov (.c (.bool false)))⟩] [2])
    (.ret))
    (.skip)
def m37k2 : MC :=
  .reg [⟨0, some 49, none, .k (.bin .add (.t 33) (.c (.int .i64 1)))⟩, ⟨1, some 33, none, .k (.mov (.t 49))⟩] [1, 31, 32, 33]
def m37l0 : MC :=
  .seq (.reg [⟨0, some 34, none, .k (.bin .lss (.t 33) (.t 32))⟩] [1, 31, 32, 33, 34])
  (.seq (.cond (.t 34)
    (.skip)
    (.exit 0))
  (.seq (.block 1
    (.seq (.reg [⟨0, some 35, none, .k (.mov (.t 33))⟩, ⟨1, some 36, none, .k (.iadr 1 (.t 31) (.t 33))⟩, ⟨2, some 37, none, .k (.load 1 false (.t 36))⟩, ⟨3, some 3, none, .k (.mov (.t 35))⟩, ⟨4, some 4, none, .k (.mov (.t 37))⟩] [1, 3, 4, 31, 32, 33])
    (.seq (.reg [⟨0, some 38, none, .k (.mov (.t 4))⟩, ⟨1, some 39, none, .call (.f 92) [.t 38]⟩, ⟨2, some 40, none, .k (.un .not (.t 39))⟩, ⟨3, some 41, none, .k (.mov (.t 40))⟩, ⟨4, some 42, (some (41, false)), .k (.fadr 1 (.t 1))⟩, ⟨5, some 43, (some (41, false)), .k (.load 1 false (.t 42))⟩, ⟨6, some 44, (some (41, false)), .k (.mov (.t 3))⟩, ⟨7, some 45, (some (41, false)), .k (.slV 1 (.t 43) none (some (.t 44)) none)⟩, ⟨8, some 46, (some (41, false)), .k (.mov (.t 4))⟩, ⟨9, some 47, (some (41, false)), .call (.f 93) [.t 45, .t 46]⟩, ⟨10, some 48, none, .k (.pick (.t 41) (.c (.bool true)) (.t 47))⟩] [1, 31, 32, 33, 48])
    (.named [1, 31, 32, 33, 48] m37k1))))
  (.named [1, 31, 32, 33] m37k2)))
def m37k3 : MC :=
  .cond (.t 87)
    (.seq (.reg [⟨0, some 2, none, .k (.mov (.c (.bool false)))⟩] [2])
    (.ret))
    (.skip)
def m37k4 : MC :=
  .cond (.t 102)
    (.seq (.reg [⟨0, some 2, none, .k (.mov (.c (.bool false)))⟩] [2])
    (.ret))
    (.skip)
def m37k5 : MC :=
  .seq (.reg [⟨0, some 103, none, .k (.fadr 3 (.t 6))⟩, ⟨1, some 104, none, .k (.load 1 false (.t 103))⟩, ⟨2, some 105, none, .call (.f 96) [.t 104, .f 97]⟩] [1, 51, 52, 53, 105])
  (.cond (.t 105)
    (.seq (.reg [⟨0, some 2, none, .k (.mov (.c (.bool false)))⟩] [2])
    (.ret))
    (.skip))
def m37k6 : MC :=
  .seq (.seq (.any (.one ⟨0, some 88, none, .k (.mov (.t 5))⟩ false false <|
      .one ⟨1, some 89, none, .k (.bin .gtr (.t 88) (.c (.int .i64 0)))⟩ false false <|
      .one ⟨2, some 90, none, .k (.mov (.t 89))⟩ false false <|
      .one ⟨3, some 91, (some (90, true)), .k (.fadr 2 (.t 1))⟩ false false <|
      .one ⟨4, some 92, (some (90, true)), .k (.load 1 false (.t 91))⟩ true false <|
      .one ⟨5, some 93, (some (90, true)), .k (.mov (.t 5))⟩ false false <|
      .one ⟨6, some 94, (some (90, true)), .k (.bin .sub (.t 93) (.c (.int .i64 1)))⟩ false false <|
      .one ⟨7, some 95, (some (90, true)), .k (.iadr 4 (.t 92) (.t 94))⟩ false false <|
      .one ⟨8, some 96, (some (90, true)), .k (.fadr 0 (.t 95))⟩ false false <|
      .one ⟨9, some 97, (some (90, true)), .k (.load 3 true (.t 96))⟩ false false <|
      .one ⟨10, some 98, (some (90, true)), .k (.fadr 0 (.t 6))⟩ false false <|
      .one ⟨11, some 99, (some (90, true)), .k (.load 3 true (.t 98))⟩ false false <|
      .one ⟨12, some 100, (some (90, true)), .call (.f 95) [.t 97, .t 99]⟩ false true <|
      .one ⟨13, some 101, (some (90, true)), .k (.bin .geq (.t 100) (.c (.int .i64 0)))⟩ false false <|
      .one ⟨14, some 102, none, .k (.pick (.t 90) (.t 101) (.c (.bool false)))⟩ false false <|
      .done) [1] [1, 6, 51, 52, 53, 102])
  (.named [1, 6, 51, 52, 53, 102] m37k4))
  (.named [1, 6, 51, 52, 53] m37k5)
def m37k7 : MC :=
  .reg [⟨0, some 106, none, .k (.bin .add (.t 53) (.c (.int .i64 1)))⟩, ⟨1, some 53, none, .k (.mov (.t 106))⟩] [1, 51, 52, 53]
def m37l1 : MC :=
  .seq (.reg [⟨0, some 54, none, .k (.bin .lss (.t 53) (.t 52))⟩] [1, 51, 52, 53, 54])
  (.seq (.cond (.t 54)
    (.skip)
    (.exit 2))
  (.seq (.block 3
    (.seq (.reg [⟨0, some 55, none, .k (.mov (.t 53))⟩, ⟨1, some 56, none, .k (.iadr 4 (.t 51) (.t 53))⟩, ⟨2, some 57, none, .k (.load 4 true (.t 56))⟩, ⟨3, some 6, none, .k (.alloc [.str [], .int .i64 0, .int .i64 0, .sl 3 [] .exact])⟩, ⟨4, some 5, none, .k (.mov (.t 55))⟩, ⟨5, none, none, .k (.store 4 (.t 6) (.t 57))⟩] [1, 5, 6, 51, 52, 53])
    (.seq (.reg [⟨0, some 58, none, .k (.fadr 0 (.t 6))⟩, ⟨1, some 59, none, .k (.fadr 0 (.t 58))⟩, ⟨2, some 60, none, .k (.load 1 false (.t 59))⟩, ⟨3, some 61, none, .k (.build [.int .i64 0, .int .i64 0, .str []] [(0, 1, .c (.int .i64 5)), (2, 1, .t 60)])⟩, ⟨4, some 7, none, .k (.alloc [.int .i64 0, .int .i64 0, .str []])⟩, ⟨5, none, none, .k (.store 3 (.t 7) (.t 61))⟩] [1, 5, 6, 7, 51, 52, 53])
    (.seq (.seq (.reg [⟨0, some 62, none, .k (.load 3 true (.t 7))⟩, ⟨1, some 63, none, .call (.f 32) [.t 62]⟩, ⟨2, some 64, none, .k (.bin .neq (.t 63) (.c (.int .i64 0)))⟩, ⟨3, some 65, none, .k (.mov (.t 64))⟩, ⟨4, some 66, (some (65, false)), .k (.fadr 0 (.t 6))⟩, ⟨5, some 67, (some (65, false)), .k (.fadr 1 (.t 66))⟩, ⟨6, some 68, (some (65, false)), .k (.load 1 false (.t 67))⟩, ⟨7, some 69, (some (65, false)), .call (.f 94) [.t 68]⟩, ⟨8, some 70, (some (65, false)), .k (.un .not (.t 69))⟩, ⟨9, some 71, none, .k (.pick (.t 65) (.c (.bool true)) (.t 70))⟩, ⟨10, some 72, none, .k (.mov (.t 71))⟩, ⟨11, some 73, (some (72, false)), .k (.fadr 0 (.t 6))⟩, ⟨12, some 74, (some (72, false)), .k (.fadr 2 (.t 73))⟩, ⟨13, some 75, (some (72, false)), .k (.load 1 false (.t 74))⟩, ⟨14, some 76, (some (72, false)), .call (.f 94) [.t 75]⟩, ⟨15, some 77, (some (72, false)), .k (.un .not (.t 76))⟩, ⟨16, some 78, none, .k (.pick (.t 72) (.c (.bool true)) (.t 77))⟩, ⟨17, some 79, none, .k (.mov (.t 78))⟩, ⟨18, some 80, (some (79, false)), .k (.fadr 3 (.t 6))⟩, ⟨19, some 81, (some (79, false)), .k (.load 1 false (.t 80))⟩, ⟨20, some 82, (some (79, false)), .k (.len false (.t 81))⟩, ⟨21, some 83, (some (79, false)), .k (.fadr 1 (.t 1))⟩, ⟨22, some 84, (some (79, false)), .k (.load 1 false (.t 83))⟩, ⟨23, some 85, (some (79, false)), .k (.len false (.t 84))⟩, ⟨24, some 86, (some (79, false)), .k (.bin .neq (.t 82) (.t 85))⟩, ⟨25, some 87, none, .k (.pick (.t 79) (.c (.bool true)) (.t 86))⟩] [1, 5, 6, 51, 52, 53, 87])
    (.named [1, 5, 6, 51, 52, 53, 87] m37k3))
    (.named [1, 5, 6, 51, 52, 53] m37k6)))))
  (.named [1, 51, 52, 53] m37k7)))
def m37k8 : MC :=
  .seq (.reg [⟨0, some 2, none, .k (.mov (.c (.bool true)))⟩] [2])
  (.ret)
def m37k9 : MC :=
  .seq (.seq (.reg [⟨0, some 50, none, .k (.fadr 2 (.t 1))⟩, ⟨1, some 51, none, .k (.load 1 false (.t 50))⟩, ⟨2, some 52, none, .k (.len false (.t 51))⟩, ⟨3, some 53, none, .k (.mov (.c (.int .i64 0)))⟩] [1, 51, 52, 53])
  (.block 2
    (.loop m37l1)))
  (.named [] m37k8)
def m37k10 : MC :=
  .seq (.seq (.reg [⟨0, some 30, none, .k (.fadr 1 (.t 1))⟩, ⟨1, some 31, none, .k (.load 1 false (.t 30))⟩, ⟨2, some 32, none, .k (.len false (.t 31))⟩, ⟨3, some 33, none, .k (.mov (.c (.int .i64 0)))⟩] [1, 31, 32, 33])
  (.block 0
    (.loop m37l0)))
  (.named [1] m37k9)
def m37 : MC :=
  .seq (.reg [⟨0, some 1, none, .k (.box (.t 0))⟩, ⟨1, some 2, none, .k (.mov (.c (.bool false)))⟩] [1])
  (.seq (.seq (.reg [⟨0, some 8, none, .k (.fadr 0 (.t 1))⟩, ⟨1, some 9, none, .k (.load 1 false (.t 8))⟩, ⟨2, some 10, none, .call (.f 92) [.t 9]⟩, ⟨3, some 11, none, .k (.un .not (.t 10))⟩, ⟨4, some 12, none, .k (.mov (.t 11))⟩, ⟨5, some 13, (some (12, false)), .k (.fadr 1 (.t 1))⟩, ⟨6, some 14, (some (12, false)), .k (.load 1 false (.t 13))⟩, ⟨7, some 15, (some (12, false)), .k (.len false (.t 14))⟩, ⟨8, some 16, (some (12, false)), .k (.bin .lss (.t 15) (.c (.int .i64 1)))⟩, ⟨9, some 17, none, .k (.pick (.t 12) (.c (.bool true)) (.t 16))⟩, ⟨10, some 18, none, .k (.mov (.t 17))⟩, ⟨11, some 19, (some (18, false)), .k (.fadr 1 (.t 1))⟩, ⟨12, some 20, (some (18, false)), .k (.load 1 false (.t 19))⟩, ⟨13, some 21, (some (18, false)), .k (.len false (.t 20))⟩, ⟨14, some 22, (some (18, false)), .k (.bin .gtr (.t 21) (.c (.int .i64 8)))⟩, ⟨15, some 23, none, .k (.pick (.t 18) (.c (.bool true)) (.t 22))⟩, ⟨16, some 24, none, .k (.mov (.t 23))⟩, ⟨17, some 25, (some (24, false)), .k (.fadr 2 (.t 1))⟩, ⟨18, some 26, (some (24, false)), .k (.load 1 false (.t 25))⟩, ⟨19, some 27, (some (24, false)), .k (.len false (.t 26))⟩, ⟨20, some 28, (some (24, false)), .k (.bin .gtr (.t 27) (.c (.int .i64 256)))⟩, ⟨21, some 29, none, .k (.pick (.t 24) (.c (.bool true)) (.t 28))⟩] [1, 29])
  (.named [1, 29] m37k0))
  (.named [1] m37k10))
theorem is37 : FnIs Tryz.prog 37 107 m37 [.t 2] := .of Tryz.call37 Tryz.func37 (by kernel_rfl)
def m38l0 : MC :=
  .seq (.reg [⟨0, some 18, none, .k (.bin .lss (.t 17) (.t 16))⟩] [1, 2, 15, 16, 17, 18])
  (.seq (.cond (.t 18)
    (.skip)
    (.exit 0))
  (.seq (.block 1
    (.seq (.reg [⟨0, some 19, none, .k (.mov (.t 17))⟩, ⟨1, some 20, none, .k (.iadr 4 (.t 15) (.t 17))⟩, ⟨2, some 21, none, .k (.load 4 true (.t 20))⟩, ⟨3, some 8, none, .k (.alloc [.str [], .int .i64 0, .int .i64 0, .sl 3 [] .exact])⟩, ⟨4, some 7, none, .k (.mov (.t 19))⟩, ⟨5, none, none, .k (.store 4 (.t 8) (.t 21))⟩] [1, 2, 7, 8, 15, 16, 17])
    (.seq (.reg [⟨0, some 22, none, .k (.mov (.t 1))⟩, ⟨1, some 23, none, .k (.mov (.t 7))⟩, ⟨2, some 24, none, .k (.iadr 3 (.t 22) (.t 23))⟩, ⟨3, some 25, none, .k (.load 3 true (.t 24))⟩, ⟨4, some 9, none, .k (.alloc [.str [], .int .i64 0, .int .i64 0])⟩, ⟨5, none, none, .k (.store 3 (.t 9) (.t 25))⟩] [1, 2, 8, 9, 15, 16, 17])
    (.seq (.reg [⟨0, some 26, none, .k (.mov (.t 2))⟩, ⟨1, some 27, none, .k (.load 4 true (.t 8))⟩, ⟨2, some 28, none, .k (.load 3 true (.t 9))⟩, ⟨3, some 29, none, .call (.t 26) [.t 27, .t 28]⟩, ⟨4, some 30, none, .k (.un .not (.t 29))⟩] [1, 2, 15, 16, 17, 30])
    (.cond (.t 30)
      (.seq (.reg [⟨0, some 6, none, .k (.mov (.c (.bool false)))⟩] [6])
      (.ret))
      (.skip))))))
  (.reg [⟨0, some 31, none, .k (.bin .add (.t 17) (.c (.int .i64 1)))⟩, ⟨1, some 17, none, .k (.mov (.t 31))⟩] [1, 2, 15, 16, 17])))
def m38k0 : MC :=
  .seq (.reg [⟨0, some 6, none, .k (.mov (.c (.bool true)))⟩] [6])
  (.ret)
def m38 : MC :=
  .seq (.reg [⟨0, some 6, none, .k (.mov (.c (.bool false)))⟩] [0, 1, 2])
  (.seq (.seq (.reg [⟨0, some 10, none, .k (.mov (.t 0))⟩, ⟨1, some 11, none, .k (.len false (.t 10))⟩, ⟨2, some 12, none, .k (.mov (.t 1))⟩, ⟨3, some 13, none, .k (.len false (.t 12))⟩, ⟨4, some 14, none, .k (.bin .neq (.t 11) (.t 13))⟩] [0, 1, 2, 14])
  (.cond (.t 14)
    (.seq (.reg [⟨0, some 6, none, .k (.mov (.c (.bool false)))⟩] [6])
    (.ret))
    (.skip)))
  (.seq (.seq (.reg [⟨0, some 15, none, .k (.mov (.t 0))⟩, ⟨1, some 16, none, .k (.len false (.t 15))⟩, ⟨2, some 17, none, .k (.mov (.c (.int .i64 0)))⟩] [1, 2, 15, 16, 17])
  (.block 0
    (.loop m38l0)))
  (.named [] m38k0)))
theorem is38 : FnIs Tryz.prog 38 32 m38 [.t 6] := .of Tryz.call38 Tryz.func38 (by kernel_rfl)
def m39 : MC :=
  .seq (.reg [⟨0, some 2, none, .k (.box (.t 0))⟩, ⟨1, some 3, none, .k (.box (.t 1))⟩, ⟨2, some 4, none, .k (.mov (.c (.bool false)))⟩] [2, 3])
  (.seq (.reg [⟨0, some 5, none, .k (.fadr 0 (.t 2))⟩, ⟨1, some 6, none, .k (.load 3 true (.t 5))⟩, ⟨2, some 7, none, .k (.load 3 true (.t 3))⟩, ⟨3, some 8, none, .k (.eqv [.s, .i, .i] false (.t 6) (.t 7))⟩, ⟨4, some 4, none, .k (.mov (.t 8))⟩] [4])
  (.ret))
theorem is39 : FnIs Tryz.prog 39 9 m39 [.t 4] := .of Tryz.call39 Tryz.func39 (by kernel_rfl)
end Go.Proofs.YtdjdhecanjmchaaGreatDoor
