/- The functions of the seat in the small language (printed by a program), and that each is the program's. -/
import Derived.Test.YtdjdhecanjmchaaGreatDoorProg
import Derived.Test.YtdjdhecanjmchaaGreatDoorVpB
import Derived.KernelRfl
set_option linter.unusedSimpArgs false
set_option linter.unusedVariables false
namespace Go.Proofs.YtdjdhecanjmchaaGreatDoor
open Go Go.V
def m154 : MC :=
  .seq (.reg [⟨0, some 1, none, .k (.box (.t 0))⟩, ⟨1, some 2, none, .k (.mov (.c (.bool false)))⟩] [1])
  (.seq (.reg [⟨0, some 3, none, .k (.fadr 0 (.t 1))⟩, ⟨1, some 4, none, .k (.load 1 false (.t 3))⟩, ⟨2, some 5, none, .call (.f 155) [.t 4]⟩, ⟨3, some 6, none, .k (.un .not (.t 5))⟩, ⟨4, some 7, none, .k (.mov (.t 6))⟩, ⟨5, some 8, (some (7, false)), .k (.fadr 1 (.t 1))⟩, ⟨6, some 9, (some (7, false)), .k (.load 1 false (.t 8))⟩, ⟨7, some 10, (some (7, false)), .call (.f 152) [.t 9]⟩, ⟨8, some 11, (some (7, false)), .k (.un .not (.t 10))⟩, ⟨9, some 12, none, .k (.pick (.t 7) (.c (.bool true)) (.t 11))⟩, ⟨10, some 13, none, .k (.mov (.t 12))⟩, ⟨11, some 14, (some (13, false)), .k (.fadr 2 (.t 1))⟩, ⟨12, some 15, (some (13, false)), .k (.load 1 false (.t 14))⟩, ⟨13, some 16, (some (13, false)), .call (.f 152) [.t 15]⟩, ⟨14, some 17, (some (13, false)), .k (.un .not (.t 16))⟩, ⟨15, some 18, none, .k (.pick (.t 13) (.c (.bool true)) (.t 17))⟩, ⟨16, some 2, none, .k (.mov (.t 18))⟩] [2])
  (.ret))
theorem is154 : FnIs Tryz.prog 154 19 m154 [.t 2] := .of Tryz.call154 Tryz.func154 (by kernel_rfl)
def m155 : MC :=
  .seq (.reg [⟨0, some 2, none, .k (.mov (.c (.bool false)))⟩] [0])
  (.seq (.reg [⟨0, some 3, none, .k (.mov (.t 0))⟩, ⟨1, some 4, none, .k (.bin .neq (.t 3) (.c (.str [])))⟩, ⟨2, some 5, none, .k (.mov (.t 4))⟩, ⟨3, some 6, (some (5, true)), .k (.mov (.t 0))⟩, ⟨4, some 7, (some (5, true)), .k (.build [.int .i64 0, .int .i64 0, .str []] [(0, 1, .c (.int .i64 5)), (2, 1, .t 6)])⟩, ⟨5, some 8, (some (5, true)), .call (.f 32) [.t 7]⟩, ⟨6, some 9, (some (5, true)), .k (.bin .eql (.t 8) (.c (.int .i64 0)))⟩, ⟨7, some 10, none, .k (.pick (.t 5) (.t 9) (.c (.bool false)))⟩, ⟨8, some 2, none, .k (.mov (.t 10))⟩] [2])
  (.ret))
theorem is155 : FnIs Tryz.prog 155 11 m155 [.t 2] := .of Tryz.call155 Tryz.func155 (by kernel_rfl)
def m156 : MC :=
  .seq (.reg [⟨0, some 2, none, .k (.mov (.c (.bool false)))⟩] [0])
  (.seq (.reg [⟨0, some 3, none, .k (.mov (.t 0))⟩, ⟨1, some 4, none, .k (.bin .neq (.t 3) (.c (.str [])))⟩, ⟨2, some 5, none, .k (.mov (.t 4))⟩, ⟨3, some 6, (some (5, true)), .k (.mov (.t 0))⟩, ⟨4, some 7, (some (5, true)), .call (.f 88) [.t 6, .c (.str [32])]⟩, ⟨5, some 8, (some (5, true)), .k (.un .not (.t 7))⟩, ⟨6, some 9, none, .k (.pick (.t 5) (.t 8) (.c (.bool false)))⟩, ⟨7, some 10, none, .k (.mov (.t 9))⟩, ⟨8, some 11, (some (10, true)), .k (.mov (.t 0))⟩, ⟨9, some 12, (some (10, true)), .k (.bin .add (.c (.str [32])) (.t 11))⟩, ⟨10, some 13, (some (10, true)), .k (.bin .add (.t 12) (.c (.str [32])))⟩, ⟨11, some 14, (some (10, true)), .call (.f 88) [.c (.str [32, 116, 97, 98, 108, 101, 32, 102, 101, 97, 116, 117, 114, 101, 32, 111, 102, 32, 107, 101, 101, 112, 32, 98, 111, 111, 108, 32, 116, 101, 120, 116, 32, 107, 101, 121, 32, 105, 110, 116, 32, 100, 101, 99, 32, 105, 102, 32, 116, 104, 101, 110, 32, 101, 108, 115, 101, 32, 100, 101, 102, 97, 117, 108, 116, 32, 111, 114, 32, 97, 110, 100, 32, 110, 111, 116, 32, 116, 114, 117, 101, 32, 102, 97, 108, 115, 101, 32, 110, 117, 108, 108, 32, 99, 111, 117, 110, 116, 32, 115, 117, 109, 32, 109, 101, 97, 110, 32, 109, 105, 110, 32, 109, 97, 120, 32, 102, 105, 114, 115, 116, 32, 108, 97, 115, 116, 32, 100, 105, 115, 116, 105, 110, 99, 116, 32, 113, 117, 97, 110, 116, 105, 108, 101, 32, 100, 101, 99, 97, 121, 32, 97, 108, 108, 32, 115, 108, 105, 100, 105, 110, 103, 32, 116, 117, 109, 98, 108, 105, 110, 103, 32, 115, 101, 115, 115, 105, 111, 110, 32, 119, 104, 101, 114, 101, 32]), .t 13]⟩, ⟨12, some 15, none, .k (.pick (.t 10) (.t 14) (.c (.bool false)))⟩, ⟨13, some 2, none, .k (.mov (.t 15))⟩] [2])
  (.ret))
theorem is156 : FnIs Tryz.prog 156 16 m156 [.t 2] := .of Tryz.call156 Tryz.func156 (by kernel_rfl)
def m157l0 : MC :=
  .seq (.reg [⟨0, some 9, none, .k (.bin .lss (.t 8) (.t 7))⟩] [0, 1, 7, 8, 9])
  (.seq (.cond (.t 9)
    (.skip)
    (.exit 0))
  (.seq (.block 1
    (.seq (.reg [⟨0, some 10, none, .k (.mov (.t 8))⟩, ⟨1, some 5, none, .k (.mov (.t 10))⟩] [0, 1, 5, 7, 8])
    (.seq (.reg [⟨0, some 11, none, .k (.mov (.t 1))⟩, ⟨1, some 12, none, .k (.mov (.t 0))⟩, ⟨2, some 13, none, .k (.mov (.t 5))⟩, ⟨3, some 14, none, .k (.iadr 1 (.t 12) (.t 13))⟩, ⟨4, some 15, none, .k (.load 1 false (.t 14))⟩, ⟨5, some 16, none, .k (.bin .eql (.t 11) (.t 15))⟩] [0, 1, 5, 7, 8, 16])
    (.cond (.t 16)
      (.seq (.reg [⟨0, some 17, none, .k (.mov (.t 5))⟩, ⟨1, some 4, none, .k (.mov (.t 17))⟩] [4])
      (.ret))
      (.skip)))))
  (.reg [⟨0, some 18, none, .k (.bin .add (.t 8) (.c (.int .i64 1)))⟩, ⟨1, some 8, none, .k (.mov (.t 18))⟩] [0, 1, 7, 8])))
def m157k0 : MC :=
  .seq (.reg [⟨0, some 4, none, .k (.mov (.c (.int .i64 (-1))))⟩] [4])
  (.ret)
def m157 : MC :=
  .seq (.reg [⟨0, some 4, none, .k (.mov (.c (.int .i64 0)))⟩] [0, 1])
  (.seq (.seq (.reg [⟨0, some 6, none, .k (.mov (.t 0))⟩, ⟨1, some 7, none, .k (.len false (.t 6))⟩, ⟨2, some 8, none, .k (.mov (.c (.int .i64 0)))⟩] [0, 1, 7, 8])
  (.block 0
    (.loop m157l0)))
  (.named [] m157k0))
theorem is157 : FnIs Tryz.prog 157 19 m157 [.t 4] := .of Tryz.call157 Tryz.func157 (by kernel_rfl)
def m158l0 : MC :=
  .seq (.reg [⟨0, some 9, none, .k (.bin .lss (.t 8) (.t 7))⟩] [3, 6, 7, 8, 9])
  (.seq (.cond (.t 9)
    (.skip)
    (.exit 0))
  (.seq (.block 1
    (.seq (.reg [⟨0, some 10, none, .k (.iadr 1 (.t 6) (.t 8))⟩, ⟨1, some 11, none, .k (.load 1 false (.t 10))⟩, ⟨2, some 5, none, .k (.mov (.t 11))⟩] [3, 5, 6, 7, 8])
    (.seq (.reg [⟨0, some 12, none, .k (.mov (.t 5))⟩, ⟨1, some 13, none, .k (.mov (.t 3))⟩, ⟨2, some 14, none, .k (.bin .neq (.t 12) (.t 13))⟩] [3, 5, 6, 7, 8, 14])
    (.cond (.t 14)
      (.seq (.reg [⟨0, some 15, none, .k (.mov (.t 5))⟩, ⟨1, some 2, none, .k (.mov (.t 15))⟩] [2])
      (.ret))
      (.skip)))))
  (.reg [⟨0, some 16, none, .k (.bin .add (.t 8) (.c (.int .i64 1)))⟩, ⟨1, some 8, none, .k (.mov (.t 16))⟩] [3, 6, 7, 8])))
def m158k0 : MC :=
  .seq (.reg [⟨0, some 17, none, .k (.mov (.t 3))⟩, ⟨1, some 2, none, .k (.mov (.t 17))⟩] [2])
  (.ret)
def m158 : MC :=
  .seq (.reg [⟨0, some 2, none, .k (.mov (.c (.int .i64 0)))⟩] [0])
  (.seq (.reg [⟨0, some 3, none, .k (.mov (.c (.int .i64 0)))⟩] [0, 3])
  (.seq (.seq (.reg [⟨0, some 6, none, .k (.mov (.t 0))⟩, ⟨1, some 7, none, .k (.len false (.t 6))⟩, ⟨2, some 8, none, .k (.mov (.c (.int .i64 0)))⟩] [3, 6, 7, 8])
  (.block 0
    (.loop m158l0)))
  (.named [3] m158k0)))
theorem is158 : FnIs Tryz.prog 158 18 m158 [.t 2] := .of Tryz.call158 Tryz.func158 (by kernel_rfl)
def m160 : MC :=
  .seq (.reg [⟨0, some 4, none, .k (.mov (.c (.int .i64 0)))⟩] [0, 1])
  (.seq (.reg [⟨0, some 7, none, .k (.mov (.t 0))⟩, ⟨1, some 8, none, .call (.f 195) [.t 7]⟩, ⟨2, some 5, none, .k (.mov (.t 8))⟩] [0, 1, 5])
  (.seq (.reg [⟨0, some 9, none, .k (.mov (.t 1))⟩, ⟨1, some 10, none, .call (.f 195) [.t 9]⟩, ⟨2, some 6, none, .k (.mov (.t 10))⟩] [0, 1, 5, 6])
  (.seq (.seq (.reg [⟨0, some 11, none, .k (.mov (.t 5))⟩] [0, 1, 6, 11])
  (.cond (.t 11)
    (.seq (.seq (.reg [⟨0, some 12, none, .k (.mov (.t 6))⟩] [12])
    (.cond (.t 12)
      (.seq (.reg [⟨0, some 4, none, .k (.mov (.c (.int .i64 0)))⟩] [4])
      (.ret))
      (.skip)))
    (.seq (.reg [⟨0, some 4, none, .k (.mov (.c (.int .i64 (-1))))⟩] [4])
    (.ret)))
    (.skip)))
  (.seq (.seq (.reg [⟨0, some 13, none, .k (.mov (.t 6))⟩] [0, 1, 13])
  (.cond (.t 13)
    (.seq (.reg [⟨0, some 4, none, .k (.mov (.c (.int .i64 1)))⟩] [4])
    (.ret))
    (.skip)))
  (.seq (.seq (.reg [⟨0, some 14, none, .k (.mov (.t 0))⟩, ⟨1, some 15, none, .k (.mov (.t 1))⟩, ⟨2, some 16, none, .k (.bin .lss (.t 14) (.t 15))⟩] [0, 1, 16])
  (.cond (.t 16)
    (.seq (.reg [⟨0, some 4, none, .k (.mov (.c (.int .i64 (-1))))⟩] [4])
    (.ret))
    (.skip)))
  (.seq (.seq (.reg [⟨0, some 17, none, .k (.mov (.t 0))⟩, ⟨1, some 18, none, .k (.mov (.t 1))⟩, ⟨2, some 19, none, .k (.bin .gtr (.t 17) (.t 18))⟩] [19])
  (.cond (.t 19)
    (.seq (.reg [⟨0, some 4, none, .k (.mov (.c (.int .i64 1)))⟩] [4])
    (.ret))
    (.skip)))
  (.seq (.reg [⟨0, some 4, none, .k (.mov (.c (.int .i64 0)))⟩] [4])
  (.ret))))))))
theorem is160 : FnIs Tryz.prog 160 20 m160 [.t 4] := .of Tryz.call160 Tryz.func160 (by kernel_rfl)
def m161l0 : MC :=
  .seq (.reg [⟨0, some 9, none, .k (.bin .lss (.t 8) (.t 7))⟩] [0, 1, 7, 8, 9])
  (.seq (.cond (.t 9)
    (.skip)
    (.exit 0))
  (.seq (.block 1
    (.seq (.reg [⟨0, some 10, none, .k (.mov (.t 8))⟩, ⟨1, some 5, none, .k (.mov (.t 10))⟩] [0, 1, 5, 7, 8])
    (.seq (.reg [⟨0, some 11, none, .k (.mov (.t 1))⟩, ⟨1, some 12, none, .k (.mov (.t 0))⟩, ⟨2, some 13, none, .k (.mov (.t 5))⟩, ⟨3, some 14, none, .k (.iadr 3 (.t 12) (.t 13))⟩, ⟨4, some 15, none, .k (.load 3 true (.t 14))⟩, ⟨5, some 16, none, .call (.t 11) [.t 15]⟩] [0, 1, 5, 7, 8, 16])
    (.cond (.t 16)
      (.seq (.reg [⟨0, some 17, none, .k (.mov (.t 5))⟩, ⟨1, some 4, none, .k (.mov (.t 17))⟩] [4])
      (.ret))
      (.skip)))))
  (.reg [⟨0, some 18, none, .k (.bin .add (.t 8) (.c (.int .i64 1)))⟩, ⟨1, some 8, none, .k (.mov (.t 18))⟩] [0, 1, 7, 8])))
def m161k0 : MC :=
  .seq (.reg [⟨0, some 4, none, .k (.mov (.c (.int .i64 (-1))))⟩] [4])
  (.ret)
def m161 : MC :=
  .seq (.reg [⟨0, some 4, none, .k (.mov (.c (.int .i64 0)))⟩] [0, 1])
  (.seq (.seq (.reg [⟨0, some 6, none, .k (.mov (.t 0))⟩, ⟨1, some 7, none, .k (.len false (.t 6))⟩, ⟨2, some 8, none, .k (.mov (.c (.int .i64 0)))⟩] [0, 1, 7, 8])
  (.block 0
    (.loop m161l0)))
  (.named [] m161k0))
theorem is161 : FnIs Tryz.prog 161 19 m161 [.t 4] := .of Tryz.call161 Tryz.func161 (by kernel_rfl)
def m162k0 : MC :=
  .cond (.t 44)
    (.skip)
    (.exit 0)
def m162k1 : MC :=
  .block 1
    (.reg [⟨0, some 45, none, .k (.mov (.t 5))⟩, ⟨1, some 46, none, .k (.bin .add (.t 45) (.c (.int .i64 1)))⟩, ⟨2, some 5, none, .k (.mov (.t 46))⟩] [0, 1, 5])
def m162l0 : MC :=
  .seq (.seq (.reg [⟨0, some 12, none, .k (.mov (.t 1))⟩, ⟨1, some 13, none, .k (.mov (.t 5))⟩, ⟨2, some 14, none, .k (.bin .add (.t 12) (.t 13))⟩, ⟨3, some 15, none, .k (.mov (.t 0))⟩, ⟨4, some 16, none, .k (.len false (.t 15))⟩, ⟨5, some 17, none, .k (.bin .lss (.t 14) (.t 16))⟩, ⟨6, some 18, none, .k (.mov (.t 17))⟩, ⟨7, some 19, (some (18, true)), .k (.mov (.t 0))⟩, ⟨8, some 20, (some (18, true)), .k (.mov (.t 1))⟩, ⟨9, some 21, (some (18, true)), .k (.mov (.t 5))⟩, ⟨10, some 22, (some (18, true)), .k (.bin .add (.t 20) (.t 21))⟩, ⟨11, some 23, (some (18, true)), .k (.iadr 1 (.t 19) (.t 22))⟩, ⟨12, some 24, (some (18, true)), .k (.load 1 false (.t 23))⟩, ⟨13, some 25, (some (18, true)), .call (.f 196) [.t 24]⟩, ⟨14, some 26, (some (18, true)), .k (.mov (.t 25))⟩, ⟨15, some 27, (some (26, false)), .k (.mov (.t 0))⟩, ⟨16, some 28, (some (26, false)), .k (.mov (.t 1))⟩, ⟨17, some 29, (some (26, false)), .k (.mov (.t 5))⟩, ⟨18, some 30, (some (26, false)), .k (.bin .add (.t 28) (.t 29))⟩, ⟨19, some 31, (some (26, false)), .k (.iadr 1 (.t 27) (.t 30))⟩, ⟨20, some 32, (some (26, false)), .k (.load 1 false (.t 31))⟩, ⟨21, some 33, (some (26, false)), .call (.f 197) [.t 32]⟩, ⟨22, some 34, (some (18, true)), .k (.pick (.t 26) (.c (.bool true)) (.t 33))⟩, ⟨23, some 35, (some (18, true)), .k (.mov (.t 34))⟩, ⟨24, some 36, (some (35, false)), .k (.mov (.t 0))⟩, ⟨25, some 37, (some (35, false)), .k (.mov (.t 1))⟩, ⟨26, some 38, (some (35, false)), .k (.mov (.t 5))⟩, ⟨27, some 39, (some (35, false)), .k (.bin .add (.t 37) (.t 38))⟩, ⟨28, some 40, (some (35, false)), .k (.iadr 1 (.t 36) (.t 39))⟩, ⟨29, some 41, (some (35, false)), .k (.load 1 false (.t 40))⟩, ⟨30, some 42, (some (35, false)), .k (.bin .eql (.t 41) (.c (.int .u8 95)))⟩, ⟨31, some 43, (some (18, true)), .k (.pick (.t 35) (.c (.bool true)) (.t 42))⟩, ⟨32, some 44, none, .k (.pick (.t 18) (.t 43) (.c (.bool false)))⟩] [0, 1, 5, 44])
  (.named [0, 1, 5, 44] m162k0))
  (.named [0, 1, 5] m162k1)
def m162k2 : MC :=
  .seq (.reg [⟨0, some 47, none, .k (.mov (.t 5))⟩, ⟨1, some 4, none, .k (.mov (.t 47))⟩] [4])
  (.ret)
def m162 : MC :=
  .seq (.reg [⟨0, some 4, none, .k (.mov (.c (.int .i64 0)))⟩] [0, 1])
  (.seq (.seq (.reg [⟨0, some 6, none, .k (.mov (.t 0))⟩, ⟨1, some 7, none, .k (.mov (.t 1))⟩, ⟨2, some 8, none, .k (.iadr 1 (.t 6) (.t 7))⟩, ⟨3, some 9, none, .k (.load 1 false (.t 8))⟩, ⟨4, some 10, none, .call (.f 196) [.t 9]⟩, ⟨5, some 11, none, .k (.un .not (.t 10))⟩] [0, 1, 11])
  (.cond (.t 11)
    (.seq (.reg [⟨0, some 4, none, .k (.mov (.c (.int .i64 0)))⟩] [4])
    (.ret))
    (.skip)))
  (.seq (.reg [⟨0, some 5, none, .k (.mov (.c (.int .i64 1)))⟩] [0, 1, 5])
  (.seq (.block 0
    (.loop m162l0))
  (.named [5] m162k2))))
theorem is162 : FnIs Tryz.prog 162 48 m162 [.t 4] := .of Tryz.call162 Tryz.func162 (by kernel_rfl)
def m163k0 : MC :=
  .cond (.t 24)
    (.seq (.reg [⟨0, some 2, none, .k (.mov (.c (.bool true)))⟩] [2])
    (.ret))
    (.skip)
def m163k1 : MC :=
  .cond (.t 4)
    (.seq (.reg [⟨0, some 2, none, .k (.mov (.c (.bool true)))⟩] [2])
    (.ret))
    (.seq (.seq (.reg [⟨0, some 25, none, .k (.bin .eql (.t 3) (.c (.str [99, 111, 117, 110, 116])))⟩, ⟨1, some 24, none, .k (.mov (.t 25))⟩] [3, 24])
    (.cond (.t 24)
      (.skip)
      (.seq (.reg [⟨0, some 26, none, .k (.bin .eql (.t 3) (.c (.str [115, 117, 109])))⟩, ⟨1, some 24, none, .k (.mov (.t 26))⟩] [3, 24])
      (.cond (.t 24)
        (.skip)
        (.seq (.reg [⟨0, some 27, none, .k (.bin .eql (.t 3) (.c (.str [109, 101, 97, 110])))⟩, ⟨1, some 24, none, .k (.mov (.t 27))⟩] [3, 24])
        (.cond (.t 24)
          (.skip)
          (.seq (.reg [⟨0, some 28, none, .k (.bin .eql (.t 3) (.c (.str [109, 105, 110])))⟩, ⟨1, some 24, none, .k (.mov (.t 28))⟩] [3, 24])
          (.cond (.t 24)
            (.skip)
            (.seq (.reg [⟨0, some 29, none, .k (.bin .eql (.t 3) (.c (.str [109, 97, 120])))⟩, ⟨1, some 24, none, .k (.mov (.t 29))⟩] [3, 24])
            (.cond (.t 24)
              (.skip)
              (.seq (.reg [⟨0, some 30, none, .k (.bin .eql (.t 3) (.c (.str [102, 105, 114, 115, 116])))⟩, ⟨1, some 24, none, .k (.mov (.t 30))⟩] [3, 24])
              (.cond (.t 24)
                (.skip)
                (.seq (.reg [⟨0, some 31, none, .k (.bin .eql (.t 3) (.c (.str [108, 97, 115, 116])))⟩, ⟨1, some 24, none, .k (.mov (.t 31))⟩] [3, 24])
                (.cond (.t 24)
                  (.skip)
                  (.seq (.reg [⟨0, some 32, none, .k (.bin .eql (.t 3) (.c (.str [100, 105, 115, 116, 105, 110, 99, 116])))⟩, ⟨1, some 24, none, .k (.mov (.t 32))⟩] [3, 24])
                  (.cond (.t 24)
                    (.skip)
                    (.seq (.reg [⟨0, some 33, none, .k (.bin .eql (.t 3) (.c (.str [113, 117, 97, 110, 116, 105, 108, 101])))⟩, ⟨1, some 24, none, .k (.mov (.t 33))⟩] [3, 24])
                    (.cond (.t 24)
                      (.skip)
                      (.seq (.reg [⟨0, some 34, none, .k (.bin .eql (.t 3) (.c (.str [100, 101, 99, 97, 121])))⟩, ⟨1, some 24, none, .k (.mov (.t 34))⟩] [3, 24])
                      (.cond (.t 24)
                        (.skip)
                        (.seq (.reg [⟨0, some 35, none, .k (.bin .eql (.t 3) (.c (.str [97, 108, 108])))⟩, ⟨1, some 24, none, .k (.mov (.t 35))⟩] [3, 24])
                        (.cond (.t 24)
                          (.skip)
                          (.seq (.reg [⟨0, some 36, none, .k (.bin .eql (.t 3) (.c (.str [115, 108, 105, 100, 105, 110, 103])))⟩, ⟨1, some 24, none, .k (.mov (.t 36))⟩] [3, 24])
                          (.cond (.t 24)
                            (.skip)
                            (.seq (.reg [⟨0, some 37, none, .k (.bin .eql (.t 3) (.c (.str [116, 117, 109, 98, 108, 105, 110, 103])))⟩, ⟨1, some 24, none, .k (.mov (.t 37))⟩] [3, 24])
                            (.cond (.t 24)
                              (.skip)
                              (.seq (.reg [⟨0, some 38, none, .k (.bin .eql (.t 3) (.c (.str [115, 101, 115, 115, 105, 111, 110])))⟩, ⟨1, some 24, none, .k (.mov (.t 38))⟩] [3, 24])
                              (.cond (.t 24)
                                (.skip)
                                (.reg [⟨0, some 39, none, .k (.bin .eql (.t 3) (.c (.str [119, 104, 101, 114, 101])))⟩, ⟨1, some 24, none, .k (.mov (.t 39))⟩] [24])))))))))))))))))))))))))))))
    (.named [24] m163k0))
def m163k2 : MC :=
  .seq (.reg [⟨0, some 2, none, .k (.mov (.c (.bool false)))⟩] [2])
  (.ret)
def m163 : MC :=
  .seq (.reg [⟨0, some 2, none, .k (.mov (.c (.bool false)))⟩] [0])
  (.seq (.seq (.reg [⟨0, some 3, none, .k (.mov (.t 0))⟩] [3])
  (.block 0
    (.seq (.seq (.reg [⟨0, some 5, none, .k (.bin .eql (.t 3) (.c (.str [116, 97, 98, 108, 101])))⟩, ⟨1, some 4, none, .k (.mov (.t 5))⟩] [3, 4])
    (.cond (.t 4)
      (.skip)
      (.seq (.reg [⟨0, some 6, none, .k (.bin .eql (.t 3) (.c (.str [102, 101, 97, 116, 117, 114, 101])))⟩, ⟨1, some 4, none, .k (.mov (.t 6))⟩] [3, 4])
      (.cond (.t 4)
        (.skip)
        (.seq (.reg [⟨0, some 7, none, .k (.bin .eql (.t 3) (.c (.str [111, 102])))⟩, ⟨1, some 4, none, .k (.mov (.t 7))⟩] [3, 4])
        (.cond (.t 4)
          (.skip)
          (.seq (.reg [⟨0, some 8, none, .k (.bin .eql (.t 3) (.c (.str [107, 101, 101, 112])))⟩, ⟨1, some 4, none, .k (.mov (.t 8))⟩] [3, 4])
          (.cond (.t 4)
            (.skip)
            (.seq (.reg [⟨0, some 9, none, .k (.bin .eql (.t 3) (.c (.str [98, 111, 111, 108])))⟩, ⟨1, some 4, none, .k (.mov (.t 9))⟩] [3, 4])
            (.cond (.t 4)
              (.skip)
              (.seq (.reg [⟨0, some 10, none, .k (.bin .eql (.t 3) (.c (.str [116, 101, 120, 116])))⟩, ⟨1, some 4, none, .k (.mov (.t 10))⟩] [3, 4])
              (.cond (.t 4)
                (.skip)
                (.seq (.reg [⟨0, some 11, none, .k (.bin .eql (.t 3) (.c (.str [107, 101, 121])))⟩, ⟨1, some 4, none, .k (.mov (.t 11))⟩] [3, 4])
                (.cond (.t 4)
                  (.skip)
                  (.seq (.reg [⟨0, some 12, none, .k (.bin .eql (.t 3) (.c (.str [105, 110, 116])))⟩, ⟨1, some 4, none, .k (.mov (.t 12))⟩] [3, 4])
                  (.cond (.t 4)
                    (.skip)
                    (.seq (.reg [⟨0, some 13, none, .k (.bin .eql (.t 3) (.c (.str [100, 101, 99])))⟩, ⟨1, some 4, none, .k (.mov (.t 13))⟩] [3, 4])
                    (.cond (.t 4)
                      (.skip)
                      (.seq (.reg [⟨0, some 14, none, .k (.bin .eql (.t 3) (.c (.str [105, 102])))⟩, ⟨1, some 4, none, .k (.mov (.t 14))⟩] [3, 4])
                      (.cond (.t 4)
                        (.skip)
                        (.seq (.reg [⟨0, some 15, none, .k (.bin .eql (.t 3) (.c (.str [116, 104, 101, 110])))⟩, ⟨1, some 4, none, .k (.mov (.t 15))⟩] [3, 4])
                        (.cond (.t 4)
                          (.skip)
                          (.seq (.reg [⟨0, some 16, none, .k (.bin .eql (.t 3) (.c (.str [101, 108, 115, 101])))⟩, ⟨1, some 4, none, .k (.mov (.t 16))⟩] [3, 4])
                          (.cond (.t 4)
                            (.skip)
                            (.seq (.reg [⟨0, some 17, none, .k (.bin .eql (.t 3) (.c (.str [100, 101, 102, 97, 117, 108, 116])))⟩, ⟨1, some 4, none, .k (.mov (.t 17))⟩] [3, 4])
                            (.cond (.t 4)
                              (.skip)
                              (.seq (.reg [⟨0, some 18, none, .k (.bin .eql (.t 3) (.c (.str [111, 114])))⟩, ⟨1, some 4, none, .k (.mov (.t 18))⟩] [3, 4])
                              (.cond (.t 4)
                                (.skip)
                                (.seq (.reg [⟨0, some 19, none, .k (.bin .eql (.t 3) (.c (.str [97, 110, 100])))⟩, ⟨1, some 4, none, .k (.mov (.t 19))⟩] [3, 4])
                                (.cond (.t 4)
                                  (.skip)
                                  (.seq (.reg [⟨0, some 20, none, .k (.bin .eql (.t 3) (.c (.str [110, 111, 116])))⟩, ⟨1, some 4, none, .k (.mov (.t 20))⟩] [3, 4])
                                  (.cond (.t 4)
                                    (.skip)
                                    (.seq (.reg [⟨0, some 21, none, .k (.bin .eql (.t 3) (.c (.str [116, 114, 117, 101])))⟩, ⟨1, some 4, none, .k (.mov (.t 21))⟩] [3, 4])
                                    (.cond (.t 4)
                                      (.skip)
                                      (.seq (.reg [⟨0, some 22, none, .k (.bin .eql (.t 3) (.c (.str [102, 97, 108, 115, 101])))⟩, ⟨1, some 4, none, .k (.mov (.t 22))⟩] [3, 4])
                                      (.cond (.t 4)
                                        (.skip)
                                        (.reg [⟨0, some 23, none, .k (.bin .eql (.t 3) (.c (.str [110, 117, 108, 108])))⟩, ⟨1, some 4, none, .k (.mov (.t 23))⟩] [3, 4])))))))))))))))))))))))))))))))))))))
    (.named [3, 4] m163k1))))
  (.named [] m163k2))
theorem is163 : FnIs Tryz.prog 163 40 m163 [.t 2] := .of Tryz.call163 Tryz.func163 (by kernel_rfl)
def m164k0 : MC :=
  .cond (.t 31)
    (.seq (.reg [⟨0, some 2, none, .k (.mov (.c (.bool false)))⟩] [2])
    (.ret))
    (.skip)
def m164k1 : MC :=
  .reg [⟨0, some 8, none, .k (.mov (.t 3))⟩, ⟨1, some 9, none, .k (.bin .add (.t 8) (.c (.int .i64 1)))⟩, ⟨2, some 3, none, .k (.mov (.t 9))⟩] [0, 3]
def m164l0 : MC :=
  .seq (.seq (.reg [⟨0, some 4, none, .k (.mov (.t 3))⟩, ⟨1, some 5, none, .k (.mov (.t 0))⟩, ⟨2, some 6, none, .k (.len true (.t 5))⟩, ⟨3, some 7, none, .k (.bin .lss (.t 4) (.t 6))⟩] [0, 3, 7])
  (.cond (.t 7)
    (.skip)
    (.exit 0)))
  (.seq (.block 1
    (.seq (.reg [⟨0, some 10, none, .k (.mov (.t 0))⟩, ⟨1, some 11, none, .k (.mov (.t 3))⟩, ⟨2, some 12, none, .k (.istr (.t 10) (.t 11))⟩, ⟨3, some 13, none, .k (.bin .lss (.t 12) (.c (.int .u8 33)))⟩, ⟨4, some 14, none, .k (.mov (.t 13))⟩, ⟨5, some 15, (some (14, false)), .k (.mov (.t 0))⟩, ⟨6, some 16, (some (14, false)), .k (.mov (.t 3))⟩, ⟨7, some 17, (some (14, false)), .k (.istr (.t 15) (.t 16))⟩, ⟨8, some 18, (some (14, false)), .k (.bin .gtr (.t 17) (.c (.int .u8 126)))⟩, ⟨9, some 19, none, .k (.pick (.t 14) (.c (.bool true)) (.t 18))⟩, ⟨10, some 20, none, .k (.mov (.t 19))⟩, ⟨11, some 21, (some (20, false)), .k (.mov (.t 0))⟩, ⟨12, some 22, (some (20, false)), .k (.mov (.t 3))⟩, ⟨13, some 23, (some (20, false)), .k (.istr (.t 21) (.t 22))⟩, ⟨14, some 24, (some (20, false)), .k (.bin .eql (.t 23) (.c (.int .u8 34)))⟩, ⟨15, some 25, none, .k (.pick (.t 20) (.c (.bool true)) (.t 24))⟩, ⟨16, some 26, none, .k (.mov (.t 25))⟩, ⟨17, some 27, (some (26, false)), .k (.mov (.t 0))⟩, ⟨18, some 28, (some (26, false)), .k (.mov (.t 3))⟩, ⟨19, some 29, (some (26, false)), .k (.istr (.t 27) (.t 28))⟩, ⟨20, some 30, (some (26, false)), .k (.bin .eql (.t 29) (.c (.int .u8 92)))⟩, ⟨21, some 31, none, .k (.pick (.t 26) (.c (.bool true)) (.t 30))⟩] [0, 3, 31])
    (.named [0, 3, 31] m164k0)))
  (.named [0, 3] m164k1))
def m164k2 : MC :=
  .seq (.reg [⟨0, some 32, none, .k (.mov (.t 0))⟩, ⟨1, some 33, none, .k (.len true (.t 32))⟩, ⟨2, some 34, none, .k (.bin .geq (.t 33) (.c (.int .i64 1)))⟩, ⟨3, some 35, none, .k (.mov (.t 34))⟩, ⟨4, some 36, (some (35, true)), .k (.mov (.t 0))⟩, ⟨5, some 37, (some (35, true)), .k (.len true (.t 36))⟩, ⟨6, some 38, (some (35, true)), .k (.bin .leq (.t 37) (.c (.int .i64 32)))⟩, ⟨7, some 39, none, .k (.pick (.t 35) (.t 38) (.c (.bool false)))⟩, ⟨8, some 2, none, .k (.mov (.t 39))⟩] [2])
  (.ret)
def m164 : MC :=
  .seq (.reg [⟨0, some 2, none, .k (.mov (.c (.bool false)))⟩] [0])
  (.seq (.seq (.reg [⟨0, some 3, none, .k (.mov (.c (.int .i64 0)))⟩] [0, 3])
  (.block 0
    (.loop m164l0)))
  (.named [0] m164k2))
theorem is164 : FnIs Tryz.prog 164 40 m164 [.t 2] := .of Tryz.call164 Tryz.func164 (by kernel_rfl)
def m170 : MC :=
  .seq (.reg [⟨0, some 2, none, .k (.mov (.c (.str [])))⟩] [0])
  (.seq (.reg [⟨0, some 3, none, .k (.mov (.t 0))⟩, ⟨1, some 4, none, .call (.f 203) [.t 3]⟩, ⟨2, some 2, none, .k (.mov (.t 4))⟩] [2])
  (.ret))
theorem is170 : FnIs Tryz.prog 170 5 m170 [.t 2] := .of Tryz.call170 Tryz.func170 (by kernel_rfl)
def m171l0 : MC :=
  .seq (.seq (.reg [⟨0, some 12, none, .k (.mov (.t 3))⟩, ⟨1, some 13, none, .k (.len true (.t 12))⟩, ⟨2, some 14, none, .k (.bin .leq (.t 13) (.c (.int .i64 6)))⟩] [3, 4, 14])
  (.cond (.t 14)
    (.skip)
    (.exit 0)))
  (.block 1
    (.reg [⟨0, some 15, none, .k (.mov (.t 3))⟩, ⟨1, some 16, none, .k (.bin .add (.c (.str [48])) (.t 15))⟩, ⟨2, some 3, none, .k (.mov (.t 16))⟩] [3, 4]))
def m171k0 : MC :=
  .seq (.reg [⟨0, some 17, none, .k (.mov (.t 3))⟩, ⟨1, some 18, none, .k (.len true (.t 17))⟩, ⟨2, some 19, none, .k (.bin .sub (.t 18) (.c (.int .i64 6)))⟩, ⟨3, some 5, none, .k (.mov (.t 19))⟩] [3, 4, 5])
  (.seq (.any (.one ⟨0, some 20, none, .k (.mov (.t 4))⟩ false false <|
      .one ⟨1, some 21, none, .k (.mov (.t 3))⟩ false false <|
      .one ⟨2, some 22, none, .k (.mov (.t 5))⟩ false false <|
      .one ⟨3, some 23, none, .k (.slS (.t 21) none (some (.t 22)))⟩ false false <|
      .one ⟨4, some 24, none, .k (.bin .add (.t 20) (.t 23))⟩ false false <|
      .one ⟨5, some 25, none, .k (.bin .add (.t 24) (.c (.str [46])))⟩ false false <|
      .one ⟨6, some 26, none, .k (.mov (.t 3))⟩ false false <|
      .one ⟨7, some 27, none, .k (.mov (.t 5))⟩ false false <|
      .one ⟨8, some 28, none, .k (.slS (.t 26) (some (.t 27)) none)⟩ false false <|
      .one ⟨9, some 29, none, .k (.bin .add (.t 25) (.t 28))⟩ false false <|
      .one ⟨10, some 2, none, .k (.mov (.t 29))⟩ false false <|
      .done) [] [2])
  (.ret))
def m171k1 : MC :=
  .seq (.block 0
    (.loop m171l0))
  (.named [3, 4] m171k0)
def m171 : MC :=
  .seq (.reg [⟨0, some 2, none, .k (.mov (.c (.str [])))⟩] [0])
  (.seq (.reg [⟨0, some 6, none, .k (.mov (.t 0))⟩, ⟨1, some 7, none, .call (.f 51) [.t 6]⟩, ⟨2, some 3, none, .k (.mov (.t 7))⟩] [0, 3])
  (.seq (.reg [⟨0, some 4, none, .k (.mov (.c (.str [])))⟩] [0, 3, 4])
  (.seq (.seq (.reg [⟨0, some 8, none, .k (.mov (.t 0))⟩, ⟨1, some 9, none, .k (.bin .lss (.t 8) (.c (.int .i64 0)))⟩] [3, 4, 9])
  (.cond (.t 9)
    (.any (.one ⟨0, some 10, none, .k (.mov (.t 3))⟩ false false <|
        .one ⟨1, some 11, none, .k (.slS (.t 10) (some (.c (.int .i64 1))) none)⟩ false false <|
        .one ⟨2, some 4, none, .k (.mov (.c (.str [45])))⟩ false false <|
        .one ⟨3, some 3, none, .k (.mov (.t 11))⟩ false false <|
        .done) [] [3, 4])
    (.skip)))
  (.named [3, 4] m171k1))))
theorem is171 : FnIs Tryz.prog 171 30 m171 [.t 2] := .of Tryz.call171 Tryz.func171 (by kernel_rfl)
def m172k0 : MC :=
  .cond (.t 36)
    (.seq (.reg [⟨0, some 39, none, .k (.fadr 1 (.t 1))⟩, ⟨1, some 40, none, .k (.load 1 false (.t 39))⟩, ⟨2, some 41, none, .k (.bin .eql (.t 40) (.c (.int .i64 0)))⟩, ⟨3, some 2, none, .k (.mov (.t 41))⟩] [2])
    (.ret))
    (.skip)
def m172k1 : MC :=
  .cond (.t 30)
    (.seq (.reg [⟨0, some 33, none, .k (.fadr 2 (.t 1))⟩, ⟨1, some 34, none, .k (.load 1 false (.t 33))⟩, ⟨2, some 35, none, .k (.bin .eql (.t 34) (.c (.str [])))⟩, ⟨3, some 2, none, .k (.mov (.t 35))⟩] [2])
    (.ret))
    (.seq (.seq (.reg [⟨0, some 37, none, .k (.bin .eql (.t 4) (.c (.int .i64 4)))⟩, ⟨1, some 36, none, .k (.mov (.t 37))⟩] [1, 4, 36])
    (.cond (.t 36)
      (.skip)
      (.reg [⟨0, some 38, none, .k (.bin .eql (.t 4) (.c (.int .i64 5)))⟩, ⟨1, some 36, none, .k (.mov (.t 38))⟩] [1, 36])))
    (.named [1, 36] m172k0))
def m172k2 : MC :=
  .seq (.reg [⟨0, some 2, none, .k (.mov (.c (.bool false)))⟩] [2])
  (.ret)
def m172 : MC :=
  .seq (.reg [⟨0, some 1, none, .k (.box (.t 0))⟩, ⟨1, some 2, none, .k (.mov (.c (.bool false)))⟩] [1])
  (.seq (.seq (.reg [⟨0, some 3, none, .k (.fadr 0 (.t 1))⟩, ⟨1, some 4, none, .k (.load 1 false (.t 3))⟩] [1, 4])
  (.block 0
    (.seq (.reg [⟨0, some 6, none, .k (.bin .eql (.t 4) (.c (.int .i64 0)))⟩, ⟨1, some 5, none, .k (.mov (.t 6))⟩] [1, 4, 5])
    (.cond (.t 5)
      (.seq (.reg [⟨0, some 7, none, .k (.fadr 1 (.t 1))⟩, ⟨1, some 8, none, .k (.load 1 false (.t 7))⟩, ⟨2, some 9, none, .k (.bin .eql (.t 8) (.c (.int .i64 0)))⟩, ⟨3, some 10, none, .k (.mov (.t 9))⟩, ⟨4, some 11, (some (10, true)), .k (.fadr 2 (.t 1))⟩, ⟨5, some 12, (some (10, true)), .k (.load 1 false (.t 11))⟩, ⟨6, some 13, (some (10, true)), .k (.bin .eql (.t 12) (.c (.str [])))⟩, ⟨7, some 14, none, .k (.pick (.t 10) (.t 13) (.c (.bool false)))⟩, ⟨8, some 2, none, .k (.mov (.t 14))⟩] [2])
      (.ret))
      (.seq (.reg [⟨0, some 16, none, .k (.bin .eql (.t 4) (.c (.int .i64 1)))⟩, ⟨1, some 15, none, .k (.mov (.t 16))⟩] [1, 4, 15])
      (.cond (.t 15)
        (.seq (.reg [⟨0, some 17, none, .k (.fadr 1 (.t 1))⟩, ⟨1, some 18, none, .k (.load 1 false (.t 17))⟩, ⟨2, some 19, none, .k (.bin .eql (.t 18) (.c (.int .i64 0)))⟩, ⟨3, some 20, none, .k (.mov (.t 19))⟩, ⟨4, some 21, (some (20, false)), .k (.fadr 1 (.t 1))⟩, ⟨5, some 22, (some (20, false)), .k (.load 1 false (.t 21))⟩, ⟨6, some 23, (some (20, false)), .k (.bin .eql (.t 22) (.c (.int .i64 1)))⟩, ⟨7, some 24, none, .k (.pick (.t 20) (.c (.bool true)) (.t 23))⟩, ⟨8, some 25, none, .k (.mov (.t 24))⟩, ⟨9, some 26, (some (25, true)), .k (.fadr 2 (.t 1))⟩, ⟨10, some 27, (some (25, true)), .k (.load 1 false (.t 26))⟩, ⟨11, some 28, (some (25, true)), .k (.bin .eql (.t 27) (.c (.str [])))⟩, ⟨12, some 29, none, .k (.pick (.t 25) (.t 28) (.c (.bool false)))⟩, ⟨13, some 2, none, .k (.mov (.t 29))⟩] [2])
        (.ret))
        (.seq (.seq (.reg [⟨0, some 31, none, .k (.bin .eql (.t 4) (.c (.int .i64 2)))⟩, ⟨1, some 30, none, .k (.mov (.t 31))⟩] [1, 4, 30])
        (.cond (.t 30)
          (.skip)
          (.reg [⟨0, some 32, none, .k (.bin .eql (.t 4) (.c (.int .i64 3)))⟩, ⟨1, some 30, none, .k (.mov (.t 32))⟩] [1, 4, 30])))
        (.named [1, 4, 30] m172k1))))))))
  (.named [] m172k2))
theorem is172 : FnIs Tryz.prog 172 42 m172 [.t 2] := .of Tryz.call172 Tryz.func172 (by kernel_rfl)
def m173 : MC :=
  .seq (.reg [⟨0, some 2, none, .k (.mov (.c (.bool false)))⟩] [0])
  (.seq (.reg [⟨0, some 3, none, .k (.mov (.t 0))⟩, ⟨1, some 4, none, .k (.bin .geq (.t 3) (.c (.int .i64 (-1152921504606846976))))⟩, ⟨2, some 5, none, .k (.mov (.t 4))⟩, ⟨3, some 6, (some (5, true)), .k (.mov (.t 0))⟩, ⟨4, some 7, (some (5, true)), .k (.bin .leq (.t 6) (.c (.int .i64 1152921504606846976)))⟩, ⟨5, some 8, none, .k (.pick (.t 5) (.t 7) (.c (.bool false)))⟩, ⟨6, some 2, none, .k (.mov (.t 8))⟩] [2])
  (.ret))
theorem is173 : FnIs Tryz.prog 173 9 m173 [.t 2] := .of Tryz.call173 Tryz.func173 (by kernel_rfl)
def m174 : MC :=
  .seq (.reg [⟨0, some 2, none, .k (.mov (.c (.bool false)))⟩] [0])
  (.seq (.reg [⟨0, some 3, none, .k (.mov (.t 0))⟩, ⟨1, some 4, none, .k (.len true (.t 3))⟩, ⟨2, some 5, none, .k (.bin .leq (.t 4) (.c (.int .i64 64)))⟩, ⟨3, some 6, none, .k (.mov (.t 5))⟩, ⟨4, some 7, (some (6, true)), .k (.mov (.t 0))⟩, ⟨5, some 8, (some (6, true)), .call (.f 204) [.t 7, .c (.int .u8 32)]⟩, ⟨6, some 9, none, .k (.pick (.t 6) (.t 8) (.c (.bool false)))⟩, ⟨7, some 2, none, .k (.mov (.t 9))⟩] [2])
  (.ret))
theorem is174 : FnIs Tryz.prog 174 10 m174 [.t 2] := .of Tryz.call174 Tryz.func174 (by kernel_rfl)
def m175 : MC :=
  .seq (.reg [⟨0, some 2, none, .k (.mov (.c (.bool false)))⟩] [0])
  (.seq (.reg [⟨0, some 3, none, .k (.mov (.t 0))⟩, ⟨1, some 4, none, .k (.bin .neq (.t 3) (.c (.str [])))⟩, ⟨2, some 5, none, .k (.mov (.t 4))⟩, ⟨3, some 6, (some (5, true)), .k (.mov (.t 0))⟩, ⟨4, some 7, (some (5, true)), .k (.len true (.t 6))⟩, ⟨5, some 8, (some (5, true)), .k (.bin .leq (.t 7) (.c (.int .i64 32)))⟩, ⟨6, some 9, none, .k (.pick (.t 5) (.t 8) (.c (.bool false)))⟩, ⟨7, some 10, none, .k (.mov (.t 9))⟩, ⟨8, some 11, (some (10, true)), .k (.mov (.t 0))⟩, ⟨9, some 12, (some (10, true)), .call (.f 204) [.t 11, .c (.int .u8 33)]⟩, ⟨10, some 13, none, .k (.pick (.t 10) (.t 12) (.c (.bool false)))⟩, ⟨11, some 2, none, .k (.mov (.t 13))⟩] [2])
  (.ret))
theorem is175 : FnIs Tryz.prog 175 14 m175 [.t 2] := .of Tryz.call175 Tryz.func175 (by kernel_rfl)
def m176l0 : MC :=
  .seq (.reg [⟨0, some 6, none, .k (.bin .lss (.t 5) (.c (.int .i64 256)))⟩] [0, 1, 2, 5, 6])
  (.seq (.cond (.t 6)
    (.skip)
    (.exit 0))
  (.seq (.block 1
    (.seq (.reg [⟨0, some 7, none, .k (.mov (.t 5))⟩, ⟨1, some 3, none, .k (.mov (.t 7))⟩] [0, 1, 2, 3, 5])
    (.reg [⟨0, some 8, none, .k (.mov (.t 2))⟩, ⟨1, some 9, none, .k (.mov (.t 3))⟩, ⟨2, some 10, none, .call (.t 8) [.t 9]⟩] [0, 1, 2, 5])))
  (.reg [⟨0, some 11, none, .k (.bin .add (.t 5) (.c (.int .i64 1)))⟩, ⟨1, some 5, none, .k (.mov (.t 11))⟩] [0, 1, 2, 5])))
def m176k0 : MC :=
  .seq (.reg [⟨0, some 12, none, .k (.load 256 true (.t 1))⟩, ⟨1, none, none, .k (.store 256 (.t 0) (.t 12))⟩] [0])
  (.ret)
def m176 : MC :=
  .seq (.reg [⟨0, some 0, none, .k (.alloc [.int .u32 0, .int .u32 0, .int .u32 0, .int .u32 0, .int .u32 0, .int .u32 0, .int .u32 0, .int .u32 0, .int .u32 0, .int .u32 0, .int .u32 0, .int .u32 0, .int .u32 0, .int .u32 0, .int .u32 0, .int .u32 0, .int .u32 0, .int .u32 0, .int .u32 0, .int .u32 0, .int .u32 0, .int .u32 0, .int .u32 0, .int .u32 0, .int .u32 0, .int .u32 0, .int .u32 0, .int .u32 0, .int .u32 0, .int .u32 0, .int .u32 0, .int .u32 0, .int .u32 0, .int .u32 0, .int .u32 0, .int .u32 0, .int .u32 0, .int .u32 0, .int .u32 0, .int .u32 0, .int .u32 0, .int .u32 0, .int .u32 0, .int .u32 0, .int .u32 0, .int .u32 0, .int .u32 0, .int .u32 0, .int .u32 0, .int .u32 0, .int .u32 0, .int .u32 0, .int .u32 0, .int .u32 0, .int .u32 0, .int .u32 0, .int .u32 0, .int .u32 0, .int .u32 0, .int .u32 0, .int .u32 0, .int .u32 0, .int .u32 0, .int .u32 0, .int .u32 0, .int .u32 0, .int .u32 0, .int .u32 0, .int .u32 0, .int .u32 0, .int .u32 0, .int .u32 0, .int .u32 0, .int .u32 0, .int .u32 0, .int .u32 0, .int .u32 0, .int .u32 0, .int .u32 0, .int .u32 0, .int .u32 0, .int .u32 0, .int .u32 0, .int .u32 0, .int .u32 0, .int .u32 0, .int .u32 0, .int .u32 0, .int .u32 0, .int .u32 0, .int .u32 0, .int .u32 0, .int .u32 0, .int .u32 0, .int .u32 0, .int .u32 0, .int .u32 0, .int .u32 0, .int .u32 0, .int .u32 0, .int .u32 0, .int .u32 0, .int .u32 0, .int .u32 0, .int .u32 0, .int .u32 0, .int .u32 0, .int .u32 0, .int .u32 0, .int .u32 0, .int .u32 0, .int .u32 0, .int .u32 0, .int .u32 0, .int .u32 0, .int .u32 0, .int .u32 0, .int .u32 0, .int .u32 0, .int .u32 0, .int .u32 0, .int .u32 0, .int .u32 0, .int .u32 0, .int .u32 0, .int .u32 0, .int .u32 0, .int .u32 0, .int .u32 0, .int .u32 0, .int .u32 0, .int .u32 0, .int .u32 0, .int .u32 0, .int .u32 0, .int .u32 0, .int .u32 0, .int .u32 0, .int .u32 0, .int .u32 0, .int .u32 0, .int .u32 0, .int .u32 0, .int .u32 0, .int .u32 0, .int .u32 0, .int .u32 0, .int .u32 0, .int .u32 0, .int .u32 0, .int .u32 0, .int .u32 0, .int .u32 0, .int .u32 0, .int .u32 0, .int .u32 0, .int .u32 0, .int .u32 0, .int .u32 0, .int .u32 0, .int .u32 0, .int .u32 0, .int .u32 0, .int .u32 0, .int .u32 0, .int .u32 0, .int .u32 0, .int .u32 0, .int .u32 0, .int .u32 0, .int .u32 0, .int .u32 0, .int .u32 0, .int .u32 0, .int .u32 0, .int .u32 0, .int .u32 0, .int .u32 0, .int .u32 0, .int .u32 0, .int .u32 0, .int .u32 0, .int .u32 0, .int .u32 0, .int .u32 0, .int .u32 0, .int .u32 0, .int .u32 0, .int .u32 0, .int .u32 0, .int .u32 0, .int .u32 0, .int .u32 0, .int .u32 0, .int .u32 0, .int .u32 0, .int .u32 0, .int .u32 0, .int .u32 0, .int .u32 0, .int .u32 0, .int .u32 0, .int .u32 0, .int .u32 0, .int .u32 0, .int .u32 0, .int .u32 0, .int .u32 0, .int .u32 0, .int .u32 0, .int .u32 0, .int .u32 0, .int .u32 0, .int .u32 0, .int .u32 0, .int .u32 0, .int .u32 0, .int .u32 0, .int .u32 0, .int .u32 0, .int .u32 0, .int .u32 0, .int .u32 0, .int .u32 0, .int .u32 0, .int .u32 0, .int .u32 0, .int .u32 0, .int .u32 0, .int .u32 0, .int .u32 0, .int .u32 0, .int .u32 0, .int .u32 0, .int .u32 0, .int .u32 0, .int .u32 0, .int .u32 0, .int .u32 0, .int .u32 0, .int .u32 0, .int .u32 0, .int .u32 0, .int .u32 0, .int .u32 0, .int .u32 0, .int .u32 0, .int .u32 0, .int .u32 0, .int .u32 0, .int .u32 0, .int .u32 0, .int .u32 0, .int .u32 0, .int .u32 0, .int .u32 0])⟩] [0])
  (.seq (.reg [⟨0, some 1, none, .k (.alloc [.int .u32 0, .int .u32 0, .int .u32 0, .int .u32 0, .int .u32 0, .int .u32 0, .int .u32 0, .int .u32 0, .int .u32 0, .int .u32 0, .int .u32 0, .int .u32 0, .int .u32 0, .int .u32 0, .int .u32 0, .int .u32 0, .int .u32 0, .int .u32 0, .int .u32 0, .int .u32 0, .int .u32 0, .int .u32 0, .int .u32 0, .int .u32 0, .int .u32 0, .int .u32 0, .int .u32 0, .int .u32 0, .int .u32 0, .int .u32 0, .int .u32 0, .int .u32 0, .int .u32 0, .int .u32 0, .int .u32 0, .int .u32 0, .int .u32 0, .int .u32 0, .int .u32 0, .int .u32 0, .int .u32 0, .int .u32 0, .int .u32 0, .int .u32 0, .int .u32 0, .int .u32 0, .int .u32 0, .int .u32 0, .int .u32 0, .int .u32 0, .int .u32 0, .int .u32 0, .int .u32 0, .int .u32 0, .int .u32 0, .int .u32 0, .int .u32 0, .int .u32 0, .int .u32 0, .int .u32 0, .int .u32 0, .int .u32 0, .int .u32 0, .int .u32 0, .int .u32 0, .int .u32 0, .int .u32 0, .int .u32 0, .int .u32 0, .int .u32 0, .int .u32 0, .int .u32 0, .int .u32 0, .int .u32 0, .int .u32 0, .int .u32 0, .int .u32 0, .int .u32 0, .int .u32 0, .int .u32 0, .int .u32 0, .int .u32 0, .int .u32 0, .int .u32 0, .int .u32 0, .int .u32 0, .int .u32 0, .int .u32 0, .int .u32 0, .int .u32 0, .int .u32 0, .int .u32 0, .int .u32 0, .int .u32 0, .int .u32 0, .int .u32 0, .int .u32 0, .int .u32 0, .int .u32 0, .int .u32 0, .int .u32 0, .int .u32 0, .int .u32 0, .int .u32 0, .int .u32 0, .int .u32 0, .int .u32 0, .int .u32 0, .int .u32 0, .int .u32 0, .int .u32 0, .int .u32 0, .int .u32 0, .int .u32 0, .int .u32 0, .int .u32 0, .int .u32 0, .int .u32 0, .int .u32 0, .int .u32 0, .int .u32 0, .int .u32 0, .int .u32 0, .int .u32 0, .int .u32 0, .int .u32 0, .int .u32 0, .int .u32 0, .int .u32 0, .int .u32 0, .int .u32 0, .int .u32 0, .int .u32 0, .int .u32 0, .int .u32 0, .int .u32 0, .int .u32 0, .int .u32 0, .int .u32 0, .int .u32 0, .int .u32 0, .int .u32 0, .int .u32 0, .int .u32 0, .int .u32 0, .int .u32 0, .int .u32 0, .int .u32 0, .int .u32 0, .int .u32 0, .int .u32 0, .int .u32 0, .int .u32 0, .int .u32 0, .int .u32 0, .int .u32 0, .int .u32 0, .int .u32 0, .int .u32 0, .int .u32 0, .int .u32 0, .int .u32 0, .int .u32 0, .int .u32 0, .int .u32 0, .int .u32 0, .int .u32 0, .int .u32 0, .int .u32 0, .int .u32 0, .int .u32 0, .int .u32 0, .int .u32 0, .int .u32 0, .int .u32 0, .int .u32 0, .int .u32 0, .int .u32 0, .int .u32 0, .int .u32 0, .int .u32 0, .int .u32 0, .int .u32 0, .int .u32 0, .int .u32 0, .int .u32 0, .int .u32 0, .int .u32 0, .int .u32 0, .int .u32 0, .int .u32 0, .int .u32 0, .int .u32 0, .int .u32 0, .int .u32 0, .int .u32 0, .int .u32 0, .int .u32 0, .int .u32 0, .int .u32 0, .int .u32 0, .int .u32 0, .int .u32 0, .int .u32 0, .int .u32 0, .int .u32 0, .int .u32 0, .int .u32 0, .int .u32 0, .int .u32 0, .int .u32 0, .int .u32 0, .int .u32 0, .int .u32 0, .int .u32 0, .int .u32 0, .int .u32 0, .int .u32 0, .int .u32 0, .int .u32 0, .int .u32 0, .int .u32 0, .int .u32 0, .int .u32 0, .int .u32 0, .int .u32 0, .int .u32 0, .int .u32 0, .int .u32 0, .int .u32 0, .int .u32 0, .int .u32 0, .int .u32 0, .int .u32 0, .int .u32 0, .int .u32 0, .int .u32 0, .int .u32 0, .int .u32 0, .int .u32 0, .int .u32 0, .int .u32 0, .int .u32 0, .int .u32 0, .int .u32 0, .int .u32 0, .int .u32 0, .int .u32 0, .int .u32 0, .int .u32 0, .int .u32 0, .int .u32 0, .int .u32 0, .int .u32 0, .int .u32 0, .int .u32 0])⟩] [0, 1])
  (.seq (.reg [⟨0, some 4, none, .k (.func (.func 205) [] [.t 1])⟩, ⟨1, some 2, none, .k (.mov (.t 4))⟩] [0, 1, 2])
  (.seq (.seq (.reg [⟨0, some 5, none, .k (.mov (.c (.int .i64 0)))⟩] [0, 1, 2, 5])
  (.block 0
    (.loop m176l0)))
  (.named [0, 1] m176k0))))
theorem is176 : FnIs Tryz.prog 176 13 m176 [.c 0 256 true] := .of Tryz.call176 Tryz.func176 (by kernel_rfl)
def m178 : MC :=
  .seq (.reg [⟨0, some 5, none, .k (.mov (.t 0))⟩, ⟨1, some 6, none, .k (.len false (.t 5))⟩, ⟨2, some 4, none, .k (.mov (.t 6))⟩] [0, 1, 4])
  (.reg [⟨0, some 7, none, .k (.mov (.t 0))⟩, ⟨1, some 8, none, .k (.mov (.t 4))⟩, ⟨2, some 9, none, .k (.mov (.t 4))⟩, ⟨3, some 10, none, .k (.conv .u64 (.t 9))⟩, ⟨4, some 11, none, .call (.f 207) [.t 10]⟩, ⟨5, some 12, none, .k (.mov (.t 1))⟩, ⟨6, some 13, none, .call (.f 206) [.t 7, .c (.int .i64 0), .t 8, .t 11, .t 12]⟩] [])
theorem is178 : FnIs Tryz.prog 178 14 m178 [] := .of Tryz.call178 Tryz.func178 (by kernel_rfl)
def m180k0 : MC :=
  .reg [⟨0, some 33, none, .k (.mov (.t 5))⟩, ⟨1, some 34, none, .k (.bin .add (.t 33) (.c (.int .i64 1)))⟩, ⟨2, some 5, none, .k (.mov (.t 34))⟩] [0, 3, 4, 5]
def m180l0 : MC :=
  .seq (.seq (.reg [⟨0, some 29, none, .k (.mov (.t 5))⟩, ⟨1, some 30, none, .k (.mov (.t 4))⟩, ⟨2, some 31, none, .k (.len false (.t 30))⟩, ⟨3, some 32, none, .k (.bin .lss (.t 29) (.t 31))⟩] [0, 3, 4, 5, 32])
  (.cond (.t 32)
    (.skip)
    (.exit 2)))
  (.seq (.block 3
    (.seq (.any (.one ⟨0, some 35, none, .k (.mov (.t 4))⟩ false false <|
        .one ⟨1, some 36, none, .k (.mov (.t 5))⟩ false false <|
        .one ⟨2, some 37, none, .k (.iadr 3 (.t 35) (.t 36))⟩ false false <|
        .one ⟨3, some 38, none, .k (.load 3 true (.t 37))⟩ false false <|
        .one ⟨4, some 39, none, .k (.mov (.t 4))⟩ false false <|
        .one ⟨5, some 40, none, .k (.mov (.t 5))⟩ false false <|
        .one ⟨6, some 41, none, .k (.bin .sub (.t 40) (.c (.int .i64 1)))⟩ false false <|
        .one ⟨7, some 42, none, .k (.iadr 3 (.t 39) (.t 41))⟩ false false <|
        .one ⟨8, some 43, none, .k (.load 3 true (.t 42))⟩ false false <|
        .one ⟨9, some 44, none, .k (.eqv [.s, .i, .i] true (.t 38) (.t 43))⟩ false false <|
        .done) [] [0, 3, 4, 5, 44])
    (.cond (.t 44)
      (.seq (.reg [⟨0, some 45, none, .k (.mov (.t 0))⟩, ⟨1, some 46, none, .k (.mov (.t 3))⟩, ⟨2, some 47, none, .k (.mov (.t 4))⟩, ⟨3, some 48, none, .k (.mov (.t 5))⟩, ⟨4, some 49, none, .k (.iadr 3 (.t 47) (.t 48))⟩, ⟨5, some 50, none, .k (.load 3 true (.t 49))⟩, ⟨6, some 51, none, .k (.iadr 3 (.t 45) (.t 46))⟩, ⟨7, none, none, .k (.store 3 (.t 51) (.t 50))⟩] [0, 3, 4, 5])
      (.reg [⟨0, some 52, none, .k (.mov (.t 3))⟩, ⟨1, some 53, none, .k (.bin .add (.t 52) (.c (.int .i64 1)))⟩, ⟨2, some 3, none, .k (.mov (.t 53))⟩] [0, 3, 4, 5]))
      (.skip))))
  (.named [0, 3, 4, 5] m180k0))
def m180k1 : MC :=
  .seq (.reg [⟨0, some 54, none, .k (.mov (.t 0))⟩, ⟨1, some 55, none, .k (.mov (.t 3))⟩, ⟨2, some 56, none, .k (.slV 3 (.t 54) (some (.t 55)) none none)⟩, ⟨3, none, none, .k .bad⟩] [0, 3])
  (.seq (.reg [⟨0, some 57, none, .k (.mov (.t 0))⟩, ⟨1, some 58, none, .k (.mov (.t 3))⟩, ⟨2, some 59, none, .k (.slV 3 (.t 57) none (some (.t 58)) none)⟩, ⟨3, some 2, none, .k (.mov (.t 59))⟩] [2])
  (.ret))
def m180k2 : MC :=
  .reg [⟨0, some 14, none, .k (.mov (.t 3))⟩, ⟨1, some 15, none, .k (.bin .add (.t 14) (.c (.int .i64 1)))⟩, ⟨2, some 3, none, .k (.mov (.t 15))⟩] [0, 3]
def m180l1 : MC :=
  .seq (.seq (.reg [⟨0, some 10, none, .k (.mov (.t 3))⟩, ⟨1, some 11, none, .k (.mov (.t 0))⟩, ⟨2, some 12, none, .k (.len false (.t 11))⟩, ⟨3, some 13, none, .k (.bin .lss (.t 10) (.t 12))⟩] [0, 3, 13])
  (.cond (.t 13)
    (.skip)
    (.exit 0)))
  (.seq (.block 1
    (.seq (.any (.one ⟨0, some 16, none, .k (.mov (.t 0))⟩ false false <|
        .one ⟨1, some 17, none, .k (.mov (.t 3))⟩ false false <|
        .one ⟨2, some 18, none, .k (.iadr 3 (.t 16) (.t 17))⟩ false false <|
        .one ⟨3, some 19, none, .k (.load 3 true (.t 18))⟩ false false <|
        .one ⟨4, some 20, none, .k (.mov (.t 0))⟩ false false <|
        .one ⟨5, some 21, none, .k (.mov (.t 3))⟩ false false <|
        .one ⟨6, some 22, none, .k (.bin .sub (.t 21) (.c (.int .i64 1)))⟩ false false <|
        .one ⟨7, some 23, none, .k (.iadr 3 (.t 20) (.t 22))⟩ false false <|
        .one ⟨8, some 24, none, .k (.load 3 true (.t 23))⟩ false false <|
        .one ⟨9, some 25, none, .k (.eqv [.s, .i, .i] false (.t 19) (.t 24))⟩ false false <|
        .done) [] [0, 3, 25])
    (.cond (.t 25)
      (.seq (.reg [⟨0, some 26, none, .k (.mov (.t 0))⟩, ⟨1, some 27, none, .k (.mov (.t 3))⟩, ⟨2, some 28, none, .k (.slV 3 (.t 26) (some (.t 27)) none none)⟩, ⟨3, some 4, none, .k (.mov (.t 28))⟩] [0, 3, 4])
      (.seq (.seq (.reg [⟨0, some 5, none, .k (.mov (.c (.int .i64 1)))⟩] [0, 3, 4, 5])
      (.block 2
        (.loop m180l0)))
      (.named [0, 3] m180k1)))
      (.skip))))
  (.named [0, 3] m180k2))
def m180k3 : MC :=
  .seq (.reg [⟨0, some 60, none, .k (.mov (.t 0))⟩, ⟨1, some 2, none, .k (.mov (.t 60))⟩] [2])
  (.ret)
def m180 : MC :=
  .seq (.reg [⟨0, some 2, none, .k (.mov (.c (.sl 3 [] .exact)))⟩] [0])
  (.seq (.seq (.reg [⟨0, some 6, none, .k (.mov (.t 0))⟩, ⟨1, some 7, none, .k (.len false (.t 6))⟩, ⟨2, some 8, none, .k (.bin .lss (.t 7) (.c (.int .i64 2)))⟩] [0, 8])
  (.cond (.t 8)
    (.seq (.reg [⟨0, some 9, none, .k (.mov (.t 0))⟩, ⟨1, some 2, none, .k (.mov (.t 9))⟩] [2])
    (.ret))
    (.skip)))
  (.seq (.seq (.reg [⟨0, some 3, none, .k (.mov (.c (.int .i64 1)))⟩] [0, 3])
  (.block 0
    (.loop m180l1)))
  (.named [0] m180k3)))
theorem is180 : FnIs Tryz.prog 180 61 m180 [.t 2] := .of Tryz.call180 Tryz.func180 (by kernel_rfl)
def m193l0 : MC :=
  .seq (.reg [⟨0, some 9, none, .k (.bin .lss (.t 8) (.t 7))⟩] [0, 1, 7, 8, 9])
  (.seq (.cond (.t 9)
    (.skip)
    (.exit 0))
  (.seq (.block 1
    (.seq (.reg [⟨0, some 10, none, .k (.mov (.t 8))⟩, ⟨1, some 5, none, .k (.mov (.t 10))⟩] [0, 1, 5, 7, 8])
    (.seq (.reg [⟨0, some 11, none, .k (.mov (.t 1))⟩, ⟨1, some 12, none, .k (.mov (.t 0))⟩, ⟨2, some 13, none, .k (.mov (.t 5))⟩, ⟨3, some 14, none, .k (.iadr 3 (.t 12) (.t 13))⟩, ⟨4, some 15, none, .k (.load 3 true (.t 14))⟩, ⟨5, some 16, none, .call (.t 11) [.t 15]⟩] [0, 1, 5, 7, 8, 16])
    (.cond (.t 16)
      (.seq (.reg [⟨0, some 17, none, .k (.mov (.t 5))⟩, ⟨1, some 4, none, .k (.mov (.t 17))⟩] [4])
      (.ret))
      (.skip)))))
  (.reg [⟨0, some 18, none, .k (.bin .add (.t 8) (.c (.int .i64 1)))⟩, ⟨1, some 8, none, .k (.mov (.t 18))⟩] [0, 1, 7, 8])))
def m193k0 : MC :=
  .seq (.reg [⟨0, some 4, none, .k (.mov (.c (.int .i64 (-1))))⟩] [4])
  (.ret)
def m193 : MC :=
  .seq (.reg [⟨0, some 4, none, .k (.mov (.c (.int .i64 0)))⟩] [0, 1])
  (.seq (.seq (.reg [⟨0, some 6, none, .k (.mov (.t 0))⟩, ⟨1, some 7, none, .k (.len false (.t 6))⟩, ⟨2, some 8, none, .k (.mov (.c (.int .i64 0)))⟩] [0, 1, 7, 8])
  (.block 0
    (.loop m193l0)))
  (.named [] m193k0))
theorem is193 : FnIs Tryz.prog 193 19 m193 [.t 4] := .of Tryz.call193 Tryz.func193 (by kernel_rfl)
def m195 : MC :=
  .seq (.reg [⟨0, some 2, none, .k (.mov (.c (.bool false)))⟩] [0])
  (.seq (.reg [⟨0, some 3, none, .k (.mov (.t 0))⟩, ⟨1, some 4, none, .k (.mov (.t 0))⟩, ⟨2, some 5, none, .k (.bin .neq (.t 3) (.t 4))⟩, ⟨3, some 2, none, .k (.mov (.t 5))⟩] [2])
  (.ret))
theorem is195 : FnIs Tryz.prog 195 6 m195 [.t 2] := .of Tryz.call195 Tryz.func195 (by kernel_rfl)
def m196 : MC :=
  .seq (.reg [⟨0, some 2, none, .k (.mov (.c (.bool false)))⟩] [0])
  (.seq (.reg [⟨0, some 3, none, .k (.mov (.t 0))⟩, ⟨1, some 4, none, .k (.bin .geq (.t 3) (.c (.int .u8 97)))⟩, ⟨2, some 5, none, .k (.mov (.t 4))⟩, ⟨3, some 6, (some (5, true)), .k (.mov (.t 0))⟩, ⟨4, some 7, (some (5, true)), .k (.bin .leq (.t 6) (.c (.int .u8 122)))⟩, ⟨5, some 8, none, .k (.pick (.t 5) (.t 7) (.c (.bool false)))⟩, ⟨6, some 2, none, .k (.mov (.t 8))⟩] [2])
  (.ret))
theorem is196 : FnIs Tryz.prog 196 9 m196 [.t 2] := .of Tryz.call196 Tryz.func196 (by kernel_rfl)
def m197 : MC :=
  .seq (.reg [⟨0, some 2, none, .k (.mov (.c (.bool false)))⟩] [0])
  (.seq (.reg [⟨0, some 3, none, .k (.mov (.t 0))⟩, ⟨1, some 4, none, .k (.bin .geq (.t 3) (.c (.int .u8 48)))⟩, ⟨2, some 5, none, .k (.mov (.t 4))⟩, ⟨3, some 6, (some (5, true)), .k (.mov (.t 0))⟩, ⟨4, some 7, (some (5, true)), .k (.bin .leq (.t 6) (.c (.int .u8 57)))⟩, ⟨5, some 8, none, .k (.pick (.t 5) (.t 7) (.c (.bool false)))⟩, ⟨6, some 2, none, .k (.mov (.t 8))⟩] [2])
  (.ret))
theorem is197 : FnIs Tryz.prog 197 9 m197 [.t 2] := .of Tryz.call197 Tryz.func197 (by kernel_rfl)
def m203 : MC :=
  .seq (.reg [⟨0, some 2, none, .k (.mov (.c (.str [])))⟩] [0])
  (.seq (.seq (.reg [⟨0, some 3, none, .k (.mov (.t 0))⟩] [3])
  (.cond (.t 3)
    (.seq (.reg [⟨0, some 2, none, .k (.mov (.c (.str [116, 114, 117, 101])))⟩] [2])
    (.ret))
    (.skip)))
  (.seq (.reg [⟨0, some 2, none, .k (.mov (.c (.str [102, 97, 108, 115, 101])))⟩] [2])
  (.ret)))
theorem is203 : FnIs Tryz.prog 203 4 m203 [.t 2] := .of Tryz.call203 Tryz.func203 (by kernel_rfl)
def m204k0 : MC :=
  .cond (.t 34)
    (.seq (.reg [⟨0, some 4, none, .k (.mov (.c (.bool false)))⟩] [4])
    (.ret))
    (.skip)
def m204k1 : MC :=
  .reg [⟨0, some 10, none, .k (.mov (.t 5))⟩, ⟨1, some 11, none, .k (.bin .add (.t 10) (.c (.int .i64 1)))⟩, ⟨2, some 5, none, .k (.mov (.t 11))⟩] [0, 1, 5]
def m204l0 : MC :=
  .seq (.seq (.reg [⟨0, some 6, none, .k (.mov (.t 5))⟩, ⟨1, some 7, none, .k (.mov (.t 0))⟩, ⟨2, some 8, none, .k (.len true (.t 7))⟩, ⟨3, some 9, none, .k (.bin .lss (.t 6) (.t 8))⟩] [0, 1, 5, 9])
  (.cond (.t 9)
    (.skip)
    (.exit 0)))
  (.seq (.block 1
    (.seq (.reg [⟨0, some 12, none, .k (.mov (.t 0))⟩, ⟨1, some 13, none, .k (.mov (.t 5))⟩, ⟨2, some 14, none, .k (.istr (.t 12) (.t 13))⟩, ⟨3, some 15, none, .k (.mov (.t 1))⟩, ⟨4, some 16, none, .k (.bin .lss (.t 14) (.t 15))⟩, ⟨5, some 17, none, .k (.mov (.t 16))⟩, ⟨6, some 18, (some (17, false)), .k (.mov (.t 0))⟩, ⟨7, some 19, (some (17, false)), .k (.mov (.t 5))⟩, ⟨8, some 20, (some (17, false)), .k (.istr (.t 18) (.t 19))⟩, ⟨9, some 21, (some (17, false)), .k (.bin .gtr (.t 20) (.c (.int .u8 126)))⟩, ⟨10, some 22, none, .k (.pick (.t 17) (.c (.bool true)) (.t 21))⟩, ⟨11, some 23, none, .k (.mov (.t 22))⟩, ⟨12, some 24, (some (23, false)), .k (.mov (.t 0))⟩, ⟨13, some 25, (some (23, false)), .k (.mov (.t 5))⟩, ⟨14, some 26, (some (23, false)), .k (.istr (.t 24) (.t 25))⟩, ⟨15, some 27, (some (23, false)), .k (.bin .eql (.t 26) (.c (.int .u8 34)))⟩, ⟨16, some 28, none, .k (.pick (.t 23) (.c (.bool true)) (.t 27))⟩, ⟨17, some 29, none, .k (.mov (.t 28))⟩, ⟨18, some 30, (some (29, false)), .k (.mov (.t 0))⟩, ⟨19, some 31, (some (29, false)), .k (.mov (.t 5))⟩, ⟨20, some 32, (some (29, false)), .k (.istr (.t 30) (.t 31))⟩, ⟨21, some 33, (some (29, false)), .k (.bin .eql (.t 32) (.c (.int .u8 92)))⟩, ⟨22, some 34, none, .k (.pick (.t 29) (.c (.bool true)) (.t 33))⟩] [0, 1, 5, 34])
    (.named [0, 1, 5, 34] m204k0)))
  (.named [0, 1, 5] m204k1))
def m204k2 : MC :=
  .seq (.reg [⟨0, some 4, none, .k (.mov (.c (.bool true)))⟩] [4])
  (.ret)
def m204 : MC :=
  .seq (.reg [⟨0, some 4, none, .k (.mov (.c (.bool false)))⟩] [0, 1])
  (.seq (.seq (.reg [⟨0, some 5, none, .k (.mov (.c (.int .i64 0)))⟩] [0, 1, 5])
  (.block 0
    (.loop m204l0)))
  (.named [] m204k2))
theorem is204 : FnIs Tryz.prog 204 35 m204 [.t 4] := .of Tryz.call204 Tryz.func204 (by kernel_rfl)
def m205k0 : MC :=
  .reg [⟨0, some 16, none, .k (.bin .add (.t 6) (.c (.int .i64 1)))⟩, ⟨1, some 6, none, .k (.mov (.t 16))⟩] [0, 1, 3, 6]
def m205l0 : MC :=
  .seq (.reg [⟨0, some 7, none, .k (.bin .lss (.t 6) (.c (.int .i64 8)))⟩] [0, 1, 3, 6, 7])
  (.seq (.cond (.t 7)
    (.skip)
    (.exit 0))
  (.seq (.block 1
    (.seq (.reg [⟨0, some 8, none, .k (.mov (.t 3))⟩, ⟨1, some 9, none, .k (.bin .and (.t 8) (.c (.int .u32 1)))⟩, ⟨2, some 10, none, .k (.bin .eql (.t 9) (.c (.int .u32 1)))⟩] [0, 1, 3, 6, 10])
    (.cond (.t 10)
      (.reg [⟨0, some 11, none, .k (.mov (.t 3))⟩, ⟨1, some 12, none, .k (.bin .shr (.t 11) (.c (.int .u64 1)))⟩, ⟨2, some 13, none, .k (.bin .xor (.t 12) (.c (.int .u32 3988292384)))⟩, ⟨3, some 3, none, .k (.mov (.t 13))⟩] [0, 1, 3, 6])
      (.reg [⟨0, some 14, none, .k (.mov (.t 3))⟩, ⟨1, some 15, none, .k (.bin .shr (.t 14) (.c (.int .u64 1)))⟩, ⟨2, some 3, none, .k (.mov (.t 15))⟩] [0, 1, 3, 6]))))
  (.named [0, 1, 3, 6] m205k0)))
def m205k1 : MC :=
  .reg [⟨0, some 17, none, .k (.mov (.t 0))⟩, ⟨1, some 18, none, .k (.mov (.t 3))⟩, ⟨2, some 19, none, .k (.iadrA 1 256 (.t 1) (.t 17))⟩, ⟨3, none, none, .k (.store 1 (.t 19) (.t 18))⟩] []
def m205 : MC :=
  .seq (.reg [⟨0, some 4, none, .k (.mov (.t 0))⟩, ⟨1, some 5, none, .k (.conv .u32 (.t 4))⟩, ⟨2, some 3, none, .k (.mov (.t 5))⟩] [0, 1, 3])
  (.seq (.seq (.reg [⟨0, some 6, none, .k (.mov (.c (.int .i64 0)))⟩] [0, 1, 3, 6])
  (.block 0
    (.loop m205l0)))
  (.named [0, 1, 3] m205k1))
theorem is205 : FnIs Tryz.prog 205 20 m205 [] := .of Tryz.call205 Tryz.func205 (by kernel_rfl)
def m206k0 : MC :=
  .cond (.t 75)
    (.seq (.reg [⟨0, some 76, none, .k (.mov (.t 0))⟩, ⟨1, some 77, none, .k (.mov (.t 1))⟩, ⟨2, some 78, none, .k (.mov (.t 2))⟩, ⟨3, some 79, none, .k (.mov (.t 4))⟩, ⟨4, some 80, none, .call (.f 231) [.t 76, .t 77, .t 78, .t 79]⟩] [0, 1, 2, 3, 4, 10, 11, 12, 13, 80])
    (.cond (.t 80)
      (.ret)
      (.skip)))
    (.skip)
def m206k1 : MC :=
  .cond (.t 97)
    (.seq (.reg [⟨0, some 98, none, .k (.mov (.t 0))⟩, ⟨1, some 99, none, .k (.mov (.t 1))⟩, ⟨2, some 100, none, .k (.mov (.t 2))⟩, ⟨3, some 101, none, .k (.mov (.t 13))⟩, ⟨4, some 102, none, .k (.mov (.t 4))⟩, ⟨5, some 103, none, .call (.f 232) [.t 98, .t 99, .t 100, .t 101, .t 102]⟩, ⟨6, some 15, none, .k (.mov (.t 103))⟩] [0, 2, 3, 4, 10, 11, 15])
    (.seq (.reg [⟨0, some 104, none, .k (.mov (.t 15))⟩, ⟨1, some 1, none, .k (.mov (.t 104))⟩] [0, 1, 2, 3, 4, 10, 11])
    (.exit 1)))
    (.skip)
def m206k2 : MC :=
  .seq (.reg [⟨0, some 106, none, .k (.mov (.t 0))⟩, ⟨1, some 107, none, .k (.mov (.t 1))⟩, ⟨2, some 108, none, .k (.mov (.t 2))⟩, ⟨3, some 109, none, .k (.mov (.t 13))⟩, ⟨4, some 110, none, .k (.mov (.t 4))⟩, ⟨5, some 111, none, .call (.f 233) [.t 106, .t 107, .t 108, .t 109, .t 110]⟩, ⟨6, some 105, none, .k (.mov (.t 111))⟩, ⟨7, some 112, none, .k (.ext (.t 105) 0)⟩, ⟨8, some 113, none, .k (.ext (.t 105) 1)⟩, ⟨9, some 16, none, .k (.mov (.t 112))⟩, ⟨10, some 17, none, .k (.mov (.t 113))⟩] [0, 1, 2, 3, 4, 12, 16, 17])
  (.seq (.reg [⟨0, some 114, none, .k (.mov (.t 17))⟩, ⟨1, some 11, none, .k (.mov (.t 114))⟩] [0, 1, 2, 3, 4, 11, 12, 16])
  (.seq (.reg [⟨0, some 115, none, .k (.mov (.t 16))⟩, ⟨1, some 116, none, .k (.mov (.t 1))⟩, ⟨2, some 117, none, .k (.bin .sub (.t 115) (.t 116))⟩, ⟨3, some 118, none, .k (.mov (.t 2))⟩, ⟨4, some 119, none, .k (.mov (.t 16))⟩, ⟨5, some 120, none, .k (.bin .sub (.t 118) (.t 119))⟩, ⟨6, some 18, none, .k (.mov (.t 117))⟩, ⟨7, some 19, none, .k (.mov (.t 120))⟩] [0, 1, 2, 3, 4, 11, 12, 16, 18, 19])
  (.seq (.reg [⟨0, some 121, none, .k (.mov (.t 12))⟩, ⟨1, some 122, none, .k (.bin .quo (.t 121) (.c (.int .i64 8)))⟩, ⟨2, some 20, none, .k (.mov (.t 122))⟩] [0, 1, 2, 3, 4, 11, 16, 18, 19, 20])
  (.seq (.reg [⟨0, some 123, none, .k (.mov (.t 18))⟩, ⟨1, some 124, none, .k (.mov (.t 19))⟩, ⟨2, some 125, none, .k (.bin .lss (.t 123) (.t 124))⟩] [0, 1, 2, 3, 4, 11, 16, 18, 19, 20, 125])
  (.cond (.t 125)
    (.seq (.reg [⟨0, some 126, none, .k (.mov (.t 18))⟩, ⟨1, some 127, none, .k (.mov (.t 20))⟩, ⟨2, some 128, none, .k (.bin .geq (.t 126) (.t 127))⟩, ⟨3, some 10, none, .k (.mov (.t 128))⟩] [0, 1, 2, 3, 4, 10, 11, 16])
    (.seq (.reg [⟨0, some 129, none, .k (.mov (.t 0))⟩, ⟨1, some 130, none, .k (.mov (.t 1))⟩, ⟨2, some 131, none, .k (.mov (.t 16))⟩, ⟨3, some 132, none, .k (.mov (.t 3))⟩, ⟨4, some 133, none, .k (.mov (.t 4))⟩, ⟨5, some 134, none, .call (.f 206) [.t 129, .t 130, .t 131, .t 132, .t 133]⟩] [0, 2, 3, 4, 10, 11, 16])
    (.reg [⟨0, some 135, none, .k (.mov (.t 16))⟩, ⟨1, some 136, none, .k (.bin .add (.t 135) (.c (.int .i64 1)))⟩, ⟨2, some 1, none, .k (.mov (.t 136))⟩] [0, 1, 2, 3, 4, 10, 11])))
    (.seq (.reg [⟨0, some 137, none, .k (.mov (.t 19))⟩, ⟨1, some 138, none, .k (.mov (.t 20))⟩, ⟨2, some 139, none, .k (.bin .geq (.t 137) (.t 138))⟩, ⟨3, some 10, none, .k (.mov (.t 139))⟩] [0, 1, 2, 3, 4, 10, 11, 16])
    (.seq (.reg [⟨0, some 140, none, .k (.mov (.t 0))⟩, ⟨1, some 141, none, .k (.mov (.t 16))⟩, ⟨2, some 142, none, .k (.bin .add (.t 141) (.c (.int .i64 1)))⟩, ⟨3, some 143, none, .k (.mov (.t 2))⟩, ⟨4, some 144, none, .k (.mov (.t 3))⟩, ⟨5, some 145, none, .k (.mov (.t 4))⟩, ⟨6, some 146, none, .call (.f 206) [.t 140, .t 142, .t 143, .t 144, .t 145]⟩] [0, 1, 3, 4, 10, 11, 16])
    (.reg [⟨0, some 147, none, .k (.mov (.t 16))⟩, ⟨1, some 2, none, .k (.mov (.t 147))⟩] [0, 1, 2, 3, 4, 10, 11]))))))))
def m206k3 : MC :=
  .seq (.seq (.any (.one ⟨0, some 81, none, .k (.mov (.t 1))⟩ false false <|
      .one ⟨1, some 82, none, .k (.bin .gtr (.t 81) (.c (.int .i64 0)))⟩ false false <|
      .one ⟨2, some 83, none, .k (.mov (.t 82))⟩ false false <|
      .one ⟨3, some 84, (some (83, true)), .k (.mov (.t 4))⟩ false false <|
      .one ⟨4, some 85, (some (83, true)), .k (.mov (.t 0))⟩ false false <|
      .one ⟨5, some 86, (some (83, true)), .k (.mov (.t 1))⟩ false false <|
      .one ⟨6, some 87, (some (83, true)), .k (.bin .sub (.t 86) (.c (.int .i64 1)))⟩ false false <|
      .one ⟨7, some 88, (some (83, true)), .k (.iadr 3 (.t 85) (.t 87))⟩ false false <|
      .one ⟨8, some 89, (some (83, true)), .k (.load 3 true (.t 88))⟩ false false <|
      .one ⟨9, some 90, (some (83, true)), .k (.mov (.t 0))⟩ false false <|
      .one ⟨10, some 91, (some (83, true)), .k (.mov (.t 13))⟩ false false <|
      .one ⟨11, some 92, (some (83, true)), .k (.iadr 3 (.t 90) (.t 91))⟩ false false <|
      .one ⟨12, some 93, (some (83, true)), .k (.load 3 true (.t 92))⟩ false false <|
      .one ⟨13, some 94, (some (83, true)), .call (.t 84) [.t 89, .t 93]⟩ false false <|
      .one ⟨14, some 95, (some (83, true)), .k (.bin .lss (.t 94) (.c (.int .i64 0)))⟩ false false <|
      .one ⟨15, some 96, (some (83, true)), .k (.un .not (.t 95))⟩ false false <|
      .one ⟨16, some 97, none, .k (.pick (.t 83) (.t 96) (.c (.bool false)))⟩ false false <|
      .done) [] [0, 1, 2, 3, 4, 10, 11, 12, 13, 97])
  (.named [0, 1, 2, 3, 4, 10, 11, 12, 13, 97] m206k1))
  (.named [0, 1, 2, 3, 4, 12, 13] m206k2)
def m206k4 : MC :=
  .seq (.seq (.reg [⟨0, some 68, none, .k (.mov (.t 10))⟩, ⟨1, some 69, none, .k (.mov (.t 68))⟩, ⟨2, some 70, (some (69, true)), .k (.mov (.t 11))⟩, ⟨3, some 71, none, .k (.pick (.t 69) (.t 70) (.c (.bool false)))⟩, ⟨4, some 72, none, .k (.mov (.t 71))⟩, ⟨5, some 73, (some (72, true)), .k (.mov (.t 14))⟩, ⟨6, some 74, (some (72, true)), .k (.bin .eql (.t 73) (.c (.int .i64 1)))⟩, ⟨7, some 75, none, .k (.pick (.t 72) (.t 74) (.c (.bool false)))⟩] [0, 1, 2, 3, 4, 10, 11, 12, 13, 75])
  (.named [0, 1, 2, 3, 4, 10, 11, 12, 13, 75] m206k0))
  (.named [0, 1, 2, 3, 4, 10, 11, 12, 13] m206k3)
def m206k5 : MC :=
  .seq (.reg [⟨0, some 48, none, .k (.mov (.t 0))⟩, ⟨1, some 49, none, .k (.mov (.t 1))⟩, ⟨2, some 50, none, .k (.mov (.t 2))⟩, ⟨3, some 51, none, .k (.mov (.t 4))⟩, ⟨4, some 52, none, .call (.f 229) [.t 48, .t 49, .t 50, .t 51]⟩, ⟨5, some 47, none, .k (.mov (.t 52))⟩, ⟨6, some 53, none, .k (.ext (.t 47) 0)⟩, ⟨7, some 54, none, .k (.ext (.t 47) 1)⟩, ⟨8, some 13, none, .k (.mov (.t 53))⟩, ⟨9, some 14, none, .k (.mov (.t 54))⟩] [0, 1, 2, 3, 4, 10, 11, 12, 13, 14])
  (.seq (.seq (.reg [⟨0, some 55, none, .k (.mov (.t 14))⟩, ⟨1, some 56, none, .k (.bin .eql (.t 55) (.c (.int .i64 2)))⟩] [0, 1, 2, 3, 4, 10, 11, 12, 13, 14, 56])
  (.cond (.t 56)
    (.seq (.reg [⟨0, some 57, none, .k (.mov (.t 0))⟩, ⟨1, some 58, none, .k (.mov (.t 1))⟩, ⟨2, some 59, none, .k (.mov (.t 2))⟩, ⟨3, some 60, none, .k (.mov (.t 4))⟩, ⟨4, some 61, none, .call (.f 230) [.t 57, .t 58, .t 59, .t 60]⟩] [0, 1, 2, 3, 4, 10, 11, 12, 13])
    (.seq (.reg [⟨0, some 62, none, .k (.mov (.t 2))⟩, ⟨1, some 63, none, .k (.bin .sub (.t 62) (.c (.int .i64 1)))⟩, ⟨2, some 64, none, .k (.mov (.t 13))⟩, ⟨3, some 65, none, .k (.mov (.t 1))⟩, ⟨4, some 66, none, .k (.bin .sub (.t 64) (.t 65))⟩, ⟨5, some 67, none, .k (.bin .sub (.t 63) (.t 66))⟩, ⟨6, some 13, none, .k (.mov (.t 67))⟩] [0, 1, 2, 3, 4, 10, 11, 12, 13])
    (.reg [⟨0, some 14, none, .k (.mov (.c (.int .i64 1)))⟩] [0, 1, 2, 3, 4, 10, 11, 12, 13, 14])))
    (.skip)))
  (.named [0, 1, 2, 3, 4, 10, 11, 12, 13, 14] m206k4))
def m206l0 : MC :=
  .block 1
    (.seq (.reg [⟨0, some 21, none, .k (.mov (.t 2))⟩, ⟨1, some 22, none, .k (.mov (.t 1))⟩, ⟨2, some 23, none, .k (.bin .sub (.t 21) (.t 22))⟩, ⟨3, some 12, none, .k (.mov (.t 23))⟩] [0, 1, 2, 3, 4, 10, 11, 12])
    (.seq (.seq (.reg [⟨0, some 24, none, .k (.mov (.t 12))⟩, ⟨1, some 25, none, .k (.bin .leq (.t 24) (.c (.int .i64 12)))⟩] [0, 1, 2, 3, 4, 10, 11, 12, 25])
    (.cond (.t 25)
      (.seq (.reg [⟨0, some 26, none, .k (.mov (.t 0))⟩, ⟨1, some 27, none, .k (.mov (.t 1))⟩, ⟨2, some 28, none, .k (.mov (.t 2))⟩, ⟨3, some 29, none, .k (.mov (.t 4))⟩, ⟨4, some 30, none, .call (.f 226) [.t 26, .t 27, .t 28, .t 29]⟩] [])
      (.ret))
      (.skip)))
    (.seq (.seq (.reg [⟨0, some 31, none, .k (.mov (.t 3))⟩, ⟨1, some 32, none, .k (.bin .eql (.t 31) (.c (.int .i64 0)))⟩] [0, 1, 2, 3, 4, 10, 11, 12, 32])
    (.cond (.t 32)
      (.seq (.reg [⟨0, some 33, none, .k (.mov (.t 0))⟩, ⟨1, some 34, none, .k (.mov (.t 1))⟩, ⟨2, some 35, none, .k (.mov (.t 2))⟩, ⟨3, some 36, none, .k (.mov (.t 4))⟩, ⟨4, some 37, none, .call (.f 227) [.t 33, .t 34, .t 35, .t 36]⟩] [])
      (.ret))
      (.skip)))
    (.seq (.seq (.reg [⟨0, some 38, none, .k (.mov (.t 10))⟩, ⟨1, some 39, none, .k (.un .not (.t 38))⟩] [0, 1, 2, 3, 4, 10, 11, 12, 39])
    (.cond (.t 39)
      (.seq (.reg [⟨0, some 40, none, .k (.mov (.t 0))⟩, ⟨1, some 41, none, .k (.mov (.t 1))⟩, ⟨2, some 42, none, .k (.mov (.t 2))⟩, ⟨3, some 43, none, .k (.mov (.t 4))⟩, ⟨4, some 44, none, .call (.f 228) [.t 40, .t 41, .t 42, .t 43]⟩] [0, 1, 2, 3, 4, 10, 11, 12])
      (.reg [⟨0, some 45, none, .k (.mov (.t 3))⟩, ⟨1, some 46, none, .k (.bin .sub (.t 45) (.c (.int .i64 1)))⟩, ⟨2, some 3, none, .k (.mov (.t 46))⟩] [0, 1, 2, 3, 4, 10, 11, 12]))
      (.skip)))
    (.named [0, 1, 2, 3, 4, 10, 11, 12] m206k5)))))
def m206 : MC :=
  .seq (.reg [⟨0, some 10, none, .k (.mov (.c (.bool true)))⟩] [0, 1, 2, 3, 4, 10])
  (.seq (.reg [⟨0, some 11, none, .k (.mov (.c (.bool true)))⟩] [0, 1, 2, 3, 4, 10, 11])
  (.block 0
    (.loop m206l0)))
theorem is206 : FnIs Tryz.prog 206 148 m206 [] := .of Tryz.call206 Tryz.func206 (by kernel_rfl)
def m226k0 : MC :=
  .cond (.t 34)
    (.skip)
    (.exit 2)
def m226k1 : MC :=
  .seq (.block 3
    (.any (.one ⟨0, some 37, none, .k (.mov (.t 0))⟩ false false <|
        .one ⟨1, some 38, none, .k (.mov (.t 9))⟩ false false <|
        .one ⟨2, some 39, none, .k (.mov (.t 0))⟩ false false <|
        .one ⟨3, some 40, none, .k (.mov (.t 9))⟩ false false <|
        .one ⟨4, some 41, none, .k (.bin .sub (.t 40) (.c (.int .i64 1)))⟩ false false <|
        .one ⟨5, some 42, none, .k (.mov (.t 0))⟩ false false <|
        .one ⟨6, some 43, none, .k (.mov (.t 9))⟩ false false <|
        .one ⟨7, some 44, none, .k (.bin .sub (.t 43) (.c (.int .i64 1)))⟩ false false <|
        .one ⟨8, some 45, none, .k (.iadr 3 (.t 42) (.t 44))⟩ false false <|
        .one ⟨9, some 46, none, .k (.load 3 true (.t 45))⟩ false false <|
        .one ⟨10, some 47, none, .k (.mov (.t 0))⟩ false false <|
        .one ⟨11, some 48, none, .k (.mov (.t 9))⟩ false false <|
        .one ⟨12, some 49, none, .k (.iadr 3 (.t 47) (.t 48))⟩ false false <|
        .one ⟨13, some 50, none, .k (.load 3 true (.t 49))⟩ false false <|
        .one ⟨14, some 51, none, .k (.iadr 3 (.t 37) (.t 38))⟩ false false <|
        .one ⟨15, none, none, .k (.store 3 (.t 51) (.t 46))⟩ false false <|
        .one ⟨16, some 52, none, .k (.iadr 3 (.t 39) (.t 41))⟩ false false <|
        .one ⟨17, none, none, .k (.store 3 (.t 52) (.t 50))⟩ false false <|
        .done) [] [0, 1, 2, 3, 8, 9]))
  (.reg [⟨0, some 35, none, .k (.mov (.t 9))⟩, ⟨1, some 36, none, .k (.bin .sub (.t 35) (.c (.int .i64 1)))⟩, ⟨2, some 9, none, .k (.mov (.t 36))⟩] [0, 1, 2, 3, 8, 9])
def m226l0 : MC :=
  .seq (.seq (.any (.one ⟨0, some 18, none, .k (.mov (.t 9))⟩ false false <|
      .one ⟨1, some 19, none, .k (.mov (.t 1))⟩ false false <|
      .one ⟨2, some 20, none, .k (.bin .gtr (.t 18) (.t 19))⟩ false false <|
      .one ⟨3, some 21, none, .k (.mov (.t 20))⟩ false false <|
      .one ⟨4, some 22, (some (21, true)), .k (.mov (.t 3))⟩ false false <|
      .one ⟨5, some 23, (some (21, true)), .k (.mov (.t 0))⟩ false false <|
      .one ⟨6, some 24, (some (21, true)), .k (.mov (.t 9))⟩ false false <|
      .one ⟨7, some 25, (some (21, true)), .k (.iadr 3 (.t 23) (.t 24))⟩ false false <|
      .one ⟨8, some 26, (some (21, true)), .k (.load 3 true (.t 25))⟩ false false <|
      .one ⟨9, some 27, (some (21, true)), .k (.mov (.t 0))⟩ false false <|
      .one ⟨10, some 28, (some (21, true)), .k (.mov (.t 9))⟩ false false <|
      .one ⟨11, some 29, (some (21, true)), .k (.bin .sub (.t 28) (.c (.int .i64 1)))⟩ false false <|
      .one ⟨12, some 30, (some (21, true)), .k (.iadr 3 (.t 27) (.t 29))⟩ false false <|
      .one ⟨13, some 31, (some (21, true)), .k (.load 3 true (.t 30))⟩ false false <|
      .one ⟨14, some 32, (some (21, true)), .call (.t 22) [.t 26, .t 31]⟩ false false <|
      .one ⟨15, some 33, (some (21, true)), .k (.bin .lss (.t 32) (.c (.int .i64 0)))⟩ false false <|
      .one ⟨16, some 34, none, .k (.pick (.t 21) (.t 33) (.c (.bool false)))⟩ false false <|
      .done) [] [0, 1, 2, 3, 8, 9, 34])
  (.named [0, 1, 2, 3, 8, 9, 34] m226k0))
  (.named [0, 1, 2, 3, 8, 9] m226k1)
def m226k2 : MC :=
  .reg [⟨0, some 15, none, .k (.mov (.t 8))⟩, ⟨1, some 16, none, .k (.bin .add (.t 15) (.c (.int .i64 1)))⟩, ⟨2, some 8, none, .k (.mov (.t 16))⟩] [0, 1, 2, 3, 8]
def m226l1 : MC :=
  .seq (.seq (.reg [⟨0, some 12, none, .k (.mov (.t 8))⟩, ⟨1, some 13, none, .k (.mov (.t 2))⟩, ⟨2, some 14, none, .k (.bin .lss (.t 12) (.t 13))⟩] [0, 1, 2, 3, 8, 14])
  (.cond (.t 14)
    (.skip)
    (.exit 0)))
  (.seq (.block 1
    (.seq (.reg [⟨0, some 17, none, .k (.mov (.t 8))⟩, ⟨1, some 9, none, .k (.mov (.t 17))⟩] [0, 1, 2, 3, 8, 9])
    (.block 2
      (.loop m226l0))))
  (.named [0, 1, 2, 3, 8] m226k2))
def m226 : MC :=
  .seq (.reg [⟨0, some 10, none, .k (.mov (.t 1))⟩, ⟨1, some 11, none, .k (.bin .add (.t 10) (.c (.int .i64 1)))⟩, ⟨2, some 8, none, .k (.mov (.t 11))⟩] [0, 1, 2, 3, 8])
  (.block 0
    (.loop m226l1))
theorem is226 : FnIs Tryz.prog 226 53 m226 [] := .of Tryz.call226 Tryz.func226 (by kernel_rfl)
end Go.Proofs.YtdjdhecanjmchaaGreatDoor
