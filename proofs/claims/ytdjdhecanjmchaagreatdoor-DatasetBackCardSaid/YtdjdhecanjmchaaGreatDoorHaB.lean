/- The functions of the seat in the small language (printed by a program), and that each is the program's. -/
import Derived.Test.YtdjdhecanjmchaaGreatDoorProg
import Derived.Test.YtdjdhecanjmchaaGreatDoorVpB
import Derived.KernelRfl
set_option linter.unusedSimpArgs false
set_option linter.unusedVariables false
namespace Go.Proofs.YtdjdhecanjmchaaGreatDoor
open Go Go.V
def m5k0 : MC :=
  .cond (.t 26)
    (.seq (.reg [⟨0, some 6, none, .k (.mov (.c (.bool true)))⟩] [6])
    (.ret))
    (.skip)
def m5k1 : MC :=
  .cond (.t 50)
    (.seq (.reg [⟨0, some 6, none, .k (.mov (.c (.bool false)))⟩] [6])
    (.ret))
    (.skip)
def m5k2 : MC :=
  .cond (.t 58)
    (.seq (.reg [⟨0, some 60, none, .k (.mov (.t 7))⟩, ⟨1, some 61, none, .k (.mov (.t 2))⟩, ⟨2, some 62, none, .k (.slV 1 (.t 60) none (some (.t 61)) none)⟩, ⟨3, some 63, none, .call (.f 24) [.t 62]⟩, ⟨4, some 59, none, .k (.mov (.t 63))⟩, ⟨5, some 64, none, .k (.ext (.t 59) 0)⟩, ⟨6, some 65, none, .k (.ext (.t 59) 1)⟩, ⟨7, some 11, none, .k (.alloc [.str [], .sl 1 [] .exact, .sl 4 [] .exact])⟩, ⟨8, none, none, .k (.store 3 (.t 11) (.t 64))⟩, ⟨9, some 12, none, .k (.mov (.t 65))⟩] [1, 12])
    (.seq (.reg [⟨0, some 66, none, .k (.mov (.t 12))⟩, ⟨1, some 67, none, .k (.bin .neq (.t 66) (.c (.int .i64 41)))⟩] [1, 67])
    (.cond (.t 67)
      (.seq (.reg [⟨0, some 6, none, .k (.mov (.c (.bool false)))⟩] [6])
      (.ret))
      (.skip))))
    (.skip)
def m5k3 : MC :=
  .seq (.reg [⟨0, some 51, none, .k (.mov (.t 2))⟩, ⟨1, some 52, none, .k (.bin .geq (.t 51) (.c (.int .i64 0)))⟩, ⟨2, some 53, none, .k (.mov (.t 52))⟩, ⟨3, some 54, (some (53, true)), .k (.mov (.t 2))⟩, ⟨4, some 55, (some (53, true)), .k (.mov (.t 7))⟩, ⟨5, some 56, (some (53, true)), .k (.len false (.t 55))⟩, ⟨6, some 57, (some (53, true)), .k (.bin .lss (.t 54) (.t 56))⟩, ⟨7, some 58, none, .k (.pick (.t 53) (.t 57) (.c (.bool false)))⟩] [1, 2, 7, 58])
  (.named [1, 2, 7, 58] m5k2)
def m5k4 : MC :=
  .seq (.reg [⟨0, some 69, none, .k (.mov (.t 1))⟩, ⟨1, some 70, none, .call (.f 24) [.t 69]⟩, ⟨2, some 68, none, .k (.mov (.t 70))⟩, ⟨3, some 71, none, .k (.ext (.t 68) 0)⟩, ⟨4, some 72, none, .k (.ext (.t 68) 1)⟩, ⟨5, some 13, none, .k (.alloc [.str [], .sl 1 [] .exact, .sl 4 [] .exact])⟩, ⟨6, none, none, .k (.store 3 (.t 13) (.t 71))⟩, ⟨7, some 14, none, .k (.mov (.t 72))⟩] [1, 13, 14])
  (.seq (.seq (.reg [⟨0, some 73, none, .k (.mov (.t 14))⟩, ⟨1, some 74, none, .k (.bin .neq (.t 73) (.c (.int .i64 0)))⟩] [1, 13, 74])
  (.cond (.t 74)
    (.seq (.reg [⟨0, some 75, none, .k (.load 3 true (.t 13))⟩, ⟨1, some 76, none, .k (.build [.str [], .sl 1 [] .exact, .sl 4 [] .exact] [])⟩, ⟨2, some 77, none, .call (.f 16) [.t 75, .t 76]⟩, ⟨3, some 6, none, .k (.mov (.t 77))⟩] [6])
    (.ret))
    (.skip)))
  (.seq (.reg [⟨0, some 79, none, .k (.load 3 true (.t 13))⟩, ⟨1, some 80, none, .call (.f 23) [.t 79]⟩, ⟨2, some 78, none, .k (.mov (.t 80))⟩, ⟨3, some 81, none, .k (.ext (.t 78) 0)⟩, ⟨4, some 82, none, .k (.ext (.t 78) 1)⟩, ⟨5, some 15, none, .k (.mov (.t 81))⟩, ⟨6, some 16, none, .k (.mov (.t 82))⟩] [1, 15, 16])
  (.seq (.reg [⟨0, some 83, none, .k (.mov (.t 16))⟩, ⟨1, some 84, none, .k (.bin .eql (.t 83) (.c (.int .i64 0)))⟩, ⟨2, some 85, none, .k (.mov (.t 84))⟩, ⟨3, some 86, (some (85, true)), .k (.mov (.t 15))⟩, ⟨4, some 87, (some (85, true)), .k (.b2s (.t 86))⟩, ⟨5, some 88, (some (85, true)), .k (.mov (.t 1))⟩, ⟨6, some 89, (some (85, true)), .k (.b2s (.t 88))⟩, ⟨7, some 90, (some (85, true)), .k (.bin .eql (.t 87) (.t 89))⟩, ⟨8, some 91, none, .k (.pick (.t 85) (.t 90) (.c (.bool false)))⟩, ⟨9, some 6, none, .k (.mov (.t 91))⟩] [6])
  (.ret))))
def m5k5 : MC :=
  .seq (.seq (.reg [⟨0, some 27, none, .k (.load 3 true (.t 3))⟩, ⟨1, some 28, none, .call (.f 22) [.t 27]⟩] [1, 2, 3, 28])
  (.cond (.t 28)
    (.seq (.reg [⟨0, some 30, none, .k (.load 3 true (.t 3))⟩, ⟨1, some 31, none, .call (.f 23) [.t 30]⟩, ⟨2, some 29, none, .k (.mov (.t 31))⟩, ⟨3, some 32, none, .k (.ext (.t 29) 0)⟩, ⟨4, some 33, none, .k (.ext (.t 29) 1)⟩, ⟨5, some 7, none, .k (.mov (.t 32))⟩, ⟨6, some 8, none, .k (.mov (.t 33))⟩] [1, 2, 3, 7, 8])
    (.seq (.reg [⟨0, some 35, none, .k (.mov (.t 7))⟩, ⟨1, some 36, none, .call (.f 24) [.t 35]⟩, ⟨2, some 34, none, .k (.mov (.t 36))⟩, ⟨3, some 37, none, .k (.ext (.t 34) 0)⟩, ⟨4, some 38, none, .k (.ext (.t 34) 1)⟩, ⟨5, some 9, none, .k (.alloc [.str [], .sl 1 [] .exact, .sl 4 [] .exact])⟩, ⟨6, none, none, .k (.store 3 (.t 9) (.t 37))⟩, ⟨7, some 10, none, .k (.mov (.t 38))⟩] [1, 2, 3, 7, 8, 9, 10])
    (.seq (.seq (.reg [⟨0, some 39, none, .k (.mov (.t 8))⟩, ⟨1, some 40, none, .k (.bin .neq (.t 39) (.c (.int .i64 0)))⟩, ⟨2, some 41, none, .k (.mov (.t 40))⟩, ⟨3, some 42, (some (41, false)), .k (.mov (.t 10))⟩, ⟨4, some 43, (some (41, false)), .k (.bin .neq (.t 42) (.c (.int .i64 0)))⟩, ⟨5, some 44, none, .k (.pick (.t 41) (.c (.bool true)) (.t 43))⟩, ⟨6, some 45, none, .k (.mov (.t 44))⟩, ⟨7, some 46, (some (45, false)), .k (.load 3 true (.t 9))⟩, ⟨8, some 47, (some (45, false)), .k (.load 3 true (.t 3))⟩, ⟨9, some 48, (some (45, false)), .call (.f 16) [.t 46, .t 47]⟩, ⟨10, some 49, (some (45, false)), .k (.un .not (.t 48))⟩, ⟨11, some 50, none, .k (.pick (.t 45) (.c (.bool true)) (.t 49))⟩] [1, 2, 7, 50])
    (.named [1, 2, 7, 50] m5k1))
    (.named [1, 2, 7] m5k3))))
    (.skip)))
  (.named [1] m5k4)
def m5 : MC :=
  .seq (.reg [⟨0, some 3, none, .k (.box (.t 0))⟩, ⟨1, some 6, none, .k (.mov (.c (.bool false)))⟩] [1, 2, 3])
  (.seq (.seq (.reg [⟨0, some 17, none, .call (.f 11) []⟩, ⟨1, some 18, none, .k (.un .not (.t 17))⟩] [1, 2, 3, 18])
  (.cond (.t 18)
    (.seq (.reg [⟨0, some 6, none, .k (.mov (.c (.bool false)))⟩] [6])
    (.ret))
    (.skip)))
  (.seq (.seq (.reg [⟨0, some 19, none, .k (.load 3 true (.t 3))⟩, ⟨1, some 20, none, .call (.f 13) [.t 19]⟩, ⟨2, some 21, none, .k (.un .not (.t 20))⟩, ⟨3, some 22, none, .k (.mov (.t 21))⟩, ⟨4, some 23, (some (22, false)), .k (.mov (.t 1))⟩, ⟨5, some 24, (some (22, false)), .k (.len false (.t 23))⟩, ⟨6, some 25, (some (22, false)), .k (.bin .gtr (.t 24) (.c (.int .i64 20000)))⟩, ⟨7, some 26, none, .k (.pick (.t 22) (.c (.bool true)) (.t 25))⟩] [1, 2, 3, 26])
  (.named [1, 2, 3, 26] m5k0))
  (.named [1, 2, 3] m5k5)))
theorem is5 : FnIs Tryz.prog 5 92 m5 [.t 6] := .of Tryz.call5 Tryz.func5 (by kernel_rfl)
end Go.Proofs.YtdjdhecanjmchaaGreatDoor
