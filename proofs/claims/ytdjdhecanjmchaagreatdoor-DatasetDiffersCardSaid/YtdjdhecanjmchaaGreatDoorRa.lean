/- The functions of the seat in the small language (printed by a program), and that each is the program's. -/
import Derived.Test.YtdjdhecanjmchaaGreatDoorProg
import Derived.Test.YtdjdhecanjmchaaGreatDoorVr
import Derived.KernelRfl
set_option linter.unusedSimpArgs false
set_option linter.unusedVariables false
namespace Go.Proofs.YtdjdhecanjmchaaGreatDoor
open Go Go.V
def m6k0 : MC :=
  .cond (.t 42)
    (.seq (.reg [mc 0 6 (.bool true)] [6])
    (.ret))
    (.skip)
def m6k1 : MC :=
  .reg [mv 0 53 10,
      bc 1 54 .add 53 (.int .i64 1),
      mv 2 10 54] [1,2,7,9,10]
def m6l0 : MC :=
  .seq (.seq (.reg [mv 0 50 10,
      mv 1 51 1,
      bi 2 52 .leq 50 51] [1,2,7,9,10,52])
  (.cond (.t 52)
    (.skip)
    (.exit 0)))
  (.seq (.block 1
    (.seq (.reg [mv 0 56 7,
        mv 1 57 9,
        oc 2 58 25 [.t 56,.t 57],
        mv 3 55 58,
        oo 4 59 (.ext (.t 55) 0),
        oo 5 60 (.ext (.t 55) 1),
        oo 6 61 (.ext (.t 55) 2),
        mv 7 11 59,
        mv 8 12 60,
        mv 9 13 61] [1,2,7,10,11,12,13])
    (.seq (.seq (.reg [mv 0 62 13,
        bc 1 63 .neq 62 (.int .i64 0)] [1,2,7,10,11,12,63])
    (.cond (.t 63)
      (.seq (.reg [mc 0 6 (.bool false)] [6])
      (.ret))
      (.skip)))
    (.seq (.reg [mv 0 64 12,
        mv 1 9 64] [1,2,7,9,10,11,12])
    (.seq (.reg [mv 0 65 10,
        mv 1 66 1,
        bi 2 67 .eql 65 66] [1,2,7,9,10,11,12,67])
    (.cond (.t 67)
      (.seq (.reg [mv 0 68 11,
          oo 1 69 (.len false (.t 68)),
          bc 2 70 .add 69 (.int .i64 4),
          mv 3 14 70] [1,2,7,9,10,12,14])
      (.seq (.reg [mv 0 71 12,
          mv 1 72 14,
          bi 2 73 .sub 71 72,
          mv 3 74 2,
          bc 4 75 .quo 74 (.int .i64 8),
          mv 5 76 14,
          bi 6 77 .rem 75 76,
          bi 7 78 .add 73 77,
          mv 8 15 78] [1,2,7,9,10,15])
      (.seq (.reg [oo 0 79 (.mkSl 1 [.int .u8 0] []),
          mv 1 80 7,
          oo 2 81 (.appO 1 1 (.t 79) (.t 80)),
          mv 3 7 81] [1,2,7,9,10,15])
      (.any (on1 (mv 0 82 7) <|
          on1 (mv 1 83 15) <|
          on1 (mv 2 84 7) <|
          on1 (mv 3 85 15) <|
          on1 (oo 4 86 (.iadr 1 (.t 84) (.t 85))) <|
          on1 (ld 5 87 1 false 86) <|
          on1 (mv 6 88 2) <|
          on1 (bc 7 89 .rem 88 (.int .i64 8)) <|
          on1 (oo 8 90 (.bin .shl (.c (.int .u8 1)) (.t 89))) <|
          on1 (bi 9 91 .xor 87 90) <|
          on1 (oo 10 92 (.iadr 1 (.t 82) (.t 83))) <|
          on1 ⟨11,none,none,.k (.store 1 (.t 92) (.t 91))⟩ <|
          .done) [] [1,2,7,9,10]))))
      (.skip)))))))
  (.named [1,2,7,9,10] m6k1))
def m6k2 : MC :=
  .seq (.reg [mv 0 94 7,
      oc 1 95 24 [.t 94],
      mv 2 93 95,
      oo 3 96 (.ext (.t 93) 0),
      oo 4 97 (.ext (.t 93) 1),
      oo 5 16 (.alloc [.str [],.sl 1 [] .exact,.sl 4 [] .exact]),
      ⟨6,none,none,.k (.store 3 (.t 16) (.t 96))⟩,
      mv 7 17 97] [17])
  (.seq (.reg [mv 0 98 17,
      bc 1 99 .eql 98 (.int .i64 40),
      mv 2 6 99] [6])
  (.ret))
def m6k3 : MC :=
  .seq (.reg [ld 0 44 3 true 3,
      oc 1 45 23 [.t 44],
      mv 2 43 45,
      oo 3 46 (.ext (.t 43) 0),
      oo 4 47 (.ext (.t 43) 1),
      mv 5 7 46,
      mv 6 8 47] [1,2,7,8])
  (.seq (.seq (.reg [mv 0 48 8,
      bc 1 49 .neq 48 (.int .i64 0)] [1,2,7,49])
  (.cond (.t 49)
    (.seq (.reg [mc 0 6 (.bool false)] [6])
    (.ret))
    (.skip)))
  (.seq (.reg [mc 0 9 (.int .i64 0)] [1,2,7,9])
  (.seq (.seq (.reg [mc 0 10 (.int .i64 0)] [1,2,7,9,10])
  (.block 0
    (.loop m6l0)))
  (.named [7] m6k2))))
def m6 : MC :=
  .seq (.reg [oo 0 3 (.box (.t 0)),
      mc 1 6 (.bool false)] [1,2,3])
  (.seq (.seq (.reg [oc 0 18 11 [],
      oo 1 19 (.un .not (.t 18))] [1,2,3,19])
  (.cond (.t 19)
    (.seq (.reg [mc 0 6 (.bool false)] [6])
    (.ret))
    (.skip)))
  (.seq (.seq (.reg [ld 0 20 3 true 3,
      oc 1 21 13 [.t 20],
      oo 2 22 (.un .not (.t 21)),
      mv 3 23 22,
      og 4 24 23 false (.load 3 true (.t 3)),
      ⟨5,some 25,(some (23,false)),.call (.f 22) [.t 24]⟩,
      og 6 26 23 false (.un .not (.t 25)),
      oo 7 27 (.pick (.t 23) (.c (.bool true)) (.t 26)),
      mv 8 28 27,
      gm 9 29 28 false 1,
      og 10 30 28 false (.bin .lss (.t 29) (.c (.int .i64 0))),
      oo 11 31 (.pick (.t 28) (.c (.bool true)) (.t 30)),
      mv 12 32 31,
      gm 13 33 32 false 1,
      og 14 34 32 false (.fadr 2 (.t 3)),
      og 15 35 32 false (.load 1 false (.t 34)),
      og 16 36 32 false (.len false (.t 35)),
      og 17 37 32 false (.bin .gtr (.t 33) (.t 36)),
      oo 18 38 (.pick (.t 32) (.c (.bool true)) (.t 37)),
      mv 19 39 38,
      gm 20 40 39 false 2,
      og 21 41 39 false (.bin .lss (.t 40) (.c (.int .i64 0))),
      oo 22 42 (.pick (.t 39) (.c (.bool true)) (.t 41))] [1,2,3,42])
  (.named [1,2,3,42] m6k0))
  (.named [1,2,3] m6k3)))
theorem is6 : FnIs Tryz.prog 6 100 m6 [.t 6] := .of Tryz.call6 Tryz.func6 (by kernel_rfl)
end Go.Proofs.YtdjdhecanjmchaaGreatDoor
