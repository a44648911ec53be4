/- The functions of the seat in the small language (printed by a program), and that each is the program's. -/
import Derived.Test.YtombgigaefgaiaaGreatDoorProg
import Derived.Test.YtombgigaefgaiaaGreatDoorVr
import Derived.KernelRfl
set_option linter.unusedSimpArgs false
set_option linter.unusedVariables false
namespace Go.Proofs.YtombgigaefgaiaaGreatDoor
open Go Go.V
def m170 : MC :=
  .seq (.reg [oo 0 2 (.alloc [.int .i64 0,.int .u64 0])] [0,2])
  (.seq (.reg [mv 0 3 0,bc 1 4 .shr 3 (.int .u64 63),mv 2 5 0,oo 3 6 (.conv .u64 (.t 5)),oo 4 7 (.build [.int .i64 0,.int .u64 0] [(0,1,.t 4),(1,1,.t 6)]),⟨5,none,none,.k (.store 2 (.t 2) (.t 7))⟩] [2])
  (.ret))
theorem is170 : FnIs Tryz.prog 170 8 m170 [.c 2 2 true] := .of Tryz.call170 Tryz.func170 (by kernel_rfl)
def m172 : MC :=
  .seq (.reg [oo 0 2 (.box (.t 0)),oo 1 3 (.box (.t 1)),oo 2 4 (.alloc [.int .i64 0,.int .u64 0])] [2,3,4])
  (.seq (.reg [fa 0 10 1 2,ld 1 11 1 false 10,fa 2 12 1 3,ld 3 13 1 false 12,oc 4 14 193 [.t 11,.t 13,.c (.int .u64 0)],mv 5 9 14,oo 6 15 (.ext (.t 9) 0),oo 7 16 (.ext (.t 9) 1),mv 8 5 15,mv 9 6 16] [2,3,4,5,6])
  (.seq (.reg [fa 0 18 0 2,ld 1 19 1 false 18,oo 2 20 (.conv .u64 (.t 19)),fa 3 21 0 3,ld 4 22 1 false 21,oo 5 23 (.conv .u64 (.t 22)),mv 6 24 6,oc 7 25 193 [.t 20,.t 23,.t 24],mv 8 17 25,oo 9 26 (.ext (.t 17) 0),oo 10 27 (.ext (.t 17) 1),mv 11 7 26,mv 12 8 27] [4,5,7])
  (.seq (.reg [mv 0 28 7,oo 1 29 (.conv .i64 (.t 28)),mv 2 30 5,oo 3 31 (.build [.int .i64 0,.int .u64 0] [(0,1,.t 29),(1,1,.t 30)]),⟨4,none,none,.k (.store 2 (.t 4) (.t 31))⟩] [4])
  (.ret))))
theorem is172 : FnIs Tryz.prog 172 32 m172 [.c 4 2 true] := .of Tryz.call172 Tryz.func172 (by kernel_rfl)
def m174 : MC :=
  .seq (.reg [oo 0 4 (.alloc [.int .i64 0,.int .u64 0])] [0,1,4])
  (.seq (.reg [mv 0 5 0,oc 1 6 170 [.t 5],mv 2 7 1,oc 3 8 195 [.t 6,.t 7],⟨4,none,none,.k (.store 2 (.t 4) (.t 8))⟩] [4])
  (.ret))
theorem is174 : FnIs Tryz.prog 174 9 m174 [.c 4 2 true] := .of Tryz.call174 Tryz.func174 (by kernel_rfl)
def m182l0 : MC :=
  .seq (.reg [bi 0 9 .lss 8 7] [0,1,7,8,9])
  (.seq (.cond (.t 9)
    (.skip)
    (.exit 0))
  (.seq (.block 1
    (.seq (.reg [mv 0 10 8,mv 1 5 10] [0,1,5,7,8])
    (.seq (.reg [mv 0 11 1,mv 1 12 0,mv 2 13 5,oo 3 14 (.iadr 2 (.t 12) (.t 13)),ld 4 15 2 true 14,⟨5,some 16,none,.call (.t 11) [.t 15]⟩] [0,1,5,7,8,16])
    (.cond (.t 16)
      (.seq (.reg [mv 0 17 5,mv 1 4 17] [4])
      (.ret))
      (.skip)))))
  (.reg [bc 0 18 .add 8 (.int .i64 1),mv 1 8 18] [0,1,7,8])))
def m182k0 : MC :=
  .seq (.reg [mc 0 4 (.int .i64 (-1))] [4])
  (.ret)
def m182 : MC :=
  .seq (.reg [mc 0 4 (.int .i64 0)] [0,1])
  (.seq (.seq (.reg [mv 0 6 0,oo 1 7 (.len false (.t 6)),mc 2 8 (.int .i64 0)] [0,1,7,8])
  (.block 0
    (.loop m182l0)))
  (.named [] m182k0))
theorem is182 : FnIs Tryz.prog 182 19 m182 [.t 4] := .of Tryz.call182 Tryz.func182 (by kernel_rfl)
def m192k0 : MC :=
  .cond (.t 47)
    (.seq (.seq (.reg [mv 0 48 8,bc 1 49 .eql 48 (.int .u64 18446744073709551615)] [1,2,8,49])
    (.cond (.t 49)
      (.seq (.reg [mc 0 4 (.int .i64 0),mc 1 5 (.bool false)] [4,5])
      (.ret))
      (.skip)))
    (.reg [mv 0 50 8,bc 1 51 .add 50 (.int .u64 1),mv 2 8 51] [1,2,8]))
    (.skip)
def m192k1 : MC :=
  .seq (.seq (.reg [mv 0 52 8,bc 1 53 .gtr 52 (.int .u64 1152921504606846976)] [1,2,8,53])
  (.cond (.t 53)
    (.seq (.reg [mc 0 4 (.int .i64 0),mc 1 5 (.bool false)] [4,5])
    (.ret))
    (.skip)))
  (.seq (.seq (.reg [fa 0 54 0 2,ld 1 55 1 false 54,bc 2 56 .lss 55 (.int .i64 0),mv 3 57 1,bc 4 58 .lss 57 (.int .i64 0),oo 5 59 (.cmp 0 true (.t 56) (.t 58))] [8,59])
  (.cond (.t 59)
    (.seq (.reg [mv 0 60 8,oo 1 61 (.conv .i64 (.t 60)),oo 2 62 (.un .neg (.t 61)),mv 3 4 62,mc 4 5 (.bool true)] [4,5])
    (.ret))
    (.skip)))
  (.seq (.reg [mv 0 63 8,oo 1 64 (.conv .i64 (.t 63)),mv 2 4 64,mc 3 5 (.bool true)] [4,5])
  (.ret)))
def m192 : MC :=
  .seq (.reg [oo 0 2 (.box (.t 0)),mc 1 4 (.int .i64 0),mc 2 5 (.bool false)] [1,2])
  (.seq (.seq (.reg [mv 0 10 1,bc 1 11 .eql 10 (.int .i64 0)] [1,2,11])
  (.cond (.t 11)
    (.seq (.reg [mc 0 4 (.int .i64 0),mc 1 5 (.bool false)] [4,5])
    (.ret))
    (.skip)))
  (.seq (.reg [ld 0 12 2 true 2,oc 1 13 203 [.t 12],mv 2 14 1,oc 3 15 170 [.t 14],oc 4 16 203 [.t 15],oo 5 17 (.iarr 1 2 false (.t 16) (.c (.int .i64 0))),oo 6 6 (.alloc [.int .u64 0,.int .u64 0]),⟨7,none,none,.k (.store 2 (.t 6) (.t 13))⟩,mv 8 7 17] [1,2,6,7])
  (.seq (.seq (.reg [oo 0 18 (.iadrA 1 2 (.t 6) (.c (.int .i64 1))),ld 1 19 1 false 18,mv 2 20 7,bi 3 21 .geq 19 20] [1,2,6,7,21])
  (.cond (.t 21)
    (.seq (.reg [mc 0 4 (.int .i64 0),mc 1 5 (.bool false)] [4,5])
    (.ret))
    (.skip)))
  (.seq (.reg [oo 0 23 (.iadrA 1 2 (.t 6) (.c (.int .i64 1))),ld 1 24 1 false 23,oo 2 25 (.iadrA 1 2 (.t 6) (.c (.int .i64 0))),ld 3 26 1 false 25,mv 4 27 7,oc 5 28 204 [.t 24,.t 26,.t 27],mv 6 22 28,oo 7 29 (.ext (.t 22) 0),oo 8 30 (.ext (.t 22) 1),mv 9 8 29,mv 10 9 30] [1,2,7,8,9])
  (.seq (.seq (.reg [mv 0 31 9,mv 1 32 7,mv 2 33 9,bi 3 34 .sub 32 33,bi 4 35 .gtr 31 34,mv 5 36 35,gm 6 37 36 false 9,gm 7 38 36 false 7,gm 8 39 36 false 9,og 9 40 36 false (.bin .sub (.t 38) (.t 39)),og 10 41 36 false (.bin .eql (.t 37) (.t 40)),gm 11 42 36 false 41,gm 12 43 42 true 8,og 13 44 42 true (.bin .rem (.t 43) (.c (.int .u64 2))),og 14 45 42 true (.bin .eql (.t 44) (.c (.int .u64 1))),og 15 46 36 false (.pick (.t 42) (.t 45) (.c (.bool false))),oo 16 47 (.pick (.t 36) (.c (.bool true)) (.t 46))] [1,2,8,47])
  (.named [1,2,8,47] m192k0))
  (.named [1,2,8] m192k1))))))
theorem is192 : FnIs Tryz.prog 192 65 m192 [.t 4,.t 5] := .of Tryz.call192 Tryz.func192 (by kernel_rfl)
def m195k0 : MC :=
  .seq (.reg [mv 0 29 5,oo 1 30 (.conv .i64 (.t 29)),mv 2 31 6,oo 3 32 (.build [.int .i64 0,.int .u64 0] [(0,1,.t 30),(1,1,.t 31)]),⟨4,none,none,.k (.store 2 (.t 4) (.t 32))⟩] [4])
  (.ret)
def m195 : MC :=
  .seq (.reg [oo 0 2 (.box (.t 0)),oo 1 4 (.alloc [.int .i64 0,.int .u64 0])] [1,2,4])
  (.seq (.reg [fa 0 8 1 2,ld 1 9 1 false 8,mv 2 10 1,oo 3 11 (.conv .u64 (.t 10)),oc 4 12 205 [.t 9,.t 11],mv 5 7 12,oo 6 13 (.ext (.t 7) 0),oo 7 14 (.ext (.t 7) 1),mv 8 5 13,mv 9 6 14] [1,2,4,5,6])
  (.seq (.reg [mv 0 15 5,fa 1 16 0 2,ld 2 17 1 false 16,oo 3 18 (.conv .u64 (.t 17)),mv 4 19 1,oo 5 20 (.conv .u64 (.t 19)),bi 6 21 .mul 18 20,bi 7 22 .add 15 21,mv 8 5 22] [1,2,4,5,6])
  (.seq (.seq (.reg [mv 0 23 1,bc 1 24 .lss 23 (.int .i64 0)] [2,4,5,6,24])
  (.cond (.t 24)
    (.reg [mv 0 25 5,fa 1 26 1 2,ld 2 27 1 false 26,bi 3 28 .sub 25 27,mv 4 5 28] [4,5,6])
    (.skip)))
  (.named [4,5,6] m195k0))))
theorem is195 : FnIs Tryz.prog 195 33 m195 [.c 4 2 true] := .of Tryz.call195 Tryz.func195 (by kernel_rfl)
def m203k0 : MC :=
  .seq (.reg [fa 0 8 1 1,ld 1 9 1 false 8,fa 2 10 0 1,ld 3 11 1 false 10,oo 4 12 (.conv .u64 (.t 11)),oo 5 13 (.build [.int .u64 0,.int .u64 0] [(0,1,.t 9),(1,1,.t 12)]),⟨6,none,none,.k (.store 2 (.t 2) (.t 13))⟩] [2])
  (.ret)
def m203 : MC :=
  .seq (.reg [oo 0 1 (.box (.t 0)),oo 1 2 (.alloc [.int .u64 0,.int .u64 0])] [1,2])
  (.seq (.seq (.reg [fa 0 3 0 1,ld 1 4 1 false 3,bc 2 5 .lss 4 (.int .i64 0)] [1,2,5])
  (.cond (.t 5)
    (.reg [ld 0 6 2 true 1,oc 1 7 210 [.t 6],⟨2,none,none,.k (.store 2 (.t 1) (.t 7))⟩] [1,2])
    (.skip)))
  (.named [1,2] m203k0))
theorem is203 : FnIs Tryz.prog 203 14 m203 [.c 2 2 true] := .of Tryz.call203 Tryz.func203 (by kernel_rfl)
def m204k0 : MC :=
  .cond (.t 78)
    (.skip)
    (.exit 0)
def m204k1 : MC :=
  .block 1
    (.seq (.reg [mv 0 79 15,bc 1 80 .sub 79 (.int .u64 1),mv 2 15 80] [2,8,9,10,11,13,14,15,16])
    (.seq (.reg [mv 0 81 16,mv 1 82 9,bi 2 83 .add 81 82,mv 3 16 83] [2,8,9,10,11,13,14,15,16])
    (.seq (.reg [mv 0 84 16,bc 1 85 .geq 84 (.int .u64 4294967296)] [2,8,9,10,11,13,14,15,16,85])
    (.cond (.t 85)
      (.exit 0)
      (.skip)))))
def m204l0 : MC :=
  .seq (.seq (.reg [mv 0 67 15,bc 1 68 .geq 67 (.int .u64 4294967296),mv 2 69 68,gm 3 70 69 false 15,gm 4 71 69 false 10,og 5 72 69 false (.bin .mul (.t 70) (.t 71)),gm 6 73 69 false 16,og 7 74 69 false (.bin .mul (.c (.int .u64 4294967296)) (.t 73)),gm 8 75 69 false 13,og 9 76 69 false (.bin .add (.t 74) (.t 75)),og 10 77 69 false (.bin .gtr (.t 72) (.t 76)),oo 11 78 (.pick (.t 69) (.c (.bool true)) (.t 77))] [2,8,9,10,11,13,14,15,16,78])
  (.named [2,8,9,10,11,13,14,15,16,78] m204k0))
  (.named [2,8,9,10,11,13,14,15,16] m204k1)
def m204k2 : MC :=
  .cond (.t 113)
    (.skip)
    (.exit 2)
def m204k3 : MC :=
  .block 3
    (.seq (.reg [mv 0 114 18,bc 1 115 .sub 114 (.int .u64 1),mv 2 18 115] [2,8,9,10,14,15,16,17,18])
    (.seq (.reg [mv 0 116 16,mv 1 117 9,bi 2 118 .add 116 117,mv 3 16 118] [2,8,9,10,14,15,16,17,18])
    (.seq (.reg [mv 0 119 16,bc 1 120 .geq 119 (.int .u64 4294967296)] [2,8,9,10,14,15,16,17,18,120])
    (.cond (.t 120)
      (.exit 2)
      (.skip)))))
def m204l1 : MC :=
  .seq (.seq (.reg [mv 0 102 18,bc 1 103 .geq 102 (.int .u64 4294967296),mv 2 104 103,gm 3 105 104 false 18,gm 4 106 104 false 10,og 5 107 104 false (.bin .mul (.t 105) (.t 106)),gm 6 108 104 false 16,og 7 109 104 false (.bin .mul (.c (.int .u64 4294967296)) (.t 108)),gm 8 110 104 false 14,og 9 111 104 false (.bin .add (.t 109) (.t 110)),og 10 112 104 false (.bin .gtr (.t 107) (.t 111)),oo 11 113 (.pick (.t 104) (.c (.bool true)) (.t 112))] [2,8,9,10,14,15,16,17,18,113])
  (.named [2,8,9,10,14,15,16,17,18,113] m204k2))
  (.named [2,8,9,10,14,15,16,17,18] m204k3)
def m204k4 : MC :=
  .seq (.reg [mv 0 121 15,bc 1 122 .mul 121 (.int .u64 4294967296),mv 2 123 18,bi 3 124 .add 122 123,mv 4 125 17,bc 5 126 .mul 125 (.int .u64 4294967296),mv 6 127 14,bi 7 128 .add 126 127,mv 8 129 18,mv 9 130 2,bi 10 131 .mul 129 130,bi 11 132 .sub 128 131,mv 12 133 8,bi 13 134 .shr 132 133,mv 14 6 124,mv 15 7 134] [6,7])
  (.ret)
def m204k5 : MC :=
  .seq (.reg [mv 0 86 11,bc 1 87 .mul 86 (.int .u64 4294967296),mv 2 88 13,bi 3 89 .add 87 88,mv 4 90 15,mv 5 91 2,bi 6 92 .mul 90 91,bi 7 93 .sub 89 92,mv 8 17 93] [2,8,9,10,14,15,17])
  (.seq (.reg [mv 0 94 17,mv 1 95 9,bi 2 96 .quo 94 95,mv 3 18 96] [2,8,9,10,14,15,17,18])
  (.seq (.reg [mv 0 97 17,mv 1 98 18,mv 2 99 9,bi 3 100 .mul 98 99,bi 4 101 .sub 97 100,mv 5 16 101] [2,8,9,10,14,15,16,17,18])
  (.seq (.block 2
    (.loop m204l1))
  (.named [2,8,14,15,17,18] m204k4))))
def m204k6 : MC :=
  .seq (.seq (.reg [mv 0 26 0,bc 1 27 .eql 26 (.int .u64 0)] [0,1,2,27])
  (.cond (.t 27)
    (.seq (.any (on1 (mv 0 28 1) <|
        on1 (mv 1 29 2) <|
        on1 (bi 2 30 .quo 28 29) <|
        on1 (mv 3 31 1) <|
        on1 (mv 4 32 2) <|
        on1 (bi 5 33 .rem 31 32) <|
        on1 (mv 6 6 30) <|
        on1 (mv 7 7 33) <|
        .done) [] [6,7])
    (.ret))
    (.skip)))
  (.seq (.reg [mv 0 34 2,oc 1 35 211 [.t 34],oo 2 36 (.conv .u64 (.t 35)),mv 3 8 36] [0,1,2,8])
  (.seq (.reg [mv 0 37 2,mv 1 38 8,bi 2 39 .shl 37 38,mv 3 2 39] [0,1,2,8])
  (.seq (.reg [mv 0 40 2,bc 1 41 .shr 40 (.int .u64 32),mv 2 9 41] [0,1,2,8,9])
  (.seq (.reg [mv 0 42 2,bc 1 43 .and 42 (.int .u64 4294967295),mv 2 10 43] [0,1,2,8,9,10])
  (.seq (.reg [mv 0 44 0,mv 1 45 8,bi 2 46 .shl 44 45,mv 3 47 1,mv 4 48 8,oo 5 49 (.bin .sub (.c (.int .u64 64)) (.t 48)),bi 6 50 .shr 47 49,bi 7 51 .or 46 50,mv 8 11 51] [1,2,8,9,10,11])
  (.seq (.reg [mv 0 52 1,mv 1 53 8,bi 2 54 .shl 52 53,mv 3 12 54] [2,8,9,10,11,12])
  (.seq (.reg [mv 0 55 12,bc 1 56 .shr 55 (.int .u64 32),mv 2 13 56] [2,8,9,10,11,12,13])
  (.seq (.reg [mv 0 57 12,bc 1 58 .and 57 (.int .u64 4294967295),mv 2 14 58] [2,8,9,10,11,13,14])
  (.seq (.reg [mv 0 59 11,mv 1 60 9,bi 2 61 .quo 59 60,mv 3 15 61] [2,8,9,10,11,13,14,15])
  (.seq (.reg [mv 0 62 11,mv 1 63 15,mv 2 64 9,bi 3 65 .mul 63 64,bi 4 66 .sub 62 65,mv 5 16 66] [2,8,9,10,11,13,14,15,16])
  (.seq (.block 0
    (.loop m204l0))
  (.named [2,8,9,10,11,13,14,15] m204k5))))))))))))
def m204k7 : MC :=
  .seq (.seq (.reg [mv 0 22 2,mv 1 23 0,bi 2 24 .leq 22 23] [0,1,2,24])
  (.cond (.t 24)
    (.reg [oo 0 25 (.load 1 false (.g 5)),⟨1,none,none,.panic (.t 25)⟩] [0,1,2])
    (.skip)))
  (.named [0,1,2] m204k6)
def m204 : MC :=
  .seq (.reg [mc 0 6 (.int .u64 0),mc 1 7 (.int .u64 0)] [0,1,2])
  (.seq (.seq (.reg [mv 0 19 2,bc 1 20 .eql 19 (.int .u64 0)] [0,1,2,20])
  (.cond (.t 20)
    (.reg [oo 0 21 (.load 1 false (.g 4)),⟨1,none,none,.panic (.t 21)⟩] [0,1,2])
    (.skip)))
  (.named [0,1,2] m204k7))
theorem is204 : FnIs Tryz.prog 204 135 m204 [.t 6,.t 7] := .of Tryz.call204 Tryz.func204 (by kernel_rfl)
def m205 : MC :=
  .seq (.reg [mc 0 4 (.int .u64 0),mc 1 5 (.int .u64 0)] [0,1])
  (.seq (.reg [mv 0 14 0,bc 1 15 .and 14 (.int .u64 4294967295),mv 2 6 15] [0,1,6])
  (.seq (.reg [mv 0 16 0,bc 1 17 .shr 16 (.int .u64 32),mv 2 7 17] [0,1,6,7])
  (.seq (.reg [mv 0 18 1,bc 1 19 .and 18 (.int .u64 4294967295),mv 2 8 19] [0,1,6,7,8])
  (.seq (.reg [mv 0 20 1,bc 1 21 .shr 20 (.int .u64 32),mv 2 9 21] [0,1,6,7,8,9])
  (.seq (.reg [mv 0 22 6,mv 1 23 8,bi 2 24 .mul 22 23,mv 3 10 24] [0,1,6,7,8,9,10])
  (.seq (.reg [mv 0 25 7,mv 1 26 8,bi 2 27 .mul 25 26,mv 3 28 10,bc 4 29 .shr 28 (.int .u64 32),bi 5 30 .add 27 29,mv 6 11 30] [0,1,6,7,9,11])
  (.seq (.reg [mv 0 31 11,bc 1 32 .and 31 (.int .u64 4294967295),mv 2 12 32] [0,1,6,7,9,11,12])
  (.seq (.reg [mv 0 33 11,bc 1 34 .shr 33 (.int .u64 32),mv 2 13 34] [0,1,6,7,9,12,13])
  (.seq (.reg [mv 0 35 12,mv 1 36 6,mv 2 37 9,bi 3 38 .mul 36 37,bi 4 39 .add 35 38,mv 5 12 39] [0,1,7,9,12,13])
  (.seq (.reg [mv 0 40 7,mv 1 41 9,bi 2 42 .mul 40 41,mv 3 43 13,bi 4 44 .add 42 43,mv 5 45 12,bc 6 46 .shr 45 (.int .u64 32),bi 7 47 .add 44 46,mv 8 4 47] [0,1,4])
  (.seq (.reg [mv 0 48 0,mv 1 49 1,bi 2 50 .mul 48 49,mv 3 5 50] [4,5])
  (.ret))))))))))))
theorem is205 : FnIs Tryz.prog 205 51 m205 [.t 4,.t 5] := .of Tryz.call205 Tryz.func205 (by kernel_rfl)
def m251 : MC :=
  .seq (.reg [oo 0 3 (.zbox 156 (.t 0)),oo 1 6 (.alloc [.int .i64 0,.int .i64 0,.int .u64 0,.sl 6 [] .exact,.sl 2 [] .exact])] [1,2,6])
  (.seq (.reg [mv 0 7 1,mv 1 8 2,bi 2 9 .add 7 8,oo 3 10 (.build [.int .i64 0,.int .i64 0,.int .u64 0,.sl 6 [] .exact,.sl 2 [] .exact] [(0,1,.t 9)]),⟨4,none,none,.k (.store 5 (.t 6) (.t 10))⟩] [6])
  (.ret))
theorem is251 : FnIs Tryz.prog 251 11 m251 [.c 6 5 true] := .of Tryz.call251 Tryz.func251 (by kernel_rfl)
def m253 : MC :=
  .seq (.reg [oo 0 3 (.zbox 158 (.t 0)),oo 1 4 (.box (.t 1)),oo 2 5 (.box (.t 2)),oo 3 6 (.alloc [.int .i64 0,.int .i64 0,.int .u64 0,.sl 6 [] .exact,.sl 2 [] .exact])] [3,4,5,6])
  (.seq (.reg [oo 0 8 (.zfadr 158 (.t 3)),oo 1 9 (.zload (.t 8)),fa 2 10 0 4,ld 3 11 1 false 10,fa 4 12 0 5,ld 5 13 1 false 12,oc 6 14 251 [.t 9,.t 11,.t 13],oo 7 7 (.alloc [.int .i64 0,.int .i64 0,.int .u64 0,.sl 6 [] .exact,.sl 2 [] .exact]),⟨8,none,none,.k (.store 5 (.t 7) (.t 14))⟩] [4,5,6,7])
  (.seq (.reg [fa 0 15 1 4,ld 1 16 2 true 15,fa 2 17 1 5,ld 3 18 2 true 17,oc 4 19 172 [.t 16,.t 18],fa 5 20 1 7,⟨6,none,none,.k (.store 2 (.t 20) (.t 19))⟩] [6,7])
  (.seq (.reg [ld 0 21 5 true 7,⟨1,none,none,.k (.store 5 (.t 6) (.t 21))⟩] [6])
  (.ret))))
theorem is253 : FnIs Tryz.prog 253 22 m253 [.c 6 5 true] := .of Tryz.call253 Tryz.func253 (by kernel_rfl)
def m254 : MC :=
  .seq (.reg [oo 0 3 (.zbox 158 (.t 0)),oo 1 4 (.box (.t 1)),oo 2 5 (.box (.t 2)),oo 3 6 (.alloc [.int .i64 0,.int .i64 0,.int .u64 0,.sl 6 [] .exact,.sl 2 [] .exact])] [3,4,5,6])
  (.seq (.reg [oo 0 8 (.zfadr 158 (.t 3)),oo 1 9 (.zload (.t 8)),fa 2 10 0 4,ld 3 11 1 false 10,fa 4 12 5 5,ld 5 13 1 false 12,oc 6 14 251 [.t 9,.t 11,.t 13],oo 7 7 (.alloc [.int .i64 0,.int .i64 0,.int .u64 0,.sl 6 [] .exact,.sl 2 [] .exact]),⟨8,none,none,.k (.store 5 (.t 7) (.t 14))⟩] [4,5,6,7])
  (.seq (.any (on1 (fa 0 15 1 4) <|
      .one (ld 1 16 2 true 15) true false <|
      on1 (fa 2 17 0 5) <|
      on1 (fa 3 18 1 17) <|
      .one (ld 4 19 1 false 18) true false <|
      on1 (fa 5 20 5 5) <|
      .one (ld 6 21 1 false 20) true false <|
      .one (oc 7 22 174 [.t 19,.t 21]) false true <|
      .one (oc 8 23 172 [.t 16,.t 22]) false true <|
      on1 (fa 9 24 1 7) <|
      on1 ⟨10,none,none,.k (.store 2 (.t 24) (.t 23))⟩ <|
      .done) [4,5] [6,7])
  (.seq (.reg [ld 0 25 5 true 7,⟨1,none,none,.k (.store 5 (.t 6) (.t 25))⟩] [6])
  (.ret))))
theorem is254 : FnIs Tryz.prog 254 26 m254 [.c 6 5 true] := .of Tryz.call254 Tryz.func254 (by kernel_rfl)
def m255k0 : MC :=
  .reg [ld 0 32 2 true 5,ld 1 33 2 true 8,oc 2 34 172 [.t 32,.t 33],⟨3,none,none,.k (.store 2 (.t 5) (.t 34))⟩] [3,4,5,10,11,12]
def m255k1 : MC :=
  .reg [bc 0 35 .add 12 (.int .i64 1),mv 1 12 35] [3,4,5,10,11,12]
def m255l0 : MC :=
  .seq (.reg [bi 0 13 .lss 12 11] [3,4,5,10,11,12,13])
  (.seq (.cond (.t 13)
    (.skip)
    (.exit 0))
  (.seq (.block 1
    (.seq (.reg [oo 0 14 (.iadr 6 (.t 10) (.t 12)),ld 1 15 6 true 14,oo 2 7 (.alloc [.int .i64 0,.int .i64 0,.int .i64 0,.int .u64 0,.sl 6 [] .exact,.sl 2 [] .exact]),⟨3,none,none,.k (.store 6 (.t 7) (.t 15))⟩] [3,4,5,7,10,11,12])
    (.seq (.reg [fa 0 16 1 7,fa 1 17 1 16,ld 2 18 2 true 17,oo 3 8 (.alloc [.int .i64 0,.int .u64 0]),⟨4,none,none,.k (.store 2 (.t 8) (.t 18))⟩] [3,4,5,7,8,10,11,12])
    (.seq (.seq (.reg [fa 0 19 0 3,ld 1 20 1 false 19,bc 2 21 .eql 20 (.str [100,101,99,97,121])] [3,4,5,7,8,10,11,12,21])
    (.cond (.t 21)
      (.any (.one (ld 0 22 2 true 8) true false <|
          on1 (fa 1 23 1 3) <|
          .one (ld 2 24 1 false 23) true false <|
          on1 (fa 3 25 3 3) <|
          .one (ld 4 26 1 false 25) true false <|
          on1 (fa 5 27 0 7) <|
          .one (ld 6 28 1 false 27) true false <|
          .one (oc 7 29 257 [.t 26,.t 28]) false true <|
          .one (oc 8 30 256 [.t 24,.t 29]) false true <|
          .one (oc 9 31 195 [.t 22,.t 30]) false true <|
          on1 ⟨10,none,none,.k (.store 2 (.t 8) (.t 31))⟩ <|
          .done) [3,7,8] [3,4,5,8,10,11,12])
      (.skip)))
    (.named [3,4,5,8,10,11,12] m255k0)))))
  (.named [3,4,5,10,11,12] m255k1)))
def m255k2 : MC :=
  .seq (.seq (.reg [fa 0 48 0 3,ld 1 49 1 false 48,bc 2 50 .eql 49 (.str [109,101,97,110])] [3,4,5,50])
  (.cond (.t 50)
    (.seq (.reg [ld 0 51 2 true 5,fa 1 52 4 3,ld 2 53 1 false 52,oc 3 54 258 [.c (.int .i64 3),.t 51,.t 53],⟨4,none,none,.k (.store 3 (.t 4) (.t 54))⟩] [4])
    (.ret))
    (.skip)))
  (.seq (.reg [ld 0 55 2 true 5,oc 1 56 258 [.c (.int .i64 3),.t 55,.c (.int .i64 4294967296)],⟨2,none,none,.k (.store 3 (.t 4) (.t 56))⟩] [4])
  (.ret))
def m255k3 : MC :=
  .seq (.seq (.reg [fa 0 36 0 3,ld 1 37 1 false 36,bc 2 38 .eql 37 (.str [115,117,109])] [3,4,5,38])
  (.cond (.t 38)
    (.seq (.reg [fa 0 39 2 3,ld 1 40 1 false 39,ld 2 41 2 true 5,oc 3 42 258 [.t 40,.t 41,.c (.int .i64 1)],⟨4,none,none,.k (.store 3 (.t 4) (.t 42))⟩] [4])
    (.ret))
    (.skip)))
  (.seq (.seq (.reg [fa 0 43 2 3,ld 1 44 1 false 43,bc 2 45 .eql 44 (.int .i64 2)] [3,4,5,45])
  (.cond (.t 45)
    (.reg [ld 0 46 2 true 5,oc 1 47 195 [.t 46,.c (.int .i64 1000000)],⟨2,none,none,.k (.store 2 (.t 5) (.t 47))⟩] [3,4,5])
    (.skip)))
  (.named [3,4,5] m255k2))
def m255 : MC :=
  .seq (.reg [oo 0 2 (.zbox 158 (.t 0)),oo 1 3 (.box (.t 1)),oo 2 4 (.alloc [.int .i64 0,.int .i64 0,.str []])] [3,4])
  (.seq (.reg [oo 0 5 (.alloc [.int .i64 0,.int .u64 0])] [3,4,5])
  (.seq (.seq (.reg [fa 0 9 5 3,ld 1 10 1 false 9,oo 2 11 (.len false (.t 10)),mc 3 12 (.int .i64 0)] [3,4,5,10,11,12])
  (.block 0
    (.loop m255l0)))
  (.named [3,4,5] m255k3)))
theorem is255 : FnIs Tryz.prog 255 57 m255 [.c 4 3 true] := .of Tryz.call255 Tryz.func255 (by kernel_rfl)
def m258k0 : MC :=
  .seq (.reg [mv 0 20 0,mv 1 21 7,oo 2 22 (.build [.int .i64 0,.int .i64 0,.str []] [(0,1,.t 20),(1,1,.t 21)]),⟨3,none,none,.k (.store 3 (.t 6) (.t 22))⟩] [6])
  (.ret)
def m258 : MC :=
  .seq (.reg [oo 0 4 (.box (.t 1)),oo 1 6 (.alloc [.int .i64 0,.int .i64 0,.str []])] [0,2,4,6])
  (.seq (.reg [ld 0 10 2 true 4,mv 1 11 2,oc 2 12 192 [.t 10,.t 11],mv 3 9 12,oo 4 13 (.ext (.t 9) 0),oo 5 14 (.ext (.t 9) 1),mv 6 7 13,mv 7 8 14] [0,6,7,8])
  (.seq (.seq (.reg [mv 0 15 8,oo 1 16 (.un .not (.t 15))] [0,6,7,16])
  (.cond (.t 16)
    (.seq (.reg [oo 0 17 (.build [.int .i64 0,.int .i64 0,.str []] []),⟨1,none,none,.k (.store 3 (.t 6) (.t 17))⟩] [6])
    (.ret))
    (.skip)))
  (.seq (.seq (.reg [mv 0 18 0,bc 1 19 .neq 18 (.int .i64 2)] [0,6,7,19])
  (.cond (.t 19)
    (.reg [mc 0 0 (.int .i64 3)] [0,6,7])
    (.skip)))
  (.named [0,6,7] m258k0))))
theorem is258 : FnIs Tryz.prog 258 23 m258 [.c 6 3 true] := .of Tryz.call258 Tryz.func258 (by kernel_rfl)
end Go.Proofs.YtombgigaefgaiaaGreatDoor
