/- The functions of the seat in the small language (printed by a program), and that each is the program's. -/
import Derived.Test.YtdjdhecanjmchaaGreatDoorProg
import Derived.Test.YtdjdhecanjmchaaGreatDoorVr
import Derived.KernelRfl
set_option linter.unusedSimpArgs false
set_option linter.unusedVariables false
namespace Go.Proofs.YtdjdhecanjmchaaGreatDoor
open Go Go.V
def m10k0 : MC :=
  .cond (.t 26)
    (.seq (.reg [mc 0 2 (.bool true)] [2])
    (.ret))
    (.skip)
def m10k1 : MC :=
  .cond (.t 55)
    (.seq (.reg [mc 0 2 (.bool false)] [2])
    (.ret))
    (.skip)
def m10k2 : MC :=
  .cond (.t 86)
    (.seq (.reg [mc 0 2 (.bool false)] [2])
    (.ret))
    (.skip)
def m10k3 : MC :=
  .cond (.t 130)
    (.seq (.reg [mc 0 2 (.bool false)] [2])
    (.ret))
    (.skip)
def m10k4 : MC :=
  .cond (.t 174)
    (.seq (.reg [mc 0 2 (.bool false)] [2])
    (.ret))
    (.skip)
def m10k5 : MC :=
  .reg [mv 0 136 14,
      bc 1 137 .add 136 (.int .i64 1),
      mv 2 14 137] [1,3,5,7,8,9,14]
def m10l0 : MC :=
  .seq (.seq (.reg [mv 0 131 14,
      fa 1 132 1 1,
      ld 2 133 1 false 132,
      oo 3 134 (.len false (.t 133)),
      bi 4 135 .lss 131 134] [1,3,5,7,8,9,14,135])
  (.cond (.t 135)
    (.skip)
    (.exit 2)))
  (.seq (.block 3
    (.seq (.reg [mv 0 139 8,
        mv 1 140 14,
        bc 2 141 .add 140 (.int .i64 3),
        oo 3 142 (.iadr 1 (.t 139) (.t 141)),
        ld 4 143 1 false 142,
        oc 5 144 34 [.t 143],
        mv 6 138 144,
        oo 7 145 (.ext (.t 138) 0),
        oo 8 146 (.ext (.t 138) 1),
        oo 9 15 (.alloc [.int .i64 0,.int .i64 0,.str []]),
        ⟨10,none,none,.k (.store 3 (.t 15) (.t 145))⟩,
        mv 11 16 146] [1,3,5,7,8,9,14,15,16])
    (.seq (.any (on1 (mv 0 147 16) <|
        on1 (bc 1 148 .neq 147 (.int .i64 0)) <|
        on1 (mv 2 149 148) <|
        on1 (og 3 150 149 false (.load 3 true (.t 15))) <|
        on1 (og 4 151 149 false (.fadr 2 (.t 1))) <|
        on1 (og 5 152 149 false (.load 1 false (.t 151))) <|
        on1 (gm 6 153 149 false 7) <|
        on1 (og 7 154 149 false (.iadr 4 (.t 152) (.t 153))) <|
        on1 (og 8 155 149 false (.fadr 3 (.t 154))) <|
        on1 (og 9 156 149 false (.load 1 false (.t 155))) <|
        on1 (gm 10 157 149 false 14) <|
        on1 (og 11 158 149 false (.iadr 3 (.t 156) (.t 157))) <|
        on1 (og 12 159 149 false (.load 3 true (.t 158))) <|
        on1 (og 13 160 149 false (.eqv [.i,.i,.s] true (.t 150) (.t 159))) <|
        on1 (oo 14 161 (.pick (.t 149) (.c (.bool true)) (.t 160))) <|
        on1 (mv 15 162 161) <|
        on1 (gm 16 163 162 false 5) <|
        on1 (gm 17 164 162 false 14) <|
        on1 (og 18 165 162 false (.bin .add (.t 164) (.c (.int .i64 3)))) <|
        on1 (og 19 166 162 false (.iadr 1 (.t 163) (.t 165))) <|
        on1 (og 20 167 162 false (.load 1 false (.t 166))) <|
        on1 (og 21 168 162 false (.fadr 1 (.t 1))) <|
        on1 (og 22 169 162 false (.load 1 false (.t 168))) <|
        on1 (gm 23 170 162 false 14) <|
        on1 (og 24 171 162 false (.iadr 1 (.t 169) (.t 170))) <|
        on1 (og 25 172 162 false (.load 1 false (.t 171))) <|
        on1 (og 26 173 162 false (.bin .neq (.t 167) (.t 172))) <|
        on1 (oo 27 174 (.pick (.t 162) (.c (.bool true)) (.t 173))) <|
        .done) [] [1,3,5,7,8,9,14,174])
    (.named [1,3,5,7,8,9,14,174] m10k4))))
  (.named [1,3,5,7,8,9,14] m10k5))
def m10k6 : MC :=
  .reg [mv 0 175 9,
      mv 1 6 175] [1,3,5,6,7]
def m10k7 : MC :=
  .seq (.seq (.reg [mc 0 14 (.int .i64 0)] [1,3,5,7,8,9,14])
  (.block 2
    (.loop m10l0)))
  (.named [1,3,5,7,9] m10k6)
def m10k8 : MC :=
  .seq (.reg [mv 0 88 8,
      oo 1 89 (.iadr 1 (.t 88) (.c (.int .i64 1))),
      ld 2 90 1 false 89,
      oc 3 91 34 [.t 90],
      mv 4 87 91,
      oo 5 92 (.ext (.t 87) 0),
      oo 6 93 (.ext (.t 87) 1),
      oo 7 10 (.alloc [.int .i64 0,.int .i64 0,.str []]),
      ⟨8,none,none,.k (.store 3 (.t 10) (.t 92))⟩,
      mv 9 11 93] [1,3,5,7,8,9,10,11])
  (.seq (.reg [mv 0 95 8,
      oo 1 96 (.iadr 1 (.t 95) (.c (.int .i64 2))),
      ld 2 97 1 false 96,
      oc 3 98 34 [.t 97],
      mv 4 94 98,
      oo 5 99 (.ext (.t 94) 0),
      oo 6 100 (.ext (.t 94) 1),
      oo 7 12 (.alloc [.int .i64 0,.int .i64 0,.str []]),
      ⟨8,none,none,.k (.store 3 (.t 12) (.t 99))⟩,
      mv 9 13 100] [1,3,5,7,8,9,10,11,12,13])
  (.seq (.seq (.any (on1 (mv 0 101 11) <|
      on1 (bc 1 102 .neq 101 (.int .i64 0)) <|
      on1 (mv 2 103 102) <|
      on1 (gm 3 104 103 false 13) <|
      on1 (og 4 105 103 false (.bin .neq (.t 104) (.c (.int .i64 0)))) <|
      on1 (oo 5 106 (.pick (.t 103) (.c (.bool true)) (.t 105))) <|
      on1 (mv 6 107 106) <|
      on1 (og 7 108 107 false (.load 3 true (.t 10))) <|
      on1 (og 8 109 107 false (.fadr 2 (.t 1))) <|
      on1 (og 9 110 107 false (.load 1 false (.t 109))) <|
      on1 (gm 10 111 107 false 7) <|
      on1 (og 11 112 107 false (.iadr 4 (.t 110) (.t 111))) <|
      on1 (og 12 113 107 false (.fadr 0 (.t 112))) <|
      on1 (og 13 114 107 false (.fadr 1 (.t 113))) <|
      on1 (og 14 115 107 false (.load 1 false (.t 114))) <|
      on1 (og 15 116 107 false (.build [.int .i64 0,.int .i64 0,.str []] [(0,1,.c (.int .i64 2)),(1,1,.t 115)])) <|
      on1 (og 16 117 107 false (.eqv [.i,.i,.s] true (.t 108) (.t 116))) <|
      on1 (oo 17 118 (.pick (.t 107) (.c (.bool true)) (.t 117))) <|
      on1 (mv 18 119 118) <|
      on1 (og 19 120 119 false (.load 3 true (.t 12))) <|
      on1 (og 20 121 119 false (.fadr 2 (.t 1))) <|
      on1 (og 21 122 119 false (.load 1 false (.t 121))) <|
      on1 (gm 22 123 119 false 7) <|
      on1 (og 23 124 119 false (.iadr 4 (.t 122) (.t 123))) <|
      on1 (og 24 125 119 false (.fadr 0 (.t 124))) <|
      on1 (og 25 126 119 false (.fadr 2 (.t 125))) <|
      on1 (og 26 127 119 false (.load 1 false (.t 126))) <|
      on1 (og 27 128 119 false (.build [.int .i64 0,.int .i64 0,.str []] [(0,1,.c (.int .i64 2)),(1,1,.t 127)])) <|
      on1 (og 28 129 119 false (.eqv [.i,.i,.s] true (.t 120) (.t 128))) <|
      on1 (oo 29 130 (.pick (.t 119) (.c (.bool true)) (.t 129))) <|
      .done) [] [1,3,5,7,8,9,130])
  (.named [1,3,5,7,8,9,130] m10k3))
  (.named [1,3,5,7,8,9] m10k7)))
def m10k9 : MC :=
  .reg [mv 0 61 7,
      bc 1 62 .add 61 (.int .i64 1),
      mv 2 7 62] [1,3,5,6,7]
def m10l1 : MC :=
  .seq (.seq (.reg [mv 0 56 7,
      fa 1 57 2 1,
      ld 2 58 1 false 57,
      oo 3 59 (.len false (.t 58)),
      bi 4 60 .lss 56 59] [1,3,5,6,7,60])
  (.cond (.t 60)
    (.skip)
    (.exit 0)))
  (.seq (.block 1
    (.seq (.reg [mv 0 64 3,
        mv 1 65 6,
        oc 2 66 33 [.t 64,.t 65],
        mv 3 63 66,
        oo 4 67 (.ext (.t 63) 0),
        oo 5 68 (.ext (.t 63) 1),
        mv 6 8 67,
        mv 7 9 68] [1,3,5,7,8,9])
    (.seq (.seq (.any (on1 (mv 0 69 8) <|
        on1 (oo 1 70 (.len false (.t 69))) <|
        on1 (mv 2 71 5) <|
        on1 (oo 3 72 (.len false (.t 71))) <|
        on1 (bi 4 73 .neq 70 72) <|
        on1 (mv 5 74 73) <|
        on1 (gm 6 75 74 false 8) <|
        on1 (og 7 76 74 false (.iadr 1 (.t 75) (.c (.int .i64 0)))) <|
        on1 (og 8 77 74 false (.load 1 false (.t 76))) <|
        on1 (og 9 78 74 false (.fadr 2 (.t 1))) <|
        on1 (og 10 79 74 false (.load 1 false (.t 78))) <|
        on1 (gm 11 80 74 false 7) <|
        on1 (og 12 81 74 false (.iadr 4 (.t 79) (.t 80))) <|
        on1 (og 13 82 74 false (.fadr 0 (.t 81))) <|
        on1 (og 14 83 74 false (.fadr 0 (.t 82))) <|
        on1 (og 15 84 74 false (.load 1 false (.t 83))) <|
        on1 (og 16 85 74 false (.bin .neq (.t 77) (.t 84))) <|
        on1 (oo 17 86 (.pick (.t 74) (.c (.bool true)) (.t 85))) <|
        .done) [] [1,3,5,7,8,9,86])
    (.named [1,3,5,7,8,9,86] m10k2))
    (.named [1,3,5,7,8,9] m10k8))))
  (.named [1,3,5,6,7] m10k9))
def m10k10 : MC :=
  .seq (.reg [mv 0 176 6,
      mv 1 177 3,
      oo 2 178 (.len true (.t 177)),
      bi 3 179 .eql 176 178,
      mv 4 2 179] [2])
  (.ret)
def m10k11 : MC :=
  .seq (.seq (.reg [mc 0 7 (.int .i64 0)] [1,3,5,6,7])
  (.block 0
    (.loop m10l1)))
  (.named [3,6] m10k10)
def m10k12 : MC :=
  .seq (.reg [ld 0 28 3 true 1,
      oc 1 29 19 [.t 28],
      mv 2 27 29,
      oo 3 30 (.ext (.t 27) 0),
      oo 4 31 (.ext (.t 27) 1),
      mv 5 3 30,
      mv 6 4 31] [1,3,4])
  (.seq (.reg [mv 0 33 3,
      oc 1 34 33 [.t 33,.c (.int .i64 0)],
      mv 2 32 34,
      oo 3 35 (.ext (.t 32) 0),
      oo 4 36 (.ext (.t 32) 1),
      mv 5 5 35,
      mv 6 6 36] [1,3,4,5,6])
  (.seq (.seq (.any (on1 (mv 0 37 4) <|
      on1 (bc 1 38 .neq 37 (.int .i64 0)) <|
      on1 (mv 2 39 38) <|
      on1 (gm 3 40 39 false 5) <|
      on1 (og 4 41 39 false (.len false (.t 40))) <|
      on1 (og 5 42 39 false (.fadr 1 (.t 1))) <|
      on1 (og 6 43 39 false (.load 1 false (.t 42))) <|
      on1 (og 7 44 39 false (.len false (.t 43))) <|
      on1 (og 8 45 39 false (.bin .add (.t 44) (.c (.int .i64 3)))) <|
      on1 (og 9 46 39 false (.bin .neq (.t 41) (.t 45))) <|
      on1 (oo 10 47 (.pick (.t 39) (.c (.bool true)) (.t 46))) <|
      on1 (mv 11 48 47) <|
      on1 (gm 12 49 48 false 5) <|
      on1 (og 13 50 48 false (.iadr 1 (.t 49) (.c (.int .i64 0)))) <|
      on1 (og 14 51 48 false (.load 1 false (.t 50))) <|
      on1 (og 15 52 48 false (.fadr 0 (.t 1))) <|
      on1 (og 16 53 48 false (.load 1 false (.t 52))) <|
      on1 (og 17 54 48 false (.bin .neq (.t 51) (.t 53))) <|
      on1 (oo 18 55 (.pick (.t 48) (.c (.bool true)) (.t 54))) <|
      .done) [] [1,3,5,6,55])
  (.named [1,3,5,6,55] m10k1))
  (.named [1,3,5,6] m10k11)))
def m10 : MC :=
  .seq (.reg [oo 0 1 (.box (.t 0)),
      mc 1 2 (.bool false)] [1])
  (.seq (.seq (.reg [oc 0 17 11 [],
      oo 1 18 (.un .not (.t 17))] [1,18])
  (.cond (.t 18)
    (.seq (.reg [mc 0 2 (.bool false)] [2])
    (.ret))
    (.skip)))
  (.seq (.seq (.reg [ld 0 19 3 true 1,
      oc 1 20 13 [.t 19],
      oo 2 21 (.un .not (.t 20)),
      mv 3 22 21,
      og 4 23 22 false (.load 3 true (.t 1)),
      ⟨5,some 24,(some (22,false)),.call (.f 22) [.t 23]⟩,
      og 6 25 22 false (.un .not (.t 24)),
      oo 7 26 (.pick (.t 22) (.c (.bool true)) (.t 25))] [1,26])
  (.named [1,26] m10k0))
  (.named [1] m10k12)))
theorem is10 : FnIs Tryz.prog 10 180 m10 [.t 2] := .of Tryz.call10 Tryz.func10 (by kernel_rfl)
def m33k0 : MC :=
  .cond (.t 26)
    (.seq (.reg [mv 0 27 6,
        mv 1 28 0,
        mv 2 29 7,
        mv 3 30 8,
        oo 4 31 (.slS (.t 28) (some (.t 29)) (some (.t 30))),
        oo 5 32 (.mkSl 1 [.str []] [.t 31]),
        oo 6 33 (.app 1 16 (.t 27) (.t 32)),
        mv 7 6 33] [0,6,8])
    (.reg [mv 0 34 8,
        bc 1 35 .add 34 (.int .i64 1),
        mv 2 7 35] [0,6,7,8]))
    (.skip)
def m33k1 : MC :=
  .seq (.reg [mv 0 36 0,
      mv 1 37 8,
      oo 2 38 (.istr (.t 36) (.t 37)),
      bc 3 39 .eql 38 (.int .u8 10)] [0,6,7,8,39])
  (.cond (.t 39)
    (.seq (.reg [mv 0 40 6,
        mv 1 41 8,
        bc 2 42 .add 41 (.int .i64 1),
        mv 3 4 40,
        mv 4 5 42] [4,5])
    (.ret))
    (.skip))
def m33k2 : MC :=
  .reg [mv 0 15 8,
      bc 1 16 .add 15 (.int .i64 1),
      mv 2 8 16] [0,6,7,8]
def m33l0 : MC :=
  .seq (.seq (.reg [mv 0 11 8,
      mv 1 12 0,
      oo 2 13 (.len true (.t 12)),
      bi 3 14 .lss 11 13] [0,6,7,8,14])
  (.cond (.t 14)
    (.skip)
    (.exit 0)))
  (.seq (.block 1
    (.seq (.seq (.reg [mv 0 17 0,
        mv 1 18 8,
        oo 2 19 (.istr (.t 17) (.t 18)),
        bc 3 20 .eql 19 (.int .u8 9),
        mv 4 21 20,
        gm 5 22 21 false 0,
        gm 6 23 21 false 8,
        og 7 24 21 false (.istr (.t 22) (.t 23)),
        og 8 25 21 false (.bin .eql (.t 24) (.c (.int .u8 10))),
        oo 9 26 (.pick (.t 21) (.c (.bool true)) (.t 25))] [0,6,7,8,26])
    (.named [0,6,7,8,26] m33k0))
    (.named [0,6,7,8] m33k1)))
  (.named [0,6,7,8] m33k2))
def m33k3 : MC :=
  .seq (.reg [mv 0 43 6,
      mv 1 44 0,
      oo 2 45 (.len true (.t 44)),
      mv 3 4 43,
      mv 4 5 45] [4,5])
  (.ret)
def m33 : MC :=
  .seq (.reg [mc 0 4 (.sl 1 [] .exact),
      mc 1 5 (.int .i64 0)] [0,1])
  (.seq (.reg [mc 0 6 (.sl 1 [] .exact)] [0,1,6])
  (.seq (.reg [mv 0 9 1,
      mv 1 7 9] [0,1,6,7])
  (.seq (.seq (.reg [mv 0 10 1,
      mv 1 8 10] [0,6,7,8])
  (.block 0
    (.loop m33l0)))
  (.named [0,6] m33k3))))
theorem is33 : FnIs Tryz.prog 33 46 m33 [.t 4,.t 5] := .of Tryz.call33 Tryz.func33 (by kernel_rfl)
def m34k0 : MC :=
  .cond (.t 21)
    (.seq (.reg [fa 0 28 0 2,
        ⟨1,none,none,.k (.store 1 (.t 28) (.c (.int .i64 1)))⟩] [0,2])
    (.seq (.reg [mv 0 29 0,
        bc 1 30 .eql 29 (.str [116,114,117,101])] [0,2,30])
    (.cond (.t 30)
      (.reg [fa 0 31 1 2,
          ⟨1,none,none,.k (.store 1 (.t 31) (.c (.int .i64 1)))⟩] [0,2])
      (.skip))))
    (.seq (.reg [mv 0 33 0,
        ⟨1,some 34,none,.call (.f 86) [.t 33,.c (.str [64])]⟩,
        mv 2 32 34] [0,2,32])
    (.cond (.t 32)
      (.reg [mv 0 35 0,
          oo 1 36 (.slS (.t 35) (some (.c (.int .i64 1))) none),
          oo 2 37 (.build [.int .i64 0,.int .i64 0,.str []] [(0,1,.c (.int .i64 5)),(2,1,.t 36)]),
          ⟨3,none,none,.k (.store 3 (.t 2) (.t 37))⟩] [0,2])
      (.seq (.reg [mv 0 39 0,
          ⟨1,some 40,none,.call (.f 86) [.t 39,.c (.str [34])]⟩,
          mv 2 38 40] [0,2,38])
      (.cond (.t 38)
        (.reg [mv 0 41 0,
            ⟨1,some 42,none,.call (.f 87) [.t 41,.c (.str [34])]⟩,
            oo 2 43 (.build [.int .i64 0,.int .i64 0,.str []] [(0,1,.c (.int .i64 4)),(2,1,.t 42)]),
            ⟨3,none,none,.k (.store 3 (.t 2) (.t 43))⟩] [0,2])
        (.seq (.reg [mv 0 45 0,
            ⟨1,some 46,none,.call (.f 88) [.t 45,.c (.str [46])]⟩,
            mv 2 44 46] [0,2,44])
        (.cond (.t 44)
          (.seq (.reg [mv 0 48 0,
              oc 1 49 89 [.t 48],
              mv 2 47 49,
              oo 3 50 (.ext (.t 47) 0),
              oo 4 51 (.ext (.t 47) 1),
              mv 5 4 50,
              mv 6 5 51] [0,2,4])
          (.reg [mv 0 52 4,
              oo 1 53 (.build [.int .i64 0,.int .i64 0,.str []] [(0,1,.c (.int .i64 3)),(1,1,.t 52)]),
              ⟨2,none,none,.k (.store 3 (.t 2) (.t 53))⟩] [0,2]))
          (.seq (.reg [mv 0 9 0,
              oc 1 10 90 [.t 9],
              mv 2 8 10,
              oo 3 11 (.ext (.t 8) 0),
              oo 4 12 (.ext (.t 8) 1),
              mv 5 6 11,
              mv 6 7 12] [0,2,6,7])
          (.seq (.seq (.reg [mv 0 13 7,
              oo 1 14 (.cmp 1 true (.t 13) (.c (.nili)))] [0,2,6,14])
          (.cond (.t 14)
            (.seq (.reg [ld 0 15 3 true 2,
                ⟨1,none,none,.k (.store 3 (.t 2) (.t 15))⟩,
                mc 2 3 (.int .i64 3)] [2,3])
            (.ret))
            (.skip)))
          (.reg [mv 0 16 6,
              oo 1 17 (.build [.int .i64 0,.int .i64 0,.str []] [(0,1,.c (.int .i64 2)),(1,1,.t 16)]),
              ⟨2,none,none,.k (.store 3 (.t 2) (.t 17))⟩] [0,2])))))))))
def m34k1 : MC :=
  .cond (.t 61)
    (.seq (.reg [oo 0 62 (.build [.int .i64 0,.int .i64 0,.str []] []),
        ⟨1,none,none,.k (.store 3 (.t 2) (.t 62))⟩,
        mc 2 3 (.int .i64 3)] [2,3])
    (.ret))
    (.skip)
def m34k2 : MC :=
  .seq (.reg [ld 0 63 3 true 2,
      ⟨1,none,none,.k (.store 3 (.t 2) (.t 63))⟩,
      mc 2 3 (.int .i64 0)] [2,3])
  (.ret)
def m34k3 : MC :=
  .seq (.seq (.reg [ld 0 54 3 true 2,
      oc 1 55 52 [.t 54],
      mv 2 56 0,
      bi 3 57 .neq 55 56,
      mv 4 58 57,
      gm 5 59 58 false 0,
      og 6 60 58 false (.bin .eql (.t 59) (.c (.str []))),
      oo 7 61 (.pick (.t 58) (.c (.bool true)) (.t 60))] [2,61])
  (.named [2,61] m34k1))
  (.named [2] m34k2)
def m34 : MC :=
  .seq (.reg [oo 0 2 (.alloc [.int .i64 0,.int .i64 0,.str []]),
      mc 1 3 (.int .i64 0)] [0,2])
  (.seq (.block 0
    (.seq (.reg [mv 0 19 0,
        bc 1 20 .eql 19 (.str [110,117,108,108]),
        mv 2 18 20] [0,2,18])
    (.cond (.t 18)
      (.skip)
      (.seq (.reg [mv 0 22 0,
          bc 1 23 .eql 22 (.str [116,114,117,101]),
          mv 2 24 23,
          gm 3 25 24 false 0,
          og 4 26 24 false (.bin .eql (.t 25) (.c (.str [102,97,108,115,101]))),
          oo 5 27 (.pick (.t 24) (.c (.bool true)) (.t 26)),
          mv 6 21 27] [0,2,21])
      (.named [0,2,21] m34k0)))))
  (.named [0,2] m34k3))
theorem is34 : FnIs Tryz.prog 34 64 m34 [.c 2 3 true,.t 3] := .of Tryz.call34 Tryz.func34 (by kernel_rfl)
def m86 : MC :=
  .seq (.reg [mc 0 4 (.bool false)] [0,1])
  (.seq (.reg [mv 0 5 0,
      mv 1 6 1,
      oc 2 7 141 [.t 5,.t 6],
      mv 3 4 7] [4])
  (.ret))
theorem is86 : FnIs Tryz.prog 86 8 m86 [.t 4] := .of Tryz.call86 Tryz.func86 (by kernel_rfl)
def m87k0 : MC :=
  .cond (.t 12)
    (.seq (.reg [mv 0 13 0,
        mv 1 4 13] [4])
    (.ret))
    (.skip)
def m87k1 : MC :=
  .cond (.t 21)
    (.seq (.any (on1 (mv 0 22 0) <|
        on1 (mv 1 23 1) <|
        on1 (oo 2 24 (.istr (.t 23) (.c (.int .i64 0)))) <|
        on1 (mv 4 26 1) <|
        on1 (oo 5 27 (.istr (.t 26) (.c (.int .i64 0)))) <|
        on1 (oc 3 25 143 [.t 22,.t 24]) <|
        on1 (oc 6 28 142 [.t 25,.t 27]) <|
        on1 (mv 7 4 28) <|
        .done) [] [4])
    (.ret))
    (.skip)
def m87k2 : MC :=
  .bad
def m87k3 : MC :=
  .seq (.seq (.reg [mv 0 14 1,
      oo 1 15 (.len true (.t 14)),
      bc 2 16 .eql 15 (.int .i64 1),
      mv 3 17 16,
      gm 4 18 17 true 1,
      og 5 19 17 true (.istr (.t 18) (.c (.int .i64 0))),
      og 6 20 17 true (.bin .lss (.t 19) (.c (.int .u8 128))),
      oo 7 21 (.pick (.t 17) (.t 20) (.c (.bool false)))] [0,1,21])
  (.named [0,1,21] m87k1))
  (.named [0,1] m87k2)
def m87 : MC :=
  .seq (.reg [mc 0 4 (.str [])] [0,1])
  (.seq (.seq (.reg [mv 0 7 0,
      bc 1 8 .eql 7 (.str []),
      mv 2 9 8,
      gm 3 10 9 false 1,
      og 4 11 9 false (.bin .eql (.t 10) (.c (.str []))),
      oo 5 12 (.pick (.t 9) (.c (.bool true)) (.t 11))] [0,1,12])
  (.named [0,1,12] m87k0))
  (.named [0,1] m87k3))
theorem is87 : FnIs Tryz.prog 87 43 m87 [.t 4] := .of Tryz.call87 Tryz.func87 (by kernel_rfl)
def m89k0 : MC :=
  .cond (.t 20)
    (.reg [mv 0 21 4,
        oo 1 22 (.slS (.t 21) (some (.c (.int .i64 1))) none),
        mv 2 4 22,
        mc 3 5 (.bool true)] [2,4,5])
    (.skip)
def m89k1 : MC :=
  .cond (.t 44)
    (.seq (.reg [mc 0 2 (.int .i64 0),
        mc 1 3 (.int .i64 3)] [2,3])
    (.ret))
    (.skip)
def m89k2 : MC :=
  .cond (.t 32)
    (.seq (.reg [mv 0 43 8,
        mv 1 6 43] [2,4,5,6,7,8])
    (.exit 1))
    (.seq (.reg [mv 0 45 9,
        bc 1 46 .lss 45 (.int .u8 48),
        mv 2 47 46,
        gm 3 48 47 false 9,
        og 4 49 47 false (.bin .gtr (.t 48) (.c (.int .u8 57))),
        oo 5 50 (.pick (.t 47) (.c (.bool true)) (.t 49)),
        mv 6 44 50] [2,4,5,6,7,8,9,44])
    (.named [2,4,5,6,7,8,9,44] m89k1))
def m89k3 : MC :=
  .seq (.seq (.reg [mv 0 51 7] [2,4,5,6,7,8,9,51])
  (.cond (.t 51)
    (.exit 1)
    (.skip)))
  (.seq (.reg [mv 0 52 9,
      bc 1 53 .sub 52 (.int .u8 48),
      oo 2 54 (.conv .i64 (.t 53)),
      mv 3 10 54] [2,4,5,6,7,8,10])
  (.seq (.reg [mv 0 55 2,
      mv 1 56 10,
      oo 2 57 (.bin .sub (.c (.int .i64 1152921504606846976)) (.t 56)),
      bc 3 58 .quo 57 (.int .i64 10),
      bi 4 59 .gtr 55 58] [2,4,5,6,7,8,10,59])
  (.cond (.t 59)
    (.reg [mc 0 7 (.bool true)] [2,4,5,6,7,8])
    (.reg [mv 0 60 2,
        oo 1 61 (.bin .mul (.c (.int .i64 10)) (.t 60)),
        mv 2 62 10,
        bi 3 63 .add 61 62,
        mv 4 2 63] [2,4,5,6,7,8]))))
def m89k4 : MC :=
  .reg [mv 0 27 8,
      bc 1 28 .add 27 (.int .i64 1),
      mv 2 8 28] [2,4,5,6,7,8]
def m89l0 : MC :=
  .seq (.seq (.reg [mv 0 23 8,
      mv 1 24 4,
      oo 2 25 (.len true (.t 24)),
      bi 3 26 .lss 23 25] [2,4,5,6,7,8,26])
  (.cond (.t 26)
    (.skip)
    (.exit 0)))
  (.seq (.block 1
    (.seq (.reg [mv 0 29 4,
        mv 1 30 8,
        oo 2 31 (.istr (.t 29) (.t 30)),
        mv 3 9 31] [2,4,5,6,7,8,9])
    (.seq (.block 2
      (.seq (.reg [mv 0 33 9,
          bc 1 34 .eql 33 (.int .u8 46),
          mv 2 35 34,
          gm 3 36 35 true 6,
          og 4 37 35 true (.bin .lss (.t 36) (.c (.int .i64 0))),
          oo 5 38 (.pick (.t 35) (.t 37) (.c (.bool false))),
          mv 6 39 38,
          gm 7 40 39 true 8,
          og 8 41 39 true (.bin .gtr (.t 40) (.c (.int .i64 0))),
          oo 9 42 (.pick (.t 39) (.t 41) (.c (.bool false))),
          mv 10 32 42] [2,4,5,6,7,8,9,32])
      (.named [2,4,5,6,7,8,9,32] m89k2)))
    (.named [2,4,5,6,7,8,9] m89k3))))
  (.named [2,4,5,6,7,8] m89k4))
def m89k5 : MC :=
  .cond (.t 76)
    (.seq (.reg [mc 0 2 (.int .i64 0),
        mc 1 3 (.int .i64 3)] [2,3])
    (.ret))
    (.skip)
def m89k6 : MC :=
  .cond (.t 89)
    (.seq (.reg [mc 0 2 (.int .i64 0),
        mc 1 3 (.int .i64 2)] [2,3])
    (.ret))
    (.reg [mv 0 90 2,
        mv 1 91 12,
        bi 2 92 .mul 90 91,
        mv 3 2 92] [2,5])
def m89k7 : MC :=
  .seq (.reg [mv 0 96 2,
      mv 1 2 96,
      mc 2 3 (.int .i64 0)] [2,3])
  (.ret)
def m89k8 : MC :=
  .seq (.seq (.reg [mv 0 93 5] [2,93])
  (.cond (.t 93)
    (.reg [mv 0 94 2,
        oo 1 95 (.un .neg (.t 94)),
        mv 2 2 95] [2])
    (.skip)))
  (.named [2] m89k7)
def m89k9 : MC :=
  .seq (.seq (.reg [mv 0 77 4,
      bc 1 78 .eql 77 (.str [])] [2,5,7,11,78])
  (.cond (.t 78)
    (.seq (.reg [mc 0 2 (.int .i64 0),
        mc 1 3 (.int .i64 3)] [2,3])
    (.ret))
    (.skip)))
  (.seq (.seq (.reg [mv 0 79 11,
      oo 1 80 (.bin .sub (.c (.int .i64 6)) (.t 79)),
      oo 2 81 (.iadrA 1 7 (.g 0) (.t 80)),
      ld 3 82 1 false 81,
      mv 4 12 82] [2,5,7,12])
  (.seq (.reg [mv 0 83 7,
      mv 1 84 83,
      gm 2 85 84 false 2,
      gm 3 86 84 false 12,
      og 4 87 84 false (.bin .quo (.c (.int .i64 1152921504606846976)) (.t 86)),
      og 5 88 84 false (.bin .gtr (.t 85) (.t 87)),
      oo 6 89 (.pick (.t 84) (.c (.bool true)) (.t 88))] [2,5,12,89])
  (.named [2,5,12,89] m89k6)))
  (.named [2,5] m89k8))
def m89k10 : MC :=
  .seq (.reg [mc 0 11 (.int .i64 0)] [2,4,5,6,7,11])
  (.seq (.seq (.reg [mv 0 64 6,
      bc 1 65 .geq 64 (.int .i64 0)] [2,4,5,6,7,11,65])
  (.cond (.t 65)
    (.seq (.reg [mv 0 66 4,
        oo 1 67 (.len true (.t 66)),
        mv 2 68 6,
        bi 3 69 .sub 67 68,
        bc 4 70 .sub 69 (.int .i64 1),
        mv 5 11 70] [2,4,5,7,11])
    (.seq (.reg [mv 0 71 11,
        bc 1 72 .eql 71 (.int .i64 0),
        mv 2 73 72,
        gm 3 74 73 false 11,
        og 4 75 73 false (.bin .gtr (.t 74) (.c (.int .i64 6))),
        oo 5 76 (.pick (.t 73) (.c (.bool true)) (.t 75))] [2,4,5,7,11,76])
    (.named [2,4,5,7,11,76] m89k5)))
    (.skip)))
  (.named [2,4,5,7,11] m89k9))
def m89k11 : MC :=
  .seq (.reg [mc 0 6 (.int .i64 (-1)),
      mc 1 7 (.bool false)] [2,4,5,6,7])
  (.seq (.skip)
  (.seq (.seq (.reg [mc 0 8 (.int .i64 0)] [2,4,5,6,7,8])
  (.block 0
    (.loop m89l0)))
  (.named [2,4,5,6,7] m89k10)))
def m89 : MC :=
  .seq (.reg [mc 0 2 (.int .i64 0),
      mc 1 3 (.int .i64 0)] [0,2])
  (.block 1000000
    (.seq (.reg [mv 0 13 0,
        mv 1 4 13,
        mc 2 5 (.bool false)] [2,4,5])
    (.seq (.seq (.reg [mv 0 14 4,
        bc 1 15 .neq 14 (.str []),
        mv 2 16 15,
        gm 3 17 16 true 4,
        og 4 18 16 true (.istr (.t 17) (.c (.int .i64 0))),
        og 5 19 16 true (.bin .eql (.t 18) (.c (.int .u8 45))),
        oo 6 20 (.pick (.t 16) (.t 19) (.c (.bool false)))] [2,4,5,20])
    (.named [2,4,5,20] m89k0))
    (.named [2,4,5] m89k11))))
theorem is89 : FnIs Tryz.prog 89 97 m89 [.t 2,.t 3] := .of Tryz.call89 Tryz.func89 (by kernel_rfl)
def m141 : MC :=
  .seq (.reg [mc 0 4 (.bool false)] [0,1])
  (.seq (.reg [mv 0 5 0,
      oo 1 6 (.len true (.t 5)),
      mv 2 7 1,
      oo 3 8 (.len true (.t 7)),
      bi 4 9 .geq 6 8,
      mv 5 10 9,
      gm 6 11 10 true 0,
      gm 7 12 10 true 1,
      og 8 13 10 true (.len true (.t 12)),
      og 9 14 10 true (.slS (.t 11) none (some (.t 13))),
      gm 10 15 10 true 1,
      og 11 16 10 true (.bin .eql (.t 14) (.t 15)),
      oo 12 17 (.pick (.t 10) (.t 16) (.c (.bool false))),
      mv 13 4 17] [4])
  (.ret))
theorem is141 : FnIs Tryz.prog 141 18 m141 [.t 4] := .of Tryz.call141 Tryz.func141 (by kernel_rfl)
def m142k0 : MC :=
  .cond (.t 13)
    (.skip)
    (.exit 0)
def m142k1 : MC :=
  .block 1
    (.reg [mv 0 14 0,
        oo 1 15 (.slS (.t 14) (some (.c (.int .i64 1))) none),
        mv 2 0 15] [0,1])
def m142l0 : MC :=
  .seq (.seq (.reg [mv 0 5 0,
      oo 1 6 (.len true (.t 5)),
      bc 2 7 .gtr 6 (.int .i64 0),
      mv 3 8 7,
      gm 4 9 8 true 0,
      og 5 10 8 true (.istr (.t 9) (.c (.int .i64 0))),
      gm 6 11 8 true 1,
      og 7 12 8 true (.bin .eql (.t 10) (.t 11)),
      oo 8 13 (.pick (.t 8) (.t 12) (.c (.bool false)))] [0,1,13])
  (.named [0,1,13] m142k0))
  (.named [0,1] m142k1)
def m142k2 : MC :=
  .seq (.reg [mv 0 16 0,
      mv 1 4 16] [4])
  (.ret)
def m142 : MC :=
  .seq (.reg [mc 0 4 (.str [])] [0,1])
  (.seq (.block 0
    (.loop m142l0))
  (.named [0] m142k2))
theorem is142 : FnIs Tryz.prog 142 17 m142 [.t 4] := .of Tryz.call142 Tryz.func142 (by kernel_rfl)
def m143k0 : MC :=
  .cond (.t 16)
    (.skip)
    (.exit 0)
def m143k1 : MC :=
  .block 1
    (.reg [mv 0 17 0,
        mv 1 18 0,
        oo 2 19 (.len true (.t 18)),
        bc 3 20 .sub 19 (.int .i64 1),
        oo 4 21 (.slS (.t 17) none (some (.t 20))),
        mv 5 0 21] [0,1])
def m143l0 : MC :=
  .seq (.seq (.reg [mv 0 5 0,
      oo 1 6 (.len true (.t 5)),
      bc 2 7 .gtr 6 (.int .i64 0),
      mv 3 8 7,
      gm 4 9 8 true 0,
      gm 5 10 8 true 0,
      og 6 11 8 true (.len true (.t 10)),
      og 7 12 8 true (.bin .sub (.t 11) (.c (.int .i64 1))),
      og 8 13 8 true (.istr (.t 9) (.t 12)),
      gm 9 14 8 true 1,
      og 10 15 8 true (.bin .eql (.t 13) (.t 14)),
      oo 11 16 (.pick (.t 8) (.t 15) (.c (.bool false)))] [0,1,16])
  (.named [0,1,16] m143k0))
  (.named [0,1] m143k1)
def m143k2 : MC :=
  .seq (.reg [mv 0 22 0,
      mv 1 4 22] [4])
  (.ret)
def m143 : MC :=
  .seq (.reg [mc 0 4 (.str [])] [0,1])
  (.seq (.block 0
    (.loop m143l0))
  (.named [0] m143k2))
theorem is143 : FnIs Tryz.prog 143 23 m143 [.t 4] := .of Tryz.call143 Tryz.func143 (by kernel_rfl)
end Go.Proofs.YtdjdhecanjmchaaGreatDoor
