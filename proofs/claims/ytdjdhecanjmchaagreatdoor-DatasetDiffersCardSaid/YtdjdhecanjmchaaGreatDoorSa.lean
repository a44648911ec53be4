/- The functions of the seat in the small language (printed by a program), and that each is the program's. -/
import Derived.Test.YtdjdhecanjmchaaGreatDoorProg
import Derived.Test.YtdjdhecanjmchaaGreatDoorVr
import Derived.KernelRfl
set_option linter.unusedSimpArgs false
set_option linter.unusedVariables false
namespace Go.Proofs.YtdjdhecanjmchaaGreatDoor
open Go Go.V
def m9k0 : MC :=
  .cond (.t 36)
    (.seq (.reg [mc 0 8 (.bool true)] [8])
    (.ret))
    (.skip)
def m9k1 : MC :=
  .cond (.t 49)
    (.seq (.reg [mc 0 8 (.bool false)] [8])
    (.ret))
    (.skip)
def m9k2 : MC :=
  .cond (.t 69)
    (.seq (.reg [mc 0 8 (.bool true)] [8])
    (.ret))
    (.skip)
def m9k3 : MC :=
  .cond (.t 176)
    (.seq (.reg [mc 0 8 (.bool false)] [8])
    (.ret))
    (.skip)
def m9k4 : MC :=
  .seq (.seq (.reg [ld 0 177 3 true 7,
      ld 1 178 3 true 12,
      oo 2 179 (.eqv [.i,.i,.s] false (.t 177) (.t 178))] [1,13,17,19,179])
  (.cond (.t 179)
    (.seq (.reg [mv 0 180 13,
        oo 1 181 (.len false (.t 180)),
        bc 2 182 .eql 181 (.int .i64 0),
        mv 3 183 182,
        gm 4 184 183 true 17,
        ⟨5,some 185,(some (183,true)),.call (.f 30) [.t 184]⟩,
        gm 6 186 183 true 19,
        ⟨7,some 187,(some (183,true)),.call (.f 30) [.t 186]⟩,
        og 8 188 183 true (.bin .eql (.t 185) (.t 187)),
        oo 9 189 (.pick (.t 183) (.t 188) (.c (.bool false))),
        mv 10 8 189] [8])
    (.ret))
    (.skip)))
  (.seq (.reg [mv 0 190 13,
      mv 1 191 1,
      oo 2 192 (.mkSl 1 [.int .i64 0] [.t 191]),
      oc 3 193 21 [.t 190,.t 192],
      mv 4 8 193] [8])
  (.ret))
def m9c0 : MC :=
  .seq (.reg [ld 0 108 3 true 4,
      ld 1 109 3 true 11,
      oc 2 110 17 [.t 108,.t 109],
      mv 3 107 110,
      oo 4 111 (.ext (.t 107) 0),
      oo 5 112 (.ext (.t 107) 1),
      mv 6 13 111,
      mv 7 14 112] [1,4,7,11,12,13,14])
  (.seq (.reg [ld 0 114 3 true 11,
      ld 1 115 3 true 4,
      oc 2 116 17 [.t 114,.t 115],
      mv 3 113 116,
      oo 4 117 (.ext (.t 113) 0),
      oo 5 118 (.ext (.t 113) 1),
      mv 6 15 117,
      mv 7 16 118] [1,4,7,11,12,13,14,15,16])
  (.seq (.reg [ld 0 120 3 true 4,
      oc 1 121 23 [.t 120],
      mv 2 119 121,
      oo 3 122 (.ext (.t 119) 0),
      oo 4 123 (.ext (.t 119) 1),
      mv 5 17 122,
      mv 6 18 123] [1,7,11,12,13,14,15,16,17,18])
  (.seq (.reg [ld 0 125 3 true 11,
      oc 1 126 23 [.t 125],
      mv 2 124 126,
      oo 3 127 (.ext (.t 124) 0),
      oo 4 128 (.ext (.t 124) 1),
      mv 5 19 127,
      mv 6 20 128] [1,7,12,13,14,15,16,17,18,19,20])
  (.seq (.seq (.reg [ld 0 129 3 true 7,
      oc 1 130 32 [.t 129],
      bc 2 131 .neq 130 (.int .i64 0)] [1,7,12,13,14,15,16,17,18,19,20,131])
  (.cond (.t 131)
    (.seq (.reg [mv 0 132 14,
        bc 1 133 .eql 132 (.int .i64 1),
        mv 2 134 133,
        gm 3 135 134 true 16,
        og 4 136 134 true (.bin .eql (.t 135) (.c (.int .i64 1))),
        oo 5 137 (.pick (.t 134) (.t 136) (.c (.bool false))),
        mv 6 138 137,
        gm 7 139 138 true 18,
        og 8 140 138 true (.bin .eql (.t 139) (.c (.int .i64 0))),
        oo 9 141 (.pick (.t 138) (.t 140) (.c (.bool false))),
        mv 10 142 141,
        gm 11 143 142 true 20,
        og 12 144 142 true (.bin .eql (.t 143) (.c (.int .i64 1))),
        oo 13 145 (.pick (.t 142) (.t 144) (.c (.bool false))),
        mv 14 8 145] [8])
    (.ret))
    (.skip)))
  (.seq (.seq (.any (on1 (mv 0 146 14) <|
      on1 (bc 1 147 .neq 146 (.int .i64 0)) <|
      on1 (mv 2 148 147) <|
      on1 (gm 3 149 148 false 16) <|
      on1 (og 4 150 148 false (.bin .neq (.t 149) (.c (.int .i64 0)))) <|
      on1 (oo 5 151 (.pick (.t 148) (.c (.bool true)) (.t 150))) <|
      on1 (mv 6 152 151) <|
      on1 (gm 7 153 152 false 18) <|
      on1 (og 8 154 152 false (.bin .neq (.t 153) (.c (.int .i64 0)))) <|
      on1 (oo 9 155 (.pick (.t 152) (.c (.bool true)) (.t 154))) <|
      on1 (mv 10 156 155) <|
      on1 (gm 11 157 156 false 20) <|
      on1 (og 12 158 156 false (.bin .neq (.t 157) (.c (.int .i64 0)))) <|
      on1 (oo 13 159 (.pick (.t 156) (.c (.bool true)) (.t 158))) <|
      on1 (mv 14 160 159) <|
      on1 (gm 15 161 160 false 13) <|
      on1 (gm 16 162 160 false 15) <|
      on1 ⟨17,some 163,(some (160,false)),.call (.f 21) [.t 161,.t 162]⟩ <|
      on1 (og 18 164 160 false (.un .not (.t 163))) <|
      on1 (oo 19 165 (.pick (.t 160) (.c (.bool true)) (.t 164))) <|
      on1 (mv 20 166 165) <|
      on1 (gm 21 167 166 false 17) <|
      on1 (og 22 168 166 false (.b2s (.t 167))) <|
      on1 (gm 23 169 166 false 19) <|
      on1 (og 24 170 166 false (.b2s (.t 169))) <|
      on1 (og 25 171 166 false (.bin .eql (.t 168) (.t 170))) <|
      on1 (og 26 172 166 false (.load 3 true (.t 7))) <|
      on1 (og 27 173 166 false (.load 3 true (.t 12))) <|
      on1 (og 28 174 166 false (.eqv [.i,.i,.s] false (.t 172) (.t 173))) <|
      on1 (og 29 175 166 false (.cmp 0 true (.t 171) (.t 174))) <|
      on1 (oo 30 176 (.pick (.t 166) (.c (.bool true)) (.t 175))) <|
      .done) [] [1,7,12,13,17,19,176])
  (.named [1,7,12,13,17,19,176] m9k3))
  (.named [1,7,12,13,17,19] m9k4))))))
def m9k5 : MC :=
  .seq (.reg [ld 0 70 3 true 4,
      oo 1 11 (.alloc [.str [],.sl 1 [] .exact,.sl 4 [] .exact]),
      ⟨2,none,none,.k (.store 3 (.t 11) (.t 70))⟩] [1,2,4,7,11])
  (.seq (.reg [oo 0 71 (.mkSl 4 [.str [],.int .i64 0,.int .i64 0,.sl 3 [] .exact] []),
      fa 1 72 2 4,
      ld 2 73 1 false 72,
      oo 3 74 (.appO 4 56 (.t 71) (.t 73)),
      fa 4 75 2 11,
      ⟨5,none,none,.k (.store 1 (.t 75) (.t 74))⟩] [1,2,4,7,11])
  (.seq (.reg [fa 0 76 2 11,
      ld 1 77 1 false 76,
      mv 2 78 1,
      oo 3 79 (.iadr 4 (.t 77) (.t 78)),
      fa 4 80 3 79,
      ld 5 81 1 false 80,
      mv 6 82 2,
      oo 7 83 (.iadr 3 (.t 81) (.t 82)),
      ld 8 84 3 true 83,
      oo 9 12 (.alloc [.int .i64 0,.int .i64 0,.str []]),
      ⟨10,none,none,.k (.store 3 (.t 12) (.t 84))⟩] [1,2,4,7,11,12])
  (.seq (.any (on1 (fa 0 85 2 11) <|
      .one (ld 1 86 1 false 85) true false <|
      on1 (mv 2 87 1) <|
      on1 (oo 3 88 (.mkSl 3 [.int .i64 0,.int .i64 0,.str []] [])) <|
      on1 (fa 4 89 2 11) <|
      .one (ld 5 90 1 false 89) true false <|
      on1 (mv 6 91 1) <|
      on1 (oo 7 92 (.iadr 4 (.t 90) (.t 91))) <|
      on1 (fa 8 93 3 92) <|
      on1 (ld 9 94 1 false 93) <|
      .one (oo 10 95 (.appO 3 32 (.t 88) (.t 94))) false true <|
      on1 (oo 11 96 (.iadr 4 (.t 86) (.t 87))) <|
      on1 (fa 12 97 3 96) <|
      on1 ⟨13,none,none,.k (.store 1 (.t 97) (.t 95))⟩ <|
      .done) [11] [1,2,4,7,11,12])
  (.seq (.any (on1 (fa 0 98 2 11) <|
      on1 (ld 1 99 1 false 98) <|
      on1 (mv 2 100 1) <|
      on1 (oo 3 101 (.iadr 4 (.t 99) (.t 100))) <|
      on1 (fa 4 102 3 101) <|
      on1 (ld 5 103 1 false 102) <|
      on1 (mv 6 104 2) <|
      on1 (ld 7 105 3 true 7) <|
      on1 (oo 8 106 (.iadr 3 (.t 103) (.t 104))) <|
      on1 ⟨9,none,none,.k (.store 3 (.t 106) (.t 105))⟩ <|
      .done) [] [1,4,7,11,12])
  (.named [1,4,7,11,12] m9c0)))))
def m9k6 : MC :=
  .seq (.seq (.reg [mv 0 50 1,
      bc 1 51 .lss 50 (.int .i64 0),
      mv 2 52 51,
      gm 3 53 52 false 1,
      og 4 54 52 false (.fadr 2 (.t 4)),
      og 5 55 52 false (.load 1 false (.t 54)),
      og 6 56 52 false (.len false (.t 55)),
      og 7 57 52 false (.bin .geq (.t 53) (.t 56)),
      oo 8 58 (.pick (.t 52) (.c (.bool true)) (.t 57)),
      mv 9 59 58,
      gm 10 60 59 false 2,
      og 11 61 59 false (.bin .lss (.t 60) (.c (.int .i64 0))),
      oo 12 62 (.pick (.t 59) (.c (.bool true)) (.t 61)),
      mv 13 63 62,
      gm 14 64 63 false 2,
      og 15 65 63 false (.fadr 1 (.t 4)),
      og 16 66 63 false (.load 1 false (.t 65)),
      og 17 67 63 false (.len false (.t 66)),
      og 18 68 63 false (.bin .geq (.t 64) (.t 67)),
      oo 19 69 (.pick (.t 63) (.c (.bool true)) (.t 68))] [1,2,4,7,69])
  (.named [1,2,4,7,69] m9k2))
  (.named [1,2,4,7] m9k5)
def m9k7 : MC :=
  .seq (.reg [ld 0 38 3 true 4,
      ld 1 39 3 true 4,
      oc 2 40 17 [.t 38,.t 39],
      mv 3 37 40,
      oo 4 41 (.ext (.t 37) 0),
      oo 5 42 (.ext (.t 37) 1),
      mv 6 9 41,
      mv 7 10 42] [1,2,4,7,9,10])
  (.seq (.seq (.reg [mv 0 43 10,
      bc 1 44 .neq 43 (.int .i64 0),
      mv 2 45 44,
      gm 3 46 45 false 9,
      og 4 47 45 false (.len false (.t 46)),
      og 5 48 45 false (.bin .neq (.t 47) (.c (.int .i64 0))),
      oo 6 49 (.pick (.t 45) (.c (.bool true)) (.t 48))] [1,2,4,7,49])
  (.named [1,2,4,7,49] m9k1))
  (.named [1,2,4,7] m9k6))
def m9 : MC :=
  .seq (.reg [oo 0 4 (.box (.t 0)),
      oo 1 7 (.box (.t 3)),
      mc 2 8 (.bool false)] [1,2,4,7])
  (.seq (.seq (.reg [oc 0 21 11 [],
      oo 1 22 (.un .not (.t 21))] [1,2,4,7,22])
  (.cond (.t 22)
    (.seq (.reg [mc 0 8 (.bool false)] [8])
    (.ret))
    (.skip)))
  (.seq (.seq (.reg [ld 0 23 3 true 4,
      oc 1 24 13 [.t 23],
      oo 2 25 (.un .not (.t 24)),
      mv 3 26 25,
      og 4 27 26 false (.load 3 true (.t 4)),
      ⟨5,some 28,(some (26,false)),.call (.f 22) [.t 27]⟩,
      og 6 29 26 false (.un .not (.t 28)),
      oo 7 30 (.pick (.t 26) (.c (.bool true)) (.t 29)),
      mv 8 31 30,
      og 9 32 31 false (.fadr 2 (.t 7)),
      og 10 33 31 false (.load 1 false (.t 32)),
      og 11 34 31 false (.len true (.t 33)),
      og 12 35 31 false (.bin .gtr (.t 34) (.c (.int .i64 200))),
      oo 13 36 (.pick (.t 31) (.c (.bool true)) (.t 35))] [1,2,4,7,36])
  (.named [1,2,4,7,36] m9k0))
  (.named [1,2,4,7] m9k7)))
theorem is9 : FnIs Tryz.prog 9 194 m9 [.t 8] := .of Tryz.call9 Tryz.func9 (by kernel_rfl)
end Go.Proofs.YtdjdhecanjmchaaGreatDoor
