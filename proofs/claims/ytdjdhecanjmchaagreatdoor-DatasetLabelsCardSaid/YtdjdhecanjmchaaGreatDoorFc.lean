/- The functions of the seat in the small language (printed by a program), and that each is the program's. -/
import Derived.Test.YtdjdhecanjmchaaGreatDoorProg
import Derived.Test.YtdjdhecanjmchaaGreatDoorVr
import Derived.KernelRfl
set_option linter.unusedSimpArgs false
set_option linter.unusedVariables false
namespace Go.Proofs.YtdjdhecanjmchaaGreatDoor
open Go Go.V
def m154 : MC :=
  .seq (.reg [oo 0 1 (.box (.t 0)),mc 1 2 (.bool false)] [1])
  (.seq (.reg [fa 0 3 0 1,ld 1 4 1 false 3,oc 2 5 155 [.t 4],oo 3 6 (.un .not (.t 5)),mv 4 7 6,og 5 8 7 false (.fadr 1 (.t 1)),og 6 9 7 false (.load 1 false (.t 8)),⟨7,some 10,(some (7,false)),.call (.f 152) [.t 9]⟩,og 8 11 7 false (.un .not (.t 10)),oo 9 12 (.pick (.t 7) (.c (.bool true)) (.t 11)),mv 10 13 12,og 11 14 13 false (.fadr 2 (.t 1)),og 12 15 13 false (.load 1 false (.t 14)),⟨13,some 16,(some (13,false)),.call (.f 152) [.t 15]⟩,og 14 17 13 false (.un .not (.t 16)),oo 15 18 (.pick (.t 13) (.c (.bool true)) (.t 17)),mv 16 2 18] [2])
  (.ret))
theorem is154 : FnIs Tryz.prog 154 19 m154 [.t 2] := .of Tryz.call154 Tryz.func154 (by kernel_rfl)
def m155 : MC :=
  .seq (.reg [mc 0 2 (.bool false)] [0])
  (.seq (.reg [mv 0 3 0,bc 1 4 .neq 3 (.str []),mv 2 5 4,gm 3 6 5 true 0,og 4 7 5 true (.build [.int .i64 0,.int .i64 0,.str []] [(0,1,.c (.int .i64 5)),(2,1,.t 6)]),⟨5,some 8,(some (5,true)),.call (.f 32) [.t 7]⟩,og 6 9 5 true (.bin .eql (.t 8) (.c (.int .i64 0))),oo 7 10 (.pick (.t 5) (.t 9) (.c (.bool false))),mv 8 2 10] [2])
  (.ret))
theorem is155 : FnIs Tryz.prog 155 11 m155 [.t 2] := .of Tryz.call155 Tryz.func155 (by kernel_rfl)
def m156 : MC :=
  .seq (.reg [mc 0 2 (.bool false)] [0])
  (.seq (.reg [mv 0 3 0,bc 1 4 .neq 3 (.str []),mv 2 5 4,gm 3 6 5 true 0,⟨4,some 7,(some (5,true)),.call (.f 88) [.t 6,.c (.str [32])]⟩,og 5 8 5 true (.un .not (.t 7)),oo 6 9 (.pick (.t 5) (.t 8) (.c (.bool false))),mv 7 10 9,gm 8 11 10 true 0,og 9 12 10 true (.bin .add (.c (.str [32])) (.t 11)),og 10 13 10 true (.bin .add (.t 12) (.c (.str [32]))),⟨11,some 14,(some (10,true)),.call (.f 88) [.c (.str [32,116,97,98,108,101,32,102,101,97,116,117,114,101,32,111,102,32,107,101,101,112,32,98,111,111,108,32,116,101,120,116,32,107,101,121,32,105,110,116,32,100,101,99,32,105,102,32,116,104,101,110,32,101,108,115,101,32,100,101,102,97,117,108,116,32,111,114,32,97,110,100,32,110,111,116,32,116,114,117,101,32,102,97,108,115,101,32,110,117,108,108,32,99,111,117,110,116,32,115,117,109,32,109,101,97,110,32,109,105,110,32,109,97,120,32,102,105,114,115,116,32,108,97,115,116,32,100,105,115,116,105,110,99,116,32,113,117,97,110,116,105,108,101,32,100,101,99,97,121,32,97,108,108,32,115,108,105,100,105,110,103,32,116,117,109,98,108,105,110,103,32,115,101,115,115,105,111,110,32,119,104,101,114,101,32]),.t 13]⟩,oo 12 15 (.pick (.t 10) (.t 14) (.c (.bool false))),mv 13 2 15] [2])
  (.ret))
theorem is156 : FnIs Tryz.prog 156 16 m156 [.t 2] := .of Tryz.call156 Tryz.func156 (by kernel_rfl)
def m157l0 : MC :=
  .seq (.reg [bi 0 9 .lss 8 7] [0,1,7,8,9])
  (.seq (.cond (.t 9)
    (.skip)
    (.exit 0))
  (.seq (.block 1
    (.seq (.reg [mv 0 10 8,mv 1 5 10] [0,1,5,7,8])
    (.seq (.reg [mv 0 11 1,mv 1 12 0,mv 2 13 5,oo 3 14 (.iadr 1 (.t 12) (.t 13)),ld 4 15 1 false 14,bi 5 16 .eql 11 15] [0,1,5,7,8,16])
    (.cond (.t 16)
      (.seq (.reg [mv 0 17 5,mv 1 4 17] [4])
      (.ret))
      (.skip)))))
  (.reg [bc 0 18 .add 8 (.int .i64 1),mv 1 8 18] [0,1,7,8])))
def m157k0 : MC :=
  .seq (.reg [mc 0 4 (.int .i64 (-1))] [4])
  (.ret)
def m157 : MC :=
  .seq (.reg [mc 0 4 (.int .i64 0)] [0,1])
  (.seq (.seq (.reg [mv 0 6 0,oo 1 7 (.len false (.t 6)),mc 2 8 (.int .i64 0)] [0,1,7,8])
  (.block 0
    (.loop m157l0)))
  (.named [] m157k0))
theorem is157 : FnIs Tryz.prog 157 19 m157 [.t 4] := .of Tryz.call157 Tryz.func157 (by kernel_rfl)
def m158l0 : MC :=
  .seq (.reg [bi 0 9 .lss 8 7] [3,6,7,8,9])
  (.seq (.cond (.t 9)
    (.skip)
    (.exit 0))
  (.seq (.block 1
    (.seq (.reg [oo 0 10 (.iadr 1 (.t 6) (.t 8)),ld 1 11 1 false 10,mv 2 5 11] [3,5,6,7,8])
    (.seq (.reg [mv 0 12 5,mv 1 13 3,bi 2 14 .neq 12 13] [3,5,6,7,8,14])
    (.cond (.t 14)
      (.seq (.reg [mv 0 15 5,mv 1 2 15] [2])
      (.ret))
      (.skip)))))
  (.reg [bc 0 16 .add 8 (.int .i64 1),mv 1 8 16] [3,6,7,8])))
def m158k0 : MC :=
  .seq (.reg [mv 0 17 3,mv 1 2 17] [2])
  (.ret)
def m158 : MC :=
  .seq (.reg [mc 0 2 (.int .i64 0)] [0])
  (.seq (.reg [mc 0 3 (.int .i64 0)] [0,3])
  (.seq (.seq (.reg [mv 0 6 0,oo 1 7 (.len false (.t 6)),mc 2 8 (.int .i64 0)] [3,6,7,8])
  (.block 0
    (.loop m158l0)))
  (.named [3] m158k0)))
theorem is158 : FnIs Tryz.prog 158 18 m158 [.t 2] := .of Tryz.call158 Tryz.func158 (by kernel_rfl)
def m160 : MC :=
  .seq (.reg [mc 0 4 (.int .i64 0)] [0,1])
  (.seq (.reg [mv 0 7 0,oc 1 8 195 [.t 7],mv 2 5 8] [0,1,5])
  (.seq (.reg [mv 0 9 1,oc 1 10 195 [.t 9],mv 2 6 10] [0,1,5,6])
  (.seq (.seq (.reg [mv 0 11 5] [0,1,6,11])
  (.cond (.t 11)
    (.seq (.seq (.reg [mv 0 12 6] [12])
    (.cond (.t 12)
      (.seq (.reg [mc 0 4 (.int .i64 0)] [4])
      (.ret))
      (.skip)))
    (.seq (.reg [mc 0 4 (.int .i64 (-1))] [4])
    (.ret)))
    (.skip)))
  (.seq (.seq (.reg [mv 0 13 6] [0,1,13])
  (.cond (.t 13)
    (.seq (.reg [mc 0 4 (.int .i64 1)] [4])
    (.ret))
    (.skip)))
  (.seq (.seq (.reg [mv 0 14 0,mv 1 15 1,bi 2 16 .lss 14 15] [0,1,16])
  (.cond (.t 16)
    (.seq (.reg [mc 0 4 (.int .i64 (-1))] [4])
    (.ret))
    (.skip)))
  (.seq (.seq (.reg [mv 0 17 0,mv 1 18 1,bi 2 19 .gtr 17 18] [19])
  (.cond (.t 19)
    (.seq (.reg [mc 0 4 (.int .i64 1)] [4])
    (.ret))
    (.skip)))
  (.seq (.reg [mc 0 4 (.int .i64 0)] [4])
  (.ret))))))))
theorem is160 : FnIs Tryz.prog 160 20 m160 [.t 4] := .of Tryz.call160 Tryz.func160 (by kernel_rfl)
def m161l0 : MC :=
  .seq (.reg [bi 0 9 .lss 8 7] [0,1,7,8,9])
  (.seq (.cond (.t 9)
    (.skip)
    (.exit 0))
  (.seq (.block 1
    (.seq (.reg [mv 0 10 8,mv 1 5 10] [0,1,5,7,8])
    (.seq (.reg [mv 0 11 1,mv 1 12 0,mv 2 13 5,oo 3 14 (.iadr 3 (.t 12) (.t 13)),ld 4 15 3 true 14,⟨5,some 16,none,.call (.t 11) [.t 15]⟩] [0,1,5,7,8,16])
    (.cond (.t 16)
      (.seq (.reg [mv 0 17 5,mv 1 4 17] [4])
      (.ret))
      (.skip)))))
  (.reg [bc 0 18 .add 8 (.int .i64 1),mv 1 8 18] [0,1,7,8])))
def m161k0 : MC :=
  .seq (.reg [mc 0 4 (.int .i64 (-1))] [4])
  (.ret)
def m161 : MC :=
  .seq (.reg [mc 0 4 (.int .i64 0)] [0,1])
  (.seq (.seq (.reg [mv 0 6 0,oo 1 7 (.len false (.t 6)),mc 2 8 (.int .i64 0)] [0,1,7,8])
  (.block 0
    (.loop m161l0)))
  (.named [] m161k0))
theorem is161 : FnIs Tryz.prog 161 19 m161 [.t 4] := .of Tryz.call161 Tryz.func161 (by kernel_rfl)
def m162k0 : MC :=
  .cond (.t 44)
    (.skip)
    (.exit 0)
def m162k1 : MC :=
  .block 1
    (.reg [mv 0 45 5,bc 1 46 .add 45 (.int .i64 1),mv 2 5 46] [0,1,5])
def m162l0 : MC :=
  .seq (.seq (.reg [mv 0 12 1,mv 1 13 5,bi 2 14 .add 12 13,mv 3 15 0,oo 4 16 (.len false (.t 15)),bi 5 17 .lss 14 16,mv 6 18 17,gm 7 19 18 true 0,gm 8 20 18 true 1,gm 9 21 18 true 5,og 10 22 18 true (.bin .add (.t 20) (.t 21)),og 11 23 18 true (.iadr 1 (.t 19) (.t 22)),og 12 24 18 true (.load 1 false (.t 23)),⟨13,some 25,(some (18,true)),.call (.f 196) [.t 24]⟩,gm 14 26 18 true 25,gm 15 27 26 false 0,gm 16 28 26 false 1,gm 17 29 26 false 5,og 18 30 26 false (.bin .add (.t 28) (.t 29)),og 19 31 26 false (.iadr 1 (.t 27) (.t 30)),og 20 32 26 false (.load 1 false (.t 31)),⟨21,some 33,(some (26,false)),.call (.f 197) [.t 32]⟩,og 22 34 18 true (.pick (.t 26) (.c (.bool true)) (.t 33)),gm 23 35 18 true 34,gm 24 36 35 false 0,gm 25 37 35 false 1,gm 26 38 35 false 5,og 27 39 35 false (.bin .add (.t 37) (.t 38)),og 28 40 35 false (.iadr 1 (.t 36) (.t 39)),og 29 41 35 false (.load 1 false (.t 40)),og 30 42 35 false (.bin .eql (.t 41) (.c (.int .u8 95))),og 31 43 18 true (.pick (.t 35) (.c (.bool true)) (.t 42)),oo 32 44 (.pick (.t 18) (.t 43) (.c (.bool false)))] [0,1,5,44])
  (.named [0,1,5,44] m162k0))
  (.named [0,1,5] m162k1)
def m162k2 : MC :=
  .seq (.reg [mv 0 47 5,mv 1 4 47] [4])
  (.ret)
def m162 : MC :=
  .seq (.reg [mc 0 4 (.int .i64 0)] [0,1])
  (.seq (.seq (.reg [mv 0 6 0,mv 1 7 1,oo 2 8 (.iadr 1 (.t 6) (.t 7)),ld 3 9 1 false 8,oc 4 10 196 [.t 9],oo 5 11 (.un .not (.t 10))] [0,1,11])
  (.cond (.t 11)
    (.seq (.reg [mc 0 4 (.int .i64 0)] [4])
    (.ret))
    (.skip)))
  (.seq (.reg [mc 0 5 (.int .i64 1)] [0,1,5])
  (.seq (.block 0
    (.loop m162l0))
  (.named [5] m162k2))))
theorem is162 : FnIs Tryz.prog 162 48 m162 [.t 4] := .of Tryz.call162 Tryz.func162 (by kernel_rfl)
def m163k0 : MC :=
  .cond (.t 24)
    (.seq (.reg [mc 0 2 (.bool true)] [2])
    (.ret))
    (.skip)
def m163k1 : MC :=
  .cond (.t 4)
    (.seq (.reg [mc 0 2 (.bool true)] [2])
    (.ret))
    (.seq (.seq (.reg [bc 0 25 .eql 3 (.str [99,111,117,110,116]),mv 1 24 25] [3,24])
    (.cond (.t 24)
      (.skip)
      (.seq (.reg [bc 0 26 .eql 3 (.str [115,117,109]),mv 1 24 26] [3,24])
      (.cond (.t 24)
        (.skip)
        (.seq (.reg [bc 0 27 .eql 3 (.str [109,101,97,110]),mv 1 24 27] [3,24])
        (.cond (.t 24)
          (.skip)
          (.seq (.reg [bc 0 28 .eql 3 (.str [109,105,110]),mv 1 24 28] [3,24])
          (.cond (.t 24)
            (.skip)
            (.seq (.reg [bc 0 29 .eql 3 (.str [109,97,120]),mv 1 24 29] [3,24])
            (.cond (.t 24)
              (.skip)
              (.seq (.reg [bc 0 30 .eql 3 (.str [102,105,114,115,116]),mv 1 24 30] [3,24])
              (.cond (.t 24)
                (.skip)
                (.seq (.reg [bc 0 31 .eql 3 (.str [108,97,115,116]),mv 1 24 31] [3,24])
                (.cond (.t 24)
                  (.skip)
                  (.seq (.reg [bc 0 32 .eql 3 (.str [100,105,115,116,105,110,99,116]),mv 1 24 32] [3,24])
                  (.cond (.t 24)
                    (.skip)
                    (.seq (.reg [bc 0 33 .eql 3 (.str [113,117,97,110,116,105,108,101]),mv 1 24 33] [3,24])
                    (.cond (.t 24)
                      (.skip)
                      (.seq (.reg [bc 0 34 .eql 3 (.str [100,101,99,97,121]),mv 1 24 34] [3,24])
                      (.cond (.t 24)
                        (.skip)
                        (.seq (.reg [bc 0 35 .eql 3 (.str [97,108,108]),mv 1 24 35] [3,24])
                        (.cond (.t 24)
                          (.skip)
                          (.seq (.reg [bc 0 36 .eql 3 (.str [115,108,105,100,105,110,103]),mv 1 24 36] [3,24])
                          (.cond (.t 24)
                            (.skip)
                            (.seq (.reg [bc 0 37 .eql 3 (.str [116,117,109,98,108,105,110,103]),mv 1 24 37] [3,24])
                            (.cond (.t 24)
                              (.skip)
                              (.seq (.reg [bc 0 38 .eql 3 (.str [115,101,115,115,105,111,110]),mv 1 24 38] [3,24])
                              (.cond (.t 24)
                                (.skip)
                                (.reg [bc 0 39 .eql 3 (.str [119,104,101,114,101]),mv 1 24 39] [24])))))))))))))))))))))))))))))
    (.named [24] m163k0))
def m163k2 : MC :=
  .seq (.reg [mc 0 2 (.bool false)] [2])
  (.ret)
def m163 : MC :=
  .seq (.reg [mc 0 2 (.bool false)] [0])
  (.seq (.seq (.reg [mv 0 3 0] [3])
  (.block 0
    (.seq (.seq (.reg [bc 0 5 .eql 3 (.str [116,97,98,108,101]),mv 1 4 5] [3,4])
    (.cond (.t 4)
      (.skip)
      (.seq (.reg [bc 0 6 .eql 3 (.str [102,101,97,116,117,114,101]),mv 1 4 6] [3,4])
      (.cond (.t 4)
        (.skip)
        (.seq (.reg [bc 0 7 .eql 3 (.str [111,102]),mv 1 4 7] [3,4])
        (.cond (.t 4)
          (.skip)
          (.seq (.reg [bc 0 8 .eql 3 (.str [107,101,101,112]),mv 1 4 8] [3,4])
          (.cond (.t 4)
            (.skip)
            (.seq (.reg [bc 0 9 .eql 3 (.str [98,111,111,108]),mv 1 4 9] [3,4])
            (.cond (.t 4)
              (.skip)
              (.seq (.reg [bc 0 10 .eql 3 (.str [116,101,120,116]),mv 1 4 10] [3,4])
              (.cond (.t 4)
                (.skip)
                (.seq (.reg [bc 0 11 .eql 3 (.str [107,101,121]),mv 1 4 11] [3,4])
                (.cond (.t 4)
                  (.skip)
                  (.seq (.reg [bc 0 12 .eql 3 (.str [105,110,116]),mv 1 4 12] [3,4])
                  (.cond (.t 4)
                    (.skip)
                    (.seq (.reg [bc 0 13 .eql 3 (.str [100,101,99]),mv 1 4 13] [3,4])
                    (.cond (.t 4)
                      (.skip)
                      (.seq (.reg [bc 0 14 .eql 3 (.str [105,102]),mv 1 4 14] [3,4])
                      (.cond (.t 4)
                        (.skip)
                        (.seq (.reg [bc 0 15 .eql 3 (.str [116,104,101,110]),mv 1 4 15] [3,4])
                        (.cond (.t 4)
                          (.skip)
                          (.seq (.reg [bc 0 16 .eql 3 (.str [101,108,115,101]),mv 1 4 16] [3,4])
                          (.cond (.t 4)
                            (.skip)
                            (.seq (.reg [bc 0 17 .eql 3 (.str [100,101,102,97,117,108,116]),mv 1 4 17] [3,4])
                            (.cond (.t 4)
                              (.skip)
                              (.seq (.reg [bc 0 18 .eql 3 (.str [111,114]),mv 1 4 18] [3,4])
                              (.cond (.t 4)
                                (.skip)
                                (.seq (.reg [bc 0 19 .eql 3 (.str [97,110,100]),mv 1 4 19] [3,4])
                                (.cond (.t 4)
                                  (.skip)
                                  (.seq (.reg [bc 0 20 .eql 3 (.str [110,111,116]),mv 1 4 20] [3,4])
                                  (.cond (.t 4)
                                    (.skip)
                                    (.seq (.reg [bc 0 21 .eql 3 (.str [116,114,117,101]),mv 1 4 21] [3,4])
                                    (.cond (.t 4)
                                      (.skip)
                                      (.seq (.reg [bc 0 22 .eql 3 (.str [102,97,108,115,101]),mv 1 4 22] [3,4])
                                      (.cond (.t 4)
                                        (.skip)
                                        (.reg [bc 0 23 .eql 3 (.str [110,117,108,108]),mv 1 4 23] [3,4])))))))))))))))))))))))))))))))))))))
    (.named [3,4] m163k1))))
  (.named [] m163k2))
theorem is163 : FnIs Tryz.prog 163 40 m163 [.t 2] := .of Tryz.call163 Tryz.func163 (by kernel_rfl)
def m164k0 : MC :=
  .cond (.t 31)
    (.seq (.reg [mc 0 2 (.bool false)] [2])
    (.ret))
    (.skip)
def m164k1 : MC :=
  .reg [mv 0 8 3,bc 1 9 .add 8 (.int .i64 1),mv 2 3 9] [0,3]
def m164l0 : MC :=
  .seq (.seq (.reg [mv 0 4 3,mv 1 5 0,oo 2 6 (.len true (.t 5)),bi 3 7 .lss 4 6] [0,3,7])
  (.cond (.t 7)
    (.skip)
    (.exit 0)))
  (.seq (.block 1
    (.seq (.reg [mv 0 10 0,mv 1 11 3,oo 2 12 (.istr (.t 10) (.t 11)),bc 3 13 .lss 12 (.int .u8 33),mv 4 14 13,gm 5 15 14 false 0,gm 6 16 14 false 3,og 7 17 14 false (.istr (.t 15) (.t 16)),og 8 18 14 false (.bin .gtr (.t 17) (.c (.int .u8 126))),oo 9 19 (.pick (.t 14) (.c (.bool true)) (.t 18)),mv 10 20 19,gm 11 21 20 false 0,gm 12 22 20 false 3,og 13 23 20 false (.istr (.t 21) (.t 22)),og 14 24 20 false (.bin .eql (.t 23) (.c (.int .u8 34))),oo 15 25 (.pick (.t 20) (.c (.bool true)) (.t 24)),mv 16 26 25,gm 17 27 26 false 0,gm 18 28 26 false 3,og 19 29 26 false (.istr (.t 27) (.t 28)),og 20 30 26 false (.bin .eql (.t 29) (.c (.int .u8 92))),oo 21 31 (.pick (.t 26) (.c (.bool true)) (.t 30))] [0,3,31])
    (.named [0,3,31] m164k0)))
  (.named [0,3] m164k1))
def m164k2 : MC :=
  .seq (.reg [mv 0 32 0,oo 1 33 (.len true (.t 32)),bc 2 34 .geq 33 (.int .i64 1),mv 3 35 34,gm 4 36 35 true 0,og 5 37 35 true (.len true (.t 36)),og 6 38 35 true (.bin .leq (.t 37) (.c (.int .i64 32))),oo 7 39 (.pick (.t 35) (.t 38) (.c (.bool false))),mv 8 2 39] [2])
  (.ret)
def m164 : MC :=
  .seq (.reg [mc 0 2 (.bool false)] [0])
  (.seq (.seq (.reg [mc 0 3 (.int .i64 0)] [0,3])
  (.block 0
    (.loop m164l0)))
  (.named [0] m164k2))
theorem is164 : FnIs Tryz.prog 164 40 m164 [.t 2] := .of Tryz.call164 Tryz.func164 (by kernel_rfl)
def m170 : MC :=
  .seq (.reg [mc 0 2 (.str [])] [0])
  (.seq (.reg [mv 0 3 0,oc 1 4 203 [.t 3],mv 2 2 4] [2])
  (.ret))
theorem is170 : FnIs Tryz.prog 170 5 m170 [.t 2] := .of Tryz.call170 Tryz.func170 (by kernel_rfl)
def m171l0 : MC :=
  .seq (.seq (.reg [mv 0 12 3,oo 1 13 (.len true (.t 12)),bc 2 14 .leq 13 (.int .i64 6)] [3,4,14])
  (.cond (.t 14)
    (.skip)
    (.exit 0)))
  (.block 1
    (.reg [mv 0 15 3,oo 1 16 (.bin .add (.c (.str [48])) (.t 15)),mv 2 3 16] [3,4]))
def m171k0 : MC :=
  .seq (.reg [mv 0 17 3,oo 1 18 (.len true (.t 17)),bc 2 19 .sub 18 (.int .i64 6),mv 3 5 19] [3,4,5])
  (.seq (.any (on1 (mv 0 20 4) <|
      on1 (mv 1 21 3) <|
      on1 (mv 2 22 5) <|
      on1 (oo 3 23 (.slS (.t 21) none (some (.t 22)))) <|
      on1 (bi 4 24 .add 20 23) <|
      on1 (bc 5 25 .add 24 (.str [46])) <|
      on1 (mv 6 26 3) <|
      on1 (mv 7 27 5) <|
      on1 (oo 8 28 (.slS (.t 26) (some (.t 27)) none)) <|
      on1 (bi 9 29 .add 25 28) <|
      on1 (mv 10 2 29) <|
      .done) [] [2])
  (.ret))
def m171k1 : MC :=
  .seq (.block 0
    (.loop m171l0))
  (.named [3,4] m171k0)
def m171 : MC :=
  .seq (.reg [mc 0 2 (.str [])] [0])
  (.seq (.reg [mv 0 6 0,oc 1 7 51 [.t 6],mv 2 3 7] [0,3])
  (.seq (.reg [mc 0 4 (.str [])] [0,3,4])
  (.seq (.seq (.reg [mv 0 8 0,bc 1 9 .lss 8 (.int .i64 0)] [3,4,9])
  (.cond (.t 9)
    (.any (on1 (mv 0 10 3) <|
        on1 (oo 1 11 (.slS (.t 10) (some (.c (.int .i64 1))) none)) <|
        on1 (mc 2 4 (.str [45])) <|
        on1 (mv 3 3 11) <|
        .done) [] [3,4])
    (.skip)))
  (.named [3,4] m171k1))))
theorem is171 : FnIs Tryz.prog 171 30 m171 [.t 2] := .of Tryz.call171 Tryz.func171 (by kernel_rfl)
def m172k0 : MC :=
  .cond (.t 36)
    (.seq (.reg [fa 0 39 1 1,ld 1 40 1 false 39,bc 2 41 .eql 40 (.int .i64 0),mv 3 2 41] [2])
    (.ret))
    (.skip)
def m172k1 : MC :=
  .cond (.t 30)
    (.seq (.reg [fa 0 33 2 1,ld 1 34 1 false 33,bc 2 35 .eql 34 (.str []),mv 3 2 35] [2])
    (.ret))
    (.seq (.seq (.reg [bc 0 37 .eql 4 (.int .i64 4),mv 1 36 37] [1,4,36])
    (.cond (.t 36)
      (.skip)
      (.reg [bc 0 38 .eql 4 (.int .i64 5),mv 1 36 38] [1,36])))
    (.named [1,36] m172k0))
def m172k2 : MC :=
  .seq (.reg [mc 0 2 (.bool false)] [2])
  (.ret)
def m172 : MC :=
  .seq (.reg [oo 0 1 (.box (.t 0)),mc 1 2 (.bool false)] [1])
  (.seq (.seq (.reg [fa 0 3 0 1,ld 1 4 1 false 3] [1,4])
  (.block 0
    (.seq (.reg [bc 0 6 .eql 4 (.int .i64 0),mv 1 5 6] [1,4,5])
    (.cond (.t 5)
      (.seq (.reg [fa 0 7 1 1,ld 1 8 1 false 7,bc 2 9 .eql 8 (.int .i64 0),mv 3 10 9,og 4 11 10 true (.fadr 2 (.t 1)),og 5 12 10 true (.load 1 false (.t 11)),og 6 13 10 true (.bin .eql (.t 12) (.c (.str []))),oo 7 14 (.pick (.t 10) (.t 13) (.c (.bool false))),mv 8 2 14] [2])
      (.ret))
      (.seq (.reg [bc 0 16 .eql 4 (.int .i64 1),mv 1 15 16] [1,4,15])
      (.cond (.t 15)
        (.seq (.reg [fa 0 17 1 1,ld 1 18 1 false 17,bc 2 19 .eql 18 (.int .i64 0),mv 3 20 19,og 4 21 20 false (.fadr 1 (.t 1)),og 5 22 20 false (.load 1 false (.t 21)),og 6 23 20 false (.bin .eql (.t 22) (.c (.int .i64 1))),oo 7 24 (.pick (.t 20) (.c (.bool true)) (.t 23)),mv 8 25 24,og 9 26 25 true (.fadr 2 (.t 1)),og 10 27 25 true (.load 1 false (.t 26)),og 11 28 25 true (.bin .eql (.t 27) (.c (.str []))),oo 12 29 (.pick (.t 25) (.t 28) (.c (.bool false))),mv 13 2 29] [2])
        (.ret))
        (.seq (.seq (.reg [bc 0 31 .eql 4 (.int .i64 2),mv 1 30 31] [1,4,30])
        (.cond (.t 30)
          (.skip)
          (.reg [bc 0 32 .eql 4 (.int .i64 3),mv 1 30 32] [1,4,30])))
        (.named [1,4,30] m172k1))))))))
  (.named [] m172k2))
theorem is172 : FnIs Tryz.prog 172 42 m172 [.t 2] := .of Tryz.call172 Tryz.func172 (by kernel_rfl)
def m173 : MC :=
  .seq (.reg [mc 0 2 (.bool false)] [0])
  (.seq (.reg [mv 0 3 0,bc 1 4 .geq 3 (.int .i64 (-1152921504606846976)),mv 2 5 4,gm 3 6 5 true 0,og 4 7 5 true (.bin .leq (.t 6) (.c (.int .i64 1152921504606846976))),oo 5 8 (.pick (.t 5) (.t 7) (.c (.bool false))),mv 6 2 8] [2])
  (.ret))
theorem is173 : FnIs Tryz.prog 173 9 m173 [.t 2] := .of Tryz.call173 Tryz.func173 (by kernel_rfl)
def m174 : MC :=
  .seq (.reg [mc 0 2 (.bool false)] [0])
  (.seq (.reg [mv 0 3 0,oo 1 4 (.len true (.t 3)),bc 2 5 .leq 4 (.int .i64 64),mv 3 6 5,gm 4 7 6 true 0,⟨5,some 8,(some (6,true)),.call (.f 204) [.t 7,.c (.int .u8 32)]⟩,oo 6 9 (.pick (.t 6) (.t 8) (.c (.bool false))),mv 7 2 9] [2])
  (.ret))
theorem is174 : FnIs Tryz.prog 174 10 m174 [.t 2] := .of Tryz.call174 Tryz.func174 (by kernel_rfl)
def m175 : MC :=
  .seq (.reg [mc 0 2 (.bool false)] [0])
  (.seq (.reg [mv 0 3 0,bc 1 4 .neq 3 (.str []),mv 2 5 4,gm 3 6 5 true 0,og 4 7 5 true (.len true (.t 6)),og 5 8 5 true (.bin .leq (.t 7) (.c (.int .i64 32))),oo 6 9 (.pick (.t 5) (.t 8) (.c (.bool false))),mv 7 10 9,gm 8 11 10 true 0,⟨9,some 12,(some (10,true)),.call (.f 204) [.t 11,.c (.int .u8 33)]⟩,oo 10 13 (.pick (.t 10) (.t 12) (.c (.bool false))),mv 11 2 13] [2])
  (.ret))
theorem is175 : FnIs Tryz.prog 175 14 m175 [.t 2] := .of Tryz.call175 Tryz.func175 (by kernel_rfl)
def m176l0 : MC :=
  .seq (.reg [bc 0 6 .lss 5 (.int .i64 256)] [0,1,2,5,6])
  (.seq (.cond (.t 6)
    (.skip)
    (.exit 0))
  (.seq (.block 1
    (.seq (.reg [mv 0 7 5,mv 1 3 7] [0,1,2,3,5])
    (.reg [mv 0 8 2,mv 1 9 3,⟨2,some 10,none,.call (.t 8) [.t 9]⟩] [0,1,2,5])))
  (.reg [bc 0 11 .add 5 (.int .i64 1),mv 1 5 11] [0,1,2,5])))
def m176k0 : MC :=
  .seq (.reg [ld 0 12 256 true 1,⟨1,none,none,.k (.store 256 (.t 0) (.t 12))⟩] [0])
  (.ret)
def m176 : MC :=
  .seq (.reg [oo 0 0 (.alloc [.int .u32 0,.int .u32 0,.int .u32 0,.int .u32 0,.int .u32 0,.int .u32 0,.int .u32 0,.int .u32 0,.int .u32 0,.int .u32 0,.int .u32 0,.int .u32 0,.int .u32 0,.int .u32 0,.int .u32 0,.int .u32 0,.int .u32 0,.int .u32 0,.int .u32 0,.int .u32 0,.int .u32 0,.int .u32 0,.int .u32 0,.int .u32 0,.int .u32 0,.int .u32 0,.int .u32 0,.int .u32 0,.int .u32 0,.int .u32 0,.int .u32 0,.int .u32 0,.int .u32 0,.int .u32 0,.int .u32 0,.int .u32 0,.int .u32 0,.int .u32 0,.int .u32 0,.int .u32 0,.int .u32 0,.int .u32 0,.int .u32 0,.int .u32 0,.int .u32 0,.int .u32 0,.int .u32 0,.int .u32 0,.int .u32 0,.int .u32 0,.int .u32 0,.int .u32 0,.int .u32 0,.int .u32 0,.int .u32 0,.int .u32 0,.int .u32 0,.int .u32 0,.int .u32 0,.int .u32 0,.int .u32 0,.int .u32 0,.int .u32 0,.int .u32 0,.int .u32 0,.int .u32 0,.int .u32 0,.int .u32 0,.int .u32 0,.int .u32 0,.int .u32 0,.int .u32 0,.int .u32 0,.int .u32 0,.int .u32 0,.int .u32 0,.int .u32 0,.int .u32 0,.int .u32 0,.int .u32 0,.int .u32 0,.int .u32 0,.int .u32 0,.int .u32 0,.int .u32 0,.int .u32 0,.int .u32 0,.int .u32 0,.int .u32 0,.int .u32 0,.int .u32 0,.int .u32 0,.int .u32 0,.int .u32 0,.int .u32 0,.int .u32 0,.int .u32 0,.int .u32 0,.int .u32 0,.int .u32 0,.int .u32 0,.int .u32 0,.int .u32 0,.int .u32 0,.int .u32 0,.int .u32 0,.int .u32 0,.int .u32 0,.int .u32 0,.int .u32 0,.int .u32 0,.int .u32 0,.int .u32 0,.int .u32 0,.int .u32 0,.int .u32 0,.int .u32 0,.int .u32 0,.int .u32 0,.int .u32 0,.int .u32 0,.int .u32 0,.int .u32 0,.int .u32 0,.int .u32 0,.int .u32 0,.int .u32 0,.int .u32 0,.int .u32 0,.int .u32 0,.int .u32 0,.int .u32 0,.int .u32 0,.int .u32 0,.int .u32 0,.int .u32 0,.int .u32 0,.int .u32 0,.int .u32 0,.int .u32 0,.int .u32 0,.int .u32 0,.int .u32 0,.int .u32 0,.int .u32 0,.int .u32 0,.int .u32 0,.int .u32 0,.int .u32 0,.int .u32 0,.int .u32 0,.int .u32 0,.int .u32 0,.int .u32 0,.int .u32 0,.int .u32 0,.int .u32 0,.int .u32 0,.int .u32 0,.int .u32 0,.int .u32 0,.int .u32 0,.int .u32 0,.int .u32 0,.int .u32 0,.int .u32 0,.int .u32 0,.int .u32 0,.int .u32 0,.int .u32 0,.int .u32 0,.int .u32 0,.int .u32 0,.int .u32 0,.int .u32 0,.int .u32 0,.int .u32 0,.int .u32 0,.int .u32 0,.int .u32 0,.int .u32 0,.int .u32 0,.int .u32 0,.int .u32 0,.int .u32 0,.int .u32 0,.int .u32 0,.int .u32 0,.int .u32 0,.int .u32 0,.int .u32 0,.int .u32 0,.int .u32 0,.int .u32 0,.int .u32 0,.int .u32 0,.int .u32 0,.int .u32 0,.int .u32 0,.int .u32 0,.int .u32 0,.int .u32 0,.int .u32 0,.int .u32 0,.int .u32 0,.int .u32 0,.int .u32 0,.int .u32 0,.int .u32 0,.int .u32 0,.int .u32 0,.int .u32 0,.int .u32 0,.int .u32 0,.int .u32 0,.int .u32 0,.int .u32 0,.int .u32 0,.int .u32 0,.int .u32 0,.int .u32 0,.int .u32 0,.int .u32 0,.int .u32 0,.int .u32 0,.int .u32 0,.int .u32 0,.int .u32 0,.int .u32 0,.int .u32 0,.int .u32 0,.int .u32 0,.int .u32 0,.int .u32 0,.int .u32 0,.int .u32 0,.int .u32 0,.int .u32 0,.int .u32 0,.int .u32 0,.int .u32 0,.int .u32 0,.int .u32 0,.int .u32 0,.int .u32 0,.int .u32 0,.int .u32 0,.int .u32 0,.int .u32 0,.int .u32 0,.int .u32 0,.int .u32 0,.int .u32 0,.int .u32 0,.int .u32 0,.int .u32 0])] [0])
  (.seq (.reg [oo 0 1 (.alloc [.int .u32 0,.int .u32 0,.int .u32 0,.int .u32 0,.int .u32 0,.int .u32 0,.int .u32 0,.int .u32 0,.int .u32 0,.int .u32 0,.int .u32 0,.int .u32 0,.int .u32 0,.int .u32 0,.int .u32 0,.int .u32 0,.int .u32 0,.int .u32 0,.int .u32 0,.int .u32 0,.int .u32 0,.int .u32 0,.int .u32 0,.int .u32 0,.int .u32 0,.int .u32 0,.int .u32 0,.int .u32 0,.int .u32 0,.int .u32 0,.int .u32 0,.int .u32 0,.int .u32 0,.int .u32 0,.int .u32 0,.int .u32 0,.int .u32 0,.int .u32 0,.int .u32 0,.int .u32 0,.int .u32 0,.int .u32 0,.int .u32 0,.int .u32 0,.int .u32 0,.int .u32 0,.int .u32 0,.int .u32 0,.int .u32 0,.int .u32 0,.int .u32 0,.int .u32 0,.int .u32 0,.int .u32 0,.int .u32 0,.int .u32 0,.int .u32 0,.int .u32 0,.int .u32 0,.int .u32 0,.int .u32 0,.int .u32 0,.int .u32 0,.int .u32 0,.int .u32 0,.int .u32 0,.int .u32 0,.int .u32 0,.int .u32 0,.int .u32 0,.int .u32 0,.int .u32 0,.int .u32 0,.int .u32 0,.int .u32 0,.int .u32 0,.int .u32 0,.int .u32 0,.int .u32 0,.int .u32 0,.int .u32 0,.int .u32 0,.int .u32 0,.int .u32 0,.int .u32 0,.int .u32 0,.int .u32 0,.int .u32 0,.int .u32 0,.int .u32 0,.int .u32 0,.int .u32 0,.int .u32 0,.int .u32 0,.int .u32 0,.int .u32 0,.int .u32 0,.int .u32 0,.int .u32 0,.int .u32 0,.int .u32 0,.int .u32 0,.int .u32 0,.int .u32 0,.int .u32 0,.int .u32 0,.int .u32 0,.int .u32 0,.int .u32 0,.int .u32 0,.int .u32 0,.int .u32 0,.int .u32 0,.int .u32 0,.int .u32 0,.int .u32 0,.int .u32 0,.int .u32 0,.int .u32 0,.int .u32 0,.int .u32 0,.int .u32 0,.int .u32 0,.int .u32 0,.int .u32 0,.int .u32 0,.int .u32 0,.int .u32 0,.int .u32 0,.int .u32 0,.int .u32 0,.int .u32 0,.int .u32 0,.int .u32 0,.int .u32 0,.int .u32 0,.int .u32 0,.int .u32 0,.int .u32 0,.int .u32 0,.int .u32 0,.int .u32 0,.int .u32 0,.int .u32 0,.int .u32 0,.int .u32 0,.int .u32 0,.int .u32 0,.int .u32 0,.int .u32 0,.int .u32 0,.int .u32 0,.int .u32 0,.int .u32 0,.int .u32 0,.int .u32 0,.int .u32 0,.int .u32 0,.int .u32 0,.int .u32 0,.int .u32 0,.int .u32 0,.int .u32 0,.int .u32 0,.int .u32 0,.int .u32 0,.int .u32 0,.int .u32 0,.int .u32 0,.int .u32 0,.int .u32 0,.int .u32 0,.int .u32 0,.int .u32 0,.int .u32 0,.int .u32 0,.int .u32 0,.int .u32 0,.int .u32 0,.int .u32 0,.int .u32 0,.int .u32 0,.int .u32 0,.int .u32 0,.int .u32 0,.int .u32 0,.int .u32 0,.int .u32 0,.int .u32 0,.int .u32 0,.int .u32 0,.int .u32 0,.int .u32 0,.int .u32 0,.int .u32 0,.int .u32 0,.int .u32 0,.int .u32 0,.int .u32 0,.int .u32 0,.int .u32 0,.int .u32 0,.int .u32 0,.int .u32 0,.int .u32 0,.int .u32 0,.int .u32 0,.int .u32 0,.int .u32 0,.int .u32 0,.int .u32 0,.int .u32 0,.int .u32 0,.int .u32 0,.int .u32 0,.int .u32 0,.int .u32 0,.int .u32 0,.int .u32 0,.int .u32 0,.int .u32 0,.int .u32 0,.int .u32 0,.int .u32 0,.int .u32 0,.int .u32 0,.int .u32 0,.int .u32 0,.int .u32 0,.int .u32 0,.int .u32 0,.int .u32 0,.int .u32 0,.int .u32 0,.int .u32 0,.int .u32 0,.int .u32 0,.int .u32 0,.int .u32 0,.int .u32 0,.int .u32 0,.int .u32 0,.int .u32 0,.int .u32 0,.int .u32 0,.int .u32 0,.int .u32 0,.int .u32 0,.int .u32 0,.int .u32 0,.int .u32 0,.int .u32 0,.int .u32 0,.int .u32 0,.int .u32 0,.int .u32 0])] [0,1])
  (.seq (.reg [oo 0 4 (.func (.func 205) [] [.t 1]),mv 1 2 4] [0,1,2])
  (.seq (.seq (.reg [mc 0 5 (.int .i64 0)] [0,1,2,5])
  (.block 0
    (.loop m176l0)))
  (.named [0,1] m176k0))))
theorem is176 : FnIs Tryz.prog 176 13 m176 [.c 0 256 true] := .of Tryz.call176 Tryz.func176 (by kernel_rfl)
def m178 : MC :=
  .seq (.reg [mv 0 5 0,oo 1 6 (.len false (.t 5)),mv 2 4 6] [0,1,4])
  (.reg [mv 0 7 0,mv 1 8 4,mv 2 9 4,oo 3 10 (.conv .u64 (.t 9)),oc 4 11 207 [.t 10],mv 5 12 1,oc 6 13 206 [.t 7,.c (.int .i64 0),.t 8,.t 11,.t 12]] [])
theorem is178 : FnIs Tryz.prog 178 14 m178 [] := .of Tryz.call178 Tryz.func178 (by kernel_rfl)
def m179 : MC :=
  .seq (.reg [oo 0 2 (.box (.t 0)),oo 1 3 (.box (.t 1)),mc 2 4 (.int .i64 0)] [2,3])
  (.seq (.any (on1 (fa 0 5 0 2) <|
      .one (ld 1 6 1 false 5) true false <|
      on1 (fa 2 7 0 3) <|
      .one (ld 3 8 1 false 7) true false <|
      on1 (fa 5 10 1 2) <|
      .one (ld 6 11 1 false 10) true false <|
      on1 (fa 7 12 1 3) <|
      .one (ld 8 13 1 false 12) true false <|
      on1 (fa 10 15 2 2) <|
      .one (ld 11 16 1 false 15) true false <|
      on1 (fa 12 17 2 3) <|
      .one (ld 13 18 1 false 17) true false <|
      .one (oc 4 9 208 [.t 6,.t 8]) false true <|
      .one (oc 9 14 160 [.t 11,.t 13]) false true <|
      .one (oc 14 19 160 [.t 16,.t 18]) false true <|
      on1 (oo 15 20 (.mkSl 1 [.int .i64 0] [.t 9,.t 14,.t 19])) <|
      .one (oc 16 21 158 [.t 20]) false true <|
      on1 (mv 17 4 21) <|
      .done) [2,3] [4])
  (.ret))
theorem is179 : FnIs Tryz.prog 179 22 m179 [.t 4] := .of Tryz.call179 Tryz.func179 (by kernel_rfl)
def m180k0 : MC :=
  .reg [mv 0 33 5,bc 1 34 .add 33 (.int .i64 1),mv 2 5 34] [0,3,4,5]
def m180l0 : MC :=
  .seq (.seq (.reg [mv 0 29 5,mv 1 30 4,oo 2 31 (.len false (.t 30)),bi 3 32 .lss 29 31] [0,3,4,5,32])
  (.cond (.t 32)
    (.skip)
    (.exit 2)))
  (.seq (.block 3
    (.seq (.any (on1 (mv 0 35 4) <|
        on1 (mv 1 36 5) <|
        on1 (oo 2 37 (.iadr 3 (.t 35) (.t 36))) <|
        on1 (ld 3 38 3 true 37) <|
        on1 (mv 4 39 4) <|
        on1 (mv 5 40 5) <|
        on1 (bc 6 41 .sub 40 (.int .i64 1)) <|
        on1 (oo 7 42 (.iadr 3 (.t 39) (.t 41))) <|
        on1 (ld 8 43 3 true 42) <|
        on1 (oo 9 44 (.eqv [.s,.i,.i] true (.t 38) (.t 43))) <|
        .done) [] [0,3,4,5,44])
    (.cond (.t 44)
      (.seq (.reg [mv 0 45 0,mv 1 46 3,mv 2 47 4,mv 3 48 5,oo 4 49 (.iadr 3 (.t 47) (.t 48)),ld 5 50 3 true 49,oo 6 51 (.iadr 3 (.t 45) (.t 46)),⟨7,none,none,.k (.store 3 (.t 51) (.t 50))⟩] [0,3,4,5])
      (.reg [mv 0 52 3,bc 1 53 .add 52 (.int .i64 1),mv 2 3 53] [0,3,4,5]))
      (.skip))))
  (.named [0,3,4,5] m180k0))
def m180k1 : MC :=
  .seq (.reg [mv 0 54 0,mv 1 55 3,oo 2 56 (.slV 3 (.t 54) (some (.t 55)) none none),⟨3,none,none,.k (.clr 3 [.str [],.int .i64 0,.int .i64 0] (.t 56))⟩] [0,3])
  (.seq (.reg [mv 0 57 0,mv 1 58 3,oo 2 59 (.slV 3 (.t 57) none (some (.t 58)) none),mv 3 2 59] [2])
  (.ret))
def m180k2 : MC :=
  .reg [mv 0 14 3,bc 1 15 .add 14 (.int .i64 1),mv 2 3 15] [0,3]
def m180l1 : MC :=
  .seq (.seq (.reg [mv 0 10 3,mv 1 11 0,oo 2 12 (.len false (.t 11)),bi 3 13 .lss 10 12] [0,3,13])
  (.cond (.t 13)
    (.skip)
    (.exit 0)))
  (.seq (.block 1
    (.seq (.any (on1 (mv 0 16 0) <|
        on1 (mv 1 17 3) <|
        on1 (oo 2 18 (.iadr 3 (.t 16) (.t 17))) <|
        on1 (ld 3 19 3 true 18) <|
        on1 (mv 4 20 0) <|
        on1 (mv 5 21 3) <|
        on1 (bc 6 22 .sub 21 (.int .i64 1)) <|
        on1 (oo 7 23 (.iadr 3 (.t 20) (.t 22))) <|
        on1 (ld 8 24 3 true 23) <|
        on1 (oo 9 25 (.eqv [.s,.i,.i] false (.t 19) (.t 24))) <|
        .done) [] [0,3,25])
    (.cond (.t 25)
      (.seq (.reg [mv 0 26 0,mv 1 27 3,oo 2 28 (.slV 3 (.t 26) (some (.t 27)) none none),mv 3 4 28] [0,3,4])
      (.seq (.seq (.reg [mc 0 5 (.int .i64 1)] [0,3,4,5])
      (.block 2
        (.loop m180l0)))
      (.named [0,3] m180k1)))
      (.skip))))
  (.named [0,3] m180k2))
def m180k3 : MC :=
  .seq (.reg [mv 0 60 0,mv 1 2 60] [2])
  (.ret)
def m180 : MC :=
  .seq (.reg [mc 0 2 (.sl 3 [] .exact)] [0])
  (.seq (.seq (.reg [mv 0 6 0,oo 1 7 (.len false (.t 6)),bc 2 8 .lss 7 (.int .i64 2)] [0,8])
  (.cond (.t 8)
    (.seq (.reg [mv 0 9 0,mv 1 2 9] [2])
    (.ret))
    (.skip)))
  (.seq (.seq (.reg [mc 0 3 (.int .i64 1)] [0,3])
  (.block 0
    (.loop m180l1)))
  (.named [0] m180k3)))
theorem is180 : FnIs Tryz.prog 180 61 m180 [.t 2] := .of Tryz.call180 Tryz.func180 (by kernel_rfl)
def m193l0 : MC :=
  .seq (.reg [bi 0 9 .lss 8 7] [0,1,7,8,9])
  (.seq (.cond (.t 9)
    (.skip)
    (.exit 0))
  (.seq (.block 1
    (.seq (.reg [mv 0 10 8,mv 1 5 10] [0,1,5,7,8])
    (.seq (.reg [mv 0 11 1,mv 1 12 0,mv 2 13 5,oo 3 14 (.iadr 3 (.t 12) (.t 13)),ld 4 15 3 true 14,⟨5,some 16,none,.call (.t 11) [.t 15]⟩] [0,1,5,7,8,16])
    (.cond (.t 16)
      (.seq (.reg [mv 0 17 5,mv 1 4 17] [4])
      (.ret))
      (.skip)))))
  (.reg [bc 0 18 .add 8 (.int .i64 1),mv 1 8 18] [0,1,7,8])))
def m193k0 : MC :=
  .seq (.reg [mc 0 4 (.int .i64 (-1))] [4])
  (.ret)
def m193 : MC :=
  .seq (.reg [mc 0 4 (.int .i64 0)] [0,1])
  (.seq (.seq (.reg [mv 0 6 0,oo 1 7 (.len false (.t 6)),mc 2 8 (.int .i64 0)] [0,1,7,8])
  (.block 0
    (.loop m193l0)))
  (.named [] m193k0))
theorem is193 : FnIs Tryz.prog 193 19 m193 [.t 4] := .of Tryz.call193 Tryz.func193 (by kernel_rfl)
def m195 : MC :=
  .seq (.reg [mc 0 2 (.bool false)] [0])
  (.seq (.reg [mv 0 3 0,mv 1 4 0,bi 2 5 .neq 3 4,mv 3 2 5] [2])
  (.ret))
theorem is195 : FnIs Tryz.prog 195 6 m195 [.t 2] := .of Tryz.call195 Tryz.func195 (by kernel_rfl)
def m196 : MC :=
  .seq (.reg [mc 0 2 (.bool false)] [0])
  (.seq (.reg [mv 0 3 0,bc 1 4 .geq 3 (.int .u8 97),mv 2 5 4,gm 3 6 5 true 0,og 4 7 5 true (.bin .leq (.t 6) (.c (.int .u8 122))),oo 5 8 (.pick (.t 5) (.t 7) (.c (.bool false))),mv 6 2 8] [2])
  (.ret))
theorem is196 : FnIs Tryz.prog 196 9 m196 [.t 2] := .of Tryz.call196 Tryz.func196 (by kernel_rfl)
def m197 : MC :=
  .seq (.reg [mc 0 2 (.bool false)] [0])
  (.seq (.reg [mv 0 3 0,bc 1 4 .geq 3 (.int .u8 48),mv 2 5 4,gm 3 6 5 true 0,og 4 7 5 true (.bin .leq (.t 6) (.c (.int .u8 57))),oo 5 8 (.pick (.t 5) (.t 7) (.c (.bool false))),mv 6 2 8] [2])
  (.ret))
theorem is197 : FnIs Tryz.prog 197 9 m197 [.t 2] := .of Tryz.call197 Tryz.func197 (by kernel_rfl)
def m203 : MC :=
  .seq (.reg [mc 0 2 (.str [])] [0])
  (.seq (.seq (.reg [mv 0 3 0] [3])
  (.cond (.t 3)
    (.seq (.reg [mc 0 2 (.str [116,114,117,101])] [2])
    (.ret))
    (.skip)))
  (.seq (.reg [mc 0 2 (.str [102,97,108,115,101])] [2])
  (.ret)))
theorem is203 : FnIs Tryz.prog 203 4 m203 [.t 2] := .of Tryz.call203 Tryz.func203 (by kernel_rfl)
def m204k0 : MC :=
  .cond (.t 34)
    (.seq (.reg [mc 0 4 (.bool false)] [4])
    (.ret))
    (.skip)
def m204k1 : MC :=
  .reg [mv 0 10 5,bc 1 11 .add 10 (.int .i64 1),mv 2 5 11] [0,1,5]
def m204l0 : MC :=
  .seq (.seq (.reg [mv 0 6 5,mv 1 7 0,oo 2 8 (.len true (.t 7)),bi 3 9 .lss 6 8] [0,1,5,9])
  (.cond (.t 9)
    (.skip)
    (.exit 0)))
  (.seq (.block 1
    (.seq (.reg [mv 0 12 0,mv 1 13 5,oo 2 14 (.istr (.t 12) (.t 13)),mv 3 15 1,bi 4 16 .lss 14 15,mv 5 17 16,gm 6 18 17 false 0,gm 7 19 17 false 5,og 8 20 17 false (.istr (.t 18) (.t 19)),og 9 21 17 false (.bin .gtr (.t 20) (.c (.int .u8 126))),oo 10 22 (.pick (.t 17) (.c (.bool true)) (.t 21)),mv 11 23 22,gm 12 24 23 false 0,gm 13 25 23 false 5,og 14 26 23 false (.istr (.t 24) (.t 25)),og 15 27 23 false (.bin .eql (.t 26) (.c (.int .u8 34))),oo 16 28 (.pick (.t 23) (.c (.bool true)) (.t 27)),mv 17 29 28,gm 18 30 29 false 0,gm 19 31 29 false 5,og 20 32 29 false (.istr (.t 30) (.t 31)),og 21 33 29 false (.bin .eql (.t 32) (.c (.int .u8 92))),oo 22 34 (.pick (.t 29) (.c (.bool true)) (.t 33))] [0,1,5,34])
    (.named [0,1,5,34] m204k0)))
  (.named [0,1,5] m204k1))
def m204k2 : MC :=
  .seq (.reg [mc 0 4 (.bool true)] [4])
  (.ret)
def m204 : MC :=
  .seq (.reg [mc 0 4 (.bool false)] [0,1])
  (.seq (.seq (.reg [mc 0 5 (.int .i64 0)] [0,1,5])
  (.block 0
    (.loop m204l0)))
  (.named [] m204k2))
theorem is204 : FnIs Tryz.prog 204 35 m204 [.t 4] := .of Tryz.call204 Tryz.func204 (by kernel_rfl)
def m205k0 : MC :=
  .reg [bc 0 16 .add 6 (.int .i64 1),mv 1 6 16] [0,1,3,6]
def m205l0 : MC :=
  .seq (.reg [bc 0 7 .lss 6 (.int .i64 8)] [0,1,3,6,7])
  (.seq (.cond (.t 7)
    (.skip)
    (.exit 0))
  (.seq (.block 1
    (.seq (.reg [mv 0 8 3,bc 1 9 .and 8 (.int .u32 1),bc 2 10 .eql 9 (.int .u32 1)] [0,1,3,6,10])
    (.cond (.t 10)
      (.reg [mv 0 11 3,bc 1 12 .shr 11 (.int .u64 1),bc 2 13 .xor 12 (.int .u32 3988292384),mv 3 3 13] [0,1,3,6])
      (.reg [mv 0 14 3,bc 1 15 .shr 14 (.int .u64 1),mv 2 3 15] [0,1,3,6]))))
  (.named [0,1,3,6] m205k0)))
def m205k1 : MC :=
  .reg [mv 0 17 0,mv 1 18 3,oo 2 19 (.iadrA 1 256 (.t 1) (.t 17)),⟨3,none,none,.k (.store 1 (.t 19) (.t 18))⟩] []
def m205 : MC :=
  .seq (.reg [mv 0 4 0,oo 1 5 (.conv .u32 (.t 4)),mv 2 3 5] [0,1,3])
  (.seq (.seq (.reg [mc 0 6 (.int .i64 0)] [0,1,3,6])
  (.block 0
    (.loop m205l0)))
  (.named [0,1,3] m205k1))
theorem is205 : FnIs Tryz.prog 205 20 m205 [] := .of Tryz.call205 Tryz.func205 (by kernel_rfl)
def m206k0 : MC :=
  .cond (.t 75)
    (.seq (.reg [mv 0 76 0,mv 1 77 1,mv 2 78 2,mv 3 79 4,oc 4 80 231 [.t 76,.t 77,.t 78,.t 79]] [0,1,2,3,4,10,11,12,13,80])
    (.cond (.t 80)
      (.ret)
      (.skip)))
    (.skip)
def m206k1 : MC :=
  .cond (.t 97)
    (.seq (.reg [mv 0 98 0,mv 1 99 1,mv 2 100 2,mv 3 101 13,mv 4 102 4,oc 5 103 232 [.t 98,.t 99,.t 100,.t 101,.t 102],mv 6 15 103] [0,2,3,4,10,11,15])
    (.seq (.reg [mv 0 104 15,mv 1 1 104] [0,1,2,3,4,10,11])
    (.exit 1)))
    (.skip)
def m206k2 : MC :=
  .seq (.reg [mv 0 106 0,mv 1 107 1,mv 2 108 2,mv 3 109 13,mv 4 110 4,oc 5 111 233 [.t 106,.t 107,.t 108,.t 109,.t 110],mv 6 105 111,oo 7 112 (.ext (.t 105) 0),oo 8 113 (.ext (.t 105) 1),mv 9 16 112,mv 10 17 113] [0,1,2,3,4,12,16,17])
  (.seq (.reg [mv 0 114 17,mv 1 11 114] [0,1,2,3,4,11,12,16])
  (.seq (.reg [mv 0 115 16,mv 1 116 1,bi 2 117 .sub 115 116,mv 3 118 2,mv 4 119 16,bi 5 120 .sub 118 119,mv 6 18 117,mv 7 19 120] [0,1,2,3,4,11,12,16,18,19])
  (.seq (.reg [mv 0 121 12,bc 1 122 .quo 121 (.int .i64 8),mv 2 20 122] [0,1,2,3,4,11,16,18,19,20])
  (.seq (.reg [mv 0 123 18,mv 1 124 19,bi 2 125 .lss 123 124] [0,1,2,3,4,11,16,18,19,20,125])
  (.cond (.t 125)
    (.seq (.reg [mv 0 126 18,mv 1 127 20,bi 2 128 .geq 126 127,mv 3 10 128] [0,1,2,3,4,10,11,16])
    (.seq (.reg [mv 0 129 0,mv 1 130 1,mv 2 131 16,mv 3 132 3,mv 4 133 4,oc 5 134 206 [.t 129,.t 130,.t 131,.t 132,.t 133]] [0,2,3,4,10,11,16])
    (.reg [mv 0 135 16,bc 1 136 .add 135 (.int .i64 1),mv 2 1 136] [0,1,2,3,4,10,11])))
    (.seq (.reg [mv 0 137 19,mv 1 138 20,bi 2 139 .geq 137 138,mv 3 10 139] [0,1,2,3,4,10,11,16])
    (.seq (.reg [mv 0 140 0,mv 1 141 16,bc 2 142 .add 141 (.int .i64 1),mv 3 143 2,mv 4 144 3,mv 5 145 4,oc 6 146 206 [.t 140,.t 142,.t 143,.t 144,.t 145]] [0,1,3,4,10,11,16])
    (.reg [mv 0 147 16,mv 1 2 147] [0,1,2,3,4,10,11]))))))))
def m206k3 : MC :=
  .seq (.seq (.any (on1 (mv 0 81 1) <|
      on1 (bc 1 82 .gtr 81 (.int .i64 0)) <|
      on1 (mv 2 83 82) <|
      on1 (gm 3 84 83 true 4) <|
      on1 (gm 4 85 83 true 0) <|
      on1 (gm 5 86 83 true 1) <|
      on1 (og 6 87 83 true (.bin .sub (.t 86) (.c (.int .i64 1)))) <|
      on1 (og 7 88 83 true (.iadr 3 (.t 85) (.t 87))) <|
      on1 (og 8 89 83 true (.load 3 true (.t 88))) <|
      on1 (gm 9 90 83 true 0) <|
      on1 (gm 10 91 83 true 13) <|
      on1 (og 11 92 83 true (.iadr 3 (.t 90) (.t 91))) <|
      on1 (og 12 93 83 true (.load 3 true (.t 92))) <|
      on1 ⟨13,some 94,(some (83,true)),.call (.t 84) [.t 89,.t 93]⟩ <|
      on1 (og 14 95 83 true (.bin .lss (.t 94) (.c (.int .i64 0)))) <|
      on1 (og 15 96 83 true (.un .not (.t 95))) <|
      on1 (oo 16 97 (.pick (.t 83) (.t 96) (.c (.bool false)))) <|
      .done) [] [0,1,2,3,4,10,11,12,13,97])
  (.named [0,1,2,3,4,10,11,12,13,97] m206k1))
  (.named [0,1,2,3,4,12,13] m206k2)
def m206k4 : MC :=
  .seq (.seq (.reg [mv 0 68 10,mv 1 69 68,gm 2 70 69 true 11,oo 3 71 (.pick (.t 69) (.t 70) (.c (.bool false))),mv 4 72 71,gm 5 73 72 true 14,og 6 74 72 true (.bin .eql (.t 73) (.c (.int .i64 1))),oo 7 75 (.pick (.t 72) (.t 74) (.c (.bool false)))] [0,1,2,3,4,10,11,12,13,75])
  (.named [0,1,2,3,4,10,11,12,13,75] m206k0))
  (.named [0,1,2,3,4,10,11,12,13] m206k3)
def m206k5 : MC :=
  .seq (.reg [mv 0 48 0,mv 1 49 1,mv 2 50 2,mv 3 51 4,oc 4 52 229 [.t 48,.t 49,.t 50,.t 51],mv 5 47 52,oo 6 53 (.ext (.t 47) 0),oo 7 54 (.ext (.t 47) 1),mv 8 13 53,mv 9 14 54] [0,1,2,3,4,10,11,12,13,14])
  (.seq (.seq (.reg [mv 0 55 14,bc 1 56 .eql 55 (.int .i64 2)] [0,1,2,3,4,10,11,12,13,14,56])
  (.cond (.t 56)
    (.seq (.reg [mv 0 57 0,mv 1 58 1,mv 2 59 2,mv 3 60 4,oc 4 61 230 [.t 57,.t 58,.t 59,.t 60]] [0,1,2,3,4,10,11,12,13])
    (.seq (.reg [mv 0 62 2,bc 1 63 .sub 62 (.int .i64 1),mv 2 64 13,mv 3 65 1,bi 4 66 .sub 64 65,bi 5 67 .sub 63 66,mv 6 13 67] [0,1,2,3,4,10,11,12,13])
    (.reg [mc 0 14 (.int .i64 1)] [0,1,2,3,4,10,11,12,13,14])))
    (.skip)))
  (.named [0,1,2,3,4,10,11,12,13,14] m206k4))
def m206l0 : MC :=
  .block 1
    (.seq (.reg [mv 0 21 2,mv 1 22 1,bi 2 23 .sub 21 22,mv 3 12 23] [0,1,2,3,4,10,11,12])
    (.seq (.seq (.reg [mv 0 24 12,bc 1 25 .leq 24 (.int .i64 12)] [0,1,2,3,4,10,11,12,25])
    (.cond (.t 25)
      (.seq (.reg [mv 0 26 0,mv 1 27 1,mv 2 28 2,mv 3 29 4,oc 4 30 226 [.t 26,.t 27,.t 28,.t 29]] [])
      (.ret))
      (.skip)))
    (.seq (.seq (.reg [mv 0 31 3,bc 1 32 .eql 31 (.int .i64 0)] [0,1,2,3,4,10,11,12,32])
    (.cond (.t 32)
      (.seq (.reg [mv 0 33 0,mv 1 34 1,mv 2 35 2,mv 3 36 4,oc 4 37 227 [.t 33,.t 34,.t 35,.t 36]] [])
      (.ret))
      (.skip)))
    (.seq (.seq (.reg [mv 0 38 10,oo 1 39 (.un .not (.t 38))] [0,1,2,3,4,10,11,12,39])
    (.cond (.t 39)
      (.seq (.reg [mv 0 40 0,mv 1 41 1,mv 2 42 2,mv 3 43 4,oc 4 44 228 [.t 40,.t 41,.t 42,.t 43]] [0,1,2,3,4,10,11,12])
      (.reg [mv 0 45 3,bc 1 46 .sub 45 (.int .i64 1),mv 2 3 46] [0,1,2,3,4,10,11,12]))
      (.skip)))
    (.named [0,1,2,3,4,10,11,12] m206k5)))))
def m206 : MC :=
  .seq (.reg [mc 0 10 (.bool true)] [0,1,2,3,4,10])
  (.seq (.reg [mc 0 11 (.bool true)] [0,1,2,3,4,10,11])
  (.block 0
    (.loop m206l0)))
theorem is206 : FnIs Tryz.prog 206 148 m206 [] := .of Tryz.call206 Tryz.func206 (by kernel_rfl)
def m208 : MC :=
  .seq (.reg [mc 0 4 (.int .i64 0)] [0,1])
  (.seq (.reg [mv 0 7 0,oc 1 8 235 [.t 7],mv 2 5 8] [0,1,5])
  (.seq (.reg [mv 0 9 1,oc 1 10 235 [.t 9],mv 2 6 10] [0,1,5,6])
  (.seq (.seq (.reg [mv 0 11 5] [0,1,6,11])
  (.cond (.t 11)
    (.seq (.seq (.reg [mv 0 12 6] [12])
    (.cond (.t 12)
      (.seq (.reg [mc 0 4 (.int .i64 0)] [4])
      (.ret))
      (.skip)))
    (.seq (.reg [mc 0 4 (.int .i64 (-1))] [4])
    (.ret)))
    (.skip)))
  (.seq (.seq (.reg [mv 0 13 6] [0,1,13])
  (.cond (.t 13)
    (.seq (.reg [mc 0 4 (.int .i64 1)] [4])
    (.ret))
    (.skip)))
  (.seq (.seq (.reg [mv 0 14 0,mv 1 15 1,bi 2 16 .lss 14 15] [0,1,16])
  (.cond (.t 16)
    (.seq (.reg [mc 0 4 (.int .i64 (-1))] [4])
    (.ret))
    (.skip)))
  (.seq (.seq (.reg [mv 0 17 0,mv 1 18 1,bi 2 19 .gtr 17 18] [19])
  (.cond (.t 19)
    (.seq (.reg [mc 0 4 (.int .i64 1)] [4])
    (.ret))
    (.skip)))
  (.seq (.reg [mc 0 4 (.int .i64 0)] [4])
  (.ret))))))))
theorem is208 : FnIs Tryz.prog 208 20 m208 [.t 4] := .of Tryz.call208 Tryz.func208 (by kernel_rfl)
def m226k0 : MC :=
  .cond (.t 34)
    (.skip)
    (.exit 2)
def m226k1 : MC :=
  .seq (.block 3
    (.any (on1 (mv 0 37 0) <|
        on1 (mv 1 38 9) <|
        on1 (mv 2 39 0) <|
        on1 (mv 3 40 9) <|
        on1 (bc 4 41 .sub 40 (.int .i64 1)) <|
        on1 (mv 5 42 0) <|
        on1 (mv 6 43 9) <|
        on1 (bc 7 44 .sub 43 (.int .i64 1)) <|
        on1 (oo 8 45 (.iadr 3 (.t 42) (.t 44))) <|
        on1 (ld 9 46 3 true 45) <|
        on1 (mv 10 47 0) <|
        on1 (mv 11 48 9) <|
        on1 (oo 12 49 (.iadr 3 (.t 47) (.t 48))) <|
        on1 (ld 13 50 3 true 49) <|
        on1 (oo 14 51 (.iadr 3 (.t 37) (.t 38))) <|
        on1 ⟨15,none,none,.k (.store 3 (.t 51) (.t 46))⟩ <|
        on1 (oo 16 52 (.iadr 3 (.t 39) (.t 41))) <|
        on1 ⟨17,none,none,.k (.store 3 (.t 52) (.t 50))⟩ <|
        .done) [] [0,1,2,3,8,9]))
  (.reg [mv 0 35 9,bc 1 36 .sub 35 (.int .i64 1),mv 2 9 36] [0,1,2,3,8,9])
def m226l0 : MC :=
  .seq (.seq (.any (on1 (mv 0 18 9) <|
      on1 (mv 1 19 1) <|
      on1 (bi 2 20 .gtr 18 19) <|
      on1 (mv 3 21 20) <|
      on1 (gm 4 22 21 true 3) <|
      on1 (gm 5 23 21 true 0) <|
      on1 (gm 6 24 21 true 9) <|
      on1 (og 7 25 21 true (.iadr 3 (.t 23) (.t 24))) <|
      on1 (og 8 26 21 true (.load 3 true (.t 25))) <|
      on1 (gm 9 27 21 true 0) <|
      on1 (gm 10 28 21 true 9) <|
      on1 (og 11 29 21 true (.bin .sub (.t 28) (.c (.int .i64 1)))) <|
      on1 (og 12 30 21 true (.iadr 3 (.t 27) (.t 29))) <|
      on1 (og 13 31 21 true (.load 3 true (.t 30))) <|
      on1 ⟨14,some 32,(some (21,true)),.call (.t 22) [.t 26,.t 31]⟩ <|
      on1 (og 15 33 21 true (.bin .lss (.t 32) (.c (.int .i64 0)))) <|
      on1 (oo 16 34 (.pick (.t 21) (.t 33) (.c (.bool false)))) <|
      .done) [] [0,1,2,3,8,9,34])
  (.named [0,1,2,3,8,9,34] m226k0))
  (.named [0,1,2,3,8,9] m226k1)
def m226k2 : MC :=
  .reg [mv 0 15 8,bc 1 16 .add 15 (.int .i64 1),mv 2 8 16] [0,1,2,3,8]
def m226l1 : MC :=
  .seq (.seq (.reg [mv 0 12 8,mv 1 13 2,bi 2 14 .lss 12 13] [0,1,2,3,8,14])
  (.cond (.t 14)
    (.skip)
    (.exit 0)))
  (.seq (.block 1
    (.seq (.reg [mv 0 17 8,mv 1 9 17] [0,1,2,3,8,9])
    (.block 2
      (.loop m226l0))))
  (.named [0,1,2,3,8] m226k2))
def m226 : MC :=
  .seq (.reg [mv 0 10 1,bc 1 11 .add 10 (.int .i64 1),mv 2 8 11] [0,1,2,3,8])
  (.block 0
    (.loop m226l1))
theorem is226 : FnIs Tryz.prog 226 53 m226 [] := .of Tryz.call226 Tryz.func226 (by kernel_rfl)
def m235 : MC :=
  .seq (.reg [mc 0 2 (.bool false)] [0])
  (.seq (.reg [mv 0 3 0,mv 1 4 0,bi 2 5 .neq 3 4,mv 3 2 5] [2])
  (.ret))
theorem is235 : FnIs Tryz.prog 235 6 m235 [.t 2] := .of Tryz.call235 Tryz.func235 (by kernel_rfl)
end Go.Proofs.YtdjdhecanjmchaaGreatDoor
