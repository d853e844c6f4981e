/- The machine's code, by program. -/
import Derived.Test.YtmjlglnolgaekaaGreatDoorV02
import Derived.Test.YtmjlglnolgaekaaGreatDoorV01
import Derived.Laws.Append
import Derived.Laws.Sem
import Derived.Deep.AppendSrc
import Derived.Laws.Slices
import Derived.Laws.Strings
import Derived.Laws.Strings2
import Derived.Laws.Strings3
import Derived.Laws.Tables
import Derived.Laws.Small
set_option linter.unusedSimpArgs false
set_option linter.unusedVariables false
set_option maxRecDepth 100000
namespace Go.Vm
def v194_0 : VC :=
    (.seq
     (.region [.op (some 17) none (.bin 0 .lss (.t 16) (.t 15))] [0, 14, 15, 16, 17])
     (.seq
      (.cond (.t 17)
       .skip
       (.exit 0))
      (.seq
       (.block 1
        (.seq
         (.region [.op (some 18) none (.iad 1 (.t 14) (.t 16)),
           .op (some 19) none (.load none (.t 18)),
           .op (some 7) none (.mv (.t 19))] [0, 7, 14, 15, 16])
         (.seq
          (.region [.op (some 20) none (.mv (.t 0)),
            .op (some 21) none (.mv (.t 7)),
            .op (some 22) none (.call 221 [(false, (.t 20)), (false, (.t 21))] none),
            .op (some 8) none (.mv (.t 22))] [0, 8, 14, 15, 16])
          (.seq
           (.region [.op (some 23) none (.mv (.t 8)),
             .op (some 24) none (.bin 0 .neq (.t 23) (.c (.int .i64 0)))] [0, 8, 14, 15, 16, 24])
           (.cond (.t 24)
            (.seq
             (.region [.op (some 25) none (.mv (.t 8)),
               .op (some 4) none (.mv (.t 25))] [4])
             .ret)
            .skip)))))
       (.region [.op (some 26) none (.bin 0 .add (.t 16) (.c (.int .i64 1))),
         .op (some 16) none (.mv (.t 26))] [0, 14, 15, 16]))))
/-- schisma/size.CheckAll -/
def v194 : VFun where
  params := 2
  results := [.tmp 4]
  fin := []
  thr := false
  body :=
    (.seq
     (.region [.op (some 4) none (.mv (.c (.int .i64 0)))] [0, 1])
     (.seq
      (.seq
       (.region [.op (some 9) none (.mv (.t 0)),
         .op (some 10) none (.call 44 [(false, (.t 9))] none),
         .op (some 5) none (.mv (.t 10))] [0, 1, 5])
       (.seq
        (.region [.op (some 11) none (.mv (.t 5)),
          .op (some 12) none (.bin 0 .neq (.t 11) (.c (.int .i64 0)))] [0, 1, 5, 12])
        (.cond (.t 12)
         (.seq
          (.region [.op (some 13) none (.mv (.t 5)),
            .op (some 4) none (.mv (.t 13))] [4])
          .ret)
         .skip)))
      (.seq
       (.seq
        (.region [.op (some 14) none (.mv (.t 1)),
          .op (some 15) none (.len false (.t 14)),
          .op (some 16) none (.mv (.c (.int .i64 0)))] [0, 14, 15, 16])
        (.block 0
         (.loop v194_0)))
       (.seq
        (.region [.op (some 4) none (.mv (.c (.int .i64 0)))] [4])
        .ret))))

def v195_0 : VC :=
    (.seq
     (.region [.op (some 17) none (.bin 0 .lss (.t 16) (.t 15))] [0, 1, 4, 5, 14, 15, 16, 17])
     (.seq
      (.cond (.t 17)
       .skip
       (.exit 0))
      (.seq
       (.block 1
        (.seq
         (.region [.op (some 18) none (.iad 2 (.t 14) (.t 16)),
           .op (some 19) none (.load (some 2) (.t 18)),
           .op (some 7) none (.alloc [sI [], sI []] (some 102)),
           .op none none (.store 2 (.t 7) (.t 19))] [0, 1, 4, 5, 7, 14, 15, 16])
         (.region [.op (some 20) none (.fad 2 (.t 5)),
           .op (some 21) none (.load none (.t 20)),
           .op (some 22) none (.fad 1 (.t 7)),
           .op (some 23) none (.load none (.t 22)),
           .op (some 24) none (.call 222 [(false, (.t 21)), (false, (.t 23))] none),
           .op (some 25) none (.fad 2 (.t 5)),
           .op none none (.store 1 (.t 25) (.t 24))] [0, 1, 4, 5, 14, 15, 16])))
       (.region [.op (some 26) none (.bin 0 .add (.t 16) (.c (.int .i64 1))),
         .op (some 16) none (.mv (.t 26))] [0, 1, 4, 5, 14, 15, 16]))))
def v195_1 : VC :=
    (.seq
     (.region [.op (some 30) none (.bin 0 .lss (.t 29) (.t 28))] [0, 4, 5, 27, 28, 29, 30])
     (.seq
      (.cond (.t 30)
       .skip
       (.exit 2))
      (.seq
       (.block 3
        (.seq
         (.region [.op (some 31) none (.mv (.t 29)),
           .op (some 32) none (.iad 2 (.t 27) (.t 29)),
           .op (some 33) none (.load (some 2) (.t 32)),
           .op (some 9) none (.alloc [sI [], sI []] (some 103)),
           .op (some 8) none (.mv (.t 31)),
           .op none none (.store 2 (.t 9) (.t 33))] [0, 4, 5, 8, 9, 27, 28, 29])
         (.seq
          (.region [.op (some 34) none (.fad 0 (.t 9)),
            .op (some 35) none (.load none (.t 34)),
            .op (some 36) none (.bin 0 .neq (.t 35) (.c (sI [48])))] [0, 4, 5, 8, 9, 27, 28, 29, 36])
          (.cond (.t 36)
           (.seq
            (.region [.op (some 38) none (.fad 2 (.t 5)),
              .op (some 39) none (.load none (.t 38)),
              .op (some 40) none (.fad 1 (.t 9)),
              .op (some 41) none (.load none (.t 40)),
              .op (some 42) none (.call 112 [(false, (.t 39)), (false, (.t 41))] none),
              .op (some 37) none (.mv (.t 42)),
              .op (some 43) none (.ext (.t 37) 0),
              .op (some 44) none (.ext (.t 37) 1),
              .op (some 45) none (.ext (.t 37) 2),
              .op (some 10) none (.mv (.t 43)),
              .op (some 11) none (.mv (.t 44)),
              .op (some 12) none (.mv (.t 45))] [0, 4, 5, 8, 9, 10, 27, 28, 29])
            (.region [.op (some 46) none (.fadl 101 0 (.t 5)),
                     .op (some 47) none (.takel 101 0 110 (.t 46)),
                     .op (some 48) none (.mvi (.t 0)),
                     .op (some 49) none (.mvi (.t 8)),
                     .op (some 50) none (.iadi 1 (.t 48) (.t 49)),
                     .op (some 51) none (.loadi none (.t 50)),
                     .op (some 52) none (.bsli 1 1 [.int .i64 0] [(0, 1, (.t 51))]),
                     .op (some 53) none (.apl 110 1 8 (.t 47) (.t 52)),
                     .op (some 54) none (.fadl 101 1 (.t 5)),
                     .op (some 55) none (.takel 101 1 111 (.t 54)),
                     .op (some 56) none (.fadl 103 0 (.t 9)),
                     .op (some 57) none (.loadli 103 none (.t 56)),
                     .op (some 58) none (.mvi (.t 10)),
                     .op (some 59) none (.calli 95 [(false, (.t 57)), (false, (.t 58))]),
                     .op (some 60) none (.bsli 1 1 [sI []] [(0, 1, (.t 59))]),
                     .op (some 61) none (.apl 111 1 16 (.t 55) (.t 60)),
                     .op (some 62) none (.fadl 101 0 (.t 5)),
                     .op none none (.storel 101 1 (.t 62) (.t 53)),
                     .op (some 63) none (.fad 1 (.t 5)),
                     .op none none (.store 1 (.t 63) (.t 61))] [0, 4, 5, 27, 28, 29]))
           .skip))))
       (.region [.op (some 64) none (.bin 0 .add (.t 29) (.c (.int .i64 1))),
         .op (some 29) none (.mv (.t 64))] [0, 4, 5, 27, 28, 29]))))
/-- schisma/size.termsOf -/
def v195 : VFun where
  params := 2
  results := [.cell 4 (some 3)]
  fin := [.frzc 4 0, .frzc 4 1]
  thr := false
  body :=
    (.seq
     (.region [.op (some 4) none (.alloc [.nils 1, .nils 1, sI []] (some 100))] [0, 1, 4])
     (.seq
      (.region [.op (some 13) none (.build [.nils 1, .nils 1, sI []] [(2, 1, (.c (sI [49])))]),
        .op (some 5) none (.alloc [.nils 1, .nils 1, sI []] (some 101)),
        .op none none (.store 3 (.t 5) (.t 13))] [0, 1, 4, 5])
      (.seq
       (.seq
        (.region [.pre (.ownnil 5 0 1 (some 110)) (.pre (.ownnil 5 1 1 (some 111)) (.op (some 14) none (.mv (.t 1)))),
          .op (some 15) none (.len false (.t 14)),
          .op (some 16) none (.mv (.c (.int .i64 0)))] [0, 1, 4, 5, 14, 15, 16])
        (.block 0
         (.loop v195_0)))
       (.seq
        (.seq
         (.region [.op (some 27) none (.mv (.t 1)),
           .op (some 28) none (.len false (.t 27)),
           .op (some 29) none (.mv (.c (.int .i64 0)))] [0, 4, 5, 27, 28, 29])
         (.block 2
          (.loop v195_1)))
        (.seq
         (.region [.op (some 65) none (.load (some 3) (.t 5)),
           .op none none (.store 3 (.t 4) (.t 65))] [4])
         .ret)))))

def v196_0 : VC :=
    (.seq
     (.region [.op (some 15) none (.bin 0 .lss (.t 14) (.t 13))] [0, 1, 4, 6, 12, 13, 14, 15])
     (.seq
      (.cond (.t 15)
       .skip
       (.exit 0))
      (.seq
       (.block 1
        (.seq
         (.region [.op (some 16) none (.mv (.t 14)),
           .op (some 17) none (.iad 2 (.t 12) (.t 14)),
           .op (some 18) none (.load (some 2) (.t 17)),
           .op (some 8) none (.alloc [sI [], sI []] (some 102)),
           .op (some 7) none (.mv (.t 16)),
           .op none none (.store 2 (.t 8) (.t 18))] [0, 1, 4, 6, 7, 8, 12, 13, 14])
         (.seq
          (.region [.op (some 19) none (.fad 0 (.t 8)),
            .op (some 20) none (.load none (.t 19)),
            .op (some 21) none (.bin 0 .neq (.t 20) (.c (sI [48])))] [0, 1, 4, 6, 7, 8, 12, 13, 14, 21])
          (.cond (.t 21)
           (.region [.op (some 23) none (.mv (.t 0)),
             .op (some 24) none (.mv (.t 7)),
             .op (some 25) none (.iad 2 (.t 23) (.t 24)),
             .op (some 26) none (.load (some 2) (.t 25)),
             .op (some 27) none (.loadl 102 (some 2) (.t 8)),
             .op (some 28) none (.call 224 [(false, (.t 26)), (false, (.t 27))] none),
             .op (some 22) none (.mv (.t 28)),
             .op (some 29) none (.ext (.t 22) 0),
             .op (some 30) none (.ext (.t 22) 1),
             .op none none (.storel 101 2 (.t 6) (.t 29))] [0, 1, 4, 6, 12, 13, 14])
           .skip))))
       (.region [.op (some 31) none (.bin 0 .add (.t 14) (.c (.int .i64 1))),
         .op (some 14) none (.mv (.t 31))] [0, 1, 4, 6, 12, 13, 14]))))
def v196_1 : VC :=
    (.seq
     (.region [.op (some 35) none (.bin 0 .lss (.t 34) (.t 33))] [0, 4, 6, 32, 33, 34, 35])
     (.seq
      (.cond (.t 35)
       .skip
       (.exit 2))
      (.seq
       (.block 3
        (.seq
         (.region [.op (some 36) none (.mv (.t 34)),
           .op (some 37) none (.iad 2 (.t 32) (.t 34)),
           .op (some 38) none (.load (some 2) (.t 37)),
           .op (some 10) none (.alloc [sI [], sI []] (some 103)),
           .op (some 9) none (.mv (.t 36)),
           .op none none (.store 2 (.t 10) (.t 38))] [0, 4, 6, 9, 10, 32, 33, 34])
         (.seq
          (.region [.op (some 39) none (.loadl 101 (some 2) (.t 6)),
            .op (some 40) none (.loadl 103 (some 2) (.t 10)),
            .op (some 41) none (.call 225 [(false, (.t 39)), (false, (.t 40))] none),
            .op (some 42) none (.mv (.t 0)),
            .op (some 43) none (.mv (.t 9)),
            .op (some 44) none (.iad 2 (.t 42) (.t 43)),
            .op (some 45) none (.load (some 2) (.t 44)),
            .op (some 46) none (.eqs true 2 (.t 41) (.t 45))] [0, 4, 6, 32, 33, 34, 46])
          (.cond (.t 46)
           (.seq
            (.region [.op (some 47) none (.load (some 2) (.t 6)),
              .op none none (.store 2 (.t 4) (.t 47)),
              .op (some 5) none (.mv (.c (.bool false)))] [4, 5])
            .ret)
           .skip))))
       (.region [.op (some 48) none (.bin 0 .add (.t 34) (.c (.int .i64 1))),
         .op (some 34) none (.mv (.t 48))] [0, 4, 6, 32, 33, 34]))))
/-- schisma/size.ratio -/
def v196 : VFun where
  params := 2
  results := [.cell 4 (some 2), .tmp 5]
  fin := []
  thr := false
  body :=
    (.seq
     (.region [.op (some 4) none (.alloc [sI [], sI []] (some 100)),
       .op (some 5) none (.mv (.c (.bool false)))] [0, 1, 4])
     (.seq
      (.region [.op (some 11) none (.call 223 [(false, (.c (.int .i64 0)))] none),
        .op (some 6) none (.alloc [sI [], sI []] (some 101)),
        .op none none (.store 2 (.t 6) (.t 11))] [0, 1, 4, 6])
      (.seq
       (.seq
        (.region [.op (some 12) none (.mv (.t 1)),
          .op (some 13) none (.len false (.t 12)),
          .op (some 14) none (.mv (.c (.int .i64 0)))] [0, 1, 4, 6, 12, 13, 14])
        (.block 0
         (.loop v196_0)))
       (.seq
        (.seq
         (.region [.op (some 32) none (.mv (.t 1)),
           .op (some 33) none (.len false (.t 32)),
           .op (some 34) none (.mv (.c (.int .i64 0)))] [0, 4, 6, 32, 33, 34])
         (.block 2
          (.loop v196_1)))
        (.seq
         (.region [.op (some 49) none (.load (some 2) (.t 6)),
           .op none none (.store 2 (.t 4) (.t 49)),
           .op (some 5) none (.mv (.c (.bool true)))] [4, 5])
         .ret)))))

/-- schisma/fraction.Floor -/
def v197 : VFun where
  params := 1
  results := [.tmp 2]
  fin := []
  thr := false
  body :=
    (.seq
     (.region [.op (some 1) none (.boxi (.t 0)),
       .op (some 2) none (.mv (.c (sI [])))] [1])
     (.seq
      (.region [.op (some 7) none (.fadi 0 (.t 1)),
        .op (some 8) none (.loadi none (.t 7)),
        .op (some 9) none (.fadi 1 (.t 1)),
        .op (some 10) none (.loadi none (.t 9)),
        .op (some 11) none (.call 112 [(false, (.t 8)), (false, (.t 10))] none),
        .op (some 6) none (.mv (.t 11)),
        .op (some 12) none (.ext (.t 6) 0),
        .op (some 13) none (.ext (.t 6) 1),
        .op (some 14) none (.ext (.t 6) 2),
        .op (some 3) none (.mv (.t 12)),
        .op (some 4) none (.mv (.t 13)),
        .op (some 5) none (.mv (.t 14))] [3])
      (.seq
       (.region [.op (some 15) none (.mv (.t 3)),
         .op (some 2) none (.mv (.t 15))] [2])
       .ret)))

/-- schisma/size.quotient -/
def v198 : VFun where
  params := 2
  results := [.tmp 4, .tmp 5]
  fin := []
  thr := false
  body :=
    (.seq
     (.region [.op (some 2) none (.boxi (.t 0)),
       .op (some 3) none (.boxi (.t 1)),
       .op (some 4) none (.mv (.c (.int .i64 0))),
       .op (some 5) none (.mv (.c (.bool false)))] [2, 3])
     (.seq
      (.region [.op (some 21) none (.loadi (some 3) (.t 2)),
        .op (some 22) none (.call 226 [(false, (.t 21)), (false, (.c (.int .i64 100000)))] none),
        .op (some 20) none (.mv (.t 22)),
        .op (some 23) none (.ext (.t 20) 0),
        .op (some 24) none (.ext (.t 20) 1),
        .op (some 25) none (.ext (.t 20) 2),
        .op (some 6) none (.mv (.t 23)),
        .op (some 7) none (.mv (.t 24)),
        .op (some 8) none (.mv (.t 25))] [2, 3, 6, 7, 8])
      (.seq
       (.region [.op (some 27) none (.loadi (some 3) (.t 3)),
         .op (some 28) none (.call 226 [(false, (.t 27)), (false, (.c (.int .i64 100000)))] none),
         .op (some 26) none (.mv (.t 28)),
         .op (some 29) none (.ext (.t 26) 0),
         .op (some 30) none (.ext (.t 26) 1),
         .op (some 31) none (.ext (.t 26) 2),
         .op (some 9) none (.mv (.t 29)),
         .op (some 10) none (.mv (.t 30)),
         .op (some 11) none (.mv (.t 31))] [2, 3, 6, 7, 8, 9, 10, 11])
       (.seq
        (.region [.op (some 33) none (.fadi 2 (.t 2)),
          .op (some 34) none (.loadi none (.t 33)),
          .op (some 35) none (.call 116 [(false, (.t 34))] none),
          .op (some 32) none (.mv (.t 35)),
          .op (some 36) none (.ext (.t 32) 0),
          .op (some 37) none (.ext (.t 32) 1),
          .op (some 12) none (.mv (.t 36)),
          .op (some 13) none (.mv (.t 37))] [3, 6, 7, 8, 9, 10, 11, 12, 13])
        (.seq
         (.region [.op (some 39) none (.fadi 2 (.t 3)),
           .op (some 40) none (.loadi none (.t 39)),
           .op (some 41) none (.call 116 [(false, (.t 40))] none),
           .op (some 38) none (.mv (.t 41)),
           .op (some 42) none (.ext (.t 38) 0),
           .op (some 43) none (.ext (.t 38) 1),
           .op (some 14) none (.mv (.t 42)),
           .op (some 15) none (.mv (.t 43))] [6, 7, 8, 9, 10, 11, 12, 13, 14, 15])
         (.seq
          (.seq
           (.region [.op (some 44) none (.mv (.t 8)),
             .op (some 45) none (.un .not (.t 44)),
             .op (some 46) none (.mv (.t 45)),
             .op (some 47) (some (46, false)) (.mv (.t 11)),
             .op (some 48) (some (46, false)) (.un .not (.t 47)),
             .op (some 49) none (.pick (.t 46) (.c (.bool true)) (.t 48)),
             .op (some 50) none (.mv (.t 49)),
             .op (some 51) (some (50, false)) (.mv (.t 13)),
             .op (some 52) (some (50, false)) (.un .not (.t 51)),
             .op (some 53) none (.pick (.t 50) (.c (.bool true)) (.t 52)),
             .op (some 54) none (.mv (.t 53)),
             .op (some 55) (some (54, false)) (.mv (.t 15)),
             .op (some 56) (some (54, false)) (.un .not (.t 55)),
             .op (some 57) none (.pick (.t 54) (.c (.bool true)) (.t 56)),
             .op (some 58) none (.mv (.t 57)),
             .op (some 59) (some (58, false)) (.mv (.t 12)),
             .op (some 60) (some (58, false)) (.bin 0 .gtr (.t 59) (.c (.int .i64 10000))),
             .op (some 61) none (.pick (.t 58) (.c (.bool true)) (.t 60)),
             .op (some 62) none (.mv (.t 61)),
             .op (some 63) (some (62, false)) (.mv (.t 14)),
             .op (some 64) (some (62, false)) (.bin 0 .gtr (.t 63) (.c (.int .i64 10000))),
             .op (some 65) none (.pick (.t 62) (.c (.bool true)) (.t 64))] [6, 7, 9, 10, 12, 14, 65])
           (.cond (.t 65)
            (.seq
             (.region [.op (some 4) none (.mv (.c (.int .i64 0))),
               .op (some 5) none (.mv (.c (.bool false)))] [4, 5])
             .ret)
            .skip))
          (.seq
           (.seq
            (.region [.op (some 66) none (.mv (.t 10)),
              .op (some 67) none (.bin 0 .leq (.t 66) (.c (.int .i64 0)))] [6, 7, 9, 10, 12, 14, 67])
            (.cond (.t 67)
             (.region [.op (some 68) none (.mv (.t 7)),
               .op (some 69) none (.un .neg (.t 68)),
               .op (some 70) none (.mv (.t 6)),
               .op (some 71) none (.un .neg (.t 70)),
               .op (some 72) none (.mv (.t 10)),
               .op (some 73) none (.un .neg (.t 72)),
               .op (some 74) none (.mv (.t 9)),
               .op (some 75) none (.un .neg (.t 74)),
               .op (some 6) none (.mv (.t 69)),
               .op (some 7) none (.mv (.t 71)),
               .op (some 9) none (.mv (.t 73)),
               .op (some 10) none (.mv (.t 75))] [6, 7, 9, 10, 12, 14])
             .skip))
           (.seq
            (.seq
             (.region [.op (some 76) none (.mv (.t 9)),
               .op (some 77) none (.bin 0 .leq (.t 76) (.c (.int .i64 0)))] [6, 7, 9, 10, 12, 14, 77])
             (.cond (.t 77)
              (.seq
               (.region [.op (some 4) none (.mv (.c (.int .i64 0))),
                 .op (some 5) none (.mv (.c (.bool false)))] [4, 5])
               .ret)
              .skip))
            (.seq
             (.region [.op (some 78) none (.mv (.t 10)),
               .op (some 79) none (.mv (.t 9)),
               .op (some 16) none (.mv (.t 78)),
               .op (some 17) none (.mv (.t 79))] [6, 7, 9, 10, 12, 14, 16, 17])
             (.seq
              (.seq
               (.region [.op (some 80) none (.mv (.t 6)),
                 .op (some 81) none (.bin 0 .lss (.t 80) (.c (.int .i64 0)))] [6, 7, 9, 10, 12, 14, 16, 17, 81])
               (.cond (.t 81)
                (.region [.op (some 82) none (.mv (.t 9)),
                  .op (some 16) none (.mv (.t 82))] [6, 7, 10, 12, 14, 16, 17])
                .skip))
              (.seq
               (.seq
                (.region [.op (some 83) none (.mv (.t 7)),
                  .op (some 84) none (.bin 0 .lss (.t 83) (.c (.int .i64 0)))] [6, 7, 10, 12, 14, 16, 17, 84])
                (.cond (.t 84)
                 (.region [.op (some 85) none (.mv (.t 10)),
                   .op (some 17) none (.mv (.t 85))] [6, 7, 12, 14, 16, 17])
                 .skip))
               (.seq
                (.region [.op (some 86) none (.mv (.t 6)),
                  .op (some 87) none (.mv (.t 14)),
                  .op (some 88) none (.bin 0 .mul (.t 86) (.t 87)),
                  .op (some 89) none (.mv (.t 16)),
                  .op (some 90) none (.mv (.t 12)),
                  .op (some 91) none (.bin 0 .mul (.t 89) (.t 90)),
                  .op (some 92) none (.call 227 [(false, (.t 88)), (false, (.t 91))] none),
                  .op (some 93) none (.mv (.t 7)),
                  .op (some 94) none (.mv (.t 14)),
                  .op (some 95) none (.bin 0 .mul (.t 93) (.t 94)),
                  .op (some 96) none (.mv (.t 17)),
                  .op (some 97) none (.mv (.t 12)),
                  .op (some 98) none (.bin 0 .mul (.t 96) (.t 97)),
                  .op (some 99) none (.call 227 [(false, (.t 95)), (false, (.t 98))] none),
                  .op (some 18) none (.mv (.t 92)),
                  .op (some 19) none (.mv (.t 99))] [18, 19])
                (.seq
                 (.region [.op (some 100) none (.mv (.t 18)),
                   .op (some 101) none (.mv (.t 18)),
                   .op (some 102) none (.mv (.t 19)),
                   .op (some 103) none (.bin 0 .eql (.t 101) (.t 102)),
                   .op (some 4) none (.mv (.t 100)),
                   .op (some 5) none (.mv (.t 103))] [4, 5])
                 .ret)))))))))))))

def v199_0a : VC :=
    (.seq
     (.region [.op (some 6) none (.mv (.t 12))] [3, 4, 5, 6, 13])
     (.region [.op (some 7) none (.mv (.t 13))] [3, 4, 5, 6, 7]))
def v199_0 : VC :=
    (.block 1
     (.seq
      (.region [.op (some 14) none (.mv (.t 6)),
        .op (some 15) none (.loadi none (.t 3)),
        .op (some 16) none (.call 229 [(false, (.t 14)), (false, (.t 15))] none),
        .op (some 8) none (.mv (.t 16))] [4, 5, 6, 7, 8])
      (.seq
       (.region [.op (some 17) none (.mv (.t 8)),
         .op (some 9) none (.mv (.t 17))] [4, 5, 6, 7, 8, 9])
       (.seq
        (.seq
         (.region [.op (some 18) none (.mv (.t 6)),
           .op (some 19) none (.bin 0 .neq (.t 18) (.c (.int .i64 2)))] [4, 5, 7, 8, 9, 19])
         (.cond (.t 19)
          (.region [.op (some 20) none (.mv (.t 8)),
            .op (some 21) none (.call 94 [(false, (.t 20)), (false, (.c (sI [49])))] none),
            .op (some 9) none (.mv (.t 21))] [4, 5, 7, 8, 9])
          .skip))
        (.seq
         (.region [.op (some 22) none (.mv (.t 8)),
           .op (some 23) none (.mv (.t 7)),
           .op (some 24) none (.call 95 [(false, (.t 22)), (false, (.t 23))] none),
           .op (some 25) none (.mv (.t 9)),
           .op (some 26) none (.mv (.t 7)),
           .op (some 27) none (.call 95 [(false, (.t 25)), (false, (.t 26))] none),
           .op (some 8) none (.mv (.t 24)),
           .op (some 9) none (.mv (.t 27))] [4, 5, 7, 8, 9])
         (.seq
          (.seq
           (.region [.op (some 28) none (.mv (.t 7)),
             .op (some 29) none (.call 139 [(false, (.t 28))] none),
             .op (some 30) none (.bin 0 .lss (.t 29) (.c (.int .i64 0)))] [4, 5, 8, 9, 30])
           (.cond (.t 30)
            (.region [.op (some 31) none (.mv (.t 9)),
              .op (some 32) none (.mv (.t 8)),
              .op (some 8) none (.mv (.t 31)),
              .op (some 9) none (.mv (.t 32))] [4, 5, 8, 9])
            .skip))
          (.region [.op (some 33) none (.loadl 100 none (.t 4)),
            .op (some 34) none (.mv (.t 8)),
            .op (some 35) none (.call 94 [(false, (.t 33)), (false, (.t 34))] none),
            .op (some 36) none (.loadl 101 none (.t 5)),
            .op (some 37) none (.mv (.t 9)),
            .op (some 38) none (.call 94 [(false, (.t 36)), (false, (.t 37))] none),
            .op none none (.storel 100 1 (.t 4) (.t 35)),
            .op none none (.storel 101 1 (.t 5) (.t 38))] [])))))))
/-- (schisma/size.terms).ends -/
def v199 : VFun where
  params := 2
  results := [.cell 4 none, .cell 5 none]
  fin := []
  thr := false
  body :=
    (.seq
     (.region [.op (some 2) none (.boxi (.t 0)),
       .op (some 3) none (.boxi (.t 1)),
       .op (some 4) none (.alloc [sI []] (some 100)),
       .op (some 5) none (.alloc [sI []] (some 101))] [2, 3, 4, 5])
     (.seq
      (.region [.op none none (.store 1 (.t 4) (.c (sI [48]))),
        .op none none (.store 1 (.t 5) (.c (sI [48])))] [2, 3, 4, 5])
      (.seq
       (.seq
        (.region [.op (some 10) none (.loadi (some 3) (.t 2)),
          .op (some 11) none (.call 228 [(false, (.t 10))] none)] [3, 4, 5, 11])
        (.block 0
         (.rangef (.t 11) [12, 13] v199_0a v199_0)))
       (.seq
        (.region [.op (some 39) none (.loadl 100 none (.t 4)),
          .op (some 40) none (.loadl 101 none (.t 5)),
          .op none none (.storel 100 1 (.t 4) (.t 39)),
          .op none none (.storel 101 1 (.t 5) (.t 40))] [4, 5])
        .ret))))

/-- schisma/decimal.Small -/
def v203 : VFun where
  params := 1
  results := [.tmp 2, .tmp 3]
  fin := []
  thr := false
  body :=
    (.seq
     (.region [.op (some 2) none (.mv (.c (.int .u64 0))),
       .op (some 3) none (.mv (.c (.bool false)))] [0])
     (.seq
      (.region [.op (some 7) none (.mv (.t 0)),
        .op (some 8) none (.call 230 [(false, (.t 7)), (false, (.c (.int .i64 10))), (false, (.c (.int .i64 64)))] none),
        .op (some 6) none (.mv (.t 8)),
        .op (some 9) none (.ext (.t 6) 0),
        .op (some 10) none (.ext (.t 6) 1),
        .op (some 4) none (.mv (.t 9)),
        .op (some 5) none (.mv (.t 10))] [4, 5])
      (.seq
       (.seq
        (.region [.op (some 11) none (.mv (.t 5)),
          .op (some 12) none (.bin 2 .neq (.t 11) (.c (.nilifc)))] [4, 12])
        (.cond (.t 12)
         (.seq
          (.region [.op (some 2) none (.mv (.c (.int .u64 0))),
            .op (some 3) none (.mv (.c (.bool false)))] [2, 3])
          .ret)
         .skip))
       (.seq
        (.region [.op (some 13) none (.mv (.t 4)),
          .op (some 2) none (.mv (.t 13)),
          .op (some 3) none (.mv (.c (.bool true)))] [2, 3])
        .ret))))

/-- strconv.FormatUint -/
def v204 : VFun where
  params := 2
  results := [.tmp 4]
  fin := []
  thr := false
  body :=
    (.seq
     (.region [.op (some 4) none (.mv (.c (sI [])))] [0, 1])
     (.seq
      (.region [.op (some 5) none (.mv (.t 0)),
        .op (some 6) none (.mv (.t 1)),
        .op (some 7) none (.call 231 [(false, (.t 5)), (false, (.t 6))] none),
        .op (some 4) none (.mv (.t 7))] [4])
      .ret))

def v205_0 : VC :=
    (.seq
     (.seq
      (.region [.op (some 7) none (.mv (.t 2)),
        .op (some 8) none (.mv (.t 3)),
        .op (some 9) none (.bin 0 .lss (.t 7) (.t 8))] [0, 2, 3, 9])
      (.cond (.t 9)
       .skip
       (.exit 0)))
     (.seq
      (.block 1
       (.region [.op (some 14) none (.mv (.t 0)),
         .op (some 15) none (.mv (.t 2)),
         .op (some 16) none (.mv (.t 0)),
         .op (some 17) none (.mv (.t 3)),
         .op (some 18) none (.mv (.t 0)),
         .op (some 19) none (.mv (.t 3)),
         .op (some 20) none (.iad 1 (.t 18) (.t 19)),
         .op (some 21) none (.load none (.t 20)),
         .op (some 22) none (.mv (.t 0)),
         .op (some 23) none (.mv (.t 2)),
         .op (some 24) none (.iad 1 (.t 22) (.t 23)),
         .op (some 25) none (.load none (.t 24)),
         .op (some 26) none (.iad 1 (.t 14) (.t 15)),
         .op none none (.store 1 (.t 26) (.t 21)),
         .op (some 27) none (.iad 1 (.t 16) (.t 17)),
         .op none none (.store 1 (.t 27) (.t 25))] [0, 2, 3]))
      (.region [.op (some 10) none (.mv (.t 2)),
        .op (some 11) none (.bin 0 .add (.t 10) (.c (.int .i64 1))),
        .op (some 12) none (.mv (.t 3)),
        .op (some 13) none (.bin 0 .sub (.t 12) (.c (.int .i64 1))),
        .op (some 2) none (.mv (.t 11)),
        .op (some 3) none (.mv (.t 13))] [0, 2, 3])))
/-- slices.Reverse[[]byte,byte] -/
def v205 : VFun where
  params := 1
  results := []
  fin := []
  thr := false
  body :=
    (.seq
     (.region [.op (some 4) none (.mv (.t 0)),
       .op (some 5) none (.len false (.t 4)),
       .op (some 6) none (.bin 0 .sub (.t 5) (.c (.int .i64 1))),
       .op (some 2) none (.mv (.c (.int .i64 0))),
       .op (some 3) none (.mv (.t 6))] [0, 2, 3])
     (.block 0
      (.loop v205_0)))

/-- schisma/hermite.pivot$1 -/
def v206 : VFun where
  params := 1
  results := [.tmp 2]
  fin := []
  thr := false
  body :=
    (.seq
     (.region [.op (some 2) none (.mv (.c (.bool false)))] [0])
     (.seq
      (.region [.op (some 3) none (.mv (.t 0)),
        .op (some 4) none (.bin 0 .neq (.t 3) (.c (.int .i64 0))),
        .op (some 2) none (.mv (.t 4))] [2])
      .ret))

def v207_0 : VC :=
    (.seq
     (.region [.op (some 9) none (.bin 0 .lss (.t 8) (.t 7))] [0, 1, 7, 8, 9])
     (.seq
      (.cond (.t 9)
       .skip
       (.exit 0))
      (.seq
       (.block 1
        (.seq
         (.region [.op (some 10) none (.mv (.t 8)),
           .op (some 5) none (.mv (.t 10))] [0, 1, 5, 7, 8])
         (.seq
          (.region [.op (some 11) none (.mv (.t 1)),
            .op (some 12) none (.mv (.t 0)),
            .op (some 13) none (.mv (.t 5)),
            .op (some 14) none (.iad 1 (.t 12) (.t 13)),
            .op (some 15) none (.load none (.t 14)),
            .op (some 16) none (.callv (.t 11) [(false, (.t 15))] none)] [0, 1, 5, 7, 8, 16])
          (.cond (.t 16)
           (.seq
            (.region [.op (some 17) none (.mv (.t 5)),
              .op (some 4) none (.mv (.t 17))] [4])
            .ret)
           .skip))))
       (.region [.op (some 18) none (.bin 0 .add (.t 8) (.c (.int .i64 1))),
         .op (some 8) none (.mv (.t 18))] [0, 1, 7, 8]))))
/-- slices.IndexFunc[schisma/api.Matrix,schisma/api.Row] -/
def v207 : VFun where
  params := 2
  results := [.tmp 4]
  fin := []
  thr := false
  body :=
    (.seq
     (.region [.op (some 4) none (.mv (.c (.int .i64 0)))] [0, 1])
     (.seq
      (.seq
       (.region [.op (some 6) none (.mv (.t 0)),
         .op (some 7) none (.len false (.t 6)),
         .op (some 8) none (.mv (.c (.int .i64 0)))] [0, 1, 7, 8])
       (.block 0
        (.loop v207_0)))
      (.seq
       (.region [.op (some 4) none (.mv (.c (.int .i64 (-1))))] [4])
       .ret)))

def v208_0 : VC :=
    (.seq
     (.seq
      (.region [.op (some 34) none (.mv (.t 8)),
        .op (some 35) none (.mv (.t 7)),
        .op (some 36) none (.len false (.t 35)),
        .op (some 37) none (.bin 0 .lss (.t 34) (.t 36))] [7, 8, 37])
      (.cond (.t 37)
       .skip
       (.exit 0)))
     (.block 1
      (.region [.op (some 38) none (.mv (.t 8)),
        .op (some 39) none (.mv (.t 7)),
        .op (some 40) none (.mv (.t 8)),
        .op (some 41) none (.slice 1 (.t 39) (some (.t 40)) none none),
        .op (some 42) none (.mv (.t 7)),
        .op (some 43) none (.mv (.t 8)),
        .op (some 44) none (.slice 1 (.t 42) none (some (.t 43)) none),
        .op (some 45) none (.copy (.t 41) (.t 44)),
        .op (some 46) none (.bin 0 .add (.t 38) (.t 45)),
        .op (some 8) none (.mv (.t 46))] [7, 8])))
/-- slices.Repeat[[]schisma/api.Int,schisma/api.Int] -/
def v208 : VFun where
  params := 2
  results := [.tmp 4]
  fin := []
  thr := false
  body :=
    (.seq
     (.region [.op (some 4) none (.nil 1 (some 100))] [0, 1])
     (.seq
      (.seq
       (.region [.op (some 9) none (.mv (.t 1)),
         .op (some 10) none (.bin 0 .lss (.t 9) (.c (.int .i64 0)))] [0, 1, 10])
       (.cond (.t 10)
        .die
        .skip))
      (.seq
       (.region [.op (some 13) none (.mv (.t 0)),
         .op (some 14) none (.len false (.t 13)),
         .op (some 15) none (.cint .u64 (.t 14)),
         .op (some 16) none (.mv (.t 1)),
         .op (some 17) none (.cint .u64 (.t 16)),
         .op (some 18) none (.call 232 [(false, (.t 15)), (false, (.t 17))] none),
         .op (some 12) none (.mv (.t 18)),
         .op (some 19) none (.ext (.t 12) 0),
         .op (some 20) none (.ext (.t 12) 1),
         .op (some 5) none (.mv (.t 19)),
         .op (some 6) none (.mv (.t 20))] [0, 5, 6])
       (.seq
        (.seq
         (.region [.op (some 21) none (.mv (.t 5)),
           .op (some 22) none (.bin 0 .gtr (.t 21) (.c (.int .u64 0))),
           .op (some 23) none (.mv (.t 22)),
           .op (some 24) (some (23, false)) (.mv (.t 6)),
           .op (some 25) (some (23, false)) (.bin 0 .gtr (.t 24) (.c (.int .u64 9223372036854775807))),
           .op (some 26) none (.pick (.t 23) (.c (.bool true)) (.t 25))] [0, 6, 26])
         (.cond (.t 26)
          .die
          .skip))
        (.seq
         (.region [.op (some 28) none (.mv (.t 6)),
           .op (some 29) none (.cint .i64 (.t 28)),
           .op (some 30) none (.mks 1 16 [sI []] (.t 29) (.t 29) (some 101)),
           .op (some 7) none (.mv (.t 30))] [0, 7])
         (.seq
          (.region [.op (some 31) none (.mv (.t 7)),
            .op (some 32) none (.mv (.t 0)),
            .op (some 33) none (.copy (.t 31) (.t 32)),
            .op (some 8) none (.mv (.t 33))] [7, 8])
          (.seq
           (.block 0
            (.loop v208_0))
           (.seq
            (.region [.op (some 47) none (.mv (.t 7)),
              .op (some 4) none (.mv (.t 47))] [4])
            .ret))))))))

def v209_0 : VC :=
    (.seq
     (.region [.op (some 10) none (.bin 0 .lss (.t 9) (.t 8))] [0, 2, 7, 8, 9, 10])
     (.seq
      (.cond (.t 10)
       .skip
       (.exit 0))
      (.seq
       (.block 1
        (.seq
         (.region [.op (some 11) none (.mv (.t 9)),
           .op (some 12) none (.iad 1 (.t 7) (.t 9)),
           .op (some 13) none (.load none (.t 12)),
           .op (some 5) none (.mv (.t 11)),
           .op (some 6) none (.mv (.t 13))] [0, 2, 5, 6, 7, 8, 9])
         (.seq
          (.region [.op (some 14) none (.mv (.t 6)),
            .op (some 15) none (.bin 0 .neq (.t 14) (.c (sI [48])))] [0, 2, 5, 6, 7, 8, 9, 15])
          (.cond (.t 15)
           (.region [.op (some 16) none (.mv (.t 0)),
             .op (some 17) none (.mv (.t 5)),
             .op (some 18) none (.mv (.t 0)),
             .op (some 19) none (.mv (.t 5)),
             .op (some 20) none (.iad 1 (.t 18) (.t 19)),
             .op (some 21) none (.load none (.t 20)),
             .op (some 22) none (.load none (.t 2)),
             .op (some 23) none (.mv (.t 6)),
             .op (some 24) none (.call 95 [(false, (.t 22)), (false, (.t 23))] none),
             .op (some 25) none (.call 156 [(false, (.t 21)), (false, (.t 24))] none),
             .op (some 26) none (.iad 1 (.t 16) (.t 17)),
             .op none none (.store 1 (.t 26) (.t 25))] [0, 2, 7, 8, 9])
           .skip))))
       (.region [.op (some 27) none (.bin 0 .add (.t 9) (.c (.int .i64 1))),
         .op (some 9) none (.mv (.t 27))] [0, 2, 7, 8, 9]))))
/-- (schisma/hermite.line).less$1 -/
def v209 : VFun where
  params := 3
  results := []
  fin := []
  thr := true
  body :=
    (.seq
     (.region [.op (some 7) none (.mv (.t 1)),
       .op (some 8) none (.len false (.t 7)),
       .op (some 9) none (.mv (.c (.int .i64 0)))] [0, 2, 7, 8, 9])
     (.block 0
      (.loop v209_0)))

/-- (schisma/decimal.pieces).scaled -/
def v210 : VFun where
  params := 2
  results := [.tmp 4]
  fin := []
  thr := false
  body :=
    (.seq
     (.region [.op (some 4) none (.nil 1 (some 100))] [0, 1])
     (.seq
      (.region [.op (some 5) none (.mv (.t 0)),
        .op (some 6) none (.mv (.t 1)),
        .op (some 7) none (.bsl 1 1 [.int .u64 0] [(0, 1, (.t 6))] (some 101)),
        .op (some 8) none (.call 175 [(true, (.t 7))] (some (some 102))),
        .pre (.frz 5) (.pre (.frz 8) (.op (some 9) none (.call 178 [(false, (.t 5)), (false, (.t 8))] (some (some 103))))),
        .op (some 4) none (.mv (.t 9))] [4])
      .ret))

/-- strconv.syntaxError -/
def v212 : VFun where
  params := 2
  results := [.tmp 4]
  fin := []
  thr := false
  body :=
    (.seq
     (.region [.op (some 4) none (.mv (.c (.nilp)))] [0, 1])
     (.seq
      .die
      .ret))

/-- strconv.rangeError -/
def v213 : VFun where
  params := 2
  results := [.tmp 4]
  fin := []
  thr := false
  body :=
    (.seq
     (.region [.op (some 4) none (.mv (.c (.nilp)))] [0, 1])
     (.seq
      .die
      .ret))

/-- strconv.baseError -/
def v214 : VFun where
  params := 3
  results := [.tmp 6]
  fin := []
  thr := false
  body :=
    (.seq
     (.region [.op (some 6) none (.mv (.c (.nilp)))] [0, 1, 2])
     (.seq
      (.region [.op (some 7) none (.mv (.t 0)),
        .op (some 8) none (.mv (.t 1)),
        .op (some 9) none (.call 235 [(false, (.t 8))] none),
        .op (some 10) none (.mv (.t 2)),
        .op (some 11) none (.call 127 [(false, (.t 10))] none),
        .op (some 12) none (.bin 0 .add (.c (sI [105, 110, 118, 97, 108, 105, 100, 32, 98, 97, 115, 101, 32])) (.t 11)),
        .op (some 13) none (.call 236 [(false, (.t 12))] none),
        .op (some 14) none (.build [sI [], sI [], .nilifc] [(0, 1, (.t 7)), (1, 1, (.t 9)), (2, 1, (.t 13))]),
        .op (some 15) none (.box (.t 14) (some 100)),
        .op (some 6) none (.mv (.t 15))] [6])
      .ret))

/-- strconv.bitSizeError -/
def v215 : VFun where
  params := 3
  results := [.tmp 6]
  fin := []
  thr := false
  body :=
    (.seq
     (.region [.op (some 6) none (.mv (.c (.nilp)))] [0, 1, 2])
     (.seq
      (.region [.op (some 7) none (.mv (.t 0)),
        .op (some 8) none (.mv (.t 1)),
        .op (some 9) none (.call 235 [(false, (.t 8))] none),
        .op (some 10) none (.mv (.t 2)),
        .op (some 11) none (.call 127 [(false, (.t 10))] none),
        .op (some 12) none (.bin 0 .add (.c (sI [105, 110, 118, 97, 108, 105, 100, 32, 98, 105, 116, 32, 115, 105, 122, 101, 32])) (.t 11)),
        .op (some 13) none (.call 236 [(false, (.t 12))] none),
        .op (some 14) none (.build [sI [], sI [], .nilifc] [(0, 1, (.t 7)), (1, 1, (.t 9)), (2, 1, (.t 13))]),
        .op (some 15) none (.box (.t 14) (some 100)),
        .op (some 6) none (.mv (.t 15))] [6])
      .ret))

/-- internal/strconv.small -/
def v216 : VFun where
  params := 1
  results := [.tmp 2]
  fin := []
  thr := false
  body :=
    (.seq
     (.region [.op (some 2) none (.mv (.c (sI [])))] [0])
     (.seq
      (.seq
       (.region [.op (some 3) none (.mv (.t 0)),
         .op (some 4) none (.bin 0 .lss (.t 3) (.c (.int .i64 10)))] [0, 4])
       (.cond (.t 4)
        (.seq
         (.region [.op (some 5) none (.mv (.t 0)),
           .op (some 6) none (.mv (.t 0)),
           .op (some 7) none (.bin 0 .add (.t 6) (.c (.int .i64 1))),
           .op (some 8) none (.slice 0 (.c (sI [48, 49, 50, 51, 52, 53, 54, 55, 56, 57, 97, 98, 99, 100, 101, 102, 103, 104, 105, 106, 107, 108, 109, 110, 111, 112, 113, 114, 115, 116, 117, 118, 119, 120, 121, 122])) (some (.t 5)) (some (.t 7)) none),
           .op (some 2) none (.mv (.t 8))] [2])
         .ret)
        .skip))
      (.seq
       (.region [.op (some 9) none (.mv (.t 0)),
         .op (some 10) none (.bin 0 .mul (.t 9) (.c (.int .i64 2))),
         .op (some 11) none (.mv (.t 0)),
         .op (some 12) none (.bin 0 .mul (.t 11) (.c (.int .i64 2))),
         .op (some 13) none (.bin 0 .add (.t 12) (.c (.int .i64 2))),
         .op (some 14) none (.slice 0 (.c (sI [48, 48, 48, 49, 48, 50, 48, 51, 48, 52, 48, 53, 48, 54, 48, 55, 48, 56, 48, 57, 49, 48, 49, 49, 49, 50, 49, 51, 49, 52, 49, 53, 49, 54, 49, 55, 49, 56, 49, 57, 50, 48, 50, 49, 50, 50, 50, 51, 50, 52, 50, 53, 50, 54, 50, 55, 50, 56, 50, 57, 51, 48, 51, 49, 51, 50, 51, 51, 51, 52, 51, 53, 51, 54, 51, 55, 51, 56, 51, 57, 52, 48, 52, 49, 52, 50, 52, 51, 52, 52, 52, 53, 52, 54, 52, 55, 52, 56, 52, 57, 53, 48, 53, 49, 53, 50, 53, 51, 53, 52, 53, 53, 53, 54, 53, 55, 53, 56, 53, 57, 54, 48, 54, 49, 54, 50, 54, 51, 54, 52, 54, 53, 54, 54, 54, 55, 54, 56, 54, 57, 55, 48, 55, 49, 55, 50, 55, 51, 55, 52, 55, 53, 55, 54, 55, 55, 55, 56, 55, 57, 56, 48, 56, 49, 56, 50, 56, 51, 56, 52, 56, 53, 56, 54, 56, 55, 56, 56, 56, 57, 57, 48, 57, 49, 57, 50, 57, 51, 57, 52, 57, 53, 57, 54, 57, 55, 57, 56, 57, 57])) (some (.t 10)) (some (.t 13)) none),
         .op (some 2) none (.mv (.t 14))] [2])
       .ret)))

/-- internal/strconv.numDigits -/
def v217 : VFun where
  params := 1
  results := [.tmp 2]
  fin := []
  thr := false
  body :=
    (.seq
     (.region [.op (some 2) none (.mv (.c (.int .i64 0)))] [0])
     (.seq
      (.region [.op (some 4) none (.mv (.t 0)),
        .op (some 5) none (.call 238 [(false, (.t 4))] none),
        .op (some 6) none (.call 237 [(false, (.t 5))] none),
        .op (some 3) none (.mv (.t 6))] [0, 3])
      (.seq
       .die
       .ret)))

def v218_0 : VC :=
    (.seq
     (.seq
      (.region [.op (some 19) none (.mv (.t 4)),
        .op (some 20) none (.bin 0 .geq (.t 19) (.c (.int .i64 8)))] [0, 1, 4, 20])
      (.cond (.t 20)
       .skip
       (.exit 0)))
     (.block 1
      (.seq
       (.region [.op (some 21) none (.mv (.t 1)),
         .op (some 22) none (.bin 0 .rem (.t 21) (.c (.int .u64 100000000))),
         .op (some 23) none (.cint .u32 (.t 22)),
         .op (some 5) none (.mv (.t 23))] [0, 1, 4, 5])
       (.seq
        (.region [.op (some 24) none (.mv (.t 1)),
          .op (some 25) none (.bin 0 .quo (.t 24) (.c (.int .u64 100000000))),
          .op (some 1) none (.mv (.t 25))] [0, 1, 4, 5])
        (.seq
         (.region [.op (some 26) none (.mv (.t 5)),
           .op (some 27) none (.bin 0 .quo (.t 26) (.c (.int .u32 10000))),
           .op (some 28) none (.mv (.t 5)),
           .op (some 29) none (.bin 0 .rem (.t 28) (.c (.int .u32 10000))),
           .op (some 6) none (.mv (.t 27)),
           .op (some 7) none (.mv (.t 29))] [0, 1, 4, 6, 7])
         (.seq
          (.region [.op (some 30) none (.mv (.t 7)),
            .op (some 31) none (.bin 0 .quo (.t 30) (.c (.int .u32 100))),
            .op (some 32) none (.bin 0 .mul (.t 31) (.c (.int .u32 2))),
            .op (some 33) none (.mv (.t 7)),
            .op (some 34) none (.bin 0 .rem (.t 33) (.c (.int .u32 100))),
            .op (some 35) none (.bin 0 .mul (.t 34) (.c (.int .u32 2))),
            .op (some 8) none (.mv (.t 32)),
            .op (some 9) none (.mv (.t 35))] [0, 1, 4, 6, 8, 9])
          (.seq
           (.region [.op (some 36) none (.mv (.t 6)),
             .op (some 37) none (.bin 0 .quo (.t 36) (.c (.int .u32 100))),
             .op (some 38) none (.bin 0 .mul (.t 37) (.c (.int .u32 2))),
             .op (some 39) none (.mv (.t 6)),
             .op (some 40) none (.bin 0 .rem (.t 39) (.c (.int .u32 100))),
             .op (some 41) none (.bin 0 .mul (.t 40) (.c (.int .u32 2))),
             .op (some 10) none (.mv (.t 38)),
             .op (some 11) none (.mv (.t 41))] [0, 1, 4, 8, 9, 10, 11])
           (.seq
            (.region [.op (some 42) none (.mv (.t 0)),
              .op (some 43) none (.mv (.t 4)),
              .op (some 44) none (.bin 0 .sub (.t 43) (.c (.int .i64 1))),
              .op (some 45) none (.mv (.t 0)),
              .op (some 46) none (.mv (.t 4)),
              .op (some 47) none (.bin 0 .sub (.t 46) (.c (.int .i64 2))),
              .op (some 48) none (.mv (.t 9)),
              .op (some 49) none (.bin 0 .add (.t 48) (.c (.int .u32 1))),
              .op (some 50) none (.ixs (.c (sI [48, 48, 48, 49, 48, 50, 48, 51, 48, 52, 48, 53, 48, 54, 48, 55, 48, 56, 48, 57, 49, 48, 49, 49, 49, 50, 49, 51, 49, 52, 49, 53, 49, 54, 49, 55, 49, 56, 49, 57, 50, 48, 50, 49, 50, 50, 50, 51, 50, 52, 50, 53, 50, 54, 50, 55, 50, 56, 50, 57, 51, 48, 51, 49, 51, 50, 51, 51, 51, 52, 51, 53, 51, 54, 51, 55, 51, 56, 51, 57, 52, 48, 52, 49, 52, 50, 52, 51, 52, 52, 52, 53, 52, 54, 52, 55, 52, 56, 52, 57, 53, 48, 53, 49, 53, 50, 53, 51, 53, 52, 53, 53, 53, 54, 53, 55, 53, 56, 53, 57, 54, 48, 54, 49, 54, 50, 54, 51, 54, 52, 54, 53, 54, 54, 54, 55, 54, 56, 54, 57, 55, 48, 55, 49, 55, 50, 55, 51, 55, 52, 55, 53, 55, 54, 55, 55, 55, 56, 55, 57, 56, 48, 56, 49, 56, 50, 56, 51, 56, 52, 56, 53, 56, 54, 56, 55, 56, 56, 56, 57, 57, 48, 57, 49, 57, 50, 57, 51, 57, 52, 57, 53, 57, 54, 57, 55, 57, 56, 57, 57])) (.t 49)),
              .op (some 51) none (.mv (.t 9)),
              .op (some 52) none (.ixs (.c (sI [48, 48, 48, 49, 48, 50, 48, 51, 48, 52, 48, 53, 48, 54, 48, 55, 48, 56, 48, 57, 49, 48, 49, 49, 49, 50, 49, 51, 49, 52, 49, 53, 49, 54, 49, 55, 49, 56, 49, 57, 50, 48, 50, 49, 50, 50, 50, 51, 50, 52, 50, 53, 50, 54, 50, 55, 50, 56, 50, 57, 51, 48, 51, 49, 51, 50, 51, 51, 51, 52, 51, 53, 51, 54, 51, 55, 51, 56, 51, 57, 52, 48, 52, 49, 52, 50, 52, 51, 52, 52, 52, 53, 52, 54, 52, 55, 52, 56, 52, 57, 53, 48, 53, 49, 53, 50, 53, 51, 53, 52, 53, 53, 53, 54, 53, 55, 53, 56, 53, 57, 54, 48, 54, 49, 54, 50, 54, 51, 54, 52, 54, 53, 54, 54, 54, 55, 54, 56, 54, 57, 55, 48, 55, 49, 55, 50, 55, 51, 55, 52, 55, 53, 55, 54, 55, 55, 55, 56, 55, 57, 56, 48, 56, 49, 56, 50, 56, 51, 56, 52, 56, 53, 56, 54, 56, 55, 56, 56, 56, 57, 57, 48, 57, 49, 57, 50, 57, 51, 57, 52, 57, 53, 57, 54, 57, 55, 57, 56, 57, 57])) (.t 51)),
              .op (some 53) none (.iad 1 (.t 42) (.t 44)),
              .op none none (.store 1 (.t 53) (.t 50)),
              .op (some 54) none (.iad 1 (.t 45) (.t 47)),
              .op none none (.store 1 (.t 54) (.t 52))] [0, 1, 4, 8, 10, 11])
            (.seq
             (.region [.op (some 55) none (.mv (.t 0)),
               .op (some 56) none (.mv (.t 4)),
               .op (some 57) none (.bin 0 .sub (.t 56) (.c (.int .i64 3))),
               .op (some 58) none (.mv (.t 0)),
               .op (some 59) none (.mv (.t 4)),
               .op (some 60) none (.bin 0 .sub (.t 59) (.c (.int .i64 4))),
               .op (some 61) none (.mv (.t 8)),
               .op (some 62) none (.bin 0 .add (.t 61) (.c (.int .u32 1))),
               .op (some 63) none (.ixs (.c (sI [48, 48, 48, 49, 48, 50, 48, 51, 48, 52, 48, 53, 48, 54, 48, 55, 48, 56, 48, 57, 49, 48, 49, 49, 49, 50, 49, 51, 49, 52, 49, 53, 49, 54, 49, 55, 49, 56, 49, 57, 50, 48, 50, 49, 50, 50, 50, 51, 50, 52, 50, 53, 50, 54, 50, 55, 50, 56, 50, 57, 51, 48, 51, 49, 51, 50, 51, 51, 51, 52, 51, 53, 51, 54, 51, 55, 51, 56, 51, 57, 52, 48, 52, 49, 52, 50, 52, 51, 52, 52, 52, 53, 52, 54, 52, 55, 52, 56, 52, 57, 53, 48, 53, 49, 53, 50, 53, 51, 53, 52, 53, 53, 53, 54, 53, 55, 53, 56, 53, 57, 54, 48, 54, 49, 54, 50, 54, 51, 54, 52, 54, 53, 54, 54, 54, 55, 54, 56, 54, 57, 55, 48, 55, 49, 55, 50, 55, 51, 55, 52, 55, 53, 55, 54, 55, 55, 55, 56, 55, 57, 56, 48, 56, 49, 56, 50, 56, 51, 56, 52, 56, 53, 56, 54, 56, 55, 56, 56, 56, 57, 57, 48, 57, 49, 57, 50, 57, 51, 57, 52, 57, 53, 57, 54, 57, 55, 57, 56, 57, 57])) (.t 62)),
               .op (some 64) none (.mv (.t 8)),
               .op (some 65) none (.ixs (.c (sI [48, 48, 48, 49, 48, 50, 48, 51, 48, 52, 48, 53, 48, 54, 48, 55, 48, 56, 48, 57, 49, 48, 49, 49, 49, 50, 49, 51, 49, 52, 49, 53, 49, 54, 49, 55, 49, 56, 49, 57, 50, 48, 50, 49, 50, 50, 50, 51, 50, 52, 50, 53, 50, 54, 50, 55, 50, 56, 50, 57, 51, 48, 51, 49, 51, 50, 51, 51, 51, 52, 51, 53, 51, 54, 51, 55, 51, 56, 51, 57, 52, 48, 52, 49, 52, 50, 52, 51, 52, 52, 52, 53, 52, 54, 52, 55, 52, 56, 52, 57, 53, 48, 53, 49, 53, 50, 53, 51, 53, 52, 53, 53, 53, 54, 53, 55, 53, 56, 53, 57, 54, 48, 54, 49, 54, 50, 54, 51, 54, 52, 54, 53, 54, 54, 54, 55, 54, 56, 54, 57, 55, 48, 55, 49, 55, 50, 55, 51, 55, 52, 55, 53, 55, 54, 55, 55, 55, 56, 55, 57, 56, 48, 56, 49, 56, 50, 56, 51, 56, 52, 56, 53, 56, 54, 56, 55, 56, 56, 56, 57, 57, 48, 57, 49, 57, 50, 57, 51, 57, 52, 57, 53, 57, 54, 57, 55, 57, 56, 57, 57])) (.t 64)),
               .op (some 66) none (.iad 1 (.t 55) (.t 57)),
               .op none none (.store 1 (.t 66) (.t 63)),
               .op (some 67) none (.iad 1 (.t 58) (.t 60)),
               .op none none (.store 1 (.t 67) (.t 65))] [0, 1, 4, 10, 11])
             (.seq
              (.region [.op (some 68) none (.mv (.t 0)),
                .op (some 69) none (.mv (.t 4)),
                .op (some 70) none (.bin 0 .sub (.t 69) (.c (.int .i64 5))),
                .op (some 71) none (.mv (.t 0)),
                .op (some 72) none (.mv (.t 4)),
                .op (some 73) none (.bin 0 .sub (.t 72) (.c (.int .i64 6))),
                .op (some 74) none (.mv (.t 11)),
                .op (some 75) none (.bin 0 .add (.t 74) (.c (.int .u32 1))),
                .op (some 76) none (.ixs (.c (sI [48, 48, 48, 49, 48, 50, 48, 51, 48, 52, 48, 53, 48, 54, 48, 55, 48, 56, 48, 57, 49, 48, 49, 49, 49, 50, 49, 51, 49, 52, 49, 53, 49, 54, 49, 55, 49, 56, 49, 57, 50, 48, 50, 49, 50, 50, 50, 51, 50, 52, 50, 53, 50, 54, 50, 55, 50, 56, 50, 57, 51, 48, 51, 49, 51, 50, 51, 51, 51, 52, 51, 53, 51, 54, 51, 55, 51, 56, 51, 57, 52, 48, 52, 49, 52, 50, 52, 51, 52, 52, 52, 53, 52, 54, 52, 55, 52, 56, 52, 57, 53, 48, 53, 49, 53, 50, 53, 51, 53, 52, 53, 53, 53, 54, 53, 55, 53, 56, 53, 57, 54, 48, 54, 49, 54, 50, 54, 51, 54, 52, 54, 53, 54, 54, 54, 55, 54, 56, 54, 57, 55, 48, 55, 49, 55, 50, 55, 51, 55, 52, 55, 53, 55, 54, 55, 55, 55, 56, 55, 57, 56, 48, 56, 49, 56, 50, 56, 51, 56, 52, 56, 53, 56, 54, 56, 55, 56, 56, 56, 57, 57, 48, 57, 49, 57, 50, 57, 51, 57, 52, 57, 53, 57, 54, 57, 55, 57, 56, 57, 57])) (.t 75)),
                .op (some 77) none (.mv (.t 11)),
                .op (some 78) none (.ixs (.c (sI [48, 48, 48, 49, 48, 50, 48, 51, 48, 52, 48, 53, 48, 54, 48, 55, 48, 56, 48, 57, 49, 48, 49, 49, 49, 50, 49, 51, 49, 52, 49, 53, 49, 54, 49, 55, 49, 56, 49, 57, 50, 48, 50, 49, 50, 50, 50, 51, 50, 52, 50, 53, 50, 54, 50, 55, 50, 56, 50, 57, 51, 48, 51, 49, 51, 50, 51, 51, 51, 52, 51, 53, 51, 54, 51, 55, 51, 56, 51, 57, 52, 48, 52, 49, 52, 50, 52, 51, 52, 52, 52, 53, 52, 54, 52, 55, 52, 56, 52, 57, 53, 48, 53, 49, 53, 50, 53, 51, 53, 52, 53, 53, 53, 54, 53, 55, 53, 56, 53, 57, 54, 48, 54, 49, 54, 50, 54, 51, 54, 52, 54, 53, 54, 54, 54, 55, 54, 56, 54, 57, 55, 48, 55, 49, 55, 50, 55, 51, 55, 52, 55, 53, 55, 54, 55, 55, 55, 56, 55, 57, 56, 48, 56, 49, 56, 50, 56, 51, 56, 52, 56, 53, 56, 54, 56, 55, 56, 56, 56, 57, 57, 48, 57, 49, 57, 50, 57, 51, 57, 52, 57, 53, 57, 54, 57, 55, 57, 56, 57, 57])) (.t 77)),
                .op (some 79) none (.iad 1 (.t 68) (.t 70)),
                .op none none (.store 1 (.t 79) (.t 76)),
                .op (some 80) none (.iad 1 (.t 71) (.t 73)),
                .op none none (.store 1 (.t 80) (.t 78))] [0, 1, 4, 10])
              (.seq
               (.region [.op (some 81) none (.mv (.t 0)),
                 .op (some 82) none (.mv (.t 4)),
                 .op (some 83) none (.bin 0 .sub (.t 82) (.c (.int .i64 7))),
                 .op (some 84) none (.mv (.t 0)),
                 .op (some 85) none (.mv (.t 4)),
                 .op (some 86) none (.bin 0 .sub (.t 85) (.c (.int .i64 8))),
                 .op (some 87) none (.mv (.t 10)),
                 .op (some 88) none (.bin 0 .add (.t 87) (.c (.int .u32 1))),
                 .op (some 89) none (.ixs (.c (sI [48, 48, 48, 49, 48, 50, 48, 51, 48, 52, 48, 53, 48, 54, 48, 55, 48, 56, 48, 57, 49, 48, 49, 49, 49, 50, 49, 51, 49, 52, 49, 53, 49, 54, 49, 55, 49, 56, 49, 57, 50, 48, 50, 49, 50, 50, 50, 51, 50, 52, 50, 53, 50, 54, 50, 55, 50, 56, 50, 57, 51, 48, 51, 49, 51, 50, 51, 51, 51, 52, 51, 53, 51, 54, 51, 55, 51, 56, 51, 57, 52, 48, 52, 49, 52, 50, 52, 51, 52, 52, 52, 53, 52, 54, 52, 55, 52, 56, 52, 57, 53, 48, 53, 49, 53, 50, 53, 51, 53, 52, 53, 53, 53, 54, 53, 55, 53, 56, 53, 57, 54, 48, 54, 49, 54, 50, 54, 51, 54, 52, 54, 53, 54, 54, 54, 55, 54, 56, 54, 57, 55, 48, 55, 49, 55, 50, 55, 51, 55, 52, 55, 53, 55, 54, 55, 55, 55, 56, 55, 57, 56, 48, 56, 49, 56, 50, 56, 51, 56, 52, 56, 53, 56, 54, 56, 55, 56, 56, 56, 57, 57, 48, 57, 49, 57, 50, 57, 51, 57, 52, 57, 53, 57, 54, 57, 55, 57, 56, 57, 57])) (.t 88)),
                 .op (some 90) none (.mv (.t 10)),
                 .op (some 91) none (.ixs (.c (sI [48, 48, 48, 49, 48, 50, 48, 51, 48, 52, 48, 53, 48, 54, 48, 55, 48, 56, 48, 57, 49, 48, 49, 49, 49, 50, 49, 51, 49, 52, 49, 53, 49, 54, 49, 55, 49, 56, 49, 57, 50, 48, 50, 49, 50, 50, 50, 51, 50, 52, 50, 53, 50, 54, 50, 55, 50, 56, 50, 57, 51, 48, 51, 49, 51, 50, 51, 51, 51, 52, 51, 53, 51, 54, 51, 55, 51, 56, 51, 57, 52, 48, 52, 49, 52, 50, 52, 51, 52, 52, 52, 53, 52, 54, 52, 55, 52, 56, 52, 57, 53, 48, 53, 49, 53, 50, 53, 51, 53, 52, 53, 53, 53, 54, 53, 55, 53, 56, 53, 57, 54, 48, 54, 49, 54, 50, 54, 51, 54, 52, 54, 53, 54, 54, 54, 55, 54, 56, 54, 57, 55, 48, 55, 49, 55, 50, 55, 51, 55, 52, 55, 53, 55, 54, 55, 55, 55, 56, 55, 57, 56, 48, 56, 49, 56, 50, 56, 51, 56, 52, 56, 53, 56, 54, 56, 55, 56, 56, 56, 57, 57, 48, 57, 49, 57, 50, 57, 51, 57, 52, 57, 53, 57, 54, 57, 55, 57, 56, 57, 57])) (.t 90)),
                 .op (some 92) none (.iad 1 (.t 81) (.t 83)),
                 .op none none (.store 1 (.t 92) (.t 89)),
                 .op (some 93) none (.iad 1 (.t 84) (.t 86)),
                 .op none none (.store 1 (.t 93) (.t 91))] [0, 1, 4])
               (.region [.op (some 94) none (.mv (.t 4)),
                 .op (some 95) none (.bin 0 .sub (.t 94) (.c (.int .i64 8))),
                 .op (some 4) none (.mv (.t 95))] [0, 1, 4]))))))))))))
/-- internal/strconv.formatBase10 -/
def v218 : VFun where
  params := 2
  results := []
  fin := []
  thr := false
  body :=
    (.seq
     (.region [.op (some 17) none (.mv (.t 0)),
       .op (some 18) none (.len false (.t 17)),
       .op (some 4) none (.mv (.t 18))] [0, 1, 4])
     (.seq
      (.block 0
       (.loop v218_0))
      (.seq
       (.region [.op (some 96) none (.mv (.t 1)),
         .op (some 97) none (.cint .u32 (.t 96)),
         .op (some 12) none (.mv (.t 97))] [0, 4, 12])
       (.seq
        (.seq
         (.region [.op (some 98) none (.mv (.t 4)),
           .op (some 99) none (.bin 0 .geq (.t 98) (.c (.int .i64 4)))] [0, 4, 12, 99])
         (.cond (.t 99)
          (.seq
           (.region [.op (some 100) none (.mv (.t 12)),
             .op (some 101) none (.bin 0 .rem (.t 100) (.c (.int .u32 10000))),
             .op (some 13) none (.mv (.t 101))] [0, 4, 12, 13])
           (.seq
            (.region [.op (some 102) none (.mv (.t 12)),
              .op (some 103) none (.bin 0 .quo (.t 102) (.c (.int .u32 10000))),
              .op (some 12) none (.mv (.t 103))] [0, 4, 12, 13])
            (.seq
             (.region [.op (some 104) none (.mv (.t 13)),
               .op (some 105) none (.bin 0 .quo (.t 104) (.c (.int .u32 100))),
               .op (some 106) none (.bin 0 .mul (.t 105) (.c (.int .u32 2))),
               .op (some 107) none (.mv (.t 13)),
               .op (some 108) none (.bin 0 .rem (.t 107) (.c (.int .u32 100))),
               .op (some 109) none (.bin 0 .mul (.t 108) (.c (.int .u32 2))),
               .op (some 14) none (.mv (.t 106)),
               .op (some 15) none (.mv (.t 109))] [0, 4, 12, 14, 15])
             (.seq
              (.region [.op (some 110) none (.mv (.t 0)),
                .op (some 111) none (.mv (.t 4)),
                .op (some 112) none (.bin 0 .sub (.t 111) (.c (.int .i64 1))),
                .op (some 113) none (.mv (.t 0)),
                .op (some 114) none (.mv (.t 4)),
                .op (some 115) none (.bin 0 .sub (.t 114) (.c (.int .i64 2))),
                .op (some 116) none (.mv (.t 15)),
                .op (some 117) none (.bin 0 .add (.t 116) (.c (.int .u32 1))),
                .op (some 118) none (.ixs (.c (sI [48, 48, 48, 49, 48, 50, 48, 51, 48, 52, 48, 53, 48, 54, 48, 55, 48, 56, 48, 57, 49, 48, 49, 49, 49, 50, 49, 51, 49, 52, 49, 53, 49, 54, 49, 55, 49, 56, 49, 57, 50, 48, 50, 49, 50, 50, 50, 51, 50, 52, 50, 53, 50, 54, 50, 55, 50, 56, 50, 57, 51, 48, 51, 49, 51, 50, 51, 51, 51, 52, 51, 53, 51, 54, 51, 55, 51, 56, 51, 57, 52, 48, 52, 49, 52, 50, 52, 51, 52, 52, 52, 53, 52, 54, 52, 55, 52, 56, 52, 57, 53, 48, 53, 49, 53, 50, 53, 51, 53, 52, 53, 53, 53, 54, 53, 55, 53, 56, 53, 57, 54, 48, 54, 49, 54, 50, 54, 51, 54, 52, 54, 53, 54, 54, 54, 55, 54, 56, 54, 57, 55, 48, 55, 49, 55, 50, 55, 51, 55, 52, 55, 53, 55, 54, 55, 55, 55, 56, 55, 57, 56, 48, 56, 49, 56, 50, 56, 51, 56, 52, 56, 53, 56, 54, 56, 55, 56, 56, 56, 57, 57, 48, 57, 49, 57, 50, 57, 51, 57, 52, 57, 53, 57, 54, 57, 55, 57, 56, 57, 57])) (.t 117)),
                .op (some 119) none (.mv (.t 15)),
                .op (some 120) none (.ixs (.c (sI [48, 48, 48, 49, 48, 50, 48, 51, 48, 52, 48, 53, 48, 54, 48, 55, 48, 56, 48, 57, 49, 48, 49, 49, 49, 50, 49, 51, 49, 52, 49, 53, 49, 54, 49, 55, 49, 56, 49, 57, 50, 48, 50, 49, 50, 50, 50, 51, 50, 52, 50, 53, 50, 54, 50, 55, 50, 56, 50, 57, 51, 48, 51, 49, 51, 50, 51, 51, 51, 52, 51, 53, 51, 54, 51, 55, 51, 56, 51, 57, 52, 48, 52, 49, 52, 50, 52, 51, 52, 52, 52, 53, 52, 54, 52, 55, 52, 56, 52, 57, 53, 48, 53, 49, 53, 50, 53, 51, 53, 52, 53, 53, 53, 54, 53, 55, 53, 56, 53, 57, 54, 48, 54, 49, 54, 50, 54, 51, 54, 52, 54, 53, 54, 54, 54, 55, 54, 56, 54, 57, 55, 48, 55, 49, 55, 50, 55, 51, 55, 52, 55, 53, 55, 54, 55, 55, 55, 56, 55, 57, 56, 48, 56, 49, 56, 50, 56, 51, 56, 52, 56, 53, 56, 54, 56, 55, 56, 56, 56, 57, 57, 48, 57, 49, 57, 50, 57, 51, 57, 52, 57, 53, 57, 54, 57, 55, 57, 56, 57, 57])) (.t 119)),
                .op (some 121) none (.iad 1 (.t 110) (.t 112)),
                .op none none (.store 1 (.t 121) (.t 118)),
                .op (some 122) none (.iad 1 (.t 113) (.t 115)),
                .op none none (.store 1 (.t 122) (.t 120))] [0, 4, 12, 14])
              (.seq
               (.region [.op (some 123) none (.mv (.t 0)),
                 .op (some 124) none (.mv (.t 4)),
                 .op (some 125) none (.bin 0 .sub (.t 124) (.c (.int .i64 3))),
                 .op (some 126) none (.mv (.t 0)),
                 .op (some 127) none (.mv (.t 4)),
                 .op (some 128) none (.bin 0 .sub (.t 127) (.c (.int .i64 4))),
                 .op (some 129) none (.mv (.t 14)),
                 .op (some 130) none (.bin 0 .add (.t 129) (.c (.int .u32 1))),
                 .op (some 131) none (.ixs (.c (sI [48, 48, 48, 49, 48, 50, 48, 51, 48, 52, 48, 53, 48, 54, 48, 55, 48, 56, 48, 57, 49, 48, 49, 49, 49, 50, 49, 51, 49, 52, 49, 53, 49, 54, 49, 55, 49, 56, 49, 57, 50, 48, 50, 49, 50, 50, 50, 51, 50, 52, 50, 53, 50, 54, 50, 55, 50, 56, 50, 57, 51, 48, 51, 49, 51, 50, 51, 51, 51, 52, 51, 53, 51, 54, 51, 55, 51, 56, 51, 57, 52, 48, 52, 49, 52, 50, 52, 51, 52, 52, 52, 53, 52, 54, 52, 55, 52, 56, 52, 57, 53, 48, 53, 49, 53, 50, 53, 51, 53, 52, 53, 53, 53, 54, 53, 55, 53, 56, 53, 57, 54, 48, 54, 49, 54, 50, 54, 51, 54, 52, 54, 53, 54, 54, 54, 55, 54, 56, 54, 57, 55, 48, 55, 49, 55, 50, 55, 51, 55, 52, 55, 53, 55, 54, 55, 55, 55, 56, 55, 57, 56, 48, 56, 49, 56, 50, 56, 51, 56, 52, 56, 53, 56, 54, 56, 55, 56, 56, 56, 57, 57, 48, 57, 49, 57, 50, 57, 51, 57, 52, 57, 53, 57, 54, 57, 55, 57, 56, 57, 57])) (.t 130)),
                 .op (some 132) none (.mv (.t 14)),
                 .op (some 133) none (.ixs (.c (sI [48, 48, 48, 49, 48, 50, 48, 51, 48, 52, 48, 53, 48, 54, 48, 55, 48, 56, 48, 57, 49, 48, 49, 49, 49, 50, 49, 51, 49, 52, 49, 53, 49, 54, 49, 55, 49, 56, 49, 57, 50, 48, 50, 49, 50, 50, 50, 51, 50, 52, 50, 53, 50, 54, 50, 55, 50, 56, 50, 57, 51, 48, 51, 49, 51, 50, 51, 51, 51, 52, 51, 53, 51, 54, 51, 55, 51, 56, 51, 57, 52, 48, 52, 49, 52, 50, 52, 51, 52, 52, 52, 53, 52, 54, 52, 55, 52, 56, 52, 57, 53, 48, 53, 49, 53, 50, 53, 51, 53, 52, 53, 53, 53, 54, 53, 55, 53, 56, 53, 57, 54, 48, 54, 49, 54, 50, 54, 51, 54, 52, 54, 53, 54, 54, 54, 55, 54, 56, 54, 57, 55, 48, 55, 49, 55, 50, 55, 51, 55, 52, 55, 53, 55, 54, 55, 55, 55, 56, 55, 57, 56, 48, 56, 49, 56, 50, 56, 51, 56, 52, 56, 53, 56, 54, 56, 55, 56, 56, 56, 57, 57, 48, 57, 49, 57, 50, 57, 51, 57, 52, 57, 53, 57, 54, 57, 55, 57, 56, 57, 57])) (.t 132)),
                 .op (some 134) none (.iad 1 (.t 123) (.t 125)),
                 .op none none (.store 1 (.t 134) (.t 131)),
                 .op (some 135) none (.iad 1 (.t 126) (.t 128)),
                 .op none none (.store 1 (.t 135) (.t 133))] [0, 4, 12])
               (.region [.op (some 136) none (.mv (.t 4)),
                 .op (some 137) none (.bin 0 .sub (.t 136) (.c (.int .i64 4))),
                 .op (some 4) none (.mv (.t 137))] [0, 4, 12]))))))
          .skip))
        (.seq
         (.seq
          (.region [.op (some 138) none (.mv (.t 4)),
            .op (some 139) none (.bin 0 .geq (.t 138) (.c (.int .i64 2)))] [0, 4, 12, 139])
          (.cond (.t 139)
           (.seq
            (.region [.op (some 140) none (.mv (.t 12)),
              .op (some 141) none (.bin 0 .rem (.t 140) (.c (.int .u32 100))),
              .op (some 142) none (.bin 0 .mul (.t 141) (.c (.int .u32 2))),
              .op (some 16) none (.mv (.t 142))] [0, 4, 12, 16])
            (.seq
             (.region [.op (some 143) none (.mv (.t 12)),
               .op (some 144) none (.bin 0 .quo (.t 143) (.c (.int .u32 100))),
               .op (some 12) none (.mv (.t 144))] [0, 4, 12, 16])
             (.seq
              (.region [.op (some 145) none (.mv (.t 0)),
                .op (some 146) none (.mv (.t 4)),
                .op (some 147) none (.bin 0 .sub (.t 146) (.c (.int .i64 1))),
                .op (some 148) none (.mv (.t 0)),
                .op (some 149) none (.mv (.t 4)),
                .op (some 150) none (.bin 0 .sub (.t 149) (.c (.int .i64 2))),
                .op (some 151) none (.mv (.t 16)),
                .op (some 152) none (.bin 0 .add (.t 151) (.c (.int .u32 1))),
                .op (some 153) none (.ixs (.c (sI [48, 48, 48, 49, 48, 50, 48, 51, 48, 52, 48, 53, 48, 54, 48, 55, 48, 56, 48, 57, 49, 48, 49, 49, 49, 50, 49, 51, 49, 52, 49, 53, 49, 54, 49, 55, 49, 56, 49, 57, 50, 48, 50, 49, 50, 50, 50, 51, 50, 52, 50, 53, 50, 54, 50, 55, 50, 56, 50, 57, 51, 48, 51, 49, 51, 50, 51, 51, 51, 52, 51, 53, 51, 54, 51, 55, 51, 56, 51, 57, 52, 48, 52, 49, 52, 50, 52, 51, 52, 52, 52, 53, 52, 54, 52, 55, 52, 56, 52, 57, 53, 48, 53, 49, 53, 50, 53, 51, 53, 52, 53, 53, 53, 54, 53, 55, 53, 56, 53, 57, 54, 48, 54, 49, 54, 50, 54, 51, 54, 52, 54, 53, 54, 54, 54, 55, 54, 56, 54, 57, 55, 48, 55, 49, 55, 50, 55, 51, 55, 52, 55, 53, 55, 54, 55, 55, 55, 56, 55, 57, 56, 48, 56, 49, 56, 50, 56, 51, 56, 52, 56, 53, 56, 54, 56, 55, 56, 56, 56, 57, 57, 48, 57, 49, 57, 50, 57, 51, 57, 52, 57, 53, 57, 54, 57, 55, 57, 56, 57, 57])) (.t 152)),
                .op (some 154) none (.mv (.t 16)),
                .op (some 155) none (.ixs (.c (sI [48, 48, 48, 49, 48, 50, 48, 51, 48, 52, 48, 53, 48, 54, 48, 55, 48, 56, 48, 57, 49, 48, 49, 49, 49, 50, 49, 51, 49, 52, 49, 53, 49, 54, 49, 55, 49, 56, 49, 57, 50, 48, 50, 49, 50, 50, 50, 51, 50, 52, 50, 53, 50, 54, 50, 55, 50, 56, 50, 57, 51, 48, 51, 49, 51, 50, 51, 51, 51, 52, 51, 53, 51, 54, 51, 55, 51, 56, 51, 57, 52, 48, 52, 49, 52, 50, 52, 51, 52, 52, 52, 53, 52, 54, 52, 55, 52, 56, 52, 57, 53, 48, 53, 49, 53, 50, 53, 51, 53, 52, 53, 53, 53, 54, 53, 55, 53, 56, 53, 57, 54, 48, 54, 49, 54, 50, 54, 51, 54, 52, 54, 53, 54, 54, 54, 55, 54, 56, 54, 57, 55, 48, 55, 49, 55, 50, 55, 51, 55, 52, 55, 53, 55, 54, 55, 55, 55, 56, 55, 57, 56, 48, 56, 49, 56, 50, 56, 51, 56, 52, 56, 53, 56, 54, 56, 55, 56, 56, 56, 57, 57, 48, 57, 49, 57, 50, 57, 51, 57, 52, 57, 53, 57, 54, 57, 55, 57, 56, 57, 57])) (.t 154)),
                .op (some 156) none (.iad 1 (.t 145) (.t 147)),
                .op none none (.store 1 (.t 156) (.t 153)),
                .op (some 157) none (.iad 1 (.t 148) (.t 150)),
                .op none none (.store 1 (.t 157) (.t 155))] [0, 4, 12])
              (.region [.op (some 158) none (.mv (.t 4)),
                .op (some 159) none (.bin 0 .sub (.t 158) (.c (.int .i64 2))),
                .op (some 4) none (.mv (.t 159))] [0, 4, 12]))))
           .skip))
         (.seq
          (.region [.op (some 160) none (.mv (.t 4)),
            .op (some 161) none (.bin 0 .gtr (.t 160) (.c (.int .i64 0)))] [0, 12, 161])
          (.cond (.t 161)
           (.region [.op (some 162) none (.mv (.t 0)),
             .op (some 163) none (.mv (.t 12)),
             .op (some 164) none (.bin 0 .add (.c (.int .u32 48)) (.t 163)),
             .op (some 165) none (.cint .u8 (.t 164)),
             .op (some 166) none (.iad 1 (.t 162) (.c (.int .i64 0))),
             .op none none (.store 1 (.t 166) (.t 165))] [])
           .skip)))))))

def v219_0 : VC :=
    (.seq
     (.seq
      (.region [.op (some 44) none (.mv (.t 1)),
        .op (some 45) none (.mv (.t 15)),
        .op (some 46) none (.bin 0 .geq (.t 44) (.t 45))] [0, 1, 3, 4, 10, 11, 12, 13, 14, 15, 16, 46])
      (.cond (.t 46)
       .skip
       (.exit 0)))
     (.block 1
      (.seq
       (.region [.op (some 47) none (.mv (.t 13)),
         .op (some 48) none (.bin 0 .sub (.t 47) (.c (.int .i64 1))),
         .op (some 13) none (.mv (.t 48))] [0, 1, 3, 4, 10, 11, 12, 13, 14, 15, 16])
       (.seq
        (.region [.op (some 49) none (.mv (.t 13)),
          .op (some 50) none (.mv (.t 1)),
          .op (some 51) none (.mv (.t 16)),
          .op (some 52) none (.bin 0 .and (.t 50) (.t 51)),
          .op (some 53) none (.ixs (.c (sI [48, 49, 50, 51, 52, 53, 54, 55, 56, 57, 97, 98, 99, 100, 101, 102, 103, 104, 105, 106, 107, 108, 109, 110, 111, 112, 113, 114, 115, 116, 117, 118, 119, 120, 121, 122])) (.t 52)),
          .op (some 54) none (.iada 1 65 (.t 12) (.t 49)),
          .op none none (.store 1 (.t 54) (.t 53))] [0, 1, 3, 4, 10, 11, 12, 13, 14, 15, 16])
        (.region [.op (some 55) none (.mv (.t 1)),
          .op (some 56) none (.mv (.t 14)),
          .op (some 57) none (.bin 0 .shr (.t 55) (.t 56)),
          .op (some 1) none (.mv (.t 57))] [0, 1, 3, 4, 10, 11, 12, 13, 14, 15, 16])))))
def v219_1 : VC :=
    (.seq
     (.seq
      (.region [.op (some 66) none (.mv (.t 1)),
        .op (some 67) none (.mv (.t 17)),
        .op (some 68) none (.bin 0 .geq (.t 66) (.t 67))] [0, 1, 3, 4, 10, 11, 12, 13, 17, 68])
      (.cond (.t 68)
       .skip
       (.exit 2)))
     (.block 3
      (.seq
       (.region [.op (some 69) none (.mv (.t 13)),
         .op (some 70) none (.bin 0 .sub (.t 69) (.c (.int .i64 1))),
         .op (some 13) none (.mv (.t 70))] [0, 1, 3, 4, 10, 11, 12, 13, 17])
       (.seq
        (.region [.op (some 71) none (.mv (.t 1)),
          .op (some 72) none (.mv (.t 17)),
          .op (some 73) none (.bin 0 .quo (.t 71) (.t 72)),
          .op (some 18) none (.mv (.t 73))] [0, 1, 3, 4, 10, 11, 12, 13, 17, 18])
        (.seq
         (.region [.op (some 74) none (.mv (.t 13)),
           .op (some 75) none (.mv (.t 1)),
           .op (some 76) none (.mv (.t 18)),
           .op (some 77) none (.mv (.t 17)),
           .op (some 78) none (.bin 0 .mul (.t 76) (.t 77)),
           .op (some 79) none (.bin 0 .sub (.t 75) (.t 78)),
           .op (some 80) none (.ixs (.c (sI [48, 49, 50, 51, 52, 53, 54, 55, 56, 57, 97, 98, 99, 100, 101, 102, 103, 104, 105, 106, 107, 108, 109, 110, 111, 112, 113, 114, 115, 116, 117, 118, 119, 120, 121, 122])) (.t 79)),
           .op (some 81) none (.iada 1 65 (.t 12) (.t 74)),
           .op none none (.store 1 (.t 81) (.t 80))] [0, 3, 4, 10, 11, 12, 13, 17, 18])
         (.region [.op (some 82) none (.mv (.t 18)),
           .op (some 1) none (.mv (.t 82))] [0, 1, 3, 4, 10, 11, 12, 13, 17]))))))
/-- internal/strconv.formatBits -/
def v219 : VFun where
  params := 5
  results := [.tmp 10, .tmp 11]
  fin := [.frz 10]
  thr := false
  body :=
    (.seq
     (.region [.op (some 10) none (.mv (.c (.nils 1))),
       .op (some 11) none (.mv (.c (sI [])))] [0, 1, 2, 3, 4, 10, 11])
     (.seq
      (.seq
       (.region [.op (some 19) none (.mv (.t 2)),
         .op (some 20) none (.bin 0 .lss (.t 19) (.c (.int .i64 2))),
         .op (some 21) none (.mv (.t 20)),
         .op (some 22) (some (21, false)) (.mv (.t 2)),
         .op (some 23) (some (21, false)) (.bin 0 .eql (.t 22) (.c (.int .i64 10))),
         .op (some 24) none (.pick (.t 21) (.c (.bool true)) (.t 23)),
         .op (some 25) none (.mv (.t 24)),
         .op (some 26) (some (25, false)) (.mv (.t 2)),
         .op (some 27) (some (25, false)) (.bin 0 .gtr (.t 26) (.c (.int .i64 36))),
         .op (some 28) none (.pick (.t 25) (.c (.bool true)) (.t 27))] [0, 1, 2, 3, 4, 10, 11, 28])
       (.cond (.t 28)
        .die
        .skip))
      (.seq
       (.region [.op (some 12) none (.alloc [.int .u8 0, .int .u8 0, .int .u8 0, .int .u8 0, .int .u8 0, .int .u8 0, .int .u8 0, .int .u8 0, .int .u8 0, .int .u8 0, .int .u8 0, .int .u8 0, .int .u8 0, .int .u8 0, .int .u8 0, .int .u8 0, .int .u8 0, .int .u8 0, .int .u8 0, .int .u8 0, .int .u8 0, .int .u8 0, .int .u8 0, .int .u8 0, .int .u8 0, .int .u8 0, .int .u8 0, .int .u8 0, .int .u8 0, .int .u8 0, .int .u8 0, .int .u8 0, .int .u8 0, .int .u8 0, .int .u8 0, .int .u8 0, .int .u8 0, .int .u8 0, .int .u8 0, .int .u8 0, .int .u8 0, .int .u8 0, .int .u8 0, .int .u8 0, .int .u8 0, .int .u8 0, .int .u8 0, .int .u8 0, .int .u8 0, .int .u8 0, .int .u8 0, .int .u8 0, .int .u8 0, .int .u8 0, .int .u8 0, .int .u8 0, .int .u8 0, .int .u8 0, .int .u8 0, .int .u8 0, .int .u8 0, .int .u8 0, .int .u8 0, .int .u8 0, .int .u8 0] (some 100))] [0, 1, 2, 3, 4, 10, 11, 12])
       (.seq
        (.region [.op (some 13) none (.mv (.c (.int .i64 65)))] [0, 1, 2, 3, 4, 10, 11, 12, 13])
        (.seq
         (.seq
          (.region [.op (some 30) none (.mv (.t 3))] [0, 1, 2, 3, 4, 10, 11, 12, 13, 30])
          (.cond (.t 30)
           (.region [.op (some 31) none (.mv (.t 1)),
             .op (some 32) none (.un .neg (.t 31)),
             .op (some 1) none (.mv (.t 32))] [0, 1, 2, 3, 4, 10, 11, 12, 13])
           .skip))
         (.seq
          (.seq
           (.region [.op (some 33) none (.mv (.t 2)),
             .op (some 34) none (.call 240 [(false, (.t 33))] none)] [0, 1, 2, 3, 4, 10, 11, 12, 13, 34])
           (.cond (.t 34)
            (.seq
             (.region [.op (some 35) none (.mv (.t 2)),
               .op (some 36) none (.cint .u64 (.t 35)),
               .op (some 37) none (.call 241 [(false, (.t 36))] none),
               .op (some 38) none (.cint .u64 (.t 37)),
               .op (some 14) none (.mv (.t 38))] [0, 1, 2, 3, 4, 10, 11, 12, 13, 14])
             (.seq
              (.region [.op (some 39) none (.mv (.t 2)),
                .op (some 40) none (.cint .u64 (.t 39)),
                .op (some 15) none (.mv (.t 40))] [0, 1, 2, 3, 4, 10, 11, 12, 13, 14, 15])
              (.seq
               (.region [.op (some 41) none (.mv (.t 2)),
                 .op (some 42) none (.cint .u64 (.t 41)),
                 .op (some 43) none (.bin 0 .sub (.t 42) (.c (.int .u64 1))),
                 .op (some 16) none (.mv (.t 43))] [0, 1, 3, 4, 10, 11, 12, 13, 14, 15, 16])
               (.seq
                (.block 0
                 (.loop v219_0))
                (.seq
                 (.region [.op (some 58) none (.mv (.t 13)),
                   .op (some 59) none (.bin 0 .sub (.t 58) (.c (.int .i64 1))),
                   .op (some 13) none (.mv (.t 59))] [0, 1, 3, 4, 10, 11, 12, 13])
                 (.region [.op (some 60) none (.mv (.t 13)),
                   .op (some 61) none (.mv (.t 1)),
                   .op (some 62) none (.ixs (.c (sI [48, 49, 50, 51, 52, 53, 54, 55, 56, 57, 97, 98, 99, 100, 101, 102, 103, 104, 105, 106, 107, 108, 109, 110, 111, 112, 113, 114, 115, 116, 117, 118, 119, 120, 121, 122])) (.t 61)),
                   .op (some 63) none (.iada 1 65 (.t 12) (.t 60)),
                   .op none none (.store 1 (.t 63) (.t 62))] [0, 3, 4, 10, 11, 12, 13]))))))
            (.seq
             (.region [.op (some 64) none (.mv (.t 2)),
               .op (some 65) none (.cint .u64 (.t 64)),
               .op (some 17) none (.mv (.t 65))] [0, 1, 3, 4, 10, 11, 12, 13, 17])
             (.seq
              (.block 2
               (.loop v219_1))
              (.seq
               (.region [.op (some 83) none (.mv (.t 13)),
                 .op (some 84) none (.bin 0 .sub (.t 83) (.c (.int .i64 1))),
                 .op (some 13) none (.mv (.t 84))] [0, 1, 3, 4, 10, 11, 12, 13])
               (.region [.op (some 85) none (.mv (.t 13)),
                 .op (some 86) none (.mv (.t 1)),
                 .op (some 87) none (.ixs (.c (sI [48, 49, 50, 51, 52, 53, 54, 55, 56, 57, 97, 98, 99, 100, 101, 102, 103, 104, 105, 106, 107, 108, 109, 110, 111, 112, 113, 114, 115, 116, 117, 118, 119, 120, 121, 122])) (.t 86)),
                 .op (some 88) none (.iada 1 65 (.t 12) (.t 85)),
                 .op none none (.store 1 (.t 88) (.t 87))] [0, 3, 4, 10, 11, 12, 13]))))))
          (.seq
           (.seq
            (.region [.op (some 89) none (.mv (.t 3))] [0, 4, 10, 11, 12, 13, 89])
            (.cond (.t 89)
             (.seq
              (.region [.op (some 90) none (.mv (.t 13)),
                .op (some 91) none (.bin 0 .sub (.t 90) (.c (.int .i64 1))),
                .op (some 13) none (.mv (.t 91))] [0, 4, 10, 11, 12, 13])
              (.region [.op (some 92) none (.mv (.t 13)),
                .op (some 93) none (.iada 1 65 (.t 12) (.t 92)),
                .op none none (.store 1 (.t 93) (.c (.int .u8 45)))] [0, 4, 10, 11, 12, 13]))
             .skip))
           (.seq
            (.seq
             (.region [.op (some 94) none (.mv (.t 4))] [0, 10, 11, 12, 13, 94])
             (.cond (.t 94)
              (.seq
               .die
               .ret)
              .skip))
            (.seq
             .die
             .ret)))))))))

def v221_0 : VC :=
    (.seq
     (.region [.op (some 15) none (.bin 0 .lss (.t 14) (.t 13))] [12, 13, 14, 15])
     (.seq
      (.cond (.t 15)
       .skip
       (.exit 0))
      (.seq
       (.block 1
        (.seq
         (.region [.op (some 16) none (.iad 2 (.t 12) (.t 14)),
           .op (some 17) none (.load (some 2) (.t 16)),
           .op (some 6) none (.alloc [sI [], sI []] (some 100)),
           .op none none (.store 2 (.t 6) (.t 17))] [6, 12, 13, 14])
         (.seq
          (.seq
           (.region [.op (some 18) none (.load (some 2) (.t 6)),
             .op (some 19) none (.call 243 [(false, (.t 18))] none),
             .op (some 20) none (.bin 0 .neq (.t 19) (.c (.int .i64 0)))] [6, 12, 13, 14, 20])
           (.cond (.t 20)
            (.seq
             (.region [.op (some 4) none (.mv (.c (.int .i64 2)))] [4])
             .ret)
            .skip))
          (.seq
           (.region [.op (some 21) none (.load (some 2) (.t 6)),
             .op (some 22) none (.call 244 [(false, (.t 21))] none),
             .op (some 23) none (.un .not (.t 22))] [12, 13, 14, 23])
           (.cond (.t 23)
            (.seq
             (.region [.op (some 4) none (.mv (.c (.int .i64 4)))] [4])
             .ret)
            .skip)))))
       (.region [.op (some 24) none (.bin 0 .add (.t 14) (.c (.int .i64 1))),
         .op (some 14) none (.mv (.t 24))] [12, 13, 14]))))
/-- schisma/size.check -/
def v221 : VFun where
  params := 2
  results := [.tmp 4]
  fin := []
  thr := false
  body :=
    (.seq
     (.region [.op (some 4) none (.mv (.c (.int .i64 0)))] [0, 1])
     (.seq
      (.seq
       (.region [.op (some 7) none (.mv (.t 1)),
         .op (some 8) none (.len false (.t 7)),
         .op (some 9) none (.mv (.t 0)),
         .op (some 10) none (.len false (.t 9)),
         .op (some 11) none (.bin 0 .neq (.t 8) (.t 10))] [1, 11])
       (.cond (.t 11)
        (.seq
         (.region [.op (some 4) none (.mv (.c (.int .i64 5)))] [4])
         .ret)
        .skip))
      (.seq
       (.seq
        (.region [.op (some 12) none (.mv (.t 1)),
          .op (some 13) none (.len false (.t 12)),
          .op (some 14) none (.mv (.c (.int .i64 0)))] [12, 13, 14])
        (.block 0
         (.loop v221_0)))
       (.seq
        (.region [.op (some 4) none (.mv (.c (.int .i64 0)))] [4])
        .ret))))

/-- schisma/whole.Lcm -/
def v222 : VFun where
  params := 2
  results := [.tmp 4]
  fin := []
  thr := false
  body :=
    (.seq
     (.region [.op (some 4) none (.mv (.c (sI [])))] [0, 1])
     (.seq
      (.region [.op (some 5) none (.mv (.t 0)),
        .op (some 6) none (.call 138 [(false, (.t 5))] none),
        .op (some 7) none (.mv (.t 1)),
        .op (some 8) none (.call 138 [(false, (.t 7))] none),
        .op (some 9) none (.call 245 [(false, (.t 6)), (false, (.t 8))] none),
        .op (some 4) none (.mv (.t 9))] [4])
      .ret))

/-- schisma/size.number -/
def v223 : VFun where
  params := 1
  results := [.cell 2 (some 2)]
  fin := []
  thr := false
  body :=
    (.seq
     (.region [.op (some 2) none (.alloc [sI [], sI []] (some 100))] [0, 2])
     (.seq
      (.region [.op (some 3) none (.mv (.t 0)),
        .op (some 4) none (.call 96 [(false, (.t 3))] none),
        .op (some 5) none (.build [sI [], sI []] [(0, 1, (.t 4)), (1, 1, (.c (sI [49])))]),
        .op none none (.store 2 (.t 2) (.t 5))] [2])
      .ret))

/-- schisma/fraction.Div -/
def v224 : VFun where
  params := 2
  results := [.cell 4 (some 2), .tmp 5]
  fin := []
  thr := false
  body :=
    (.seq
     (.region [.op (some 2) none (.boxi (.t 0)),
       .op (some 3) none (.boxi (.t 1)),
       .op (some 4) none (.alloc [sI [], sI []] (some 100)),
       .op (some 5) none (.mv (.c (.int .i64 0)))] [2, 3, 4])
     (.seq
      (.seq
       (.region [.op (some 6) none (.loadi (some 2) (.t 3)),
         .op (some 7) none (.call 246 [(false, (.t 6))] none),
         .op (some 8) none (.bin 0 .eql (.t 7) (.c (.int .i64 0)))] [2, 3, 4, 8])
       (.cond (.t 8)
        (.seq
         (.region [.op (some 9) none (.build [sI [], sI []] []),
           .op none none (.store 2 (.t 4) (.t 9)),
           .op (some 5) none (.mv (.c (.int .i64 17)))] [4, 5])
         .ret)
        .skip))
      (.seq
       (.region [.op (some 10) none (.fadi 0 (.t 2)),
         .op (some 11) none (.loadi none (.t 10)),
         .op (some 12) none (.fadi 1 (.t 3)),
         .op (some 13) none (.loadi none (.t 12)),
         .op (some 14) none (.call 95 [(false, (.t 11)), (false, (.t 13))] none),
         .op (some 15) none (.fadi 1 (.t 2)),
         .op (some 16) none (.loadi none (.t 15)),
         .op (some 17) none (.fadi 0 (.t 3)),
         .op (some 18) none (.loadi none (.t 17)),
         .op (some 19) none (.call 95 [(false, (.t 16)), (false, (.t 18))] none),
         .op (some 20) none (.call 247 [(false, (.t 14)), (false, (.t 19))] none),
         .op none none (.storel 100 2 (.t 4) (.t 20)),
         .op (some 5) none (.mv (.c (.int .i64 0)))] [4, 5])
       .ret)))

/-- schisma/fraction.Mul -/
def v225 : VFun where
  params := 2
  results := [.cell 4 (some 2)]
  fin := []
  thr := false
  body :=
    (.seq
     (.region [.op (some 2) none (.boxi (.t 0)),
       .op (some 3) none (.boxi (.t 1)),
       .op (some 4) none (.alloc [sI [], sI []] (some 100))] [2, 3, 4])
     (.seq
      (.seq
       (.region [.op (some 12) none (.loadi (some 2) (.t 2)),
         .op (some 13) none (.call 248 [(false, (.t 12))] none),
         .op (some 11) none (.mv (.t 13)),
         .op (some 14) none (.ext (.t 11) 0),
         .op (some 15) none (.ext (.t 11) 1),
         .op (some 16) none (.ext (.t 11) 2),
         .op (some 5) none (.mv (.t 14)),
         .op (some 6) none (.mv (.t 15)),
         .op (some 7) none (.mv (.t 16))] [2, 3, 4, 5, 6, 7])
       (.seq
        (.region [.op (some 17) none (.mv (.t 7))] [2, 3, 4, 5, 6, 17])
        (.cond (.t 17)
         (.seq
          (.region [.op (some 19) none (.loadi (some 2) (.t 3)),
            .op (some 20) none (.call 248 [(false, (.t 19))] none),
            .op (some 18) none (.mv (.t 20)),
            .op (some 21) none (.ext (.t 18) 0),
            .op (some 22) none (.ext (.t 18) 1),
            .op (some 23) none (.ext (.t 18) 2),
            .op (some 8) none (.mv (.t 21)),
            .op (some 9) none (.mv (.t 22)),
            .op (some 10) none (.mv (.t 23))] [2, 3, 4, 5, 6, 8, 9, 10])
          (.seq
           (.region [.op (some 24) none (.mv (.t 10))] [2, 3, 4, 5, 6, 8, 9, 24])
           (.cond (.t 24)
            (.seq
             (.region [.op (some 25) none (.mv (.t 5)),
               .op (some 26) none (.mv (.t 8)),
               .op (some 27) none (.bin 0 .mul (.t 25) (.t 26)),
               .op (some 28) none (.mv (.t 6)),
               .op (some 29) none (.mv (.t 9)),
               .op (some 30) none (.bin 0 .mul (.t 28) (.t 29)),
               .op (some 31) none (.call 249 [(false, (.t 27)), (false, (.t 30))] none),
               .op none none (.store 2 (.t 4) (.t 31))] [4])
             .ret)
            .skip)))
         .skip)))
      (.seq
       (.region [.op (some 32) none (.fadi 0 (.t 2)),
         .op (some 33) none (.loadi none (.t 32)),
         .op (some 34) none (.fadi 0 (.t 3)),
         .op (some 35) none (.loadi none (.t 34)),
         .op (some 36) none (.call 95 [(false, (.t 33)), (false, (.t 35))] none),
         .op (some 37) none (.fadi 1 (.t 2)),
         .op (some 38) none (.loadi none (.t 37)),
         .op (some 39) none (.fadi 1 (.t 3)),
         .op (some 40) none (.loadi none (.t 39)),
         .op (some 41) none (.call 95 [(false, (.t 38)), (false, (.t 40))] none),
         .op (some 42) none (.call 247 [(false, (.t 36)), (false, (.t 41))] none),
         .op none none (.storel 100 2 (.t 4) (.t 42))] [4])
       .ret)))

def v226_0a : VC :=
    (.seq
     (.region [.op (some 7) none (.mv (.t 16))] [3, 4, 5, 6, 7, 17])
     (.region [.op (some 8) none (.mv (.t 17))] [3, 4, 5, 6, 7, 8]))
def v226_0 : VC :=
    (.block 1
     (.seq
      (.region [.op (some 19) none (.mv (.t 8)),
        .op (some 20) none (.call 116 [(false, (.t 19))] none),
        .op (some 18) none (.mv (.t 20)),
        .op (some 21) none (.ext (.t 18) 0),
        .op (some 22) none (.ext (.t 18) 1),
        .op (some 9) none (.mv (.t 21)),
        .op (some 10) none (.mv (.t 22))] [3, 4, 5, 6, 7, 9, 10])
      (.seq
       (.seq
        (.region [.op (some 23) none (.mv (.t 10)),
          .op (some 24) none (.un .not (.t 23)),
          .op (some 25) none (.mv (.t 24)),
          .op (some 26) (some (25, false)) (.mv (.t 9)),
          .op (some 27) (some (25, false)) (.loadi none (.t 3)),
          .op (some 28) (some (25, false)) (.bin 0 .gtr (.t 26) (.t 27)),
          .op (some 29) none (.pick (.t 25) (.c (.bool true)) (.t 28)),
          .op (some 30) none (.mv (.t 29)),
          .op (some 31) (some (30, false)) (.mv (.t 9)),
          .op (some 32) (some (30, false)) (.loadi none (.t 3)),
          .op (some 33) (some (30, false)) (.un .neg (.t 32)),
          .op (some 34) (some (30, false)) (.bin 0 .lss (.t 31) (.t 33)),
          .op (some 35) none (.pick (.t 30) (.c (.bool true)) (.t 34))] [4, 5, 6, 7, 9, 35])
        (.cond (.t 35)
         (.seq
          (.region [.op none none (.store 1 (.t 4) (.c (.int .i64 0))),
            .op none none (.store 1 (.t 5) (.c (.int .i64 0))),
            .op none none (.store 1 (.t 6) (.c (.bool false)))] [])
          .ret)
         .skip))
       (.seq
        (.region [.op (some 37) none (.mv (.t 7)),
          .op (some 38) none (.call 250 [(false, (.t 37))] none),
          .op (some 36) none (.mv (.t 38)),
          .op (some 39) none (.ext (.t 36) 0),
          .op (some 40) none (.ext (.t 36) 1),
          .op (some 11) none (.mv (.t 39)),
          .op (some 12) none (.mv (.t 40))] [4, 5, 6, 7, 9, 11, 12])
        (.seq
         (.seq
          (.region [.op (some 41) none (.mv (.t 12)),
            .op (some 42) none (.un .not (.t 41))] [4, 5, 6, 7, 9, 11, 42])
          (.cond (.t 42)
           (.seq
            (.region [.op none none (.store 1 (.t 4) (.c (.int .i64 0))),
              .op none none (.store 1 (.t 5) (.c (.int .i64 0))),
              .op none none (.store 1 (.t 6) (.c (.bool false)))] [])
            .ret)
           .skip))
         (.seq
          (.region [.op (some 43) none (.mv (.t 11)),
            .op (some 44) none (.bin 0 .add (.t 43) (.c (.int .i64 1))),
            .op (some 13) none (.mv (.t 44))] [4, 5, 7, 9, 11, 13])
          (.seq
           (.seq
            (.region [.op (some 45) none (.mv (.t 7)),
              .op (some 46) none (.bin 0 .eql (.t 45) (.c (.int .i64 2)))] [4, 5, 9, 11, 13, 46])
            (.cond (.t 46)
             (.region [.op (some 47) none (.mv (.t 11)),
               .op (some 13) none (.mv (.t 47))] [4, 5, 9, 11, 13])
             .skip))
           (.region [.op (some 48) none (.loadl 100 none (.t 4)),
             .op (some 49) none (.mv (.t 9)),
             .op (some 50) none (.mv (.t 11)),
             .op (some 51) none (.bin 0 .mul (.t 49) (.t 50)),
             .op (some 52) none (.mv (.t 9)),
             .op (some 53) none (.mv (.t 13)),
             .op (some 54) none (.bin 0 .mul (.t 52) (.t 53)),
             .op (some 55) none (.mnmx false (.t 51) (.t 54)),
             .op (some 56) none (.bin 0 .add (.t 48) (.t 55)),
             .op (some 57) none (.loadl 101 none (.t 5)),
             .op (some 58) none (.mv (.t 9)),
             .op (some 59) none (.mv (.t 11)),
             .op (some 60) none (.bin 0 .mul (.t 58) (.t 59)),
             .op (some 61) none (.mv (.t 9)),
             .op (some 62) none (.mv (.t 13)),
             .op (some 63) none (.bin 0 .mul (.t 61) (.t 62)),
             .op (some 64) none (.mnmx true (.t 60) (.t 63)),
             .op (some 65) none (.bin 0 .add (.t 57) (.t 64)),
             .op none none (.storel 100 1 (.t 4) (.t 56)),
             .op none none (.storel 101 1 (.t 5) (.t 65))] []))))))))
/-- (schisma/size.terms).near -/
def v226 : VFun where
  params := 2
  results := [.cell 4 none, .cell 5 none, .cell 6 none]
  fin := []
  thr := false
  body :=
    (.seq
     (.region [.op (some 2) none (.boxi (.t 0)),
       .op (some 3) none (.boxi (.t 1)),
       .op (some 4) none (.alloc [.int .i64 0] (some 100)),
       .op (some 5) none (.alloc [.int .i64 0] (some 101)),
       .op (some 6) none (.alloc [.bool false] (some 102))] [2, 3, 4, 5, 6])
     (.seq
      (.seq
       (.region [.op (some 14) none (.loadi (some 3) (.t 2)),
         .op (some 15) none (.call 228 [(false, (.t 14))] none)] [3, 4, 5, 6, 15])
       (.block 0
        (.rangef (.t 15) [16, 17] v226_0a v226_0)))
      (.seq
       (.region [.op (some 66) none (.loadl 100 none (.t 4)),
         .op (some 67) none (.loadl 101 none (.t 5)),
         .op none none (.storel 100 1 (.t 4) (.t 66)),
         .op none none (.storel 101 1 (.t 5) (.t 67)),
         .op none none (.storel 102 1 (.t 6) (.c (.bool true)))] [4, 5, 6])
       .ret)))

/-- schisma/size.downward -/
def v227 : VFun where
  params := 2
  results := [.tmp 4]
  fin := []
  thr := false
  body :=
    (.seq
     (.region [.op (some 4) none (.mv (.c (.int .i64 0)))] [0, 1])
     (.seq
      (.seq
       (.region [.op (some 5) none (.mv (.t 0)),
         .op (some 6) none (.bin 0 .lss (.t 5) (.c (.int .i64 0)))] [0, 1, 6])
       (.cond (.t 6)
        (.seq
         (.region [.op (some 7) none (.mv (.t 0)),
           .op (some 8) none (.un .neg (.t 7)),
           .op (some 9) none (.mv (.t 1)),
           .op (some 10) none (.bin 0 .add (.t 8) (.t 9)),
           .op (some 11) none (.bin 0 .sub (.t 10) (.c (.int .i64 1))),
           .op (some 12) none (.mv (.t 1)),
           .op (some 13) none (.bin 0 .quo (.t 11) (.t 12)),
           .op (some 14) none (.un .neg (.t 13)),
           .op (some 4) none (.mv (.t 14))] [4])
         .ret)
        .skip))
      (.seq
       (.region [.op (some 15) none (.mv (.t 0)),
         .op (some 16) none (.mv (.t 1)),
         .op (some 17) none (.bin 0 .quo (.t 15) (.t 16)),
         .op (some 4) none (.mv (.t 17))] [4])
       .ret)))

/-- (schisma/size.terms).all -/
def v228 : VFun where
  params := 1
  results := [.tmp 2]
  fin := [.frz 1]
  thr := false
  body :=
    (.seq
     (.region [.op (some 1) none (.boxi (.t 0)),
       .op (some 2) none (.mv (.c (.nilfn)))] [1])
     (.seq
      (.region [.op (some 3) none (.mkfn 251 [(.t 1)]),
        .op (some 2) none (.mv (.t 3))] [1, 2])
      .ret))

def v229_0 : VC :=
    (.seq
     (.block 1
      (.seq
       (.region [.op (some 23) none (.mv (.t 0)),
         .op (some 24) none (.mv (.t 1)),
         .op (some 25) none (.mv (.t 7)),
         .op (some 26) none (.call 253 [(false, (.t 23)), (false, (.t 24)), (false, (.t 25))] none),
         .op (some 22) none (.mv (.t 26)),
         .op (some 27) none (.ext (.t 22) 0),
         .op (some 28) none (.ext (.t 22) 1),
         .op (some 8) none (.mv (.t 27)),
         .op (some 9) none (.mv (.t 28))] [0, 1, 7, 8, 9])
       (.seq
        (.region [.op (some 29) none (.mv (.t 9))] [0, 1, 7, 8, 29])
        (.cond (.t 29)
         (.seq
          (.region [.op (some 30) none (.mv (.t 8)),
            .op (some 4) none (.mv (.t 30))] [4])
          .ret)
         .skip))))
     (.region [.op (some 20) none (.mv (.t 7)),
       .op (some 21) none (.bin 0 .mul (.t 20) (.c (.int .i64 2))),
       .op (some 7) none (.mv (.t 21))] [0, 1, 7]))
/-- schisma/size.log -/
def v229 : VFun where
  params := 2
  results := [.tmp 4]
  fin := []
  thr := false
  body :=
    (.seq
     (.region [.op (some 4) none (.mv (.c (sI [])))] [0, 1])
     (.seq
      (.seq
       (.region [.op (some 10) none (.mv (.t 0)),
         .op (some 11) none (.bin 0 .eql (.t 10) (.c (.int .i64 2)))] [0, 1, 11])
       (.cond (.t 11)
        (.seq
         (.region [.op (some 13) none (.mv (.t 1)),
           .op (some 14) none (.call 252 [(false, (.c (sI [50]))), (false, (.t 13))] none),
           .op (some 12) none (.mv (.t 14)),
           .op (some 15) none (.ext (.t 12) 0),
           .op (some 16) none (.ext (.t 12) 1),
           .op (some 5) none (.mv (.t 15)),
           .op (some 6) none (.mv (.t 16))] [5])
         (.seq
          (.region [.op (some 17) none (.mv (.t 5)),
            .op (some 4) none (.mv (.t 17))] [4])
          .ret))
        .skip))
      (.seq
       (.region [.op (some 18) none (.mv (.t 1)),
         .op (some 19) none (.bin 0 .add (.t 18) (.c (.int .i64 64))),
         .op (some 7) none (.mv (.t 19))] [0, 1, 7])
       (.block 0
        (.loop v229_0)))))

/-- strconv.ParseUint -/
def v230 : VFun where
  params := 3
  results := [.tmp 6, .tmp 7]
  fin := []
  thr := false
  body :=
    (.seq
     (.region [.op (some 6) none (.mv (.c (.int .u64 0))),
       .op (some 7) none (.mv (.c (.nilifc)))] [0, 1, 2])
     (.seq
      (.region [.op (some 11) none (.mv (.t 0)),
        .op (some 12) none (.mv (.t 1)),
        .op (some 13) none (.mv (.t 2)),
        .op (some 14) none (.call 211 [(false, (.t 11)), (false, (.t 12)), (false, (.t 13))] none),
        .op (some 10) none (.mv (.t 14)),
        .op (some 15) none (.ext (.t 10) 0),
        .op (some 16) none (.ext (.t 10) 1),
        .op (some 8) none (.mv (.t 15)),
        .op (some 9) none (.mv (.t 16))] [0, 1, 2, 8, 9])
      (.seq
       (.seq
        (.region [.op (some 17) none (.mv (.t 9)),
          .op (some 18) none (.bin 2 .neq (.t 17) (.c (.nilifc)))] [0, 1, 2, 8, 9, 18])
        (.cond (.t 18)
         (.seq
          (.region [.op (some 19) none (.mv (.t 8)),
            .op (some 20) none (.mv (.t 0)),
            .op (some 21) none (.mv (.t 1)),
            .op (some 22) none (.mv (.t 2)),
            .op (some 23) none (.mv (.t 9)),
            .op (some 24) none (.call 190 [(false, (.c (sI [80, 97, 114, 115, 101, 85, 105, 110, 116]))), (false, (.t 20)), (false, (.t 21)), (false, (.t 22)), (false, (.t 23))] none),
            .op (some 6) none (.mv (.t 19)),
            .op (some 7) none (.mv (.t 24))] [6, 7])
          .ret)
         .skip))
       (.seq
        (.region [.op (some 25) none (.mv (.t 8)),
          .op (some 6) none (.mv (.t 25)),
          .op (some 7) none (.mv (.c (.nilifc)))] [6, 7])
        .ret))))

/-- internal/strconv.FormatUint -/
def v231 : VFun where
  params := 2
  results := [.tmp 4]
  fin := []
  thr := false
  body :=
    (.seq
     (.region [.op (some 4) none (.mv (.c (sI [])))] [0, 1])
     (.seq
      (.seq
       (.region [.op (some 9) none (.mv (.t 1)),
         .op (some 10) none (.bin 0 .eql (.t 9) (.c (.int .i64 10)))] [0, 1, 10])
       (.cond (.t 10)
        (.seq
         (.seq
          (.region [.op (some 11) none (.mv (.t 0)),
            .op (some 12) none (.bin 0 .lss (.t 11) (.c (.int .u64 100)))] [0, 12])
          (.cond (.t 12)
           (.seq
            (.region [.op (some 13) none (.mv (.t 0)),
              .op (some 14) none (.cint .i64 (.t 13)),
              .op (some 15) none (.call 216 [(false, (.t 14))] none),
              .op (some 4) none (.mv (.t 15))] [4])
            .ret)
           .skip))
         (.seq
          (.region [.op (some 5) none (.alloc [.int .u8 0, .int .u8 0, .int .u8 0, .int .u8 0, .int .u8 0, .int .u8 0, .int .u8 0, .int .u8 0, .int .u8 0, .int .u8 0, .int .u8 0, .int .u8 0, .int .u8 0, .int .u8 0, .int .u8 0, .int .u8 0, .int .u8 0, .int .u8 0, .int .u8 0, .int .u8 0, .int .u8 0, .int .u8 0, .int .u8 0, .int .u8 0] (some 100))] [0, 5])
          (.seq
           (.region [.op (some 16) none (.mv (.t 0)),
             .op (some 17) none (.call 217 [(false, (.t 16))] none),
             .op (some 6) none (.mv (.t 17))] [0, 5, 6])
           (.seq
            .die
            (.seq
             .die
             .ret)))))
        .skip))
      (.seq
       (.region [.op (some 26) none (.mv (.t 0)),
         .op (some 27) none (.mv (.t 1)),
         .op (some 28) none (.call 219 [(true, (.c (.nils 1))), (false, (.t 26)), (false, (.t 27)), (false, (.c (.bool false))), (false, (.c (.bool false)))] none),
         .op (some 25) none (.mv (.t 28)),
         .op (some 29) none (.ext (.t 25) 0),
         .op (some 30) none (.ext (.t 25) 1),
         .op (some 7) none (.mv (.t 29)),
         .op (some 8) none (.mv (.t 30))] [8])
       (.seq
        (.region [.op (some 31) none (.mv (.t 8)),
          .op (some 4) none (.mv (.t 31))] [4])
        .ret))))

/-- math/bits.Mul -/
def v232 : VFun where
  params := 2
  results := [.tmp 4, .tmp 5]
  fin := []
  thr := false
  body :=
    (.seq
     (.region [.op (some 4) none (.mv (.c (.int .u64 0))),
       .op (some 5) none (.mv (.c (.int .u64 0)))] [0, 1])
     (.seq
      (.cond (.c (.bool false))
       (.seq
        (.region [.op (some 11) none (.mv (.t 0)),
          .op (some 12) none (.cint .u32 (.t 11)),
          .op (some 13) none (.mv (.t 1)),
          .op (some 14) none (.cint .u32 (.t 13)),
          .op (some 15) none (.call 254 [(false, (.t 12)), (false, (.t 14))] none),
          .op (some 10) none (.mv (.t 15)),
          .op (some 16) none (.ext (.t 10) 0),
          .op (some 17) none (.ext (.t 10) 1),
          .op (some 6) none (.mv (.t 16)),
          .op (some 7) none (.mv (.t 17))] [6, 7])
        (.seq
         (.region [.op (some 18) none (.mv (.t 6)),
           .op (some 19) none (.cint .u64 (.t 18)),
           .op (some 20) none (.mv (.t 7)),
           .op (some 21) none (.cint .u64 (.t 20)),
           .op (some 4) none (.mv (.t 19)),
           .op (some 5) none (.mv (.t 21))] [4, 5])
         .ret))
       .skip)
      (.seq
       (.region [.op (some 23) none (.mv (.t 0)),
         .op (some 24) none (.mv (.t 1)),
         .op (some 25) none (.call 255 [(false, (.t 23)), (false, (.t 24))] none),
         .op (some 22) none (.mv (.t 25)),
         .op (some 26) none (.ext (.t 22) 0),
         .op (some 27) none (.ext (.t 22) 1),
         .op (some 8) none (.mv (.t 26)),
         .op (some 9) none (.mv (.t 27))] [8, 9])
       (.seq
        (.region [.op (some 28) none (.mv (.t 8)),
          .op (some 29) none (.mv (.t 9)),
          .op (some 4) none (.mv (.t 28)),
          .op (some 5) none (.mv (.t 29))] [4, 5])
        .ret))))

/-- internal/stringslite.Clone -/
def v235 : VFun where
  params := 1
  results := [.tmp 2]
  fin := []
  thr := false
  body :=
    (.seq
     (.region [.op (some 2) none (.mv (.c (sI [])))] [0])
     (.seq
      (.seq
       (.region [.op (some 4) none (.mv (.t 0)),
         .op (some 5) none (.len true (.t 4)),
         .op (some 6) none (.bin 0 .eql (.t 5) (.c (.int .i64 0)))] [0, 6])
       (.cond (.t 6)
        (.seq
         (.region [.op (some 2) none (.mv (.c (sI [])))] [2])
         .ret)
        .skip))
      (.seq
       (.region [.op (some 7) none (.mv (.t 0)),
         .op (some 8) none (.len true (.t 7)),
         .op (some 9) none (.mks 1 1 [.int .u8 0] (.t 8) (.t 8) (some 100)),
         .op (some 3) none (.mv (.t 9))] [0, 3])
       (.seq
        .die
        (.seq
         .die
         .ret)))))

/-- errors.New -/
def v236 : VFun where
  params := 1
  results := [.tmp 2]
  fin := []
  thr := false
  body :=
    (.seq
     (.region [.op (some 2) none (.mv (.c (.nilifc)))] [0])
     (.seq
      (.region [.op (some 3) none (.mv (.t 0)),
        .op (some 4) none (.build [sI []] [(0, 1, (.t 3))]),
        .op (some 5) none (.box (.t 4) (some 100)),
        .op (some 6) none (.ifc 326 (.t 5)),
        .op (some 2) none (.mv (.t 6))] [2])
      .ret))

/-- internal/strconv.log10Pow2 -/
def v237 : VFun where
  params := 1
  results := [.tmp 2]
  fin := []
  thr := false
  body :=
    (.seq
     (.region [.op (some 2) none (.mv (.c (.int .i64 0)))] [0])
     (.seq
      (.region [.op (some 3) none (.mv (.t 0)),
        .op (some 4) none (.bin 0 .mul (.t 3) (.c (.int .i64 78913))),
        .op (some 5) none (.bin 0 .shr (.t 4) (.c (.int .u64 18))),
        .op (some 2) none (.mv (.t 5))] [2])
      .ret))

/-- math/bits.Len64 -/
def v238 : VFun where
  params := 1
  results := [.tmp 2]
  fin := []
  thr := false
  body :=
    (.seq
     (.region [.op (some 2) none (.mv (.c (.int .i64 0)))] [0, 2])
     (.seq
      (.seq
       (.region [.op (some 3) none (.mv (.t 0)),
         .op (some 4) none (.bin 0 .geq (.t 3) (.c (.int .u64 4294967296)))] [0, 2, 4])
       (.cond (.t 4)
        (.seq
         (.region [.op (some 5) none (.mv (.t 0)),
           .op (some 6) none (.bin 0 .shr (.t 5) (.c (.int .u64 32))),
           .op (some 0) none (.mv (.t 6))] [0])
         (.region [.op (some 2) none (.mv (.c (.int .i64 32)))] [0, 2]))
        .skip))
      (.seq
       (.seq
        (.region [.op (some 7) none (.mv (.t 0)),
          .op (some 8) none (.bin 0 .geq (.t 7) (.c (.int .u64 65536)))] [0, 2, 8])
        (.cond (.t 8)
         (.seq
          (.region [.op (some 9) none (.mv (.t 0)),
            .op (some 10) none (.bin 0 .shr (.t 9) (.c (.int .u64 16))),
            .op (some 0) none (.mv (.t 10))] [0, 2])
          (.region [.op (some 11) none (.mv (.t 2)),
            .op (some 12) none (.bin 0 .add (.t 11) (.c (.int .i64 16))),
            .op (some 2) none (.mv (.t 12))] [0, 2]))
         .skip))
       (.seq
        (.seq
         (.region [.op (some 13) none (.mv (.t 0)),
           .op (some 14) none (.bin 0 .geq (.t 13) (.c (.int .u64 256)))] [0, 2, 14])
         (.cond (.t 14)
          (.seq
           (.region [.op (some 15) none (.mv (.t 0)),
             .op (some 16) none (.bin 0 .shr (.t 15) (.c (.int .u64 8))),
             .op (some 0) none (.mv (.t 16))] [0, 2])
           (.region [.op (some 17) none (.mv (.t 2)),
             .op (some 18) none (.bin 0 .add (.t 17) (.c (.int .i64 8))),
             .op (some 2) none (.mv (.t 18))] [0, 2]))
          .skip))
        (.seq
         (.region [.op (some 19) none (.mv (.t 2)),
           .op (some 20) none (.mv (.t 0)),
           .op (some 21) none (.cint .u8 (.t 20)),
           .op (some 22) none (.ixs (.c (sI [0, 1, 2, 2, 3, 3, 3, 3, 4, 4, 4, 4, 4, 4, 4, 4, 5, 5, 5, 5, 5, 5, 5, 5, 5, 5, 5, 5, 5, 5, 5, 5, 6, 6, 6, 6, 6, 6, 6, 6, 6, 6, 6, 6, 6, 6, 6, 6, 6, 6, 6, 6, 6, 6, 6, 6, 6, 6, 6, 6, 6, 6, 6, 6, 7, 7, 7, 7, 7, 7, 7, 7, 7, 7, 7, 7, 7, 7, 7, 7, 7, 7, 7, 7, 7, 7, 7, 7, 7, 7, 7, 7, 7, 7, 7, 7, 7, 7, 7, 7, 7, 7, 7, 7, 7, 7, 7, 7, 7, 7, 7, 7, 7, 7, 7, 7, 7, 7, 7, 7, 7, 7, 7, 7, 7, 7, 7, 7, 8, 8, 8, 8, 8, 8, 8, 8, 8, 8, 8, 8, 8, 8, 8, 8, 8, 8, 8, 8, 8, 8, 8, 8, 8, 8, 8, 8, 8, 8, 8, 8, 8, 8, 8, 8, 8, 8, 8, 8, 8, 8, 8, 8, 8, 8, 8, 8, 8, 8, 8, 8, 8, 8, 8, 8, 8, 8, 8, 8, 8, 8, 8, 8, 8, 8, 8, 8, 8, 8, 8, 8, 8, 8, 8, 8, 8, 8, 8, 8, 8, 8, 8, 8, 8, 8, 8, 8, 8, 8, 8, 8, 8, 8, 8, 8, 8, 8, 8, 8, 8, 8, 8, 8, 8, 8, 8, 8, 8, 8, 8, 8, 8, 8, 8, 8, 8, 8, 8, 8, 8, 8, 8, 8, 8, 8, 8, 8])) (.t 21)),
           .op (some 23) none (.cint .i64 (.t 22)),
           .op (some 24) none (.bin 0 .add (.t 19) (.t 23)),
           .op (some 2) none (.mv (.t 24))] [2])
         .ret)))))

/-- internal/strconv.bool2[int] -/
def v239 : VFun where
  params := 1
  results := [.tmp 2]
  fin := []
  thr := false
  body :=
    (.seq
     (.region [.op (some 2) none (.mv (.c (.int .i64 0)))] [0])
     (.seq
      (.seq
       (.region [.op (some 3) none (.mv (.t 0))] [3])
       (.cond (.t 3)
        (.seq
         (.region [.op (some 2) none (.mv (.c (.int .i64 1)))] [2])
         .ret)
        .skip))
      (.seq
       (.region [.op (some 2) none (.mv (.c (.int .i64 0)))] [2])
       .ret)))

/-- internal/strconv.isPowerOfTwo -/
def v240 : VFun where
  params := 1
  results := [.tmp 2]
  fin := []
  thr := false
  body :=
    (.seq
     (.region [.op (some 2) none (.mv (.c (.bool false)))] [0])
     (.seq
      (.region [.op (some 3) none (.mv (.t 0)),
        .op (some 4) none (.mv (.t 0)),
        .op (some 5) none (.bin 0 .sub (.t 4) (.c (.int .i64 1))),
        .op (some 6) none (.bin 0 .and (.t 3) (.t 5)),
        .op (some 7) none (.bin 0 .eql (.t 6) (.c (.int .i64 0))),
        .op (some 2) none (.mv (.t 7))] [2])
      .ret))

/-- math/bits.TrailingZeros -/
def v241 : VFun where
  params := 1
  results := [.tmp 2]
  fin := []
  thr := false
  body :=
    (.seq
     (.region [.op (some 2) none (.mv (.c (.int .i64 0)))] [0])
     (.seq
      (.cond (.c (.bool false))
       (.seq
        (.region [.op (some 3) none (.mv (.t 0)),
          .op (some 4) none (.cint .u32 (.t 3)),
          .op (some 5) none (.call 256 [(false, (.t 4))] none),
          .op (some 2) none (.mv (.t 5))] [2])
        .ret)
       .skip)
      (.seq
       (.region [.op (some 6) none (.mv (.t 0)),
         .op (some 7) none (.call 257 [(false, (.t 6))] none),
         .op (some 2) none (.mv (.t 7))] [2])
       .ret)))

/-- schisma/fraction.Check -/
def v243 : VFun where
  params := 1
  results := [.tmp 2]
  fin := []
  thr := false
  body :=
    (.seq
     (.region [.op (some 1) none (.boxi (.t 0)),
       .op (some 2) none (.mv (.c (.int .i64 0)))] [1])
     (.seq
      (.block 0
       (.seq
        (.seq
         (.region [.op (some 4) none (.fadi 0 (.t 1)),
           .op (some 5) none (.loadi none (.t 4)),
           .op (some 6) none (.call 258 [(false, (.t 5))] none),
           .op (some 7) none (.bin 0 .neq (.t 6) (.c (.int .i64 0))),
           .op (some 3) none (.mv (.t 7))] [1, 3])
         (.cond (.t 3)
          .skip
          (.region [.op (some 8) none (.fadi 1 (.t 1)),
            .op (some 9) none (.loadi none (.t 8)),
            .op (some 10) none (.call 258 [(false, (.t 9))] none),
            .op (some 11) none (.bin 0 .neq (.t 10) (.c (.int .i64 0))),
            .op (some 3) none (.mv (.t 11))] [1, 3])))
        (.cond (.t 3)
         (.seq
          (.region [.op (some 2) none (.mv (.c (.int .i64 2)))] [2])
          .ret)
         (.seq
          (.seq
           (.region [.op (some 13) none (.fadi 1 (.t 1)),
             .op (some 14) none (.loadi none (.t 13)),
             .op (some 15) none (.call 139 [(false, (.t 14))] none),
             .op (some 16) none (.bin 0 .leq (.t 15) (.c (.int .i64 0))),
             .op (some 12) none (.mv (.t 16))] [1, 12])
           (.cond (.t 12)
            .skip
            (.region [.op (some 17) none (.fadi 0 (.t 1)),
              .op (some 18) none (.loadi none (.t 17)),
              .op (some 19) none (.fadi 1 (.t 1)),
              .op (some 20) none (.loadi none (.t 19)),
              .op (some 21) none (.call 259 [(false, (.t 18)), (false, (.t 20))] none),
              .op (some 22) none (.bin 0 .neq (.t 21) (.c (sI [49]))),
              .op (some 12) none (.mv (.t 22))] [12])))
          (.cond (.t 12)
           (.seq
            (.region [.op (some 2) none (.mv (.c (.int .i64 2)))] [2])
            .ret)
           .skip)))))
      (.seq
       (.region [.op (some 2) none (.mv (.c (.int .i64 0)))] [2])
       .ret)))

/-- schisma/size.short -/
def v244 : VFun where
  params := 1
  results := [.tmp 2]
  fin := []
  thr := false
  body :=
    (.seq
     (.region [.op (some 1) none (.boxi (.t 0)),
       .op (some 2) none (.mv (.c (.bool false)))] [1])
     (.seq
      (.region [.op (some 3) none (.fadi 0 (.t 1)),
        .op (some 4) none (.loadi none (.t 3)),
        .op (some 5) none (.call 138 [(false, (.t 4))] none),
        .op (some 6) none (.len true (.t 5)),
        .op (some 7) none (.bin 0 .leq (.t 6) (.c (.int .i64 30))),
        .op (some 8) none (.mv (.t 7)),
        .op (some 9) (some (8, true)) (.fadi 1 (.t 1)),
        .op (some 10) (some (8, true)) (.loadi none (.t 9)),
        .op (some 11) (some (8, true)) (.len true (.t 10)),
        .op (some 12) (some (8, true)) (.bin 0 .leq (.t 11) (.c (.int .i64 30))),
        .op (some 13) none (.pick (.t 8) (.t 12) (.c (.bool false))),
        .op (some 2) none (.mv (.t 13))] [2])
      .ret))

/-- schisma/decimal.Lcm -/
def v245 : VFun where
  params := 2
  results := [.tmp 4]
  fin := []
  thr := false
  body :=
    (.seq
     (.region [.op (some 4) none (.mv (.c (sI [])))] [0, 1])
     (.seq
      (.seq
       (.region [.op (some 8) none (.mv (.t 0)),
         .op (some 9) none (.bin 0 .eql (.t 8) (.c (sI [48]))),
         .op (some 10) none (.mv (.t 9)),
         .op (some 11) (some (10, false)) (.mv (.t 1)),
         .op (some 12) (some (10, false)) (.bin 0 .eql (.t 11) (.c (sI [48]))),
         .op (some 13) none (.pick (.t 10) (.c (.bool true)) (.t 12))] [0, 1, 13])
       (.cond (.t 13)
        (.seq
         (.region [.op (some 4) none (.mv (.c (sI [48])))] [4])
         .ret)
        .skip))
      (.seq
       (.region [.op (some 15) none (.mv (.t 0)),
         .op (some 16) none (.mv (.t 0)),
         .op (some 17) none (.mv (.t 1)),
         .op (some 18) none (.call 260 [(false, (.t 16)), (false, (.t 17))] none),
         .op (some 19) none (.call 155 [(false, (.t 15)), (false, (.t 18))] none),
         .op (some 14) none (.mv (.t 19)),
         .op (some 20) none (.ext (.t 14) 0),
         .op (some 21) none (.ext (.t 14) 1),
         .op (some 22) none (.ext (.t 14) 2),
         .op (some 5) none (.mv (.t 20)),
         .op (some 6) none (.mv (.t 21)),
         .op (some 7) none (.mv (.t 22))] [1, 5, 7])
       (.seq
        (.seq
         (.region [.op (some 23) none (.mv (.t 7)),
           .op (some 24) none (.bin 0 .neq (.t 23) (.c (.int .i64 0)))] [1, 5, 24])
         (.cond (.t 24)
          (.seq
           (.region [.op (some 4) none (.mv (.c (sI [])))] [4])
           .ret)
          .skip))
        (.seq
         (.region [.op (some 25) none (.mv (.t 5)),
           .op (some 26) none (.mv (.t 1)),
           .op (some 27) none (.call 149 [(false, (.t 25)), (false, (.t 26))] none),
           .op (some 4) none (.mv (.t 27))] [4])
         .ret)))))

/-- schisma/fraction.Sign -/
def v246 : VFun where
  params := 1
  results := [.tmp 2]
  fin := []
  thr := false
  body :=
    (.seq
     (.region [.op (some 1) none (.boxi (.t 0)),
       .op (some 2) none (.mv (.c (.int .i64 0)))] [1])
     (.seq
      (.region [.op (some 3) none (.fadi 0 (.t 1)),
        .op (some 4) none (.loadi none (.t 3)),
        .op (some 5) none (.call 139 [(false, (.t 4))] none),
        .op (some 2) none (.mv (.t 5))] [2])
      .ret))

/-- schisma/fraction.lowest -/
def v247 : VFun where
  params := 2
  results := [.cell 4 (some 2)]
  fin := []
  thr := false
  body :=
    (.seq
     (.region [.op (some 4) none (.alloc [sI [], sI []] (some 100))] [0, 1, 4])
     (.seq
      (.seq
       (.region [.op (some 6) none (.mv (.t 1)),
         .op (some 7) none (.call 139 [(false, (.t 6))] none),
         .op (some 8) none (.bin 0 .lss (.t 7) (.c (.int .i64 0)))] [0, 1, 4, 8])
       (.cond (.t 8)
        (.region [.op (some 9) none (.mv (.t 0)),
          .op (some 10) none (.call 169 [(false, (.t 9))] none),
          .op (some 11) none (.mv (.t 1)),
          .op (some 12) none (.call 169 [(false, (.t 11))] none),
          .op (some 0) none (.mv (.t 10)),
          .op (some 1) none (.mv (.t 12))] [0, 1, 4])
        .skip))
      (.seq
       (.seq
        (.region [.op (some 13) none (.mv (.t 0)),
          .op (some 14) none (.mv (.t 1)),
          .op (some 15) none (.call 259 [(false, (.t 13)), (false, (.t 14))] none),
          .op (some 5) none (.mv (.t 15))] [0, 1, 4, 5])
        (.seq
         (.region [.op (some 16) none (.mv (.t 5)),
           .op (some 17) none (.bin 0 .neq (.t 16) (.c (sI [49])))] [0, 1, 4, 5, 17])
         (.cond (.t 17)
          (.seq
           (.region [.op (some 19) none (.mv (.t 0)),
             .op (some 20) none (.mv (.t 5)),
             .op (some 21) none (.call 112 [(false, (.t 19)), (false, (.t 20))] none),
             .op (some 18) none (.mv (.t 21)),
             .op (some 22) none (.ext (.t 18) 0),
             .op (some 23) none (.ext (.t 18) 1),
             .op (some 24) none (.ext (.t 18) 2),
             .op (some 0) none (.mv (.t 22))] [0, 1, 4, 5])
           (.region [.op (some 26) none (.mv (.t 1)),
             .op (some 27) none (.mv (.t 5)),
             .op (some 28) none (.call 112 [(false, (.t 26)), (false, (.t 27))] none),
             .op (some 25) none (.mv (.t 28)),
             .op (some 29) none (.ext (.t 25) 0),
             .op (some 30) none (.ext (.t 25) 1),
             .op (some 31) none (.ext (.t 25) 2),
             .op (some 1) none (.mv (.t 29))] [0, 1, 4]))
          .skip)))
       (.seq
        (.region [.op (some 32) none (.mv (.t 0)),
          .op (some 33) none (.mv (.t 1)),
          .op (some 34) none (.build [sI [], sI []] [(0, 1, (.t 32)), (1, 1, (.t 33))]),
          .op none none (.store 2 (.t 4) (.t 34))] [4])
        .ret))))

/-- schisma/fraction.both -/
def v248 : VFun where
  params := 1
  results := [.tmp 2, .tmp 3, .tmp 4]
  fin := []
  thr := false
  body :=
    (.seq
     (.region [.op (some 1) none (.boxi (.t 0)),
       .op (some 2) none (.mv (.c (.int .i64 0))),
       .op (some 3) none (.mv (.c (.int .i64 0))),
       .op (some 4) none (.mv (.c (.bool false)))] [1])
     (.seq
      (.region [.op (some 8) none (.fadi 0 (.t 1)),
        .op (some 9) none (.loadi none (.t 8)),
        .op (some 10) none (.call 261 [(false, (.t 9))] none),
        .op (some 7) none (.mv (.t 10)),
        .op (some 11) none (.ext (.t 7) 0),
        .op (some 12) none (.ext (.t 7) 1),
        .op (some 2) none (.mv (.t 11)),
        .op (some 5) none (.mv (.t 12))] [1, 2, 5])
      (.seq
       (.region [.op (some 14) none (.fadi 1 (.t 1)),
         .op (some 15) none (.loadi none (.t 14)),
         .op (some 16) none (.call 261 [(false, (.t 15))] none),
         .op (some 13) none (.mv (.t 16)),
         .op (some 17) none (.ext (.t 13) 0),
         .op (some 18) none (.ext (.t 13) 1),
         .op (some 3) none (.mv (.t 17)),
         .op (some 6) none (.mv (.t 18))] [2, 3, 5, 6])
       (.seq
        (.region [.op (some 19) none (.mv (.t 2)),
          .op (some 20) none (.mv (.t 3)),
          .op (some 21) none (.mv (.t 5)),
          .op (some 22) none (.mv (.t 21)),
          .op (some 23) (some (22, true)) (.mv (.t 6)),
          .op (some 24) none (.pick (.t 22) (.t 23) (.c (.bool false))),
          .op (some 2) none (.mv (.t 19)),
          .op (some 3) none (.mv (.t 20)),
          .op (some 4) none (.mv (.t 24))] [2, 3, 4])
        .ret))))

def v249_0 : VC :=
    (.seq
     (.seq
      (.region [.op (some 9) none (.mv (.t 6)),
        .op (some 10) none (.bin 0 .neq (.t 9) (.c (.int .i64 0)))] [0, 1, 4, 5, 6, 10])
      (.cond (.t 10)
       .skip
       (.exit 0)))
     (.block 1
      (.region [.op (some 11) none (.mv (.t 6)),
        .op (some 12) none (.mv (.t 5)),
        .op (some 13) none (.mv (.t 6)),
        .op (some 14) none (.bin 0 .rem (.t 12) (.t 13)),
        .op (some 5) none (.mv (.t 11)),
        .op (some 6) none (.mv (.t 14))] [0, 1, 4, 5, 6])))
/-- schisma/fraction.of -/
def v249 : VFun where
  params := 2
  results := [.cell 4 (some 2)]
  fin := []
  thr := false
  body :=
    (.seq
     (.region [.op (some 4) none (.alloc [sI [], sI []] (some 100))] [0, 1, 4])
     (.seq
      (.region [.op (some 7) none (.mv (.t 0)),
        .op (some 8) none (.mv (.t 1)),
        .op (some 5) none (.mv (.t 7)),
        .op (some 6) none (.mv (.t 8))] [0, 1, 4, 5, 6])
      (.seq
       (.block 0
        (.loop v249_0))
       (.seq
        (.seq
         (.region [.op (some 15) none (.mv (.t 5)),
           .op (some 16) none (.bin 0 .lss (.t 15) (.c (.int .i64 0)))] [0, 1, 4, 5, 16])
         (.cond (.t 16)
          (.region [.op (some 17) none (.mv (.t 5)),
            .op (some 18) none (.un .neg (.t 17)),
            .op (some 5) none (.mv (.t 18))] [0, 1, 4, 5])
          .skip))
        (.seq
         (.region [.op (some 19) none (.mv (.t 0)),
           .op (some 20) none (.mv (.t 5)),
           .op (some 21) none (.bin 0 .quo (.t 19) (.t 20)),
           .op (some 22) none (.call 127 [(false, (.t 21))] none),
           .op (some 23) none (.mv (.t 1)),
           .op (some 24) none (.mv (.t 5)),
           .op (some 25) none (.bin 0 .quo (.t 23) (.t 24)),
           .op (some 26) none (.call 127 [(false, (.t 25))] none),
           .op (some 27) none (.build [sI [], sI []] [(0, 1, (.t 22)), (1, 1, (.t 26))]),
           .op none none (.storel 100 2 (.t 4) (.t 27))] [4])
         .ret)))))

def v250_0 : VC :=
    (.seq
     (.region [.op (some 22) none (.bin 0 .lss (.t 21) (.c (.int .i64 26)))] [5, 6, 7, 21, 22])
     (.seq
      (.cond (.t 22)
       .skip
       (.exit 0))
      (.seq
       (.block 1
        (.seq
         (.region [.op (some 24) none (.mv (.t 5)),
           .op (some 25) none (.mv (.t 5)),
           .op (some 26) none (.call 255 [(false, (.t 24)), (false, (.t 25))] none),
           .op (some 23) none (.mv (.t 26)),
           .op (some 27) none (.ext (.t 23) 0),
           .op (some 28) none (.ext (.t 23) 1),
           .op (some 8) none (.mv (.t 27)),
           .op (some 9) none (.mv (.t 28))] [6, 7, 8, 9, 21])
         (.seq
          (.region [.op (some 29) none (.mv (.t 8)),
            .op (some 30) none (.bin 0 .shl (.t 29) (.c (.int .u64 2))),
            .op (some 31) none (.mv (.t 9)),
            .op (some 32) none (.bin 0 .shr (.t 31) (.c (.int .u64 62))),
            .op (some 33) none (.bin 0 .or (.t 30) (.t 32)),
            .op (some 5) none (.mv (.t 33))] [5, 6, 7, 21])
          (.seq
           (.region [.op (some 35) none (.mv (.t 6)),
             .op (some 36) none (.mv (.t 6)),
             .op (some 37) none (.call 255 [(false, (.t 35)), (false, (.t 36))] none),
             .op (some 34) none (.mv (.t 37)),
             .op (some 38) none (.ext (.t 34) 0),
             .op (some 39) none (.ext (.t 34) 1),
             .op (some 8) none (.mv (.t 38)),
             .op (some 9) none (.mv (.t 39))] [5, 7, 8, 9, 21])
           (.seq
            (.region [.op (some 40) none (.mv (.t 8)),
              .op (some 41) none (.bin 0 .shl (.t 40) (.c (.int .u64 2))),
              .op (some 42) none (.mv (.t 9)),
              .op (some 43) none (.bin 0 .shr (.t 42) (.c (.int .u64 62))),
              .op (some 44) none (.bin 0 .or (.t 41) (.t 43)),
              .op (some 45) none (.bin 0 .add (.t 44) (.c (.int .u64 1))),
              .op (some 6) none (.mv (.t 45))] [5, 6, 7, 21])
            (.seq
             (.region [.op (some 46) none (.mv (.t 7)),
               .op (some 47) none (.bin 0 .mul (.t 46) (.c (.int .i64 2))),
               .op (some 7) none (.mv (.t 47))] [5, 6, 7, 21])
             (.seq
              (.region [.op (some 48) none (.mv (.t 5)),
                .op (some 49) none (.bin 0 .geq (.t 48) (.c (.int .u64 9223372036854775808)))] [5, 6, 7, 21, 49])
              (.cond (.t 49)
               (.seq
                (.region [.op (some 50) none (.mv (.t 7)),
                  .op (some 51) none (.bin 0 .add (.t 50) (.c (.int .i64 1))),
                  .op (some 7) none (.mv (.t 51))] [5, 6, 7, 21])
                (.region [.op (some 52) none (.mv (.t 5)),
                  .op (some 53) none (.bin 0 .shr (.t 52) (.c (.int .u64 1))),
                  .op (some 54) none (.mv (.t 6)),
                  .op (some 55) none (.bin 0 .shr (.t 54) (.c (.int .u64 1))),
                  .op (some 56) none (.bin 0 .add (.t 55) (.c (.int .u64 1))),
                  .op (some 5) none (.mv (.t 53)),
                  .op (some 6) none (.mv (.t 56))] [5, 6, 7, 21]))
               (.seq
                (.region [.op (some 57) none (.mv (.t 6)),
                  .op (some 58) none (.bin 0 .geq (.t 57) (.c (.int .u64 9223372036854775808)))] [5, 6, 7, 21, 58])
                (.cond (.t 58)
                 (.seq
                  (.region [.op (some 2) none (.mv (.c (.int .i64 0))),
                    .op (some 3) none (.mv (.c (.bool false)))] [2, 3])
                  .ret)
                 .skip))))))))))
       (.region [.op (some 59) none (.bin 0 .add (.t 21) (.c (.int .i64 1))),
         .op (some 21) none (.mv (.t 59))] [5, 6, 7, 21]))))
/-- schisma/size.fast -/
def v250 : VFun where
  params := 1
  results := [.tmp 2, .tmp 3]
  fin := []
  thr := false
  body :=
    (.seq
     (.region [.op (some 2) none (.mv (.c (.int .i64 0))),
       .op (some 3) none (.mv (.c (.bool false)))] [0])
     (.seq
      (.region [.op (some 10) none (.mv (.t 0)),
        .op (some 11) none (.cint .u64 (.t 10)),
        .op (some 12) none (.call 262 [(false, (.t 11))] none),
        .op (some 13) none (.bin 0 .sub (.t 12) (.c (.int .i64 1))),
        .op (some 4) none (.mv (.t 13))] [0, 4])
      (.seq
       (.region [.op (some 14) none (.mv (.t 0)),
         .op (some 15) none (.cint .u64 (.t 14)),
         .op (some 16) none (.mv (.t 4)),
         .op (some 17) none (.bin 0 .sub (.c (.int .i64 62)) (.t 16)),
         .op (some 18) none (.bin 0 .shl (.t 15) (.t 17)),
         .op (some 5) none (.mv (.t 18))] [4, 5])
       (.seq
        (.region [.op (some 19) none (.mv (.t 5)),
          .op (some 6) none (.mv (.t 19))] [4, 5, 6])
        (.seq
         (.region [.op (some 20) none (.mv (.t 4)),
           .op (some 7) none (.mv (.t 20))] [5, 6, 7])
         (.seq
          (.seq
           (.region [.op (some 21) none (.mv (.c (.int .i64 0)))] [5, 6, 7, 21])
           (.block 0
            (.loop v250_0)))
          (.seq
           (.region [.op (some 60) none (.mv (.t 7)),
             .op (some 2) none (.mv (.t 60)),
             .op (some 3) none (.mv (.c (.bool true)))] [2, 3])
           .ret)))))))

def v251_0 : VC :=
    (.seq
     (.region [.op (some 9) none (.bin 0 .lss (.t 8) (.t 7))] [0, 1, 6, 7, 8, 9])
     (.seq
      (.cond (.t 9)
       .skip
       (.exit 0))
      (.seq
       (.block 1
        (.seq
         (.region [.op (some 10) none (.mv (.t 8)),
           .op (some 11) none (.iad 1 (.t 6) (.t 8)),
           .op (some 12) none (.load none (.t 11)),
           .op (some 3) none (.mv (.t 10)),
           .op (some 4) none (.mv (.t 12))] [0, 1, 3, 4, 6, 7, 8])
         (.seq
          (.region [.op (some 13) none (.mv (.t 0)),
            .op (some 14) none (.mv (.t 4)),
            .op (some 15) none (.fad 1 (.t 1)),
            .op (some 16) none (.load none (.t 15)),
            .op (some 17) none (.mv (.t 3)),
            .op (some 18) none (.iad 1 (.t 16) (.t 17)),
            .op (some 19) none (.load none (.t 18)),
            .op (some 20) none (.callv (.t 13) [(false, (.t 14)), (false, (.t 19))] none),
            .op (some 21) none (.un .not (.t 20))] [0, 1, 6, 7, 8, 21])
          (.cond (.t 21)
           .ret
           .skip))))
       (.region [.op (some 22) none (.bin 0 .add (.t 8) (.c (.int .i64 1))),
         .op (some 8) none (.mv (.t 22))] [0, 1, 6, 7, 8]))))
/-- (schisma/size.terms).all$1 -/
def v251 : VFun where
  params := 2
  results := []
  fin := []
  thr := false
  body :=
    (.seq
     (.region [.op (some 5) none (.fad 0 (.t 1)),
       .op (some 6) none (.load none (.t 5)),
       .op (some 7) none (.len false (.t 6)),
       .op (some 8) none (.mv (.c (.int .i64 0)))] [0, 1, 6, 7, 8])
     (.block 0
      (.loop v251_0)))

/-- schisma/whole.Power -/
def v252 : VFun where
  params := 2
  results := [.tmp 4, .tmp 5]
  fin := []
  thr := false
  body :=
    (.seq
     (.region [.op (some 4) none (.mv (.c (sI []))),
       .op (some 5) none (.mv (.c (.int .i64 0)))] [0, 1])
     (.seq
      (.seq
       (.region [.op (some 10) none (.mv (.t 1)),
         .op (some 11) none (.bin 0 .lss (.t 10) (.c (.int .i64 0)))] [0, 1, 11])
       (.cond (.t 11)
        (.seq
         (.region [.op (some 4) none (.mv (.c (sI []))),
           .op (some 5) none (.mv (.c (.int .i64 3)))] [4, 5])
         .ret)
        .skip))
      (.seq
       (.region [.op (some 13) none (.mv (.t 0)),
         .op (some 14) none (.call 144 [(false, (.t 13))] none),
         .op (some 12) none (.mv (.t 14)),
         .op (some 15) none (.ext (.t 12) 0),
         .op (some 16) none (.ext (.t 12) 1),
         .op (some 6) none (.mv (.t 15)),
         .op (some 7) none (.mv (.t 16))] [1, 6, 7])
       (.seq
        (.seq
         (.region [.op (some 17) none (.mv (.t 1)),
           .op (some 18) none (.mv (.t 7)),
           .op (some 19) none (.len true (.t 18)),
           .op (some 20) none (.bin 0 .quo (.c (.int .i64 4000)) (.t 19)),
           .op (some 21) none (.bin 0 .gtr (.t 17) (.t 20))] [1, 6, 7, 21])
         (.cond (.t 21)
          (.seq
           (.region [.op (some 4) none (.mv (.c (sI []))),
             .op (some 5) none (.mv (.c (.int .i64 4)))] [4, 5])
           .ret)
          .skip))
        (.seq
         (.region [.op (some 23) none (.mv (.t 7)),
           .op (some 24) none (.mv (.t 1)),
           .op (some 25) none (.call 263 [(false, (.t 23)), (false, (.t 24))] none),
           .op (some 22) none (.mv (.t 25)),
           .op (some 26) none (.ext (.t 22) 0),
           .op (some 27) none (.ext (.t 22) 1),
           .op (some 8) none (.mv (.t 26)),
           .op (some 9) none (.mv (.t 27))] [1, 6, 8, 9])
         (.seq
          (.seq
           (.region [.op (some 28) none (.mv (.t 9)),
             .op (some 29) none (.bin 0 .neq (.t 28) (.c (.int .i64 0)))] [1, 6, 8, 9, 29])
           (.cond (.t 29)
            (.seq
             (.region [.op (some 30) none (.mv (.t 9)),
               .op (some 4) none (.mv (.c (sI []))),
               .op (some 5) none (.mv (.t 30))] [4, 5])
             .ret)
            .skip))
          (.seq
           (.region [.op (some 31) none (.mv (.t 6)),
             .op (some 32) none (.mv (.t 31)),
             .op (some 33) (some (32, true)) (.mv (.t 1)),
             .op (some 34) (some (32, true)) (.bin 0 .rem (.t 33) (.c (.int .i64 2))),
             .op (some 35) (some (32, true)) (.bin 0 .eql (.t 34) (.c (.int .i64 1))),
             .op (some 36) none (.pick (.t 32) (.t 35) (.c (.bool false))),
             .op (some 37) none (.mv (.t 8)),
             .op (some 38) none (.call 145 [(false, (.t 36)), (false, (.t 37))] none),
             .op (some 4) none (.mv (.t 38)),
             .op (some 5) none (.mv (.c (.int .i64 0)))] [4, 5])
           .ret)))))))

def v253_0 : VC :=
    (.seq
     (.region [.op (some 51) none (.bin 0 .lss (.t 50) (.t 49))] [9, 11, 14, 15, 16, 49, 50, 51])
     (.seq
      (.cond (.t 51)
       .skip
       (.exit 0))
      (.seq
       (.block 1
        (.seq
         (.region [.op (some 53) none (.mv (.t 14)),
           .op (some 54) none (.mv (.t 14)),
           .op (some 55) none (.call 95 [(false, (.t 53)), (false, (.t 54))] none),
           .op (some 56) none (.mv (.t 9)),
           .op (some 57) none (.call 112 [(false, (.t 55)), (false, (.t 56))] none),
           .op (some 52) none (.mv (.t 57)),
           .op (some 58) none (.ext (.t 52) 0),
           .op (some 59) none (.ext (.t 52) 1),
           .op (some 60) none (.ext (.t 52) 2),
           .op (some 14) none (.mv (.t 58))] [9, 11, 14, 15, 16, 49, 50])
         (.seq
          (.region [.op (some 62) none (.mv (.t 15)),
            .op (some 63) none (.mv (.t 15)),
            .op (some 64) none (.call 95 [(false, (.t 62)), (false, (.t 63))] none),
            .op (some 65) none (.mv (.t 9)),
            .op (some 66) none (.call 112 [(false, (.t 64)), (false, (.t 65))] none),
            .op (some 61) none (.mv (.t 66)),
            .op (some 67) none (.ext (.t 61) 0),
            .op (some 68) none (.ext (.t 61) 1),
            .op (some 69) none (.ext (.t 61) 2),
            .op (some 17) none (.mv (.t 67)),
            .op (some 18) none (.mv (.t 68)),
            .op (some 19) none (.mv (.t 69))] [9, 11, 14, 16, 17, 49, 50])
          (.seq
           (.region [.op (some 70) none (.mv (.t 17)),
             .op (some 71) none (.call 94 [(false, (.t 70)), (false, (.c (sI [49])))] none),
             .op (some 15) none (.mv (.t 71))] [9, 11, 14, 15, 16, 49, 50])
           (.seq
            (.region [.op (some 72) none (.mv (.t 16)),
              .op (some 73) none (.mv (.t 16)),
              .op (some 74) none (.call 94 [(false, (.t 72)), (false, (.t 73))] none),
              .op (some 16) none (.mv (.t 74))] [9, 11, 14, 15, 16, 49, 50])
            (.block 2
             (.seq
              (.region [.op (some 76) none (.mv (.t 14)),
                .op (some 77) none (.mv (.t 11)),
                .op (some 78) none (.call 137 [(false, (.t 76)), (false, (.t 77))] none),
                .op (some 79) none (.bin 0 .geq (.t 78) (.c (.int .i64 0))),
                .op (some 75) none (.mv (.t 79))] [9, 11, 14, 15, 16, 49, 50, 75])
              (.cond (.t 75)
               (.seq
                (.region [.op (some 80) none (.mv (.t 16)),
                  .op (some 81) none (.call 94 [(false, (.t 80)), (false, (.c (sI [49])))] none),
                  .op (some 16) none (.mv (.t 81))] [9, 11, 14, 15, 16, 49, 50])
                (.seq
                 (.region [.op (some 83) none (.mv (.t 14)),
                   .op (some 84) none (.call 112 [(false, (.t 83)), (false, (.c (sI [50])))] none),
                   .op (some 82) none (.mv (.t 84)),
                   .op (some 85) none (.ext (.t 82) 0),
                   .op (some 86) none (.ext (.t 82) 1),
                   .op (some 87) none (.ext (.t 82) 2),
                   .op (some 14) none (.mv (.t 85))] [9, 11, 14, 15, 16, 49, 50])
                 (.seq
                  (.region [.op (some 89) none (.mv (.t 15)),
                    .op (some 90) none (.call 112 [(false, (.t 89)), (false, (.c (sI [50])))] none),
                    .op (some 88) none (.mv (.t 90)),
                    .op (some 91) none (.ext (.t 88) 0),
                    .op (some 92) none (.ext (.t 88) 1),
                    .op (some 93) none (.ext (.t 88) 2),
                    .op (some 20) none (.mv (.t 91)),
                    .op (some 21) none (.mv (.t 92)),
                    .op (some 22) none (.mv (.t 93))] [9, 11, 14, 16, 20, 49, 50])
                  (.region [.op (some 94) none (.mv (.t 20)),
                    .op (some 95) none (.call 94 [(false, (.t 94)), (false, (.c (sI [49])))] none),
                    .op (some 15) none (.mv (.t 95))] [9, 11, 14, 15, 16, 49, 50]))))
               (.seq
                (.region [.op (some 97) none (.mv (.t 15)),
                  .op (some 98) none (.mv (.t 11)),
                  .op (some 99) none (.call 137 [(false, (.t 97)), (false, (.t 98))] none),
                  .op (some 100) none (.bin 0 .geq (.t 99) (.c (.int .i64 0))),
                  .op (some 96) none (.mv (.t 100))] [9, 11, 14, 15, 16, 49, 50, 96])
                (.cond (.t 96)
                 (.seq
                  (.region [.op (some 6) none (.mv (.c (sI []))),
                    .op (some 7) none (.mv (.c (.bool false)))] [6, 7])
                  .ret)
                 .skip))))))))))
       (.region [.op (some 101) none (.bin 0 .add (.t 50) (.c (.int .i64 1))),
         .op (some 50) none (.mv (.t 101))] [9, 11, 14, 15, 16, 49, 50]))))
/-- schisma/size.digits -/
def v253 : VFun where
  params := 3
  results := [.tmp 6, .tmp 7]
  fin := []
  thr := false
  body :=
    (.seq
     (.region [.op (some 6) none (.mv (.c (sI []))),
       .op (some 7) none (.mv (.c (.bool false)))] [0, 1, 2])
     (.seq
      (.region [.op (some 23) none (.mv (.t 0)),
        .op (some 24) none (.cint .u64 (.t 23)),
        .op (some 25) none (.call 262 [(false, (.t 24))] none),
        .op (some 26) none (.bin 0 .sub (.t 25) (.c (.int .i64 1))),
        .op (some 8) none (.mv (.t 26))] [0, 1, 2, 8])
      (.seq
       (.region [.op (some 28) none (.mv (.t 2)),
         .op (some 29) none (.call 252 [(false, (.c (sI [50]))), (false, (.t 28))] none),
         .op (some 27) none (.mv (.t 29)),
         .op (some 30) none (.ext (.t 27) 0),
         .op (some 31) none (.ext (.t 27) 1),
         .op (some 9) none (.mv (.t 30)),
         .op (some 10) none (.mv (.t 31))] [0, 1, 2, 8, 9])
       (.seq
        (.region [.op (some 32) none (.mv (.t 9)),
          .op (some 33) none (.mv (.t 9)),
          .op (some 34) none (.call 94 [(false, (.t 32)), (false, (.t 33))] none),
          .op (some 11) none (.mv (.t 34))] [0, 1, 2, 8, 9, 11])
        (.seq
         (.region [.op (some 36) none (.mv (.t 2)),
           .op (some 37) none (.mv (.t 8)),
           .op (some 38) none (.bin 0 .sub (.t 36) (.t 37)),
           .op (some 39) none (.call 252 [(false, (.c (sI [50]))), (false, (.t 38))] none),
           .op (some 35) none (.mv (.t 39)),
           .op (some 40) none (.ext (.t 35) 0),
           .op (some 41) none (.ext (.t 35) 1),
           .op (some 12) none (.mv (.t 40)),
           .op (some 13) none (.mv (.t 41))] [0, 1, 8, 9, 11, 12])
         (.seq
          (.region [.op (some 42) none (.mv (.t 0)),
            .op (some 43) none (.call 96 [(false, (.t 42))] none),
            .op (some 44) none (.mv (.t 12)),
            .op (some 45) none (.call 95 [(false, (.t 43)), (false, (.t 44))] none),
            .op (some 14) none (.mv (.t 45))] [1, 8, 9, 11, 14])
          (.seq
           (.region [.op (some 46) none (.mv (.t 14)),
             .op (some 15) none (.mv (.t 46))] [1, 8, 9, 11, 14, 15])
           (.seq
            (.region [.op (some 47) none (.mv (.t 8)),
              .op (some 48) none (.call 96 [(false, (.t 47))] none),
              .op (some 16) none (.mv (.t 48))] [1, 9, 11, 14, 15, 16])
            (.seq
             (.seq
              (.region [.op (some 49) none (.mv (.t 1)),
                .op (some 50) none (.mv (.c (.int .i64 0)))] [9, 11, 14, 15, 16, 49, 50])
              (.block 0
               (.loop v253_0)))
             (.seq
              (.region [.op (some 102) none (.mv (.t 16)),
                .op (some 6) none (.mv (.t 102)),
                .op (some 7) none (.mv (.c (.bool true)))] [6, 7])
              .ret))))))))))

/-- math/bits.Mul32 -/
def v254 : VFun where
  params := 2
  results := [.tmp 4, .tmp 5]
  fin := []
  thr := false
  body :=
    (.seq
     (.region [.op (some 4) none (.mv (.c (.int .u32 0))),
       .op (some 5) none (.mv (.c (.int .u32 0)))] [0, 1])
     (.seq
      (.region [.op (some 7) none (.mv (.t 0)),
        .op (some 8) none (.cint .u64 (.t 7)),
        .op (some 9) none (.mv (.t 1)),
        .op (some 10) none (.cint .u64 (.t 9)),
        .op (some 11) none (.bin 0 .mul (.t 8) (.t 10)),
        .op (some 6) none (.mv (.t 11))] [6])
      (.seq
       (.region [.op (some 12) none (.mv (.t 6)),
         .op (some 13) none (.bin 0 .shr (.t 12) (.c (.int .u64 32))),
         .op (some 14) none (.cint .u32 (.t 13)),
         .op (some 15) none (.mv (.t 6)),
         .op (some 16) none (.cint .u32 (.t 15)),
         .op (some 4) none (.mv (.t 14)),
         .op (some 5) none (.mv (.t 16))] [4, 5])
       .ret)))

/-- math/bits.Mul64 -/
def v255 : VFun where
  params := 2
  results := [.tmp 4, .tmp 5]
  fin := []
  thr := false
  body :=
    (.seq
     (.region [.op (some 4) none (.mv (.c (.int .u64 0))),
       .op (some 5) none (.mv (.c (.int .u64 0)))] [0, 1])
     (.seq
      (.region [.op (some 14) none (.mv (.t 0)),
        .op (some 15) none (.bin 0 .and (.t 14) (.c (.int .u64 4294967295))),
        .op (some 6) none (.mv (.t 15))] [0, 1, 6])
      (.seq
       (.region [.op (some 16) none (.mv (.t 0)),
         .op (some 17) none (.bin 0 .shr (.t 16) (.c (.int .u64 32))),
         .op (some 7) none (.mv (.t 17))] [0, 1, 6, 7])
       (.seq
        (.region [.op (some 18) none (.mv (.t 1)),
          .op (some 19) none (.bin 0 .and (.t 18) (.c (.int .u64 4294967295))),
          .op (some 8) none (.mv (.t 19))] [0, 1, 6, 7, 8])
        (.seq
         (.region [.op (some 20) none (.mv (.t 1)),
           .op (some 21) none (.bin 0 .shr (.t 20) (.c (.int .u64 32))),
           .op (some 9) none (.mv (.t 21))] [0, 1, 6, 7, 8, 9])
         (.seq
          (.region [.op (some 22) none (.mv (.t 6)),
            .op (some 23) none (.mv (.t 8)),
            .op (some 24) none (.bin 0 .mul (.t 22) (.t 23)),
            .op (some 10) none (.mv (.t 24))] [0, 1, 6, 7, 8, 9, 10])
          (.seq
           (.region [.op (some 25) none (.mv (.t 7)),
             .op (some 26) none (.mv (.t 8)),
             .op (some 27) none (.bin 0 .mul (.t 25) (.t 26)),
             .op (some 28) none (.mv (.t 10)),
             .op (some 29) none (.bin 0 .shr (.t 28) (.c (.int .u64 32))),
             .op (some 30) none (.bin 0 .add (.t 27) (.t 29)),
             .op (some 11) none (.mv (.t 30))] [0, 1, 6, 7, 9, 11])
           (.seq
            (.region [.op (some 31) none (.mv (.t 11)),
              .op (some 32) none (.bin 0 .and (.t 31) (.c (.int .u64 4294967295))),
              .op (some 12) none (.mv (.t 32))] [0, 1, 6, 7, 9, 11, 12])
            (.seq
             (.region [.op (some 33) none (.mv (.t 11)),
               .op (some 34) none (.bin 0 .shr (.t 33) (.c (.int .u64 32))),
               .op (some 13) none (.mv (.t 34))] [0, 1, 6, 7, 9, 12, 13])
             (.seq
              (.region [.op (some 35) none (.mv (.t 12)),
                .op (some 36) none (.mv (.t 6)),
                .op (some 37) none (.mv (.t 9)),
                .op (some 38) none (.bin 0 .mul (.t 36) (.t 37)),
                .op (some 39) none (.bin 0 .add (.t 35) (.t 38)),
                .op (some 12) none (.mv (.t 39))] [0, 1, 7, 9, 12, 13])
              (.seq
               (.region [.op (some 40) none (.mv (.t 7)),
                 .op (some 41) none (.mv (.t 9)),
                 .op (some 42) none (.bin 0 .mul (.t 40) (.t 41)),
                 .op (some 43) none (.mv (.t 13)),
                 .op (some 44) none (.bin 0 .add (.t 42) (.t 43)),
                 .op (some 45) none (.mv (.t 12)),
                 .op (some 46) none (.bin 0 .shr (.t 45) (.c (.int .u64 32))),
                 .op (some 47) none (.bin 0 .add (.t 44) (.t 46)),
                 .op (some 4) none (.mv (.t 47))] [0, 1, 4])
               (.seq
                (.region [.op (some 48) none (.mv (.t 0)),
                  .op (some 49) none (.mv (.t 1)),
                  .op (some 50) none (.bin 0 .mul (.t 48) (.t 49)),
                  .op (some 5) none (.mv (.t 50))] [4, 5])
                .ret))))))))))))

/-- math/bits.TrailingZeros32 -/
def v256 : VFun where
  params := 1
  results := [.tmp 2]
  fin := []
  thr := false
  body :=
    (.seq
     (.region [.op (some 2) none (.mv (.c (.int .i64 0)))] [0])
     (.seq
      (.seq
       (.region [.op (some 3) none (.mv (.t 0)),
         .op (some 4) none (.bin 0 .eql (.t 3) (.c (.int .u32 0)))] [0, 4])
       (.cond (.t 4)
        (.seq
         (.region [.op (some 2) none (.mv (.c (.int .i64 32)))] [2])
         .ret)
        .skip))
      (.seq
       .die
       .ret)))

/-- math/bits.TrailingZeros64 -/
def v257 : VFun where
  params := 1
  results := [.tmp 2]
  fin := []
  thr := false
  body :=
    (.seq
     (.region [.op (some 2) none (.mv (.c (.int .i64 0)))] [0])
     (.seq
      (.seq
       (.region [.op (some 3) none (.mv (.t 0)),
         .op (some 4) none (.bin 0 .eql (.t 3) (.c (.int .u64 0)))] [0, 4])
       (.cond (.t 4)
        (.seq
         (.region [.op (some 2) none (.mv (.c (.int .i64 64)))] [2])
         .ret)
        .skip))
      (.seq
       .die
       .ret)))

/-- schisma/whole.Check -/
def v258 : VFun where
  params := 1
  results := [.tmp 2]
  fin := []
  thr := false
  body :=
    (.seq
     (.region [.op (some 2) none (.mv (.c (.int .i64 0)))] [0])
     (.seq
      (.region [.op (some 6) none (.mv (.t 0)),
        .op (some 7) none (.call 144 [(false, (.t 6))] none),
        .op (some 5) none (.mv (.t 7)),
        .op (some 8) none (.ext (.t 5) 0),
        .op (some 9) none (.ext (.t 5) 1),
        .op (some 3) none (.mv (.t 8)),
        .op (some 4) none (.mv (.t 9))] [3, 4])
      (.seq
       (.seq
        (.region [.op (some 10) none (.mv (.t 3)),
          .op (some 11) none (.mv (.t 10)),
          .op (some 12) (some (11, true)) (.mv (.t 4)),
          .op (some 13) (some (11, true)) (.bin 0 .eql (.t 12) (.c (sI [48]))),
          .op (some 14) none (.pick (.t 11) (.t 13) (.c (.bool false))),
          .op (some 15) none (.mv (.t 14)),
          .op (some 16) (some (15, false)) (.mv (.t 4)),
          .op (some 17) (some (15, false)) (.call 264 [(false, (.t 16))] none),
          .op (some 18) (some (15, false)) (.bin 0 .neq (.t 17) (.c (.int .i64 0))),
          .op (some 19) none (.pick (.t 15) (.c (.bool true)) (.t 18))] [19])
        (.cond (.t 19)
         (.seq
          (.region [.op (some 2) none (.mv (.c (.int .i64 2)))] [2])
          .ret)
         .skip))
       (.seq
        (.region [.op (some 2) none (.mv (.c (.int .i64 0)))] [2])
        .ret))))

/-- schisma/whole.Gcd -/
def v259 : VFun where
  params := 2
  results := [.tmp 4]
  fin := []
  thr := false
  body :=
    (.seq
     (.region [.op (some 4) none (.mv (.c (sI [])))] [0, 1])
     (.seq
      (.region [.op (some 11) none (.mv (.t 0)),
        .op (some 12) none (.call 138 [(false, (.t 11))] none),
        .op (some 13) none (.mv (.t 1)),
        .op (some 14) none (.call 138 [(false, (.t 13))] none),
        .op (some 5) none (.mv (.t 12)),
        .op (some 6) none (.mv (.t 14))] [5, 6])
      (.seq
       (.seq
        (.region [.op (some 16) none (.mv (.t 5)),
          .op (some 17) none (.call 143 [(false, (.t 16)), (false, (.c (.int .i64 18)))] none),
          .op (some 15) none (.mv (.t 17)),
          .op (some 18) none (.ext (.t 15) 0),
          .op (some 19) none (.ext (.t 15) 1),
          .op (some 7) none (.mv (.t 18)),
          .op (some 8) none (.mv (.t 19))] [5, 6, 7, 8])
        (.seq
         (.region [.op (some 20) none (.mv (.t 8))] [5, 6, 7, 20])
         (.cond (.t 20)
          (.seq
           (.region [.op (some 22) none (.mv (.t 6)),
             .op (some 23) none (.call 143 [(false, (.t 22)), (false, (.c (.int .i64 18)))] none),
             .op (some 21) none (.mv (.t 23)),
             .op (some 24) none (.ext (.t 21) 0),
             .op (some 25) none (.ext (.t 21) 1),
             .op (some 9) none (.mv (.t 24)),
             .op (some 10) none (.mv (.t 25))] [5, 6, 7, 9, 10])
           (.seq
            (.region [.op (some 26) none (.mv (.t 10))] [5, 6, 7, 9, 26])
            (.cond (.t 26)
             (.seq
              (.region [.op (some 27) none (.mv (.t 7)),
                .op (some 28) none (.mv (.t 9)),
                .op (some 29) none (.call 265 [(false, (.t 27)), (false, (.t 28))] none),
                .op (some 30) none (.call 96 [(false, (.t 29))] none),
                .op (some 4) none (.mv (.t 30))] [4])
              .ret)
             .skip)))
          .skip)))
       (.seq
        (.region [.op (some 31) none (.mv (.t 5)),
          .op (some 32) none (.mv (.t 6)),
          .op (some 33) none (.call 260 [(false, (.t 31)), (false, (.t 32))] none),
          .op (some 4) none (.mv (.t 33))] [4])
        .ret))))

def v260_0 : VC :=
    (.seq
     (.seq
      (.region [.op (some 8) none (.mv (.t 1)),
        .op (some 9) none (.bin 0 .neq (.t 8) (.c (sI [48])))] [0, 1, 9])
      (.cond (.t 9)
       .skip
       (.exit 0)))
     (.block 1
      (.seq
       (.region [.op (some 11) none (.mv (.t 0)),
         .op (some 12) none (.mv (.t 1)),
         .op (some 13) none (.call 155 [(false, (.t 11)), (false, (.t 12))] none),
         .op (some 10) none (.mv (.t 13)),
         .op (some 14) none (.ext (.t 10) 0),
         .op (some 15) none (.ext (.t 10) 1),
         .op (some 16) none (.ext (.t 10) 2),
         .op (some 5) none (.mv (.t 14)),
         .op (some 6) none (.mv (.t 15)),
         .op (some 7) none (.mv (.t 16))] [1, 6, 7])
       (.seq
        (.seq
         (.region [.op (some 17) none (.mv (.t 7)),
           .op (some 18) none (.bin 0 .neq (.t 17) (.c (.int .i64 0)))] [1, 6, 18])
         (.cond (.t 18)
          (.seq
           (.region [.op (some 4) none (.mv (.c (sI [])))] [4])
           .ret)
          .skip))
        (.region [.op (some 19) none (.mv (.t 1)),
          .op (some 20) none (.mv (.t 6)),
          .op (some 0) none (.mv (.t 19)),
          .op (some 1) none (.mv (.t 20))] [0, 1])))))
/-- schisma/decimal.Gcd -/
def v260 : VFun where
  params := 2
  results := [.tmp 4]
  fin := []
  thr := false
  body :=
    (.seq
     (.region [.op (some 4) none (.mv (.c (sI [])))] [0, 1])
     (.seq
      (.block 0
       (.loop v260_0))
      (.seq
       (.region [.op (some 21) none (.mv (.t 0)),
         .op (some 4) none (.mv (.t 21))] [4])
       .ret)))

/-- schisma/fraction.little -/
def v261 : VFun where
  params := 1
  results := [.tmp 2, .tmp 3]
  fin := []
  thr := false
  body :=
    (.seq
     (.region [.op (some 2) none (.mv (.c (.int .i64 0))),
       .op (some 3) none (.mv (.c (.bool false)))] [0])
     (.seq
      (.seq
       (.region [.op (some 6) none (.mv (.t 0)),
         .op (some 7) none (.len true (.t 6)),
         .op (some 8) none (.bin 0 .gtr (.t 7) (.c (.int .i64 9)))] [0, 8])
       (.cond (.t 8)
        (.seq
         (.region [.op (some 2) none (.mv (.c (.int .i64 0))),
           .op (some 3) none (.mv (.c (.bool false)))] [2, 3])
         .ret)
        .skip))
      (.seq
       (.region [.op (some 10) none (.mv (.t 0)),
         .op (some 11) none (.call 170 [(false, (.t 10))] none),
         .op (some 9) none (.mv (.t 11)),
         .op (some 12) none (.ext (.t 9) 0),
         .op (some 13) none (.ext (.t 9) 1),
         .op (some 4) none (.mv (.t 12)),
         .op (some 5) none (.mv (.t 13))] [4, 5])
       (.seq
        (.region [.op (some 14) none (.mv (.t 4)),
          .op (some 15) none (.mv (.t 5)),
          .op (some 16) none (.bin 2 .eql (.t 15) (.c (.nilifc))),
          .op (some 2) none (.mv (.t 14)),
          .op (some 3) none (.mv (.t 16))] [2, 3])
        .ret))))

/-- math/bits.Len -/
def v262 : VFun where
  params := 1
  results := [.tmp 2]
  fin := []
  thr := false
  body :=
    (.seq
     (.region [.op (some 2) none (.mv (.c (.int .i64 0)))] [0])
     (.seq
      (.cond (.c (.bool false))
       (.seq
        (.region [.op (some 3) none (.mv (.t 0)),
          .op (some 4) none (.cint .u32 (.t 3)),
          .op (some 5) none (.call 266 [(false, (.t 4))] none),
          .op (some 2) none (.mv (.t 5))] [2])
        .ret)
       .skip)
      (.seq
       (.region [.op (some 6) none (.mv (.t 0)),
         .op (some 7) none (.call 238 [(false, (.t 6))] none),
         .op (some 2) none (.mv (.t 7))] [2])
       .ret)))

def v263_0 : VC :=
    (.seq
     (.seq
      (.region [.op (some 33) none (.mv (.t 1)),
        .op (some 34) none (.bin 0 .gtr (.t 33) (.c (.int .i64 0)))] [1, 7, 8, 34])
      (.cond (.t 34)
       .skip
       (.exit 1)))
     (.seq
      (.block 2
       (.seq
        (.seq
         (.region [.op (some 37) none (.mv (.t 1)),
           .op (some 38) none (.bin 0 .and (.t 37) (.c (.int .i64 1))),
           .op (some 39) none (.bin 0 .eql (.t 38) (.c (.int .i64 1)))] [1, 7, 8, 39])
         (.cond (.t 39)
          (.region [.op (some 40) none (.mv (.t 7)),
            .op (some 41) none (.mv (.t 8)),
            .pre (.frz 40) (.pre (.frz 41) (.op (some 42) none (.call 178 [(false, (.t 40)), (false, (.t 41))] (some (some 102))))),
            .op (some 7) none (.mv (.t 42))] [1, 7, 8])
          .skip))
        (.seq
         (.region [.op (some 43) none (.mv (.t 1)),
           .op (some 44) none (.bin 0 .gtr (.t 43) (.c (.int .i64 1)))] [1, 7, 8, 44])
         (.cond (.t 44)
          (.region [.op (some 45) none (.mv (.t 8)),
            .op (some 46) none (.mv (.t 8)),
            .pre (.frz 45) (.pre (.frz 46) (.op (some 47) none (.call 178 [(false, (.t 45)), (false, (.t 46))] (some (some 103))))),
            .op (some 8) none (.mv (.t 47))] [1, 7, 8])
          .skip))))
      (.region [.op (some 35) none (.mv (.t 1)),
        .op (some 36) none (.bin 0 .shr (.t 35) (.c (.int .u64 1))),
        .op (some 1) none (.mv (.t 36))] [1, 7, 8])))
/-- schisma/decimal.Power -/
def v263 : VFun where
  params := 2
  results := [.tmp 4, .tmp 5]
  fin := []
  thr := false
  body :=
    (.seq
     (.region [.op (some 4) none (.mv (.c (sI []))),
       .op (some 5) none (.mv (.c (.int .i64 0)))] [0, 1])
     (.seq
      (.block 0
       (.seq
        (.region [.op (some 11) none (.mv (.t 1)),
          .op (some 12) none (.bin 0 .lss (.t 11) (.c (.int .i64 0))),
          .op (some 10) none (.mv (.t 12))] [0, 1, 10])
        (.cond (.t 10)
         (.seq
          (.region [.op (some 4) none (.mv (.c (sI []))),
            .op (some 5) none (.mv (.c (.int .i64 3)))] [4, 5])
          .ret)
         (.seq
          (.region [.op (some 14) none (.mv (.t 1)),
            .op (some 15) none (.bin 0 .eql (.t 14) (.c (.int .i64 0))),
            .op (some 16) none (.mv (.t 15)),
            .op (some 17) (some (16, false)) (.mv (.t 0)),
            .op (some 18) (some (16, false)) (.bin 0 .eql (.t 17) (.c (sI [49]))),
            .op (some 19) none (.pick (.t 16) (.c (.bool true)) (.t 18)),
            .op (some 13) none (.mv (.t 19))] [0, 1, 13])
          (.cond (.t 13)
           (.seq
            (.region [.op (some 4) none (.mv (.c (sI [49]))),
              .op (some 5) none (.mv (.c (.int .i64 0)))] [4, 5])
            .ret)
           (.seq
            (.region [.op (some 21) none (.mv (.t 0)),
              .op (some 22) none (.bin 0 .eql (.t 21) (.c (sI [48]))),
              .op (some 20) none (.mv (.t 22))] [0, 1, 20])
            (.cond (.t 20)
             (.seq
              (.region [.op (some 4) none (.mv (.c (sI [48]))),
                .op (some 5) none (.mv (.c (.int .i64 0)))] [4, 5])
              .ret)
             .skip)))))))
      (.seq
       (.seq
        (.region [.op (some 23) none (.mv (.t 0)),
          .op (some 24) none (.call 267 [(false, (.t 23))] none),
          .op (some 25) none (.bin 0 .sub (.t 24) (.c (.int .i64 1))),
          .op (some 6) none (.mv (.t 25))] [0, 1, 6])
        (.seq
         (.region [.op (some 26) none (.mv (.t 1)),
           .op (some 27) none (.mv (.t 6)),
           .op (some 28) none (.bin 0 .quo (.c (.int .i64 66439)) (.t 27)),
           .op (some 29) none (.bin 0 .gtr (.t 26) (.t 28))] [0, 1, 29])
         (.cond (.t 29)
          (.seq
           (.region [.op (some 4) none (.mv (.c (sI []))),
             .op (some 5) none (.mv (.c (.int .i64 4)))] [4, 5])
           .ret)
          .skip)))
       (.seq
        (.region [.op (some 30) none (.bsl 1 1 [.int .u64 0] [(0, 1, (.c (.int .u64 1)))] (some 100)),
          .op (some 31) none (.mv (.t 0)),
          .op (some 32) none (.call 173 [(false, (.t 31))] (some (some 101))),
          .op (some 7) none (.mv (.t 30)),
          .op (some 8) none (.mv (.t 32))] [1, 7, 8])
        (.seq
         (.block 1
          (.loop v263_0))
         (.seq
          (.region [.op (some 48) none (.mv (.t 7)),
            .op (some 49) none (.call 176 [(false, (.t 48))] none),
            .op (some 9) none (.mv (.t 49))] [9])
          (.seq
           (.seq
            (.region [.op (some 50) none (.mv (.t 9)),
              .op (some 51) none (.len true (.t 50)),
              .op (some 52) none (.bin 0 .gtr (.t 51) (.c (.int .i64 20000)))] [9, 52])
            (.cond (.t 52)
             (.seq
              (.region [.op (some 4) none (.mv (.c (sI []))),
                .op (some 5) none (.mv (.c (.int .i64 4)))] [4, 5])
              .ret)
             .skip))
           (.seq
            (.region [.op (some 53) none (.mv (.t 9)),
              .op (some 4) none (.mv (.t 53)),
              .op (some 5) none (.mv (.c (.int .i64 0)))] [4, 5])
            .ret))))))))

/-- schisma/decimal.Check -/
def v264 : VFun where
  params := 1
  results := [.tmp 2]
  fin := []
  thr := false
  body :=
    (.seq
     (.region [.op (some 2) none (.mv (.c (.int .i64 0)))] [0])
     (.seq
      (.seq
       (.region [.op (some 3) none (.mv (.t 0)),
         .op (some 4) none (.call 268 [(false, (.t 3))] none),
         .op (some 5) none (.un .not (.t 4)),
         .op (some 6) none (.mv (.t 5)),
         .op (some 7) (some (6, false)) (.mv (.t 0)),
         .op (some 8) (some (6, false)) (.len true (.t 7)),
         .op (some 9) (some (6, false)) (.bin 0 .gtr (.t 8) (.c (.int .i64 400))),
         .op (some 10) none (.pick (.t 6) (.c (.bool true)) (.t 9))] [10])
       (.cond (.t 10)
        (.seq
         (.region [.op (some 2) none (.mv (.c (.int .i64 2)))] [2])
         .ret)
        .skip))
      (.seq
       (.region [.op (some 2) none (.mv (.c (.int .i64 0)))] [2])
       .ret)))

def v265_0 : VC :=
    (.seq
     (.seq
      (.region [.op (some 5) none (.mv (.t 1)),
        .op (some 6) none (.bin 0 .neq (.t 5) (.c (.int .i64 0)))] [0, 1, 6])
      (.cond (.t 6)
       .skip
       (.exit 0)))
     (.block 1
      (.region [.op (some 7) none (.mv (.t 1)),
        .op (some 8) none (.mv (.t 0)),
        .op (some 9) none (.mv (.t 1)),
        .op (some 10) none (.bin 0 .rem (.t 8) (.t 9)),
        .op (some 0) none (.mv (.t 7)),
        .op (some 1) none (.mv (.t 10))] [0, 1])))
/-- schisma/whole.gcd -/
def v265 : VFun where
  params := 2
  results := [.tmp 4]
  fin := []
  thr := false
  body :=
    (.seq
     (.region [.op (some 4) none (.mv (.c (.int .i64 0)))] [0, 1])
     (.seq
      (.block 0
       (.loop v265_0))
      (.seq
       (.region [.op (some 11) none (.mv (.t 0)),
         .op (some 4) none (.mv (.t 11))] [4])
       .ret)))

/-- math/bits.Len32 -/
def v266 : VFun where
  params := 1
  results := [.tmp 2]
  fin := []
  thr := false
  body :=
    (.seq
     (.region [.op (some 2) none (.mv (.c (.int .i64 0)))] [0, 2])
     (.seq
      (.seq
       (.region [.op (some 3) none (.mv (.t 0)),
         .op (some 4) none (.bin 0 .geq (.t 3) (.c (.int .u32 65536)))] [0, 2, 4])
       (.cond (.t 4)
        (.seq
         (.region [.op (some 5) none (.mv (.t 0)),
           .op (some 6) none (.bin 0 .shr (.t 5) (.c (.int .u64 16))),
           .op (some 0) none (.mv (.t 6))] [0])
         (.region [.op (some 2) none (.mv (.c (.int .i64 16)))] [0, 2]))
        .skip))
      (.seq
       (.seq
        (.region [.op (some 7) none (.mv (.t 0)),
          .op (some 8) none (.bin 0 .geq (.t 7) (.c (.int .u32 256)))] [0, 2, 8])
        (.cond (.t 8)
         (.seq
          (.region [.op (some 9) none (.mv (.t 0)),
            .op (some 10) none (.bin 0 .shr (.t 9) (.c (.int .u64 8))),
            .op (some 0) none (.mv (.t 10))] [0, 2])
          (.region [.op (some 11) none (.mv (.t 2)),
            .op (some 12) none (.bin 0 .add (.t 11) (.c (.int .i64 8))),
            .op (some 2) none (.mv (.t 12))] [0, 2]))
         .skip))
       (.seq
        (.region [.op (some 13) none (.mv (.t 2)),
          .op (some 14) none (.mv (.t 0)),
          .op (some 15) none (.cint .u8 (.t 14)),
          .op (some 16) none (.ixs (.c (sI [0, 1, 2, 2, 3, 3, 3, 3, 4, 4, 4, 4, 4, 4, 4, 4, 5, 5, 5, 5, 5, 5, 5, 5, 5, 5, 5, 5, 5, 5, 5, 5, 6, 6, 6, 6, 6, 6, 6, 6, 6, 6, 6, 6, 6, 6, 6, 6, 6, 6, 6, 6, 6, 6, 6, 6, 6, 6, 6, 6, 6, 6, 6, 6, 7, 7, 7, 7, 7, 7, 7, 7, 7, 7, 7, 7, 7, 7, 7, 7, 7, 7, 7, 7, 7, 7, 7, 7, 7, 7, 7, 7, 7, 7, 7, 7, 7, 7, 7, 7, 7, 7, 7, 7, 7, 7, 7, 7, 7, 7, 7, 7, 7, 7, 7, 7, 7, 7, 7, 7, 7, 7, 7, 7, 7, 7, 7, 7, 8, 8, 8, 8, 8, 8, 8, 8, 8, 8, 8, 8, 8, 8, 8, 8, 8, 8, 8, 8, 8, 8, 8, 8, 8, 8, 8, 8, 8, 8, 8, 8, 8, 8, 8, 8, 8, 8, 8, 8, 8, 8, 8, 8, 8, 8, 8, 8, 8, 8, 8, 8, 8, 8, 8, 8, 8, 8, 8, 8, 8, 8, 8, 8, 8, 8, 8, 8, 8, 8, 8, 8, 8, 8, 8, 8, 8, 8, 8, 8, 8, 8, 8, 8, 8, 8, 8, 8, 8, 8, 8, 8, 8, 8, 8, 8, 8, 8, 8, 8, 8, 8, 8, 8, 8, 8, 8, 8, 8, 8, 8, 8, 8, 8, 8, 8, 8, 8, 8, 8, 8, 8, 8, 8, 8, 8, 8, 8])) (.t 15)),
          .op (some 17) none (.cint .i64 (.t 16)),
          .op (some 18) none (.bin 0 .add (.t 13) (.t 17)),
          .op (some 2) none (.mv (.t 18))] [2])
        .ret))))

def v267_0 : VC :=
    (.seq
     (.region [.op (some 34) none (.bin 0 .lss (.t 33) (.t 32))] [5, 6, 7, 8, 32, 33, 34])
     (.seq
      (.cond (.t 34)
       .skip
       (.exit 2))
      (.seq
       (.block 3
        (.seq
         (.region [.op (some 35) none (.mv (.t 33)),
           .op (some 9) none (.mv (.t 35))] [5, 6, 7, 8, 9, 32, 33])
         (.seq
          (.region [.op (some 36) none (.mv (.t 8)),
            .op (some 37) none (.mv (.t 5)),
            .op (some 38) none (.mv (.t 9)),
            .op (some 39) none (.iad 1 (.t 37) (.t 38)),
            .op (some 40) none (.load none (.t 39)),
            .op (some 41) none (.bin 0 .mul (.t 40) (.c (.int .u64 1000000000))),
            .op (some 42) none (.bin 0 .add (.t 36) (.t 41)),
            .op (some 8) none (.mv (.t 42))] [5, 6, 7, 8, 9, 32, 33])
          (.seq
           (.region [.op (some 43) none (.mv (.t 5)),
             .op (some 44) none (.mv (.t 9)),
             .op (some 45) none (.mv (.t 8)),
             .op (some 46) none (.bin 0 .and (.t 45) (.c (.int .u64 4294967295))),
             .op (some 47) none (.iad 1 (.t 43) (.t 44)),
             .op none none (.store 1 (.t 47) (.t 46))] [5, 6, 7, 8, 32, 33])
           (.region [.op (some 48) none (.mv (.t 8)),
             .op (some 49) none (.bin 0 .shr (.t 48) (.c (.int .u64 32))),
             .op (some 8) none (.mv (.t 49))] [5, 6, 7, 8, 32, 33])))))
       (.region [.op (some 50) none (.bin 0 .add (.t 33) (.c (.int .i64 1))),
         .op (some 33) none (.mv (.t 50))] [5, 6, 7, 8, 32, 33]))))
def v267_1 : VC :=
    (.seq
     (.seq
      (.region [.op (some 23) none (.mv (.t 7)),
        .op (some 24) none (.bin 0 .geq (.t 23) (.c (.int .i64 0)))] [5, 6, 7, 24])
      (.cond (.t 24)
       .skip
       (.exit 0)))
     (.seq
      (.block 1
       (.seq
        (.region [.op (some 27) none (.mv (.t 6)),
          .op (some 28) none (.mv (.t 7)),
          .op (some 29) none (.iad 1 (.t 27) (.t 28)),
          .op (some 30) none (.load none (.t 29)),
          .op (some 8) none (.mv (.t 30))] [5, 6, 7, 8])
        (.seq
         (.seq
          (.region [.op (some 31) none (.mv (.t 5)),
            .op (some 32) none (.len false (.t 31)),
            .op (some 33) none (.mv (.c (.int .i64 0)))] [5, 6, 7, 8, 32, 33])
          (.block 2
           (.loop v267_0)))
         (.seq
          (.region [.op (some 51) none (.mv (.t 8)),
            .op (some 52) none (.bin 0 .gtr (.t 51) (.c (.int .u64 0)))] [5, 6, 7, 8, 52])
          (.cond (.t 52)
           (.region [.op (some 53) none (.mv (.t 5)),
             .op (some 54) none (.mv (.t 8)),
             .op (some 55) none (.bsl 1 1 [.int .u64 0] [(0, 1, (.t 54))] (some 102)),
             .op (some 56) none (.app 1 8 false (.t 53) (.t 55) (some 103)),
             .op (some 5) none (.mv (.t 56))] [5, 6, 7])
           .skip)))))
      (.region [.op (some 25) none (.mv (.t 7)),
        .op (some 26) none (.bin 0 .sub (.t 25) (.c (.int .i64 1))),
        .op (some 7) none (.mv (.t 26))] [5, 6, 7])))
/-- schisma/decimal.Bits -/
def v267 : VFun where
  params := 1
  results := [.tmp 2]
  fin := []
  thr := false
  body :=
    (.seq
     (.region [.op (some 2) none (.mv (.c (.int .i64 0)))] [0])
     (.seq
      (.seq
       (.region [.op (some 11) none (.mv (.t 0)),
         .op (some 12) none (.call 203 [(false, (.t 11))] none),
         .op (some 10) none (.mv (.t 12)),
         .op (some 13) none (.ext (.t 10) 0),
         .op (some 14) none (.ext (.t 10) 1),
         .op (some 3) none (.mv (.t 13)),
         .op (some 4) none (.mv (.t 14))] [0, 3, 4])
       (.seq
        (.region [.op (some 15) none (.mv (.t 4))] [0, 3, 15])
        (.cond (.t 15)
         (.seq
          (.region [.op (some 16) none (.mv (.t 3)),
            .op (some 17) none (.call 238 [(false, (.t 16))] none),
            .op (some 2) none (.mv (.t 17))] [2])
          .ret)
         .skip)))
      (.seq
       (.region [.op (some 5) none (.nil 1 (some 100))] [0, 5])
       (.seq
        (.region [.op (some 18) none (.mv (.t 0)),
          .op (some 19) none (.call 173 [(false, (.t 18))] (some (some 101))),
          .op (some 6) none (.mv (.t 19))] [5, 6])
        (.seq
         (.seq
          (.region [.op (some 20) none (.mv (.t 6)),
            .op (some 21) none (.len false (.t 20)),
            .op (some 22) none (.bin 0 .sub (.t 21) (.c (.int .i64 1))),
            .op (some 7) none (.mv (.t 22))] [5, 6, 7])
          (.block 0
           (.loop v267_1)))
         (.seq
          (.region [.op (some 57) none (.mv (.t 5)),
            .op (some 58) none (.len false (.t 57)),
            .op (some 59) none (.bin 0 .sub (.t 58) (.c (.int .i64 1))),
            .op (some 60) none (.bin 0 .mul (.c (.int .i64 32)) (.t 59)),
            .op (some 61) none (.mv (.t 5)),
            .op (some 62) none (.mv (.t 5)),
            .op (some 63) none (.len false (.t 62)),
            .op (some 64) none (.bin 0 .sub (.t 63) (.c (.int .i64 1))),
            .op (some 65) none (.iad 1 (.t 61) (.t 64)),
            .op (some 66) none (.load none (.t 65)),
            .op (some 67) none (.call 238 [(false, (.t 66))] none),
            .op (some 68) none (.bin 0 .add (.t 60) (.t 67)),
            .op (some 2) none (.mv (.t 68))] [2])
          .ret))))))

def v268_0 : VC :=
    (.seq
     (.region [.op (some 9) none (.bin 0 .lss (.t 8) (.t 7))] [0, 6, 7, 8, 9])
     (.seq
      (.cond (.t 9)
       .skip
       (.exit 0))
      (.seq
       (.block 1
        (.seq
         (.region [.op (some 10) none (.iad 1 (.t 6) (.t 8)),
           .op (some 11) none (.load none (.t 10)),
           .op (some 4) none (.mv (.t 11))] [0, 4, 6, 7, 8])
         (.seq
          (.region [.op (some 12) none (.mv (.t 4)),
            .op (some 13) none (.bin 0 .lss (.t 12) (.c (.int .u8 48))),
            .op (some 14) none (.mv (.t 13)),
            .op (some 15) (some (14, false)) (.mv (.t 4)),
            .op (some 16) (some (14, false)) (.bin 0 .gtr (.t 15) (.c (.int .u8 57))),
            .op (some 17) none (.pick (.t 14) (.c (.bool true)) (.t 16))] [0, 6, 7, 8, 17])
          (.cond (.t 17)
           (.seq
            (.region [.op (some 2) none (.mv (.c (.bool false)))] [2])
            .ret)
           .skip))))
       (.region [.op (some 18) none (.bin 0 .add (.t 8) (.c (.int .i64 1))),
         .op (some 8) none (.mv (.t 18))] [0, 6, 7, 8]))))
/-- schisma/decimal.Canonical -/
def v268 : VFun where
  params := 1
  results := [.tmp 2]
  fin := []
  thr := false
  body :=
    (.seq
     (.region [.op (some 2) none (.mv (.c (.bool false)))] [0])
     (.seq
      (.seq
       (.region [.op (some 5) none (.mv (.t 0)),
         .op (some 6) none (.s2b (.t 5) (some 100)),
         .op (some 7) none (.len false (.t 6)),
         .op (some 8) none (.mv (.c (.int .i64 0)))] [0, 6, 7, 8])
       (.block 0
        (.loop v268_0)))
      (.seq
       (.region [.op (some 19) none (.mv (.t 0)),
         .op (some 20) none (.len true (.t 19)),
         .op (some 21) none (.bin 0 .eql (.t 20) (.c (.int .i64 1))),
         .op (some 22) none (.mv (.t 21)),
         .op (some 23) (some (22, false)) (.mv (.t 0)),
         .op (some 24) (some (22, false)) (.len true (.t 23)),
         .op (some 25) (some (22, false)) (.bin 0 .gtr (.t 24) (.c (.int .i64 1))),
         .op (some 26) (some (22, false)) (.mv (.t 25)),
         .op (some 27) (some (26, true)) (.mv (.t 0)),
         .op (some 28) (some (26, true)) (.ixs (.t 27) (.c (.int .i64 0))),
         .op (some 29) (some (26, true)) (.bin 0 .neq (.t 28) (.c (.int .u8 48))),
         .op (some 30) (some (22, false)) (.pick (.t 26) (.t 29) (.c (.bool false))),
         .op (some 31) none (.pick (.t 22) (.c (.bool true)) (.t 30)),
         .op (some 2) none (.mv (.t 31))] [2])
       .ret)))

end Go.Vm

/- The abstract machine's values against the machine's: the relations, and what keeps them. -/
namespace Go.Vm

/-- A block of cells. -/
def IsC (w : World) (b : Nat) : Prop := ∃ c e fr, w.heap[b]? = some (.cells c e fr)

inductive RI (S : Nat → Prop) (w : World) : I → Value → Prop
  | bool (b : Bool) : RI S w (.bool b) (.bool b)
  | int (k : IntKind) (n : Int) : RI S w (.int k n) (.int k n)
  | str (s : ByteArray) : RI S w (.str s) (.string s)
  | slE (k : Nat) (a : Option Addr) (cap : Nat) : RI S w (.sl k []) (.slice a 0 cap)
  | slN (k : Nat) (cs : List I) (b off len cap : Nat) (vs : List Value) (hk : 0 < k) (hl : len * k = cs.length) (hc : len ≤ cap) (h0 : 0 < len) (hS : S b)
      (hv : vs.length = cs.length) (hcell : ∀ (j : Nat) (v), vs[j]? = some v → w.cell? ⟨b, off + j, none⟩ = some v)
      (h : ∀ (j : Nat) (x) (v), cs[j]? = some x → vs[j]? = some v → RI S w x v) : RI S w (.sl k cs) (.slice (some ⟨b, off, none⟩) len cap)
  | agg (cs : List I) (vs : Array Value) (hv : vs.size = cs.length) (h : ∀ (j : Nat) (x) (v), cs[j]? = some x → vs[j]? = some v → RI S w x v) : RI S w (.agg cs) (.agg vs)
  | tup (cs : List I) (vs : Array Value) (hv : vs.size = cs.length) (h : ∀ (j : Nat) (x) (v), cs[j]? = some x → vs[j]? = some v → RI S w x v) : RI S w (.tup cs) (.tuple vs)
  | fn (f : FuncId) (cs : List I) (vs : Array Value) (hv : vs.size = cs.length) (h : ∀ (j : Nat) (x) (v), cs[j]? = some x → vs[j]? = some v → RI S w x v) : RI S w (.fn f cs) (.func (.func f) #[] vs)
  | nilfn : RI S w .nilfn .nilFunc
  | pim (cs : List I) (off b base : Nat) (vs : List Value) (hS : S b) (hv : vs.length = cs.length) (hcell : ∀ (j : Nat) (v), vs[j]? = some v → w.cell? ⟨b, base + j, none⟩ = some v)
      (h : ∀ (j : Nat) (x) (v), cs[j]? = some x → vs[j]? = some v → RI S w x v) (hc : IsC w b) : RI S w (.pim cs off) (.pointer (some ⟨b, base + off, none⟩))
  | nilp : RI S w .nilp (.pointer none)
  | nils (k : Nat) : RI S w (.nils k) (.slice none 0 0)
  | ifc (t : TypeId) (x : I) (v : Value) (h : RI S w x v) : RI S w (.ifc t x) (.iface t v)
  | nilifc : RI S w .nilifc .nilIface
  | junk (v : Value) (h1 : v.oneCell' = true) : RI S w .junk v

theorem RI.mono {S S' : Nat → Prop} {w w' : World} (hS : ∀ b, S b → S' b) (hw : ∀ b, S b → w'.heap[b]? = w.heap[b]?) {x : I} {v : Value} (h : RI S w x v) : RI S' w' x v := by
  have hcell : ∀ b o, S b → w'.cell? ⟨b, o, none⟩ = w.cell? ⟨b, o, none⟩ := fun b o hb => by simp [World.cell?, hw b hb]
  induction h with
  | bool b => exact .bool b
  | int k n => exact .int k n
  | str s => exact .str s
  | slE k a cap => exact .slE k a cap
  | slN k cs b off len cap vs hk hl hc h0 hb hv hcl h ih => exact .slN k cs b off len cap vs hk hl hc h0 (hS _ hb) hv (fun j v hj => by rw [hcell _ _ hb]; exact hcl j v hj) ih
  | agg cs vs hv h ih => exact .agg cs vs hv ih
  | tup cs vs hv h ih => exact .tup cs vs hv ih
  | fn f cs vs hv h ih => exact .fn f cs vs hv ih
  | nilfn => exact .nilfn
  | pim cs off b base vs hb hv hcl h hc ih => exact .pim cs off b base vs (hS _ hb) hv (fun j v hj => by rw [hcell _ _ hb]; exact hcl j v hj) ih (by unfold IsC at hc ⊢; rw [hw _ hb]; exact hc)
  | nilp => exact .nilp
  | nils k => exact .nils k
  | ifc t x v h ih => exact .ifc t x v ih
  | nilifc => exact .nilifc
  | junk v h1 => exact .junk v h1

theorem isC_of_cell {w : World} {b off n : Nat} {vs : List Value} (hl : vs.length = n) (h0 : 0 < n) (hcell : ∀ (j : Nat) (v), vs[j]? = some v → w.cell? ⟨b, off + j, none⟩ = some v) : IsC w b := by
  have hlt : 0 < vs.length := by omega
  have := hcell 0 vs[0] (by simp [hlt])
  unfold World.cell? at this
  unfold IsC
  split at this
  · rename_i c e fr hh
    exact ⟨c, e, fr, hh⟩
  · simp at this

/-- Of the blocks, those of cells suffice. -/
theorem RI.restrict {S : Nat → Prop} {w : World} {x : I} {v : Value} (h : RI S w x v) : RI (fun b => S b ∧ IsC w b) w x v := by
  induction h with
  | bool b => exact .bool b
  | int k n => exact .int k n
  | str s => exact .str s
  | slE k a cap => exact .slE k a cap
  | slN k cs b off len cap vs hk hl hc h0 hb hv hcl h ih =>
    have hpos : 0 < len * k := Nat.mul_pos h0 hk
    exact .slN k cs b off len cap vs hk hl hc h0 ⟨hb, isC_of_cell hv (by omega) hcl⟩ hv hcl ih
  | agg cs vs hv h ih => exact .agg cs vs hv ih
  | tup cs vs hv h ih => exact .tup cs vs hv ih
  | fn f cs vs hv h ih => exact .fn f cs vs hv ih
  | nilfn => exact .nilfn
  | pim cs off b base vs hb hv hcl h hc ih => exact .pim cs off b base vs ⟨hb, hc⟩ hv hcl ih hc
  | nilp => exact .nilp
  | nils k => exact .nils k
  | ifc t x v h ih => exact .ifc t x v ih
  | nilifc => exact .nilifc
  | junk v h1 => exact .junk v h1

/-- What stands in the blocks of S all along (tables that the library lays at its start). -/
structure GlobP where
  ok : (Nat → Prop) → World → Prop
  mono : ∀ (S S' : Nat → Prop) (w w' : World), ok S w → (∀ b, S b → S' b) → (∀ b, S b → w'.heap[b]? = w.heap[b]?) → ok S' w'
  restrict : ∀ (S : Nat → Prop) (w : World), ok S w → ok (fun b => S b ∧ IsC w b) w
variable {Γ : GlobP}

abbrev Beta := Nat → Option (Nat × Nat)

inductive RF (S : Nat → Prop) (w : World) (β : Beta) (hp : Heap) : F → Value → Prop
  | i (x : I) (v : Value) (h : RI S w x v) : RF S w β hp (.i x) v
  | own0 (l off k : Nat) (blk : Blk) (a : Option Addr) (hb : hget hp l = some blk) (ho : off ≤ blk.len) (hk : 0 < k) : RF S w β hp (.own l off 0 k) (.slice a 0 0)
  | ownS (l off len k : Nat) (blk : Blk) (b base cap n : Nat) (e : TypeId) (hb : hget hp l = some blk) (hβ : β l = some (b, base)) (ho : off + len * k ≤ blk.len) (hc : len ≤ cap) (hk : 0 < k)
      (hs : w.shape? b = some (e, n)) (hn : base + off + cap * k ≤ n) : RF S w β hp (.own l off len k) (.slice (some ⟨b, base + off, none⟩) len cap)
  | ref (l off : Nat) (blk : Blk) (b base : Nat) (hb : hget hp l = some blk) (hβ : β l = some (b, base)) : RF S w β hp (.ref l off) (.pointer (some ⟨b, base + off, none⟩))
  | agg (cs : List F) (vs : Array Value) (hv : vs.size = cs.length) (h : ∀ (j : Nat) (x) (v), cs[j]? = some x → vs[j]? = some v → RF S w β hp x v) : RF S w β hp (.agg cs) (.agg vs)
  | tup (cs : List F) (vs : Array Value) (hv : vs.size = cs.length) (h : ∀ (j : Nat) (x) (v), cs[j]? = some x → vs[j]? = some v → RF S w β hp x v) : RF S w β hp (.tup cs) (.tuple vs)
  | fn (f : FuncId) (cs : List F) (vs : Array Value) (hv : vs.size = cs.length) (h : ∀ (j : Nat) (x) (v), cs[j]? = some x → vs[j]? = some v → RF S w β hp x v) : RF S w β hp (.fn f cs) (.func (.func f) #[] vs)

theorem mentionsL_at {l : Nat} {cs : List F} (h : mentionsL l cs = false) {j : Nat} {x : F} (hx : cs[j]? = some x) : x.mentions l = false := by
  induction cs generalizing j with
  | nil => simp at hx
  | cons c cs ih =>
    simp only [mentionsL, Bool.or_eq_false_iff] at h
    cases j with
    | zero => simp at hx; exact hx ▸ h.1
    | succ j => exact ih h.2 (by simpa using hx)

/-- What a value keeps of a label when heap, world and map turn. -/
def Keeps (w w' : World) (β β' : Beta) (hp hp' : Heap) (l : Nat) : Prop :=
  ∀ blk, hget hp l = some blk → β' l = β l ∧ (∃ blk', hget hp' l = some blk' ∧ blk.len ≤ blk'.len) ∧ ∀ b base, β l = some (b, base) → ∀ e n, w.shape? b = some (e, n) → w'.shape? b = some (e, n)

theorem RF.mono {S S' : Nat → Prop} {w w' : World} {β β' : Beta} {hp hp' : Heap} (hS : ∀ b, S b → S' b) (hw : ∀ b, S b → w'.heap[b]? = w.heap[b]?) {x : F} {v : Value}
    (h : RF S w β hp x v) (hk : ∀ l, x.mentions l = true → Keeps w w' β β' hp hp' l) : RF S' w' β' hp' x v := by
  induction h with
  | i x v h => exact .i x v (h.mono hS hw)
  | own0 l off k blk a hb ho hk0 =>
    obtain ⟨h1, ⟨blk', h2, h3⟩, _⟩ := hk l (by simp [F.mentions]) blk hb
    exact .own0 l off k blk' a h2 (by omega) hk0
  | ownS l off len k blk b base cap n e hb hβ ho hc hk0 hs hn =>
    obtain ⟨h1, ⟨blk', h2, h3⟩, h4⟩ := hk l (by simp [F.mentions]) blk hb
    exact .ownS l off len k blk' b base cap n e h2 (by rw [h1]; exact hβ) (by omega) hc hk0 (h4 b base hβ e n hs) hn
  | ref l off blk b base hb hβ =>
    obtain ⟨h1, ⟨blk', h2, h3⟩, h4⟩ := hk l (by simp [F.mentions]) blk hb
    exact .ref l off blk' b base h2 (by rw [h1]; exact hβ)
  | agg cs vs hv h ih =>
    refine .agg cs vs hv fun j x v hx hj => ih j x v hx hj fun l hl => hk l ?_
    simp only [F.mentions]
    refine Classical.byContradiction fun hn => ?_
    have := mentionsL_at (l := l) (cs := cs) (by simpa using hn) hx
    simp [this] at hl
  | tup cs vs hv h ih =>
    refine .tup cs vs hv fun j x v hx hj => ih j x v hx hj fun l hl => hk l ?_
    simp only [F.mentions]
    refine Classical.byContradiction fun hn => ?_
    have := mentionsL_at (l := l) (cs := cs) (by simpa using hn) hx
    simp [this] at hl
  | fn f cs vs hv h ih =>
    refine .fn f cs vs hv fun j x v hx hj => ih j x v hx hj fun l hl => hk l ?_
    simp only [F.mentions]
    refine Classical.byContradiction fun hn => ?_
    have := mentionsL_at (l := l) (cs := cs) (by simpa using hn) hx
    simp [this] at hl

/-- A label that a related value mentions stands in the heap. -/
theorem RF.live {S : Nat → Prop} {w : World} {β : Beta} {hp : Heap} {x : F} {v : Value} (h : RF S w β hp x v) (l : Nat) (hl : x.mentions l = true) : ∃ blk, hget hp l = some blk := by
  induction h with
  | i x v h => simp [F.mentions] at hl
  | own0 m off k blk a hb => simp [F.mentions] at hl; subst hl; exact ⟨blk, hb⟩
  | ownS m off len k blk b base cap n e hb => simp [F.mentions] at hl; subst hl; exact ⟨blk, hb⟩
  | ref m off blk b base hb => simp [F.mentions] at hl; subst hl; exact ⟨blk, hb⟩
  | agg cs vs hv h ih | tup cs vs hv h ih | fn f cs vs hv h ih =>
    simp only [F.mentions] at hl
    refine Classical.byContradiction fun hn => ?_
    have : mentionsL l cs = false := by
      clear hl h
      induction cs generalizing vs with
      | nil => rfl
      | cons c cs ihc =>
        rcases vs with ⟨vl⟩
        cases vl with
        | nil => simp at hv
        | cons v0 vl =>
        simp only [mentionsL, Bool.or_eq_false_iff]
        refine ⟨?_, ihc ⟨vl⟩ (by simpa using hv) fun j x v hx hj => ih (j + 1) x v (by simpa using hx) (by simpa using hj)⟩
        refine Classical.byContradiction fun hc => hn (ih 0 c v0 (by simp) (by simp) (by simpa using hc))
    simp [this] at hl

/-! The heap -/
def BlkRel (S : Nat → Prop) (w : World) (β : Beta) (hp : Heap) (blk : Blk) (b base : Nat) : Prop :=
  ∃ c e fr, w.heap[b]? = some (.cells c e fr) ∧ (∀ o, o < c.size → ¬ (fr.1 ≤ o ∧ o < fr.2)) ∧ base + blk.len ≤ c.size ∧
    ∀ (j : Nat) (x), blk.cells[j]? = some x → ∃ v, c[base + j]? = some v ∧ RF S w β hp x v

theorem BlkRel.isC {S : Nat → Prop} {w : World} {β : Beta} {hp : Heap} {blk : Blk} {b base : Nat} (h : BlkRel S w β hp blk b base) : IsC w b := by
  obtain ⟨c, e, fr, h, _⟩ := h
  exact ⟨c, e, fr, h⟩
theorem RF.restrict {S : Nat → Prop} {w : World} {β : Beta} {hp : Heap} {x : F} {v : Value} (h : RF S w β hp x v) : RF (fun b => S b ∧ IsC w b) w β hp x v := by
  induction h with
  | i x v h => exact .i x v h.restrict
  | own0 l off k blk a hb ho hk => exact .own0 l off k blk a hb ho hk
  | ownS l off len k blk b base cap n e hb hβ ho hc hk hs hn => exact .ownS l off len k blk b base cap n e hb hβ ho hc hk hs hn
  | ref l off blk b base hb hβ => exact .ref l off blk b base hb hβ
  | agg cs vs hv h ih => exact .agg cs vs hv ih
  | tup cs vs hv h ih => exact .tup cs vs hv ih
  | fn f cs vs hv h ih => exact .fn f cs vs hv ih

structure HpRel (Γ : GlobP) (S : Nat → Prop) (w : World) (β : Beta) (hp : Heap) : Prop where
  blk : ∀ l blk, hget hp l = some blk → (β l = none ∧ blk.len = 0) ∨ ∃ b base, β l = some (b, base) ∧ ¬ S b ∧ BlkRel S w β hp blk b base
  inj : ∀ l l' blk blk' b base base', hget hp l = some blk → hget hp l' = some blk' → β l = some (b, base) → β l' = some (b, base') → l = l'
  glob : Γ.ok S w

def Own (β : Beta) (hp : Heap) (b : Nat) : Prop := ∃ l blk base, hget hp l = some blk ∧ β l = some (b, base)

/-- The state is that of the machine's frame. -/
structure Rel (Γ : GlobP) (N : Nat) (S : Nat → Prop) (β : Beta) (st : St) (a : Act) (w : World) : Prop where
  size : a.tmps.size = N
  defers : a.defers = []
  env : ∀ t v, get st.env t = some v → t < N ∧ RF S w β st.hp v (a.tmps.getD t undef)
  hp : HpRel Γ S w β st.hp
  bound : ∀ b, S b → b < w.heap.size
  lab : ∀ l blk, hget st.hp l = some blk → l < st.nxt
  nxt : 1000 ≤ st.nxt
  prot : ∀ l, l ∈ st.prot → l < st.nxt

theorem HpRel.restrict {S : Nat → Prop} {w : World} {β : Beta} {hp : Heap} (h : HpRel Γ S w β hp) : HpRel Γ (fun b => S b ∧ IsC w b) w β hp := by
  refine ⟨fun l blk hb => ?_, h.inj, Γ.restrict _ _ h.glob⟩
  rcases h.blk l blk hb with h1 | ⟨b, base, h1, h2, c, e, fr, h3, h4, h5, h6⟩
  · exact .inl h1
  · exact .inr ⟨b, base, h1, fun h => h2 h.1, c, e, fr, h3, h4, h5, fun j x hj => let ⟨v, q1, q2⟩ := h6 j x hj; ⟨v, q1, q2.restrict⟩⟩
theorem Rel.restrict {N : Nat} {S : Nat → Prop} {β : Beta} {st : St} {a : Act} {w : World} (h : Rel Γ N S β st a w) : Rel Γ N (fun b => S b ∧ IsC w b) β st a w :=
  ⟨h.size, h.defers, fun t v hv => ⟨(h.env t v hv).1, (h.env t v hv).2.restrict⟩, h.hp.restrict, fun b hb => h.bound b hb.1, h.lab, h.nxt, h.prot⟩

/-- What a stretch of the run leaves of what was there. -/
structure Ext (prot : List Nat) (S : Nat → Prop) (β : Beta) (hp : Heap) (w : World) (S' : Nat → Prop) (β' : Beta) (hp' : Heap) (w' : World) : Prop where
  os : w'.os = w.os
  tape : w'.tape = w.tape
  output : w'.output = w.output
  size : w.heap.size ≤ w'.heap.size
  same : ∀ b, b < w.heap.size → ¬ Own β hp b → w'.heap[b]? = w.heap[b]?
  sub : ∀ b, S b → S' b
  new : ∀ b, S' b → S b ∨ Own β hp b ∨ w.heap.size ≤ b
  own : ∀ b, Own β' hp' b → Own β hp b ∨ w.heap.size ≤ b
  prot : ∀ l, l ∈ prot → ∀ blk', hget hp' l = some blk' → ∃ blk, hget hp l = some blk ∧ β' l = β l ∧ blk'.len = blk.len ∧ ∀ b base, β l = some (b, base) → ∀ e n, w.shape? b = some (e, n) → w'.shape? b = some (e, n)

theorem Ext.refl (prot : List Nat) (S : Nat → Prop) (β : Beta) (hp : Heap) (w : World) : Ext prot S β hp w S β hp w :=
  ⟨rfl, rfl, rfl, Nat.le_refl _, fun _ _ _ => rfl, fun _ h => h, fun _ h => .inl h, fun _ h => .inl h, fun _ _ blk h => ⟨blk, h, rfl, rfl, fun _ _ _ _ _ h => h⟩⟩

theorem Ext.trans {prot : List Nat} {S S1 S2 : Nat → Prop} {β β1 β2 : Beta} {hp hp1 hp2 : Heap} {w w1 w2 : World} (h : Ext prot S β hp w S1 β1 hp1 w1) (k : Ext prot S1 β1 hp1 w1 S2 β2 hp2 w2) : Ext prot S β hp w S2 β2 hp2 w2 where
  os := k.os.trans h.os
  tape := k.tape.trans h.tape
  output := k.output.trans h.output
  size := Nat.le_trans h.size k.size
  same := fun b hb ho => by
    rw [k.same b (Nat.lt_of_lt_of_le hb h.size) fun h1 => (h.own b h1).elim ho fun h2 => absurd hb (by omega), h.same b hb ho]
  sub := fun b hb => k.sub b (h.sub b hb)
  new := fun b hb => by
    rcases k.new b hb with h1 | h1 | h1
    · exact h.new b h1
    · rcases h.own b h1 with h2 | h2
      · exact .inr (.inl h2)
      · exact .inr (.inr h2)
    · exact .inr (.inr (Nat.le_trans h.size h1))
  own := fun b hb => by
    rcases k.own b hb with h1 | h1
    · exact h.own b h1
    · exact .inr (Nat.le_trans h.size h1)
  prot := fun l hl blk2 h2 => by
    obtain ⟨blk1, e1, e2, e3, e4⟩ := k.prot l hl blk2 h2
    obtain ⟨blk, f1, f2, f3, f4⟩ := h.prot l hl blk1 e1
    refine ⟨blk, f1, e2.trans f2, e3.trans f3, fun b base hβ e n hs => e4 b base (f2.trans hβ) e n (f4 b base hβ e n hs)⟩

end Go.Vm

/- The abstract machine's operations against the machine's: those that leave heap and world alone. -/
set_option linter.unusedSimpArgs false
set_option linter.unusedVariables false
namespace Go.Vm
variable {Γ : GlobP}

def chkI : I → Value → Bool
  | .bool a, .bool b => a == b
  | .int k n, .int k' m => decide (k = k') && decide (n = m)
  | .str s, .string t => decide (s.data.toList = t.data.toList)
  | .sl _ [], .slice none 0 0 => true
  | .nils _, .slice none 0 0 => true
  | .nilp, .pointer none => true
  | .nilifc, .nilIface => true
  | .nilfn, .nilFunc => true
  | _, _ => false
theorem chkI_ok {S : Nat → Prop} {w : World} {x : I} {v : Value} (h : chkI x v = true) : RI S w x v := by
  unfold chkI at h
  split at h
  · simp at h; subst h; exact .bool _
  · simp at h; obtain ⟨rfl, rfl⟩ := h; exact .int _ _
  · rename_i s t
    simp at h
    obtain ⟨⟨s⟩⟩ := s
    obtain ⟨⟨t⟩⟩ := t
    simp at h
    subst h
    exact .str _
  · exact .slE _ _ _
  · exact .nils _
  · exact .nilp
  · exact .nilifc
  · exact .nilfn
  · simp at h
def chkIL : List I → List Value → Bool
  | [], [] => true
  | x :: xs, v :: vs => chkI x v && chkIL xs vs
  | _, _ => false
theorem chkIL_ok {S : Nat → Prop} {w : World} : ∀ {xs : List I} {vs : List Value}, chkIL xs vs = true → vs.length = xs.length ∧ ∀ (j : Nat) (x) (v), xs[j]? = some x → vs[j]? = some v → RI S w x v
  | [], [], _ => ⟨rfl, fun _ _ _ h => by simp at h⟩
  | x :: xs, v :: vs, h => by
    simp [chkIL] at h
    obtain ⟨h1, h2⟩ := chkIL_ok (S := S) (w := w) h.2
    refine ⟨by simp [h1], fun j y u hy hu => ?_⟩
    cases j with
    | zero => simp at hy hu; subst hy; subst hu; exact chkI_ok h.1
    | succ j => exact h2 j y u (by simpa using hy) (by simpa using hu)
def chkOpd : Opd → Operand → Bool
  | .t n, .tmp m => n == m
  | .c x, .const v => chkI x v
  | .f g, .func h => g == h
  | _, _ => false

section
variable {P : Program} {N : Nat} {S : Nat → Prop} {β : Beta} {st st' : St} {a : Act} {w w' : World}

theorem Rel.val (hr : Rel Γ N S β st a w) {x : Opd} {y : Operand} (hc : chkOpd x y = true) {v : F} (h : st.val x = some v) : RF S w β st.hp v (a.eval y) := by
  unfold chkOpd at hc
  split at hc
  · simp at hc; subst hc; exact (hr.env _ _ h).2
  · simp only [St.val, Option.some.injEq] at h; subst h; exact .i _ _ (chkI_ok hc)
  · simp at hc; subst hc
    simp only [St.val, Option.some.injEq] at h; subst h
    exact .i _ _ (.fn _ [] #[] rfl (fun _ _ _ h => by simp at h))
  · simp at hc

def OpPost (Γ : GlobP) (N : Nat) (S : Nat → Prop) (β : Beta) (st : St) (a : Act) (w : World) (r : Result Next) (ov : Option F) (st' : St) : Prop :=
  ∃ cn w' S' β', r = .ok cn w' ∧ (match ov with | some v => ∃ cv, cn = .value cv ∧ RF S' w' β' st'.hp v cv | none => cn = .skip) ∧
    Rel Γ N S' β' st' a w' ∧ Ext st.prot S β st.hp w S' β' st'.hp w' ∧ st'.prot = st.prot

theorem OpPost.pure (hr : Rel Γ N S β st a w) {r : Result Next} {cv : Value} {v : F} (h : r = .ok (.value cv) w) (hv : RF S w β st.hp v cv) : OpPost Γ N S β st a w r (some v) st :=
  ⟨_, w, S, β, h, ⟨cv, rfl, hv⟩, hr, Ext.refl .., rfl⟩

/-! inversions -/
theorem RF.inv_i {hp : Heap} {x : I} {v : Value} (h : RF S w β hp (.i x) v) : RI S w x v := by cases h; assumption
theorem RI.inv_int {k : IntKind} {n : Int} {v : Value} (h : RI S w (.int k n) v) : v = .int k n := by cases h; rfl
theorem RI.inv_bool {b : Bool} {v : Value} (h : RI S w (.bool b) v) : v = .bool b := by cases h; rfl
theorem RI.inv_nil {v : Value} (h : RI S w .nilifc v) : v = .nilIface := by cases h; rfl
theorem RI.inv_ifc {t : TypeId} {x : I} {v : Value} (h : RI S w (.ifc t x) v) : ∃ u, v = .iface t u ∧ RI S w x u := by cases h; exact ⟨_, rfl, by assumption⟩
theorem RI.inv_str {b : ByteArray} {v : Value} (h : RI S w (.str b) v) : v = .string b := by cases h; rfl

theorem op_mv (hr : Rel Γ N S β st a w) {o : Oper} {x : Opd} {y : Operand} (ho : o.op = .move y ∨ o.op = .assign y) (hc : chkOpd x y = true) {v : F} (h : st.val x = some v) :
    OpPost Γ N S β st a w ((execOp a.eval o).run P w) (some v) st := by
  refine OpPost.pure hr ?_ (hr.val hc h)
  rcases ho with ho | ho <;> simp [execOp, ho]

theorem op_pick (hr : Rel Γ N S β st a w) {o : Oper} {c x y : Opd} {c' x' y' : Operand} (ho : o.op = .pick c' x' y') (hc : chkOpd c c' = true) (hx : chkOpd x x' = true) (hy : chkOpd y y' = true)
    {t : Bool} (ht : st.val c = some (.i (.bool t))) {v : F} (h : st.val (if t then x else y) = some v) :
    OpPost Γ N S β st a w ((execOp a.eval o).run P w) (some v) st := by
  have h1 := (hr.val hc ht).inv_i.inv_bool
  cases t
  · refine OpPost.pure hr ?_ (hr.val hy h)
    simp [execOp, ho, h1, asBool]
  · refine OpPost.pure hr ?_ (hr.val hx h)
    simp [execOp, ho, h1, asBool]

theorem op_un (hr : Rel Γ N S β st a w) {o : Oper} {x : Opd} {x' : Operand} {op : UnOp} {t : TypeId} (ho : o.op = .unOp op t x') (hc : chkOpd x x' = true) {i j : I} (hx : st.val x = some (.i i)) (h : unI op i = some j) :
    OpPost Γ N S β st a w ((execOp a.eval o).run P w) (some (.i j)) st := by
  have h1 := (hr.val hc hx).inv_i
  unfold unI at h
  split at h
  · simp at h; subst h
    have := h1.inv_int
    exact OpPost.pure hr (by simp [execOp, ho, this, Op.unary, Op.intArith]) (.i _ _ (.int _ _))
  · simp at h; subst h
    have := h1.inv_bool
    exact OpPost.pure hr (by simp [execOp, ho, this, Op.unary]) (.i _ _ (.bool _))
  · simp at h

theorem op_cint (hr : Rel Γ N S β st a w) {o : Oper} {x : Opd} {x' : Operand} {s d : TypeId} {k k' : IntKind} {n : Int} (ho : o.op = .convert s d x') (hs : (P.underlying s).isSome = true) (hd : P.underlying d = some (.int k))
    (hc : chkOpd x x' = true) (hx : st.val x = some (.i (.int k' n))) : OpPost Γ N S β st a w ((execOp a.eval o).run P w) (some (.i (.int k (k.wrap n)))) st := by
  have h1 := (hr.val hc hx).inv_i.inv_int
  obtain ⟨ds, hs⟩ := Option.isSome_iff_exists.1 hs
  refine OpPost.pure hr ?_ (.i _ _ (.int _ _))
  simp [execOp, ho, h1, convert, run_underlying hs, run_underlying hd, Conv.intToInt]

theorem op_cstr (hr : Rel Γ N S β st a w) {o : Oper} {x : Opd} {x' : Operand} {s d : TypeId} {b : ByteArray} (ho : o.op = .convert s d x') (hs : (P.underlying s).isSome = true) (hd : P.underlying d = some .string)
    (hc : chkOpd x x' = true) (hx : st.val x = some (.i (.str b))) : OpPost Γ N S β st a w ((execOp a.eval o).run P w) (some (.i (.str b))) st := by
  have h1 := (hr.val hc hx).inv_i.inv_str
  obtain ⟨ds, hs⟩ := Option.isSome_iff_exists.1 hs
  refine OpPost.pure hr ?_ (.i _ _ (.str _))
  simp [execOp, ho, h1, convert, run_underlying hs, run_underlying hd]

theorem op_ifc (hr : Rel Γ N S β st a w) {o : Oper} {x : Opd} {x' : Operand} {t : TypeId} {i : I} (ho : o.op = .makeInterface t x') {d : TypeDesc} (ht : P.underlying t = some d) (hd : ∀ m, d ≠ .interface m)
    (hc : chkOpd x x' = true) (hx : st.val x = some (.i i)) : OpPost Γ N S β st a w ((execOp a.eval o).run P w) (some (.i (.ifc t i))) st := by
  have h1 := (hr.val hc hx).inv_i
  refine OpPost.pure hr ?_ (.i _ _ (.ifc _ _ _ h1))
  cases d <;> first | exact absurd rfl (hd _) | simp [execOp, ho, Instr.makeInterface, run_underlying ht]


theorem run_eql_nilifc (t : TypeId) (ms : Array (String × TypeId)) (ht : P.underlying t = some (.interface ms)) (q : TypeId) (v : Value) :
    (binOp .eql t (.iface q v) .nilIface).run P w = .ok (.bool false) w ∧ (binOp .neq t (.iface q v) .nilIface).run P w = .ok (.bool true) w ∧
    (binOp .eql t .nilIface .nilIface).run P w = .ok (.bool true) w ∧ (binOp .neq t .nilIface .nilIface).run P w = .ok (.bool false) w := by
  have h1 : ∀ d, (Op.equalIn (d + 1) t (.iface q v) .nilIface).run P w = .ok false w := fun d => by simp [Op.equalIn, run_underlying ht]
  have h2 : ∀ d, (Op.equalIn (d + 1) t .nilIface .nilIface).run P w = .ok true w := fun d => by simp [Op.equalIn, run_underlying ht]
  have g1 := h1 9999
  have g2 := h2 9999
  refine ⟨?_, ?_, ?_, ?_⟩ <;> simp [binOp, Op.equal, Op.maxDepth, g1, g2]

/-- The comparisons that go by the type: of bools, and of an interface value with nil. -/
def chkBin (P : Program) (ty : Nat) (op : BinOp) (t : TypeId) (x y : Operand) : Bool :=
  match ty with
  | 0 => true
  | 1 => match P.underlying t with | some .bool => true | _ => false
  | 2 => (match P.underlying t with | some (.interface _) => true | _ => false) && ((match x with | .const _ => true | _ => false) || (match y with | .const _ => true | _ => false))
  | _ => false

theorem op_bin (hr : Rel Γ N S β st a w) {o : Oper} {ty : Nat} {op : BinOp} {x y : Opd} {x' y' : Operand} {t t' : TypeId} (ho : o.op = .binOp op t x' y' t') (hx : chkOpd x x' = true) (hy : chkOpd y y' = true) (hc : chkBin P ty op t x' y' = true)
    {i j r : I} (hi : st.val x = some (.i i)) (hj : st.val y = some (.i j)) (h : binI ty op i j = some r) : OpPost Γ N S β st a w ((execOp a.eval o).run P w) (some (.i r)) st := by
  have h1 := (hr.val hx hi).inv_i
  have h2 := (hr.val hy hj).inv_i
  unfold binI at h
  split at h
  · rename_i k p k' q
    rw [execOp, ho]
    simp only [h1.inv_int, h2.inv_int]
    split at h
    · rename_i hk
      subst hk
      cases op <;> simp at h
      case quo => obtain ⟨h0, rfl⟩ := h; exact OpPost.pure hr (by simp [eqGuard, binOp, Op.intDiv, h0]) (.i _ _ (.int _ _))
      case rem => obtain ⟨h0, rfl⟩ := h; exact OpPost.pure hr (by simp [eqGuard, binOp, Op.intDiv, h0]) (.i _ _ (.int _ _))
      case shl => obtain ⟨h0, rfl⟩ := h; exact OpPost.pure hr (by simp [eqGuard, binOp, Op.shift, show ¬ q < 0 from by omega]) (.i _ _ (.int _ _))
      case shr => obtain ⟨h0, rfl⟩ := h; exact OpPost.pure hr (by simp [eqGuard, binOp, Op.shift, show ¬ q < 0 from by omega]) (.i _ _ (.int _ _))
      all_goals (subst h; refine OpPost.pure hr (by simp [eqGuard, binOp, Op.intArith, Op.intBits, Op.intCmp]; try rfl) (.i _ _ ?_); constructor)
    · rename_i hk
      cases op <;> simp at h
      case shl => obtain ⟨h0, rfl⟩ := h; exact OpPost.pure hr (by simp [eqGuard, binOp, Op.shift, show ¬ q < 0 from by omega]) (.i _ _ (.int _ _))
      case shr => obtain ⟨h0, rfl⟩ := h; exact OpPost.pure hr (by simp [eqGuard, binOp, Op.shift, show ¬ q < 0 from by omega]) (.i _ _ (.int _ _))
  · rename_i p q
    rw [execOp, ho]
    simp only [h1.inv_str, h2.inv_str]
    cases op <;> simp at h
    case add =>
      obtain ⟨h0, rfl⟩ := h
      refine OpPost.pure hr ?_ (.i _ _ (.str _))
      have : ¬ ((9223372036854775807 : Int) < (p.size : Int) + (q.size : Int)) := by omega
      simp [eqGuard, binOp, Op.stringOp, IntKind.max, IntKind.signed, IntKind.bits, this]
    all_goals (subst h; refine OpPost.pure hr (by simp [eqGuard, binOp, Op.stringOp, ByteArray.toList_eq]; try rfl) (.i _ _ ?_); constructor)
  · rename_i p q
    split at h
    · rename_i hty
      subst hty
      have ht : P.underlying t = some .bool := by
        unfold chkBin at hc
        split at hc <;> first | contradiction | (split at hc <;> first | assumption | simp at hc)
      rw [execOp, ho]
      simp only [h1.inv_bool, h2.inv_bool]
      cases op <;> simp at h
      case eql => subst h; exact OpPost.pure hr (by simp [eqGuard, run_eql_bool _ t _ _ ht]) (.i _ _ (.bool _))
      case neq => subst h; exact OpPost.pure hr (by simp [eqGuard, run_neq_bool _ t _ _ ht]) (.i _ _ (.bool _))
    · simp at h
  · rename_i q v
    split at h
    · rename_i hty
      subst hty
      simp only [chkBin, Bool.and_eq_true] at hc
      obtain ⟨ms, ht⟩ : ∃ ms, P.underlying t = some (.interface ms) := by
        have := hc.1
        split at this
        · exact ⟨_, by assumption⟩
        · simp at this
      obtain ⟨u, g1, hu⟩ := h1.inv_ifc
      have g2 := h2.inv_nil
      obtain ⟨e1, e2, _, _⟩ := run_eql_nilifc (P := P) (w := w) t ms ht q u
      rw [execOp, ho]
      simp only [g1, g2]
      cases op <;> simp at h
      case eql => subst h; exact OpPost.pure hr (by simp [eqGuard, e1]) (.i _ _ (.bool _))
      case neq => subst h; exact OpPost.pure hr (by simp [eqGuard, e2]) (.i _ _ (.bool _))
    · simp at h
  · split at h
    · rename_i hty
      subst hty
      simp only [chkBin, Bool.and_eq_true, Bool.or_eq_true] at hc
      obtain ⟨ms, ht⟩ : ∃ ms, P.underlying t = some (.interface ms) := by
        have := hc.1
        split at this
        · exact ⟨_, by assumption⟩
        · simp at this
      obtain ⟨_, _, e1, e2⟩ := run_eql_nilifc (P := P) (w := w) t ms ht 0 .nilIface
      rw [execOp, ho]
      have g1 := h1.inv_nil
      have g2 := h2.inv_nil
      have hg : ∀ op : BinOp, (eqGuard op t x' y' .nilIface .nilIface).run P w = .ok () w := fun op => by
        unfold eqGuard
        rcases hc.2 with h | h
        · split at h
          · cases op <;> simp
          · simp at h
        · split at h
          · cases op <;> cases x' <;> simp
          · simp at h
      simp only [g1, g2]
      cases op <;> simp at h
      case eql => subst h; exact OpPost.pure hr (by simp [hg, e1]) (.i _ _ (.bool _))
      case neq => subst h; exact OpPost.pure hr (by simp [hg, e2]) (.i _ _ (.bool _))
    · simp at h
  · simp at h

end
end Go.Vm

/- Operations that read memory. -/
set_option linter.unusedSimpArgs false
set_option linter.unusedVariables false
namespace Go.Vm
variable {Γ : GlobP}

theorem addr_add (b o j : Nat) : (⟨b, o, none⟩ : Addr).add j = ⟨b, o + j, none⟩ := by unfold Addr.add; split <;> simp_all

def chkLoad (P : Program) (t : TypeId) (n : Option Nat) : Bool :=
  match P.underlying t, P.info? t with
  | some d, some i => (match d, n with
    | .struct _, some m => i.size == m
    | .array _ _, some m => i.size == m
    | .struct _, none => false
    | .array _ _, none => false
    | _, none => true
    | _, some _ => false)
  | _, _ => false

section
variable {P : Program} {N : Nat} {S : Nat → Prop} {β : Beta} {st st' : St} {a : Act} {w w' : World}

theorem run_loadVar_one {t : TypeId} (ht : chkLoad P t none = true) {x : Addr} {v : Value} (hc : w.cell? x = some v) : (loadVar t x).run P w = .ok v w := by
  unfold chkLoad at ht
  split at ht
  · rename_i d i hd hi
    have : (isAgg t).run P w = .ok false w := by
      cases d <;> first | (simp at ht; done) | simp [isAgg, run_underlying hd]
    simp [loadVar, this, load, Sem.run, hc]
  · simp at ht
theorem run_loadVar_agg {t : TypeId} {n : Nat} (ht : chkLoad P t (some n) = true) {b o : Nat} {vs : List Value} (hl : vs.length = n) (hc : ∀ (j : Nat) (v), vs[j]? = some v → w.cell? ⟨b, o + j, none⟩ = some v) :
    (loadVar t ⟨b, o, none⟩).run P w = .ok (.agg vs.toArray) w := by
  unfold chkLoad at ht
  split at ht
  · rename_i d i hd hi
    have h1 : (isAgg t).run P w = .ok true w := by
      cases d <;> first | (simp at ht; done) | simp [isAgg, run_underlying hd]
    have h2 : i.size = n := by
      cases d <;> first | (simp at ht; done) | simpa using ht
    have h3 := run_loadCells_list (P := P) w ⟨b, o, none⟩ vs (fun j v hj => by rw [addr_add]; exact hc j v hj)
    rw [hl] at h3
    simp [loadVar, h1, sizeOf, typeInfo, hi, h2, h3]
  · simp at ht

/-- The part of related cells. -/
theorem cells_part {α : Type} {R : α → Value → Prop} {cs : List α} {vs : List Value} (hv : vs.length = cs.length) (h : ∀ (j : Nat) (x) (v), cs[j]? = some x → vs[j]? = some v → R x v) (off n : Nat) :
    ((vs.drop off).take n).length = ((cs.drop off).take n).length ∧ ∀ (j : Nat) (x) (v), ((cs.drop off).take n)[j]? = some x → ((vs.drop off).take n)[j]? = some v → R x v := by
  refine ⟨by simp [hv], fun j x v hx hj => ?_⟩
  rw [List.getElem?_take] at hx hj
  split at hx
  · rename_i hlt
    rw [if_pos hlt] at hj
    rw [List.getElem?_drop] at hx hj
    exact h _ x v hx hj
  · simp at hx

theorem RI.inv_sl {k : Nat} {cs : List I} {v : Value} (h : RI S w (.sl k cs) v) : ∃ x len cap, v = .slice x len cap ∧ len * k = cs.length ∧ len ≤ cap ∧
    (cs = [] ∨ (0 < k ∧ 0 < len ∧ ∃ (b off : Nat) (vs : List Value), x = some ⟨b, off, none⟩ ∧ S b ∧ vs.length = cs.length ∧ (∀ (j : Nat) (v), vs[j]? = some v → w.cell? ⟨b, off + j, none⟩ = some v) ∧ ∀ (j : Nat) (x) (v), cs[j]? = some x → vs[j]? = some v → RI S w x v)) := by
  cases h with
  | slE _ x cap => exact ⟨x, 0, cap, rfl, by simp, by omega, .inl rfl⟩
  | slN _ _ b off len cap vs hk hl hc h0 hS hv hcell h => exact ⟨_, len, cap, rfl, hl, hc, .inr ⟨hk, h0, b, off, vs, rfl, hS, hv, hcell, h⟩⟩
theorem RI.inv_pim {off : Nat} {cs : List I} {v : Value} (h : RI S w (.pim cs off) v) : ∃ (b base : Nat) (vs : List Value), v = .pointer (some ⟨b, base + off, none⟩) ∧ S b ∧ vs.length = cs.length ∧ (∀ (j : Nat) (v), vs[j]? = some v → w.cell? ⟨b, base + j, none⟩ = some v) ∧ (∀ (j : Nat) (x) (v), cs[j]? = some x → vs[j]? = some v → RI S w x v) ∧ IsC w b := by
  cases h with
  | pim _ _ b base vs hS hv hcell h hc => exact ⟨b, base, vs, rfl, hS, hv, hcell, h, hc⟩
theorem RI.inv_agg {cs : List I} {v : Value} (h : RI S w (.agg cs) v) : ∃ vs : Array Value, v = .agg vs ∧ vs.size = cs.length ∧ ∀ (j : Nat) (x) (v), cs[j]? = some x → vs[j]? = some v → RI S w x v := by
  cases h with
  | agg _ vs hv h => exact ⟨vs, rfl, hv, h⟩
theorem RI.inv_tup {cs : List I} {v : Value} (h : RI S w (.tup cs) v) : ∃ vs : Array Value, v = .tuple vs ∧ vs.size = cs.length ∧ ∀ (j : Nat) (x) (v), cs[j]? = some x → vs[j]? = some v → RI S w x v := by
  cases h with
  | tup _ vs hv h => exact ⟨vs, rfl, hv, h⟩
theorem RF.inv_agg {hp : Heap} {cs : List F} {v : Value} (h : RF S w β hp (.agg cs) v) : ∃ vs : Array Value, v = .agg vs ∧ vs.size = cs.length ∧ ∀ (j : Nat) (x) (v), cs[j]? = some x → vs[j]? = some v → RF S w β hp x v := by
  cases h with
  | agg _ vs hv h => exact ⟨vs, rfl, hv, h⟩
theorem RF.inv_tup {hp : Heap} {cs : List F} {v : Value} (h : RF S w β hp (.tup cs) v) : ∃ vs : Array Value, v = .tuple vs ∧ vs.size = cs.length ∧ ∀ (j : Nat) (x) (v), cs[j]? = some x → vs[j]? = some v → RF S w β hp x v := by
  cases h with
  | tup _ vs hv h => exact ⟨vs, rfl, hv, h⟩
theorem RF.inv_ref {hp : Heap} {l off : Nat} {v : Value} (h : RF S w β hp (.ref l off) v) : ∃ blk b base, hget hp l = some blk ∧ β l = some (b, base) ∧ v = .pointer (some ⟨b, base + off, none⟩) := by
  cases h with
  | ref _ _ blk b base hb hβ => exact ⟨blk, b, base, hb, hβ, rfl⟩
theorem RF.inv_own {hp : Heap} {l off len k : Nat} {v : Value} (h : RF S w β hp (.own l off len k) v) : ∃ blk x cap, hget hp l = some blk ∧ v = .slice x len cap ∧ 0 < k ∧ off + len * k ≤ blk.len ∧ len ≤ cap ∧
    ((len = 0 ∧ cap = 0) ∨ ∃ b base n e, x = some ⟨b, base + off, none⟩ ∧ β l = some (b, base) ∧ w.shape? b = some (e, n) ∧ base + off + cap * k ≤ n) := by
  cases h with
  | own0 _ _ _ blk x hb ho hk => exact ⟨blk, x, 0, hb, rfl, hk, by omega, by omega, .inl ⟨rfl, rfl⟩⟩
  | ownS _ _ _ _ blk b base cap n e hb hβ ho hc hk hs hn => exact ⟨blk, _, cap, hb, rfl, hk, ho, hc, .inr ⟨b, base, n, e, rfl, hβ, hs, hn⟩⟩

theorem toIL_at : ∀ {cs : List F} {l : List I}, toIL cs = some l → l.length = cs.length ∧ ∀ (j : Nat) (x) (y), cs[j]? = some x → l[j]? = some y → x.toI = some y := by
  intro cs
  induction cs with
  | nil => intro l h; simp [toIL] at h; subst h; exact ⟨rfl, fun _ _ _ h => by simp at h⟩
  | cons c cs ihc =>
    intro l h
    simp only [toIL] at h
    split at h
    · rename_i x0 l0 hx0 hl0
      simp at h; subst h
      obtain ⟨e1, e2⟩ := ihc hl0
      refine ⟨by simp [e1], fun j x y hx hy => ?_⟩
      cases j with
      | zero => simp at hx hy; subst hx; subst hy; exact hx0
      | succ j => exact e2 j x y (by simpa using hx) (by simpa using hy)
    · simp at h
/-- toIL of related values. -/
theorem toI_rel {hp : Heap} {x : F} {v : Value} (h : RF S w β hp x v) : ∀ y, x.toI = some y → RI S w y v := by
  induction h with
  | i x v h => intro y hy; simp [F.toI] at hy; subst hy; exact h
  | own0 | ownS | ref => intro y hy; simp [F.toI] at hy
  | agg cs vs hv h ih =>
    intro y hy
    simp only [F.toI] at hy
    split at hy
    · rename_i l hl
      simp at hy; subst hy
      obtain ⟨e1, e2⟩ := toIL_at hl
      refine .agg l vs (by omega) fun j x v hx hj => ?_
      have hlt : j < cs.length := by have := (List.getElem?_eq_some_iff.1 hx).1; omega
      exact ih j cs[j] v (by simp [hlt]) hj x (e2 j cs[j] x (by simp [hlt]) hx)
    · simp at hy
  | tup cs vs hv h ih =>
    intro y hy
    simp only [F.toI] at hy
    split at hy
    · rename_i l hl
      simp at hy; subst hy
      obtain ⟨e1, e2⟩ := toIL_at hl
      refine .tup l vs (by omega) fun j x v hx hj => ?_
      have hlt : j < cs.length := by have := (List.getElem?_eq_some_iff.1 hx).1; omega
      exact ih j cs[j] v (by simp [hlt]) hj x (e2 j cs[j] x (by simp [hlt]) hx)
    · simp at hy
  | fn f cs vs hv h ih =>
    intro y hy
    simp only [F.toI] at hy
    split at hy
    · rename_i l hl
      simp at hy; subst hy
      obtain ⟨e1, e2⟩ := toIL_at hl
      refine .fn f l vs (by omega) fun j x v hx hj => ?_
      have hlt : j < cs.length := by have := (List.getElem?_eq_some_iff.1 hx).1; omega
      exact ih j cs[j] v (by simp [hlt]) hj x (e2 j cs[j] x (by simp [hlt]) hx)
    · simp at hy
theorem mkAgg_rel {hp : Heap} {cs : List F} {vs : Array Value} (hv : vs.size = cs.length) (h : ∀ (j : Nat) (x) (v), cs[j]? = some x → vs[j]? = some v → RF S w β hp x v) : RF S w β hp (mkAgg cs) (.agg vs) := by
  unfold mkAgg
  split
  · rename_i l hl
    exact .i _ _ (toI_rel (.agg cs vs hv h) _ (by simp [F.toI, hl]))
  · exact .agg cs vs hv h
theorem mkTup_rel {hp : Heap} {cs : List F} {vs : Array Value} (hv : vs.size = cs.length) (h : ∀ (j : Nat) (x) (v), cs[j]? = some x → vs[j]? = some v → RF S w β hp x v) : RF S w β hp (mkTup cs) (.tuple vs) := by
  unfold mkTup
  split
  · rename_i l hl
    exact .i _ _ (toI_rel (.tup cs vs hv h) _ (by simp [F.toI, hl]))
  · exact .tup cs vs hv h
theorem mkFn_rel {hp : Heap} {f : FuncId} {cs : List F} {vs : Array Value} (hv : vs.size = cs.length) (h : ∀ (j : Nat) (x) (v), cs[j]? = some x → vs[j]? = some v → RF S w β hp x v) : RF S w β hp (mkFn f cs) (.func (.func f) #[] vs) := by
  unfold mkFn
  split
  · rename_i l hl
    exact .i _ _ (toI_rel (.fn f cs vs hv h) _ (by simp [F.toI, hl]))
  · exact .fn f cs vs hv h

/-- A part of related cells, as a value. -/
theorem atI_one {cs : List I} {vs : List Value} (hv : vs.length = cs.length) (h : ∀ (j : Nat) (x) (v), cs[j]? = some x → vs[j]? = some v → RI S w x v) {off : Nat} {y : I} (hy : I.at none cs off = some y) :
    ∃ v, vs[off]? = some v ∧ RI S w y v := by
  simp only [I.at] at hy
  have hlt := (List.getElem?_eq_some_iff.1 hy).1
  exact ⟨vs[off]'(by omega), by simp [show off < vs.length by omega], h off y _ hy (by simp [show off < vs.length by omega])⟩
theorem atI_agg {cs : List I} {vs : List Value} (hv : vs.length = cs.length) (h : ∀ (j : Nat) (x) (v), cs[j]? = some x → vs[j]? = some v → RI S w x v) {n off : Nat} {y : I} (hy : I.at (some n) cs off = some y) :
    ((vs.drop off).take n).length = n ∧ RI S w y (.agg ((vs.drop off).take n).toArray) := by
  simp only [I.at] at hy
  split at hy
  · simp at hy; subst hy
    obtain ⟨e1, e2⟩ := cells_part hv h off n
    refine ⟨by simp; omega, .agg _ _ (by simp; omega) fun j x v hx hj => e2 j x v hx (by simpa using hj)⟩
  · simp at hy
theorem atF_one {hp : Heap} {cs : List F} {vs : List Value} (hv : vs.length = cs.length) (h : ∀ (j : Nat) (x) (v), cs[j]? = some x → vs[j]? = some v → RF S w β hp x v) {off : Nat} {y : F} (hy : F.at none cs off = some y) :
    ∃ v, vs[off]? = some v ∧ RF S w β hp y v := by
  simp only [F.at] at hy
  have hlt := (List.getElem?_eq_some_iff.1 hy).1
  exact ⟨vs[off]'(by omega), by simp [show off < vs.length by omega], h off y _ hy (by simp [show off < vs.length by omega])⟩
theorem atF_agg {hp : Heap} {cs : List F} {vs : List Value} (hv : vs.length = cs.length) (h : ∀ (j : Nat) (x) (v), cs[j]? = some x → vs[j]? = some v → RF S w β hp x v) {n off : Nat} {y : F} (hy : F.at (some n) cs off = some y) :
    ((vs.drop off).take n).length = n ∧ RF S w β hp y (.agg ((vs.drop off).take n).toArray) := by
  simp only [F.at] at hy
  split at hy
  · simp at hy; subst hy
    obtain ⟨e1, e2⟩ := cells_part hv h off n
    refine ⟨by simp; omega, mkAgg_rel (by simp; omega) fun j x v hx hj => e2 j x v hx (by simpa using hj)⟩
  · simp at hy

/-- The concrete cells of a block. -/
theorem BlkRel.vals {hp : Heap} {blk : Blk} {b base : Nat} (h : BlkRel S w β hp blk b base) : ∃ vs : List Value, vs.length = blk.cells.length ∧ (∀ (j : Nat) (v), vs[j]? = some v → w.cell? ⟨b, base + j, none⟩ = some v) ∧
    ∀ (j : Nat) (x) (v), blk.cells[j]? = some x → vs[j]? = some v → RF S w β hp x v := by
  obtain ⟨c, e, fr, hc, hfr, hlen, hcells⟩ := h
  have hl : blk.cells.length = blk.len := by cases blk <;> simp [Blk.cells, Blk.len]
  refine ⟨(c.toList.drop base).take blk.cells.length, ?_, ?_, ?_⟩
  · simp; omega
  · intro j v hj
    rw [List.getElem?_take] at hj
    split at hj
    · rw [List.getElem?_drop] at hj
      simp [World.cell?, hc]
      simpa using hj
    · simp at hj
  · intro j x v hx hj
    obtain ⟨u, hu, hr⟩ := hcells j x hx
    rw [List.getElem?_take] at hj
    split at hj
    · rw [List.getElem?_drop] at hj
      have : some u = some v := by rw [← hu, ← hj]; simp
      simp at this; subst this; exact hr
    · simp at hj
theorem Rel.blkRel (hr : Rel Γ N S β st a w) {l : Nat} {blk : Blk} {b base : Nat} (hb : hget st.hp l = some blk) (hβ : β l = some (b, base)) : ¬ S b ∧ BlkRel S w β st.hp blk b base := by
  rcases hr.hp.blk l blk hb with ⟨h, _⟩ | ⟨b', base', h, h1, h2⟩
  · rw [hβ] at h; simp at h
  · rw [hβ] at h; simp at h; obtain ⟨rfl, rfl⟩ := h; exact ⟨h1, h2⟩
theorem blkAt_F {blk : Blk} {n : Option Nat} {off : Nat} {v : F} (h : blk.at n off = some v) : F.at n blk.cells off = some v := by
  cases blk with
  | deep cs => exact h
  | flat cs =>
    simp only [Blk.at] at h
    cases n with
    | none => simpa [F.at, I.at, Blk.cells] using h
    | some n =>
      simp only [I.at] at h
      split at h
      · simp at h; subst h
        have key : ∀ l : List I, toIL (l.map .i) = some l := by
          intro l; induction l with
          | nil => rfl
          | cons c l ih => simp [toIL, F.toI, ih]
        simp only [F.at, Blk.cells, List.length_map]
        rw [if_pos (by assumption)]
        simp [mkAgg, ← List.map_drop, ← List.map_take, key]
      · simp at h

theorem op_load (hr : Rel Γ N S β st a w) {o : Oper} {x : Opd} {x' : Operand} {t : TypeId} {n : Option Nat} (ho : o.op = .load t x') (hx : chkOpd x x' = true) (hc : chkLoad P t n = true)
    {ov : Option F} (h : evalOp st (.load n x) = some (ov, st')) : OpPost Γ N S β st a w ((execOp a.eval o).run P w) ov st' := by
  simp only [evalOp] at h
  split at h
  · rename_i l off hv
    split at h
    · rename_i blk hb
      split at h
      · rename_i v hat
        simp at h; obtain ⟨rfl, rfl⟩ := h
        obtain ⟨blk', b, base, hb', hβ, he⟩ := (hr.val hx hv).inv_ref
        rw [hb] at hb'; simp at hb'; subst hb'
        obtain ⟨vs, hl, hcell, hrel⟩ := (hr.blkRel hb hβ).2.vals
        cases n with
        | none =>
          obtain ⟨u, hu, hru⟩ := atF_one hl hrel (blkAt_F hat)
          refine OpPost.pure hr ?_ hru
          simp [execOp, ho, he, Instr.loadAt, Instr.sureAddr, run_loadVar_one hc (hcell _ _ hu)]
        | some n =>
          obtain ⟨hn, hru⟩ := atF_agg hl hrel (blkAt_F hat)
          refine OpPost.pure hr ?_ hru
          have := run_loadVar_agg (P := P) (w := w) (b := b) (o := base + off) hc hn (fun j v hj => by
            rw [List.getElem?_take] at hj
            split at hj
            · rw [List.getElem?_drop] at hj; have := hcell _ _ hj; rw [← Nat.add_assoc] at this; exact this
            · simp at hj)
          simp only [execOp, ho, he, Instr.loadAt, Instr.sureAddr]
          simp [this]
      · simp at h
    · simp at h
  · rename_i cs off hv
    split at h
    · rename_i v hat
      simp at h; obtain ⟨rfl, rfl⟩ := h
      obtain ⟨b, base, vs, he, hS, hl, hcell, hrel, _⟩ := (hr.val hx hv).inv_i.inv_pim
      cases n with
      | none =>
        obtain ⟨u, hu, hru⟩ := atI_one hl hrel hat
        refine OpPost.pure hr ?_ (.i _ _ hru)
        simp [execOp, ho, he, Instr.loadAt, Instr.sureAddr, run_loadVar_one hc (hcell _ _ hu)]
      | some n =>
        obtain ⟨hn, hru⟩ := atI_agg hl hrel hat
        refine OpPost.pure hr ?_ (.i _ _ hru)
        have := run_loadVar_agg (P := P) (w := w) (b := b) (o := base + off) hc hn (fun j v hj => by
            rw [List.getElem?_take] at hj
            split at hj
            · rw [List.getElem?_drop] at hj; have := hcell _ _ hj; rw [← Nat.add_assoc] at this; exact this
            · simp at hj)
        simp only [execOp, ho, he, Instr.loadAt, Instr.sureAddr]
        simp [this]
    · simp at h
  · simp at h
end
end Go.Vm

/- Operations that read memory, continued. -/
set_option linter.unusedSimpArgs false
set_option linter.unusedVariables false
namespace Go.Vm
variable {Γ : GlobP}

def chkFad (P : Program) (s : TypeId) (f : Nat) (off : Nat) : Bool :=
  match P.underlying s with
  | some (.struct fields) => (match fields[f]? with
    | some fd => fd.offset == off && (match P.info? fd.type with | some i => i.size != 0 | none => false)
    | none => false)
  | _ => false
def chkFld (P : Program) (s : TypeId) (f : Nat) (off : Nat) (n : Option Nat) : Bool :=
  match P.underlying s with
  | some (.struct fields) => (match fields[f]? with
    | some fd => fd.offset == off && chkLoad P fd.type n
    | none => false)
  | _ => false
def chkSl (P : Program) (t : TypeId) (k : Nat) : Bool :=
  match P.underlying t with
  | some (.slice e) => (match P.info? e with | some i => i.size == k | none => false)
  | _ => false
def chkArr (P : Program) (t : TypeId) (k len : Nat) : Bool :=
  match P.underlying t with
  | some (.array m e) => m == len && (match P.info? e with | some i => i.size == k | none => false)
  | _ => false
def chkArrAt (P : Program) (t : TypeId) (k len : Nat) (n : Option Nat) : Bool :=
  match P.underlying t with
  | some (.array m e) => m == len && (match P.info? e with | some i => i.size == k && chkLoad P e n | none => false)
  | _ => false

section
variable {P : Program} {N : Nat} {S : Nat → Prop} {β : Beta} {st st' : St} {a : Act} {w w' : World}

theorem chkSl_ok {t : TypeId} {k : Nat} (h : chkSl P t k = true) : ∃ e i, P.underlying t = some (.slice e) ∧ P.info? e = some i ∧ i.size = k := by
  unfold chkSl at h
  split at h
  · split at h
    · exact ⟨_, _, by assumption, by assumption, by simpa using h⟩
    · simp at h
  · simp at h
theorem chkArr_ok {t : TypeId} {k len : Nat} (h : chkArr P t k len = true) : ∃ e i, P.underlying t = some (.array len e) ∧ P.info? e = some i ∧ i.size = k := by
  unfold chkArr at h
  split at h
  · simp at h
    obtain ⟨rfl, h⟩ := h
    split at h
    · exact ⟨_, _, by assumption, by assumption, by simpa using h⟩
    · simp at h
  · simp at h

theorem op_fad (hr : Rel Γ N S β st a w) {o : Oper} {x : Opd} {x' : Operand} {s : TypeId} {f off : Nat} (ho : o.op = .fieldAddr s x' f) (hx : chkOpd x x' = true) (hc : chkFad P s f off = true)
    {ov : Option F} (h : evalOp st (.fad off x) = some (ov, st')) : OpPost Γ N S β st a w ((execOp a.eval o).run P w) ov st' := by
  unfold chkFad at hc
  split at hc
  case h_2 => simp at hc
  rename_i fields hs
  split at hc
  case h_2 => simp at hc
  rename_i fd hf
  simp at hc
  obtain ⟨ho1, hc⟩ := hc
  split at hc
  case h_2 => simp at hc
  rename_i i hi
  have hne : i.size ≠ 0 := by simpa using hc
  have hrun : ∀ b o : Nat, (Instr.fieldAt s (.pointer (some ⟨b, o, none⟩)) f).run P w = .ok (.pointer (some ⟨b, o + off, none⟩)) w := fun b o => by
    simp [Instr.fieldAt, run_underlying hs, hf, Instr.sureAddr, fieldPlace, sizeOf, typeInfo, hi, hne, addr_add, ho1]
  simp only [evalOp] at h
  split at h
  · rename_i l off' hv
    simp at h; obtain ⟨rfl, rfl⟩ := h
    obtain ⟨blk, b, base, hb, hβ, he⟩ := (hr.val hx hv).inv_ref
    refine OpPost.pure hr (by simp [execOp, ho, he, hrun]; rfl) ?_
    rw [Nat.add_assoc]
    exact .ref l (off' + off) blk b base hb hβ
  · rename_i cs off' hv
    simp at h; obtain ⟨rfl, rfl⟩ := h
    obtain ⟨b, base, vs, he, hS, hl, hcell, hrel, hisc⟩ := (hr.val hx hv).inv_i.inv_pim
    refine OpPost.pure hr (by simp [execOp, ho, he, hrun]; rfl) ?_
    rw [Nat.add_assoc]
    exact .i _ _ (.pim cs (off' + off) b base vs hS hl hcell hrel hisc)
  · simp at h

theorem run_part_one {t : TypeId} (ht : chkLoad P t none = true) {cs : Array Value} {off : Nat} {v : Value} (hc : cs[off]? = some v) : (part t cs off).run P w = .ok v w := by
  unfold chkLoad at ht
  split at ht
  · rename_i d i hd hi
    have : (isAgg t).run P w = .ok false w := by
      cases d <;> first | (simp at ht; done) | simp [isAgg, run_underlying hd]
    simp [part, this, hc]
  · simp at ht
theorem run_part_agg {t : TypeId} {n : Nat} (ht : chkLoad P t (some n) = true) {cs : Array Value} {off : Nat} : (part t cs off).run P w = .ok (.agg (cs.extract off (off + n))) w := by
  unfold chkLoad at ht
  split at ht
  · rename_i d i hd hi
    have h1 : (isAgg t).run P w = .ok true w := by
      cases d <;> first | (simp at ht; done) | simp [isAgg, run_underlying hd]
    have h2 : i.size = n := by
      cases d <;> first | (simp at ht; done) | simpa using ht
    simp [part, h1, sizeOf, typeInfo, hi, h2]
  · simp at ht
theorem extract_part (cs : Array Value) (off n : Nat) : cs.extract off (off + n) = ((cs.toList.drop off).take n).toArray := by
  apply Array.ext'
  simp [Array.toList_extract, List.extract]

theorem op_fld (hr : Rel Γ N S β st a w) {o : Oper} {x : Opd} {x' : Operand} {s : TypeId} {f off : Nat} {n : Option Nat} (ho : o.op = .field s x' f) (hx : chkOpd x x' = true) (hc : chkFld P s f off n = true)
    {ov : Option F} (h : evalOp st (.fld off n x) = some (ov, st')) : OpPost Γ N S β st a w ((execOp a.eval o).run P w) ov st' := by
  unfold chkFld at hc
  split at hc
  case h_2 => simp at hc
  rename_i fields hs
  split at hc
  case h_2 => simp at hc
  rename_i fd hf
  simp at hc
  obtain ⟨ho1, hc⟩ := hc
  simp only [evalOp] at h
  split at h
  · rename_i cs hv
    split at h
    · rename_i v hat
      simp at h; obtain ⟨rfl, rfl⟩ := h
      obtain ⟨vs, he, hl, hrel⟩ := (hr.val hx hv).inv_i.inv_agg
      cases n with
      | none =>
        obtain ⟨u, hu, hru⟩ := atI_one (vs := vs.toList) (by simpa using hl) (fun j x v h1 h2 => hrel j x v h1 (by simpa using h2)) hat
        refine OpPost.pure hr ?_ (.i _ _ hru)
        simp [execOp, ho, he, Instr.field, run_underlying hs, hf, asAgg, ho1, run_part_one hc (show vs[off]? = some u by simpa using hu)]
      | some n =>
        obtain ⟨hn, hru⟩ := atI_agg (vs := vs.toList) (by simpa using hl) (fun j x v h1 h2 => hrel j x v h1 (by simpa using h2)) hat
        refine OpPost.pure hr ?_ (.i _ _ hru)
        simp [execOp, ho, he, Instr.field, run_underlying hs, hf, asAgg, ho1, run_part_agg hc, extract_part]
    · simp at h
  · rename_i cs hv
    split at h
    · rename_i v hat
      simp at h; obtain ⟨rfl, rfl⟩ := h
      obtain ⟨vs, he, hl, hrel⟩ := (hr.val hx hv).inv_agg
      cases n with
      | none =>
        obtain ⟨u, hu, hru⟩ := atF_one (vs := vs.toList) (by simpa using hl) (fun j x v h1 h2 => hrel j x v h1 (by simpa using h2)) hat
        refine OpPost.pure hr ?_ hru
        simp [execOp, ho, he, Instr.field, run_underlying hs, hf, asAgg, ho1, run_part_one hc (show vs[off]? = some u by simpa using hu)]
      | some n =>
        obtain ⟨hn, hru⟩ := atF_agg (vs := vs.toList) (by simpa using hl) (fun j x v h1 h2 => hrel j x v h1 (by simpa using h2)) hat
        refine OpPost.pure hr ?_ hru
        simp [execOp, ho, he, Instr.field, run_underlying hs, hf, asAgg, ho1, run_part_agg hc, extract_part]
    · simp at h
  · simp at h

theorem op_iad (hr : Rel Γ N S β st a w) {o : Oper} {x i : Opd} {x' i' : Operand} {t : TypeId} {k : Nat} (ho : o.op = .indexAddr t x' i') (hx : chkOpd x x' = true) (hi : chkOpd i i' = true) (hc : chkSl P t k = true)
    {ov : Option F} (h : evalOp st (.iad k x i) = some (ov, st')) : OpPost Γ N S β st a w ((execOp a.eval o).run P w) ov st' := by
  obtain ⟨e, inf, hu, hinf, hsz⟩ := chkSl_ok hc
  have hrun : ∀ (b o len cap : Nat) (q : IntKind) (n : Int), 0 ≤ n → n < (len : Int) → (Instr.indexAt t (.slice (some ⟨b, o, none⟩) len cap) (.int q n)).run P w = .ok (.pointer (some ⟨b, o + n.toNat * k, none⟩)) w := fun b o len cap q n h0 h1 => by
    simp [Instr.indexAt, asIntOf, run_underlying hu, h0, h1, sizeOf, typeInfo, hinf, hsz, addr_add]
  simp only [evalOp] at h
  split at h
  · rename_i l off len k' q n hv hn
    split at h
    · rename_i hcond
      simp at h; obtain ⟨rfl, rfl⟩ := h
      obtain ⟨rfl, h0, h1⟩ := hcond
      obtain ⟨blk, y, cap, hb, he, hk, hlen, hcap, hd⟩ := (hr.val hx hv).inv_own
      have e2 := (hr.val hi hn).inv_i.inv_int
      rcases hd with ⟨hz, _⟩ | ⟨b, base, m, e', rfl, hβ, hs, hm⟩
      · omega
      refine OpPost.pure hr (by simp [execOp, ho, he, e2, hrun _ _ _ _ _ _ h0 h1]; rfl) ?_
      rw [Nat.add_assoc]
      exact .ref l _ blk b base hb hβ
    · simp at h
  · rename_i k' cs q n hv hn
    split at h
    · rename_i hcond
      simp at h; obtain ⟨rfl, rfl⟩ := h
      obtain ⟨rfl, hk0, h0, h1⟩ := hcond
      obtain ⟨y, len, cap, he, hlen, hcap, hd⟩ := (hr.val hx hv).inv_i.inv_sl
      have e2 := (hr.val hi hn).inv_i.inv_int
      rcases hd with rfl | ⟨hk, hl0, b, off, vs, rfl, hS, hl, hcell, hrel⟩
      · exfalso
        simp at h1
        have : 0 < (n + 1) * (k' : Int) := Int.mul_pos (by omega) (by omega)
        omega
      have hlt : n < (len : Int) := by
        have h2 : (n + 1) * (k' : Int) ≤ (len : Int) * (k' : Int) := by rw [← hlen] at h1; push_cast at h1; exact h1
        have := Int.le_of_mul_le_mul_right h2 (by omega)
        omega
      refine OpPost.pure hr (by simp [execOp, ho, he, e2, hrun _ _ _ _ _ _ h0 hlt]; rfl) ?_
      exact .i _ _ (.pim cs _ b off vs hS hl hcell hrel (isC_of_cell hl (by rw [← hlen]; exact Nat.mul_pos hl0 hk) hcell))
    · simp at h
  · simp at h
theorem op_iada (hr : Rel Γ N S β st a w) {o : Oper} {x i : Opd} {x' i' : Operand} {t : TypeId} {k len : Nat} (ho : o.op = .indexAddr t x' i') (hx : chkOpd x x' = true) (hi : chkOpd i i' = true) (hc : chkArr P t k len = true)
    {ov : Option F} (h : evalOp st (.iada k len x i) = some (ov, st')) : OpPost Γ N S β st a w ((execOp a.eval o).run P w) ov st' := by
  obtain ⟨e, inf, hu, hinf, hsz⟩ := chkArr_ok hc
  have hrun : ∀ (b o : Nat) (q : IntKind) (n : Int), 0 ≤ n → n < (len : Int) → (Instr.indexAt t (.pointer (some ⟨b, o, none⟩)) (.int q n)).run P w = .ok (.pointer (some ⟨b, o + n.toNat * k, none⟩)) w := fun b o q n h0 h1 => by
    simp [Instr.indexAt, asIntOf, run_underlying hu, h0, h1, sizeOf, typeInfo, hinf, hsz, addr_add, Instr.sureAddr]
  simp only [evalOp] at h
  split at h
  · rename_i l off q n hv hn
    split at h
    · rename_i hcond
      simp at h; obtain ⟨rfl, rfl⟩ := h
      obtain ⟨h0, h1⟩ := hcond
      obtain ⟨blk, b, base, hb, hβ, he⟩ := (hr.val hx hv).inv_ref
      have e2 := (hr.val hi hn).inv_i.inv_int
      refine OpPost.pure hr (by simp [execOp, ho, he, e2, hrun _ _ _ _ h0 h1]; rfl) ?_
      rw [Nat.add_assoc]
      exact .ref l _ blk b base hb hβ
    · simp at h
  · rename_i cs off q n hv hn
    split at h
    · rename_i hcond
      simp at h; obtain ⟨rfl, rfl⟩ := h
      obtain ⟨h0, h1⟩ := hcond
      obtain ⟨b, base, vs, he, hS, hl, hcell, hrel, hisc⟩ := (hr.val hx hv).inv_i.inv_pim
      have e2 := (hr.val hi hn).inv_i.inv_int
      refine OpPost.pure hr (by simp [execOp, ho, he, e2, hrun _ _ _ _ h0 h1]; rfl) ?_
      rw [Nat.add_assoc]
      exact .i _ _ (.pim cs _ b base vs hS hl hcell hrel hisc)
    · simp at h
  · simp at h

theorem op_ixs (hr : Rel Γ N S β st a w) {o : Oper} {x i : Opd} {x' i' : Operand} {t : TypeId} (ho : o.op = .index t x' i') (hx : chkOpd x x' = true) (hi : chkOpd i i' = true) (hu : P.underlying t = some .string)
    {ov : Option F} (h : evalOp st (.ixs x i) = some (ov, st')) : OpPost Γ N S β st a w ((execOp a.eval o).run P w) ov st' := by
  simp only [evalOp] at h
  split at h
  · rename_i s q n hv hn
    split at h
    · rename_i hcond
      simp at h; obtain ⟨rfl, rfl⟩ := h
      have e1 := (hr.val hx hv).inv_i.inv_str
      have e2 := (hr.val hi hn).inv_i.inv_int
      refine OpPost.pure hr ?_ (.i _ _ (.int _ _))
      simp [execOp, ho, e1, e2, Instr.index, asIntOf, run_underlying hu, hcond.1, getElem?_pos s n.toNat hcond.2]
    · simp at h
  · simp at h

theorem op_ixa (hr : Rel Γ N S β st a w) {o : Oper} {x i : Opd} {x' i' : Operand} {t : TypeId} {k len : Nat} {n : Option Nat} (ho : o.op = .index t x' i') (hx : chkOpd x x' = true) (hi : chkOpd i i' = true) (hc : chkArrAt P t k len n = true)
    {ov : Option F} (h : evalOp st (.ixa k len n x i) = some (ov, st')) : OpPost Γ N S β st a w ((execOp a.eval o).run P w) ov st' := by
  unfold chkArrAt at hc
  split at hc
  case h_2 => simp at hc
  rename_i m e hu
  simp at hc
  obtain ⟨rfl, hc⟩ := hc
  split at hc
  case h_2 => simp at hc
  rename_i inf hinf
  simp at hc
  obtain ⟨hsz, hc⟩ := hc
  simp only [evalOp] at h
  split at h
  · rename_i cs q j hv hn
    split at h
    · rename_i hcond
      split at h
      · rename_i v hat
        simp at h; obtain ⟨rfl, rfl⟩ := h
        obtain ⟨vs, he, hl, hrel⟩ := (hr.val hx hv).inv_i.inv_agg
        have e2 := (hr.val hi hn).inv_i.inv_int
        cases n with
        | none =>
          obtain ⟨u, hu', hru⟩ := atI_one (vs := vs.toList) (by simpa using hl) (fun j x v h1 h2 => hrel j x v h1 (by simpa using h2)) hat
          refine OpPost.pure hr ?_ (.i _ _ hru)
          simp [execOp, ho, he, e2, Instr.index, asIntOf, run_underlying hu, hcond, sizeOf, typeInfo, hinf, hsz, run_part_one hc (show vs[j.toNat * k]? = some u by simpa using hu')]
        | some n =>
          obtain ⟨hn', hru⟩ := atI_agg (vs := vs.toList) (by simpa using hl) (fun j x v h1 h2 => hrel j x v h1 (by simpa using h2)) hat
          refine OpPost.pure hr ?_ (.i _ _ hru)
          simp [execOp, ho, he, e2, Instr.index, asIntOf, run_underlying hu, hcond, sizeOf, typeInfo, hinf, hsz, run_part_agg hc, extract_part]
      · simp at h
    · simp at h
  · simp at h

theorem op_ext (hr : Rel Γ N S β st a w) {o : Oper} {x : Opd} {x' : Operand} {j : Nat} (ho : o.op = .extract x' j) (hx : chkOpd x x' = true)
    {ov : Option F} (h : evalOp st (.ext x j) = some (ov, st')) : OpPost Γ N S β st a w ((execOp a.eval o).run P w) ov st' := by
  simp only [evalOp] at h
  split at h
  · rename_i cs hv
    split at h
    · rename_i v hat
      simp at h; obtain ⟨rfl, rfl⟩ := h
      obtain ⟨vs, he, hl, hrel⟩ := (hr.val hx hv).inv_i.inv_tup
      have hlt := (List.getElem?_eq_some_iff.1 hat).1
      refine OpPost.pure (cv := vs[j]) hr ?_ (.i _ _ (hrel j _ _ hat (by simp [show j < vs.size by omega])))
      simp [execOp, ho, he, Instr.extract, show j < vs.size by omega]
    · simp at h
  · rename_i cs hv
    split at h
    · rename_i v hat
      simp at h; obtain ⟨rfl, rfl⟩ := h
      obtain ⟨vs, he, hl, hrel⟩ := (hr.val hx hv).inv_tup
      have hlt := (List.getElem?_eq_some_iff.1 hat).1
      refine OpPost.pure (cv := vs[j]) hr ?_ (hrel j _ _ hat (by simp [show j < vs.size by omega]))
      simp [execOp, ho, he, Instr.extract, show j < vs.size by omega]
    · simp at h
  · simp at h

def chkLen (P : Program) (t : TypeId) (str : Bool) : Bool :=
  match P.underlying t with
  | some .string => str
  | some (.slice _) => !str
  | _ => false

theorem op_len (hr : Rel Γ N S β st a w) {o : Oper} {x : Opd} {x' : Operand} {t : TypeId} {str : Bool} (ho : o.op = .call { callee := .builtin .len, args := #[x'], argTypes := #[t] }) (hx : chkOpd x x' = true) (hc : chkLen P t str = true)
    {ov : Option F} (h : evalOp st (.len str x) = some (ov, st')) : OpPost Γ N S β st a w ((execOp a.eval o).run P w) ov st' := by
  have hsl : ∀ (y : Option Addr) (len cap : Nat), str = false → a.eval x' = .slice y len cap → (execOp a.eval o).run P w = .ok (.value (.int .i64 len)) w := fun y len cap hs he => by
    subst hs
    unfold chkLen at hc
    split at hc <;> simp at hc
    rename_i e hu
    simp [execOp, ho, resolve, invoke, builtin, Builtin.len_, run_underlying hu, he, goInt]
  simp only [evalOp] at h
  split at h
  · rename_i s hv
    split at h
    · rename_i hs
      subst hs
      simp at h; obtain ⟨rfl, rfl⟩ := h
      have e1 := (hr.val hx hv).inv_i.inv_str
      refine OpPost.pure hr ?_ (.i _ _ (.int _ _))
      unfold chkLen at hc
      split at hc <;> simp at hc
      rename_i hu
      simp [execOp, ho, resolve, invoke, builtin, Builtin.len_, run_underlying hu, e1, goInt]
    · simp at h
  · rename_i k cs hv
    split at h
    · simp at h
    · rename_i hk
      simp at h; obtain ⟨rfl, rfl⟩ := h
      obtain ⟨y, len, cap, he, hlen, hcap, hd⟩ := (hr.val hx hv).inv_i.inv_sl
      have : cs.length / k = len := by rw [← hlen]; exact Nat.mul_div_cancel _ (by omega)
      rw [← Int.natCast_ediv, this]
      exact OpPost.pure hr (hsl y len cap (by simp at hk; exact hk.2) he) (.i _ _ (.int _ _))
  · rename_i k hv
    split at h
    · simp at h
    · rename_i hk
      simp at h; obtain ⟨rfl, rfl⟩ := h
      have he : a.eval x' = .slice none 0 0 := by
        have := (hr.val hx hv).inv_i
        generalize a.eval x' = u at this
        cases this; rfl
      exact OpPost.pure hr (hsl none 0 0 (by simpa using hk) he) (.i _ _ (.int _ _))
  · rename_i l off len k hv
    split at h
    · simp at h
    · rename_i hk
      simp at h; obtain ⟨rfl, rfl⟩ := h
      obtain ⟨blk, y, cap, hb, he, _⟩ := (hr.val hx hv).inv_own
      exact OpPost.pure hr (hsl y len cap (by simpa using hk) he) (.i _ _ (.int _ _))
  · simp at h

theorem op_mnmx (hr : Rel Γ N S β st a w) {o : Oper} {x y : Opd} {x' y' : Operand} {ts : Array TypeId} {mx : Bool} (ho : o.op = .call { callee := .builtin (if mx then .max else .min), args := #[x', y'], argTypes := ts }) (hx : chkOpd x x' = true) (hy : chkOpd y y' = true)
    {ov : Option F} (h : evalOp st (.mnmx mx x y) = some (ov, st')) : OpPost Γ N S β st a w ((execOp a.eval o).run P w) ov st' := by
  simp only [evalOp] at h
  split at h
  · rename_i k p q r hv hn
    simp at h; obtain ⟨rfl, rfl⟩ := h
    have e1 := (hr.val hx hv).inv_i.inv_int
    have e2 := (hr.val hy hn).inv_i.inv_int
    refine OpPost.pure hr ?_ (.i _ _ (.int _ _))
    cases mx <;> simp [execOp, ho, resolve, invoke, builtin, e1, e2, Builtin.min_, Builtin.max_, Builtin.min2, Builtin.max2]
  · simp at h

theorem op_nilchk (hr : Rel Γ N S β st a w) {o : Oper} {x : Opd} {x' : Operand} (ho : o.op = .nilCheck x') (hx : chkOpd x x' = true)
    {ov : Option F} (h : evalOp st (.nilchk x) = some (ov, st')) : OpPost Γ N S β st a w ((execOp a.eval o).run P w) ov st' := by
  simp only [evalOp] at h
  split at h
  · rename_i l off hv
    simp at h; obtain ⟨rfl, rfl⟩ := h
    have h1 := hr.val hx hv
    obtain ⟨blk, b, base, hb, hβ, he⟩ := h1.inv_ref
    exact OpPost.pure hr (by simp [execOp, ho, he]) (he ▸ h1)
  · rename_i cs off hv
    simp at h; obtain ⟨rfl, rfl⟩ := h
    have h1 := hr.val hx hv
    obtain ⟨b, base, vs, he, _⟩ := h1.inv_i.inv_pim
    exact OpPost.pure hr (by simp [execOp, ho, he]) (he ▸ h1)
  · simp at h

theorem op_mkfn (hr : Rel Γ N S β st a w) {o : Oper} {g : FuncId} {caps : List Opd} {caps' : Array Operand} (ho : o.op = .makeFunc (.func g) #[] caps') (hl : caps'.size = caps.length)
    (hc : ∀ (j : Nat) (x) (y), caps[j]? = some x → caps'[j]? = some y → chkOpd x y = true)
    {ov : Option F} (h : evalOp st (.mkfn g caps) = some (ov, st')) : OpPost Γ N S β st a w ((execOp a.eval o).run P w) ov st' := by
  simp only [evalOp] at h
  split at h
  · rename_i vs hvs
    simp at h; obtain ⟨rfl, rfl⟩ := h
    have key : ∀ (caps : List Opd) (vs : List F), caps.mapM st.val = some vs → vs.length = caps.length ∧ ∀ (j : Nat) (x) (v), caps[j]? = some x → vs[j]? = some v → st.val x = some v := by
      intro caps
      induction caps with
      | nil => intro vs h; simp at h; subst h; exact ⟨rfl, fun _ _ _ h => by simp at h⟩
      | cons c caps ih =>
        intro vs h
        simp only [List.mapM_cons] at h
        cases hcv : st.val c with
        | none => simp [hcv] at h
        | some u =>
          cases hm : caps.mapM st.val with
          | none => simp [hcv, hm] at h
          | some us =>
            simp [hcv, hm] at h
            subst h
            obtain ⟨e1, e2⟩ := ih us hm
            refine ⟨by simp [e1], fun j x v hx hj => ?_⟩
            cases j with
            | zero => simp at hx hj; subst hx; subst hj; exact hcv
            | succ j => exact e2 j x v (by simpa using hx) (by simpa using hj)
    obtain ⟨e1, e2⟩ := key caps vs hvs
    refine OpPost.pure (cv := .func (.func g) #[] (caps'.map a.eval)) hr (by simp [execOp, ho, Instr.makeFunc]) (mkFn_rel (by simp; omega) fun j x v hx hj => ?_)
    simp only [Array.getElem?_map] at hj
    cases hcj : caps'[j]? with
    | none => simp [hcj] at hj
    | some y =>
      simp [hcj] at hj; subst hj
      have hlt := (List.getElem?_eq_some_iff.1 hx).1
      have hcap : caps[j]? = some (caps[j]'(by omega)) := by simp [show j < caps.length by omega]
      exact hr.val (hc j _ _ hcap hcj) (e2 j _ _ hcap hx)
  · simp at h
end
end Go.Vm
