/- The machine's code, by program. -/
import Derived.Test.YtmjlglnolgaekaaGreatDoorV01
set_option linter.unusedSimpArgs false
set_option linter.unusedVariables false
set_option maxRecDepth 100000
namespace Go.Vm
def sI (l : List Nat) : I := .str ⟨(l.map UInt8.ofNat).toArray⟩
/-- schisma/schismalaw22.SupportEnds -/
def v7 : VFun where
  params := 2
  results := [.tmp 4]
  fin := []
  thr := false
  body :=
    (.seq
     (.region [.op (some 4) none (.mv (.c (.bool false)))] [0, 1])
     (.seq
      (.seq
       (.region [.op (some 18) none (.call 11 [] none),
         .op (some 19) none (.un .not (.t 18))] [0, 1, 19])
       (.cond (.t 19)
        (.seq
         (.region [.op (some 4) none (.mv (.c (.bool false)))] [4])
         .ret)
        .skip))
      (.seq
       (.region [.op (some 20) none (.mv (.t 0)),
         .op (some 21) none (.call 12 [(false, (.t 20))] none),
         .op (some 5) none (.mv (.t 21))] [1, 5])
       (.seq
        (.region [.op (some 23) none (.mv (.t 5)),
          .op (some 24) none (.mv (.t 1)),
          .op (some 25) none (.bin 0 .rem (.t 24) (.c (.int .u16 300))),
          .op (some 26) none (.cint .i64 (.t 25)),
          .op (some 27) none (.bin 0 .add (.c (.int .i64 1)) (.t 26)),
          .pre (.frz 23) (.op (some 28) none (.call 14 [(false, (.t 23)), (false, (.t 27))] none)),
          .op (some 22) none (.mv (.t 28)),
          .op (some 29) none (.ext (.t 22) 0),
          .op (some 30) none (.ext (.t 22) 1),
          .op (some 6) none (.mv (.t 29)),
          .op (some 7) none (.mv (.t 30))] [5, 6, 7])
        (.seq
         (.region [.op (some 32) none (.mv (.t 5)),
           .pre (.frz 32) (.op (some 33) none (.call 35 [(false, (.t 32))] none)),
           .op (some 31) none (.mv (.t 33)),
           .op (some 34) none (.ext (.t 31) 0),
           .op (some 35) none (.ext (.t 31) 1),
           .op (some 8) none (.alloc [.nils 1, .nils 1, .nils 1] (some 100)),
           .op none none (.store 3 (.t 8) (.t 34)),
           .op (some 9) none (.mv (.t 35))] [5, 6, 7, 8, 9])
         (.seq
          (.region [.op (some 37) none (.mv (.t 5)),
            .pre (.frz 37) (.op (some 38) none (.call 36 [(false, (.t 37))] none)),
            .op (some 36) none (.mv (.t 38)),
            .op (some 39) none (.ext (.t 36) 0),
            .op (some 40) none (.ext (.t 36) 1),
            .op (some 10) none (.alloc [.nils 1, .nils 1, .nils 1] (some 101)),
            .op none none (.store 3 (.t 10) (.t 39)),
            .op (some 11) none (.mv (.t 40))] [6, 7, 8, 9, 10, 11])
          (.seq
           (.region [.op (some 42) none (.load (some 3) (.t 8)),
             .op (some 43) none (.mv (.t 6)),
             .op (some 44) none (.call 33 [(false, (.t 42)), (false, (.t 43))] none),
             .op (some 41) none (.mv (.t 44)),
             .op (some 45) none (.ext (.t 41) 0),
             .op (some 46) none (.ext (.t 41) 1),
             .op (some 12) none (.mv (.t 45)),
             .op (some 13) none (.mv (.t 46))] [6, 7, 8, 9, 10, 11, 12, 13])
           (.seq
            (.region [.op (some 48) none (.load (some 3) (.t 10)),
              .op (some 49) none (.mv (.t 6)),
              .op (some 50) none (.call 33 [(false, (.t 48)), (false, (.t 49))] none),
              .op (some 47) none (.mv (.t 50)),
              .op (some 51) none (.ext (.t 47) 0),
              .op (some 52) none (.ext (.t 47) 1),
              .op (some 14) none (.mv (.t 51)),
              .op (some 15) none (.mv (.t 52))] [6, 7, 8, 9, 11, 12, 13, 14, 15])
            (.seq
             (.region [.op (some 54) none (.load (some 3) (.t 8)),
               .op (some 55) none (.mv (.t 6)),
               .pre (.frz 55) (.op (some 56) none (.call 34 [(false, (.t 54)), (false, (.t 55))] none)),
               .op (some 53) none (.mv (.t 56)),
               .op (some 57) none (.ext (.t 53) 0),
               .op (some 58) none (.ext (.t 53) 1),
               .op (some 16) none (.mv (.t 57)),
               .op (some 17) none (.mv (.t 58))] [6, 7, 9, 11, 12, 13, 14, 15, 16, 17])
             (.seq
              (.region [.op (some 59) none (.mv (.t 7)),
                .op (some 60) none (.bin 0 .eql (.t 59) (.c (.int .i64 0))),
                .op (some 61) none (.mv (.t 60)),
                .op (some 62) (some (61, true)) (.mv (.t 9)),
                .op (some 63) (some (61, true)) (.bin 0 .eql (.t 62) (.c (.int .i64 0))),
                .op (some 64) none (.pick (.t 61) (.t 63) (.c (.bool false))),
                .op (some 65) none (.mv (.t 64)),
                .op (some 66) (some (65, true)) (.mv (.t 11)),
                .op (some 67) (some (65, true)) (.bin 0 .eql (.t 66) (.c (.int .i64 0))),
                .op (some 68) none (.pick (.t 65) (.t 67) (.c (.bool false))),
                .op (some 69) none (.mv (.t 68)),
                .op (some 70) (some (69, true)) (.mv (.t 13)),
                .op (some 71) (some (69, true)) (.bin 0 .eql (.t 70) (.c (.int .i64 0))),
                .op (some 72) none (.pick (.t 69) (.t 71) (.c (.bool false))),
                .op (some 73) none (.mv (.t 72)),
                .op (some 74) (some (73, true)) (.mv (.t 15)),
                .op (some 75) (some (73, true)) (.bin 0 .eql (.t 74) (.c (.int .i64 0))),
                .op (some 76) none (.pick (.t 73) (.t 75) (.c (.bool false))),
                .op (some 77) none (.mv (.t 76)),
                .op (some 78) (some (77, true)) (.mv (.t 17)),
                .op (some 79) (some (77, true)) (.bin 0 .eql (.t 78) (.c (.int .i64 0))),
                .op (some 80) none (.pick (.t 77) (.t 79) (.c (.bool false))),
                .op (some 81) none (.mv (.t 80)),
                .op (some 82) (some (81, true)) (.mv (.t 12)),
                .op (some 83) none (.pick (.t 81) (.t 82) (.c (.bool false))),
                .op (some 84) none (.mv (.t 83)),
                .op (some 85) (some (84, true)) (.mv (.t 14)),
                .op (some 86) (some (84, true)) (.un .not (.t 85)),
                .op (some 87) none (.pick (.t 84) (.t 86) (.c (.bool false))),
                .op (some 88) none (.mv (.t 87)),
                .op (some 89) (some (88, true)) (.mv (.t 16)),
                .op (some 90) (some (88, true)) (.mv (.t 6)),
                .op (some 91) (some (88, true)) (.call 27 [(false, (.t 89)), (false, (.t 90))] none),
                .op (some 92) none (.pick (.t 88) (.t 91) (.c (.bool false))),
                .op (some 4) none (.mv (.t 92))] [4])
              .ret))))))))))

/-- schisma/schismalaw22.known -/
def v11 : VFun where
  params := 0
  results := [.tmp 0]
  fin := []
  thr := false
  body :=
    (.seq
     (.region [.op (some 0) none (.mv (.c (.bool false)))] [])
     (.seq
      (.region [.op (some 10) none (.bsl 1 3 [.int .i64 0, .int .i64 0, .int .i64 0] [(0, 1, (.c (.int .i64 2))), (1, 1, (.c (.int .i64 3))), (2, 1, (.c (.int .i64 5)))] (some 100)),
        .op (some 1) none (.mv (.t 10))] [1])
      (.seq
       (.region [.op (some 12) none (.mv (.t 1)),
         .pre (.frz 12) (.op (some 13) none (.call 13 [(false, (.t 12)), (false, (.c (.int .i64 12))), (false, (.c (.int .i64 19)))] none)),
         .op (some 11) none (.mv (.t 13)),
         .op (some 14) none (.ext (.t 11) 0),
         .op (some 15) none (.ext (.t 11) 1),
         .op (some 2) none (.alloc [.nils 1, .nils 1, .nils 1] (some 101)),
         .op none none (.store 3 (.t 2) (.t 14)),
         .op (some 3) none (.mv (.t 15))] [2, 3])
       (.seq
        (.region [.op (some 17) none (.load (some 3) (.t 2)),
          .op (some 18) none (.call 28 [(false, (.t 17)), (false, (.c (.int .i64 31)))] none),
          .op (some 16) none (.mv (.t 18)),
          .op (some 19) none (.ext (.t 16) 0),
          .op (some 20) none (.ext (.t 16) 1),
          .op (some 4) none (.mv (.t 19)),
          .op (some 5) none (.mv (.t 20))] [2, 3, 4, 5])
        (.seq
         (.region [.op (some 22) none (.load (some 3) (.t 2)),
           .op (some 23) none (.bsl 1 3 [.int .i64 0, .int .i64 0, .int .i64 0] [(0, 1, (.c (.int .i64 12))), (1, 1, (.c (.int .i64 19))), (2, 1, (.c (.int .i64 28)))] (some 102)),
           .pre (.frz 23) (.op (some 24) none (.call 34 [(false, (.t 22)), (false, (.t 23))] none)),
           .op (some 21) none (.mv (.t 24)),
           .op (some 25) none (.ext (.t 21) 0),
           .op (some 26) none (.ext (.t 21) 1),
           .op (some 6) none (.mv (.t 25)),
           .op (some 7) none (.mv (.t 26))] [2, 3, 4, 5, 6, 7])
         (.seq
          (.region [.op (some 28) none (.load (some 3) (.t 2)),
            .op (some 29) none (.bsl 1 3 [.int .i64 0, .int .i64 0, .int .i64 0] [(0, 1, (.c (.int .i64 5))), (1, 1, (.c (.int .i64 8))), (2, 1, (.c (.int .i64 12)))] (some 103)),
            .op (some 30) none (.bsl 1 3 [.int .i64 0, .int .i64 0, .int .i64 0] [(0, 1, (.c (.int .i64 7))), (1, 1, (.c (.int .i64 11))), (2, 1, (.c (.int .i64 16)))] (some 104)),
            .pre (.frz 29) (.pre (.frz 30) (.op (some 31) none (.call 25 [(false, (.t 28)), (false, (.t 29)), (false, (.t 30)), (false, (.c (.int .i64 5)))] none))),
            .op (some 27) none (.mv (.t 31)),
            .op (some 32) none (.ext (.t 27) 0),
            .op (some 33) none (.ext (.t 27) 1),
            .op (some 8) none (.mv (.t 32)),
            .op (some 9) none (.mv (.t 33))] [2, 3, 4, 5, 6, 7, 8, 9])
          (.seq
           (.region [.op (some 34) none (.mv (.t 3)),
             .op (some 35) none (.bin 0 .eql (.t 34) (.c (.int .i64 0))),
             .op (some 36) none (.mv (.t 35)),
             .op (some 37) (some (36, true)) (.fad 1 (.t 2)),
             .op (some 38) (some (36, true)) (.load none (.t 37)),
             .op (some 39) (some (36, true)) (.bsl 1 3 [.int .i64 0, .int .i64 0, .int .i64 0] [(0, 1, (.c (.int .i64 4))), (1, 1, (.c (.int .i64 (-4)))), (2, 1, (.c (.int .i64 1)))] (some 105)),
             .pre (.frz 39) (.op (some 40) (some (36, true)) (.bsl 1 1 [.nils 1] [(0, 1, (.t 39))] (some 106))),
             .op (some 41) (some (36, true)) (.call 43 [(false, (.t 38)), (false, (.t 40))] none),
             .op (some 42) none (.pick (.t 36) (.t 41) (.c (.bool false))),
             .op (some 43) none (.mv (.t 42)),
             .op (some 44) (some (43, true)) (.mv (.t 5)),
             .op (some 45) (some (43, true)) (.bin 0 .eql (.t 44) (.c (.int .i64 0))),
             .op (some 46) none (.pick (.t 43) (.t 45) (.c (.bool false))),
             .op (some 47) none (.mv (.t 46)),
             .op (some 48) (some (47, true)) (.mv (.t 4)),
             .op (some 49) (some (47, true)) (.bsl 1 7 [.int .i64 0, .int .i64 0, .int .i64 0, .int .i64 0, .int .i64 0, .int .i64 0, .int .i64 0] [(0, 1, (.c (.int .i64 5))), (1, 1, (.c (.int .i64 7))), (2, 1, (.c (.int .i64 12))), (3, 1, (.c (.int .i64 19))), (4, 1, (.c (.int .i64 24))), (5, 1, (.c (.int .i64 26))), (6, 1, (.c (.int .i64 31)))] (some 107)),
             .op (some 50) (some (47, true)) (.call 30 [(false, (.t 48)), (false, (.t 49))] none),
             .op (some 51) none (.pick (.t 47) (.t 50) (.c (.bool false))),
             .op (some 52) none (.mv (.t 51)),
             .op (some 53) (some (52, true)) (.mv (.t 7)),
             .op (some 54) (some (52, true)) (.bin 0 .eql (.t 53) (.c (.int .i64 0))),
             .op (some 55) none (.pick (.t 52) (.t 54) (.c (.bool false))),
             .op (some 56) none (.mv (.t 55)),
             .op (some 57) (some (56, true)) (.mv (.t 6)),
             .op (some 58) (some (56, true)) (.bsl 1 2 [.int .i64 0, .int .i64 0] [(0, 1, (.c (.int .i64 12))), (1, 1, (.c (.int .i64 19)))] (some 108)),
             .op (some 59) (some (56, true)) (.call 27 [(false, (.t 57)), (false, (.t 58))] none),
             .op (some 60) none (.pick (.t 56) (.t 59) (.c (.bool false))),
             .op (some 61) none (.mv (.t 60)),
             .op (some 62) (some (61, true)) (.mv (.t 9)),
             .op (some 63) (some (61, true)) (.bin 0 .eql (.t 62) (.c (.int .i64 0))),
             .op (some 64) none (.pick (.t 61) (.t 63) (.c (.bool false))),
             .op (some 65) none (.mv (.t 64)),
             .op (some 66) (some (65, true)) (.mv (.t 8)),
             .op (some 67) (some (65, true)) (.len false (.t 66)),
             .op (some 68) (some (65, true)) (.bin 0 .eql (.t 67) (.c (.int .i64 5))),
             .op (some 69) none (.pick (.t 65) (.t 68) (.c (.bool false))),
             .op (some 70) none (.mv (.t 69)),
             .op (some 71) (some (70, true)) (.mv (.t 8)),
             .op (some 72) (some (70, true)) (.iad 1 (.t 71) (.c (.int .i64 4))),
             .op (some 73) (some (70, true)) (.load none (.t 72)),
             .op (some 74) (some (70, true)) (.bsl 1 3 [.int .i64 0, .int .i64 0, .int .i64 0] [(0, 1, (.c (.int .i64 31))), (1, 1, (.c (.int .i64 49))), (2, 1, (.c (.int .i64 72)))] (some 109)),
             .op (some 75) (some (70, true)) (.call 27 [(false, (.t 73)), (false, (.t 74))] none),
             .op (some 76) none (.pick (.t 70) (.t 75) (.c (.bool false))),
             .op (some 0) none (.mv (.t 76))] [0])
           .ret)))))))

/-- schisma/schismalaw12.Primes -/
def v12 : VFun where
  params := 1
  results := [.tmp 2]
  fin := [.frz 2]
  thr := false
  body :=
    (.seq
     (.region [.op (some 2) none (.mv (.c (.nils 1)))] [0])
     (.seq
      (.region [.op (some 4) none (.bsl 1 3 [.int .i64 0, .int .i64 0, .int .i64 0] [(0, 1, (.c (.int .i64 2))), (1, 1, (.c (.int .i64 3))), (2, 1, (.c (.int .i64 5)))] (some 100)),
        .op (some 5) none (.bsl 1 4 [.int .i64 0, .int .i64 0, .int .i64 0, .int .i64 0] [(0, 1, (.c (.int .i64 2))), (1, 1, (.c (.int .i64 3))), (2, 1, (.c (.int .i64 5))), (3, 1, (.c (.int .i64 7)))] (some 101)),
        .op (some 6) none (.bsl 1 2 [.int .i64 0, .int .i64 0] [(0, 1, (.c (.int .i64 2))), (1, 1, (.c (.int .i64 3)))] (some 102)),
        .op (some 7) none (.bsl 1 3 [.int .i64 0, .int .i64 0, .int .i64 0] [(0, 1, (.c (.int .i64 2))), (1, 1, (.c (.int .i64 3))), (2, 1, (.c (.int .i64 7)))] (some 103)),
        .op (some 8) none (.bsl 1 3 [.int .i64 0, .int .i64 0, .int .i64 0] [(0, 1, (.c (.int .i64 2))), (1, 1, (.c (.int .i64 5))), (2, 1, (.c (.int .i64 7)))] (some 104)),
        .op (some 9) none (.bsl 1 3 [.int .i64 0, .int .i64 0, .int .i64 0] [(0, 1, (.c (.int .i64 3))), (1, 1, (.c (.int .i64 5))), (2, 1, (.c (.int .i64 7)))] (some 105)),
        .op (some 10) none (.bsl 1 4 [.int .i64 0, .int .i64 0, .int .i64 0, .int .i64 0] [(0, 1, (.c (.int .i64 2))), (1, 1, (.c (.int .i64 3))), (2, 1, (.c (.int .i64 5))), (3, 1, (.c (.int .i64 11)))] (some 106)),
        .op (some 11) none (.bsl 1 1 [.int .i64 0] [(0, 1, (.c (.int .i64 2)))] (some 107)),
        .op (some 12) none (.bsl 1 4 [.int .i64 0, .int .i64 0, .int .i64 0, .int .i64 0] [(0, 1, (.c (.int .i64 2))), (1, 1, (.c (.int .i64 3))), (2, 1, (.c (.int .i64 7))), (3, 1, (.c (.int .i64 13)))] (some 108)),
        .op (some 13) none (.bsl 1 4 [.int .i64 0, .int .i64 0, .int .i64 0, .int .i64 0] [(0, 1, (.c (.int .i64 3))), (1, 1, (.c (.int .i64 5))), (2, 1, (.c (.int .i64 7))), (3, 1, (.c (.int .i64 13)))] (some 109)),
        .pre (.frz 4) (.pre (.frz 5) (.pre (.frz 6) (.pre (.frz 7) (.pre (.frz 8) (.pre (.frz 9) (.pre (.frz 10) (.pre (.frz 11) (.pre (.frz 12) (.pre (.frz 13) (.op (some 14) none (.bsl 1 10 [.nils 1, .nils 1, .nils 1, .nils 1, .nils 1, .nils 1, .nils 1, .nils 1, .nils 1, .nils 1] [(0, 1, (.t 4)), (1, 1, (.t 5)), (2, 1, (.t 6)), (3, 1, (.t 7)), (4, 1, (.t 8)), (5, 1, (.t 9)), (6, 1, (.t 10)), (7, 1, (.t 11)), (8, 1, (.t 12)), (9, 1, (.t 13))] (some 110)))))))))))),
        .op (some 3) none (.mv (.t 14))] [0, 3])
      (.seq
       (.region [.op (some 15) none (.mv (.t 3)),
         .op (some 16) none (.mv (.t 0)),
         .op (some 17) none (.cint .i64 (.t 16)),
         .op (some 18) none (.mv (.t 3)),
         .op (some 19) none (.len false (.t 18)),
         .op (some 20) none (.bin 0 .rem (.t 17) (.t 19)),
         .op (some 21) none (.iad 1 (.t 15) (.t 20)),
         .op (some 22) none (.load none (.t 21)),
         .op (some 2) none (.mv (.t 22))] [2])
       .ret)))

/-- schisma/support.Divisions -/
def v13 : VFun where
  params := 3
  results := [.cell 6 (some 3), .tmp 7]
  fin := [.frzc 6 0, .frzc 6 1, .frzc 6 2]
  thr := false
  body :=
    (.seq
     (.region [.op (some 6) none (.alloc [.nils 1, .nils 1, .nils 1] (some 100)),
       .op (some 7) none (.mv (.c (.int .i64 0)))] [0, 1, 2, 6])
     (.seq
      (.seq
       (.region [.op (some 12) none (.mv (.t 0)),
         .op (some 13) none (.call 44 [(false, (.t 12))] none),
         .op (some 8) none (.mv (.t 13))] [0, 1, 2, 6, 8])
       (.seq
        (.region [.op (some 14) none (.mv (.t 8)),
          .op (some 15) none (.bin 0 .neq (.t 14) (.c (.int .i64 0)))] [0, 1, 2, 6, 8, 15])
        (.cond (.t 15)
         (.seq
          (.region [.op (some 16) none (.build [.nils 1, .nils 1, .nils 1] []),
            .op (some 17) none (.mv (.t 8)),
            .op none none (.store 3 (.t 6) (.t 16)),
            .op (some 7) none (.mv (.t 17))] [6, 7])
          .ret)
         .skip)))
      (.seq
       (.region [.op (some 19) none (.mv (.t 0)),
         .op (some 20) none (.mv (.t 1)),
         .pre (.frz 19) (.op (some 21) none (.call 14 [(false, (.t 19)), (false, (.t 20))] none)),
         .op (some 18) none (.mv (.t 21)),
         .op (some 22) none (.ext (.t 18) 0),
         .op (some 23) none (.ext (.t 18) 1),
         .op (some 9) none (.mv (.t 22)),
         .op (some 10) none (.mv (.t 23))] [0, 2, 6, 9, 10])
       (.seq
        (.seq
         (.region [.op (some 24) none (.mv (.t 10)),
           .op (some 25) none (.bin 0 .neq (.t 24) (.c (.int .i64 0)))] [0, 2, 6, 9, 10, 25])
         (.cond (.t 25)
          (.seq
           (.region [.op (some 26) none (.build [.nils 1, .nils 1, .nils 1] []),
             .op (some 27) none (.mv (.t 10)),
             .op none none (.store 3 (.t 6) (.t 26)),
             .op (some 7) none (.mv (.t 27))] [6, 7])
           .ret)
          .skip))
        (.seq
         (.region [.op (some 29) none (.mv (.t 0)),
           .op (some 30) none (.mv (.t 2)),
           .pre (.frz 29) (.op (some 31) none (.call 14 [(false, (.t 29)), (false, (.t 30))] none)),
           .op (some 28) none (.mv (.t 31)),
           .op (some 32) none (.ext (.t 28) 0),
           .op (some 33) none (.ext (.t 28) 1),
           .op (some 11) none (.mv (.t 32)),
           .op (some 10) none (.mv (.t 33))] [0, 6, 9, 10, 11])
         (.seq
          (.seq
           (.region [.op (some 34) none (.mv (.t 10)),
             .op (some 35) none (.bin 0 .neq (.t 34) (.c (.int .i64 0)))] [0, 6, 9, 10, 11, 35])
           (.cond (.t 35)
            (.seq
             (.region [.op (some 36) none (.build [.nils 1, .nils 1, .nils 1] []),
               .op (some 37) none (.mv (.t 10)),
               .op none none (.store 3 (.t 6) (.t 36)),
               .op (some 7) none (.mv (.t 37))] [6, 7])
             .ret)
            .skip))
          (.seq
           (.region [.op (some 38) none (.mv (.t 0)),
             .op (some 39) none (.mv (.t 9)),
             .op (some 40) none (.mv (.t 11)),
             .pre (.frz 38) (.pre (.frz 39) (.pre (.frz 40) (.op (some 41) none (.call 45 [(false, (.t 38)), (false, (.t 39)), (false, (.t 40))] none)))),
             .op (some 42) none (.ext (.t 41) 0),
             .op (some 43) none (.ext (.t 41) 1),
             .op none none (.store 3 (.t 6) (.t 42)),
             .op (some 7) none (.mv (.t 43))] [6, 7])
           .ret)))))))

def v14_0 : VC :=
    (.seq
     (.region [.op (some 14) none (.bin 0 .lss (.t 13) (.t 12))] [0, 1, 6, 12, 13, 14])
     (.seq
      (.cond (.t 14)
       .skip
       (.exit 0))
      (.seq
       (.block 1
        (.seq
         (.region [.op (some 15) none (.mv (.t 13)),
           .op (some 7) none (.mv (.t 15))] [0, 1, 6, 7, 12, 13])
         (.seq
          (.region [.op (some 17) none (.mv (.t 0)),
            .op (some 18) none (.mv (.t 1)),
            .op (some 19) none (.mv (.t 7)),
            .op (some 20) none (.call 46 [(false, (.t 17)), (false, (.t 18)), (false, (.t 19))] none),
            .op (some 16) none (.mv (.t 20)),
            .op (some 21) none (.ext (.t 16) 0),
            .op (some 22) none (.ext (.t 16) 1),
            .op (some 8) none (.mv (.t 21)),
            .op (some 9) none (.mv (.t 22))] [0, 1, 6, 8, 9, 12, 13])
          (.seq
           (.seq
            (.region [.op (some 23) none (.mv (.t 9)),
              .op (some 24) none (.bin 0 .neq (.t 23) (.c (.int .i64 0)))] [0, 1, 6, 8, 9, 12, 13, 24])
            (.cond (.t 24)
             (.seq
              (.region [.op (some 25) none (.mv (.t 9)),
                .op (some 4) none (.mv (.c (.nils 1))),
                .op (some 5) none (.mv (.t 25))] [4, 5])
              .ret)
             .skip))
           (.region [.op (some 26) none (.mv (.t 6)),
             .op (some 27) none (.mv (.t 8)),
             .op (some 28) none (.bsl 1 1 [.int .i64 0] [(0, 1, (.t 27))] (some 101)),
             .op (some 29) none (.app 1 8 false (.t 26) (.t 28) (some 102)),
             .op (some 6) none (.mv (.t 29))] [0, 1, 6, 12, 13])))))
       (.region [.op (some 30) none (.bin 0 .add (.t 13) (.c (.int .i64 1))),
         .op (some 13) none (.mv (.t 30))] [0, 1, 6, 12, 13]))))
/-- schisma/val.Patent -/
def v14 : VFun where
  params := 2
  results := [.tmp 4, .tmp 5]
  fin := [.frz 4]
  thr := false
  body :=
    (.seq
     (.region [.op (some 4) none (.mv (.c (.nils 1))),
       .op (some 5) none (.mv (.c (.int .i64 0)))] [0, 1])
     (.seq
      (.region [.op (some 6) none (.nil 1 (some 100))] [0, 1, 6])
      (.seq
       (.seq
        (.region [.op (some 10) none (.mv (.t 0)),
          .op (some 11) none (.len false (.t 10)),
          .op (some 12) none (.mnmx true (.c (.int .i64 1)) (.t 11)),
          .op (some 13) none (.mv (.c (.int .i64 0)))] [0, 1, 6, 12, 13])
        (.block 0
         (.loop v14_0)))
       (.seq
        (.region [.op (some 31) none (.mv (.t 6)),
          .op (some 4) none (.mv (.t 31)),
          .op (some 5) none (.mv (.c (.int .i64 0)))] [4, 5])
        .ret))))

/-- schisma/row.Check -/
def v22 : VFun where
  params := 1
  results := [.tmp 2]
  fin := []
  thr := false
  body :=
    (.seq
     (.region [.op (some 2) none (.mv (.c (.int .i64 0)))] [0])
     (.seq
      (.seq
       (.region [.op (some 3) none (.mv (.t 0)),
         .op (some 4) none (.len false (.t 3)),
         .op (some 5) none (.bin 0 .gtr (.t 4) (.c (.int .i64 64))),
         .op (some 6) none (.mv (.t 5)),
         .op (some 7) (some (6, false)) (.mv (.t 0)),
         .op (some 8) (some (6, false)) (.call 53 [(false, (.t 7)), (false, (.f 54))] none),
         .op (some 9) none (.pick (.t 6) (.c (.bool true)) (.t 8))] [9])
       (.cond (.t 9)
        (.seq
         (.region [.op (some 2) none (.mv (.c (.int .i64 4)))] [2])
         .ret)
        .skip))
      (.seq
       (.region [.op (some 2) none (.mv (.c (.int .i64 0)))] [2])
       .ret)))

/-- schisma/val.Check -/
def v23 : VFun where
  params := 2
  results := [.tmp 4]
  fin := []
  thr := false
  body :=
    (.seq
     (.region [.op (some 4) none (.mv (.c (.int .i64 0)))] [0, 1])
     (.seq
      (.seq
       (.region [.op (some 7) none (.mv (.t 0)),
         .op (some 8) none (.call 44 [(false, (.t 7))] none),
         .op (some 5) none (.mv (.t 8))] [0, 1, 5])
       (.seq
        (.region [.op (some 9) none (.mv (.t 5)),
          .op (some 10) none (.bin 0 .neq (.t 9) (.c (.int .i64 0)))] [0, 1, 5, 10])
        (.cond (.t 10)
         (.seq
          (.region [.op (some 11) none (.mv (.t 5)),
            .op (some 4) none (.mv (.t 11))] [4])
          .ret)
         .skip)))
      (.seq
       (.seq
        (.region [.op (some 12) none (.mv (.t 1)),
          .op (some 13) none (.call 22 [(false, (.t 12))] none),
          .op (some 6) none (.mv (.t 13))] [0, 1, 6])
        (.seq
         (.region [.op (some 14) none (.mv (.t 6)),
           .op (some 15) none (.bin 0 .neq (.t 14) (.c (.int .i64 0)))] [0, 1, 6, 15])
         (.cond (.t 15)
          (.seq
           (.region [.op (some 16) none (.mv (.t 6)),
             .op (some 4) none (.mv (.t 16))] [4])
           .ret)
          .skip)))
       (.seq
        (.seq
         (.region [.op (some 17) none (.mv (.t 1)),
           .op (some 18) none (.len false (.t 17)),
           .op (some 19) none (.mv (.t 0)),
           .op (some 20) none (.len false (.t 19)),
           .op (some 21) none (.bin 0 .neq (.t 18) (.t 20))] [21])
         (.cond (.t 21)
          (.seq
           (.region [.op (some 4) none (.mv (.c (.int .i64 5)))] [4])
           .ret)
          .skip))
        (.seq
         (.region [.op (some 4) none (.mv (.c (.int .i64 0)))] [4])
         .ret)))))

def v25_0 : VC :=
    (.seq
     (.seq
      (.region [.op (some 43) none (.mv (.t 11)),
        .op (some 44) none (.len false (.t 43)),
        .op (some 45) none (.mv (.t 3)),
        .op (some 46) none (.bin 0 .lss (.t 44) (.t 45))] [3, 11, 46])
      (.cond (.t 46)
       .skip
       (.exit 0)))
     (.block 1
      (.seq
       (.region [.op (some 48) none (.mv (.t 11)),
         .op (some 49) none (.mv (.t 11)),
         .op (some 50) none (.len false (.t 49)),
         .op (some 51) none (.bin 0 .sub (.t 50) (.c (.int .i64 2))),
         .op (some 52) none (.iad 1 (.t 48) (.t 51)),
         .op (some 53) none (.load none (.t 52)),
         .op (some 54) none (.mv (.t 11)),
         .op (some 55) none (.mv (.t 11)),
         .op (some 56) none (.len false (.t 55)),
         .op (some 57) none (.bin 0 .sub (.t 56) (.c (.int .i64 1))),
         .op (some 58) none (.iad 1 (.t 54) (.t 57)),
         .op (some 59) none (.load none (.t 58)),
         .pre (.frz 53) (.pre (.frz 59) (.op (some 60) none (.call 26 [(false, (.t 53)), (false, (.t 59))] none))),
         .op (some 47) none (.mv (.t 60)),
         .op (some 61) none (.ext (.t 47) 0),
         .op (some 62) none (.ext (.t 47) 1),
         .op (some 12) none (.mv (.t 61)),
         .op (some 13) none (.mv (.t 62))] [3, 11, 12, 13])
       (.seq
        (.seq
         (.region [.op (some 63) none (.mv (.t 13)),
           .op (some 64) none (.bin 0 .neq (.t 63) (.c (.int .i64 0)))] [3, 11, 12, 13, 64])
         (.cond (.t 64)
          (.seq
           (.region [.op (some 65) none (.mv (.t 13)),
             .op (some 8) none (.mv (.c (.nils 1))),
             .op (some 9) none (.mv (.t 65))] [8, 9])
           .ret)
          .skip))
        (.region [.op (some 66) none (.mv (.t 11)),
          .op (some 67) none (.mv (.t 12)),
          .pre (.frz 67) (.op (some 68) none (.bsl 1 1 [.nils 1] [(0, 1, (.t 67))] (some 102))),
          .op (some 69) none (.app 1 24 false (.t 66) (.t 68) (some 103)),
          .op (some 11) none (.mv (.t 69))] [3, 11])))))
/-- schisma/support.Chain -/
def v25 : VFun where
  params := 4
  results := [.tmp 8, .tmp 9]
  fin := [.frz 8]
  thr := false
  body :=
    (.seq
     (.region [.op (some 4) none (.boxi (.t 0)),
       .op (some 8) none (.mv (.c (.nils 1))),
       .op (some 9) none (.mv (.c (.int .i64 0)))] [1, 2, 3, 4])
     (.seq
      (.seq
       (.region [.op (some 14) none (.loadi (some 3) (.t 4)),
         .op (some 15) none (.mv (.t 1)),
         .op (some 16) none (.mv (.t 2)),
         .pre (.frz 15) (.pre (.frz 16) (.op (some 17) none (.bsl 1 2 [.nils 1, .nils 1] [(0, 1, (.t 15)), (1, 1, (.t 16))] (some 100)))),
         .op (some 18) none (.call 56 [(false, (.t 14)), (false, (.t 17))] none),
         .op (some 10) none (.mv (.t 18))] [1, 2, 3, 4, 10])
       (.seq
        (.region [.op (some 19) none (.mv (.t 10)),
          .op (some 20) none (.bin 0 .neq (.t 19) (.c (.int .i64 0)))] [1, 2, 3, 4, 10, 20])
        (.cond (.t 20)
         (.seq
          (.region [.op (some 21) none (.mv (.t 10)),
            .op (some 8) none (.mv (.c (.nils 1))),
            .op (some 9) none (.mv (.t 21))] [8, 9])
          .ret)
         .skip)))
      (.seq
       (.seq
        (.region [.op (some 22) none (.loadi (some 3) (.t 4)),
          .op (some 23) none (.mv (.t 1)),
          .op (some 24) none (.call 57 [(false, (.t 22)), (false, (.t 23))] none),
          .op (some 25) none (.un .not (.t 24)),
          .op (some 26) none (.mv (.t 25)),
          .op (some 27) (some (26, false)) (.loadi (some 3) (.t 4)),
          .op (some 28) (some (26, false)) (.mv (.t 2)),
          .op (some 29) (some (26, false)) (.call 57 [(false, (.t 27)), (false, (.t 28))] none),
          .op (some 30) (some (26, false)) (.un .not (.t 29)),
          .op (some 31) none (.pick (.t 26) (.c (.bool true)) (.t 30))] [1, 2, 3, 31])
        (.cond (.t 31)
         (.seq
          (.region [.op (some 8) none (.mv (.c (.nils 1))),
            .op (some 9) none (.mv (.c (.int .i64 26)))] [8, 9])
          .ret)
         .skip))
       (.seq
        (.seq
         (.region [.op (some 32) none (.mv (.t 3)),
           .op (some 33) none (.bin 0 .lss (.t 32) (.c (.int .i64 0))),
           .op (some 34) none (.mv (.t 33)),
           .op (some 35) (some (34, false)) (.mv (.t 3)),
           .op (some 36) (some (34, false)) (.bin 0 .gtr (.t 35) (.c (.int .i64 40))),
           .op (some 37) none (.pick (.t 34) (.c (.bool true)) (.t 36))] [1, 2, 3, 37])
         (.cond (.t 37)
          (.seq
           (.region [.op (some 8) none (.mv (.c (.nils 1))),
             .op (some 9) none (.mv (.c (.int .i64 3)))] [8, 9])
           .ret)
          .skip))
        (.seq
         (.region [.op (some 38) none (.mv (.t 1)),
           .pre (.frz 38) (.op (some 39) none (.call 58 [(false, (.t 38))] none)),
           .op (some 40) none (.mv (.t 2)),
           .pre (.frz 40) (.op (some 41) none (.call 58 [(false, (.t 40))] none)),
           .pre (.frz 39) (.pre (.frz 41) (.op (some 42) none (.bsl 1 2 [.nils 1, .nils 1] [(0, 1, (.t 39)), (1, 1, (.t 41))] (some 101)))),
           .op (some 11) none (.mv (.t 42))] [3, 11])
         (.seq
          (.block 0
           (.loop v25_0))
          (.seq
           (.region [.op (some 70) none (.mv (.t 11)),
             .op (some 71) none (.mv (.t 3)),
             .op (some 72) none (.slice 1 (.t 70) none (some (.t 71)) none),
             .op (some 8) none (.mv (.t 72)),
             .op (some 9) none (.mv (.c (.int .i64 0)))] [8, 9])
           .ret)))))))

def v26_0a : VC :=
    (.seq
     (.region [.op (some 8) none (.mv (.t 22))] [7, 8, 23])
     (.region [.op (some 9) none (.mv (.t 23))] [7, 8, 9]))
def v26_0 : VC :=
    (.block 1
     (.region [.op (some 24) none (.load none (.t 7)),
       .op (some 25) none (.mv (.t 8)),
       .op (some 26) none (.mv (.t 9)),
       .op (some 27) none (.bin 0 .add (.t 25) (.t 26)),
       .op (some 28) none (.bsl 1 1 [.int .i64 0] [(0, 1, (.t 27))] none),
       .pre (.ownt 24 1 none) (.pre (.junk 7 0) (.op (some 29) none (.app 1 8 false (.t 24) (.t 28) none))),
       .op none none (.store 1 (.t 7) (.t 29))] []))
/-- schisma/row.Add -/
def v26 : VFun where
  params := 2
  results := [.tmp 4, .tmp 5]
  fin := [.frz 4]
  thr := false
  body :=
    (.seq
     (.region [.op (some 4) none (.mv (.c (.nils 1))),
       .op (some 5) none (.mv (.c (.int .i64 0)))] [0, 1, 4, 5])
     (.seq
      (.seq
       (.region [.op (some 10) none (.mv (.t 0)),
         .op (some 11) none (.mv (.t 1)),
         .op (some 12) none (.call 59 [(false, (.t 10)), (false, (.t 11))] none),
         .op (some 6) none (.mv (.t 12))] [0, 1, 4, 5, 6])
       (.seq
        (.region [.op (some 13) none (.mv (.t 6)),
          .op (some 14) none (.bin 0 .neq (.t 13) (.c (.int .i64 0)))] [0, 1, 4, 5, 6, 14])
        (.cond (.t 14)
         (.seq
          (.region [.op (some 15) none (.mv (.t 6)),
            .op (some 4) none (.mv (.c (.nils 1))),
            .op (some 5) none (.mv (.t 15))] [4, 5])
          .ret)
         .skip)))
      (.seq
       (.region [.op (some 16) none (.mv (.t 0)),
         .op (some 17) none (.len false (.t 16)),
         .op (some 18) none (.mks 1 8 [.int .i64 0] (.c (.int .i64 0)) (.t 17) (some 100)),
         .op (some 7) none (.alloc [.nils 1] (some 101)),
         .op none none (.store 1 (.t 7) (.t 18))] [0, 1, 4, 5, 7])
       (.seq
        (.seq
         (.region [.op (some 19) none (.mv (.t 0)),
           .op (some 20) none (.mv (.t 1)),
           .pre (.frz 19) (.pre (.frz 20) (.op (some 21) none (.call 60 [(false, (.t 19)), (false, (.t 20))] none)))] [4, 5, 7, 21])
         (.block 0
          (.rangef (.t 21) [22, 23] v26_0a v26_0)))
        (.seq
         (.region [.op (some 30) none (.load none (.t 7)),
           .pre (.frz 30) (.op (some 31) none (.call 61 [(false, (.t 30))] none)),
           .op (some 32) none (.ext (.t 31) 0),
           .op (some 33) none (.ext (.t 31) 1),
           .op (some 4) none (.mv (.t 32)),
           .op (some 5) none (.mv (.t 33))] [4, 5])
         .ret)))))

def v27_0 : VC :=
    (.seq
     (.seq
      (.region [.op (some 11) none (.mv (.t 5)),
        .op (some 12) none (.mv (.t 0)),
        .op (some 13) none (.len false (.t 12)),
        .op (some 14) none (.bin 0 .lss (.t 11) (.t 13))] [0, 1, 5, 14])
      (.cond (.t 14)
       .skip
       (.exit 0)))
     (.seq
      (.block 1
       (.seq
        (.region [.op (some 17) none (.mv (.t 0)),
          .op (some 18) none (.mv (.t 5)),
          .op (some 19) none (.iad 1 (.t 17) (.t 18)),
          .op (some 20) none (.load none (.t 19)),
          .op (some 21) none (.mv (.t 1)),
          .op (some 22) none (.mv (.t 5)),
          .op (some 23) none (.iad 1 (.t 21) (.t 22)),
          .op (some 24) none (.load none (.t 23)),
          .op (some 25) none (.bin 0 .neq (.t 20) (.t 24))] [0, 1, 5, 25])
        (.cond (.t 25)
         (.seq
          (.region [.op (some 4) none (.mv (.c (.bool false)))] [4])
          .ret)
         .skip)))
      (.region [.op (some 15) none (.mv (.t 5)),
        .op (some 16) none (.bin 0 .add (.t 15) (.c (.int .i64 1))),
        .op (some 5) none (.mv (.t 16))] [0, 1, 5])))
/-- schisma/schismaref06.EqualRows -/
def v27 : VFun where
  params := 2
  results := [.tmp 4]
  fin := []
  thr := false
  body :=
    (.seq
     (.region [.op (some 4) none (.mv (.c (.bool false)))] [0, 1])
     (.seq
      (.seq
       (.region [.op (some 6) none (.mv (.t 0)),
         .op (some 7) none (.len false (.t 6)),
         .op (some 8) none (.mv (.t 1)),
         .op (some 9) none (.len false (.t 8)),
         .op (some 10) none (.bin 0 .neq (.t 7) (.t 9))] [0, 1, 10])
       (.cond (.t 10)
        (.seq
         (.region [.op (some 4) none (.mv (.c (.bool false)))] [4])
         .ret)
        .skip))
      (.seq
       (.seq
        (.region [.op (some 5) none (.mv (.c (.int .i64 0)))] [0, 1, 5])
        (.block 0
         (.loop v27_0)))
       (.seq
        (.region [.op (some 4) none (.mv (.c (.bool true)))] [4])
        .ret))))

/-- schisma/support.Patents -/
def v28 : VFun where
  params := 2
  results := [.tmp 4, .tmp 5]
  fin := [.frz 4]
  thr := false
  body :=
    (.seq
     (.region [.op (some 2) none (.boxi (.t 0)),
       .op (some 4) none (.mv (.c (.nils 1))),
       .op (some 5) none (.mv (.c (.int .i64 0)))] [1, 2])
     (.seq
      (.seq
       (.region [.op (some 7) none (.loadi (some 3) (.t 2)),
         .op (some 8) none (.mv (.t 1)),
         .op (some 9) none (.call 62 [(false, (.t 7)), (false, (.t 8))] none),
         .op (some 6) none (.mv (.t 9))] [1, 2, 6])
       (.seq
        (.region [.op (some 10) none (.mv (.t 6)),
          .op (some 11) none (.bin 0 .neq (.t 10) (.c (.int .i64 0)))] [1, 2, 6, 11])
        (.cond (.t 11)
         (.seq
          (.region [.op (some 12) none (.mv (.t 6)),
            .op (some 4) none (.mv (.c (.nils 1))),
            .op (some 5) none (.mv (.t 12))] [4, 5])
          .ret)
         .skip)))
      (.seq
       (.region [.op (some 13) none (.loadi (some 3) (.t 2)),
         .op (some 14) none (.mv (.t 1)),
         .op (some 15) none (.call 64 [(false, (.t 13)), (false, (.t 14))] none),
         .op (some 16) none (.call 63 [(false, (.t 15))] none),
         .op (some 4) none (.mv (.t 16)),
         .op (some 5) none (.mv (.c (.int .i64 0)))] [4, 5])
       .ret)))

/-- schisma/schismalaw22.sameInts -/
def v30 : VFun where
  params := 2
  results := [.tmp 4]
  fin := []
  thr := false
  body :=
    (.seq
     (.region [.op (some 4) none (.mv (.c (.bool false)))] [0, 1])
     (.seq
      (.region [.op (some 5) none (.mv (.t 0)),
        .op (some 6) none (.mv (.t 1)),
        .op (some 7) none (.call 27 [(false, (.t 5)), (false, (.t 6))] none),
        .op (some 4) none (.mv (.t 7))] [4])
      .ret))

/-- schisma/temperament.Check -/
def v32 : VFun where
  params := 1
  results := [.tmp 2]
  fin := []
  thr := false
  body :=
    (.seq
     (.region [.op (some 1) none (.boxi (.t 0)),
       .op (some 2) none (.mv (.c (.int .i64 0)))] [1])
     (.seq
      (.seq
       (.region [.op (some 9) none (.fadi 0 (.t 1)),
         .op (some 10) none (.loadi none (.t 9)),
         .op (some 11) none (.call 44 [(false, (.t 10))] none),
         .op (some 3) none (.mv (.t 11))] [1, 3])
       (.seq
        (.region [.op (some 12) none (.mv (.t 3)),
          .op (some 13) none (.bin 0 .neq (.t 12) (.c (.int .i64 0)))] [1, 3, 13])
        (.cond (.t 13)
         (.seq
          (.region [.op (some 14) none (.mv (.t 3)),
            .op (some 2) none (.mv (.t 14))] [2])
          .ret)
         .skip)))
      (.seq
       (.region [.op (some 15) none (.fadi 0 (.t 1)),
         .op (some 16) none (.loadi none (.t 15)),
         .op (some 17) none (.len false (.t 16)),
         .op (some 18) none (.fadi 1 (.t 1)),
         .op (some 19) none (.loadi none (.t 18)),
         .pre (.frz 19) (.op (some 20) none (.build [.int .i64 0, .nils 1] [(0, 1, (.t 17)), (1, 1, (.t 19))])),
         .op (some 4) none (.alloc [.int .i64 0, .nils 1] (some 100)),
         .op none none (.store 2 (.t 4) (.t 20))] [1, 4])
       (.seq
        (.seq
         (.region [.op (some 21) none (.load (some 2) (.t 4)),
           .op (some 22) none (.call 65 [(false, (.t 21))] none),
           .op (some 5) none (.mv (.t 22))] [1, 4, 5])
         (.seq
          (.region [.op (some 23) none (.mv (.t 5)),
            .op (some 24) none (.bin 0 .neq (.t 23) (.c (.int .i64 0)))] [1, 4, 5, 24])
          (.cond (.t 24)
           (.seq
            (.region [.op (some 25) none (.mv (.t 5)),
              .op (some 2) none (.mv (.t 25))] [2])
            .ret)
           .skip)))
        (.seq
         (.region [.op (some 27) none (.load (some 2) (.t 4)),
           .op (some 28) none (.call 50 [(false, (.t 27))] none),
           .op (some 26) none (.mv (.t 28)),
           .op (some 29) none (.ext (.t 26) 0),
           .op (some 30) none (.ext (.t 26) 1),
           .op (some 6) none (.alloc [.int .i64 0, .nils 1] (some 101)),
           .op none none (.store 2 (.t 6) (.t 29)),
           .op (some 7) none (.mv (.t 30))] [1, 4, 6, 7])
         (.seq
          (.seq
           (.region [.op (some 31) none (.mv (.t 7)),
             .op (some 32) none (.bin 0 .neq (.t 31) (.c (.int .i64 0))),
             .op (some 33) none (.mv (.t 32)),
             .op (some 34) (some (33, false)) (.load (some 2) (.t 6)),
             .op (some 35) (some (33, false)) (.load (some 2) (.t 4)),
             .op (some 36) (some (33, false)) (.call 66 [(false, (.t 34)), (false, (.t 35))] none),
             .op (some 37) (some (33, false)) (.un .not (.t 36)),
             .op (some 38) none (.pick (.t 33) (.c (.bool true)) (.t 37))] [1, 4, 38])
           (.cond (.t 38)
            (.seq
             (.region [.op (some 2) none (.mv (.c (.int .i64 7)))] [2])
             .ret)
            .skip))
          (.seq
           (.region [.op (some 40) none (.load (some 2) (.t 4)),
             .op (some 41) none (.call 49 [(false, (.t 40))] none),
             .op (some 39) none (.mv (.t 41)),
             .op (some 42) none (.ext (.t 39) 0),
             .op (some 43) none (.ext (.t 39) 1),
             .op (some 8) none (.alloc [.int .i64 0, .nils 1] (some 102)),
             .op none none (.store 2 (.t 8) (.t 42)),
             .op (some 7) none (.mv (.t 43))] [1, 7, 8])
           (.seq
            (.seq
             (.region [.op (some 44) none (.mv (.t 7)),
               .op (some 45) none (.bin 0 .neq (.t 44) (.c (.int .i64 0))),
               .op (some 46) none (.mv (.t 45)),
               .op (some 47) (some (46, false)) (.fad 1 (.t 8)),
               .op (some 48) (some (46, false)) (.load none (.t 47)),
               .op (some 49) (some (46, false)) (.fadi 2 (.t 1)),
               .op (some 50) (some (46, false)) (.loadi none (.t 49)),
               .op (some 51) (some (46, false)) (.call 67 [(false, (.t 48)), (false, (.t 50))] none),
               .op (some 52) (some (46, false)) (.un .not (.t 51)),
               .op (some 53) none (.pick (.t 46) (.c (.bool true)) (.t 52))] [53])
             (.cond (.t 53)
              (.seq
               (.region [.op (some 2) none (.mv (.c (.int .i64 14)))] [2])
               .ret)
              .skip))
            (.seq
             (.region [.op (some 2) none (.mv (.c (.int .i64 0)))] [2])
             .ret)))))))))

/-- schisma/support.Supports -/
def v33 : VFun where
  params := 2
  results := [.tmp 4, .tmp 5]
  fin := []
  thr := false
  body :=
    (.seq
     (.region [.op (some 2) none (.boxi (.t 0)),
       .op (some 4) none (.mv (.c (.bool false))),
       .op (some 5) none (.mv (.c (.int .i64 0)))] [1, 2])
     (.seq
      (.seq
       (.region [.op (some 7) none (.loadi (some 3) (.t 2)),
         .op (some 8) none (.mv (.t 1)),
         .pre (.frz 8) (.op (some 9) none (.bsl 1 1 [.nils 1] [(0, 1, (.t 8))] (some 100))),
         .op (some 10) none (.call 56 [(false, (.t 7)), (false, (.t 9))] none),
         .op (some 6) none (.mv (.t 10))] [1, 2, 6])
       (.seq
        (.region [.op (some 11) none (.mv (.t 6)),
          .op (some 12) none (.bin 0 .neq (.t 11) (.c (.int .i64 0)))] [1, 2, 6, 12])
        (.cond (.t 12)
         (.seq
          (.region [.op (some 13) none (.mv (.t 6)),
            .op (some 4) none (.mv (.c (.bool false))),
            .op (some 5) none (.mv (.t 13))] [4, 5])
          .ret)
         .skip)))
      (.seq
       (.region [.op (some 14) none (.loadi (some 3) (.t 2)),
         .op (some 15) none (.mv (.t 1)),
         .op (some 16) none (.call 57 [(false, (.t 14)), (false, (.t 15))] none),
         .op (some 4) none (.mv (.t 16)),
         .op (some 5) none (.mv (.c (.int .i64 0)))] [4, 5])
       .ret)))

/-- schisma/support.Coordinates -/
def v34 : VFun where
  params := 2
  results := [.tmp 4, .tmp 5]
  fin := [.frz 4]
  thr := false
  body :=
    (.seq
     (.region [.op (some 2) none (.boxi (.t 0)),
       .op (some 4) none (.mv (.c (.nils 1))),
       .op (some 5) none (.mv (.c (.int .i64 0)))] [1, 2])
     (.seq
      (.seq
       (.region [.op (some 10) none (.loadi (some 3) (.t 2)),
         .op (some 11) none (.mv (.t 1)),
         .pre (.frz 11) (.op (some 12) none (.bsl 1 1 [.nils 1] [(0, 1, (.t 11))] (some 100))),
         .op (some 13) none (.call 56 [(false, (.t 10)), (false, (.t 12))] none),
         .op (some 6) none (.mv (.t 13))] [1, 2, 6])
       (.seq
        (.region [.op (some 14) none (.mv (.t 6)),
          .op (some 15) none (.bin 0 .neq (.t 14) (.c (.int .i64 0)))] [1, 2, 6, 15])
        (.cond (.t 15)
         (.seq
          (.region [.op (some 16) none (.mv (.t 6)),
            .op (some 4) none (.mv (.c (.nils 1))),
            .op (some 5) none (.mv (.t 16))] [4, 5])
          .ret)
         .skip)))
      (.seq
       (.seq
        (.region [.op (some 17) none (.loadi (some 3) (.t 2)),
          .op (some 18) none (.mv (.t 1)),
          .op (some 19) none (.call 57 [(false, (.t 17)), (false, (.t 18))] none),
          .op (some 20) none (.un .not (.t 19))] [1, 2, 20])
        (.cond (.t 20)
         (.seq
          (.region [.op (some 4) none (.mv (.c (.nils 1))),
            .op (some 5) none (.mv (.c (.int .i64 26)))] [4, 5])
          .ret)
         .skip))
       (.seq
        (.region [.op (some 22) none (.fadi 2 (.t 2)),
          .op (some 23) none (.loadi none (.t 22)),
          .op (some 24) none (.mv (.t 1)),
          .pre (.frz 23) (.pre (.frz 24) (.op (some 25) none (.call 68 [(false, (.t 23)), (false, (.t 24))] none))),
          .op (some 21) none (.mv (.t 25)),
          .op (some 26) none (.ext (.t 21) 0),
          .op (some 27) none (.ext (.t 21) 1),
          .op (some 28) none (.ext (.t 21) 2),
          .op (some 7) none (.mv (.t 26)),
          .op (some 8) none (.mv (.t 27)),
          .op (some 9) none (.mv (.t 28))] [7, 9])
        (.seq
         (.region [.op (some 29) none (.mv (.t 7)),
           .op (some 30) none (.mv (.t 9)),
           .op (some 4) none (.mv (.t 29)),
           .op (some 5) none (.mv (.t 30))] [4, 5])
         .ret)))))

/-- schisma/temperament.Just -/
def v35 : VFun where
  params := 1
  results := [.cell 2 (some 3), .tmp 3]
  fin := [.frzc 2 0, .frzc 2 1, .frzc 2 2]
  thr := false
  body :=
    (.seq
     (.region [.op (some 2) none (.alloc [.nils 1, .nils 1, .nils 1] (some 100)),
       .op (some 3) none (.mv (.c (.int .i64 0)))] [0, 2])
     (.seq
      (.region [.op (some 4) none (.mv (.t 0)),
        .pre (.frz 4) (.op (some 5) none (.call 69 [(false, (.t 4)), (false, (.c (.nils 1)))] none)),
        .op (some 6) none (.ext (.t 5) 0),
        .op (some 7) none (.ext (.t 5) 1),
        .op none none (.store 3 (.t 2) (.t 6)),
        .op (some 3) none (.mv (.t 7))] [2, 3])
      .ret))

/-- schisma/temperament.Trivial -/
def v36 : VFun where
  params := 1
  results := [.cell 2 (some 3), .tmp 3]
  fin := [.frzc 2 0, .frzc 2 1, .frzc 2 2]
  thr := false
  body :=
    (.seq
     (.region [.op (some 2) none (.alloc [.nils 1, .nils 1, .nils 1] (some 100)),
       .op (some 3) none (.mv (.c (.int .i64 0)))] [0, 2])
     (.seq
      (.region [.op (some 4) none (.mv (.t 0)),
        .pre (.frz 4) (.op (some 5) none (.call 70 [(false, (.t 4)), (false, (.c (.nils 1)))] none)),
        .op (some 6) none (.ext (.t 5) 0),
        .op (some 7) none (.ext (.t 5) 1),
        .op none none (.store 3 (.t 2) (.t 6)),
        .op (some 3) none (.mv (.t 7))] [2, 3])
      .ret))

def v43_0 : VC :=
    (.seq
     (.seq
      (.region [.op (some 11) none (.mv (.t 5)),
        .op (some 12) none (.mv (.t 0)),
        .op (some 13) none (.len false (.t 12)),
        .op (some 14) none (.bin 0 .lss (.t 11) (.t 13))] [0, 1, 5, 14])
      (.cond (.t 14)
       .skip
       (.exit 0)))
     (.seq
      (.block 1
       (.seq
        (.region [.op (some 17) none (.mv (.t 0)),
          .op (some 18) none (.mv (.t 5)),
          .op (some 19) none (.iad 1 (.t 17) (.t 18)),
          .op (some 20) none (.load none (.t 19)),
          .op (some 21) none (.mv (.t 1)),
          .op (some 22) none (.mv (.t 5)),
          .op (some 23) none (.iad 1 (.t 21) (.t 22)),
          .op (some 24) none (.load none (.t 23)),
          .op (some 25) none (.call 27 [(false, (.t 20)), (false, (.t 24))] none),
          .op (some 26) none (.un .not (.t 25))] [0, 1, 5, 26])
        (.cond (.t 26)
         (.seq
          (.region [.op (some 4) none (.mv (.c (.bool false)))] [4])
          .ret)
         .skip)))
      (.region [.op (some 15) none (.mv (.t 5)),
        .op (some 16) none (.bin 0 .add (.t 15) (.c (.int .i64 1))),
        .op (some 5) none (.mv (.t 16))] [0, 1, 5])))
/-- schisma/schismaref06.Equal -/
def v43 : VFun where
  params := 2
  results := [.tmp 4]
  fin := []
  thr := false
  body :=
    (.seq
     (.region [.op (some 4) none (.mv (.c (.bool false)))] [0, 1])
     (.seq
      (.seq
       (.region [.op (some 6) none (.mv (.t 0)),
         .op (some 7) none (.len false (.t 6)),
         .op (some 8) none (.mv (.t 1)),
         .op (some 9) none (.len false (.t 8)),
         .op (some 10) none (.bin 0 .neq (.t 7) (.t 9))] [0, 1, 10])
       (.cond (.t 10)
        (.seq
         (.region [.op (some 4) none (.mv (.c (.bool false)))] [4])
         .ret)
        .skip))
      (.seq
       (.seq
        (.region [.op (some 5) none (.mv (.c (.int .i64 0)))] [0, 1, 5])
        (.block 0
         (.loop v43_0)))
       (.seq
        (.region [.op (some 4) none (.mv (.c (.bool true)))] [4])
        .ret))))

def v44_0 : VC :=
    (.seq
     (.region [.op (some 16) none (.bin 0 .lss (.t 15) (.t 14))] [0, 13, 14, 15, 16])
     (.seq
      (.cond (.t 16)
       .skip
       (.exit 1))
      (.seq
       (.block 2
        (.seq
         (.region [.op (some 17) none (.mv (.t 15)),
           .op (some 18) none (.iad 1 (.t 13) (.t 15)),
           .op (some 19) none (.load none (.t 18)),
           .op (some 3) none (.mv (.t 17)),
           .op (some 4) none (.mv (.t 19))] [0, 3, 4, 13, 14, 15])
         (.seq
          (.seq
           (.region [.op (some 20) none (.mv (.t 4)),
             .op (some 21) none (.call 83 [(false, (.t 20))] none),
             .op (some 22) none (.un .not (.t 21))] [0, 3, 4, 13, 14, 15, 22])
           (.cond (.t 22)
            (.seq
             (.region [.op (some 2) none (.mv (.c (.int .i64 25)))] [2])
             .ret)
            .skip))
          (.seq
           (.region [.op (some 23) none (.mv (.t 3)),
             .op (some 24) none (.bin 0 .gtr (.t 23) (.c (.int .i64 0))),
             .op (some 25) none (.mv (.t 24)),
             .op (some 26) (some (25, true)) (.mv (.t 4)),
             .op (some 27) (some (25, true)) (.mv (.t 0)),
             .op (some 28) (some (25, true)) (.mv (.t 3)),
             .op (some 29) (some (25, true)) (.bin 0 .sub (.t 28) (.c (.int .i64 1))),
             .op (some 30) (some (25, true)) (.iad 1 (.t 27) (.t 29)),
             .op (some 31) (some (25, true)) (.load none (.t 30)),
             .op (some 32) (some (25, true)) (.bin 0 .leq (.t 26) (.t 31)),
             .op (some 33) none (.pick (.t 25) (.t 32) (.c (.bool false)))] [0, 13, 14, 15, 33])
           (.cond (.t 33)
            (.seq
             (.region [.op (some 2) none (.mv (.c (.int .i64 6)))] [2])
             .ret)
            .skip)))))
       (.region [.op (some 34) none (.bin 0 .add (.t 15) (.c (.int .i64 1))),
         .op (some 15) none (.mv (.t 34))] [0, 13, 14, 15]))))
/-- schisma/prime.Check -/
def v44 : VFun where
  params := 1
  results := [.tmp 2]
  fin := []
  thr := false
  body :=
    (.seq
     (.region [.op (some 2) none (.mv (.c (.int .i64 0)))] [0])
     (.seq
      (.block 0
       (.seq
        (.region [.op (some 6) none (.mv (.t 0)),
          .op (some 7) none (.len false (.t 6)),
          .op (some 8) none (.bin 0 .eql (.t 7) (.c (.int .i64 0))),
          .op (some 5) none (.mv (.t 8))] [0, 5])
        (.cond (.t 5)
         (.seq
          (.region [.op (some 2) none (.mv (.c (.int .i64 13)))] [2])
          .ret)
         (.seq
          (.region [.op (some 10) none (.mv (.t 0)),
            .op (some 11) none (.len false (.t 10)),
            .op (some 12) none (.bin 0 .gtr (.t 11) (.c (.int .i64 6))),
            .op (some 9) none (.mv (.t 12))] [0, 9])
          (.cond (.t 9)
           (.seq
            (.region [.op (some 2) none (.mv (.c (.int .i64 4)))] [2])
            .ret)
           .skip)))))
      (.seq
       (.seq
        (.region [.op (some 13) none (.mv (.t 0)),
          .op (some 14) none (.len false (.t 13)),
          .op (some 15) none (.mv (.c (.int .i64 0)))] [0, 13, 14, 15])
        (.block 1
         (.loop v44_0)))
       (.seq
        (.region [.op (some 2) none (.mv (.c (.int .i64 0)))] [2])
        .ret))))

/-- schisma/support.join -/
def v45 : VFun where
  params := 3
  results := [.cell 6 (some 3), .tmp 7]
  fin := [.frzc 6 0, .frzc 6 1, .frzc 6 2]
  thr := false
  body :=
    (.seq
     (.region [.op (some 6) none (.alloc [.nils 1, .nils 1, .nils 1] (some 100)),
       .op (some 7) none (.mv (.c (.int .i64 0)))] [0, 1, 2, 6])
     (.seq
      (.region [.op (some 11) none (.mv (.t 0)),
        .op (some 12) none (.mv (.t 1)),
        .op (some 13) none (.mv (.t 2)),
        .pre (.frz 12) (.pre (.frz 13) (.op (some 14) none (.bsl 1 2 [.nils 1, .nils 1] [(0, 1, (.t 12)), (1, 1, (.t 13))] (some 101)))),
        .pre (.frz 11) (.pre (.frz 14) (.op (some 15) none (.call 70 [(false, (.t 11)), (false, (.t 14))] none))),
        .op (some 10) none (.mv (.t 15)),
        .op (some 16) none (.ext (.t 10) 0),
        .op (some 17) none (.ext (.t 10) 1),
        .op (some 8) none (.alloc [.nils 1, .nils 1, .nils 1] (some 102)),
        .op none none (.store 3 (.t 8) (.t 16)),
        .op (some 9) none (.mv (.t 17))] [6, 8, 9])
      (.seq
       (.seq
        (.region [.op (some 18) none (.mv (.t 9)),
          .op (some 19) none (.bin 0 .neq (.t 18) (.c (.int .i64 0)))] [6, 8, 9, 19])
        (.cond (.t 19)
         (.seq
          (.region [.op (some 20) none (.build [.nils 1, .nils 1, .nils 1] []),
            .op (some 21) none (.mv (.t 9)),
            .op none none (.store 3 (.t 6) (.t 20)),
            .op (some 7) none (.mv (.t 21))] [6, 7])
          .ret)
         .skip))
       (.seq
        (.seq
         (.region [.op (some 22) none (.fad 2 (.t 8)),
           .op (some 23) none (.load none (.t 22)),
           .op (some 24) none (.len false (.t 23)),
           .op (some 25) none (.bin 0 .lss (.t 24) (.c (.int .i64 2)))] [6, 8, 25])
         (.cond (.t 25)
          (.seq
           (.region [.op (some 26) none (.build [.nils 1, .nils 1, .nils 1] []),
             .op none none (.store 3 (.t 6) (.t 26)),
             .op (some 7) none (.mv (.c (.int .i64 18)))] [6, 7])
           .ret)
          .skip))
        (.seq
         (.region [.op (some 27) none (.load (some 3) (.t 8)),
           .op none none (.store 3 (.t 6) (.t 27)),
           .op (some 7) none (.mv (.c (.int .i64 0)))] [6, 7])
         .ret)))))

/-- schisma/val.Nearest -/
def v46 : VFun where
  params := 3
  results := [.tmp 6, .tmp 7]
  fin := []
  thr := false
  body :=
    (.seq
     (.region [.op (some 6) none (.mv (.c (.int .i64 0))),
       .op (some 7) none (.mv (.c (.int .i64 0)))] [0, 1, 2])
     (.seq
      (.seq
       (.region [.op (some 9) none (.mv (.t 0)),
         .op (some 10) none (.call 44 [(false, (.t 9))] none),
         .op (some 8) none (.mv (.t 10))] [0, 1, 2, 8])
       (.seq
        (.region [.op (some 11) none (.mv (.t 8)),
          .op (some 12) none (.bin 0 .neq (.t 11) (.c (.int .i64 0)))] [0, 1, 2, 8, 12])
        (.cond (.t 12)
         (.seq
          (.region [.op (some 13) none (.mv (.t 8)),
            .op (some 6) none (.mv (.c (.int .i64 0))),
            .op (some 7) none (.mv (.t 13))] [6, 7])
          .ret)
         .skip)))
      (.seq
       (.block 0
        (.seq
         (.region [.op (some 15) none (.mv (.t 1)),
           .op (some 16) none (.bin 0 .lss (.t 15) (.c (.int .i64 1))),
           .op (some 17) none (.mv (.t 16)),
           .op (some 18) (some (17, false)) (.mv (.t 1)),
           .op (some 19) (some (17, false)) (.bin 0 .gtr (.t 18) (.c (.int .i64 100000))),
           .op (some 20) none (.pick (.t 17) (.c (.bool true)) (.t 19)),
           .op (some 14) none (.mv (.t 20))] [0, 1, 2, 14])
         (.cond (.t 14)
          (.seq
           (.region [.op (some 6) none (.mv (.c (.int .i64 0))),
             .op (some 7) none (.mv (.c (.int .i64 3)))] [6, 7])
           .ret)
          (.seq
           (.region [.op (some 22) none (.mv (.t 2)),
             .op (some 23) none (.bin 0 .lss (.t 22) (.c (.int .i64 0))),
             .op (some 24) none (.mv (.t 23)),
             .op (some 25) (some (24, false)) (.mv (.t 2)),
             .op (some 26) (some (24, false)) (.mv (.t 0)),
             .op (some 27) (some (24, false)) (.len false (.t 26)),
             .op (some 28) (some (24, false)) (.bin 0 .geq (.t 25) (.t 27)),
             .op (some 29) none (.pick (.t 24) (.c (.bool true)) (.t 28)),
             .op (some 21) none (.mv (.t 29))] [0, 1, 2, 21])
           (.cond (.t 21)
            (.seq
             (.region [.op (some 6) none (.mv (.c (.int .i64 0))),
               .op (some 7) none (.mv (.c (.int .i64 10)))] [6, 7])
             .ret)
            .skip)))))
       (.seq
        (.region [.op (some 30) none (.mv (.t 0)),
          .op (some 31) none (.mv (.t 1)),
          .op (some 32) none (.bin 0 .mul (.c (.int .i64 2)) (.t 31)),
          .op (some 33) none (.mv (.t 2)),
          .op (some 34) none (.call 84 [(false, (.t 30)), (false, (.t 32)), (false, (.t 33))] none),
          .op (some 6) none (.mv (.t 34)),
          .op (some 7) none (.mv (.c (.int .i64 0)))] [6, 7])
        .ret))))

/-- schisma/lattice.Of -/
def v48 : VFun where
  params := 2
  results := [.cell 4 (some 2), .tmp 5]
  fin := [.frzc 4 1]
  thr := false
  body :=
    (.seq
     (.region [.op (some 4) none (.alloc [.int .i64 0, .nils 1] (some 100)),
       .op (some 5) none (.mv (.c (.int .i64 0)))] [0, 1, 4])
     (.seq
      (.seq
       (.region [.op (some 7) none (.mv (.t 0)),
         .op (some 8) none (.mv (.t 1)),
         .op (some 9) none (.call 88 [(false, (.t 7)), (false, (.t 8))] none),
         .op (some 6) none (.mv (.t 9))] [0, 1, 4, 6])
       (.seq
        (.region [.op (some 10) none (.mv (.t 6)),
          .op (some 11) none (.bin 0 .neq (.t 10) (.c (.int .i64 0)))] [0, 1, 4, 6, 11])
        (.cond (.t 11)
         (.seq
          (.region [.op (some 12) none (.build [.int .i64 0, .nils 1] []),
            .op (some 13) none (.mv (.t 6)),
            .op none none (.store 2 (.t 4) (.t 12)),
            .op (some 5) none (.mv (.t 13))] [4, 5])
          .ret)
         .skip)))
      (.seq
       (.region [.op (some 14) none (.mv (.t 1)),
         .op (some 15) none (.call 89 [(false, (.t 14))] (some (some 101))),
         .op (some 16) none (.mv (.t 0)),
         .op (some 17) none (.call 90 [(true, (.t 15)), (false, (.t 16))] (some (some 102))),
         .op (some 18) none (.mv (.t 0)),
         .op (some 19) none (.call 91 [(false, (.t 17)), (false, (.t 18))] none),
         .op (some 20) none (.ext (.t 19) 0),
         .op (some 21) none (.ext (.t 19) 1),
         .op none none (.store 2 (.t 4) (.t 20)),
         .op (some 5) none (.mv (.t 21))] [4, 5])
       .ret)))

/-- schisma/lattice.Annihilator -/
def v49 : VFun where
  params := 1
  results := [.cell 2 (some 2), .tmp 3]
  fin := [.frzc 2 1]
  thr := false
  body :=
    (.seq
     (.region [.op (some 1) none (.boxi (.t 0)),
       .op (some 2) none (.alloc [.int .i64 0, .nils 1] (some 100)),
       .op (some 3) none (.mv (.c (.int .i64 0)))] [1, 2])
     (.seq
      (.seq
       (.region [.op (some 5) none (.loadi (some 2) (.t 1)),
         .op (some 6) none (.call 65 [(false, (.t 5))] none),
         .op (some 4) none (.mv (.t 6))] [1, 2, 4])
       (.seq
        (.region [.op (some 7) none (.mv (.t 4)),
          .op (some 8) none (.bin 0 .neq (.t 7) (.c (.int .i64 0)))] [1, 2, 4, 8])
        (.cond (.t 8)
         (.seq
          (.region [.op (some 9) none (.build [.int .i64 0, .nils 1] []),
            .op (some 10) none (.mv (.t 4)),
            .op none none (.store 2 (.t 2) (.t 9)),
            .op (some 3) none (.mv (.t 10))] [2, 3])
          .ret)
         .skip)))
      (.seq
       (.region [.op (some 11) none (.fadi 1 (.t 1)),
         .op (some 12) none (.loadi none (.t 11)),
         .op (some 13) none (.call 89 [(false, (.t 12))] (some none)),
         .op (some 14) none (.fadi 0 (.t 1)),
         .op (some 15) none (.loadi none (.t 14)),
         .op (some 16) none (.call 92 [(false, (.t 13)), (false, (.t 15))] (some none)),
         .op (some 17) none (.fadi 0 (.t 1)),
         .op (some 18) none (.loadi none (.t 17)),
         .op (some 19) none (.call 91 [(false, (.t 16)), (false, (.t 18))] none),
         .op (some 20) none (.ext (.t 19) 0),
         .op (some 21) none (.ext (.t 19) 1),
         .op none none (.storel 100 2 (.t 2) (.t 20)),
         .op (some 3) none (.mv (.t 21))] [2, 3])
       .ret)))

/-- schisma/lattice.Saturate -/
def v50 : VFun where
  params := 1
  results := [.cell 2 (some 2), .tmp 3]
  fin := [.frzc 2 1]
  thr := false
  body :=
    (.seq
     (.region [.op (some 1) none (.boxi (.t 0)),
       .op (some 2) none (.alloc [.int .i64 0, .nils 1] (some 100)),
       .op (some 3) none (.mv (.c (.int .i64 0)))] [1, 2])
     (.seq
      (.seq
       (.region [.op (some 5) none (.loadi (some 2) (.t 1)),
         .op (some 6) none (.call 65 [(false, (.t 5))] none),
         .op (some 4) none (.mv (.t 6))] [1, 2, 4])
       (.seq
        (.region [.op (some 7) none (.mv (.t 4)),
          .op (some 8) none (.bin 0 .neq (.t 7) (.c (.int .i64 0)))] [1, 2, 4, 8])
        (.cond (.t 8)
         (.seq
          (.region [.op (some 9) none (.build [.int .i64 0, .nils 1] []),
            .op (some 10) none (.mv (.t 4)),
            .op none none (.store 2 (.t 2) (.t 9)),
            .op (some 3) none (.mv (.t 10))] [2, 3])
          .ret)
         .skip)))
      (.seq
       (.region [.op (some 11) none (.fadi 1 (.t 1)),
         .op (some 12) none (.loadi none (.t 11)),
         .op (some 13) none (.call 89 [(false, (.t 12))] (some none)),
         .op (some 14) none (.fadi 0 (.t 1)),
         .op (some 15) none (.loadi none (.t 14)),
         .op (some 16) none (.call 92 [(false, (.t 13)), (false, (.t 15))] (some none)),
         .op (some 17) none (.fadi 0 (.t 1)),
         .op (some 18) none (.loadi none (.t 17)),
         .op (some 19) none (.call 92 [(false, (.t 16)), (false, (.t 18))] (some none)),
         .op (some 20) none (.fadi 0 (.t 1)),
         .op (some 21) none (.loadi none (.t 20)),
         .op (some 22) none (.call 91 [(false, (.t 19)), (false, (.t 21))] none),
         .op (some 23) none (.ext (.t 22) 0),
         .op (some 24) none (.ext (.t 22) 1),
         .op none none (.storel 100 2 (.t 2) (.t 23)),
         .op (some 3) none (.mv (.t 24))] [2, 3])
       .ret)))

/-- slices.ContainsFunc[schisma/api.Row,int] -/
def v53 : VFun where
  params := 2
  results := [.tmp 4]
  fin := []
  thr := false
  body :=
    (.seq
     (.region [.op (some 4) none (.mv (.c (.bool false)))] [0, 1])
     (.seq
      (.region [.op (some 5) none (.mv (.t 0)),
        .op (some 6) none (.mv (.t 1)),
        .op (some 7) none (.call 93 [(false, (.t 5)), (false, (.t 6))] none),
        .op (some 8) none (.bin 0 .geq (.t 7) (.c (.int .i64 0))),
        .op (some 4) none (.mv (.t 8))] [4])
      .ret))

/-- schisma/row.Check$1 -/
def v54 : VFun where
  params := 1
  results := [.tmp 2]
  fin := []
  thr := false
  body :=
    (.seq
     (.region [.op (some 2) none (.mv (.c (.bool false)))] [0])
     (.seq
      (.region [.op (some 3) none (.mv (.t 0)),
        .op (some 4) none (.call 55 [(false, (.t 3))] none),
        .op (some 5) none (.un .not (.t 4)),
        .op (some 2) none (.mv (.t 5))] [2])
      .ret))

/-- schisma/row.fits -/
def v55 : VFun where
  params := 1
  results := [.tmp 2]
  fin := []
  thr := false
  body :=
    (.seq
     (.region [.op (some 2) none (.mv (.c (.bool false)))] [0])
     (.seq
      (.region [.op (some 3) none (.mv (.t 0)),
        .op (some 4) none (.bin 0 .geq (.t 3) (.c (.int .i64 (-1000000000)))),
        .op (some 5) none (.mv (.t 4)),
        .op (some 6) (some (5, true)) (.mv (.t 0)),
        .op (some 7) (some (5, true)) (.bin 0 .leq (.t 6) (.c (.int .i64 1000000000))),
        .op (some 8) none (.pick (.t 5) (.t 7) (.c (.bool false))),
        .op (some 2) none (.mv (.t 8))] [2])
      .ret))

def v56_0 : VC :=
    (.seq
     (.region [.op (some 17) none (.bin 0 .lss (.t 16) (.t 15))] [2, 14, 15, 16, 17])
     (.seq
      (.cond (.t 17)
       .skip
       (.exit 0))
      (.seq
       (.block 1
        (.seq
         (.region [.op (some 18) none (.iad 1 (.t 14) (.t 16)),
           .op (some 19) none (.load none (.t 18)),
           .op (some 7) none (.mv (.t 19))] [2, 7, 14, 15, 16])
         (.seq
          (.region [.op (some 20) none (.fadi 0 (.t 2)),
            .op (some 21) none (.loadi none (.t 20)),
            .op (some 22) none (.mv (.t 7)),
            .op (some 23) none (.call 23 [(false, (.t 21)), (false, (.t 22))] none),
            .op (some 8) none (.mv (.t 23))] [2, 8, 14, 15, 16])
          (.seq
           (.region [.op (some 24) none (.mv (.t 8)),
             .op (some 25) none (.bin 0 .neq (.t 24) (.c (.int .i64 0)))] [2, 8, 14, 15, 16, 25])
           (.cond (.t 25)
            (.seq
             (.region [.op (some 26) none (.mv (.t 8)),
               .op (some 4) none (.mv (.t 26))] [4])
             .ret)
            .skip)))))
       (.region [.op (some 27) none (.bin 0 .add (.t 16) (.c (.int .i64 1))),
         .op (some 16) none (.mv (.t 27))] [2, 14, 15, 16]))))
/-- schisma/support.begin -/
def v56 : VFun where
  params := 2
  results := [.tmp 4]
  fin := []
  thr := false
  body :=
    (.seq
     (.region [.op (some 2) none (.boxi (.t 0)),
       .op (some 4) none (.mv (.c (.int .i64 0)))] [1, 2])
     (.seq
      (.seq
       (.region [.op (some 9) none (.loadi (some 3) (.t 2)),
         .op (some 10) none (.call 32 [(false, (.t 9))] none),
         .op (some 5) none (.mv (.t 10))] [1, 2, 5])
       (.seq
        (.region [.op (some 11) none (.mv (.t 5)),
          .op (some 12) none (.bin 0 .neq (.t 11) (.c (.int .i64 0)))] [1, 2, 5, 12])
        (.cond (.t 12)
         (.seq
          (.region [.op (some 13) none (.mv (.t 5)),
            .op (some 4) none (.mv (.t 13))] [4])
          .ret)
         .skip)))
      (.seq
       (.seq
        (.region [.op (some 14) none (.mv (.t 1)),
          .op (some 15) none (.len false (.t 14)),
          .op (some 16) none (.mv (.c (.int .i64 0)))] [2, 14, 15, 16])
        (.block 0
         (.loop v56_0)))
       (.seq
        (.region [.op (some 4) none (.mv (.c (.int .i64 0)))] [4])
        .ret))))

def v57_0 : VC :=
    (.seq
     (.region [.op (some 20) none (.bin 0 .lss (.t 19) (.t 18))] [1, 7, 11, 12, 13, 17, 18, 19, 20])
     (.seq
      (.cond (.t 20)
       .skip
       (.exit 2))
      (.seq
       (.block 3
        (.seq
         (.region [.op (some 21) none (.mv (.t 19)),
           .op (some 22) none (.iad 1 (.t 17) (.t 19)),
           .op (some 23) none (.load none (.t 22)),
           .op (some 8) none (.mv (.t 21)),
           .op (some 9) none (.mv (.t 23))] [1, 7, 8, 9, 11, 12, 13, 17, 18, 19])
         (.region [.op (some 24) none (.mv (.t 7)),
           .op (some 25) none (.mv (.t 9)),
           .op (some 26) none (.call 96 [(false, (.t 25))] none),
           .op (some 27) none (.mv (.t 1)),
           .op (some 28) none (.mv (.t 8)),
           .op (some 29) none (.iad 1 (.t 27) (.t 28)),
           .op (some 30) none (.load none (.t 29)),
           .op (some 31) none (.call 96 [(false, (.t 30))] none),
           .op (some 32) none (.call 95 [(false, (.t 26)), (false, (.t 31))] none),
           .op (some 33) none (.call 94 [(false, (.t 24)), (false, (.t 32))] none),
           .op (some 7) none (.mv (.t 33))] [1, 7, 11, 12, 13, 17, 18, 19])))
       (.region [.op (some 34) none (.bin 0 .add (.t 19) (.c (.int .i64 1))),
         .op (some 19) none (.mv (.t 34))] [1, 7, 11, 12, 13, 17, 18, 19]))))
def v57_1 : VC :=
    (.seq
     (.region [.op (some 14) none (.bin 0 .lss (.t 13) (.t 12))] [1, 11, 12, 13, 14])
     (.seq
      (.cond (.t 14)
       .skip
       (.exit 0))
      (.seq
       (.block 1
        (.seq
         (.region [.op (some 15) none (.iad 1 (.t 11) (.t 13)),
           .op (some 16) none (.load none (.t 15)),
           .op (some 6) none (.mv (.t 16))] [1, 6, 11, 12, 13])
         (.seq
          (.region [.op (some 7) none (.mv (.c (sI [48])))] [1, 6, 7, 11, 12, 13])
          (.seq
           (.seq
            (.region [.op (some 17) none (.mv (.t 6)),
              .op (some 18) none (.len false (.t 17)),
              .op (some 19) none (.mv (.c (.int .i64 0)))] [1, 7, 11, 12, 13, 17, 18, 19])
            (.block 2
             (.loop v57_0)))
           (.seq
            (.region [.op (some 35) none (.mv (.t 7)),
              .op (some 36) none (.bin 0 .neq (.t 35) (.c (sI [48])))] [1, 11, 12, 13, 36])
            (.cond (.t 36)
             (.seq
              (.region [.op (some 4) none (.mv (.c (.bool false)))] [4])
              .ret)
             .skip))))))
       (.region [.op (some 37) none (.bin 0 .add (.t 13) (.c (.int .i64 1))),
         .op (some 13) none (.mv (.t 37))] [1, 11, 12, 13]))))
/-- schisma/support.supports -/
def v57 : VFun where
  params := 2
  results := [.tmp 4]
  fin := []
  thr := false
  body :=
    (.seq
     (.region [.op (some 2) none (.boxi (.t 0)),
       .op (some 4) none (.mv (.c (.bool false)))] [1, 2])
     (.seq
      (.seq
       (.region [.op (some 10) none (.fadi 1 (.t 2)),
         .op (some 11) none (.loadi none (.t 10)),
         .op (some 12) none (.len false (.t 11)),
         .op (some 13) none (.mv (.c (.int .i64 0)))] [1, 11, 12, 13])
       (.block 0
        (.loop v57_1)))
      (.seq
       (.region [.op (some 4) none (.mv (.c (.bool true)))] [4])
       .ret)))

/-- slices.Clone[schisma/api.Row,int] -/
def v58 : VFun where
  params := 1
  results := [.tmp 2]
  fin := [.frz 2]
  thr := false
  body :=
    (.seq
     (.region [.op (some 2) none (.mv (.c (.nils 1)))] [0])
     (.seq
      (.seq
       (.region [.op (some 3) none (.mv (.t 0)),
         .op (some 4) none (.isnil false (.t 3))] [0, 4])
       (.cond (.t 4)
        (.seq
         (.region [.op (some 2) none (.mv (.c (.nils 1)))] [2])
         .ret)
        .skip))
      (.seq
       (.region [.op (some 5) none (.bsl 1 0 [] [] (some 100)),
         .op (some 6) none (.mv (.t 0)),
         .op (some 7) none (.app 1 8 false (.t 5) (.t 6) (some 101)),
         .op (some 2) none (.mv (.t 7))] [2])
       .ret)))

/-- schisma/row.both -/
def v59 : VFun where
  params := 2
  results := [.tmp 4]
  fin := []
  thr := false
  body :=
    (.seq
     (.region [.op (some 4) none (.mv (.c (.int .i64 0)))] [0, 1])
     (.seq
      (.seq
       (.region [.op (some 7) none (.mv (.t 0)),
         .op (some 8) none (.call 22 [(false, (.t 7))] none),
         .op (some 5) none (.mv (.t 8))] [0, 1, 5])
       (.seq
        (.region [.op (some 9) none (.mv (.t 5)),
          .op (some 10) none (.bin 0 .neq (.t 9) (.c (.int .i64 0)))] [0, 1, 5, 10])
        (.cond (.t 10)
         (.seq
          (.region [.op (some 11) none (.mv (.t 5)),
            .op (some 4) none (.mv (.t 11))] [4])
          .ret)
         .skip)))
      (.seq
       (.seq
        (.region [.op (some 12) none (.mv (.t 1)),
          .op (some 13) none (.call 22 [(false, (.t 12))] none),
          .op (some 6) none (.mv (.t 13))] [0, 1, 6])
        (.seq
         (.region [.op (some 14) none (.mv (.t 6)),
           .op (some 15) none (.bin 0 .neq (.t 14) (.c (.int .i64 0)))] [0, 1, 6, 15])
         (.cond (.t 15)
          (.seq
           (.region [.op (some 16) none (.mv (.t 6)),
             .op (some 4) none (.mv (.t 16))] [4])
           .ret)
          .skip)))
       (.seq
        (.seq
         (.region [.op (some 17) none (.mv (.t 0)),
           .op (some 18) none (.len false (.t 17)),
           .op (some 19) none (.mv (.t 1)),
           .op (some 20) none (.len false (.t 19)),
           .op (some 21) none (.bin 0 .neq (.t 18) (.t 20))] [21])
         (.cond (.t 21)
          (.seq
           (.region [.op (some 4) none (.mv (.c (.int .i64 5)))] [4])
           .ret)
          .skip))
        (.seq
         (.region [.op (some 4) none (.mv (.c (.int .i64 0)))] [4])
         .ret)))))

/-- schisma/row.pairs -/
def v60 : VFun where
  params := 2
  results := [.tmp 4]
  fin := [.frz 2, .frz 3]
  thr := false
  body :=
    (.seq
     (.region [.pre (.frz 0) (.op (some 2) none (.boxi (.t 0))),
       .pre (.frz 1) (.op (some 3) none (.boxi (.t 1))),
       .op (some 4) none (.mv (.c (.nilfn)))] [2, 3])
     (.seq
      (.region [.op (some 5) none (.mkfn 97 [(.t 2), (.t 3)]),
        .op (some 4) none (.mv (.t 5))] [2, 3, 4])
      .ret))

/-- schisma/row.result -/
def v61 : VFun where
  params := 1
  results := [.tmp 2, .tmp 3]
  fin := [.frz 2]
  thr := false
  body :=
    (.seq
     (.region [.op (some 2) none (.mv (.c (.nils 1))),
       .op (some 3) none (.mv (.c (.int .i64 0)))] [0])
     (.seq
      (.seq
       (.region [.op (some 5) none (.mv (.t 0)),
         .op (some 6) none (.call 22 [(false, (.t 5))] none),
         .op (some 4) none (.mv (.t 6))] [0, 4])
       (.seq
        (.region [.op (some 7) none (.mv (.t 4)),
          .op (some 8) none (.bin 0 .neq (.t 7) (.c (.int .i64 0)))] [0, 4, 8])
        (.cond (.t 8)
         (.seq
          (.region [.op (some 9) none (.mv (.t 4)),
            .op (some 2) none (.mv (.c (.nils 1))),
            .op (some 3) none (.mv (.t 9))] [2, 3])
          .ret)
         .skip)))
      (.seq
       (.region [.op (some 10) none (.mv (.t 0)),
         .op (some 2) none (.mv (.t 10)),
         .op (some 3) none (.mv (.c (.int .i64 0)))] [2, 3])
       .ret)))

/-- schisma/support.limited -/
def v62 : VFun where
  params := 2
  results := [.tmp 4]
  fin := []
  thr := false
  body :=
    (.seq
     (.region [.op (some 2) none (.boxi (.t 0)),
       .op (some 4) none (.mv (.c (.int .i64 0)))] [1, 2])
     (.seq
      (.seq
       (.region [.op (some 6) none (.loadi (some 3) (.t 2)),
         .op (some 7) none (.call 32 [(false, (.t 6))] none),
         .op (some 5) none (.mv (.t 7))] [1, 5])
       (.seq
        (.region [.op (some 8) none (.mv (.t 5)),
          .op (some 9) none (.bin 0 .neq (.t 8) (.c (.int .i64 0)))] [1, 5, 9])
        (.cond (.t 9)
         (.seq
          (.region [.op (some 10) none (.mv (.t 5)),
            .op (some 4) none (.mv (.t 10))] [4])
          .ret)
         .skip)))
      (.seq
       (.seq
        (.region [.op (some 11) none (.mv (.t 1)),
          .op (some 12) none (.bin 0 .lss (.t 11) (.c (.int .i64 1))),
          .op (some 13) none (.mv (.t 12)),
          .op (some 14) (some (13, false)) (.mv (.t 1)),
          .op (some 15) (some (13, false)) (.bin 0 .gtr (.t 14) (.c (.int .i64 1000))),
          .op (some 16) none (.pick (.t 13) (.c (.bool true)) (.t 15))] [16])
        (.cond (.t 16)
         (.seq
          (.region [.op (some 4) none (.mv (.c (.int .i64 3)))] [4])
          .ret)
         .skip))
       (.seq
        (.region [.op (some 4) none (.mv (.c (.int .i64 0)))] [4])
        .ret))))

/-- slices.Collect[int] -/
def v63 : VFun where
  params := 1
  results := [.tmp 2]
  fin := [.frz 2]
  thr := false
  body :=
    (.seq
     (.region [.op (some 2) none (.mv (.c (.nils 1)))] [0])
     (.seq
      (.region [.op (some 3) none (.mv (.t 0)),
        .op (some 4) none (.call 98 [(false, (.c (.nils 1))), (false, (.t 3))] none),
        .op (some 2) none (.mv (.t 4))] [2])
      .ret))

/-- schisma/support.divisions -/
def v64 : VFun where
  params := 2
  results := [.tmp 4]
  fin := [.frz 3, .frz 2]
  thr := false
  body :=
    (.seq
     (.region [.op (some 2) none (.boxi (.t 0)),
       .op (some 3) none (.boxi (.t 1)),
       .op (some 4) none (.mv (.c (.nilfn)))] [2, 3])
     (.seq
      (.region [.op (some 5) none (.mkfn 99 [(.t 3), (.t 2)]),
        .op (some 4) none (.mv (.t 5))] [2, 3, 4])
      .ret))

/-- schisma/lattice.Check -/
def v65 : VFun where
  params := 1
  results := [.tmp 2]
  fin := []
  thr := false
  body :=
    (.seq
     (.region [.op (some 1) none (.boxi (.t 0)),
       .op (some 2) none (.mv (.c (.int .i64 0)))] [1])
     (.seq
      (.seq
       (.region [.op (some 6) none (.fadi 0 (.t 1)),
         .op (some 7) none (.loadi none (.t 6)),
         .op (some 8) none (.fadi 1 (.t 1)),
         .op (some 9) none (.loadi none (.t 8)),
         .op (some 10) none (.call 88 [(false, (.t 7)), (false, (.t 9))] none),
         .op (some 3) none (.mv (.t 10))] [1, 3])
       (.seq
        (.region [.op (some 11) none (.mv (.t 3)),
          .op (some 12) none (.bin 0 .neq (.t 11) (.c (.int .i64 0)))] [1, 3, 12])
        (.cond (.t 12)
         (.seq
          (.region [.op (some 13) none (.mv (.t 3)),
            .op (some 2) none (.mv (.t 13))] [2])
          .ret)
         .skip)))
      (.seq
       (.seq
        (.region [.op (some 15) none (.fadi 1 (.t 1)),
          .op (some 16) none (.loadi none (.t 15)),
          .op (some 17) none (.call 100 [(false, (.t 16))] none),
          .op (some 14) none (.mv (.t 17)),
          .op (some 18) none (.ext (.t 14) 0),
          .op (some 19) none (.ext (.t 14) 1),
          .op (some 4) none (.mv (.t 18)),
          .op (some 5) none (.mv (.t 19))] [4, 5])
        (.seq
         (.region [.op (some 20) none (.mv (.t 5)),
           .op (some 21) none (.bin 0 .neq (.t 20) (.c (.int .i64 0))),
           .op (some 22) none (.mv (.t 21)),
           .op (some 23) (some (22, false)) (.mv (.t 4)),
           .op (some 24) (some (22, false)) (.un .not (.t 23)),
           .op (some 25) none (.pick (.t 22) (.c (.bool true)) (.t 24))] [25])
         (.cond (.t 25)
          (.seq
           (.region [.op (some 2) none (.mv (.c (.int .i64 7)))] [2])
           .ret)
          .skip)))
       (.seq
        (.region [.op (some 2) none (.mv (.c (.int .i64 0)))] [2])
        .ret))))

/-- schisma/lattice.Equal -/
def v66 : VFun where
  params := 2
  results := [.tmp 4]
  fin := []
  thr := false
  body :=
    (.seq
     (.region [.op (some 2) none (.boxi (.t 0)),
       .op (some 3) none (.boxi (.t 1)),
       .op (some 4) none (.mv (.c (.bool false)))] [2, 3])
     (.seq
      (.region [.op (some 5) none (.fadi 0 (.t 2)),
        .op (some 6) none (.loadi none (.t 5)),
        .op (some 7) none (.fadi 0 (.t 3)),
        .op (some 8) none (.loadi none (.t 7)),
        .op (some 9) none (.bin 0 .eql (.t 6) (.t 8)),
        .op (some 10) none (.mv (.t 9)),
        .op (some 11) (some (10, true)) (.fadi 1 (.t 2)),
        .op (some 12) (some (10, true)) (.loadi none (.t 11)),
        .op (some 13) (some (10, true)) (.fadi 1 (.t 3)),
        .op (some 14) (some (10, true)) (.loadi none (.t 13)),
        .op (some 15) (some (10, true)) (.call 101 [(false, (.t 12)), (false, (.t 14)), (false, (.f 102))] none),
        .op (some 16) none (.pick (.t 10) (.t 15) (.c (.bool false))),
        .op (some 4) none (.mv (.t 16))] [4])
      .ret))

/-- schisma/temperament.same -/
def v67 : VFun where
  params := 2
  results := [.tmp 4]
  fin := []
  thr := false
  body :=
    (.seq
     (.region [.op (some 4) none (.mv (.c (.bool false)))] [0, 1])
     (.seq
      (.region [.op (some 5) none (.mv (.t 0)),
        .op (some 6) none (.mv (.t 1)),
        .op (some 7) none (.call 101 [(false, (.t 5)), (false, (.t 6)), (false, (.f 103))] none),
        .op (some 4) none (.mv (.t 7))] [4])
      .ret))

/-- schisma/hermite.Coordinates -/
def v68 : VFun where
  params := 2
  results := [.tmp 4, .tmp 5, .tmp 6]
  fin := [.frz 4]
  thr := false
  body :=
    (.seq
     (.region [.op (some 4) none (.mv (.c (.nils 1))),
       .op (some 5) none (.mv (.c (.bool false))),
       .op (some 6) none (.mv (.c (.int .i64 0)))] [0, 1])
     (.seq
      (.seq
       (.region [.op (some 10) none (.mv (.t 0)),
         .op (some 11) none (.mv (.t 1)),
         .op (some 12) none (.call 105 [(false, (.t 10)), (false, (.t 11))] none),
         .op (some 7) none (.mv (.t 12))] [0, 1, 7])
       (.seq
        (.region [.op (some 13) none (.mv (.t 7)),
          .op (some 14) none (.bin 0 .neq (.t 13) (.c (.int .i64 0)))] [0, 1, 7, 14])
        (.cond (.t 14)
         (.seq
          (.region [.op (some 15) none (.mv (.t 7)),
            .op (some 4) none (.mv (.c (.nils 1))),
            .op (some 5) none (.mv (.c (.bool false))),
            .op (some 6) none (.mv (.t 15))] [4, 5, 6])
          .ret)
         .skip)))
      (.seq
       (.region [.op (some 17) none (.mv (.t 0)),
         .op (some 18) none (.mv (.t 1)),
         .pre (.frz 17) (.pre (.frz 18) (.op (some 19) none (.call 106 [(false, (.t 17)), (false, (.t 18))] none))),
         .op (some 16) none (.mv (.t 19)),
         .op (some 20) none (.ext (.t 16) 0),
         .op (some 21) none (.ext (.t 16) 1),
         .op (some 8) none (.mv (.t 20)),
         .op (some 9) none (.mv (.t 21))] [8, 9])
       (.seq
        (.seq
         (.region [.op (some 22) none (.mv (.t 9)),
           .op (some 23) none (.un .not (.t 22))] [8, 23])
         (.cond (.t 23)
          (.seq
           (.region [.op (some 4) none (.mv (.c (.nils 1))),
             .op (some 5) none (.mv (.c (.bool false))),
             .op (some 6) none (.mv (.c (.int .i64 0)))] [4, 5, 6])
           .ret)
          .skip))
        (.seq
         (.region [.op (some 25) none (.mv (.t 8)),
           .pre (.frz 25) (.op (some 26) none (.call 107 [(false, (.t 25))] none)),
           .op (some 24) none (.mv (.t 26)),
           .op (some 27) none (.ext (.t 24) 0),
           .op (some 28) none (.ext (.t 24) 1),
           .op (some 4) none (.mv (.t 27)),
           .op (some 6) none (.mv (.t 28))] [4, 6])
         (.seq
          (.region [.op (some 29) none (.mv (.t 4)),
            .op (some 30) none (.mv (.t 6)),
            .op (some 31) none (.bin 0 .eql (.t 30) (.c (.int .i64 0))),
            .op (some 32) none (.mv (.t 6)),
            .op (some 4) none (.mv (.t 29)),
            .op (some 5) none (.mv (.t 31)),
            .op (some 6) none (.mv (.t 32))] [4, 5, 6])
          .ret))))))

/-- schisma/temperament.FromCommas -/
def v69 : VFun where
  params := 2
  results := [.cell 4 (some 3), .tmp 5]
  fin := [.frzc 4 0, .frzc 4 1, .frzc 4 2]
  thr := false
  body :=
    (.seq
     (.region [.op (some 4) none (.alloc [.nils 1, .nils 1, .nils 1] (some 100)),
       .op (some 5) none (.mv (.c (.int .i64 0)))] [0, 1, 4])
     (.seq
      (.region [.op (some 10) none (.mv (.t 0)),
        .op (some 11) none (.mv (.t 1)),
        .pre (.frz 10) (.pre (.frz 11) (.op (some 12) none (.call 108 [(false, (.t 10)), (false, (.t 11))] none))),
        .op (some 9) none (.mv (.t 12)),
        .op (some 13) none (.ext (.t 9) 0),
        .op (some 14) none (.ext (.t 9) 1),
        .op (some 15) none (.ext (.t 9) 2),
        .op (some 6) none (.mv (.t 13)),
        .op (some 7) none (.mv (.t 14)),
        .op (some 8) none (.mv (.t 15))] [0, 4, 6, 7, 8])
      (.seq
       (.seq
        (.region [.op (some 16) none (.mv (.t 8)),
          .op (some 17) none (.bin 0 .neq (.t 16) (.c (.int .i64 0)))] [0, 4, 6, 7, 8, 17])
        (.cond (.t 17)
         (.seq
          (.region [.op (some 18) none (.build [.nils 1, .nils 1, .nils 1] []),
            .op (some 19) none (.mv (.t 8)),
            .op none none (.store 3 (.t 4) (.t 18)),
            .op (some 5) none (.mv (.t 19))] [4, 5])
          .ret)
         .skip))
       (.seq
        (.region [.op (some 20) none (.mv (.t 0)),
          .pre (.frz 20) (.op (some 21) none (.call 109 [(false, (.t 20))] none)),
          .op (some 22) none (.mv (.t 6)),
          .op (some 23) none (.mv (.t 7)),
          .pre (.frz 21) (.pre (.frz 22) (.pre (.frz 23) (.op (some 24) none (.build [.nils 1, .nils 1, .nils 1] [(0, 1, (.t 21)), (1, 1, (.t 22)), (2, 1, (.t 23))])))),
          .op none none (.store 3 (.t 4) (.t 24)),
          .op (some 5) none (.mv (.c (.int .i64 0)))] [4, 5])
        .ret))))

/-- schisma/temperament.FromMapping -/
def v70 : VFun where
  params := 2
  results := [.cell 4 (some 3), .tmp 5]
  fin := [.frzc 4 0, .frzc 4 1, .frzc 4 2]
  thr := false
  body :=
    (.seq
     (.region [.op (some 4) none (.alloc [.nils 1, .nils 1, .nils 1] (some 100)),
       .op (some 5) none (.mv (.c (.int .i64 0)))] [0, 1, 4])
     (.seq
      (.region [.op (some 10) none (.mv (.t 0)),
        .op (some 11) none (.mv (.t 1)),
        .pre (.frz 10) (.pre (.frz 11) (.op (some 12) none (.call 108 [(false, (.t 10)), (false, (.t 11))] none))),
        .op (some 9) none (.mv (.t 12)),
        .op (some 13) none (.ext (.t 9) 0),
        .op (some 14) none (.ext (.t 9) 1),
        .op (some 15) none (.ext (.t 9) 2),
        .op (some 6) none (.mv (.t 13)),
        .op (some 7) none (.mv (.t 14)),
        .op (some 8) none (.mv (.t 15))] [0, 4, 6, 7, 8])
      (.seq
       (.seq
        (.region [.op (some 16) none (.mv (.t 8)),
          .op (some 17) none (.bin 0 .neq (.t 16) (.c (.int .i64 0)))] [0, 4, 6, 7, 8, 17])
        (.cond (.t 17)
         (.seq
          (.region [.op (some 18) none (.build [.nils 1, .nils 1, .nils 1] []),
            .op (some 19) none (.mv (.t 8)),
            .op none none (.store 3 (.t 4) (.t 18)),
            .op (some 5) none (.mv (.t 19))] [4, 5])
          .ret)
         .skip))
       (.seq
        (.region [.op (some 20) none (.mv (.t 0)),
          .pre (.frz 20) (.op (some 21) none (.call 109 [(false, (.t 20))] none)),
          .op (some 22) none (.mv (.t 7)),
          .op (some 23) none (.mv (.t 6)),
          .pre (.frz 21) (.pre (.frz 22) (.pre (.frz 23) (.op (some 24) none (.build [.nils 1, .nils 1, .nils 1] [(0, 1, (.t 21)), (1, 1, (.t 22)), (2, 1, (.t 23))])))),
          .op none none (.store 3 (.t 4) (.t 24)),
          .op (some 5) none (.mv (.c (.int .i64 0)))] [4, 5])
        .ret))))

/-- (schisma/lattice.long).lead -/
def v73 : VFun where
  params := 1
  results := [.tmp 2]
  fin := []
  thr := false
  body :=
    (.seq
     (.region [.op (some 2) none (.mv (.c (.int .i64 0)))] [0])
     (.seq
      (.region [.op (some 3) none (.mv (.t 0)),
        .op (some 4) none (.call 114 [(false, (.t 3)), (false, (.f 115))] none),
        .op (some 2) none (.mv (.t 4))] [2])
      .ret))

def v74_0 : VC :=
    (.seq
     (.region [.op (some 15) none (.bin 0 .lss (.t 14) (.t 13))] [4, 12, 13, 14, 15])
     (.seq
      (.cond (.t 15)
       .skip
       (.exit 0))
      (.seq
       (.block 1
        (.seq
         (.region [.op (some 16) none (.iad 1 (.t 12) (.t 14)),
           .op (some 17) none (.load none (.t 16)),
           .op (some 6) none (.mv (.t 17))] [4, 6, 12, 13, 14])
         (.seq
          (.region [.op (some 19) none (.mv (.t 6)),
            .op (some 20) none (.call 116 [(false, (.t 19))] none),
            .op (some 18) none (.mv (.t 20)),
            .op (some 21) none (.ext (.t 18) 0),
            .op (some 22) none (.ext (.t 18) 1),
            .op (some 7) none (.mv (.t 21)),
            .op (some 8) none (.mv (.t 22))] [4, 7, 8, 12, 13, 14])
          (.seq
           (.seq
            (.region [.op (some 23) none (.mv (.t 8)),
              .op (some 24) none (.un .not (.t 23)),
              .op (some 25) none (.mv (.t 24)),
              .op (some 26) (some (25, false)) (.mv (.t 7)),
              .op (some 27) (some (25, false)) (.bin 0 .gtr (.t 26) (.c (.int .i64 1000000000))),
              .op (some 28) none (.pick (.t 25) (.c (.bool true)) (.t 27)),
              .op (some 29) none (.mv (.t 28)),
              .op (some 30) (some (29, false)) (.mv (.t 7)),
              .op (some 31) (some (29, false)) (.bin 0 .lss (.t 30) (.c (.int .i64 (-1000000000)))),
              .op (some 32) none (.pick (.t 29) (.c (.bool true)) (.t 31))] [4, 7, 12, 13, 14, 32])
            (.cond (.t 32)
             (.seq
              (.region [.op (some 2) none (.mv (.c (.nils 1))),
                .op (some 3) none (.mv (.c (.int .i64 4)))] [2, 3])
              .ret)
             .skip))
           (.region [.op (some 33) none (.mv (.t 4)),
             .op (some 34) none (.mv (.t 7)),
             .op (some 35) none (.bsl 1 1 [.int .i64 0] [(0, 1, (.t 34))] (some 101)),
             .op (some 36) none (.app 1 8 false (.t 33) (.t 35) (some 102)),
             .op (some 4) none (.mv (.t 36))] [4, 12, 13, 14])))))
       (.region [.op (some 37) none (.bin 0 .add (.t 14) (.c (.int .i64 1))),
         .op (some 14) none (.mv (.t 37))] [4, 12, 13, 14]))))
/-- (schisma/lattice.long).short -/
def v74 : VFun where
  params := 1
  results := [.tmp 2, .tmp 3]
  fin := [.frz 2]
  thr := false
  body :=
    (.seq
     (.region [.op (some 2) none (.mv (.c (.nils 1))),
       .op (some 3) none (.mv (.c (.int .i64 0)))] [0])
     (.seq
      (.region [.op (some 9) none (.mv (.t 0)),
        .op (some 10) none (.len false (.t 9)),
        .op (some 11) none (.mks 1 8 [.int .i64 0] (.c (.int .i64 0)) (.t 10) (some 100)),
        .op (some 4) none (.mv (.t 11))] [0, 4])
      (.seq
       (.seq
        (.region [.op (some 12) none (.mv (.t 0)),
          .op (some 13) none (.len false (.t 12)),
          .op (some 14) none (.mv (.c (.int .i64 0)))] [4, 12, 13, 14])
        (.block 0
         (.loop v74_0)))
       (.seq
        (.region [.op (some 38) none (.mv (.t 4)),
          .op (some 2) none (.mv (.t 38)),
          .op (some 3) none (.mv (.c (.int .i64 0)))] [2, 3])
        .ret))))

/-- slices.ContainsFunc[[]schisma/api.Int,schisma/api.Int] -/
def v76 : VFun where
  params := 2
  results := [.tmp 4]
  fin := []
  thr := false
  body :=
    (.seq
     (.region [.op (some 4) none (.mv (.c (.bool false)))] [0, 1])
     (.seq
      (.region [.op (some 5) none (.mv (.t 0)),
        .op (some 6) none (.mv (.t 1)),
        .op (some 7) none (.call 117 [(false, (.t 5)), (false, (.t 6))] none),
        .op (some 8) none (.bin 0 .geq (.t 7) (.c (.int .i64 0))),
        .op (some 4) none (.mv (.t 8))] [4])
      .ret))

def v83_0 : VC :=
    (.seq
     (.seq
      (.region [.op (some 10) none (.mv (.t 3)),
        .op (some 11) none (.mv (.t 3)),
        .op (some 12) none (.bin 0 .mul (.t 10) (.t 11)),
        .op (some 13) none (.mv (.t 0)),
        .op (some 14) none (.bin 0 .leq (.t 12) (.t 13))] [0, 3, 14])
      (.cond (.t 14)
       .skip
       (.exit 0)))
     (.seq
      (.block 1
       (.seq
        (.region [.op (some 17) none (.mv (.t 0)),
          .op (some 18) none (.mv (.t 3)),
          .op (some 19) none (.bin 0 .rem (.t 17) (.t 18)),
          .op (some 20) none (.bin 0 .eql (.t 19) (.c (.int .i64 0)))] [0, 3, 20])
        (.cond (.t 20)
         (.seq
          (.region [.op (some 2) none (.mv (.c (.bool false)))] [2])
          .ret)
         .skip)))
      (.region [.op (some 15) none (.mv (.t 3)),
        .op (some 16) none (.bin 0 .add (.t 15) (.c (.int .i64 1))),
        .op (some 3) none (.mv (.t 16))] [0, 3])))
/-- schisma/prime.IsPrime -/
def v83 : VFun where
  params := 1
  results := [.tmp 2]
  fin := []
  thr := false
  body :=
    (.seq
     (.region [.op (some 2) none (.mv (.c (.bool false)))] [0])
     (.seq
      (.seq
       (.region [.op (some 4) none (.mv (.t 0)),
         .op (some 5) none (.bin 0 .lss (.t 4) (.c (.int .i64 2))),
         .op (some 6) none (.mv (.t 5)),
         .op (some 7) (some (6, false)) (.mv (.t 0)),
         .op (some 8) (some (6, false)) (.bin 0 .gtr (.t 7) (.c (.int .i64 97))),
         .op (some 9) none (.pick (.t 6) (.c (.bool true)) (.t 8))] [0, 9])
       (.cond (.t 9)
        (.seq
         (.region [.op (some 2) none (.mv (.c (.bool false)))] [2])
         .ret)
        .skip))
      (.seq
       (.seq
        (.region [.op (some 3) none (.mv (.c (.int .i64 2)))] [0, 3])
        (.block 0
         (.loop v83_0)))
       (.seq
        (.region [.op (some 2) none (.mv (.c (.bool true)))] [2])
        .ret))))

/-- schisma/val.rounded -/
def v84 : VFun where
  params := 3
  results := [.tmp 6]
  fin := []
  thr := false
  body :=
    (.seq
     (.region [.op (some 6) none (.mv (.c (.int .i64 0)))] [0, 1, 2])
     (.seq
      (.seq
       (.region [.op (some 11) none (.mv (.t 2)),
         .op (some 12) none (.bin 0 .eql (.t 11) (.c (.int .i64 0)))] [0, 1, 2, 12])
       (.cond (.t 12)
        (.seq
         (.region [.op (some 13) none (.mv (.t 1)),
           .op (some 14) none (.bin 0 .add (.t 13) (.c (.int .i64 1))),
           .op (some 15) none (.bin 0 .shr (.t 14) (.c (.int .u64 1))),
           .op (some 6) none (.mv (.t 15))] [6])
         .ret)
        .skip))
      (.seq
       (.region [.op (some 17) none (.mv (.t 0)),
         .op (some 18) none (.mv (.t 0)),
         .op (some 19) none (.mv (.t 1)),
         .op (some 20) none (.mv (.t 2)),
         .pre (.frz 18) (.op (some 21) none (.call 134 [(false, (.t 18)), (false, (.t 19)), (false, (.t 20)), (false, (.c (.int .i64 1))), (false, (.c (.int .i64 0)))] none)),
         .op (some 22) none (.mv (.t 0)),
         .pre (.frz 22) (.op (some 23) none (.call 134 [(false, (.t 22)), (false, (.c (.int .i64 2))), (false, (.c (.int .i64 0))), (false, (.c (.int .i64 0))), (false, (.c (.int .i64 0)))] none)),
         .op (some 24) none (.call 133 [(false, (.t 17)), (false, (.t 21)), (false, (.t 23))] none),
         .op (some 16) none (.mv (.t 24)),
         .op (some 25) none (.ext (.t 16) 0),
         .op (some 26) none (.ext (.t 16) 1),
         .op (some 7) none (.mv (.t 25)),
         .op (some 8) none (.mv (.t 26))] [7])
       (.seq
        (.region [.op (some 28) none (.mv (.t 7)),
          .op (some 29) none (.call 116 [(false, (.t 28))] none),
          .op (some 27) none (.mv (.t 29)),
          .op (some 30) none (.ext (.t 27) 0),
          .op (some 31) none (.ext (.t 27) 1),
          .op (some 9) none (.mv (.t 30)),
          .op (some 10) none (.mv (.t 31))] [9])
        (.seq
         (.region [.op (some 32) none (.mv (.t 9)),
           .op (some 6) none (.mv (.t 32))] [6])
         .ret)))))

/-- schisma/lattice.check -/
def v88 : VFun where
  params := 2
  results := [.tmp 4]
  fin := []
  thr := false
  body :=
    (.seq
     (.region [.op (some 4) none (.mv (.c (.int .i64 0)))] [0, 1])
     (.seq
      (.block 0
       (.seq
        (.region [.op (some 6) none (.mv (.t 0)),
          .op (some 7) none (.bin 0 .lss (.t 6) (.c (.int .i64 0))),
          .op (some 8) none (.mv (.t 7)),
          .op (some 9) (some (8, false)) (.mv (.t 0)),
          .op (some 10) (some (8, false)) (.bin 0 .gtr (.t 9) (.c (.int .i64 12))),
          .op (some 11) none (.pick (.t 8) (.c (.bool true)) (.t 10)),
          .op (some 5) none (.mv (.t 11))] [0, 1, 5])
        (.cond (.t 5)
         (.seq
          (.region [.op (some 4) none (.mv (.c (.int .i64 3)))] [4])
          .ret)
         (.seq
          (.region [.op (some 13) none (.mv (.t 1)),
            .op (some 14) none (.len false (.t 13)),
            .op (some 15) none (.bin 0 .gtr (.t 14) (.c (.int .i64 12))),
            .op (some 12) none (.mv (.t 15))] [0, 1, 12])
          (.cond (.t 12)
           (.seq
            (.region [.op (some 4) none (.mv (.c (.int .i64 4)))] [4])
            .ret)
           .skip)))))
      (.seq
       (.region [.op (some 16) none (.mv (.t 1)),
         .op (some 17) none (.mv (.t 0)),
         .op (some 18) none (.call 136 [(false, (.t 16)), (false, (.t 17))] none),
         .op (some 4) none (.mv (.t 18))] [4])
       .ret)))

def v89_0 : VC :=
    (.seq
     (.region [.op (some 9) none (.bin 0 .lss (.t 8) (.t 7))] [3, 6, 7, 8, 9])
     (.seq
      (.cond (.t 9)
       .skip
       (.exit 0))
      (.seq
       (.block 1
        (.seq
         (.region [.op (some 10) none (.iad 1 (.t 6) (.t 8)),
           .op (some 11) none (.load none (.t 10)),
           .op (some 5) none (.mv (.t 11))] [3, 5, 6, 7, 8])
         (.region [.op (some 12) none (.mv (.t 3)),
           .op (some 13) none (.mv (.t 5)),
           .pre (.frz 13) (.op (some 14) none (.call 110 [(false, (.t 13))] (some none))),
           .op (some 15) none (.bsl 1 1 [.nils 1] [(0, 1, (.t 14))] none),
           .op (some 16) none (.app 1 24 false (.t 12) (.t 15) none),
           .op (some 3) none (.mv (.t 16))] [3, 6, 7, 8])))
       (.region [.op (some 17) none (.bin 0 .add (.t 8) (.c (.int .i64 1))),
         .op (some 8) none (.mv (.t 17))] [3, 6, 7, 8]))))
/-- schisma/lattice.longsOf -/
def v89 : VFun where
  params := 1
  results := [.tmp 2]
  fin := []
  thr := true
  body :=
    (.seq
     (.region [.op (some 2) none (.nil 1 none)] [0])
     (.seq
      (.region [.op (some 3) none (.nil 1 none)] [0, 3])
      (.seq
       (.seq
        (.region [.op (some 6) none (.mv (.t 0)),
          .op (some 7) none (.len false (.t 6)),
          .op (some 8) none (.mv (.c (.int .i64 0)))] [3, 6, 7, 8])
        (.block 0
         (.loop v89_0)))
       (.seq
        (.region [.op (some 18) none (.mv (.t 3)),
          .op (some 2) none (.mv (.t 18))] [2])
        .ret))))

def v90_0 : VC :=
    (.seq
     (.seq
      (.region [.op (some 30) none (.mv (.t 8)),
        .op (some 31) none (.mv (.t 0)),
        .op (some 32) none (.len false (.t 31)),
        .op (some 33) none (.bin 0 .lss (.t 30) (.t 32))] [0, 1, 5, 6, 7, 8, 33])
      (.cond (.t 33)
       .skip
       (.exit 4)))
     (.seq
      (.block 5
       (.seq
        (.region [.op (some 36) none (.mv (.t 0)),
          .op (some 37) none (.mv (.t 8)),
          .op (some 38) none (.iad 1 (.t 36) (.t 37)),
          .op (some 39) none (.load none (.t 38)),
          .op (some 40) none (.mv (.t 6)),
          .op (some 41) none (.iad 1 (.t 39) (.t 40)),
          .op (some 42) none (.load none (.t 41)),
          .op (some 43) none (.bin 0 .neq (.t 42) (.c (sI [48]))),
          .op (some 44) none (.mv (.t 43)),
          .op (some 45) (some (44, true)) (.mv (.t 7)),
          .op (some 46) (some (44, true)) (.bin 0 .lss (.t 45) (.c (.int .i64 0))),
          .op (some 47) (some (44, true)) (.mv (.t 46)),
          .op (some 48) (some (47, false)) (.mv (.t 0)),
          .op (some 49) (some (47, false)) (.mv (.t 8)),
          .op (some 50) (some (47, false)) (.iad 1 (.t 48) (.t 49)),
          .op (some 51) (some (47, false)) (.load none (.t 50)),
          .op (some 52) (some (47, false)) (.mv (.t 6)),
          .op (some 53) (some (47, false)) (.iad 1 (.t 51) (.t 52)),
          .op (some 54) (some (47, false)) (.load none (.t 53)),
          .op (some 55) (some (47, false)) (.call 138 [(false, (.t 54))] none),
          .op (some 56) (some (47, false)) (.mv (.t 0)),
          .op (some 57) (some (47, false)) (.mv (.t 7)),
          .op (some 58) (some (47, false)) (.iad 1 (.t 56) (.t 57)),
          .op (some 59) (some (47, false)) (.load none (.t 58)),
          .op (some 60) (some (47, false)) (.mv (.t 6)),
          .op (some 61) (some (47, false)) (.iad 1 (.t 59) (.t 60)),
          .op (some 62) (some (47, false)) (.load none (.t 61)),
          .op (some 63) (some (47, false)) (.call 138 [(false, (.t 62))] none),
          .op (some 64) (some (47, false)) (.call 137 [(false, (.t 55)), (false, (.t 63))] none),
          .op (some 65) (some (47, false)) (.bin 0 .lss (.t 64) (.c (.int .i64 0))),
          .op (some 66) (some (44, true)) (.pick (.t 47) (.c (.bool true)) (.t 65)),
          .op (some 67) none (.pick (.t 44) (.t 66) (.c (.bool false)))] [0, 1, 5, 6, 7, 8, 67])
        (.cond (.t 67)
         (.region [.op (some 68) none (.mv (.t 8)),
           .op (some 7) none (.mv (.t 68))] [0, 1, 5, 6, 7, 8])
         .skip)))
      (.region [.op (some 34) none (.mv (.t 8)),
        .op (some 35) none (.bin 0 .add (.t 34) (.c (.int .i64 1))),
        .op (some 8) none (.mv (.t 35))] [0, 1, 5, 6, 7, 8])))
def v90_1 : VC :=
    (.seq
     (.seq
      (.region [.op (some 87) none (.mv (.t 10)),
        .op (some 88) none (.mv (.t 0)),
        .op (some 89) none (.len false (.t 88)),
        .op (some 90) none (.bin 0 .lss (.t 87) (.t 89))] [0, 1, 5, 6, 9, 10, 90])
      (.cond (.t 90)
       .skip
       (.exit 6)))
     (.seq
      (.block 7
       (.seq
        (.region [.op (some 94) none (.mv (.t 0)),
          .op (some 95) none (.mv (.t 10)),
          .op (some 96) none (.iad 1 (.t 94) (.t 95)),
          .op (some 97) none (.load none (.t 96)),
          .op (some 98) none (.mv (.t 6)),
          .op (some 99) none (.iad 1 (.t 97) (.t 98)),
          .op (some 100) none (.load none (.t 99)),
          .op (some 101) none (.mv (.t 0)),
          .op (some 102) none (.mv (.t 5)),
          .op (some 103) none (.iad 1 (.t 101) (.t 102)),
          .op (some 104) none (.load none (.t 103)),
          .op (some 105) none (.mv (.t 6)),
          .op (some 106) none (.iad 1 (.t 104) (.t 105)),
          .op (some 107) none (.load none (.t 106)),
          .op (some 108) none (.call 112 [(false, (.t 100)), (false, (.t 107))] none),
          .op (some 93) none (.mv (.t 108)),
          .op (some 109) none (.ext (.t 93) 0),
          .op (some 110) none (.ext (.t 93) 1),
          .op (some 111) none (.ext (.t 93) 2),
          .op (some 11) none (.mv (.t 109)),
          .op (some 12) none (.mv (.t 110)),
          .op (some 13) none (.mv (.t 111))] [0, 1, 5, 6, 9, 10, 11, 12])
        (.seq
         (.region [.op (some 112) none (.mv (.t 0)),
           .op (some 113) none (.mv (.t 10)),
           .op (some 114) none (.iad 1 (.t 112) (.t 113)),
           .op (some 115) none (.load none (.t 114)),
           .op (some 116) none (.mv (.t 11)),
           .op (some 117) none (.mv (.t 0)),
           .op (some 118) none (.mv (.t 5)),
           .op (some 119) none (.iad 1 (.t 117) (.t 118)),
           .op (some 120) none (.load none (.t 119)),
           .op (some 121) none (.call 113 [(true, (.t 115)), (false, (.t 116)), (false, (.t 120))] none)] [0, 1, 5, 6, 9, 10, 12])
         (.region [.op (some 122) none (.mv (.t 9)),
           .op (some 123) none (.mv (.t 122)),
           .op (some 124) (some (123, false)) (.mv (.t 12)),
           .op (some 125) (some (123, false)) (.bin 0 .neq (.t 124) (.c (sI [48]))),
           .op (some 126) none (.pick (.t 123) (.c (.bool true)) (.t 125)),
           .op (some 9) none (.mv (.t 126))] [0, 1, 5, 6, 9, 10]))))
      (.region [.op (some 91) none (.mv (.t 10)),
        .op (some 92) none (.bin 0 .add (.t 91) (.c (.int .i64 1))),
        .op (some 10) none (.mv (.t 92))] [0, 1, 5, 6, 9, 10])))
def v90_2 : VC :=
    (.seq
     (.region [.op (some 144) none (.bin 0 .lss (.t 143) (.t 142))] [0, 1, 5, 6, 142, 143, 144])
     (.seq
      (.cond (.t 144)
       .skip
       (.exit 8))
      (.seq
       (.block 9
        (.seq
         (.region [.op (some 145) none (.mv (.t 143)),
           .op (some 14) none (.mv (.t 145))] [0, 1, 5, 6, 14, 142, 143])
         (.seq
          (.region [.op (some 147) none (.mv (.t 0)),
            .op (some 148) none (.mv (.t 14)),
            .op (some 149) none (.iad 1 (.t 147) (.t 148)),
            .op (some 150) none (.load none (.t 149)),
            .op (some 151) none (.mv (.t 6)),
            .op (some 152) none (.iad 1 (.t 150) (.t 151)),
            .op (some 153) none (.load none (.t 152)),
            .op (some 154) none (.mv (.t 0)),
            .op (some 155) none (.mv (.t 5)),
            .op (some 156) none (.iad 1 (.t 154) (.t 155)),
            .op (some 157) none (.load none (.t 156)),
            .op (some 158) none (.mv (.t 6)),
            .op (some 159) none (.iad 1 (.t 157) (.t 158)),
            .op (some 160) none (.load none (.t 159)),
            .op (some 161) none (.call 112 [(false, (.t 153)), (false, (.t 160))] none),
            .op (some 146) none (.mv (.t 161)),
            .op (some 162) none (.ext (.t 146) 0),
            .op (some 163) none (.ext (.t 146) 1),
            .op (some 164) none (.ext (.t 146) 2),
            .op (some 15) none (.mv (.t 162)),
            .op (some 16) none (.mv (.t 163)),
            .op (some 17) none (.mv (.t 164))] [0, 1, 5, 6, 14, 15, 142, 143])
          (.region [.op (some 165) none (.mv (.t 0)),
            .op (some 166) none (.mv (.t 14)),
            .op (some 167) none (.iad 1 (.t 165) (.t 166)),
            .op (some 168) none (.load none (.t 167)),
            .op (some 169) none (.mv (.t 15)),
            .op (some 170) none (.mv (.t 0)),
            .op (some 171) none (.mv (.t 5)),
            .op (some 172) none (.iad 1 (.t 170) (.t 171)),
            .op (some 173) none (.load none (.t 172)),
            .op (some 174) none (.call 113 [(true, (.t 168)), (false, (.t 169)), (false, (.t 173))] none)] [0, 1, 5, 6, 142, 143]))))
       (.region [.op (some 175) none (.bin 0 .add (.t 143) (.c (.int .i64 1))),
         .op (some 143) none (.mv (.t 175))] [0, 1, 5, 6, 142, 143]))))
def v90_3 : VC :=
    (.block 3
     (.seq
      (.region [.op (some 7) none (.mv (.c (.int .i64 (-1))))] [0, 1, 5, 6, 7])
      (.seq
       (.seq
        (.region [.op (some 29) none (.mv (.t 5)),
          .op (some 8) none (.mv (.t 29))] [0, 1, 5, 6, 7, 8])
        (.block 4
         (.loop v90_0)))
       (.seq
        (.seq
         (.region [.op (some 69) none (.mv (.t 7)),
           .op (some 70) none (.bin 0 .lss (.t 69) (.c (.int .i64 0)))] [0, 1, 5, 6, 7, 70])
         (.cond (.t 70)
          (.exit 2)
          .skip))
        (.seq
         (.region [.op (some 71) none (.mv (.t 0)),
           .op (some 72) none (.mv (.t 5)),
           .op (some 73) none (.mv (.t 0)),
           .op (some 74) none (.mv (.t 7)),
           .op (some 75) none (.mv (.t 0)),
           .op (some 76) none (.mv (.t 7)),
           .op (some 77) none (.iad 1 (.t 75) (.t 76)),
           .op (some 78) none (.load none (.t 77)),
           .op (some 79) none (.mv (.t 0)),
           .op (some 80) none (.mv (.t 5)),
           .op (some 81) none (.iad 1 (.t 79) (.t 80)),
           .op (some 82) none (.load none (.t 81)),
           .op (some 83) none (.iad 1 (.t 71) (.t 72)),
           .op none none (.store 1 (.t 83) (.t 78)),
           .op (some 84) none (.iad 1 (.t 73) (.t 74)),
           .op none none (.store 1 (.t 84) (.t 82))] [0, 1, 5, 6])
         (.seq
          (.region [.op (some 9) none (.mv (.c (.bool false)))] [0, 1, 5, 6, 9])
          (.seq
           (.seq
            (.region [.op (some 85) none (.mv (.t 5)),
              .op (some 86) none (.bin 0 .add (.t 85) (.c (.int .i64 1))),
              .op (some 10) none (.mv (.t 86))] [0, 1, 5, 6, 9, 10])
            (.block 6
             (.loop v90_1)))
           (.seq
            (.seq
             (.region [.op (some 127) none (.mv (.t 9))] [0, 1, 5, 6, 127])
             (.cond (.t 127)
              (.exit 3)
              .skip))
            (.seq
             (.seq
              (.region [.op (some 128) none (.mv (.t 0)),
                .op (some 129) none (.mv (.t 5)),
                .op (some 130) none (.iad 1 (.t 128) (.t 129)),
                .op (some 131) none (.load none (.t 130)),
                .op (some 132) none (.mv (.t 6)),
                .op (some 133) none (.iad 1 (.t 131) (.t 132)),
                .op (some 134) none (.load none (.t 133)),
                .op (some 135) none (.call 139 [(false, (.t 134))] none),
                .op (some 136) none (.bin 0 .lss (.t 135) (.c (.int .i64 0)))] [0, 1, 5, 6, 136])
              (.cond (.t 136)
               (.region [.op (some 137) none (.mv (.t 0)),
                 .op (some 138) none (.mv (.t 5)),
                 .op (some 139) none (.iad 1 (.t 137) (.t 138)),
                 .op (some 140) none (.load none (.t 139)),
                 .op (some 141) none (.call 140 [(true, (.t 140))] none)] [0, 1, 5, 6])
               .skip))
             (.seq
              (.seq
               (.region [.op (some 142) none (.mv (.t 5)),
                 .op (some 143) none (.mv (.c (.int .i64 0)))] [0, 1, 5, 6, 142, 143])
               (.block 8
                (.loop v90_2)))
              (.seq
               (.region [.op (some 176) none (.mv (.t 5)),
                 .op (some 177) none (.bin 0 .add (.t 176) (.c (.int .i64 1))),
                 .op (some 5) none (.mv (.t 177))] [0, 1, 5, 6])
               (.exit 2))))))))))))
def v90_4 : VC :=
    (.seq
     (.seq
      (.region [.op (some 18) none (.mv (.t 6)),
        .op (some 19) none (.mv (.t 1)),
        .op (some 20) none (.bin 0 .lss (.t 18) (.t 19)),
        .op (some 21) none (.mv (.t 20)),
        .op (some 22) (some (21, true)) (.mv (.t 5)),
        .op (some 23) (some (21, true)) (.mv (.t 0)),
        .op (some 24) (some (21, true)) (.len false (.t 23)),
        .op (some 25) (some (21, true)) (.bin 0 .lss (.t 22) (.t 24)),
        .op (some 26) none (.pick (.t 21) (.t 25) (.c (.bool false)))] [0, 1, 5, 6, 26])
      (.cond (.t 26)
       .skip
       (.exit 0)))
     (.seq
      (.block 1
       (.block 2
        (.loop v90_3)))
      (.region [.op (some 27) none (.mv (.t 6)),
        .op (some 28) none (.bin 0 .add (.t 27) (.c (.int .i64 1))),
        .op (some 6) none (.mv (.t 28))] [0, 1, 5, 6])))
/-- (schisma/lattice.longs).form -/
def v90 : VFun where
  params := 2
  results := [.tmp 4]
  fin := []
  thr := true
  body :=
    (.seq
     (.region [.op (some 4) none (.nil 1 none)] [0, 1])
     (.seq
      (.region [.op (some 5) none (.mv (.c (.int .i64 0)))] [0, 1, 5])
      (.seq
       (.seq
        (.region [.op (some 6) none (.mv (.c (.int .i64 0)))] [0, 1, 5, 6])
        (.block 0
         (.loop v90_4)))
       (.seq
        (.region [.op (some 178) none (.mv (.t 0)),
          .op (some 179) none (.mv (.t 5)),
          .op (some 180) none (.slice 1 (.t 178) none (some (.t 179)) none),
          .op (some 4) none (.mv (.t 180))] [4])
        .ret))))

def v91_0 : VC :=
    (.seq
     (.region [.op (some 16) none (.bin 0 .lss (.t 15) (.t 14))] [4, 6, 13, 14, 15, 16])
     (.seq
      (.cond (.t 16)
       .skip
       (.exit 0))
      (.seq
       (.block 1
        (.seq
         (.region [.op (some 17) none (.iad 1 (.t 13) (.t 15)),
           .op (some 18) none (.load none (.t 17)),
           .op (some 8) none (.mv (.t 18))] [4, 6, 8, 13, 14, 15])
         (.seq
          (.region [.op (some 20) none (.mv (.t 8)),
            .pre (.frz 20) (.op (some 21) none (.call 74 [(false, (.t 20))] none)),
            .op (some 19) none (.mv (.t 21)),
            .op (some 22) none (.ext (.t 19) 0),
            .op (some 23) none (.ext (.t 19) 1),
            .op (some 9) none (.mv (.t 22)),
            .op (some 10) none (.mv (.t 23))] [4, 6, 9, 10, 13, 14, 15])
          (.seq
           (.seq
            (.region [.op (some 24) none (.mv (.t 10)),
              .op (some 25) none (.bin 0 .neq (.t 24) (.c (.int .i64 0)))] [4, 6, 9, 10, 13, 14, 15, 25])
            (.cond (.t 25)
             (.seq
              (.region [.op (some 26) none (.build [.int .i64 0, .nils 1] []),
                .op (some 27) none (.mv (.t 10)),
                .op none none (.store 2 (.t 4) (.t 26)),
                .op (some 5) none (.mv (.t 27))] [4, 5])
              .ret)
             .skip))
           (.region [.op (some 28) none (.fad 1 (.t 6)),
             .op (some 29) none (.load none (.t 28)),
             .op (some 30) none (.mv (.t 9)),
             .pre (.frz 30) (.op (some 31) none (.bsl 1 1 [.nils 1] [(0, 1, (.t 30))] none)),
             .pre (.ownt 29 1 none) (.pre (.junk 28 0) (.op (some 32) none (.app 1 24 false (.t 29) (.t 31) none))),
             .op (some 33) none (.fad 1 (.t 6)),
             .op none none (.store 1 (.t 33) (.t 32))] [4, 6, 13, 14, 15])))))
       (.region [.op (some 34) none (.bin 0 .add (.t 15) (.c (.int .i64 1))),
         .op (some 15) none (.mv (.t 34))] [4, 6, 13, 14, 15]))))
/-- (schisma/lattice.longs).short -/
def v91 : VFun where
  params := 2
  results := [.cell 4 (some 2), .tmp 5]
  fin := [.frzc 4 1]
  thr := true
  body :=
    (.seq
     (.region [.op (some 4) none (.alloc [.int .i64 0, .nils 1] none),
       .op (some 5) none (.mv (.c (.int .i64 0)))] [0, 1, 4])
     (.seq
      (.region [.op (some 11) none (.mv (.t 1)),
        .op (some 12) none (.build [.int .i64 0, .nils 1] [(0, 1, (.t 11))]),
        .op (some 6) none (.alloc [.int .i64 0, .nils 1] none),
        .op none none (.store 2 (.t 6) (.t 12))] [0, 4, 6])
      (.seq
       (.seq
        (.region [.op (some 13) none (.mv (.t 0)),
          .op (some 14) none (.len false (.t 13)),
          .op (some 15) none (.mv (.c (.int .i64 0)))] [4, 6, 13, 14, 15])
        (.block 0
         (.loop v91_0)))
       (.seq
        (.region [.op (some 35) none (.load (some 2) (.t 6)),
          .op none none (.store 2 (.t 4) (.t 35)),
          .op (some 5) none (.mv (.c (.int .i64 0)))] [4, 5])
        .ret))))

def v92_0 : VC :=
    (.seq
     (.region [.op (some 18) none (.bin 0 .lss (.t 17) (.t 16))] [0, 1, 5, 6, 7, 11, 12, 15, 16, 17, 18])
     (.seq
      (.cond (.t 18)
       .skip
       (.exit 2))
      (.seq
       (.block 3
        (.seq
         (.region [.op (some 19) none (.iad 1 (.t 15) (.t 17)),
           .op (some 20) none (.load none (.t 19)),
           .op (some 9) none (.mv (.t 20))] [0, 1, 5, 6, 7, 9, 11, 12, 15, 16, 17])
         (.region [.op (some 21) none (.mv (.t 7)),
           .op (some 22) none (.mv (.t 9)),
           .op (some 23) none (.mv (.t 6)),
           .op (some 24) none (.iad 1 (.t 22) (.t 23)),
           .op (some 25) none (.load none (.t 24)),
           .op (some 26) none (.bsl 1 1 [sI []] [(0, 1, (.t 25))] none),
           .op (some 27) none (.app 1 16 false (.t 21) (.t 26) none),
           .op (some 7) none (.mv (.t 27))] [0, 1, 5, 6, 7, 11, 12, 15, 16, 17])))
       (.region [.op (some 28) none (.bin 0 .add (.t 17) (.c (.int .i64 1))),
         .op (some 17) none (.mv (.t 28))] [0, 1, 5, 6, 7, 11, 12, 15, 16, 17]))))
def v92_1 : VC :=
    (.seq
     (.region [.op (some 13) none (.bin 0 .lss (.t 12) (.t 11))] [0, 1, 5, 11, 12, 13])
     (.seq
      (.cond (.t 13)
       .skip
       (.exit 0))
      (.seq
       (.block 1
        (.seq
         (.region [.op (some 14) none (.mv (.t 12)),
           .op (some 6) none (.mv (.t 14))] [0, 1, 5, 6, 11, 12])
         (.seq
          (.region [.op (some 7) none (.nil 1 none)] [0, 1, 5, 6, 7, 11, 12])
          (.seq
           (.seq
            (.region [.op (some 15) none (.mv (.t 0)),
              .op (some 16) none (.len false (.t 15)),
              .op (some 17) none (.mv (.c (.int .i64 0)))] [0, 1, 5, 6, 7, 11, 12, 15, 16, 17])
            (.block 2
             (.loop v92_0)))
           (.seq
            (.region [.op (some 29) none (.mv (.t 1)),
              .op (some 30) none (.call 141 [(false, (.t 29))] (some none)),
              .op (some 10) none (.mv (.t 30))] [0, 1, 5, 6, 7, 10, 11, 12])
            (.seq
             (.region [.op (some 31) none (.mv (.t 10)),
               .op (some 32) none (.mv (.t 6)),
               .op (some 33) none (.iad 1 (.t 31) (.t 32)),
               .op none none (.store 1 (.t 33) (.c (sI [49])))] [0, 1, 5, 7, 10, 11, 12])
             (.region [.op (some 34) none (.mv (.t 5)),
               .op (some 35) none (.mv (.t 7)),
               .op (some 36) none (.mv (.t 10)),
               .op (some 37) none (.app 1 16 false (.t 35) (.t 36) none),
               .op (some 38) none (.bsl 1 1 [.nils 1] [(0, 1, (.t 37))] none),
               .op (some 39) none (.app 1 24 false (.t 34) (.t 38) none),
               .op (some 5) none (.mv (.t 39))] [0, 1, 5, 11, 12])))))))
       (.region [.op (some 40) none (.bin 0 .add (.t 12) (.c (.int .i64 1))),
         .op (some 12) none (.mv (.t 40))] [0, 1, 5, 11, 12]))))
/-- (schisma/lattice.longs).kernel -/
def v92 : VFun where
  params := 2
  results := [.tmp 4]
  fin := []
  thr := true
  body :=
    (.seq
     (.region [.op (some 4) none (.nil 1 none)] [0, 1])
     (.seq
      (.region [.op (some 5) none (.nil 1 none)] [0, 1, 5])
      (.seq
       (.seq
        (.region [.op (some 11) none (.mv (.t 1)),
          .op (some 12) none (.mv (.c (.int .i64 0)))] [0, 1, 5, 11, 12])
        (.block 0
         (.loop v92_1)))
       (.seq
        (.region [.op (some 41) none (.mv (.t 5)),
          .op (some 42) none (.mv (.t 0)),
          .op (some 43) none (.len false (.t 42)),
          .op (some 44) none (.mv (.t 1)),
          .op (some 45) none (.bin 0 .add (.t 43) (.t 44)),
          .op (some 46) none (.call 90 [(true, (.t 41)), (false, (.t 45))] (some none)),
          .op (some 47) none (.mv (.t 0)),
          .op (some 48) none (.len false (.t 47)),
          .op (some 49) none (.mv (.t 1)),
          .op (some 50) none (.call 142 [(true, (.t 46)), (false, (.t 48)), (false, (.t 49))] (some none)),
          .op (some 4) none (.mv (.t 50))] [4])
        .ret))))

def v93_0 : VC :=
    (.seq
     (.region [.op (some 9) none (.bin 0 .lss (.t 8) (.t 7))] [0, 1, 7, 8, 9])
     (.seq
      (.cond (.t 9)
       .skip
       (.exit 0))
      (.seq
       (.block 1
        (.seq
         (.region [.op (some 10) none (.mv (.t 8)),
           .op (some 5) none (.mv (.t 10))] [0, 1, 5, 7, 8])
         (.seq
          (.region [.op (some 11) none (.mv (.t 1)),
            .op (some 12) none (.mv (.t 0)),
            .op (some 13) none (.mv (.t 5)),
            .op (some 14) none (.iad 1 (.t 12) (.t 13)),
            .op (some 15) none (.load none (.t 14)),
            .op (some 16) none (.callv (.t 11) [(false, (.t 15))] none)] [0, 1, 5, 7, 8, 16])
          (.cond (.t 16)
           (.seq
            (.region [.op (some 17) none (.mv (.t 5)),
              .op (some 4) none (.mv (.t 17))] [4])
            .ret)
           .skip))))
       (.region [.op (some 18) none (.bin 0 .add (.t 8) (.c (.int .i64 1))),
         .op (some 8) none (.mv (.t 18))] [0, 1, 7, 8]))))
/-- slices.IndexFunc[schisma/api.Row,int] -/
def v93 : VFun where
  params := 2
  results := [.tmp 4]
  fin := []
  thr := false
  body :=
    (.seq
     (.region [.op (some 4) none (.mv (.c (.int .i64 0)))] [0, 1])
     (.seq
      (.seq
       (.region [.op (some 6) none (.mv (.t 0)),
         .op (some 7) none (.len false (.t 6)),
         .op (some 8) none (.mv (.c (.int .i64 0)))] [0, 1, 7, 8])
       (.block 0
        (.loop v93_0)))
      (.seq
       (.region [.op (some 4) none (.mv (.c (.int .i64 (-1))))] [4])
       .ret)))

/-- schisma/whole.Add -/
def v94 : VFun where
  params := 2
  results := [.tmp 4]
  fin := []
  thr := false
  body :=
    (.seq
     (.region [.op (some 4) none (.mv (.c (sI [])))] [0, 1])
     (.seq
      (.seq
       (.region [.op (some 16) none (.mv (.t 0)),
         .op (some 17) none (.call 143 [(false, (.t 16)), (false, (.c (.int .i64 18)))] none),
         .op (some 15) none (.mv (.t 17)),
         .op (some 18) none (.ext (.t 15) 0),
         .op (some 19) none (.ext (.t 15) 1),
         .op (some 5) none (.mv (.t 18)),
         .op (some 6) none (.mv (.t 19))] [0, 1, 5, 6])
       (.seq
        (.region [.op (some 20) none (.mv (.t 6))] [0, 1, 5, 20])
        (.cond (.t 20)
         (.seq
          (.region [.op (some 22) none (.mv (.t 1)),
            .op (some 23) none (.call 143 [(false, (.t 22)), (false, (.c (.int .i64 18)))] none),
            .op (some 21) none (.mv (.t 23)),
            .op (some 24) none (.ext (.t 21) 0),
            .op (some 25) none (.ext (.t 21) 1),
            .op (some 7) none (.mv (.t 24)),
            .op (some 8) none (.mv (.t 25))] [0, 1, 5, 7, 8])
          (.seq
           (.region [.op (some 26) none (.mv (.t 8))] [0, 1, 5, 7, 26])
           (.cond (.t 26)
            (.seq
             (.region [.op (some 27) none (.mv (.t 5)),
               .op (some 28) none (.mv (.t 7)),
               .op (some 29) none (.bin 0 .add (.t 27) (.t 28)),
               .op (some 30) none (.call 96 [(false, (.t 29))] none),
               .op (some 4) none (.mv (.t 30))] [4])
             .ret)
            .skip)))
         .skip)))
      (.seq
       (.region [.op (some 32) none (.mv (.t 0)),
         .op (some 33) none (.call 144 [(false, (.t 32))] none),
         .op (some 31) none (.mv (.t 33)),
         .op (some 34) none (.ext (.t 31) 0),
         .op (some 35) none (.ext (.t 31) 1),
         .op (some 9) none (.mv (.t 34)),
         .op (some 10) none (.mv (.t 35))] [1, 9, 10])
       (.seq
        (.region [.op (some 37) none (.mv (.t 1)),
          .op (some 38) none (.call 144 [(false, (.t 37))] none),
          .op (some 36) none (.mv (.t 38)),
          .op (some 39) none (.ext (.t 36) 0),
          .op (some 40) none (.ext (.t 36) 1),
          .op (some 11) none (.mv (.t 39)),
          .op (some 12) none (.mv (.t 40))] [9, 10, 11, 12])
        (.seq
         (.seq
          (.region [.op (some 41) none (.mv (.t 9)),
            .op (some 42) none (.mv (.t 11)),
            .op (some 43) none (.bin 1 .eql (.t 41) (.t 42))] [9, 10, 11, 12, 43])
          (.cond (.t 43)
           (.seq
            (.region [.op (some 44) none (.mv (.t 9)),
              .op (some 45) none (.mv (.t 10)),
              .op (some 46) none (.mv (.t 12)),
              .op (some 47) none (.call 146 [(false, (.t 45)), (false, (.t 46))] none),
              .op (some 48) none (.call 145 [(false, (.t 44)), (false, (.t 47))] none),
              .op (some 4) none (.mv (.t 48))] [4])
            .ret)
           .skip))
         (.seq
          (.seq
           (.region [.op (some 49) none (.mv (.t 10)),
             .op (some 50) none (.mv (.t 12)),
             .op (some 51) none (.call 147 [(false, (.t 49)), (false, (.t 50))] none),
             .op (some 52) none (.bin 0 .lss (.t 51) (.c (.int .i64 0)))] [9, 10, 11, 12, 52])
           (.cond (.t 52)
            (.region [.op (some 53) none (.mv (.t 11)),
              .op (some 54) none (.mv (.t 12)),
              .op (some 55) none (.mv (.t 10)),
              .op (some 9) none (.mv (.t 53)),
              .op (some 10) none (.mv (.t 54)),
              .op (some 12) none (.mv (.t 55))] [9, 10, 12])
            .skip))
          (.seq
           (.region [.op (some 57) none (.mv (.t 10)),
             .op (some 58) none (.mv (.t 12)),
             .op (some 59) none (.call 148 [(false, (.t 57)), (false, (.t 58))] none),
             .op (some 56) none (.mv (.t 59)),
             .op (some 60) none (.ext (.t 56) 0),
             .op (some 61) none (.ext (.t 56) 1),
             .op (some 13) none (.mv (.t 60)),
             .op (some 14) none (.mv (.t 61))] [9, 13])
           (.seq
            (.region [.op (some 62) none (.mv (.t 9)),
              .op (some 63) none (.mv (.t 13)),
              .op (some 64) none (.call 145 [(false, (.t 62)), (false, (.t 63))] none),
              .op (some 4) none (.mv (.t 64))] [4])
            .ret))))))))

/-- schisma/whole.Mul -/
def v95 : VFun where
  params := 2
  results := [.tmp 4]
  fin := []
  thr := false
  body :=
    (.seq
     (.region [.op (some 4) none (.mv (.c (sI [])))] [0, 1])
     (.seq
      (.seq
       (.region [.op (some 14) none (.mv (.t 0)),
         .op (some 15) none (.call 143 [(false, (.t 14)), (false, (.c (.int .i64 9)))] none),
         .op (some 13) none (.mv (.t 15)),
         .op (some 16) none (.ext (.t 13) 0),
         .op (some 17) none (.ext (.t 13) 1),
         .op (some 5) none (.mv (.t 16)),
         .op (some 6) none (.mv (.t 17))] [0, 1, 5, 6])
       (.seq
        (.region [.op (some 18) none (.mv (.t 6))] [0, 1, 5, 18])
        (.cond (.t 18)
         (.seq
          (.region [.op (some 20) none (.mv (.t 1)),
            .op (some 21) none (.call 143 [(false, (.t 20)), (false, (.c (.int .i64 9)))] none),
            .op (some 19) none (.mv (.t 21)),
            .op (some 22) none (.ext (.t 19) 0),
            .op (some 23) none (.ext (.t 19) 1),
            .op (some 7) none (.mv (.t 22)),
            .op (some 8) none (.mv (.t 23))] [0, 1, 5, 7, 8])
          (.seq
           (.region [.op (some 24) none (.mv (.t 8))] [0, 1, 5, 7, 24])
           (.cond (.t 24)
            (.seq
             (.region [.op (some 25) none (.mv (.t 5)),
               .op (some 26) none (.mv (.t 7)),
               .op (some 27) none (.bin 0 .mul (.t 25) (.t 26)),
               .op (some 28) none (.call 96 [(false, (.t 27))] none),
               .op (some 4) none (.mv (.t 28))] [4])
             .ret)
            .skip)))
         .skip)))
      (.seq
       (.region [.op (some 30) none (.mv (.t 0)),
         .op (some 31) none (.call 144 [(false, (.t 30))] none),
         .op (some 29) none (.mv (.t 31)),
         .op (some 32) none (.ext (.t 29) 0),
         .op (some 33) none (.ext (.t 29) 1),
         .op (some 9) none (.mv (.t 32)),
         .op (some 10) none (.mv (.t 33))] [1, 9, 10])
       (.seq
        (.region [.op (some 35) none (.mv (.t 1)),
          .op (some 36) none (.call 144 [(false, (.t 35))] none),
          .op (some 34) none (.mv (.t 36)),
          .op (some 37) none (.ext (.t 34) 0),
          .op (some 38) none (.ext (.t 34) 1),
          .op (some 11) none (.mv (.t 37)),
          .op (some 12) none (.mv (.t 38))] [9, 10, 11, 12])
        (.seq
         (.region [.op (some 39) none (.mv (.t 9)),
           .op (some 40) none (.mv (.t 11)),
           .op (some 41) none (.bin 1 .neq (.t 39) (.t 40)),
           .op (some 42) none (.mv (.t 10)),
           .op (some 43) none (.mv (.t 12)),
           .op (some 44) none (.call 149 [(false, (.t 42)), (false, (.t 43))] none),
           .op (some 45) none (.call 145 [(false, (.t 41)), (false, (.t 44))] none),
           .op (some 4) none (.mv (.t 45))] [4])
         .ret)))))

/-- schisma/whole.Of -/
def v96 : VFun where
  params := 1
  results := [.tmp 2]
  fin := []
  thr := false
  body :=
    (.seq
     (.region [.op (some 2) none (.mv (.c (sI [])))] [0])
     (.seq
      (.region [.op (some 3) none (.mv (.t 0)),
        .op (some 4) none (.call 127 [(false, (.t 3))] none),
        .op (some 2) none (.mv (.t 4))] [2])
      .ret))

def v97_0 : VC :=
    (.seq
     (.region [.op (some 9) none (.bin 0 .lss (.t 8) (.t 7))] [0, 2, 6, 7, 8, 9])
     (.seq
      (.cond (.t 9)
       .skip
       (.exit 0))
      (.seq
       (.block 1
        (.seq
         (.region [.op (some 10) none (.mv (.t 8)),
           .op (some 11) none (.iad 1 (.t 6) (.t 8)),
           .op (some 12) none (.load none (.t 11)),
           .op (some 4) none (.mv (.t 10)),
           .op (some 5) none (.mv (.t 12))] [0, 2, 4, 5, 6, 7, 8])
         (.seq
          (.region [.op (some 13) none (.mv (.t 0)),
            .op (some 14) none (.mv (.t 5)),
            .op (some 15) none (.load none (.t 2)),
            .op (some 16) none (.mv (.t 4)),
            .op (some 17) none (.iad 1 (.t 15) (.t 16)),
            .op (some 18) none (.load none (.t 17)),
            .op (some 19) none (.callv (.t 13) [(false, (.t 14)), (false, (.t 18))] none),
            .op (some 20) none (.un .not (.t 19))] [0, 2, 6, 7, 8, 20])
          (.cond (.t 20)
           .ret
           .skip))))
       (.region [.op (some 21) none (.bin 0 .add (.t 8) (.c (.int .i64 1))),
         .op (some 8) none (.mv (.t 21))] [0, 2, 6, 7, 8]))))
/-- schisma/row.pairs$1 -/
def v97 : VFun where
  params := 3
  results := []
  fin := []
  thr := false
  body :=
    (.seq
     (.region [.op (some 6) none (.load none (.t 1)),
       .op (some 7) none (.len false (.t 6)),
       .op (some 8) none (.mv (.c (.int .i64 0)))] [0, 2, 6, 7, 8])
     (.block 0
      (.loop v97_0)))

def v98_0a : VC :=
    (.region [.op (some 5) none (.mv (.t 7))] [2, 5])
def v98_0 : VC :=
    (.block 1
     (.region [.op (some 8) none (.load none (.t 2)),
       .op (some 9) none (.mv (.t 5)),
       .op (some 10) none (.bsl 1 1 [.int .i64 0] [(0, 1, (.t 9))] none),
       .pre (.ownt 8 1 none) (.pre (.junk 2 0) (.op (some 11) none (.app 1 8 false (.t 8) (.t 10) none))),
       .op none none (.store 1 (.t 2) (.t 11))] []))
/-- slices.AppendSeq[[]int,int] -/
def v98 : VFun where
  params := 2
  results := [.tmp 4]
  fin := [.frz 4]
  thr := false
  body :=
    (.seq
     (.region [.op (some 2) none (.box (.t 0) (some 100)),
       .op (some 4) none (.mv (.c (.nils 1)))] [1, 2, 4])
     (.seq
      (.seq
       (.region [.op (some 6) none (.mv (.t 1))] [2, 4, 6])
       (.block 0
        (.rangef (.t 6) [7] v98_0a v98_0)))
      (.seq
       (.region [.op (some 12) none (.load none (.t 2)),
         .op (some 4) none (.mv (.t 12))] [4])
       .ret)))

def v99_0 : VC :=
    (.seq
     (.seq
      (.region [.op (some 7) none (.mv (.t 4)),
        .op (some 8) none (.load none (.t 1)),
        .op (some 9) none (.bin 0 .leq (.t 7) (.t 8))] [0, 1, 2, 4, 9])
      (.cond (.t 9)
       .skip
       (.exit 0)))
     (.seq
      (.block 1
       (.seq
        (.region [.op (some 13) none (.fad 0 (.t 2)),
          .op (some 14) none (.load none (.t 13)),
          .op (some 15) none (.mv (.t 4)),
          .op (some 16) none (.call 14 [(false, (.t 14)), (false, (.t 15))] none),
          .op (some 12) none (.mv (.t 16)),
          .op (some 17) none (.ext (.t 12) 0),
          .op (some 18) none (.ext (.t 12) 1),
          .op (some 5) none (.mv (.t 17)),
          .op (some 6) none (.mv (.t 18))] [0, 1, 2, 4, 5, 6])
        (.seq
         (.region [.op (some 19) none (.mv (.t 6)),
           .op (some 20) none (.bin 0 .eql (.t 19) (.c (.int .i64 0))),
           .op (some 21) none (.mv (.t 20)),
           .op (some 22) (some (21, true)) (.load (some 3) (.t 2)),
           .op (some 23) (some (21, true)) (.mv (.t 5)),
           .op (some 24) (some (21, true)) (.call 57 [(false, (.t 22)), (false, (.t 23))] none),
           .op (some 25) none (.pick (.t 21) (.t 24) (.c (.bool false))),
           .op (some 26) none (.mv (.t 25)),
           .op (some 27) (some (26, true)) (.mv (.t 0)),
           .op (some 28) (some (26, true)) (.mv (.t 4)),
           .op (some 29) (some (26, true)) (.callv (.t 27) [(false, (.t 28))] none),
           .op (some 30) (some (26, true)) (.un .not (.t 29)),
           .op (some 31) none (.pick (.t 26) (.t 30) (.c (.bool false)))] [0, 1, 2, 4, 31])
         (.cond (.t 31)
          .ret
          .skip))))
      (.region [.op (some 10) none (.mv (.t 4)),
        .op (some 11) none (.bin 0 .add (.t 10) (.c (.int .i64 1))),
        .op (some 4) none (.mv (.t 11))] [0, 1, 2, 4])))
/-- schisma/support.divisions$1 -/
def v99 : VFun where
  params := 3
  results := []
  fin := []
  thr := false
  body :=
    (.seq
     (.region [.op (some 4) none (.mv (.c (.int .i64 1)))] [0, 1, 2, 4])
     (.block 0
      (.loop v99_0)))

/-- schisma/hermite.IsForm -/
def v100 : VFun where
  params := 1
  results := [.tmp 2, .tmp 3]
  fin := []
  thr := false
  body :=
    (.seq
     (.region [.op (some 2) none (.mv (.c (.bool false))),
       .op (some 3) none (.mv (.c (.int .i64 0)))] [0])
     (.seq
      (.seq
       (.region [.op (some 5) none (.mv (.t 0)),
         .op (some 6) none (.call 150 [(false, (.t 5))] none),
         .op (some 4) none (.mv (.t 6))] [0, 4])
       (.seq
        (.region [.op (some 7) none (.mv (.t 4)),
          .op (some 8) none (.bin 0 .neq (.t 7) (.c (.int .i64 0)))] [0, 4, 8])
        (.cond (.t 8)
         (.seq
          (.region [.op (some 9) none (.mv (.t 4)),
            .op (some 2) none (.mv (.c (.bool false))),
            .op (some 3) none (.mv (.t 9))] [2, 3])
          .ret)
         .skip)))
      (.seq
       (.region [.op (some 10) none (.mv (.t 0)),
         .op (some 11) none (.call 151 [(false, (.t 10))] none),
         .op (some 2) none (.mv (.t 11)),
         .op (some 3) none (.mv (.c (.int .i64 0)))] [2, 3])
       .ret)))

def v101_0 : VC :=
    (.seq
     (.region [.op (some 18) none (.bin 0 .lss (.t 17) (.t 16))] [1, 2, 15, 16, 17, 18])
     (.seq
      (.cond (.t 18)
       .skip
       (.exit 0))
      (.seq
       (.block 1
        (.seq
         (.region [.op (some 19) none (.mv (.t 17)),
           .op (some 20) none (.iad 1 (.t 15) (.t 17)),
           .op (some 21) none (.load none (.t 20)),
           .op (some 7) none (.mv (.t 19)),
           .op (some 8) none (.mv (.t 21))] [1, 2, 7, 8, 15, 16, 17])
         (.seq
          (.region [.op (some 22) none (.mv (.t 1)),
            .op (some 23) none (.mv (.t 7)),
            .op (some 24) none (.iad 1 (.t 22) (.t 23)),
            .op (some 25) none (.load none (.t 24)),
            .op (some 9) none (.mv (.t 25))] [1, 2, 8, 9, 15, 16, 17])
          (.seq
           (.region [.op (some 26) none (.mv (.t 2)),
             .op (some 27) none (.mv (.t 8)),
             .op (some 28) none (.mv (.t 9)),
             .op (some 29) none (.callv (.t 26) [(false, (.t 27)), (false, (.t 28))] none),
             .op (some 30) none (.un .not (.t 29))] [1, 2, 15, 16, 17, 30])
           (.cond (.t 30)
            (.seq
             (.region [.op (some 6) none (.mv (.c (.bool false)))] [6])
             .ret)
            .skip)))))
       (.region [.op (some 31) none (.bin 0 .add (.t 17) (.c (.int .i64 1))),
         .op (some 17) none (.mv (.t 31))] [1, 2, 15, 16, 17]))))
/-- slices.EqualFunc[schisma/api.Matrix,schisma/api.Matrix,schisma/api.Row,schisma/api.Row] -/
def v101 : VFun where
  params := 3
  results := [.tmp 6]
  fin := []
  thr := false
  body :=
    (.seq
     (.region [.op (some 6) none (.mv (.c (.bool false)))] [0, 1, 2])
     (.seq
      (.seq
       (.region [.op (some 10) none (.mv (.t 0)),
         .op (some 11) none (.len false (.t 10)),
         .op (some 12) none (.mv (.t 1)),
         .op (some 13) none (.len false (.t 12)),
         .op (some 14) none (.bin 0 .neq (.t 11) (.t 13))] [0, 1, 2, 14])
       (.cond (.t 14)
        (.seq
         (.region [.op (some 6) none (.mv (.c (.bool false)))] [6])
         .ret)
        .skip))
      (.seq
       (.seq
        (.region [.op (some 15) none (.mv (.t 0)),
          .op (some 16) none (.len false (.t 15)),
          .op (some 17) none (.mv (.c (.int .i64 0)))] [1, 2, 15, 16, 17])
        (.block 0
         (.loop v101_0)))
       (.seq
        (.region [.op (some 6) none (.mv (.c (.bool true)))] [6])
        .ret))))

/-- schisma/row.Equal -/
def v102 : VFun where
  params := 2
  results := [.tmp 4]
  fin := []
  thr := false
  body :=
    (.seq
     (.region [.op (some 4) none (.mv (.c (.bool false)))] [0, 1])
     (.seq
      (.region [.op (some 5) none (.mv (.t 0)),
        .op (some 6) none (.mv (.t 1)),
        .op (some 7) none (.call 104 [(false, (.t 5)), (false, (.t 6))] none),
        .op (some 4) none (.mv (.t 7))] [4])
      .ret))

/-- schisma/temperament.same$1 -/
def v103 : VFun where
  params := 2
  results := [.tmp 4]
  fin := []
  thr := false
  body :=
    (.seq
     (.region [.op (some 4) none (.mv (.c (.bool false)))] [0, 1])
     (.seq
      (.region [.op (some 5) none (.mv (.t 0)),
        .op (some 6) none (.mv (.t 1)),
        .op (some 7) none (.call 104 [(false, (.t 5)), (false, (.t 6))] none),
        .op (some 4) none (.mv (.t 7))] [4])
      .ret))

def v104_0 : VC :=
    (.seq
     (.region [.op (some 14) none (.bin 0 .lss (.t 13) (.t 12))] [0, 1, 12, 13, 14])
     (.seq
      (.cond (.t 14)
       .skip
       (.exit 0))
      (.seq
       (.block 1
        (.seq
         (.region [.op (some 15) none (.mv (.t 13)),
           .op (some 5) none (.mv (.t 15))] [0, 1, 5, 12, 13])
         (.seq
          (.region [.op (some 16) none (.mv (.t 0)),
            .op (some 17) none (.mv (.t 5)),
            .op (some 18) none (.iad 1 (.t 16) (.t 17)),
            .op (some 19) none (.load none (.t 18)),
            .op (some 20) none (.mv (.t 1)),
            .op (some 21) none (.mv (.t 5)),
            .op (some 22) none (.iad 1 (.t 20) (.t 21)),
            .op (some 23) none (.load none (.t 22)),
            .op (some 24) none (.bin 0 .neq (.t 19) (.t 23))] [0, 1, 12, 13, 24])
          (.cond (.t 24)
           (.seq
            (.region [.op (some 4) none (.mv (.c (.bool false)))] [4])
            .ret)
           .skip))))
       (.region [.op (some 25) none (.bin 0 .add (.t 13) (.c (.int .i64 1))),
         .op (some 13) none (.mv (.t 25))] [0, 1, 12, 13]))))
/-- slices.Equal[schisma/api.Row,int] -/
def v104 : VFun where
  params := 2
  results := [.tmp 4]
  fin := []
  thr := false
  body :=
    (.seq
     (.region [.op (some 4) none (.mv (.c (.bool false)))] [0, 1])
     (.seq
      (.seq
       (.region [.op (some 6) none (.mv (.t 0)),
         .op (some 7) none (.len false (.t 6)),
         .op (some 8) none (.mv (.t 1)),
         .op (some 9) none (.len false (.t 8)),
         .op (some 10) none (.bin 0 .neq (.t 7) (.t 9))] [0, 1, 10])
       (.cond (.t 10)
        (.seq
         (.region [.op (some 4) none (.mv (.c (.bool false)))] [4])
         .ret)
        .skip))
      (.seq
       (.seq
        (.region [.op (some 11) none (.mv (.t 0)),
          .op (some 12) none (.len false (.t 11)),
          .op (some 13) none (.mv (.c (.int .i64 0)))] [0, 1, 12, 13])
        (.block 0
         (.loop v104_0)))
       (.seq
        (.region [.op (some 4) none (.mv (.c (.bool true)))] [4])
        .ret))))

/-- schisma/hermite.open -/
def v105 : VFun where
  params := 2
  results := [.tmp 4]
  fin := []
  thr := false
  body :=
    (.seq
     (.region [.op (some 4) none (.mv (.c (.int .i64 0)))] [0, 1])
     (.seq
      (.seq
       (.region [.op (some 9) none (.mv (.t 0)),
         .op (some 10) none (.call 100 [(false, (.t 9))] none),
         .op (some 8) none (.mv (.t 10)),
         .op (some 11) none (.ext (.t 8) 0),
         .op (some 12) none (.ext (.t 8) 1),
         .op (some 5) none (.mv (.t 11)),
         .op (some 6) none (.mv (.t 12))] [0, 1, 5, 6])
       (.seq
        (.region [.op (some 13) none (.mv (.t 6)),
          .op (some 14) none (.bin 0 .neq (.t 13) (.c (.int .i64 0)))] [0, 1, 5, 6, 14])
        (.cond (.t 14)
         (.seq
          (.region [.op (some 15) none (.mv (.t 6)),
            .op (some 4) none (.mv (.t 15))] [4])
          .ret)
         (.seq
          (.region [.op (some 16) none (.mv (.t 5)),
            .op (some 17) none (.un .not (.t 16))] [0, 1, 17])
          (.cond (.t 17)
           (.seq
            (.region [.op (some 4) none (.mv (.c (.int .i64 7)))] [4])
            .ret)
           .skip)))))
      (.seq
       (.seq
        (.region [.op (some 18) none (.mv (.t 1)),
          .op (some 19) none (.call 22 [(false, (.t 18))] none),
          .op (some 7) none (.mv (.t 19))] [0, 1, 7])
        (.seq
         (.region [.op (some 20) none (.mv (.t 7)),
           .op (some 21) none (.bin 0 .neq (.t 20) (.c (.int .i64 0)))] [0, 1, 7, 21])
         (.cond (.t 21)
          (.seq
           (.region [.op (some 22) none (.mv (.t 7)),
             .op (some 4) none (.mv (.t 22))] [4])
           .ret)
          .skip)))
       (.seq
        (.seq
         (.region [.op (some 23) none (.mv (.t 0)),
           .op (some 24) none (.len false (.t 23)),
           .op (some 25) none (.bin 0 .gtr (.t 24) (.c (.int .i64 0))),
           .op (some 26) none (.mv (.t 25)),
           .op (some 27) (some (26, true)) (.mv (.t 1)),
           .op (some 28) (some (26, true)) (.len false (.t 27)),
           .op (some 29) (some (26, true)) (.mv (.t 0)),
           .op (some 30) (some (26, true)) (.iad 1 (.t 29) (.c (.int .i64 0))),
           .op (some 31) (some (26, true)) (.load none (.t 30)),
           .op (some 32) (some (26, true)) (.len false (.t 31)),
           .op (some 33) (some (26, true)) (.bin 0 .neq (.t 28) (.t 32)),
           .op (some 34) none (.pick (.t 26) (.t 33) (.c (.bool false)))] [34])
         (.cond (.t 34)
          (.seq
           (.region [.op (some 4) none (.mv (.c (.int .i64 5)))] [4])
           .ret)
          .skip))
        (.seq
         (.region [.op (some 4) none (.mv (.c (.int .i64 0)))] [4])
         .ret)))))

/-- schisma/hermite.contains -/
def v106 : VFun where
  params := 2
  results := [.tmp 4, .tmp 5]
  fin := [.frz 4]
  thr := false
  body :=
    (.seq
     (.region [.op (some 4) none (.mv (.c (.nils 1))),
       .op (some 5) none (.mv (.c (.bool false)))] [0, 1])
     (.seq
      (.region [.op (some 9) none (.mv (.t 0)),
        .op (some 10) none (.mv (.t 1)),
        .pre (.frz 9) (.pre (.frz 10) (.op (some 11) none (.call 152 [(false, (.t 9)), (false, (.t 10))] none))),
        .op (some 8) none (.mv (.t 11)),
        .op (some 12) none (.ext (.t 8) 0),
        .op (some 13) none (.ext (.t 8) 1),
        .op (some 6) none (.mv (.t 12)),
        .op (some 7) none (.mv (.t 13))] [6, 7])
      (.seq
       (.region [.op (some 14) none (.mv (.t 7)),
         .op (some 15) none (.mv (.t 6)),
         .op (some 16) none (.call 76 [(false, (.t 15)), (false, (.f 153))] none),
         .op (some 17) none (.un .not (.t 16)),
         .op (some 4) none (.mv (.t 14)),
         .op (some 5) none (.mv (.t 17))] [4, 5])
       .ret)))

def v107_0 : VC :=
    (.seq
     (.region [.op (some 15) none (.bin 0 .lss (.t 14) (.t 13))] [4, 12, 13, 14, 15])
     (.seq
      (.cond (.t 15)
       .skip
       (.exit 0))
      (.seq
       (.block 1
        (.seq
         (.region [.op (some 16) none (.iad 1 (.t 12) (.t 14)),
           .op (some 17) none (.load none (.t 16)),
           .op (some 6) none (.mv (.t 17))] [4, 6, 12, 13, 14])
         (.seq
          (.region [.op (some 19) none (.mv (.t 6)),
            .op (some 20) none (.call 116 [(false, (.t 19))] none),
            .op (some 18) none (.mv (.t 20)),
            .op (some 21) none (.ext (.t 18) 0),
            .op (some 22) none (.ext (.t 18) 1),
            .op (some 7) none (.mv (.t 21)),
            .op (some 8) none (.mv (.t 22))] [4, 7, 8, 12, 13, 14])
          (.seq
           (.seq
            (.region [.op (some 23) none (.mv (.t 8)),
              .op (some 24) none (.un .not (.t 23)),
              .op (some 25) none (.mv (.t 24)),
              .op (some 26) (some (25, false)) (.mv (.t 7)),
              .op (some 27) (some (25, false)) (.bin 0 .gtr (.t 26) (.c (.int .i64 1000000000))),
              .op (some 28) none (.pick (.t 25) (.c (.bool true)) (.t 27)),
              .op (some 29) none (.mv (.t 28)),
              .op (some 30) (some (29, false)) (.mv (.t 7)),
              .op (some 31) (some (29, false)) (.bin 0 .lss (.t 30) (.c (.int .i64 (-1000000000)))),
              .op (some 32) none (.pick (.t 29) (.c (.bool true)) (.t 31))] [4, 7, 12, 13, 14, 32])
            (.cond (.t 32)
             (.seq
              (.region [.op (some 2) none (.mv (.c (.nils 1))),
                .op (some 3) none (.mv (.c (.int .i64 4)))] [2, 3])
              .ret)
             .skip))
           (.region [.op (some 33) none (.mv (.t 4)),
             .op (some 34) none (.mv (.t 7)),
             .op (some 35) none (.bsl 1 1 [.int .i64 0] [(0, 1, (.t 34))] (some 101)),
             .op (some 36) none (.app 1 8 false (.t 33) (.t 35) (some 102)),
             .op (some 4) none (.mv (.t 36))] [4, 12, 13, 14])))))
       (.region [.op (some 37) none (.bin 0 .add (.t 14) (.c (.int .i64 1))),
         .op (some 14) none (.mv (.t 37))] [4, 12, 13, 14]))))
/-- schisma/hermite.small -/
def v107 : VFun where
  params := 1
  results := [.tmp 2, .tmp 3]
  fin := [.frz 2]
  thr := false
  body :=
    (.seq
     (.region [.op (some 2) none (.mv (.c (.nils 1))),
       .op (some 3) none (.mv (.c (.int .i64 0)))] [0])
     (.seq
      (.region [.op (some 9) none (.mv (.t 0)),
        .op (some 10) none (.len false (.t 9)),
        .op (some 11) none (.mks 1 8 [.int .i64 0] (.c (.int .i64 0)) (.t 10) (some 100)),
        .op (some 4) none (.mv (.t 11))] [0, 4])
      (.seq
       (.seq
        (.region [.op (some 12) none (.mv (.t 0)),
          .op (some 13) none (.len false (.t 12)),
          .op (some 14) none (.mv (.c (.int .i64 0)))] [4, 12, 13, 14])
        (.block 0
         (.loop v107_0)))
       (.seq
        (.region [.op (some 38) none (.mv (.t 4)),
          .op (some 2) none (.mv (.t 38)),
          .op (some 3) none (.mv (.c (.int .i64 0)))] [2, 3])
        .ret))))

/-- schisma/temperament.from -/
def v108 : VFun where
  params := 2
  results := [.tmp 4, .tmp 5, .tmp 6]
  fin := [.frz 4, .frz 5]
  thr := false
  body :=
    (.seq
     (.region [.op (some 4) none (.mv (.c (.nils 1))),
       .op (some 5) none (.mv (.c (.nils 1))),
       .op (some 6) none (.mv (.c (.int .i64 0)))] [0, 1])
     (.seq
      (.seq
       (.region [.op (some 11) none (.mv (.t 0)),
         .op (some 12) none (.call 44 [(false, (.t 11))] none),
         .op (some 7) none (.mv (.t 12))] [0, 1, 7])
       (.seq
        (.region [.op (some 13) none (.mv (.t 7)),
          .op (some 14) none (.bin 0 .neq (.t 13) (.c (.int .i64 0)))] [0, 1, 7, 14])
        (.cond (.t 14)
         (.seq
          (.region [.op (some 15) none (.mv (.t 7)),
            .op (some 4) none (.mv (.c (.nils 1))),
            .op (some 5) none (.mv (.c (.nils 1))),
            .op (some 6) none (.mv (.t 15))] [4, 5, 6])
          .ret)
         .skip)))
      (.seq
       (.region [.op (some 17) none (.mv (.t 0)),
         .op (some 18) none (.len false (.t 17)),
         .op (some 19) none (.mv (.t 1)),
         .pre (.frz 19) (.op (some 20) none (.call 48 [(false, (.t 18)), (false, (.t 19))] none)),
         .op (some 16) none (.mv (.t 20)),
         .op (some 21) none (.ext (.t 16) 0),
         .op (some 22) none (.ext (.t 16) 1),
         .op (some 8) none (.alloc [.int .i64 0, .nils 1] (some 100)),
         .op none none (.store 2 (.t 8) (.t 21)),
         .op (some 6) none (.mv (.t 22))] [6, 8])
       (.seq
        (.seq
         (.region [.op (some 23) none (.mv (.t 6)),
           .op (some 24) none (.bin 0 .neq (.t 23) (.c (.int .i64 0)))] [6, 8, 24])
         (.cond (.t 24)
          (.seq
           (.region [.op (some 25) none (.mv (.t 6)),
             .op (some 4) none (.mv (.c (.nils 1))),
             .op (some 5) none (.mv (.c (.nils 1))),
             .op (some 6) none (.mv (.t 25))] [4, 5, 6])
           .ret)
          .skip))
        (.seq
         (.region [.op (some 27) none (.load (some 2) (.t 8)),
           .op (some 28) none (.call 50 [(false, (.t 27))] none),
           .op (some 26) none (.mv (.t 28)),
           .op (some 29) none (.ext (.t 26) 0),
           .op (some 30) none (.ext (.t 26) 1),
           .op (some 9) none (.alloc [.int .i64 0, .nils 1] (some 101)),
           .op none none (.store 2 (.t 9) (.t 29)),
           .op (some 6) none (.mv (.t 30))] [6, 8, 9])
         (.seq
          (.seq
           (.region [.op (some 31) none (.mv (.t 6)),
             .op (some 32) none (.bin 0 .neq (.t 31) (.c (.int .i64 0)))] [6, 8, 9, 32])
           (.cond (.t 32)
            (.seq
             (.region [.op (some 33) none (.mv (.t 6)),
               .op (some 4) none (.mv (.c (.nils 1))),
               .op (some 5) none (.mv (.c (.nils 1))),
               .op (some 6) none (.mv (.t 33))] [4, 5, 6])
             .ret)
            .skip))
          (.seq
           (.region [.op (some 35) none (.load (some 2) (.t 8)),
             .op (some 36) none (.call 49 [(false, (.t 35))] none),
             .op (some 34) none (.mv (.t 36)),
             .op (some 37) none (.ext (.t 34) 0),
             .op (some 38) none (.ext (.t 34) 1),
             .op (some 10) none (.alloc [.int .i64 0, .nils 1] (some 102)),
             .op none none (.store 2 (.t 10) (.t 37)),
             .op (some 6) none (.mv (.t 38))] [6, 9, 10])
           (.seq
            (.region [.op (some 39) none (.fad 1 (.t 9)),
              .op (some 40) none (.load none (.t 39)),
              .op (some 41) none (.fad 1 (.t 10)),
              .op (some 42) none (.load none (.t 41)),
              .op (some 43) none (.mv (.t 6)),
              .op (some 4) none (.mv (.t 40)),
              .op (some 5) none (.mv (.t 42)),
              .op (some 6) none (.mv (.t 43))] [4, 5, 6])
            .ret))))))))

/-- slices.Clone[schisma/api.Primes,int] -/
def v109 : VFun where
  params := 1
  results := [.tmp 2]
  fin := [.frz 2]
  thr := false
  body :=
    (.seq
     (.region [.op (some 2) none (.mv (.c (.nils 1)))] [0])
     (.seq
      (.seq
       (.region [.op (some 3) none (.mv (.t 0)),
         .op (some 4) none (.isnil false (.t 3))] [0, 4])
       (.cond (.t 4)
        (.seq
         (.region [.op (some 2) none (.mv (.c (.nils 1)))] [2])
         .ret)
        .skip))
      (.seq
       (.region [.op (some 5) none (.bsl 1 0 [] [] (some 100)),
         .op (some 6) none (.mv (.t 0)),
         .op (some 7) none (.app 1 8 false (.t 5) (.t 6) (some 101)),
         .op (some 2) none (.mv (.t 7))] [2])
       .ret)))

def v110_0 : VC :=
    (.seq
     (.region [.op (some 12) none (.bin 0 .lss (.t 11) (.t 10))] [3, 9, 10, 11, 12])
     (.seq
      (.cond (.t 12)
       .skip
       (.exit 0))
      (.seq
       (.block 1
        (.seq
         (.region [.op (some 13) none (.iad 1 (.t 9) (.t 11)),
           .op (some 14) none (.load none (.t 13)),
           .op (some 5) none (.mv (.t 14))] [3, 5, 9, 10, 11])
         (.region [.op (some 15) none (.mv (.t 3)),
           .op (some 16) none (.mv (.t 5)),
           .op (some 17) none (.call 96 [(false, (.t 16))] none),
           .op (some 18) none (.bsl 1 1 [sI []] [(0, 1, (.t 17))] (some 102)),
           .op (some 19) none (.app 1 16 false (.t 15) (.t 18) (some 103)),
           .op (some 3) none (.mv (.t 19))] [3, 9, 10, 11])))
       (.region [.op (some 20) none (.bin 0 .add (.t 11) (.c (.int .i64 1))),
         .op (some 11) none (.mv (.t 20))] [3, 9, 10, 11]))))
/-- schisma/lattice.longOf -/
def v110 : VFun where
  params := 1
  results := [.tmp 2]
  fin := []
  thr := false
  body :=
    (.seq
     (.region [.op (some 2) none (.nil 1 (some 100))] [0])
     (.seq
      (.region [.op (some 6) none (.mv (.t 0)),
        .op (some 7) none (.len false (.t 6)),
        .op (some 8) none (.mks 1 16 [sI []] (.c (.int .i64 0)) (.t 7) (some 101)),
        .op (some 3) none (.mv (.t 8))] [0, 3])
      (.seq
       (.seq
        (.region [.op (some 9) none (.mv (.t 0)),
          .op (some 10) none (.len false (.t 9)),
          .op (some 11) none (.mv (.c (.int .i64 0)))] [3, 9, 10, 11])
        (.block 0
         (.loop v110_0)))
       (.seq
        (.region [.op (some 21) none (.mv (.t 3)),
          .op (some 2) none (.mv (.t 21))] [2])
        .ret))))

/-- schisma/whole.DivMod -/
def v112 : VFun where
  params := 2
  results := [.tmp 4, .tmp 5, .tmp 6]
  fin := []
  thr := false
  body :=
    (.seq
     (.region [.op (some 4) none (.mv (.c (sI []))),
       .op (some 5) none (.mv (.c (sI []))),
       .op (some 6) none (.mv (.c (.int .i64 0)))] [0, 1])
     (.seq
      (.seq
       (.region [.op (some 19) none (.mv (.t 1)),
         .op (some 20) none (.bin 0 .eql (.t 19) (.c (sI [48])))] [0, 1, 20])
       (.cond (.t 20)
        (.seq
         (.region [.op (some 4) none (.mv (.c (sI []))),
           .op (some 5) none (.mv (.c (sI []))),
           .op (some 6) none (.mv (.c (.int .i64 17)))] [4, 5, 6])
         .ret)
        .skip))
      (.seq
       (.seq
        (.region [.op (some 22) none (.mv (.t 0)),
          .op (some 23) none (.call 143 [(false, (.t 22)), (false, (.c (.int .i64 18)))] none),
          .op (some 21) none (.mv (.t 23)),
          .op (some 24) none (.ext (.t 21) 0),
          .op (some 25) none (.ext (.t 21) 1),
          .op (some 7) none (.mv (.t 24)),
          .op (some 8) none (.mv (.t 25))] [0, 1, 7, 8])
        (.seq
         (.region [.op (some 26) none (.mv (.t 8))] [0, 1, 7, 26])
         (.cond (.t 26)
          (.seq
           (.region [.op (some 28) none (.mv (.t 1)),
             .op (some 29) none (.call 143 [(false, (.t 28)), (false, (.c (.int .i64 18)))] none),
             .op (some 27) none (.mv (.t 29)),
             .op (some 30) none (.ext (.t 27) 0),
             .op (some 31) none (.ext (.t 27) 1),
             .op (some 9) none (.mv (.t 30)),
             .op (some 10) none (.mv (.t 31))] [0, 1, 7, 9, 10])
           (.seq
            (.region [.op (some 32) none (.mv (.t 10))] [0, 1, 7, 9, 32])
            (.cond (.t 32)
             (.seq
              (.region [.op (some 33) none (.mv (.t 7)),
                .op (some 34) none (.mv (.t 9)),
                .op (some 35) none (.bin 0 .quo (.t 33) (.t 34)),
                .op (some 36) none (.mv (.t 7)),
                .op (some 37) none (.mv (.t 9)),
                .op (some 38) none (.bin 0 .rem (.t 36) (.t 37)),
                .op (some 11) none (.mv (.t 35)),
                .op (some 12) none (.mv (.t 38))] [9, 11, 12])
              (.seq
               (.seq
                (.region [.op (some 39) none (.mv (.t 12)),
                  .op (some 40) none (.bin 0 .neq (.t 39) (.c (.int .i64 0))),
                  .op (some 41) none (.mv (.t 40)),
                  .op (some 42) (some (41, true)) (.mv (.t 12)),
                  .op (some 43) (some (41, true)) (.bin 0 .lss (.t 42) (.c (.int .i64 0))),
                  .op (some 44) (some (41, true)) (.mv (.t 9)),
                  .op (some 45) (some (41, true)) (.bin 0 .lss (.t 44) (.c (.int .i64 0))),
                  .op (some 46) (some (41, true)) (.bin 1 .neq (.t 43) (.t 45)),
                  .op (some 47) none (.pick (.t 41) (.t 46) (.c (.bool false)))] [9, 11, 12, 47])
                (.cond (.t 47)
                 (.region [.op (some 48) none (.mv (.t 11)),
                   .op (some 49) none (.bin 0 .sub (.t 48) (.c (.int .i64 1))),
                   .op (some 50) none (.mv (.t 12)),
                   .op (some 51) none (.mv (.t 9)),
                   .op (some 52) none (.bin 0 .add (.t 50) (.t 51)),
                   .op (some 11) none (.mv (.t 49)),
                   .op (some 12) none (.mv (.t 52))] [11, 12])
                 .skip))
               (.seq
                (.region [.op (some 53) none (.mv (.t 11)),
                  .op (some 54) none (.call 96 [(false, (.t 53))] none),
                  .op (some 55) none (.mv (.t 12)),
                  .op (some 56) none (.call 96 [(false, (.t 55))] none),
                  .op (some 4) none (.mv (.t 54)),
                  .op (some 5) none (.mv (.t 56)),
                  .op (some 6) none (.mv (.c (.int .i64 0)))] [4, 5, 6])
                .ret)))
             .skip)))
          .skip)))
       (.seq
        (.region [.op (some 58) none (.mv (.t 0)),
          .op (some 59) none (.call 144 [(false, (.t 58))] none),
          .op (some 57) none (.mv (.t 59)),
          .op (some 60) none (.ext (.t 57) 0),
          .op (some 61) none (.ext (.t 57) 1),
          .op (some 13) none (.mv (.t 60)),
          .op (some 14) none (.mv (.t 61))] [1, 13, 14])
        (.seq
         (.region [.op (some 63) none (.mv (.t 1)),
           .op (some 64) none (.call 144 [(false, (.t 63))] none),
           .op (some 62) none (.mv (.t 64)),
           .op (some 65) none (.ext (.t 62) 0),
           .op (some 66) none (.ext (.t 62) 1),
           .op (some 15) none (.mv (.t 65)),
           .op (some 16) none (.mv (.t 66))] [13, 14, 15, 16])
         (.seq
          (.region [.op (some 68) none (.mv (.t 14)),
            .op (some 69) none (.mv (.t 16)),
            .op (some 70) none (.call 155 [(false, (.t 68)), (false, (.t 69))] none),
            .op (some 67) none (.mv (.t 70)),
            .op (some 71) none (.ext (.t 67) 0),
            .op (some 72) none (.ext (.t 67) 1),
            .op (some 73) none (.ext (.t 67) 2),
            .op (some 17) none (.mv (.t 71)),
            .op (some 18) none (.mv (.t 72)),
            .op (some 6) none (.mv (.t 73))] [6, 13, 15, 16, 17, 18])
          (.seq
           (.seq
            (.region [.op (some 74) none (.mv (.t 6)),
              .op (some 75) none (.bin 0 .neq (.t 74) (.c (.int .i64 0)))] [6, 13, 15, 16, 17, 18, 75])
            (.cond (.t 75)
             (.seq
              (.region [.op (some 76) none (.mv (.t 6)),
                .op (some 4) none (.mv (.c (sI []))),
                .op (some 5) none (.mv (.c (sI []))),
                .op (some 6) none (.mv (.t 76))] [4, 5, 6])
              .ret)
             .skip))
           (.seq
            (.seq
             (.region [.op (some 77) none (.mv (.t 13)),
               .op (some 78) none (.mv (.t 15)),
               .op (some 79) none (.bin 1 .neq (.t 77) (.t 78)),
               .op (some 80) none (.mv (.t 79)),
               .op (some 81) (some (80, true)) (.mv (.t 18)),
               .op (some 82) (some (80, true)) (.bin 0 .neq (.t 81) (.c (sI [48]))),
               .op (some 83) none (.pick (.t 80) (.t 82) (.c (.bool false)))] [13, 15, 16, 17, 18, 83])
             (.cond (.t 83)
              (.seq
               (.region [.op (some 84) none (.mv (.t 17)),
                 .op (some 85) none (.call 146 [(false, (.t 84)), (false, (.c (sI [49])))] none),
                 .op (some 17) none (.mv (.t 85))] [13, 15, 16, 17, 18])
               (.region [.op (some 87) none (.mv (.t 16)),
                 .op (some 88) none (.mv (.t 18)),
                 .op (some 89) none (.call 148 [(false, (.t 87)), (false, (.t 88))] none),
                 .op (some 86) none (.mv (.t 89)),
                 .op (some 90) none (.ext (.t 86) 0),
                 .op (some 91) none (.ext (.t 86) 1),
                 .op (some 18) none (.mv (.t 90))] [13, 15, 17, 18]))
              .skip))
            (.seq
             (.region [.op (some 92) none (.mv (.t 13)),
               .op (some 93) none (.mv (.t 15)),
               .op (some 94) none (.bin 1 .neq (.t 92) (.t 93)),
               .op (some 95) none (.mv (.t 17)),
               .op (some 96) none (.call 145 [(false, (.t 94)), (false, (.t 95))] none),
               .op (some 97) none (.mv (.t 15)),
               .op (some 98) none (.mv (.t 18)),
               .op (some 99) none (.call 145 [(false, (.t 97)), (false, (.t 98))] none),
               .op (some 4) none (.mv (.t 96)),
               .op (some 5) none (.mv (.t 99)),
               .op (some 6) none (.mv (.c (.int .i64 0)))] [4, 5, 6])
             .ret)))))))))

def v113_0 : VC :=
    (.seq
     (.region [.op (some 13) none (.bin 0 .lss (.t 12) (.t 11))] [0, 1, 10, 11, 12, 13])
     (.seq
      (.cond (.t 13)
       .skip
       (.exit 0))
      (.seq
       (.block 1
        (.seq
         (.region [.op (some 14) none (.mv (.t 12)),
           .op (some 15) none (.iad 1 (.t 10) (.t 12)),
           .op (some 16) none (.load none (.t 15)),
           .op (some 6) none (.mv (.t 14)),
           .op (some 7) none (.mv (.t 16))] [0, 1, 6, 7, 10, 11, 12])
         (.region [.op (some 17) none (.mv (.t 0)),
           .op (some 18) none (.mv (.t 6)),
           .op (some 19) none (.mv (.t 0)),
           .op (some 20) none (.mv (.t 6)),
           .op (some 21) none (.iad 1 (.t 19) (.t 20)),
           .op (some 22) none (.load none (.t 21)),
           .op (some 23) none (.mv (.t 1)),
           .op (some 24) none (.mv (.t 7)),
           .op (some 25) none (.call 95 [(false, (.t 23)), (false, (.t 24))] none),
           .op (some 26) none (.call 156 [(false, (.t 22)), (false, (.t 25))] none),
           .op (some 27) none (.iad 1 (.t 17) (.t 18)),
           .op none none (.store 1 (.t 27) (.t 26))] [0, 1, 10, 11, 12])))
       (.region [.op (some 28) none (.bin 0 .add (.t 12) (.c (.int .i64 1))),
         .op (some 12) none (.mv (.t 28))] [0, 1, 10, 11, 12]))))
/-- (schisma/lattice.long).less -/
def v113 : VFun where
  params := 3
  results := []
  fin := []
  thr := false
  body :=
    (.seq
     (.seq
      (.region [.op (some 8) none (.mv (.t 1)),
        .op (some 9) none (.bin 0 .eql (.t 8) (.c (sI [48])))] [0, 1, 2, 9])
      (.cond (.t 9)
       .ret
       .skip))
     (.seq
      (.region [.op (some 10) none (.mv (.t 2)),
        .op (some 11) none (.len false (.t 10)),
        .op (some 12) none (.mv (.c (.int .i64 0)))] [0, 1, 10, 11, 12])
      (.block 0
       (.loop v113_0))))

def v114_0 : VC :=
    (.seq
     (.region [.op (some 9) none (.bin 0 .lss (.t 8) (.t 7))] [0, 1, 7, 8, 9])
     (.seq
      (.cond (.t 9)
       .skip
       (.exit 0))
      (.seq
       (.block 1
        (.seq
         (.region [.op (some 10) none (.mv (.t 8)),
           .op (some 5) none (.mv (.t 10))] [0, 1, 5, 7, 8])
         (.seq
          (.region [.op (some 11) none (.mv (.t 1)),
            .op (some 12) none (.mv (.t 0)),
            .op (some 13) none (.mv (.t 5)),
            .op (some 14) none (.iad 1 (.t 12) (.t 13)),
            .op (some 15) none (.load none (.t 14)),
            .op (some 16) none (.callv (.t 11) [(false, (.t 15))] none)] [0, 1, 5, 7, 8, 16])
          (.cond (.t 16)
           (.seq
            (.region [.op (some 17) none (.mv (.t 5)),
              .op (some 4) none (.mv (.t 17))] [4])
            .ret)
           .skip))))
       (.region [.op (some 18) none (.bin 0 .add (.t 8) (.c (.int .i64 1))),
         .op (some 8) none (.mv (.t 18))] [0, 1, 7, 8]))))
/-- slices.IndexFunc[schisma/lattice.long,schisma/api.Int] -/
def v114 : VFun where
  params := 2
  results := [.tmp 4]
  fin := []
  thr := false
  body :=
    (.seq
     (.region [.op (some 4) none (.mv (.c (.int .i64 0)))] [0, 1])
     (.seq
      (.seq
       (.region [.op (some 6) none (.mv (.t 0)),
         .op (some 7) none (.len false (.t 6)),
         .op (some 8) none (.mv (.c (.int .i64 0)))] [0, 1, 7, 8])
       (.block 0
        (.loop v114_0)))
      (.seq
       (.region [.op (some 4) none (.mv (.c (.int .i64 (-1))))] [4])
       .ret)))

/-- (schisma/lattice.long).lead$1 -/
def v115 : VFun where
  params := 1
  results := [.tmp 2]
  fin := []
  thr := false
  body :=
    (.seq
     (.region [.op (some 2) none (.mv (.c (.bool false)))] [0])
     (.seq
      (.region [.op (some 3) none (.mv (.t 0)),
        .op (some 4) none (.bin 0 .neq (.t 3) (.c (sI [48]))),
        .op (some 2) none (.mv (.t 4))] [2])
      .ret))

/-- schisma/whole.Small -/
def v116 : VFun where
  params := 1
  results := [.tmp 2, .tmp 3]
  fin := []
  thr := false
  body :=
    (.seq
     (.region [.op (some 2) none (.mv (.c (.int .i64 0))),
       .op (some 3) none (.mv (.c (.bool false)))] [0])
     (.seq
      (.region [.op (some 7) none (.mv (.t 0)),
        .op (some 8) none (.call 157 [(false, (.t 7)), (false, (.c (.int .i64 10))), (false, (.c (.int .i64 64)))] none),
        .op (some 6) none (.mv (.t 8)),
        .op (some 9) none (.ext (.t 6) 0),
        .op (some 10) none (.ext (.t 6) 1),
        .op (some 4) none (.mv (.t 9)),
        .op (some 5) none (.mv (.t 10))] [4, 5])
      (.seq
       (.seq
        (.region [.op (some 11) none (.mv (.t 5)),
          .op (some 12) none (.bin 2 .neq (.t 11) (.c (.nilifc)))] [4, 12])
        (.cond (.t 12)
         (.seq
          (.region [.op (some 2) none (.mv (.c (.int .i64 0))),
            .op (some 3) none (.mv (.c (.bool false)))] [2, 3])
          .ret)
         .skip))
       (.seq
        (.region [.op (some 13) none (.mv (.t 4)),
          .op (some 2) none (.mv (.t 13)),
          .op (some 3) none (.mv (.c (.bool true)))] [2, 3])
        .ret))))

def v117_0 : VC :=
    (.seq
     (.region [.op (some 9) none (.bin 0 .lss (.t 8) (.t 7))] [0, 1, 7, 8, 9])
     (.seq
      (.cond (.t 9)
       .skip
       (.exit 0))
      (.seq
       (.block 1
        (.seq
         (.region [.op (some 10) none (.mv (.t 8)),
           .op (some 5) none (.mv (.t 10))] [0, 1, 5, 7, 8])
         (.seq
          (.region [.op (some 11) none (.mv (.t 1)),
            .op (some 12) none (.mv (.t 0)),
            .op (some 13) none (.mv (.t 5)),
            .op (some 14) none (.iad 1 (.t 12) (.t 13)),
            .op (some 15) none (.load none (.t 14)),
            .op (some 16) none (.callv (.t 11) [(false, (.t 15))] none)] [0, 1, 5, 7, 8, 16])
          (.cond (.t 16)
           (.seq
            (.region [.op (some 17) none (.mv (.t 5)),
              .op (some 4) none (.mv (.t 17))] [4])
            .ret)
           .skip))))
       (.region [.op (some 18) none (.bin 0 .add (.t 8) (.c (.int .i64 1))),
         .op (some 8) none (.mv (.t 18))] [0, 1, 7, 8]))))
/-- slices.IndexFunc[[]schisma/api.Int,schisma/api.Int] -/
def v117 : VFun where
  params := 2
  results := [.tmp 4]
  fin := []
  thr := false
  body :=
    (.seq
     (.region [.op (some 4) none (.mv (.c (.int .i64 0)))] [0, 1])
     (.seq
      (.seq
       (.region [.op (some 6) none (.mv (.t 0)),
         .op (some 7) none (.len false (.t 6)),
         .op (some 8) none (.mv (.c (.int .i64 0)))] [0, 1, 7, 8])
       (.block 0
        (.loop v117_0)))
      (.seq
       (.region [.op (some 4) none (.mv (.c (.int .i64 (-1))))] [4])
       .ret)))

/-- schisma/size.Floor -/
def v133 : VFun where
  params := 3
  results := [.tmp 6, .tmp 7]
  fin := []
  thr := false
  body :=
    (.seq
     (.region [.op (some 6) none (.mv (.c (sI []))),
       .op (some 7) none (.mv (.c (.int .i64 0)))] [0, 1, 2])
     (.seq
      (.seq
       (.region [.op (some 9) none (.mv (.t 0)),
         .op (some 10) none (.mv (.t 1)),
         .op (some 11) none (.mv (.t 2)),
         .op (some 12) none (.call 165 [(false, (.t 9)), (false, (.t 10)), (false, (.t 11))] none),
         .op (some 8) none (.mv (.t 12))] [0, 1, 2, 8])
       (.seq
        (.region [.op (some 13) none (.mv (.t 8)),
          .op (some 14) none (.bin 0 .neq (.t 13) (.c (.int .i64 0)))] [0, 1, 2, 8, 14])
        (.cond (.t 14)
         (.seq
          (.region [.op (some 15) none (.mv (.t 8)),
            .op (some 6) none (.mv (.c (sI []))),
            .op (some 7) none (.mv (.t 15))] [6, 7])
          .ret)
         .skip)))
      (.seq
       (.region [.op (some 16) none (.mv (.t 0)),
         .op (some 17) none (.mv (.t 1)),
         .op (some 18) none (.mv (.t 2)),
         .op (some 19) none (.call 166 [(false, (.t 16)), (false, (.t 17)), (false, (.t 18))] none),
         .op (some 6) none (.mv (.t 19)),
         .op (some 7) none (.mv (.c (.int .i64 0)))] [6, 7])
       .ret)))

def v134_0 : VC :=
    (.seq
     (.region [.op (some 19) none (.bin 0 .lss (.t 18) (.t 17))] [1, 2, 3, 4, 11, 17, 18, 19])
     (.seq
      (.cond (.t 19)
       .skip
       (.exit 0))
      (.seq
       (.block 1
        (.seq
         (.region [.op (some 20) none (.mv (.t 18)),
           .op (some 12) none (.mv (.t 20))] [1, 2, 3, 4, 11, 12, 17, 18])
         (.region [.op (some 21) none (.mv (.t 11)),
           .op (some 22) none (.mv (.t 12)),
           .op (some 23) none (.build [sI [], sI []] [(0, 1, (.c (sI [48]))), (1, 1, (.c (sI [49])))]),
           .op (some 24) none (.iad 2 (.t 21) (.t 22)),
           .op none none (.store 2 (.t 24) (.t 23))] [1, 2, 3, 4, 11, 17, 18])))
       (.region [.op (some 25) none (.bin 0 .add (.t 18) (.c (.int .i64 1))),
         .op (some 18) none (.mv (.t 25))] [1, 2, 3, 4, 11, 17, 18]))))
/-- schisma/val.logs -/
def v134 : VFun where
  params := 5
  results := [.tmp 10]
  fin := [.frz 10]
  thr := false
  body :=
    (.seq
     (.region [.op (some 10) none (.mv (.c (.nils 2)))] [0, 1, 2, 3, 4])
     (.seq
      (.region [.op (some 13) none (.mv (.t 0)),
        .op (some 14) none (.len false (.t 13)),
        .op (some 15) none (.mks 2 32 [sI [], sI []] (.t 14) (.t 14) (some 100)),
        .op (some 11) none (.mv (.t 15))] [1, 2, 3, 4, 11])
      (.seq
       (.seq
        (.region [.op (some 16) none (.mv (.t 11)),
          .op (some 17) none (.len false (.t 16)),
          .op (some 18) none (.mv (.c (.int .i64 0)))] [1, 2, 3, 4, 11, 17, 18])
        (.block 0
         (.loop v134_0)))
       (.seq
        (.region [.op (some 26) none (.mv (.t 11)),
          .op (some 27) none (.mv (.t 2)),
          .op (some 28) none (.mv (.t 1)),
          .op (some 29) none (.call 96 [(false, (.t 28))] none),
          .op (some 30) none (.build [sI [], sI []] [(0, 1, (.t 29)), (1, 1, (.c (sI [49])))]),
          .op (some 31) none (.iad 2 (.t 26) (.t 27)),
          .op none none (.store 2 (.t 31) (.t 30))] [1, 2, 3, 4, 11])
        (.seq
         (.seq
          (.region [.op (some 32) none (.mv (.t 2)),
            .op (some 33) none (.mv (.t 4)),
            .op (some 34) none (.bin 0 .eql (.t 32) (.t 33))] [1, 2, 3, 4, 11, 34])
          (.cond (.t 34)
           (.seq
            (.region [.op (some 35) none (.mv (.t 1)),
              .op (some 36) none (.mv (.t 3)),
              .op (some 37) none (.bin 0 .add (.t 35) (.t 36)),
              .op (some 1) none (.mv (.t 37))] [1, 2, 11])
            (.region [.op (some 38) none (.mv (.t 11)),
              .op (some 39) none (.mv (.t 2)),
              .op (some 40) none (.mv (.t 1)),
              .op (some 41) none (.call 96 [(false, (.t 40))] none),
              .op (some 42) none (.build [sI [], sI []] [(0, 1, (.t 41)), (1, 1, (.c (sI [49])))]),
              .op (some 43) none (.iad 2 (.t 38) (.t 39)),
              .op none none (.store 2 (.t 43) (.t 42))] [11]))
           (.seq
            (.region [.op (some 44) none (.mv (.t 3)),
              .op (some 45) none (.bin 0 .neq (.t 44) (.c (.int .i64 0)))] [3, 4, 11, 45])
            (.cond (.t 45)
             (.region [.op (some 46) none (.mv (.t 11)),
               .op (some 47) none (.mv (.t 4)),
               .op (some 48) none (.mv (.t 3)),
               .op (some 49) none (.call 96 [(false, (.t 48))] none),
               .op (some 50) none (.build [sI [], sI []] [(0, 1, (.t 49)), (1, 1, (.c (sI [49])))]),
               .op (some 51) none (.iad 2 (.t 46) (.t 47)),
               .op none none (.store 2 (.t 51) (.t 50))] [11])
             .skip))))
         (.seq
          (.region [.op (some 52) none (.mv (.t 11)),
            .op (some 10) none (.mv (.t 52))] [10])
          .ret))))))

def v136_0 : VC :=
    (.seq
     (.region [.op (some 11) none (.bin 0 .lss (.t 10) (.t 9))] [1, 8, 9, 10, 11])
     (.seq
      (.cond (.t 11)
       .skip
       (.exit 0))
      (.seq
       (.block 1
        (.seq
         (.region [.op (some 12) none (.iad 1 (.t 8) (.t 10)),
           .op (some 13) none (.load none (.t 12)),
           .op (some 6) none (.mv (.t 13))] [1, 6, 8, 9, 10])
         (.seq
          (.seq
           (.region [.op (some 14) none (.mv (.t 6)),
             .op (some 15) none (.call 22 [(false, (.t 14))] none),
             .op (some 7) none (.mv (.t 15))] [1, 6, 7, 8, 9, 10])
           (.seq
            (.region [.op (some 16) none (.mv (.t 7)),
              .op (some 17) none (.bin 0 .neq (.t 16) (.c (.int .i64 0)))] [1, 6, 7, 8, 9, 10, 17])
            (.cond (.t 17)
             (.seq
              (.region [.op (some 18) none (.mv (.t 7)),
                .op (some 4) none (.mv (.t 18))] [4])
              .ret)
             .skip)))
          (.seq
           (.region [.op (some 19) none (.mv (.t 6)),
             .op (some 20) none (.len false (.t 19)),
             .op (some 21) none (.mv (.t 1)),
             .op (some 22) none (.bin 0 .neq (.t 20) (.t 21))] [1, 8, 9, 10, 22])
           (.cond (.t 22)
            (.seq
             (.region [.op (some 4) none (.mv (.c (.int .i64 5)))] [4])
             .ret)
            .skip)))))
       (.region [.op (some 23) none (.bin 0 .add (.t 10) (.c (.int .i64 1))),
         .op (some 10) none (.mv (.t 23))] [1, 8, 9, 10]))))
/-- schisma/row.CheckAll -/
def v136 : VFun where
  params := 2
  results := [.tmp 4]
  fin := []
  thr := false
  body :=
    (.seq
     (.region [.op (some 4) none (.mv (.c (.int .i64 0)))] [0, 1])
     (.seq
      (.seq
       (.region [.op (some 8) none (.mv (.t 0)),
         .op (some 9) none (.len false (.t 8)),
         .op (some 10) none (.mv (.c (.int .i64 0)))] [1, 8, 9, 10])
       (.block 0
        (.loop v136_0)))
      (.seq
       (.region [.op (some 4) none (.mv (.c (.int .i64 0)))] [4])
       .ret)))

/-- schisma/whole.Compare -/
def v137 : VFun where
  params := 2
  results := [.tmp 4]
  fin := []
  thr := false
  body :=
    (.seq
     (.region [.op (some 4) none (.mv (.c (.int .i64 0)))] [0, 1])
     (.seq
      (.seq
       (.region [.op (some 11) none (.mv (.t 0)),
         .op (some 12) none (.call 139 [(false, (.t 11))] none),
         .op (some 13) none (.mv (.t 1)),
         .op (some 14) none (.call 139 [(false, (.t 13))] none),
         .op (some 5) none (.mv (.t 12)),
         .op (some 6) none (.mv (.t 14))] [0, 1, 5, 6])
       (.seq
        (.region [.op (some 15) none (.mv (.t 5)),
          .op (some 16) none (.mv (.t 6)),
          .op (some 17) none (.bin 0 .neq (.t 15) (.t 16))] [0, 1, 5, 6, 17])
        (.cond (.t 17)
         (.seq
          (.seq
           (.region [.op (some 18) none (.mv (.t 5)),
             .op (some 19) none (.mv (.t 6)),
             .op (some 20) none (.bin 0 .lss (.t 18) (.t 19))] [20])
           (.cond (.t 20)
            (.seq
             (.region [.op (some 4) none (.mv (.c (.int .i64 (-1))))] [4])
             .ret)
            .skip))
          (.seq
           (.region [.op (some 4) none (.mv (.c (.int .i64 1)))] [4])
           .ret))
         .skip)))
      (.seq
       (.region [.op (some 22) none (.mv (.t 0)),
         .op (some 23) none (.call 144 [(false, (.t 22))] none),
         .op (some 21) none (.mv (.t 23)),
         .op (some 24) none (.ext (.t 21) 0),
         .op (some 25) none (.ext (.t 21) 1),
         .op (some 7) none (.mv (.t 24)),
         .op (some 8) none (.mv (.t 25))] [1, 7, 8])
       (.seq
        (.region [.op (some 27) none (.mv (.t 1)),
          .op (some 28) none (.call 144 [(false, (.t 27))] none),
          .op (some 26) none (.mv (.t 28)),
          .op (some 29) none (.ext (.t 26) 0),
          .op (some 30) none (.ext (.t 26) 1),
          .op (some 9) none (.mv (.t 29)),
          .op (some 10) none (.mv (.t 30))] [7, 8, 10])
        (.seq
         (.seq
          (.region [.op (some 31) none (.mv (.t 7))] [8, 10, 31])
          (.cond (.t 31)
           (.region [.op (some 32) none (.mv (.t 10)),
             .op (some 33) none (.mv (.t 8)),
             .op (some 8) none (.mv (.t 32)),
             .op (some 10) none (.mv (.t 33))] [8, 10])
           .skip))
         (.seq
          (.region [.op (some 34) none (.mv (.t 8)),
            .op (some 35) none (.mv (.t 10)),
            .op (some 36) none (.call 147 [(false, (.t 34)), (false, (.t 35))] none),
            .op (some 4) none (.mv (.t 36))] [4])
          .ret))))))

/-- schisma/whole.Abs -/
def v138 : VFun where
  params := 1
  results := [.tmp 2]
  fin := []
  thr := false
  body :=
    (.seq
     (.region [.op (some 2) none (.mv (.c (sI [])))] [0])
     (.seq
      (.region [.op (some 6) none (.mv (.t 0)),
        .op (some 7) none (.call 144 [(false, (.t 6))] none),
        .op (some 5) none (.mv (.t 7)),
        .op (some 8) none (.ext (.t 5) 0),
        .op (some 9) none (.ext (.t 5) 1),
        .op (some 3) none (.mv (.t 8)),
        .op (some 4) none (.mv (.t 9))] [4])
      (.seq
       (.region [.op (some 10) none (.mv (.t 4)),
         .op (some 2) none (.mv (.t 10))] [2])
       .ret)))

/-- schisma/whole.Sign -/
def v139 : VFun where
  params := 1
  results := [.tmp 2]
  fin := []
  thr := false
  body :=
    (.seq
     (.region [.op (some 2) none (.mv (.c (.int .i64 0)))] [0])
     (.seq
      (.block 0
       (.seq
        (.region [.op (some 4) none (.mv (.t 0)),
          .op (some 5) none (.bin 0 .eql (.t 4) (.c (sI [48]))),
          .op (some 3) none (.mv (.t 5))] [0, 3])
        (.cond (.t 3)
         (.seq
          (.region [.op (some 2) none (.mv (.c (.int .i64 0)))] [2])
          .ret)
         (.seq
          (.region [.op (some 7) none (.mv (.t 0)),
            .op (some 8) none (.ixs (.t 7) (.c (.int .i64 0))),
            .op (some 9) none (.bin 0 .eql (.t 8) (.c (.int .u8 45))),
            .op (some 6) none (.mv (.t 9))] [6])
          (.cond (.t 6)
           (.seq
            (.region [.op (some 2) none (.mv (.c (.int .i64 (-1))))] [2])
            .ret)
           .skip)))))
      (.seq
       (.region [.op (some 2) none (.mv (.c (.int .i64 1)))] [2])
       .ret)))

def v140_0 : VC :=
    (.seq
     (.region [.op (some 7) none (.bin 0 .lss (.t 6) (.t 5))] [0, 4, 5, 6, 7])
     (.seq
      (.cond (.t 7)
       .skip
       (.exit 0))
      (.seq
       (.block 1
        (.seq
         (.region [.op (some 8) none (.mv (.t 6)),
           .op (some 9) none (.iad 1 (.t 4) (.t 6)),
           .op (some 10) none (.load none (.t 9)),
           .op (some 2) none (.mv (.t 8)),
           .op (some 3) none (.mv (.t 10))] [0, 2, 3, 4, 5, 6])
         (.region [.op (some 11) none (.mv (.t 0)),
           .op (some 12) none (.mv (.t 2)),
           .op (some 13) none (.mv (.t 3)),
           .op (some 14) none (.call 169 [(false, (.t 13))] none),
           .op (some 15) none (.iad 1 (.t 11) (.t 12)),
           .op none none (.store 1 (.t 15) (.t 14))] [0, 4, 5, 6])))
       (.region [.op (some 16) none (.bin 0 .add (.t 6) (.c (.int .i64 1))),
         .op (some 6) none (.mv (.t 16))] [0, 4, 5, 6]))))
/-- (schisma/lattice.long).negate -/
def v140 : VFun where
  params := 1
  results := []
  fin := []
  thr := false
  body :=
    (.seq
     (.region [.op (some 4) none (.mv (.t 0)),
       .op (some 5) none (.len false (.t 4)),
       .op (some 6) none (.mv (.c (.int .i64 0)))] [0, 4, 5, 6])
     (.block 0
      (.loop v140_0)))

/-- schisma/lattice.zeros -/
def v141 : VFun where
  params := 1
  results := [.tmp 2]
  fin := []
  thr := false
  body :=
    (.seq
     (.region [.op (some 2) none (.nil 1 (some 100))] [0])
     (.seq
      (.region [.op (some 3) none (.mv (.t 0)),
        .op (some 4) none (.mks 1 8 [.int .i64 0] (.t 3) (.t 3) (some 101)),
        .pre (.frz 4) (.op (some 5) none (.call 110 [(false, (.t 4))] (some (some 102)))),
        .op (some 2) none (.mv (.t 5))] [2])
      .ret))

def v142_0 : VC :=
    (.seq
     (.region [.op (some 13) none (.bin 0 .lss (.t 12) (.t 11))] [1, 2, 7, 10, 11, 12, 13])
     (.seq
      (.cond (.t 13)
       .skip
       (.exit 0))
      (.seq
       (.block 1
        (.seq
         (.region [.op (some 14) none (.iad 1 (.t 10) (.t 12)),
           .op (some 15) none (.load none (.t 14)),
           .op (some 9) none (.mv (.t 15))] [1, 2, 7, 9, 10, 11, 12])
         (.seq
          (.region [.op (some 16) none (.mv (.t 9)),
            .op (some 17) none (.call 73 [(false, (.t 16))] none),
            .op (some 18) none (.mv (.t 1)),
            .op (some 19) none (.bin 0 .geq (.t 17) (.t 18))] [1, 2, 7, 9, 10, 11, 12, 19])
          (.cond (.t 19)
           (.region [.op (some 20) none (.mv (.t 7)),
             .op (some 21) none (.mv (.t 9)),
             .op (some 22) none (.mv (.t 1)),
             .op (some 23) none (.slice 1 (.t 21) (some (.t 22)) none none),
             .op (some 24) none (.bsl 1 1 [.nils 1] [(0, 1, (.t 23))] none),
             .op (some 25) none (.app 1 24 false (.t 20) (.t 24) none),
             .op (some 7) none (.mv (.t 25))] [1, 2, 7, 10, 11, 12])
           .skip))))
       (.region [.op (some 26) none (.bin 0 .add (.t 12) (.c (.int .i64 1))),
         .op (some 12) none (.mv (.t 26))] [1, 2, 7, 10, 11, 12]))))
/-- (schisma/lattice.longs).behind -/
def v142 : VFun where
  params := 3
  results := [.tmp 6]
  fin := []
  thr := true
  body :=
    (.seq
     (.region [.op (some 6) none (.nil 1 none)] [0, 1, 2])
     (.seq
      (.region [.op (some 7) none (.nil 1 none)] [0, 1, 2, 7])
      (.seq
       (.seq
        (.region [.op (some 10) none (.mv (.t 0)),
          .op (some 11) none (.len false (.t 10)),
          .op (some 12) none (.mv (.c (.int .i64 0)))] [1, 2, 7, 10, 11, 12])
        (.block 0
         (.loop v142_0)))
       (.seq
        (.region [.op (some 27) none (.mv (.t 7)),
          .op (some 28) none (.mv (.t 2)),
          .op (some 29) none (.call 90 [(true, (.t 27)), (false, (.t 28))] (some none)),
          .op (some 6) none (.mv (.t 29))] [6])
        .ret))))

/-- schisma/whole.little -/
def v143 : VFun where
  params := 2
  results := [.tmp 4, .tmp 5]
  fin := []
  thr := false
  body :=
    (.seq
     (.region [.op (some 4) none (.mv (.c (.int .i64 0))),
       .op (some 5) none (.mv (.c (.bool false)))] [0, 1])
     (.seq
      (.seq
       (.region [.op (some 8) none (.mv (.t 0)),
         .op (some 9) none (.len true (.t 8)),
         .op (some 10) none (.mv (.t 1)),
         .op (some 11) none (.bin 0 .gtr (.t 9) (.t 10))] [0, 11])
       (.cond (.t 11)
        (.seq
         (.region [.op (some 4) none (.mv (.c (.int .i64 0))),
           .op (some 5) none (.mv (.c (.bool false)))] [4, 5])
         .ret)
        .skip))
      (.seq
       (.region [.op (some 13) none (.mv (.t 0)),
         .op (some 14) none (.call 170 [(false, (.t 13))] none),
         .op (some 12) none (.mv (.t 14)),
         .op (some 15) none (.ext (.t 12) 0),
         .op (some 16) none (.ext (.t 12) 1),
         .op (some 6) none (.mv (.t 15)),
         .op (some 7) none (.mv (.t 16))] [6, 7])
       (.seq
        (.region [.op (some 17) none (.mv (.t 6)),
          .op (some 18) none (.mv (.t 7)),
          .op (some 19) none (.bin 2 .eql (.t 18) (.c (.nilifc))),
          .op (some 4) none (.mv (.t 17)),
          .op (some 5) none (.mv (.t 19))] [4, 5])
        .ret))))

/-- schisma/whole.split -/
def v144 : VFun where
  params := 1
  results := [.tmp 2, .tmp 3]
  fin := []
  thr := false
  body :=
    (.seq
     (.region [.op (some 2) none (.mv (.c (.bool false))),
       .op (some 3) none (.mv (.c (sI [])))] [0])
     (.seq
      (.seq
       (.region [.op (some 4) none (.mv (.t 0)),
         .op (some 5) none (.len true (.t 4)),
         .op (some 6) none (.bin 0 .gtr (.t 5) (.c (.int .i64 0))),
         .op (some 7) none (.mv (.t 6)),
         .op (some 8) (some (7, true)) (.mv (.t 0)),
         .op (some 9) (some (7, true)) (.ixs (.t 8) (.c (.int .i64 0))),
         .op (some 10) (some (7, true)) (.bin 0 .eql (.t 9) (.c (.int .u8 45))),
         .op (some 11) none (.pick (.t 7) (.t 10) (.c (.bool false)))] [0, 11])
       (.cond (.t 11)
        (.seq
         (.region [.op (some 12) none (.mv (.t 0)),
           .op (some 13) none (.slice 0 (.t 12) (some (.c (.int .i64 1))) none none),
           .op (some 2) none (.mv (.c (.bool true))),
           .op (some 3) none (.mv (.t 13))] [2, 3])
         .ret)
        .skip))
      (.seq
       (.region [.op (some 14) none (.mv (.t 0)),
         .op (some 2) none (.mv (.c (.bool false))),
         .op (some 3) none (.mv (.t 14))] [2, 3])
       .ret)))

/-- schisma/whole.join -/
def v145 : VFun where
  params := 2
  results := [.tmp 4]
  fin := []
  thr := false
  body :=
    (.seq
     (.region [.op (some 4) none (.mv (.c (sI [])))] [0, 1])
     (.seq
      (.seq
       (.region [.op (some 5) none (.mv (.t 0)),
         .op (some 6) none (.mv (.t 5)),
         .op (some 7) (some (6, true)) (.mv (.t 1)),
         .op (some 8) (some (6, true)) (.bin 0 .neq (.t 7) (.c (sI [48]))),
         .op (some 9) none (.pick (.t 6) (.t 8) (.c (.bool false)))] [1, 9])
       (.cond (.t 9)
        (.seq
         (.region [.op (some 10) none (.mv (.t 1)),
           .op (some 11) none (.bin 0 .add (.c (sI [45])) (.t 10)),
           .op (some 4) none (.mv (.t 11))] [4])
         .ret)
        .skip))
      (.seq
       (.region [.op (some 12) none (.mv (.t 1)),
         .op (some 4) none (.mv (.t 12))] [4])
       .ret)))

/-- schisma/decimal.Add -/
def v146 : VFun where
  params := 2
  results := [.tmp 4]
  fin := []
  thr := false
  body :=
    (.seq
     (.region [.op (some 4) none (.mv (.c (sI [])))] [0, 1])
     (.seq
      (.seq
       (.region [.op (some 11) none (.mv (.t 0)),
         .op (some 12) none (.mv (.t 1)),
         .op (some 13) none (.call 171 [(false, (.t 11)), (false, (.t 12))] none),
         .op (some 10) none (.mv (.t 13)),
         .op (some 14) none (.ext (.t 10) 0),
         .op (some 15) none (.ext (.t 10) 1),
         .op (some 16) none (.ext (.t 10) 2),
         .op (some 5) none (.mv (.t 14)),
         .op (some 6) none (.mv (.t 15)),
         .op (some 7) none (.mv (.t 16))] [0, 1, 5, 6, 7])
       (.seq
        (.region [.op (some 17) none (.mv (.t 7))] [0, 1, 5, 6, 17])
        (.cond (.t 17)
         (.seq
          (.region [.op (some 18) none (.mv (.t 5)),
            .op (some 19) none (.mv (.t 6)),
            .op (some 20) none (.bin 0 .add (.t 18) (.t 19)),
            .op (some 21) none (.call 172 [(false, (.t 20))] none),
            .op (some 4) none (.mv (.t 21))] [4])
          .ret)
         .skip)))
      (.seq
       (.region [.op (some 22) none (.mv (.t 0)),
         .op (some 23) none (.call 173 [(false, (.t 22))] (some (some 100))),
         .op (some 24) none (.mv (.t 1)),
         .op (some 25) none (.call 173 [(false, (.t 24))] (some (some 101))),
         .op (some 8) none (.mv (.t 23)),
         .op (some 9) none (.mv (.t 25))] [8, 9])
       (.seq
        (.seq
         (.region [.op (some 26) none (.mv (.t 8)),
           .op (some 27) none (.len false (.t 26)),
           .op (some 28) none (.mv (.t 9)),
           .op (some 29) none (.len false (.t 28)),
           .op (some 30) none (.bin 0 .lss (.t 27) (.t 29))] [8, 9, 30])
         (.cond (.t 30)
          (.region [.op (some 31) none (.mv (.t 9)),
            .op (some 32) none (.mv (.t 8)),
            .op (some 8) none (.mv (.t 31)),
            .op (some 9) none (.mv (.t 32))] [8, 9])
          .skip))
        (.seq
         (.region [.op (some 33) none (.mv (.t 8)),
           .op (some 34) none (.bsl 1 1 [.int .u64 0] [(0, 1, (.c (.int .u64 0)))] (some 102)),
           .op (some 35) none (.app 1 8 false (.t 33) (.t 34) (some 103)),
           .op (some 8) none (.mv (.t 35))] [8, 9])
         (.seq
          (.region [.op (some 36) none (.mv (.t 8)),
            .op (some 37) none (.mv (.t 9)),
            .op (some 38) none (.mv (.t 8)),
            .op (some 39) none (.len false (.t 38)),
            .op (some 40) none (.bin 0 .sub (.t 39) (.c (.int .i64 1))),
            .op (some 41) none (.mv (.t 9)),
            .op (some 42) none (.len false (.t 41)),
            .op (some 43) none (.bin 0 .sub (.t 40) (.t 42)),
            .op (some 44) none (.appz 1 8 [.int .u64 0] (.t 37) (.t 43) (some 104)),
            .op (some 45) none (.call 174 [(true, (.t 36)), (false, (.t 44)), (false, (.c (.int .i64 0)))] none)] [8])
          (.seq
           (.region [.op (some 46) none (.mv (.t 8)),
             .op (some 47) none (.call 175 [(true, (.t 46))] (some (some 105))),
             .op (some 48) none (.call 176 [(false, (.t 47))] none),
             .op (some 4) none (.mv (.t 48))] [4])
           .ret)))))))

/-- schisma/decimal.Compare -/
def v147 : VFun where
  params := 2
  results := [.tmp 4]
  fin := []
  thr := false
  body :=
    (.seq
     (.region [.op (some 4) none (.mv (.c (.int .i64 0)))] [0, 1])
     (.seq
      (.block 0
       (.seq
        (.region [.op (some 6) none (.mv (.t 0)),
          .op (some 7) none (.len true (.t 6)),
          .op (some 8) none (.mv (.t 1)),
          .op (some 9) none (.len true (.t 8)),
          .op (some 10) none (.bin 0 .neq (.t 7) (.t 9)),
          .op (some 5) none (.mv (.t 10))] [0, 1, 5])
        (.cond (.t 5)
         (.seq
          (.region [.op (some 11) none (.mv (.t 0)),
            .op (some 12) none (.len true (.t 11)),
            .op (some 13) none (.mv (.t 1)),
            .op (some 14) none (.len true (.t 13)),
            .op (some 15) none (.bin 0 .sub (.t 12) (.t 14)),
            .op (some 16) none (.mnmx true (.c (.int .i64 (-1))) (.t 15)),
            .op (some 17) none (.mnmx false (.c (.int .i64 1)) (.t 16)),
            .op (some 4) none (.mv (.t 17))] [4])
          .ret)
         (.seq
          (.region [.op (some 19) none (.mv (.t 0)),
            .op (some 20) none (.mv (.t 1)),
            .op (some 21) none (.bin 0 .lss (.t 19) (.t 20)),
            .op (some 18) none (.mv (.t 21))] [0, 1, 18])
          (.cond (.t 18)
           (.seq
            (.region [.op (some 4) none (.mv (.c (.int .i64 (-1))))] [4])
            .ret)
           (.seq
            (.region [.op (some 23) none (.mv (.t 0)),
              .op (some 24) none (.mv (.t 1)),
              .op (some 25) none (.bin 0 .gtr (.t 23) (.t 24)),
              .op (some 22) none (.mv (.t 25))] [22])
            (.cond (.t 22)
             (.seq
              (.region [.op (some 4) none (.mv (.c (.int .i64 1)))] [4])
              .ret)
             .skip)))))))
      (.seq
       (.region [.op (some 4) none (.mv (.c (.int .i64 0)))] [4])
       .ret)))

/-- schisma/decimal.Sub -/
def v148 : VFun where
  params := 2
  results := [.tmp 4, .tmp 5]
  fin := []
  thr := false
  body :=
    (.seq
     (.region [.op (some 4) none (.mv (.c (sI []))),
       .op (some 5) none (.mv (.c (.int .i64 0)))] [0, 1])
     (.seq
      (.seq
       (.region [.op (some 10) none (.mv (.t 0)),
         .op (some 11) none (.mv (.t 1)),
         .op (some 12) none (.call 147 [(false, (.t 10)), (false, (.t 11))] none),
         .op (some 13) none (.bin 0 .lss (.t 12) (.c (.int .i64 0)))] [0, 1, 13])
       (.cond (.t 13)
        (.seq
         (.region [.op (some 4) none (.mv (.c (sI []))),
           .op (some 5) none (.mv (.c (.int .i64 3)))] [4, 5])
         .ret)
        .skip))
      (.seq
       (.seq
        (.region [.op (some 15) none (.mv (.t 0)),
          .op (some 16) none (.mv (.t 1)),
          .op (some 17) none (.call 171 [(false, (.t 15)), (false, (.t 16))] none),
          .op (some 14) none (.mv (.t 17)),
          .op (some 18) none (.ext (.t 14) 0),
          .op (some 19) none (.ext (.t 14) 1),
          .op (some 20) none (.ext (.t 14) 2),
          .op (some 6) none (.mv (.t 18)),
          .op (some 7) none (.mv (.t 19)),
          .op (some 8) none (.mv (.t 20))] [0, 1, 6, 7, 8])
        (.seq
         (.region [.op (some 21) none (.mv (.t 8))] [0, 1, 6, 7, 21])
         (.cond (.t 21)
          (.seq
           (.region [.op (some 22) none (.mv (.t 6)),
             .op (some 23) none (.mv (.t 7)),
             .op (some 24) none (.bin 0 .sub (.t 22) (.t 23)),
             .op (some 25) none (.call 172 [(false, (.t 24))] none),
             .op (some 4) none (.mv (.t 25)),
             .op (some 5) none (.mv (.c (.int .i64 0)))] [4, 5])
           .ret)
          .skip)))
       (.seq
        (.region [.op (some 26) none (.mv (.t 0)),
          .op (some 27) none (.call 173 [(false, (.t 26))] (some (some 100))),
          .op (some 28) none (.bsl 1 1 [.int .u64 0] [(0, 1, (.c (.int .u64 0)))] (some 101)),
          .op (some 29) none (.app 1 8 false (.t 27) (.t 28) (some 102)),
          .op (some 9) none (.mv (.t 29))] [1, 9])
        (.seq
         (.region [.op (some 30) none (.mv (.t 9)),
           .op (some 31) none (.mv (.t 1)),
           .op (some 32) none (.call 173 [(false, (.t 31))] (some (some 103))),
           .op (some 33) none (.mv (.t 9)),
           .op (some 34) none (.len false (.t 33)),
           .op (some 35) none (.bin 0 .sub (.t 34) (.c (.int .i64 1))),
           .op (some 36) none (.mv (.t 1)),
           .op (some 37) none (.call 173 [(false, (.t 36))] (some (some 104))),
           .op (some 38) none (.len false (.t 37)),
           .op (some 39) none (.bin 0 .sub (.t 35) (.t 38)),
           .op (some 40) none (.appz 1 8 [.int .u64 0] (.t 32) (.t 39) (some 105)),
           .op (some 41) none (.call 177 [(true, (.t 30)), (false, (.t 40)), (false, (.c (.int .u64 1))), (false, (.c (.int .i64 0)))] none)] [9])
         (.seq
          (.region [.op (some 42) none (.mv (.t 9)),
            .op (some 43) none (.call 175 [(true, (.t 42))] (some (some 106))),
            .op (some 44) none (.call 176 [(false, (.t 43))] none),
            .op (some 4) none (.mv (.t 44)),
            .op (some 5) none (.mv (.c (.int .i64 0)))] [4, 5])
          .ret))))))

/-- schisma/decimal.Mul -/
def v149 : VFun where
  params := 2
  results := [.tmp 4]
  fin := []
  thr := false
  body :=
    (.seq
     (.region [.op (some 4) none (.mv (.c (sI [])))] [0, 1])
     (.seq
      (.seq
       (.region [.op (some 8) none (.mv (.t 0)),
         .op (some 9) none (.len true (.t 8)),
         .op (some 10) none (.mv (.t 1)),
         .op (some 11) none (.len true (.t 10)),
         .op (some 12) none (.bin 0 .add (.t 9) (.t 11)),
         .op (some 13) none (.bin 0 .leq (.t 12) (.c (.int .i64 18)))] [0, 1, 13])
       (.cond (.t 13)
        (.seq
         (.region [.op (some 15) none (.mv (.t 0)),
           .op (some 16) none (.mv (.t 1)),
           .op (some 17) none (.call 171 [(false, (.t 15)), (false, (.t 16))] none),
           .op (some 14) none (.mv (.t 17)),
           .op (some 18) none (.ext (.t 14) 0),
           .op (some 19) none (.ext (.t 14) 1),
           .op (some 20) none (.ext (.t 14) 2),
           .op (some 5) none (.mv (.t 18)),
           .op (some 6) none (.mv (.t 19)),
           .op (some 7) none (.mv (.t 20))] [5, 6])
         (.seq
          (.region [.op (some 21) none (.mv (.t 5)),
            .op (some 22) none (.mv (.t 6)),
            .op (some 23) none (.bin 0 .mul (.t 21) (.t 22)),
            .op (some 24) none (.call 172 [(false, (.t 23))] none),
            .op (some 4) none (.mv (.t 24))] [4])
          .ret))
        .skip))
      (.seq
       (.region [.op (some 25) none (.mv (.t 0)),
         .op (some 26) none (.call 173 [(false, (.t 25))] (some (some 100))),
         .op (some 27) none (.mv (.t 1)),
         .op (some 28) none (.call 173 [(false, (.t 27))] (some (some 101))),
         .pre (.frz 26) (.pre (.frz 28) (.op (some 29) none (.call 178 [(false, (.t 26)), (false, (.t 28))] (some (some 102))))),
         .op (some 30) none (.call 176 [(false, (.t 29))] none),
         .op (some 4) none (.mv (.t 30))] [4])
       .ret)))

def v150_0 : VC :=
    (.seq
     (.region [.op (some 11) none (.bin 0 .lss (.t 10) (.t 9))] [0, 8, 9, 10, 11])
     (.seq
      (.cond (.t 11)
       .skip
       (.exit 0))
      (.seq
       (.block 1
        (.seq
         (.region [.op (some 12) none (.iad 1 (.t 8) (.t 10)),
           .op (some 13) none (.load none (.t 12)),
           .op (some 4) none (.mv (.t 13))] [0, 4, 8, 9, 10])
         (.block 2
          (.seq
           (.region [.op (some 15) none (.mv (.t 4)),
             .op (some 16) none (.len false (.t 15)),
             .op (some 17) none (.bin 0 .gtr (.t 16) (.c (.int .i64 12))),
             .op (some 14) none (.mv (.t 17))] [0, 4, 8, 9, 10, 14])
           (.cond (.t 14)
            (.seq
             (.region [.op (some 2) none (.mv (.c (.int .i64 4)))] [2])
             .ret)
            (.seq
             (.region [.op (some 19) none (.mv (.t 4)),
               .op (some 20) none (.len false (.t 19)),
               .op (some 21) none (.mv (.t 0)),
               .op (some 22) none (.iad 1 (.t 21) (.c (.int .i64 0))),
               .op (some 23) none (.load none (.t 22)),
               .op (some 24) none (.len false (.t 23)),
               .op (some 25) none (.bin 0 .neq (.t 20) (.t 24)),
               .op (some 18) none (.mv (.t 25))] [0, 4, 8, 9, 10, 18])
             (.cond (.t 18)
              (.seq
               (.region [.op (some 2) none (.mv (.c (.int .i64 5)))] [2])
               .ret)
              (.seq
               (.region [.op (some 27) none (.mv (.t 4)),
                 .op (some 28) none (.call 53 [(false, (.t 27)), (false, (.f 179))] none),
                 .op (some 26) none (.mv (.t 28))] [0, 8, 9, 10, 26])
               (.cond (.t 26)
                (.seq
                 (.region [.op (some 2) none (.mv (.c (.int .i64 4)))] [2])
                 .ret)
                .skip)))))))))
       (.region [.op (some 29) none (.bin 0 .add (.t 10) (.c (.int .i64 1))),
         .op (some 10) none (.mv (.t 29))] [0, 8, 9, 10]))))
/-- schisma/table.Check -/
def v150 : VFun where
  params := 1
  results := [.tmp 2]
  fin := []
  thr := false
  body :=
    (.seq
     (.region [.op (some 2) none (.mv (.c (.int .i64 0)))] [0])
     (.seq
      (.seq
       (.region [.op (some 5) none (.mv (.t 0)),
         .op (some 6) none (.len false (.t 5)),
         .op (some 7) none (.bin 0 .gtr (.t 6) (.c (.int .i64 12)))] [0, 7])
       (.cond (.t 7)
        (.seq
         (.region [.op (some 2) none (.mv (.c (.int .i64 4)))] [2])
         .ret)
        .skip))
      (.seq
       (.seq
        (.region [.op (some 8) none (.mv (.t 0)),
          .op (some 9) none (.len false (.t 8)),
          .op (some 10) none (.mv (.c (.int .i64 0)))] [0, 8, 9, 10])
        (.block 0
         (.loop v150_0)))
       (.seq
        (.region [.op (some 2) none (.mv (.c (.int .i64 0)))] [2])
        .ret))))

def v151_0 : VC :=
    (.seq
     (.region [.op (some 10) none (.bin 0 .lss (.t 9) (.t 8))] [0, 3, 7, 8, 9, 10])
     (.seq
      (.cond (.t 10)
       .skip
       (.exit 0))
      (.seq
       (.block 1
        (.seq
         (.region [.op (some 11) none (.mv (.t 9)),
           .op (some 12) none (.iad 1 (.t 7) (.t 9)),
           .op (some 13) none (.load none (.t 12)),
           .op (some 5) none (.alloc [.nils 1] (some 100)),
           .op (some 4) none (.mv (.t 11)),
           .pre (.frz 13) (.op none none (.store 1 (.t 5) (.t 13)))] [0, 3, 4, 5, 7, 8, 9])
         (.seq
          (.region [.op (some 14) none (.load none (.t 5)),
            .op (some 15) none (.call 180 [(false, (.t 14))] none),
            .op (some 6) none (.alloc [.int .i64 0] (some 101)),
            .op none none (.store 1 (.t 6) (.t 15))] [0, 3, 4, 5, 6, 7, 8, 9])
          (.seq
           (.seq
            (.region [.op (some 16) none (.load none (.t 6)),
              .op (some 17) none (.mv (.t 3)),
              .op (some 18) none (.bin 0 .leq (.t 16) (.t 17)),
              .op (some 19) none (.mv (.t 18)),
              .op (some 20) (some (19, false)) (.load none (.t 5)),
              .op (some 21) (some (19, false)) (.load none (.t 6)),
              .op (some 22) (some (19, false)) (.iad 1 (.t 20) (.t 21)),
              .op (some 23) (some (19, false)) (.load none (.t 22)),
              .op (some 24) (some (19, false)) (.bin 0 .lss (.t 23) (.c (.int .i64 0))),
              .op (some 25) none (.pick (.t 19) (.c (.bool true)) (.t 24))] [0, 4, 5, 6, 7, 8, 9, 25])
            (.cond (.t 25)
             (.seq
              (.region [.op (some 2) none (.mv (.c (.bool false)))] [2])
              .ret)
             .skip))
           (.seq
            (.seq
             (.region [.op (some 26) none (.mv (.t 0)),
               .op (some 27) none (.mv (.t 4)),
               .op (some 28) none (.slice 1 (.t 26) none (some (.t 27)) none),
               .op (some 29) none (.mkfn 182 [(.t 6), (.t 5)]),
               .op (some 30) none (.call 181 [(false, (.t 28)), (false, (.t 29))] none)] [0, 6, 7, 8, 9, 30])
             (.cond (.t 30)
              (.seq
               (.region [.op (some 2) none (.mv (.c (.bool false)))] [2])
               .ret)
              .skip))
            (.region [.op (some 31) none (.load none (.t 6)),
              .op (some 3) none (.mv (.t 31))] [0, 3, 7, 8, 9]))))))
       (.region [.op (some 32) none (.bin 0 .add (.t 9) (.c (.int .i64 1))),
         .op (some 9) none (.mv (.t 32))] [0, 3, 7, 8, 9]))))
/-- schisma/hermite.isForm -/
def v151 : VFun where
  params := 1
  results := [.tmp 2]
  fin := []
  thr := false
  body :=
    (.seq
     (.region [.op (some 2) none (.mv (.c (.bool false)))] [0])
     (.seq
      (.region [.op (some 3) none (.mv (.c (.int .i64 (-1))))] [0, 3])
      (.seq
       (.seq
        (.region [.op (some 7) none (.mv (.t 0)),
          .op (some 8) none (.len false (.t 7)),
          .op (some 9) none (.mv (.c (.int .i64 0)))] [0, 3, 7, 8, 9])
        (.block 0
         (.loop v151_0)))
       (.seq
        (.region [.op (some 2) none (.mv (.c (.bool true)))] [2])
        .ret))))

def v152_0 : VC :=
    (.seq
     (.region [.op (some 22) none (.bin 0 .lss (.t 21) (.t 20))] [5, 6, 19, 20, 21, 22])
     (.seq
      (.cond (.t 22)
       .skip
       (.exit 0))
      (.seq
       (.block 1
        (.seq
         (.region [.op (some 23) none (.iad 2 (.t 19) (.t 21)),
           .op (some 24) none (.load (some 2) (.t 23)),
           .op (some 8) none (.alloc [.nils 1, .nils 1] (some 105)),
           .op none none (.store 2 (.t 8) (.t 24))] [5, 6, 8, 19, 20, 21])
         (.seq
          (.region [.op (some 25) none (.fad 0 (.t 8)),
            .op (some 26) none (.load none (.t 25)),
            .op (some 27) none (.call 117 [(false, (.t 26)), (false, (.f 184))] none),
            .op (some 9) none (.mv (.t 27))] [5, 6, 8, 9, 19, 20, 21])
          (.seq
           (.region [.op (some 29) none (.fad 0 (.t 6)),
             .op (some 30) none (.load none (.t 29)),
             .op (some 31) none (.mv (.t 9)),
             .op (some 32) none (.iad 1 (.t 30) (.t 31)),
             .op (some 33) none (.load none (.t 32)),
             .op (some 34) none (.fad 0 (.t 8)),
             .op (some 35) none (.load none (.t 34)),
             .op (some 36) none (.mv (.t 9)),
             .op (some 37) none (.iad 1 (.t 35) (.t 36)),
             .op (some 38) none (.load none (.t 37)),
             .op (some 39) none (.call 112 [(false, (.t 33)), (false, (.t 38))] none),
             .op (some 28) none (.mv (.t 39)),
             .op (some 40) none (.ext (.t 28) 0),
             .op (some 41) none (.ext (.t 28) 1),
             .op (some 42) none (.ext (.t 28) 2),
             .op (some 10) none (.mv (.t 40)),
             .op (some 11) none (.mv (.t 41)),
             .op (some 12) none (.mv (.t 42))] [5, 6, 8, 10, 19, 20, 21])
           (.seq
            (.region [.op (some 43) none (.load (some 2) (.t 6)),
              .op (some 44) none (.mv (.t 10)),
              .op (some 45) none (.fad 0 (.t 8)),
              .op (some 46) none (.load none (.t 45)),
              .op (some 47) none (.build [.nils 1, .nils 1] [(0, 1, (.t 46))]),
              .op (some 48) none (.call 185 [(false, (.t 43)), (false, (.t 44)), (false, (.t 47))] none)] [5, 6, 10, 19, 20, 21])
            (.region [.op (some 49) none (.mv (.t 5)),
              .op (some 50) none (.mv (.t 10)),
              .op (some 51) none (.bsl 1 1 [sI []] [(0, 1, (.t 50))] (some 106)),
              .op (some 52) none (.app 1 16 false (.t 49) (.t 51) (some 107)),
              .op (some 5) none (.mv (.t 52))] [5, 6, 19, 20, 21]))))))
       (.region [.op (some 53) none (.bin 0 .add (.t 21) (.c (.int .i64 1))),
         .op (some 21) none (.mv (.t 53))] [5, 6, 19, 20, 21]))))
/-- schisma/hermite.reduce -/
def v152 : VFun where
  params := 2
  results := [.tmp 4, .tmp 5]
  fin := [.frz 4, .frz 5]
  thr := false
  body :=
    (.seq
     (.region [.op (some 4) none (.mv (.c (.nils 1))),
       .op (some 5) none (.nil 1 (some 100))] [0, 1, 5])
     (.seq
      (.region [.op (some 13) none (.mv (.t 1)),
        .pre (.frz 13) (.op (some 14) none (.bsl 1 1 [.nils 1] [(0, 1, (.t 13))] (some 101))),
        .op (some 15) none (.call 183 [(false, (.t 14))] (some (some 102))),
        .op (some 16) none (.iad 2 (.t 15) (.c (.int .i64 0))),
        .op (some 17) none (.load (some 2) (.t 16)),
        .op (some 6) none (.alloc [.nils 1, .nils 1] (some 103)),
        .op none none (.store 2 (.t 6) (.t 17))] [0, 5, 6])
      (.seq
       (.seq
        (.region [.op (some 18) none (.mv (.t 0)),
          .op (some 19) none (.call 183 [(false, (.t 18))] (some (some 104))),
          .op (some 20) none (.len false (.t 19)),
          .op (some 21) none (.mv (.c (.int .i64 0)))] [5, 6, 19, 20, 21])
        (.block 0
         (.loop v152_0)))
       (.seq
        (.region [.op (some 54) none (.fad 0 (.t 6)),
          .op (some 55) none (.load none (.t 54)),
          .op (some 56) none (.mv (.t 5)),
          .op (some 4) none (.mv (.t 55)),
          .op (some 5) none (.mv (.t 56))] [4, 5])
        .ret))))

/-- schisma/hermite.contains$1 -/
def v153 : VFun where
  params := 1
  results := [.tmp 2]
  fin := []
  thr := false
  body :=
    (.seq
     (.region [.op (some 2) none (.mv (.c (.bool false)))] [0])
     (.seq
      (.region [.op (some 3) none (.mv (.t 0)),
        .op (some 4) none (.bin 0 .neq (.t 3) (.c (sI [48]))),
        .op (some 2) none (.mv (.t 4))] [2])
      .ret))

/-- schisma/decimal.DivMod -/
def v155 : VFun where
  params := 2
  results := [.tmp 4, .tmp 5, .tmp 6]
  fin := []
  thr := false
  body :=
    (.seq
     (.region [.op (some 4) none (.mv (.c (sI []))),
       .op (some 5) none (.mv (.c (sI []))),
       .op (some 6) none (.mv (.c (.int .i64 0)))] [0, 1])
     (.seq
      (.seq
       (.region [.op (some 16) none (.mv (.t 1)),
         .op (some 17) none (.bin 0 .eql (.t 16) (.c (sI [48])))] [0, 1, 17])
       (.cond (.t 17)
        (.seq
         (.region [.op (some 4) none (.mv (.c (sI []))),
           .op (some 5) none (.mv (.c (sI []))),
           .op (some 6) none (.mv (.c (.int .i64 17)))] [4, 5, 6])
         .ret)
        .skip))
      (.seq
       (.seq
        (.region [.op (some 19) none (.mv (.t 0)),
          .op (some 20) none (.mv (.t 1)),
          .op (some 21) none (.call 171 [(false, (.t 19)), (false, (.t 20))] none),
          .op (some 18) none (.mv (.t 21)),
          .op (some 22) none (.ext (.t 18) 0),
          .op (some 23) none (.ext (.t 18) 1),
          .op (some 24) none (.ext (.t 18) 2),
          .op (some 7) none (.mv (.t 22)),
          .op (some 8) none (.mv (.t 23)),
          .op (some 9) none (.mv (.t 24))] [0, 1, 7, 8, 9])
        (.seq
         (.region [.op (some 25) none (.mv (.t 9))] [0, 1, 7, 8, 25])
         (.cond (.t 25)
          (.seq
           (.region [.op (some 26) none (.mv (.t 7)),
             .op (some 27) none (.mv (.t 8)),
             .op (some 28) none (.bin 0 .quo (.t 26) (.t 27)),
             .op (some 29) none (.call 172 [(false, (.t 28))] none),
             .op (some 30) none (.mv (.t 7)),
             .op (some 31) none (.mv (.t 8)),
             .op (some 32) none (.bin 0 .rem (.t 30) (.t 31)),
             .op (some 33) none (.call 172 [(false, (.t 32))] none),
             .op (some 4) none (.mv (.t 29)),
             .op (some 5) none (.mv (.t 33)),
             .op (some 6) none (.mv (.c (.int .i64 0)))] [4, 5, 6])
           .ret)
          .skip)))
       (.seq
        (.region [.op (some 34) none (.mv (.t 0)),
          .op (some 35) none (.call 173 [(false, (.t 34))] (some (some 100))),
          .op (some 36) none (.mv (.t 1)),
          .op (some 37) none (.call 173 [(false, (.t 36))] (some (some 101))),
          .op (some 10) none (.mv (.t 35)),
          .op (some 11) none (.mv (.t 37))] [0, 10, 11])
        (.seq
         (.seq
          (.region [.op (some 38) none (.mv (.t 10)),
            .op (some 39) none (.mv (.t 11)),
            .op (some 40) none (.call 186 [(false, (.t 38)), (false, (.t 39))] none),
            .op (some 41) none (.bin 0 .lss (.t 40) (.c (.int .i64 0)))] [0, 10, 11, 41])
          (.cond (.t 41)
           (.seq
            (.region [.op (some 42) none (.mv (.t 0)),
              .op (some 4) none (.mv (.c (sI [48]))),
              .op (some 5) none (.mv (.t 42)),
              .op (some 6) none (.mv (.c (.int .i64 0)))] [4, 5, 6])
            .ret)
           .skip))
         (.seq
          (.seq
           (.region [.op (some 43) none (.mv (.t 11)),
             .op (some 44) none (.len false (.t 43)),
             .op (some 45) none (.bin 0 .eql (.t 44) (.c (.int .i64 1)))] [10, 11, 45])
           (.cond (.t 45)
            (.seq
             (.region [.op (some 47) none (.mv (.t 10)),
               .op (some 48) none (.mv (.t 11)),
               .op (some 49) none (.iad 1 (.t 48) (.c (.int .i64 0))),
               .op (some 50) none (.load none (.t 49)),
               .pre (.frz 47) (.op (some 51) none (.call 187 [(false, (.t 47)), (false, (.t 50))] none)),
               .op (some 46) none (.mv (.t 51)),
               .op (some 52) none (.ext (.t 46) 0),
               .op (some 53) none (.ext (.t 46) 1),
               .op (some 12) none (.mv (.t 52)),
               .op (some 13) none (.mv (.t 53))] [12, 13])
             (.seq
              (.region [.op (some 54) none (.mv (.t 12)),
                .op (some 55) none (.call 176 [(false, (.t 54))] none),
                .op (some 56) none (.mv (.t 13)),
                .op (some 57) none (.call 172 [(false, (.t 56))] none),
                .op (some 4) none (.mv (.t 55)),
                .op (some 5) none (.mv (.t 57)),
                .op (some 6) none (.mv (.c (.int .i64 0)))] [4, 5, 6])
              .ret))
            .skip))
          (.seq
           (.region [.op (some 59) none (.mv (.t 10)),
             .op (some 60) none (.mv (.t 11)),
             .pre (.frz 59) (.pre (.frz 60) (.op (some 61) none (.call 188 [(false, (.t 59)), (false, (.t 60))] none))),
             .op (some 58) none (.mv (.t 61)),
             .op (some 62) none (.ext (.t 58) 0),
             .op (some 63) none (.ext (.t 58) 1),
             .op (some 14) none (.mv (.t 62)),
             .op (some 15) none (.mv (.t 63))] [14, 15])
           (.seq
            (.region [.op (some 64) none (.mv (.t 14)),
              .op (some 65) none (.call 176 [(false, (.t 64))] none),
              .op (some 66) none (.mv (.t 15)),
              .op (some 67) none (.call 176 [(false, (.t 66))] none),
              .op (some 4) none (.mv (.t 65)),
              .op (some 5) none (.mv (.t 67)),
              .op (some 6) none (.mv (.c (.int .i64 0)))] [4, 5, 6])
            .ret))))))))

/-- schisma/whole.Sub -/
def v156 : VFun where
  params := 2
  results := [.tmp 4]
  fin := []
  thr := false
  body :=
    (.seq
     (.region [.op (some 4) none (.mv (.c (sI [])))] [0, 1])
     (.seq
      (.region [.op (some 5) none (.mv (.t 0)),
        .op (some 6) none (.mv (.t 1)),
        .op (some 7) none (.call 169 [(false, (.t 6))] none),
        .op (some 8) none (.call 94 [(false, (.t 5)), (false, (.t 7))] none),
        .op (some 4) none (.mv (.t 8))] [4])
      .ret))

/-- strconv.ParseInt -/
def v157 : VFun where
  params := 3
  results := [.tmp 6, .tmp 7]
  fin := []
  thr := false
  body :=
    (.seq
     (.region [.op (some 6) none (.mv (.c (.int .i64 0))),
       .op (some 7) none (.mv (.c (.nilifc)))] [0, 1, 2])
     (.seq
      (.region [.op (some 10) none (.mv (.t 0)),
        .op (some 11) none (.mv (.t 1)),
        .op (some 12) none (.mv (.t 2)),
        .op (some 13) none (.call 189 [(false, (.t 10)), (false, (.t 11)), (false, (.t 12))] none),
        .op (some 9) none (.mv (.t 13)),
        .op (some 14) none (.ext (.t 9) 0),
        .op (some 15) none (.ext (.t 9) 1),
        .op (some 8) none (.mv (.t 14)),
        .op (some 7) none (.mv (.t 15))] [0, 1, 2, 7, 8])
      (.seq
       (.seq
        (.region [.op (some 16) none (.mv (.t 7)),
          .op (some 17) none (.bin 2 .neq (.t 16) (.c (.nilifc)))] [0, 1, 2, 7, 8, 17])
        (.cond (.t 17)
         (.seq
          (.region [.op (some 18) none (.mv (.t 8)),
            .op (some 19) none (.mv (.t 0)),
            .op (some 20) none (.mv (.t 1)),
            .op (some 21) none (.mv (.t 2)),
            .op (some 22) none (.mv (.t 7)),
            .op (some 23) none (.call 190 [(false, (.c (sI [80, 97, 114, 115, 101, 73, 110, 116]))), (false, (.t 19)), (false, (.t 20)), (false, (.t 21)), (false, (.t 22))] none),
            .op (some 6) none (.mv (.t 18)),
            .op (some 7) none (.mv (.t 23))] [6, 7])
          .ret)
         .skip))
       (.seq
        (.region [.op (some 24) none (.mv (.t 8)),
          .op (some 6) none (.mv (.t 24)),
          .op (some 7) none (.mv (.c (.nilifc)))] [6, 7])
        .ret))))

/-- schisma/size.checkQuotient -/
def v165 : VFun where
  params := 3
  results := [.tmp 6]
  fin := []
  thr := false
  body :=
    (.seq
     (.region [.op (some 6) none (.mv (.c (.int .i64 0)))] [0, 1, 2])
     (.seq
      (.seq
       (.region [.op (some 8) none (.mv (.t 0)),
         .op (some 9) none (.mv (.t 1)),
         .op (some 10) none (.mv (.t 2)),
         .pre (.frz 9) (.pre (.frz 10) (.op (some 11) none (.bsl 1 2 [.nils 2, .nils 2] [(0, 1, (.t 9)), (1, 1, (.t 10))] (some 100)))),
         .op (some 12) none (.call 194 [(false, (.t 8)), (false, (.t 11))] none),
         .op (some 7) none (.mv (.t 12))] [0, 2, 7])
       (.seq
        (.region [.op (some 13) none (.mv (.t 7)),
          .op (some 14) none (.bin 0 .neq (.t 13) (.c (.int .i64 0)))] [0, 2, 7, 14])
        (.cond (.t 14)
         (.seq
          (.region [.op (some 15) none (.mv (.t 7)),
            .op (some 6) none (.mv (.t 15))] [6])
          .ret)
         .skip)))
      (.seq
       (.seq
        (.region [.op (some 16) none (.mv (.t 0)),
          .op (some 17) none (.mv (.t 2)),
          .pre (.frz 16) (.pre (.frz 17) (.op (some 18) none (.call 195 [(false, (.t 16)), (false, (.t 17))] none))),
          .op (some 19) none (.fld 0 none (.t 18)),
          .op (some 20) none (.len false (.t 19)),
          .op (some 21) none (.bin 0 .eql (.t 20) (.c (.int .i64 0)))] [21])
        (.cond (.t 21)
         (.seq
          (.region [.op (some 6) none (.mv (.c (.int .i64 17)))] [6])
          .ret)
         .skip))
       (.seq
        (.region [.op (some 6) none (.mv (.c (.int .i64 0)))] [6])
        .ret))))

def v166_0 : VC :=
    (.seq
     (.block 1
      (.seq
       (.region [.op (some 53) none (.load (some 3) (.t 9)),
         .op (some 54) none (.mv (.t 13)),
         .op (some 55) none (.call 199 [(false, (.t 53)), (false, (.t 54))] none),
         .op (some 52) none (.mv (.t 55)),
         .op (some 56) none (.ext (.t 52) 0),
         .op (some 57) none (.ext (.t 52) 1),
         .op (some 14) none (.mv (.t 56)),
         .op (some 15) none (.mv (.t 57))] [9, 10, 13, 14, 15])
       (.seq
        (.region [.op (some 59) none (.load (some 3) (.t 10)),
          .op (some 60) none (.mv (.t 13)),
          .op (some 61) none (.call 199 [(false, (.t 59)), (false, (.t 60))] none),
          .op (some 58) none (.mv (.t 61)),
          .op (some 62) none (.ext (.t 58) 0),
          .op (some 63) none (.ext (.t 58) 1),
          .op (some 16) none (.mv (.t 62)),
          .op (some 17) none (.mv (.t 63))] [9, 10, 13, 14, 15, 16, 17])
        (.seq
         (.seq
          (.region [.op (some 64) none (.mv (.t 17)),
            .op (some 65) none (.call 139 [(false, (.t 64))] none),
            .op (some 66) none (.bin 0 .leq (.t 65) (.c (.int .i64 0)))] [9, 10, 13, 14, 15, 16, 17, 66])
          (.cond (.t 66)
           (.region [.op (some 67) none (.mv (.t 15)),
             .op (some 68) none (.call 169 [(false, (.t 67))] none),
             .op (some 69) none (.mv (.t 14)),
             .op (some 70) none (.call 169 [(false, (.t 69))] none),
             .op (some 71) none (.mv (.t 17)),
             .op (some 72) none (.call 169 [(false, (.t 71))] none),
             .op (some 73) none (.mv (.t 16)),
             .op (some 74) none (.call 169 [(false, (.t 73))] none),
             .op (some 14) none (.mv (.t 68)),
             .op (some 15) none (.mv (.t 70)),
             .op (some 16) none (.mv (.t 72)),
             .op (some 17) none (.mv (.t 74))] [9, 10, 13, 14, 15, 16, 17])
           .skip))
         (.seq
          (.seq
           (.region [.op (some 75) none (.mv (.t 16)),
             .op (some 76) none (.call 139 [(false, (.t 75))] none),
             .op (some 77) none (.bin 0 .leq (.t 76) (.c (.int .i64 0)))] [9, 10, 13, 14, 15, 16, 17, 77])
           (.cond (.t 77)
            (.exit 1)
            .skip))
          (.seq
           (.region [.op (some 78) none (.mv (.t 17)),
             .op (some 79) none (.mv (.t 16)),
             .op (some 18) none (.mv (.t 78)),
             .op (some 19) none (.mv (.t 79))] [9, 10, 13, 14, 15, 16, 17, 18, 19])
           (.seq
            (.seq
             (.region [.op (some 80) none (.mv (.t 14)),
               .op (some 81) none (.call 139 [(false, (.t 80))] none),
               .op (some 82) none (.bin 0 .lss (.t 81) (.c (.int .i64 0)))] [9, 10, 13, 14, 15, 16, 17, 18, 19, 82])
             (.cond (.t 82)
              (.region [.op (some 83) none (.mv (.t 16)),
                .op (some 18) none (.mv (.t 83))] [9, 10, 13, 14, 15, 17, 18, 19])
              .skip))
            (.seq
             (.seq
              (.region [.op (some 84) none (.mv (.t 15)),
                .op (some 85) none (.call 139 [(false, (.t 84))] none),
                .op (some 86) none (.bin 0 .lss (.t 85) (.c (.int .i64 0)))] [9, 10, 13, 14, 15, 17, 18, 19, 86])
              (.cond (.t 86)
               (.region [.op (some 87) none (.mv (.t 17)),
                 .op (some 19) none (.mv (.t 87))] [9, 10, 13, 14, 15, 18, 19])
               .skip))
             (.seq
              (.region [.op (some 89) none (.mv (.t 14)),
                .op (some 90) none (.fad 2 (.t 10)),
                .op (some 91) none (.load none (.t 90)),
                .op (some 92) none (.call 95 [(false, (.t 89)), (false, (.t 91))] none),
                .op (some 93) none (.mv (.t 18)),
                .op (some 94) none (.fad 2 (.t 9)),
                .op (some 95) none (.load none (.t 94)),
                .op (some 96) none (.call 95 [(false, (.t 93)), (false, (.t 95))] none),
                .op (some 97) none (.call 112 [(false, (.t 92)), (false, (.t 96))] none),
                .op (some 88) none (.mv (.t 97)),
                .op (some 98) none (.ext (.t 88) 0),
                .op (some 99) none (.ext (.t 88) 1),
                .op (some 100) none (.ext (.t 88) 2),
                .op (some 20) none (.mv (.t 98)),
                .op (some 21) none (.mv (.t 99)),
                .op (some 22) none (.mv (.t 100))] [9, 10, 13, 15, 19, 20])
              (.seq
               (.region [.op (some 102) none (.mv (.t 15)),
                 .op (some 103) none (.fad 2 (.t 10)),
                 .op (some 104) none (.load none (.t 103)),
                 .op (some 105) none (.call 95 [(false, (.t 102)), (false, (.t 104))] none),
                 .op (some 106) none (.mv (.t 19)),
                 .op (some 107) none (.fad 2 (.t 9)),
                 .op (some 108) none (.load none (.t 107)),
                 .op (some 109) none (.call 95 [(false, (.t 106)), (false, (.t 108))] none),
                 .op (some 110) none (.call 112 [(false, (.t 105)), (false, (.t 109))] none),
                 .op (some 101) none (.mv (.t 110)),
                 .op (some 111) none (.ext (.t 101) 0),
                 .op (some 112) none (.ext (.t 101) 1),
                 .op (some 113) none (.ext (.t 101) 2),
                 .op (some 23) none (.mv (.t 111)),
                 .op (some 24) none (.mv (.t 112)),
                 .op (some 25) none (.mv (.t 113))] [9, 10, 13, 20, 23])
               (.seq
                (.region [.op (some 114) none (.mv (.t 20)),
                  .op (some 115) none (.mv (.t 23)),
                  .op (some 116) none (.bin 0 .eql (.t 114) (.t 115))] [9, 10, 13, 20, 116])
                (.cond (.t 116)
                 (.seq
                  (.region [.op (some 117) none (.mv (.t 20)),
                    .op (some 6) none (.mv (.t 117))] [6])
                  .ret)
                 .skip))))))))))))
     (.region [.op (some 50) none (.mv (.t 13)),
       .op (some 51) none (.bin 0 .mul (.t 50) (.c (.int .i64 2))),
       .op (some 13) none (.mv (.t 51))] [9, 10, 13]))
/-- schisma/size.floor -/
def v166 : VFun where
  params := 3
  results := [.tmp 6]
  fin := []
  thr := false
  body :=
    (.seq
     (.region [.op (some 6) none (.mv (.c (sI [])))] [0, 1, 2])
     (.seq
      (.seq
       (.region [.op (some 27) none (.mv (.t 1)),
         .op (some 28) none (.mv (.t 2)),
         .op (some 29) none (.call 196 [(false, (.t 27)), (false, (.t 28))] none),
         .op (some 26) none (.mv (.t 29)),
         .op (some 30) none (.ext (.t 26) 0),
         .op (some 31) none (.ext (.t 26) 1),
         .op (some 7) none (.alloc [sI [], sI []] (some 100)),
         .op none none (.store 2 (.t 7) (.t 30)),
         .op (some 8) none (.mv (.t 31))] [0, 1, 2, 7, 8])
       (.seq
        (.region [.op (some 32) none (.mv (.t 8))] [0, 1, 2, 7, 32])
        (.cond (.t 32)
         (.seq
          (.region [.op (some 33) none (.load (some 2) (.t 7)),
            .op (some 34) none (.call 197 [(false, (.t 33))] none),
            .op (some 6) none (.mv (.t 34))] [6])
          .ret)
         .skip)))
      (.seq
       (.region [.op (some 35) none (.mv (.t 0)),
         .op (some 36) none (.mv (.t 1)),
         .pre (.frz 35) (.pre (.frz 36) (.op (some 37) none (.call 195 [(false, (.t 35)), (false, (.t 36))] none))),
         .op (some 38) none (.mv (.t 0)),
         .op (some 39) none (.mv (.t 2)),
         .pre (.frz 38) (.pre (.frz 39) (.op (some 40) none (.call 195 [(false, (.t 38)), (false, (.t 39))] none))),
         .op (some 9) none (.alloc [.nils 1, .nils 1, sI []] (some 101)),
         .op (some 10) none (.alloc [.nils 1, .nils 1, sI []] (some 102)),
         .op none none (.store 3 (.t 9) (.t 37)),
         .op none none (.store 3 (.t 10) (.t 40))] [9, 10])
       (.seq
        (.seq
         (.region [.op (some 42) none (.load (some 3) (.t 9)),
           .op (some 43) none (.load (some 3) (.t 10)),
           .op (some 44) none (.call 198 [(false, (.t 42)), (false, (.t 43))] none),
           .op (some 41) none (.mv (.t 44)),
           .op (some 45) none (.ext (.t 41) 0),
           .op (some 46) none (.ext (.t 41) 1),
           .op (some 11) none (.mv (.t 45)),
           .op (some 12) none (.mv (.t 46))] [9, 10, 11, 12])
         (.seq
          (.region [.op (some 47) none (.mv (.t 12))] [9, 10, 11, 47])
          (.cond (.t 47)
           (.seq
            (.region [.op (some 48) none (.mv (.t 11)),
              .op (some 49) none (.call 96 [(false, (.t 48))] none),
              .op (some 6) none (.mv (.t 49))] [6])
            .ret)
           .skip)))
        (.seq
         (.region [.op (some 13) none (.mv (.c (.int .i64 64)))] [9, 10, 13])
         (.block 0
          (.loop v166_0)))))))

/-- schisma/whole.Neg -/
def v169 : VFun where
  params := 1
  results := [.tmp 2]
  fin := []
  thr := false
  body :=
    (.seq
     (.region [.op (some 2) none (.mv (.c (sI [])))] [0])
     (.seq
      (.region [.op (some 6) none (.mv (.t 0)),
        .op (some 7) none (.call 144 [(false, (.t 6))] none),
        .op (some 5) none (.mv (.t 7)),
        .op (some 8) none (.ext (.t 5) 0),
        .op (some 9) none (.ext (.t 5) 1),
        .op (some 3) none (.mv (.t 8)),
        .op (some 4) none (.mv (.t 9))] [3, 4])
      (.seq
       (.region [.op (some 10) none (.mv (.t 3)),
         .op (some 11) none (.un .not (.t 10)),
         .op (some 12) none (.mv (.t 4)),
         .op (some 13) none (.call 145 [(false, (.t 11)), (false, (.t 12))] none),
         .op (some 2) none (.mv (.t 13))] [2])
       .ret)))

/-- strconv.Atoi -/
def v170 : VFun where
  params := 1
  results := [.tmp 2, .tmp 3]
  fin := []
  thr := false
  body :=
    (.seq
     (.region [.op (some 2) none (.mv (.c (.int .i64 0))),
       .op (some 3) none (.mv (.c (.nilifc)))] [0])
     (.seq
      (.region [.op (some 7) none (.mv (.t 0)),
        .op (some 8) none (.call 202 [(false, (.t 7))] none),
        .op (some 6) none (.mv (.t 8)),
        .op (some 9) none (.ext (.t 6) 0),
        .op (some 10) none (.ext (.t 6) 1),
        .op (some 4) none (.mv (.t 9)),
        .op (some 5) none (.mv (.t 10))] [0, 4, 5])
      (.seq
       (.seq
        (.region [.op (some 11) none (.mv (.t 5)),
          .op (some 12) none (.bin 2 .neq (.t 11) (.c (.nilifc)))] [0, 4, 5, 12])
        (.cond (.t 12)
         (.seq
          (.region [.op (some 13) none (.mv (.t 4)),
            .op (some 14) none (.mv (.t 0)),
            .op (some 15) none (.mv (.t 5)),
            .op (some 16) none (.call 190 [(false, (.c (sI [65, 116, 111, 105]))), (false, (.t 14)), (false, (.c (.int .i64 0))), (false, (.c (.int .i64 0))), (false, (.t 15))] none),
            .op (some 2) none (.mv (.t 13)),
            .op (some 3) none (.mv (.t 16))] [2, 3])
          .ret)
         .skip))
       (.seq
        (.region [.op (some 17) none (.mv (.t 4)),
          .op (some 2) none (.mv (.t 17)),
          .op (some 3) none (.mv (.c (.nilifc)))] [2, 3])
        .ret))))

/-- schisma/decimal.both -/
def v171 : VFun where
  params := 2
  results := [.tmp 4, .tmp 5, .tmp 6]
  fin := []
  thr := false
  body :=
    (.seq
     (.region [.op (some 4) none (.mv (.c (.int .u64 0))),
       .op (some 5) none (.mv (.c (.int .u64 0))),
       .op (some 6) none (.mv (.c (.bool false)))] [0, 1])
     (.seq
      (.seq
       (.region [.op (some 7) none (.mv (.t 0)),
         .op (some 8) none (.len true (.t 7)),
         .op (some 9) none (.bin 0 .gtr (.t 8) (.c (.int .i64 18))),
         .op (some 10) none (.mv (.t 9)),
         .op (some 11) (some (10, false)) (.mv (.t 1)),
         .op (some 12) (some (10, false)) (.len true (.t 11)),
         .op (some 13) (some (10, false)) (.bin 0 .gtr (.t 12) (.c (.int .i64 18))),
         .op (some 14) none (.pick (.t 10) (.c (.bool true)) (.t 13))] [0, 1, 14])
       (.cond (.t 14)
        (.seq
         (.region [.op (some 4) none (.mv (.c (.int .u64 0))),
           .op (some 5) none (.mv (.c (.int .u64 0))),
           .op (some 6) none (.mv (.c (.bool false)))] [4, 5, 6])
         .ret)
        .skip))
      (.seq
       (.region [.op (some 16) none (.mv (.t 0)),
         .op (some 17) none (.call 203 [(false, (.t 16))] none),
         .op (some 15) none (.mv (.t 17)),
         .op (some 18) none (.ext (.t 15) 0),
         .op (some 19) none (.ext (.t 15) 1),
         .op (some 4) none (.mv (.t 18))] [1, 4])
       (.seq
        (.region [.op (some 21) none (.mv (.t 1)),
          .op (some 22) none (.call 203 [(false, (.t 21))] none),
          .op (some 20) none (.mv (.t 22)),
          .op (some 23) none (.ext (.t 20) 0),
          .op (some 24) none (.ext (.t 20) 1),
          .op (some 5) none (.mv (.t 23))] [4, 5])
        (.seq
         (.region [.op (some 25) none (.mv (.t 4)),
           .op (some 26) none (.mv (.t 5)),
           .op (some 4) none (.mv (.t 25)),
           .op (some 5) none (.mv (.t 26)),
           .op (some 6) none (.mv (.c (.bool true)))] [4, 5, 6])
         .ret)))))

/-- schisma/decimal.Of -/
def v172 : VFun where
  params := 1
  results := [.tmp 2]
  fin := []
  thr := false
  body :=
    (.seq
     (.region [.op (some 2) none (.mv (.c (sI [])))] [0])
     (.seq
      (.region [.op (some 3) none (.mv (.t 0)),
        .op (some 4) none (.call 204 [(false, (.t 3)), (false, (.c (.int .i64 10)))] none),
        .op (some 2) none (.mv (.t 4))] [2])
      .ret))

def v173_0 : VC :=
    (.seq
     (.region [.op (some 28) none (.bin 0 .lss (.t 27) (.t 26))] [0, 3, 4, 5, 25, 26, 27, 28])
     (.seq
      (.cond (.t 28)
       .skip
       (.exit 2))
      (.seq
       (.block 3
        (.seq
         (.region [.op (some 29) none (.iad 1 (.t 25) (.t 27)),
           .op (some 30) none (.load none (.t 29)),
           .op (some 7) none (.mv (.t 30))] [0, 3, 4, 5, 7, 25, 26, 27])
         (.region [.op (some 31) none (.mv (.t 5)),
           .op (some 32) none (.bin 0 .mul (.c (.int .u64 10)) (.t 31)),
           .op (some 33) none (.mv (.t 7)),
           .op (some 34) none (.bin 0 .sub (.t 33) (.c (.int .u8 48))),
           .op (some 35) none (.cint .u64 (.t 34)),
           .op (some 36) none (.bin 0 .add (.t 32) (.t 35)),
           .op (some 5) none (.mv (.t 36))] [0, 3, 4, 5, 25, 26, 27])))
       (.region [.op (some 37) none (.bin 0 .add (.t 27) (.c (.int .i64 1))),
         .op (some 27) none (.mv (.t 37))] [0, 3, 4, 5, 25, 26, 27]))))
def v173_1 : VC :=
    (.seq
     (.seq
      (.region [.op (some 15) none (.mv (.t 4)),
        .op (some 16) none (.bin 0 .gtr (.t 15) (.c (.int .i64 0)))] [0, 3, 4, 16])
      (.cond (.t 16)
       .skip
       (.exit 0)))
     (.seq
      (.block 1
       (.seq
        (.region [.op (some 5) none (.mv (.c (.int .u64 0)))] [0, 3, 4, 5])
        (.seq
         (.seq
          (.region [.op (some 19) none (.mv (.t 0)),
            .op (some 20) none (.mv (.t 4)),
            .op (some 21) none (.bin 0 .sub (.t 20) (.c (.int .i64 9))),
            .op (some 22) none (.mnmx true (.c (.int .i64 0)) (.t 21)),
            .op (some 23) none (.mv (.t 4)),
            .op (some 24) none (.slice 0 (.t 19) (some (.t 22)) (some (.t 23)) none),
            .op (some 25) none (.s2b (.t 24) (some 102)),
            .op (some 26) none (.len false (.t 25)),
            .op (some 27) none (.mv (.c (.int .i64 0)))] [0, 3, 4, 5, 25, 26, 27])
          (.block 2
           (.loop v173_0)))
         (.region [.op (some 38) none (.mv (.t 3)),
           .op (some 39) none (.mv (.t 5)),
           .op (some 40) none (.bsl 1 1 [.int .u64 0] [(0, 1, (.t 39))] (some 103)),
           .op (some 41) none (.app 1 8 false (.t 38) (.t 40) (some 104)),
           .op (some 3) none (.mv (.t 41))] [0, 3, 4]))))
      (.region [.op (some 17) none (.mv (.t 4)),
        .op (some 18) none (.bin 0 .sub (.t 17) (.c (.int .i64 9))),
        .op (some 4) none (.mv (.t 18))] [0, 3, 4])))
/-- schisma/decimal.cut -/
def v173 : VFun where
  params := 1
  results := [.tmp 2]
  fin := []
  thr := false
  body :=
    (.seq
     (.region [.op (some 2) none (.nil 1 (some 100))] [0])
     (.seq
      (.region [.op (some 8) none (.mv (.t 0)),
        .op (some 9) none (.len true (.t 8)),
        .op (some 10) none (.bin 0 .quo (.t 9) (.c (.int .i64 9))),
        .op (some 11) none (.bin 0 .add (.t 10) (.c (.int .i64 1))),
        .op (some 12) none (.mks 1 8 [.int .u64 0] (.c (.int .i64 0)) (.t 11) (some 101)),
        .op (some 3) none (.mv (.t 12))] [0, 3])
      (.seq
       (.seq
        (.region [.op (some 13) none (.mv (.t 0)),
          .op (some 14) none (.len true (.t 13)),
          .op (some 4) none (.mv (.t 14))] [0, 3, 4])
        (.block 0
         (.loop v173_1)))
       (.seq
        (.region [.op (some 42) none (.mv (.t 3)),
          .op (some 43) none (.call 175 [(true, (.t 42))] (some (some 105))),
          .op (some 2) none (.mv (.t 43))] [2])
        .ret))))

def v174_0 : VC :=
    (.seq
     (.seq
      (.region [.op (some 8) none (.mv (.t 7)),
        .op (some 9) none (.mv (.t 1)),
        .op (some 10) none (.len false (.t 9)),
        .op (some 11) none (.bin 0 .leq (.t 8) (.t 10))] [0, 1, 2, 6, 7, 11])
      (.cond (.t 11)
       .skip
       (.exit 0)))
     (.seq
      (.block 1
       (.seq
        (.region [.op (some 14) none (.mv (.t 6)),
          .op (some 15) none (.mv (.t 0)),
          .op (some 16) none (.mv (.t 2)),
          .op (some 17) none (.mv (.t 7)),
          .op (some 18) none (.bin 0 .add (.t 16) (.t 17)),
          .op (some 19) none (.iad 1 (.t 15) (.t 18)),
          .op (some 20) none (.load none (.t 19)),
          .op (some 21) none (.bin 0 .add (.t 14) (.t 20)),
          .op (some 6) none (.mv (.t 21))] [0, 1, 2, 6, 7])
        (.seq
         (.seq
          (.region [.op (some 22) none (.mv (.t 7)),
            .op (some 23) none (.mv (.t 1)),
            .op (some 24) none (.len false (.t 23)),
            .op (some 25) none (.bin 0 .lss (.t 22) (.t 24))] [0, 1, 2, 6, 7, 25])
          (.cond (.t 25)
           (.region [.op (some 26) none (.mv (.t 6)),
             .op (some 27) none (.mv (.t 1)),
             .op (some 28) none (.mv (.t 7)),
             .op (some 29) none (.iad 1 (.t 27) (.t 28)),
             .op (some 30) none (.load none (.t 29)),
             .op (some 31) none (.bin 0 .add (.t 26) (.t 30)),
             .op (some 6) none (.mv (.t 31))] [0, 1, 2, 6, 7])
           .skip))
         (.seq
          (.region [.op (some 32) none (.mv (.t 0)),
            .op (some 33) none (.mv (.t 2)),
            .op (some 34) none (.mv (.t 7)),
            .op (some 35) none (.bin 0 .add (.t 33) (.t 34)),
            .op (some 36) none (.mv (.t 6)),
            .op (some 37) none (.bin 0 .rem (.t 36) (.c (.int .u64 1000000000))),
            .op (some 38) none (.iad 1 (.t 32) (.t 35)),
            .op none none (.store 1 (.t 38) (.t 37))] [0, 1, 2, 6, 7])
          (.region [.op (some 39) none (.mv (.t 6)),
            .op (some 40) none (.bin 0 .quo (.t 39) (.c (.int .u64 1000000000))),
            .op (some 6) none (.mv (.t 40))] [0, 1, 2, 6, 7])))))
      (.region [.op (some 12) none (.mv (.t 7)),
        .op (some 13) none (.bin 0 .add (.t 12) (.c (.int .i64 1))),
        .op (some 7) none (.mv (.t 13))] [0, 1, 2, 6, 7])))
/-- (schisma/decimal.pieces).back -/
def v174 : VFun where
  params := 3
  results := []
  fin := []
  thr := false
  body :=
    (.seq
     (.region [.op (some 6) none (.mv (.c (.int .u64 0)))] [0, 1, 2, 6])
     (.seq
      (.region [.op (some 7) none (.mv (.c (.int .i64 0)))] [0, 1, 2, 6, 7])
      (.block 0
       (.loop v174_0))))

def v175_0 : VC :=
    (.seq
     (.seq
      (.region [.op (some 3) none (.mv (.t 0)),
        .op (some 4) none (.len false (.t 3)),
        .op (some 5) none (.bin 0 .gtr (.t 4) (.c (.int .i64 0))),
        .op (some 6) none (.mv (.t 5)),
        .op (some 7) (some (6, true)) (.mv (.t 0)),
        .op (some 8) (some (6, true)) (.mv (.t 0)),
        .op (some 9) (some (6, true)) (.len false (.t 8)),
        .op (some 10) (some (6, true)) (.bin 0 .sub (.t 9) (.c (.int .i64 1))),
        .op (some 11) (some (6, true)) (.iad 1 (.t 7) (.t 10)),
        .op (some 12) (some (6, true)) (.load none (.t 11)),
        .op (some 13) (some (6, true)) (.bin 0 .eql (.t 12) (.c (.int .u64 0))),
        .op (some 14) none (.pick (.t 6) (.t 13) (.c (.bool false)))] [0, 14])
      (.cond (.t 14)
       .skip
       (.exit 0)))
     (.block 1
      (.region [.op (some 15) none (.mv (.t 0)),
        .op (some 16) none (.mv (.t 0)),
        .op (some 17) none (.len false (.t 16)),
        .op (some 18) none (.bin 0 .sub (.t 17) (.c (.int .i64 1))),
        .op (some 19) none (.slice 1 (.t 15) none (some (.t 18)) none),
        .op (some 0) none (.mv (.t 19))] [0])))
/-- (schisma/decimal.pieces).trim -/
def v175 : VFun where
  params := 1
  results := [.tmp 2]
  fin := []
  thr := false
  body :=
    (.seq
     (.region [.op (some 2) none (.nil 1 (some 100))] [0])
     (.seq
      (.block 0
       (.loop v175_0))
      (.seq
       (.region [.op (some 20) none (.mv (.t 0)),
         .op (some 2) none (.mv (.t 20))] [2])
       .ret)))

def v176_0 : VC :=
    (.seq
     (.seq
      (.region [.op (some 21) none (.mv (.t 6)),
        .op (some 22) none (.bin 0 .lss (.t 21) (.c (.int .i64 9))),
        .op (some 23) none (.mv (.t 22)),
        .op (some 24) (some (23, true)) (.mv (.t 4)),
        .op (some 25) (some (23, true)) (.bin 0 .add (.t 24) (.c (.int .i64 1))),
        .op (some 26) (some (23, true)) (.mv (.t 0)),
        .op (some 27) (some (23, true)) (.len false (.t 26)),
        .op (some 28) (some (23, true)) (.bin 0 .lss (.t 25) (.t 27)),
        .op (some 29) (some (23, true)) (.mv (.t 28)),
        .op (some 30) (some (29, false)) (.mv (.t 5)),
        .op (some 31) (some (29, false)) (.bin 0 .gtr (.t 30) (.c (.int .u64 0))),
        .op (some 32) (some (23, true)) (.pick (.t 29) (.c (.bool true)) (.t 31)),
        .op (some 33) none (.pick (.t 23) (.t 32) (.c (.bool false)))] [0, 3, 4, 5, 6, 14, 15, 16, 33])
      (.cond (.t 33)
       .skip
       (.exit 2)))
     (.seq
      (.block 3
       (.seq
        (.region [.op (some 36) none (.mv (.t 3)),
          .op (some 37) none (.mv (.t 5)),
          .op (some 38) none (.bin 0 .rem (.t 37) (.c (.int .u64 10))),
          .op (some 39) none (.bin 0 .add (.c (.int .u64 48)) (.t 38)),
          .op (some 40) none (.cint .u8 (.t 39)),
          .op (some 41) none (.bsl 1 1 [.int .u8 0] [(0, 1, (.t 40))] (some 101)),
          .op (some 42) none (.app 1 1 false (.t 36) (.t 41) (some 102)),
          .op (some 3) none (.mv (.t 42))] [0, 3, 4, 5, 6, 14, 15, 16])
        (.region [.op (some 43) none (.mv (.t 5)),
          .op (some 44) none (.bin 0 .quo (.t 43) (.c (.int .u64 10))),
          .op (some 5) none (.mv (.t 44))] [0, 3, 4, 5, 6, 14, 15, 16])))
      (.region [.op (some 34) none (.mv (.t 6)),
        .op (some 35) none (.bin 0 .add (.t 34) (.c (.int .i64 1))),
        .op (some 6) none (.mv (.t 35))] [0, 3, 4, 5, 6, 14, 15, 16])))
def v176_1 : VC :=
    (.seq
     (.region [.op (some 17) none (.bin 0 .lss (.t 16) (.t 15))] [0, 3, 14, 15, 16, 17])
     (.seq
      (.cond (.t 17)
       .skip
       (.exit 0))
      (.seq
       (.block 1
        (.seq
         (.region [.op (some 18) none (.mv (.t 16)),
           .op (some 19) none (.iad 1 (.t 14) (.t 16)),
           .op (some 20) none (.load none (.t 19)),
           .op (some 4) none (.mv (.t 18)),
           .op (some 5) none (.mv (.t 20))] [0, 3, 4, 5, 14, 15, 16])
         (.seq
          (.region [.op (some 6) none (.mv (.c (.int .i64 0)))] [0, 3, 4, 5, 6, 14, 15, 16])
          (.block 2
           (.loop v176_0)))))
       (.region [.op (some 45) none (.bin 0 .add (.t 16) (.c (.int .i64 1))),
         .op (some 16) none (.mv (.t 45))] [0, 3, 14, 15, 16]))))
/-- (schisma/decimal.pieces).text -/
def v176 : VFun where
  params := 1
  results := [.tmp 2]
  fin := []
  thr := false
  body :=
    (.seq
     (.region [.op (some 2) none (.mv (.c (sI [])))] [0])
     (.seq
      (.seq
       (.region [.op (some 7) none (.mv (.t 0)),
         .op (some 8) none (.len false (.t 7)),
         .op (some 9) none (.bin 0 .eql (.t 8) (.c (.int .i64 0)))] [0, 9])
       (.cond (.t 9)
        (.seq
         (.region [.op (some 2) none (.mv (.c (sI [48])))] [2])
         .ret)
        .skip))
      (.seq
       (.region [.op (some 10) none (.mv (.t 0)),
         .op (some 11) none (.len false (.t 10)),
         .op (some 12) none (.bin 0 .mul (.c (.int .i64 9)) (.t 11)),
         .op (some 13) none (.mks 1 1 [.int .u8 0] (.c (.int .i64 0)) (.t 12) (some 100)),
         .op (some 3) none (.mv (.t 13))] [0, 3])
       (.seq
        (.seq
         (.region [.op (some 14) none (.mv (.t 0)),
           .op (some 15) none (.len false (.t 14)),
           .op (some 16) none (.mv (.c (.int .i64 0)))] [0, 3, 14, 15, 16])
         (.block 0
          (.loop v176_1)))
        (.seq
         (.region [.op (some 46) none (.mv (.t 3)),
           .op (some 47) none (.call 205 [(true, (.t 46))] none)] [3])
         (.seq
          (.region [.op (some 48) none (.mv (.t 3)),
            .op (some 49) none (.b2s (.t 48)),
            .op (some 2) none (.mv (.t 49))] [2])
          .ret))))))

def v177_0 : VC :=
    (.seq
     (.seq
      (.region [.op (some 13) none (.mv (.t 11)),
        .op (some 14) none (.mv (.t 1)),
        .op (some 15) none (.len false (.t 14)),
        .op (some 16) none (.bin 0 .leq (.t 13) (.t 15))] [0, 1, 2, 3, 9, 10, 11, 16])
      (.cond (.t 16)
       .skip
       (.exit 0)))
     (.seq
      (.block 1
       (.seq
        (.seq
         (.region [.op (some 19) none (.mv (.t 11)),
           .op (some 20) none (.mv (.t 1)),
           .op (some 21) none (.len false (.t 20)),
           .op (some 22) none (.bin 0 .lss (.t 19) (.t 21))] [0, 1, 2, 3, 9, 10, 11, 22])
         (.cond (.t 22)
          (.region [.op (some 23) none (.mv (.t 10)),
            .op (some 24) none (.mv (.t 2)),
            .op (some 25) none (.mv (.t 1)),
            .op (some 26) none (.mv (.t 11)),
            .op (some 27) none (.iad 1 (.t 25) (.t 26)),
            .op (some 28) none (.load none (.t 27)),
            .op (some 29) none (.bin 0 .mul (.t 24) (.t 28)),
            .op (some 30) none (.bin 0 .add (.t 23) (.t 29)),
            .op (some 10) none (.mv (.t 30))] [0, 1, 2, 3, 9, 10, 11])
          .skip))
        (.seq
         (.region [.op (some 31) none (.mv (.t 0)),
           .op (some 32) none (.mv (.t 3)),
           .op (some 33) none (.mv (.t 11)),
           .op (some 34) none (.bin 0 .add (.t 32) (.t 33)),
           .op (some 35) none (.iad 1 (.t 31) (.t 34)),
           .op (some 36) none (.load none (.t 35)),
           .op (some 37) none (.cint .i64 (.t 36)),
           .op (some 38) none (.mv (.t 10)),
           .op (some 39) none (.bin 0 .rem (.t 38) (.c (.int .u64 1000000000))),
           .op (some 40) none (.cint .i64 (.t 39)),
           .op (some 41) none (.bin 0 .sub (.t 37) (.t 40)),
           .op (some 42) none (.mv (.t 9)),
           .op (some 43) none (.bin 0 .sub (.t 41) (.t 42)),
           .op (some 12) none (.mv (.t 43))] [0, 1, 2, 3, 10, 11, 12])
         (.seq
          (.region [.op (some 44) none (.mv (.t 10)),
            .op (some 45) none (.bin 0 .quo (.t 44) (.c (.int .u64 1000000000))),
            .op (some 10) none (.mv (.t 45))] [0, 1, 2, 3, 10, 11, 12])
          (.seq
           (.region [.op (some 9) none (.mv (.c (.int .i64 0)))] [0, 1, 2, 3, 9, 10, 11, 12])
           (.seq
            (.seq
             (.region [.op (some 46) none (.mv (.t 12)),
               .op (some 47) none (.bin 0 .lss (.t 46) (.c (.int .i64 0)))] [0, 1, 2, 3, 9, 10, 11, 12, 47])
             (.cond (.t 47)
              (.region [.op (some 48) none (.mv (.t 12)),
                .op (some 49) none (.bin 0 .add (.t 48) (.c (.int .i64 1000000000))),
                .op (some 12) none (.mv (.t 49)),
                .op (some 9) none (.mv (.c (.int .i64 1)))] [0, 1, 2, 3, 9, 10, 11, 12])
              .skip))
            (.region [.op (some 50) none (.mv (.t 0)),
              .op (some 51) none (.mv (.t 3)),
              .op (some 52) none (.mv (.t 11)),
              .op (some 53) none (.bin 0 .add (.t 51) (.t 52)),
              .op (some 54) none (.mv (.t 12)),
              .op (some 55) none (.cint .u64 (.t 54)),
              .op (some 56) none (.iad 1 (.t 50) (.t 53)),
              .op none none (.store 1 (.t 56) (.t 55))] [0, 1, 2, 3, 9, 10, 11])))))))
      (.region [.op (some 17) none (.mv (.t 11)),
        .op (some 18) none (.bin 0 .add (.t 17) (.c (.int .i64 1))),
        .op (some 11) none (.mv (.t 18))] [0, 1, 2, 3, 9, 10, 11])))
/-- (schisma/decimal.pieces).take -/
def v177 : VFun where
  params := 4
  results := [.tmp 8]
  fin := []
  thr := false
  body :=
    (.seq
     (.region [.op (some 8) none (.mv (.c (.bool false)))] [0, 1, 2, 3])
     (.seq
      (.region [.op (some 9) none (.mv (.c (.int .i64 0)))] [0, 1, 2, 3, 9])
      (.seq
       (.region [.op (some 10) none (.mv (.c (.int .u64 0)))] [0, 1, 2, 3, 9, 10])
       (.seq
        (.seq
         (.region [.op (some 11) none (.mv (.c (.int .i64 0)))] [0, 1, 2, 3, 9, 10, 11])
         (.block 0
          (.loop v177_0)))
        (.seq
         (.region [.op (some 57) none (.mv (.t 9)),
           .op (some 58) none (.bin 0 .gtr (.t 57) (.c (.int .i64 0))),
           .op (some 8) none (.mv (.t 58))] [8])
         .ret)))))

def v178_0 : VC :=
    (.seq
     (.region [.op (some 27) none (.bin 0 .lss (.t 26) (.t 25))] [1, 5, 6, 7, 8, 17, 18, 19, 24, 25, 26, 27])
     (.seq
      (.cond (.t 27)
       .skip
       (.exit 2))
      (.seq
       (.block 3
        (.seq
         (.region [.op (some 28) none (.mv (.t 26)),
           .op (some 29) none (.iad 1 (.t 24) (.t 26)),
           .op (some 30) none (.load none (.t 29)),
           .op (some 9) none (.mv (.t 28)),
           .op (some 10) none (.mv (.t 30))] [1, 5, 6, 7, 8, 9, 10, 17, 18, 19, 24, 25, 26])
         (.seq
          (.region [.op (some 31) none (.mv (.t 8)),
            .op (some 32) none (.mv (.t 5)),
            .op (some 33) none (.mv (.t 6)),
            .op (some 34) none (.mv (.t 9)),
            .op (some 35) none (.bin 0 .add (.t 33) (.t 34)),
            .op (some 36) none (.iad 1 (.t 32) (.t 35)),
            .op (some 37) none (.load none (.t 36)),
            .op (some 38) none (.mv (.t 7)),
            .op (some 39) none (.mv (.t 10)),
            .op (some 40) none (.bin 0 .mul (.t 38) (.t 39)),
            .op (some 41) none (.bin 0 .add (.t 37) (.t 40)),
            .op (some 42) none (.bin 0 .add (.t 31) (.t 41)),
            .op (some 8) none (.mv (.t 42))] [1, 5, 6, 7, 8, 9, 17, 18, 19, 24, 25, 26])
          (.seq
           (.region [.op (some 43) none (.mv (.t 5)),
             .op (some 44) none (.mv (.t 6)),
             .op (some 45) none (.mv (.t 9)),
             .op (some 46) none (.bin 0 .add (.t 44) (.t 45)),
             .op (some 47) none (.mv (.t 8)),
             .op (some 48) none (.bin 0 .rem (.t 47) (.c (.int .u64 1000000000))),
             .op (some 49) none (.iad 1 (.t 43) (.t 46)),
             .op none none (.store 1 (.t 49) (.t 48))] [1, 5, 6, 7, 8, 17, 18, 19, 24, 25, 26])
           (.region [.op (some 50) none (.mv (.t 8)),
             .op (some 51) none (.bin 0 .quo (.t 50) (.c (.int .u64 1000000000))),
             .op (some 8) none (.mv (.t 51))] [1, 5, 6, 7, 8, 17, 18, 19, 24, 25, 26])))))
       (.region [.op (some 52) none (.bin 0 .add (.t 26) (.c (.int .i64 1))),
         .op (some 26) none (.mv (.t 52))] [1, 5, 6, 7, 8, 17, 18, 19, 24, 25, 26]))))
def v178_1 : VC :=
    (.seq
     (.region [.op (some 20) none (.bin 0 .lss (.t 19) (.t 18))] [1, 5, 17, 18, 19, 20])
     (.seq
      (.cond (.t 20)
       .skip
       (.exit 0))
      (.seq
       (.block 1
        (.seq
         (.region [.op (some 21) none (.mv (.t 19)),
           .op (some 22) none (.iad 1 (.t 17) (.t 19)),
           .op (some 23) none (.load none (.t 22)),
           .op (some 6) none (.mv (.t 21)),
           .op (some 7) none (.mv (.t 23))] [1, 5, 6, 7, 17, 18, 19])
         (.seq
          (.region [.op (some 8) none (.mv (.c (.int .u64 0)))] [1, 5, 6, 7, 8, 17, 18, 19])
          (.seq
           (.seq
            (.region [.op (some 24) none (.mv (.t 1)),
              .op (some 25) none (.len false (.t 24)),
              .op (some 26) none (.mv (.c (.int .i64 0)))] [1, 5, 6, 7, 8, 17, 18, 19, 24, 25, 26])
            (.block 2
             (.loop v178_0)))
           (.region [.op (some 53) none (.mv (.t 5)),
             .op (some 54) none (.mv (.t 6)),
             .op (some 55) none (.mv (.t 1)),
             .op (some 56) none (.len false (.t 55)),
             .op (some 57) none (.bin 0 .add (.t 54) (.t 56)),
             .op (some 58) none (.mv (.t 8)),
             .op (some 59) none (.iad 1 (.t 53) (.t 57)),
             .op none none (.store 1 (.t 59) (.t 58))] [1, 5, 17, 18, 19])))))
       (.region [.op (some 60) none (.bin 0 .add (.t 19) (.c (.int .i64 1))),
         .op (some 19) none (.mv (.t 60))] [1, 5, 17, 18, 19]))))
/-- (schisma/decimal.pieces).times -/
def v178 : VFun where
  params := 2
  results := [.tmp 4]
  fin := []
  thr := false
  body :=
    (.seq
     (.region [.op (some 4) none (.nil 1 (some 100))] [0, 1])
     (.seq
      (.region [.op (some 11) none (.mv (.t 0)),
        .op (some 12) none (.len false (.t 11)),
        .op (some 13) none (.mv (.t 1)),
        .op (some 14) none (.len false (.t 13)),
        .op (some 15) none (.bin 0 .add (.t 12) (.t 14)),
        .op (some 16) none (.mks 1 8 [.int .u64 0] (.t 15) (.t 15) (some 101)),
        .op (some 5) none (.mv (.t 16))] [0, 1, 5])
      (.seq
       (.seq
        (.region [.op (some 17) none (.mv (.t 0)),
          .op (some 18) none (.len false (.t 17)),
          .op (some 19) none (.mv (.c (.int .i64 0)))] [1, 5, 17, 18, 19])
        (.block 0
         (.loop v178_1)))
       (.seq
        (.region [.op (some 61) none (.mv (.t 5)),
          .op (some 62) none (.call 175 [(true, (.t 61))] (some (some 102))),
          .op (some 4) none (.mv (.t 62))] [4])
        .ret))))

/-- schisma/table.great -/
def v179 : VFun where
  params := 1
  results := [.tmp 2]
  fin := []
  thr := false
  body :=
    (.seq
     (.region [.op (some 2) none (.mv (.c (.bool false)))] [0])
     (.seq
      (.region [.op (some 3) none (.mv (.t 0)),
        .op (some 4) none (.bin 0 .gtr (.t 3) (.c (.int .i64 1000000000))),
        .op (some 5) none (.mv (.t 4)),
        .op (some 6) (some (5, false)) (.mv (.t 0)),
        .op (some 7) (some (5, false)) (.bin 0 .lss (.t 6) (.c (.int .i64 (-1000000000)))),
        .op (some 8) none (.pick (.t 5) (.c (.bool true)) (.t 7)),
        .op (some 2) none (.mv (.t 8))] [2])
      .ret))

/-- schisma/hermite.pivot -/
def v180 : VFun where
  params := 1
  results := [.tmp 2]
  fin := []
  thr := false
  body :=
    (.seq
     (.region [.op (some 2) none (.mv (.c (.int .i64 0)))] [0])
     (.seq
      (.region [.op (some 3) none (.mv (.t 0)),
        .op (some 4) none (.call 93 [(false, (.t 3)), (false, (.f 206))] none),
        .op (some 2) none (.mv (.t 4))] [2])
      .ret))

/-- slices.ContainsFunc[schisma/api.Matrix,schisma/api.Row] -/
def v181 : VFun where
  params := 2
  results := [.tmp 4]
  fin := []
  thr := false
  body :=
    (.seq
     (.region [.op (some 4) none (.mv (.c (.bool false)))] [0, 1])
     (.seq
      (.region [.op (some 5) none (.mv (.t 0)),
        .op (some 6) none (.mv (.t 1)),
        .op (some 7) none (.call 207 [(false, (.t 5)), (false, (.t 6))] none),
        .op (some 8) none (.bin 0 .geq (.t 7) (.c (.int .i64 0))),
        .op (some 4) none (.mv (.t 8))] [4])
      .ret))

/-- schisma/hermite.isForm$1 -/
def v182 : VFun where
  params := 3
  results := [.tmp 4]
  fin := []
  thr := false
  body :=
    (.seq
     (.region [.op (some 4) none (.mv (.c (.bool false)))] [0, 1, 2])
     (.seq
      (.region [.op (some 5) none (.mv (.t 0)),
        .op (some 6) none (.load none (.t 1)),
        .op (some 7) none (.iad 1 (.t 5) (.t 6)),
        .op (some 8) none (.load none (.t 7)),
        .op (some 9) none (.bin 0 .lss (.t 8) (.c (.int .i64 0))),
        .op (some 10) none (.mv (.t 9)),
        .op (some 11) (some (10, false)) (.mv (.t 0)),
        .op (some 12) (some (10, false)) (.load none (.t 1)),
        .op (some 13) (some (10, false)) (.iad 1 (.t 11) (.t 12)),
        .op (some 14) (some (10, false)) (.load none (.t 13)),
        .op (some 15) (some (10, false)) (.load none (.t 2)),
        .op (some 16) (some (10, false)) (.load none (.t 1)),
        .op (some 17) (some (10, false)) (.iad 1 (.t 15) (.t 16)),
        .op (some 18) (some (10, false)) (.load none (.t 17)),
        .op (some 19) (some (10, false)) (.bin 0 .geq (.t 14) (.t 18)),
        .op (some 20) none (.pick (.t 10) (.c (.bool true)) (.t 19)),
        .op (some 4) none (.mv (.t 20))] [4])
      .ret))

def v183_0 : VC :=
    (.seq
     (.region [.op (some 28) none (.bin 0 .lss (.t 27) (.t 26))] [0, 3, 6, 9, 10, 11, 25, 26, 27, 28])
     (.seq
      (.cond (.t 28)
       .skip
       (.exit 2))
      (.seq
       (.block 3
        (.seq
         (.region [.op (some 29) none (.iad 1 (.t 25) (.t 27)),
           .op (some 30) none (.load none (.t 29)),
           .op (some 8) none (.mv (.t 30))] [0, 3, 6, 8, 9, 10, 11, 25, 26, 27])
         (.region [.op (some 31) none (.fad 0 (.t 6)),
           .op (some 32) none (.load none (.t 31)),
           .op (some 33) none (.mv (.t 8)),
           .op (some 34) none (.call 96 [(false, (.t 33))] none),
           .op (some 35) none (.bsl 1 1 [sI []] [(0, 1, (.t 34))] none),
           .pre (.ownt 32 1 none) (.pre (.junk 31 0) (.op (some 36) none (.app 1 16 false (.t 32) (.t 35) none))),
           .op (some 37) none (.fad 0 (.t 6)),
           .op none none (.store 1 (.t 37) (.t 36))] [0, 3, 6, 9, 10, 11, 25, 26, 27])))
       (.region [.op (some 38) none (.bin 0 .add (.t 27) (.c (.int .i64 1))),
         .op (some 27) none (.mv (.t 38))] [0, 3, 6, 9, 10, 11, 25, 26, 27]))))
def v183_1 : VC :=
    (.seq
     (.region [.op (some 12) none (.bin 0 .lss (.t 11) (.t 10))] [0, 3, 9, 10, 11, 12])
     (.seq
      (.cond (.t 12)
       .skip
       (.exit 0))
      (.seq
       (.block 1
        (.seq
         (.region [.op (some 13) none (.mv (.t 11)),
           .op (some 14) none (.iad 1 (.t 9) (.t 11)),
           .op (some 15) none (.load none (.t 14)),
           .op (some 4) none (.mv (.t 13)),
           .op (some 5) none (.mv (.t 15))] [0, 3, 4, 5, 9, 10, 11])
         (.seq
          (.region [.op (some 16) none (.bsl 1 1 [sI []] [(0, 1, (.c (sI [48])))] none),
            .op (some 17) none (.mv (.t 0)),
            .op (some 18) none (.len false (.t 17)),
            .pre (.frz 16) (.op (some 19) none (.call 208 [(false, (.t 16)), (false, (.t 18))] (some none))),
            .op (some 20) none (.build [.nils 1, .nils 1] [(1, 1, (.t 19))]),
            .op (some 6) none (.alloc [.nils 1, .nils 1] none),
            .op none none (.store 2 (.t 6) (.t 20))] [0, 3, 4, 5, 6, 9, 10, 11])
          (.seq
           (.region [.op (some 21) none (.fad 1 (.t 6)),
             .op (some 22) none (.load none (.t 21)),
             .op (some 23) none (.mv (.t 4)),
             .op (some 24) none (.iad 1 (.t 22) (.t 23)),
             .op none none (.store 1 (.t 24) (.c (sI [49])))] [0, 3, 5, 6, 9, 10, 11])
           (.seq
            (.seq
             (.region [.op (some 25) none (.mv (.t 5)),
               .op (some 26) none (.len false (.t 25)),
               .op (some 27) none (.mv (.c (.int .i64 0)))] [0, 3, 6, 9, 10, 11, 25, 26, 27])
             (.block 2
              (.loop v183_0)))
            (.region [.op (some 39) none (.mv (.t 3)),
              .op (some 40) none (.load (some 2) (.t 6)),
              .op (some 41) none (.bsl 2 1 [.nils 1, .nils 1] [(0, 2, (.t 40))] none),
              .op (some 42) none (.app 2 48 false (.t 39) (.t 41) none),
              .op (some 3) none (.mv (.t 42))] [0, 3, 9, 10, 11]))))))
       (.region [.op (some 43) none (.bin 0 .add (.t 11) (.c (.int .i64 1))),
         .op (some 11) none (.mv (.t 43))] [0, 3, 9, 10, 11]))))
/-- schisma/hermite.lines -/
def v183 : VFun where
  params := 1
  results := [.tmp 2]
  fin := []
  thr := true
  body :=
    (.seq
     (.region [.op (some 2) none (.nil 2 none)] [0])
     (.seq
      (.region [.op (some 3) none (.nil 2 none)] [0, 3])
      (.seq
       (.seq
        (.region [.op (some 9) none (.mv (.t 0)),
          .op (some 10) none (.len false (.t 9)),
          .op (some 11) none (.mv (.c (.int .i64 0)))] [0, 3, 9, 10, 11])
        (.block 0
         (.loop v183_1)))
       (.seq
        (.region [.op (some 44) none (.mv (.t 3)),
          .op (some 2) none (.mv (.t 44))] [2])
        .ret))))

/-- schisma/hermite.reduce$1 -/
def v184 : VFun where
  params := 1
  results := [.tmp 2]
  fin := []
  thr := false
  body :=
    (.seq
     (.region [.op (some 2) none (.mv (.c (.bool false)))] [0])
     (.seq
      (.region [.op (some 3) none (.mv (.t 0)),
        .op (some 4) none (.bin 0 .neq (.t 3) (.c (sI [48]))),
        .op (some 2) none (.mv (.t 4))] [2])
      .ret))

/-- (schisma/hermite.line).less -/
def v185 : VFun where
  params := 3
  results := []
  fin := []
  thr := true
  body :=
    (.seq
     (.region [.op (some 3) none (.box (.t 0) none),
       .op (some 4) none (.box (.t 1) none),
       .op (some 5) none (.box (.t 2) none)] [3, 4, 5])
     (.seq
      (.seq
       (.region [.op (some 7) none (.load none (.t 4)),
         .op (some 8) none (.bin 0 .eql (.t 7) (.c (sI [48])))] [3, 4, 5, 8])
       (.cond (.t 8)
        .ret
        .skip))
      (.seq
       (.region [.op (some 9) none (.mkfn 209 [(.t 4)]),
         .op (some 6) none (.mv (.t 9))] [3, 5, 6])
       (.seq
        (.region [.op (some 10) none (.mv (.t 6)),
          .op (some 11) none (.fad 0 (.t 3)),
          .op (some 12) none (.load none (.t 11)),
          .op (some 13) none (.fad 0 (.t 5)),
          .op (some 14) none (.load none (.t 13)),
          .op (some 15) none (.callv (.t 10) [(false, (.t 12)), (false, (.t 14))] none)] [3, 5, 6])
        (.region [.op (some 16) none (.mv (.t 6)),
          .op (some 17) none (.fad 1 (.t 3)),
          .op (some 18) none (.load none (.t 17)),
          .op (some 19) none (.fad 1 (.t 5)),
          .op (some 20) none (.load none (.t 19)),
          .op (some 21) none (.callv (.t 16) [(false, (.t 18)), (false, (.t 20))] none)] [])))))

def v186_0 : VC :=
    (.seq
     (.seq
      (.region [.op (some 21) none (.mv (.t 5)),
        .op (some 22) none (.bin 0 .geq (.t 21) (.c (.int .i64 0)))] [0, 1, 5, 22])
      (.cond (.t 22)
       .skip
       (.exit 0)))
     (.seq
      (.block 1
       (.block 2
        (.seq
         (.region [.op (some 26) none (.mv (.t 0)),
           .op (some 27) none (.mv (.t 5)),
           .op (some 28) none (.iad 1 (.t 26) (.t 27)),
           .op (some 29) none (.load none (.t 28)),
           .op (some 30) none (.mv (.t 1)),
           .op (some 31) none (.mv (.t 5)),
           .op (some 32) none (.iad 1 (.t 30) (.t 31)),
           .op (some 33) none (.load none (.t 32)),
           .op (some 34) none (.bin 0 .lss (.t 29) (.t 33)),
           .op (some 25) none (.mv (.t 34))] [0, 1, 5, 25])
         (.cond (.t 25)
          (.seq
           (.region [.op (some 4) none (.mv (.c (.int .i64 (-1))))] [4])
           .ret)
          (.seq
           (.region [.op (some 36) none (.mv (.t 0)),
             .op (some 37) none (.mv (.t 5)),
             .op (some 38) none (.iad 1 (.t 36) (.t 37)),
             .op (some 39) none (.load none (.t 38)),
             .op (some 40) none (.mv (.t 1)),
             .op (some 41) none (.mv (.t 5)),
             .op (some 42) none (.iad 1 (.t 40) (.t 41)),
             .op (some 43) none (.load none (.t 42)),
             .op (some 44) none (.bin 0 .gtr (.t 39) (.t 43)),
             .op (some 35) none (.mv (.t 44))] [0, 1, 5, 35])
           (.cond (.t 35)
            (.seq
             (.region [.op (some 4) none (.mv (.c (.int .i64 1)))] [4])
             .ret)
            .skip))))))
      (.region [.op (some 23) none (.mv (.t 5)),
        .op (some 24) none (.bin 0 .sub (.t 23) (.c (.int .i64 1))),
        .op (some 5) none (.mv (.t 24))] [0, 1, 5])))
/-- (schisma/decimal.pieces).compare -/
def v186 : VFun where
  params := 2
  results := [.tmp 4]
  fin := []
  thr := false
  body :=
    (.seq
     (.region [.op (some 4) none (.mv (.c (.int .i64 0)))] [0, 1])
     (.seq
      (.seq
       (.region [.op (some 6) none (.mv (.t 0)),
         .op (some 7) none (.len false (.t 6)),
         .op (some 8) none (.mv (.t 1)),
         .op (some 9) none (.len false (.t 8)),
         .op (some 10) none (.bin 0 .neq (.t 7) (.t 9))] [0, 1, 10])
       (.cond (.t 10)
        (.seq
         (.region [.op (some 11) none (.mv (.t 0)),
           .op (some 12) none (.len false (.t 11)),
           .op (some 13) none (.mv (.t 1)),
           .op (some 14) none (.len false (.t 13)),
           .op (some 15) none (.bin 0 .sub (.t 12) (.t 14)),
           .op (some 16) none (.mnmx true (.c (.int .i64 (-1))) (.t 15)),
           .op (some 17) none (.mnmx false (.c (.int .i64 1)) (.t 16)),
           .op (some 4) none (.mv (.t 17))] [4])
         .ret)
        .skip))
      (.seq
       (.seq
        (.region [.op (some 18) none (.mv (.t 0)),
          .op (some 19) none (.len false (.t 18)),
          .op (some 20) none (.bin 0 .sub (.t 19) (.c (.int .i64 1))),
          .op (some 5) none (.mv (.t 20))] [0, 1, 5])
        (.block 0
         (.loop v186_0)))
       (.seq
        (.region [.op (some 4) none (.mv (.c (.int .i64 0)))] [4])
        .ret))))

def v187_0 : VC :=
    (.seq
     (.seq
      (.region [.op (some 15) none (.mv (.t 8)),
        .op (some 16) none (.bin 0 .geq (.t 15) (.c (.int .i64 0)))] [0, 1, 6, 7, 8, 16])
      (.cond (.t 16)
       .skip
       (.exit 0)))
     (.seq
      (.block 1
       (.seq
        (.region [.op (some 19) none (.mv (.t 7)),
          .op (some 20) none (.bin 0 .mul (.t 19) (.c (.int .u64 1000000000))),
          .op (some 21) none (.mv (.t 0)),
          .op (some 22) none (.mv (.t 8)),
          .op (some 23) none (.iad 1 (.t 21) (.t 22)),
          .op (some 24) none (.load none (.t 23)),
          .op (some 25) none (.bin 0 .add (.t 20) (.t 24)),
          .op (some 7) none (.mv (.t 25))] [0, 1, 6, 7, 8])
        (.seq
         (.region [.op (some 26) none (.mv (.t 6)),
           .op (some 27) none (.mv (.t 8)),
           .op (some 28) none (.mv (.t 7)),
           .op (some 29) none (.mv (.t 1)),
           .op (some 30) none (.bin 0 .quo (.t 28) (.t 29)),
           .op (some 31) none (.iad 1 (.t 26) (.t 27)),
           .op none none (.store 1 (.t 31) (.t 30))] [0, 1, 6, 7, 8])
         (.region [.op (some 32) none (.mv (.t 7)),
           .op (some 33) none (.mv (.t 1)),
           .op (some 34) none (.bin 0 .rem (.t 32) (.t 33)),
           .op (some 7) none (.mv (.t 34))] [0, 1, 6, 7, 8]))))
      (.region [.op (some 17) none (.mv (.t 8)),
        .op (some 18) none (.bin 0 .sub (.t 17) (.c (.int .i64 1))),
        .op (some 8) none (.mv (.t 18))] [0, 1, 6, 7, 8])))
/-- (schisma/decimal.pieces).small -/
def v187 : VFun where
  params := 2
  results := [.tmp 4, .tmp 5]
  fin := [.frz 4]
  thr := false
  body :=
    (.seq
     (.region [.op (some 4) none (.mv (.c (.nils 1))),
       .op (some 5) none (.mv (.c (.int .u64 0)))] [0, 1])
     (.seq
      (.region [.op (some 9) none (.mv (.t 0)),
        .op (some 10) none (.len false (.t 9)),
        .op (some 11) none (.mks 1 8 [.int .u64 0] (.t 10) (.t 10) (some 100)),
        .op (some 6) none (.mv (.t 11))] [0, 1, 6])
      (.seq
       (.region [.op (some 7) none (.mv (.c (.int .u64 0)))] [0, 1, 6, 7])
       (.seq
        (.seq
         (.region [.op (some 12) none (.mv (.t 0)),
           .op (some 13) none (.len false (.t 12)),
           .op (some 14) none (.bin 0 .sub (.t 13) (.c (.int .i64 1))),
           .op (some 8) none (.mv (.t 14))] [0, 1, 6, 7, 8])
         (.block 0
          (.loop v187_0)))
        (.seq
         (.region [.op (some 35) none (.mv (.t 6)),
           .op (some 36) none (.call 175 [(true, (.t 35))] (some (some 101))),
           .op (some 37) none (.mv (.t 7)),
           .op (some 4) none (.mv (.t 36)),
           .op (some 5) none (.mv (.t 37))] [4, 5])
         .ret)))))

def v188_0 : VC :=
    (.seq
     (.seq
      (.region [.op (some 35) none (.mv (.t 7)),
        .op (some 36) none (.len false (.t 35)),
        .op (some 37) none (.mv (.t 0)),
        .op (some 38) none (.len false (.t 37)),
        .op (some 39) none (.bin 0 .leq (.t 36) (.t 38))] [0, 6, 7, 8, 9, 39])
      (.cond (.t 39)
       .skip
       (.exit 0)))
     (.block 1
      (.region [.op (some 40) none (.mv (.t 7)),
        .op (some 41) none (.bsl 1 1 [.int .u64 0] [(0, 1, (.c (.int .u64 0)))] (some 104)),
        .op (some 42) none (.app 1 8 false (.t 40) (.t 41) (some 105)),
        .op (some 7) none (.mv (.t 42))] [0, 6, 7, 8, 9])))
def v188_1 : VC :=
    (.seq
     (.seq
      (.region [.op (some 86) none (.mv (.t 13)),
        .op (some 87) none (.bin 0 .geq (.t 86) (.c (.int .u64 1000000000))),
        .op (some 88) none (.mv (.t 87)),
        .op (some 89) (some (88, false)) (.mv (.t 14)),
        .op (some 90) (some (88, false)) (.bin 0 .lss (.t 89) (.c (.int .u64 1000000000))),
        .op (some 91) (some (88, false)) (.mv (.t 90)),
        .op (some 92) (some (91, true)) (.mv (.t 13)),
        .op (some 93) (some (91, true)) (.mv (.t 8)),
        .op (some 94) (some (91, true)) (.mv (.t 9)),
        .op (some 95) (some (91, true)) (.bin 0 .sub (.t 94) (.c (.int .i64 2))),
        .op (some 96) (some (91, true)) (.iad 1 (.t 93) (.t 95)),
        .op (some 97) (some (91, true)) (.load none (.t 96)),
        .op (some 98) (some (91, true)) (.bin 0 .mul (.t 92) (.t 97)),
        .op (some 99) (some (91, true)) (.mv (.t 14)),
        .op (some 100) (some (91, true)) (.bin 0 .mul (.t 99) (.c (.int .u64 1000000000))),
        .op (some 101) (some (91, true)) (.mv (.t 7)),
        .op (some 102) (some (91, true)) (.mv (.t 11)),
        .op (some 103) (some (91, true)) (.mv (.t 9)),
        .op (some 104) (some (91, true)) (.bin 0 .add (.t 102) (.t 103)),
        .op (some 105) (some (91, true)) (.bin 0 .sub (.t 104) (.c (.int .i64 2))),
        .op (some 106) (some (91, true)) (.iad 1 (.t 101) (.t 105)),
        .op (some 107) (some (91, true)) (.load none (.t 106)),
        .op (some 108) (some (91, true)) (.bin 0 .add (.t 100) (.t 107)),
        .op (some 109) (some (91, true)) (.bin 0 .gtr (.t 98) (.t 108)),
        .op (some 110) (some (88, false)) (.pick (.t 91) (.t 109) (.c (.bool false))),
        .op (some 111) none (.pick (.t 88) (.c (.bool true)) (.t 110))] [6, 7, 8, 9, 10, 11, 13, 14, 111])
      (.cond (.t 111)
       .skip
       (.exit 4)))
     (.block 5
      (.seq
       (.region [.op (some 112) none (.mv (.t 13)),
         .op (some 113) none (.bin 0 .sub (.t 112) (.c (.int .u64 1))),
         .op (some 13) none (.mv (.t 113))] [6, 7, 8, 9, 10, 11, 13, 14])
       (.region [.op (some 114) none (.mv (.t 14)),
         .op (some 115) none (.mv (.t 8)),
         .op (some 116) none (.mv (.t 9)),
         .op (some 117) none (.bin 0 .sub (.t 116) (.c (.int .i64 1))),
         .op (some 118) none (.iad 1 (.t 115) (.t 117)),
         .op (some 119) none (.load none (.t 118)),
         .op (some 120) none (.bin 0 .add (.t 114) (.t 119)),
         .op (some 14) none (.mv (.t 120))] [6, 7, 8, 9, 10, 11, 13, 14]))))
def v188_2 : VC :=
    (.seq
     (.seq
      (.region [.op (some 53) none (.mv (.t 11)),
        .op (some 54) none (.bin 0 .geq (.t 53) (.c (.int .i64 0)))] [6, 7, 8, 9, 10, 11, 54])
      (.cond (.t 54)
       .skip
       (.exit 2)))
     (.seq
      (.block 3
       (.seq
        (.region [.op (some 57) none (.mv (.t 7)),
          .op (some 58) none (.mv (.t 11)),
          .op (some 59) none (.mv (.t 9)),
          .op (some 60) none (.bin 0 .add (.t 58) (.t 59)),
          .op (some 61) none (.iad 1 (.t 57) (.t 60)),
          .op (some 62) none (.load none (.t 61)),
          .op (some 63) none (.bin 0 .mul (.t 62) (.c (.int .u64 1000000000))),
          .op (some 64) none (.mv (.t 7)),
          .op (some 65) none (.mv (.t 11)),
          .op (some 66) none (.mv (.t 9)),
          .op (some 67) none (.bin 0 .add (.t 65) (.t 66)),
          .op (some 68) none (.bin 0 .sub (.t 67) (.c (.int .i64 1))),
          .op (some 69) none (.iad 1 (.t 64) (.t 68)),
          .op (some 70) none (.load none (.t 69)),
          .op (some 71) none (.bin 0 .add (.t 63) (.t 70)),
          .op (some 12) none (.mv (.t 71))] [6, 7, 8, 9, 10, 11, 12])
        (.seq
         (.region [.op (some 72) none (.mv (.t 12)),
           .op (some 73) none (.mv (.t 8)),
           .op (some 74) none (.mv (.t 9)),
           .op (some 75) none (.bin 0 .sub (.t 74) (.c (.int .i64 1))),
           .op (some 76) none (.iad 1 (.t 73) (.t 75)),
           .op (some 77) none (.load none (.t 76)),
           .op (some 78) none (.bin 0 .quo (.t 72) (.t 77)),
           .op (some 79) none (.mv (.t 12)),
           .op (some 80) none (.mv (.t 8)),
           .op (some 81) none (.mv (.t 9)),
           .op (some 82) none (.bin 0 .sub (.t 81) (.c (.int .i64 1))),
           .op (some 83) none (.iad 1 (.t 80) (.t 82)),
           .op (some 84) none (.load none (.t 83)),
           .op (some 85) none (.bin 0 .rem (.t 79) (.t 84)),
           .op (some 13) none (.mv (.t 78)),
           .op (some 14) none (.mv (.t 85))] [6, 7, 8, 9, 10, 11, 13, 14])
         (.seq
          (.block 4
           (.loop v188_1))
          (.seq
           (.seq
            (.region [.op (some 121) none (.mv (.t 7)),
              .op (some 122) none (.mv (.t 8)),
              .op (some 123) none (.mv (.t 13)),
              .op (some 124) none (.mv (.t 11)),
              .op (some 125) none (.call 177 [(true, (.t 121)), (false, (.t 122)), (false, (.t 123)), (false, (.t 124))] none)] [6, 7, 8, 9, 10, 11, 13, 125])
            (.cond (.t 125)
             (.seq
              (.region [.op (some 126) none (.mv (.t 13)),
                .op (some 127) none (.bin 0 .sub (.t 126) (.c (.int .u64 1))),
                .op (some 13) none (.mv (.t 127))] [6, 7, 8, 9, 10, 11, 13])
              (.region [.op (some 128) none (.mv (.t 7)),
                .op (some 129) none (.mv (.t 8)),
                .op (some 130) none (.mv (.t 11)),
                .op (some 131) none (.call 174 [(true, (.t 128)), (false, (.t 129)), (false, (.t 130))] none)] [6, 7, 8, 9, 10, 11, 13]))
             .skip))
           (.region [.op (some 132) none (.mv (.t 10)),
             .op (some 133) none (.mv (.t 11)),
             .op (some 134) none (.mv (.t 13)),
             .op (some 135) none (.iad 1 (.t 132) (.t 133)),
             .op none none (.store 1 (.t 135) (.t 134))] [6, 7, 8, 9, 10, 11]))))))
      (.region [.op (some 55) none (.mv (.t 11)),
        .op (some 56) none (.bin 0 .sub (.t 55) (.c (.int .i64 1))),
        .op (some 11) none (.mv (.t 56))] [6, 7, 8, 9, 10, 11])))
/-- (schisma/decimal.pieces).divide -/
def v188 : VFun where
  params := 2
  results := [.tmp 4, .tmp 5]
  fin := [.frz 4, .frz 5]
  thr := false
  body :=
    (.seq
     (.region [.op (some 4) none (.mv (.c (.nils 1))),
       .op (some 5) none (.mv (.c (.nils 1)))] [0, 1])
     (.seq
      (.region [.op (some 17) none (.mv (.t 1)),
        .op (some 18) none (.mv (.t 1)),
        .op (some 19) none (.len false (.t 18)),
        .op (some 20) none (.bin 0 .sub (.t 19) (.c (.int .i64 1))),
        .op (some 21) none (.iad 1 (.t 17) (.t 20)),
        .op (some 22) none (.load none (.t 21)),
        .op (some 23) none (.bin 0 .add (.t 22) (.c (.int .u64 1))),
        .op (some 24) none (.bin 0 .quo (.c (.int .u64 1000000000)) (.t 23)),
        .op (some 6) none (.mv (.t 24))] [0, 1, 6])
      (.seq
       (.region [.op (some 25) none (.mv (.t 0)),
         .op (some 26) none (.mv (.t 6)),
         .pre (.frz 25) (.op (some 27) none (.call 210 [(false, (.t 25)), (false, (.t 26))] (some (some 100)))),
         .op (some 28) none (.bsl 1 1 [.int .u64 0] [(0, 1, (.c (.int .u64 0)))] (some 101)),
         .op (some 29) none (.app 1 8 false (.t 27) (.t 28) (some 102)),
         .op (some 30) none (.mv (.t 1)),
         .op (some 31) none (.mv (.t 6)),
         .pre (.frz 30) (.op (some 32) none (.call 210 [(false, (.t 30)), (false, (.t 31))] (some (some 103)))),
         .op (some 7) none (.mv (.t 29)),
         .op (some 8) none (.mv (.t 32))] [0, 6, 7, 8])
       (.seq
        (.region [.op (some 33) none (.mv (.t 8)),
          .op (some 34) none (.len false (.t 33)),
          .op (some 9) none (.mv (.t 34))] [0, 6, 7, 8, 9])
        (.seq
         (.block 0
          (.loop v188_0))
         (.seq
          (.region [.op (some 43) none (.mv (.t 7)),
            .op (some 44) none (.len false (.t 43)),
            .op (some 45) none (.mv (.t 9)),
            .op (some 46) none (.bin 0 .sub (.t 44) (.t 45)),
            .op (some 47) none (.mks 1 8 [.int .u64 0] (.t 46) (.t 46) (some 106)),
            .op (some 10) none (.mv (.t 47))] [6, 7, 8, 9, 10])
          (.seq
           (.seq
            (.region [.op (some 48) none (.mv (.t 7)),
              .op (some 49) none (.len false (.t 48)),
              .op (some 50) none (.mv (.t 9)),
              .op (some 51) none (.bin 0 .sub (.t 49) (.t 50)),
              .op (some 52) none (.bin 0 .sub (.t 51) (.c (.int .i64 1))),
              .op (some 11) none (.mv (.t 52))] [6, 7, 8, 9, 10, 11])
            (.block 2
             (.loop v188_2)))
           (.seq
            (.region [.op (some 137) none (.mv (.t 7)),
              .op (some 138) none (.call 175 [(true, (.t 137))] (some (some 107))),
              .op (some 139) none (.mv (.t 6)),
              .pre (.frz 138) (.op (some 140) none (.call 187 [(false, (.t 138)), (false, (.t 139))] none)),
              .op (some 136) none (.mv (.t 140)),
              .op (some 141) none (.ext (.t 136) 0),
              .op (some 142) none (.ext (.t 136) 1),
              .op (some 15) none (.mv (.t 141)),
              .op (some 16) none (.mv (.t 142))] [10, 15])
            (.seq
             (.region [.op (some 143) none (.mv (.t 10)),
               .op (some 144) none (.call 175 [(true, (.t 143))] (some (some 108))),
               .op (some 145) none (.mv (.t 15)),
               .op (some 4) none (.mv (.t 144)),
               .op (some 5) none (.mv (.t 145))] [4, 5])
             .ret)))))))))

/-- internal/strconv.ParseInt -/
def v189 : VFun where
  params := 3
  results := [.tmp 6, .tmp 7]
  fin := []
  thr := false
  body :=
    (.seq
     (.region [.op (some 6) none (.mv (.c (.int .i64 0))),
       .op (some 7) none (.mv (.c (.nilifc)))] [0, 1, 2])
     (.seq
      (.seq
       (.region [.op (some 12) none (.mv (.t 0)),
         .op (some 13) none (.bin 0 .eql (.t 12) (.c (sI [])))] [0, 1, 2, 13])
       (.cond (.t 13)
        (.seq
         (.region [.op (some 14) none (.ifc 273 (.c (.int .i64 2))),
           .op (some 6) none (.mv (.c (.int .i64 0))),
           .op (some 7) none (.mv (.t 14))] [6, 7])
         .ret)
        .skip))
      (.seq
       (.region [.op (some 8) none (.mv (.c (.bool false)))] [0, 1, 2, 8])
       (.seq
        (.seq
         (.region [.op (some 15) none (.mv (.t 0)),
           .op (some 16) none (.ixs (.t 15) (.c (.int .i64 0)))] [0, 1, 2, 8, 16])
         (.block 0
          (.seq
           (.region [.op (some 18) none (.bin 0 .eql (.t 16) (.c (.int .u8 43))),
             .op (some 17) none (.mv (.t 18))] [0, 1, 2, 8, 16, 17])
           (.cond (.t 17)
            (.region [.op (some 19) none (.mv (.t 0)),
              .op (some 20) none (.slice 0 (.t 19) (some (.c (.int .i64 1))) none none),
              .op (some 0) none (.mv (.t 20))] [0, 1, 2, 8])
            (.seq
             (.region [.op (some 22) none (.bin 0 .eql (.t 16) (.c (.int .u8 45))),
               .op (some 21) none (.mv (.t 22))] [0, 1, 2, 8, 21])
             (.cond (.t 21)
              (.seq
               (.region [.op (some 23) none (.mv (.t 0)),
                 .op (some 24) none (.slice 0 (.t 23) (some (.c (.int .i64 1))) none none),
                 .op (some 0) none (.mv (.t 24))] [0, 1, 2])
               (.region [.op (some 8) none (.mv (.c (.bool true)))] [0, 1, 2, 8]))
              .skip))))))
        (.seq
         (.region [.op (some 9) none (.mv (.c (.int .u64 0)))] [0, 1, 2, 8])
         (.seq
          (.region [.op (some 26) none (.mv (.t 0)),
            .op (some 27) none (.mv (.t 1)),
            .op (some 28) none (.mv (.t 2)),
            .op (some 29) none (.call 211 [(false, (.t 26)), (false, (.t 27)), (false, (.t 28))] none),
            .op (some 25) none (.mv (.t 29)),
            .op (some 30) none (.ext (.t 25) 0),
            .op (some 31) none (.ext (.t 25) 1),
            .op (some 9) none (.mv (.t 30)),
            .op (some 7) none (.mv (.t 31))] [2, 7, 8, 9])
          (.seq
           (.seq
            (.region [.op (some 32) none (.mv (.t 7)),
              .op (some 33) none (.bin 2 .neq (.t 32) (.c (.nilifc))),
              .op (some 34) none (.mv (.t 33)),
              .op (some 35) (some (34, true)) (.mv (.t 7)),
              .op (some 36) (some (34, true)) (.ifc 273 (.c (.int .i64 1))),
              .op (some 37) (some (34, true)) (.die),
              .op (some 38) none (.pick (.t 34) (.t 37) (.c (.bool false)))] [2, 7, 8, 9, 38])
            (.cond (.t 38)
             (.seq
              (.region [.op (some 39) none (.mv (.t 7)),
                .op (some 6) none (.mv (.c (.int .i64 0))),
                .op (some 7) none (.mv (.t 39))] [6, 7])
              .ret)
             .skip))
           (.seq
            (.seq
             (.region [.op (some 40) none (.mv (.t 2)),
               .op (some 41) none (.bin 0 .eql (.t 40) (.c (.int .i64 0)))] [2, 8, 9, 41])
             (.cond (.t 41)
              (.region [.op (some 2) none (.mv (.c (.int .i64 64)))] [2, 8, 9])
              .skip))
            (.seq
             (.region [.op (some 42) none (.mv (.t 2)),
               .op (some 43) none (.bin 0 .sub (.t 42) (.c (.int .i64 1))),
               .op (some 44) none (.cint .u64 (.t 43)),
               .op (some 45) none (.bin 0 .shl (.c (.int .u64 1)) (.t 44)),
               .op (some 10) none (.mv (.t 45))] [8, 9, 10])
             (.seq
              (.seq
               (.region [.op (some 46) none (.mv (.t 8)),
                 .op (some 47) none (.un .not (.t 46)),
                 .op (some 48) none (.mv (.t 47)),
                 .op (some 49) (some (48, true)) (.mv (.t 9)),
                 .op (some 50) (some (48, true)) (.mv (.t 10)),
                 .op (some 51) (some (48, true)) (.bin 0 .geq (.t 49) (.t 50)),
                 .op (some 52) none (.pick (.t 48) (.t 51) (.c (.bool false)))] [8, 9, 10, 52])
               (.cond (.t 52)
                (.seq
                 (.region [.op (some 53) none (.mv (.t 10)),
                   .op (some 54) none (.bin 0 .sub (.t 53) (.c (.int .u64 1))),
                   .op (some 55) none (.cint .i64 (.t 54)),
                   .op (some 56) none (.ifc 273 (.c (.int .i64 1))),
                   .op (some 6) none (.mv (.t 55)),
                   .op (some 7) none (.mv (.t 56))] [6, 7])
                 .ret)
                .skip))
              (.seq
               (.seq
                (.region [.op (some 57) none (.mv (.t 8)),
                  .op (some 58) none (.mv (.t 57)),
                  .op (some 59) (some (58, true)) (.mv (.t 9)),
                  .op (some 60) (some (58, true)) (.mv (.t 10)),
                  .op (some 61) (some (58, true)) (.bin 0 .gtr (.t 59) (.t 60)),
                  .op (some 62) none (.pick (.t 58) (.t 61) (.c (.bool false)))] [8, 9, 10, 62])
                (.cond (.t 62)
                 (.seq
                  (.region [.op (some 63) none (.mv (.t 10)),
                    .op (some 64) none (.cint .i64 (.t 63)),
                    .op (some 65) none (.un .neg (.t 64)),
                    .op (some 66) none (.ifc 273 (.c (.int .i64 1))),
                    .op (some 6) none (.mv (.t 65)),
                    .op (some 7) none (.mv (.t 66))] [6, 7])
                  .ret)
                 .skip))
               (.seq
                (.region [.op (some 67) none (.mv (.t 9)),
                  .op (some 68) none (.cint .i64 (.t 67)),
                  .op (some 11) none (.mv (.t 68))] [8, 11])
                (.seq
                 (.seq
                  (.region [.op (some 69) none (.mv (.t 8))] [11, 69])
                  (.cond (.t 69)
                   (.region [.op (some 70) none (.mv (.t 11)),
                     .op (some 71) none (.un .neg (.t 70)),
                     .op (some 11) none (.mv (.t 71))] [11])
                   .skip))
                 (.seq
                  (.region [.op (some 72) none (.mv (.t 11)),
                    .op (some 6) none (.mv (.t 72)),
                    .op (some 7) none (.mv (.c (.nilifc)))] [6, 7])
                  .ret))))))))))))))

/-- strconv.toError -/
def v190 : VFun where
  params := 5
  results := [.tmp 10]
  fin := []
  thr := false
  body :=
    (.seq
     (.region [.op (some 10) none (.mv (.c (.nilifc)))] [0, 1, 2, 3, 4])
     (.seq
      (.seq
       (.region [.op (some 11) none (.mv (.t 4))] [0, 1, 2, 3, 4, 11])
       (.block 0
        (.seq
         .die
         (.cond (.t 12)
          (.seq
           (.region [.op (some 15) none (.mv (.t 0)),
             .op (some 16) none (.mv (.t 1)),
             .op (some 17) none (.call 212 [(false, (.t 15)), (false, (.t 16))] none),
             .op (some 18) none (.ifc 276 (.t 17)),
             .op (some 10) none (.mv (.t 18))] [10])
           .ret)
          (.seq
           .die
           (.cond (.t 19)
            (.seq
             (.region [.op (some 22) none (.mv (.t 0)),
               .op (some 23) none (.mv (.t 1)),
               .op (some 24) none (.call 213 [(false, (.t 22)), (false, (.t 23))] none),
               .op (some 25) none (.ifc 276 (.t 24)),
               .op (some 10) none (.mv (.t 25))] [10])
             .ret)
            (.seq
             .die
             (.cond (.t 26)
              (.seq
               (.region [.op (some 29) none (.mv (.t 0)),
                 .op (some 30) none (.mv (.t 1)),
                 .op (some 31) none (.mv (.t 2)),
                 .op (some 32) none (.call 214 [(false, (.t 29)), (false, (.t 30)), (false, (.t 31))] none),
                 .op (some 33) none (.ifc 276 (.t 32)),
                 .op (some 10) none (.mv (.t 33))] [10])
               .ret)
              (.seq
               .die
               (.cond (.t 34)
                (.seq
                 (.region [.op (some 37) none (.mv (.t 0)),
                   .op (some 38) none (.mv (.t 1)),
                   .op (some 39) none (.mv (.t 3)),
                   .op (some 40) none (.call 215 [(false, (.t 37)), (false, (.t 38)), (false, (.t 39))] none),
                   .op (some 41) none (.ifc 276 (.t 40)),
                   .op (some 10) none (.mv (.t 41))] [10])
                 .ret)
                .skip))))))))))
      (.seq
       (.region [.op (some 42) none (.mv (.t 4)),
         .op (some 10) none (.mv (.t 42))] [10])
       .ret)))

end Go.Vm
