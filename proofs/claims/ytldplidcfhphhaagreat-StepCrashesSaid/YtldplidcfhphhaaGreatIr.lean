/- What this file proves: one part of the proof that the law answers true for every input, by an interpreter that is proved sound against the given model. -/
import Derived.Test.YtldplidcfhphhaaGreatEa
namespace Gv
abbrev T := PO.t
abbrev I (n : Int) : PO := .c (.int .i64 n)
abbrev o (d : Nat) (x : IOp) : IOper := ⟨some d, x, none, []⟩
abbrev u (x : IOp) : IOper := ⟨none, x, none, []⟩
abbrev og (d : Option Nat) (x : IOp) (t : Nat) (b : Bool) : IOper := ⟨d, x, some (t, b), []⟩
def f_law11_StepCrashes : IFun := ⟨106, 9, true, [true, true], [.tmp 4],
 (.seq
  (.reg [o 4 (.mov (.c (.bool false)))] false)
  (.seq
   (.seq
    (.reg [o 13 (.mov (T 0)), o 14 (.bin .lss (T 13) (I 1)), o 15 (.mov (T 14)), og (some 16) (.mov (T 0)) 15 false, og (some 17) (.bin .gtr (T 16) (I 10)) 15 false, o 18 (.pick (T 15) (.c (.bool true)) (T 17))] false)
    (.cond (T 18)
     (.seq
      (.reg [o 19 (.call 115 [] 0), o 4 (.mov (T 19))] false)
      .ret)
     .skip))
   (.seq
    (.reg [o 20 (.mov (T 0)), o 21 (.call 116 [(T 20)] 0), o 5 (.box (some 4) (.c (.agg [.nils, .nils, .nils, (.int .i64 0)])) 0), u (.store (some 4) (T 5) (T 21))] false)
    (.seq
     (.reg [o 23 (.load (some 4) (T 5)), o 24 (.call 117 [(T 23)] 1), o 22 (.mov (T 24)), o 25 (.extract (T 22) 0), o 26 (.extract (T 22) 1), o 6 (.box (some 6) (.c (.agg [.nils, .nils, (.int .i64 0), (.int .i64 0), (.int .i64 0), (.int .i64 0)])) 3), u (.store (some 6) (T 6) (T 25)), o 7 (.mov (T 26))] false)
     (.seq
      (.reg [o 27 (.build [(.int .i64 0), (.int .i64 0), (.int .i64 0), (.int .i64 0)] [(3, none, (I 1)), (0, none, (I 1))]), o 8 (.box (some 4) (.c (.agg [(.int .i64 0), (.int .i64 0), (.int .i64 0), (.int .i64 0)])) 4), u (.store (some 4) (T 8) (T 27))] false)
      (.seq
       (.seq
        (.reg [o 28 (.mov (T 7)), o 29 (.bin .eql (T 28) (I 0)), o 30 (.mov (T 29)), og (some 31) (.mov (T 1)) 30 true, og (some 32) (.un .not (T 31)) 30 true, o 33 (.pick (T 30) (T 32) (.c (.bool false)))] false)
        (.cond (T 33)
         (.reg [o 35 (.load (some 4) (T 5)), o 36 (.load (some 4) (T 8)), o 37 (.load (some 6) (T 6)), o 38 (.build [(.int .i64 0), (.int .i64 0), (.int .i64 0)] [(0, none, (I (-1)))]), o 39 (.build [(.int .i64 0), (.int .i64 0), (.int .i64 0), (.int .i64 0), (.int .i64 0)] [(0, none, (I 1)), (1, (some 3), (T 38))]), o 40 (.call 118 [(T 35), (T 36), (T 37), (T 39)] 5), o 34 (.mov (T 40)), o 41 (.extract (T 34) 0), o 42 (.extract (T 34) 1), u (.store (some 6) (T 6) (T 41)), o 7 (.mov (T 42))] false)
         .skip))
       (.seq
        (.seq
         (.reg [o 43 (.mov (T 7)), o 44 (.bin .neq (T 43) (I 0)), o 45 (.mov (T 44)), og (some 46) (.fieldAddr (T 6) 0) 45 false, og (some 47) (.load none (T 46)) 45 false, og (some 48) (.len (T 47)) 45 false, og (some 49) (.bin .neq (T 48) (I 2)) 45 false, o 50 (.pick (T 45) (.c (.bool true)) (T 49))] false)
         (.cond (T 50)
          (.seq
           (.reg [o 4 (.mov (.c (.bool false)))] false)
           .ret)
          .skip))
        (.seq
         (.reg [o 51 (.load (some 6) (T 6)), o 52 (.call 142 [(T 51)] 5), o 9 (.box (some 6) (.c (.agg [.nils, .nils, (.int .i64 0), (.int .i64 0), (.int .i64 0), (.int .i64 0)])) 7), u (.store (some 6) (T 9) (T 52))] false)
         (.seq
          (.reg [o 10 (.mov (I 1))] false)
          (.seq
           (.seq
            (.reg [o 53 (.mov (T 1))] false)
            (.cond (T 53)
             (.reg [o 10 (.mov (I 0))] false)
             .skip))
           (.seq
            (.reg [o 55 (.load (some 4) (T 5)), o 56 (.load (some 4) (T 8)), o 57 (.load (some 6) (T 6)), o 58 (.mov (T 10)), o 59 (.build [(.int .i64 0), (.int .i64 0), (.int .i64 0), (.int .i64 0), (.int .i64 0)] [(0, none, (I 5)), (4, none, (T 58))]), o 60 (.call 118 [(T 55), (T 56), (T 57), (T 59)] 8), o 54 (.mov (T 60)), o 61 (.extract (T 54) 0), o 62 (.extract (T 54) 1), o 11 (.box (some 6) (.c (.agg [.nils, .nils, (.int .i64 0), (.int .i64 0), (.int .i64 0), (.int .i64 0)])) 8), u (.store (some 6) (T 11) (T 61)), o 12 (.mov (T 62))] false)
            (.seq
             (.seq
              (.reg [o 63 (.mov (T 12)), o 64 (.bin .neq (T 63) (I 0)), o 65 (.mov (T 64)), og (some 66) (.fieldAddr (T 11) 0) 65 false, og (some 67) (.load none (T 66)) 65 false, og (some 68) (.len (T 67)) 65 false, og (some 69) (.bin .neq (T 68) (I 2)) 65 false, o 70 (.pick (T 65) (.c (.bool true)) (T 69)), o 71 (.mov (T 70)), og (some 72) (.fieldAddr (T 9) 0) 71 false, og (some 73) (.load none (T 72)) 71 false, og (some 74) (.len (T 73)) 71 false, og (some 75) (.bin .neq (T 74) (I 2)) 71 false, o 76 (.pick (T 71) (.c (.bool true)) (T 75))] false)
              (.cond (T 76)
               (.seq
                (.reg [o 4 (.mov (.c (.bool false)))] false)
                .ret)
               .skip))
             (.seq
              (.reg [o 77 (.fieldAddr (T 9) 0), o 78 (.load none (T 77)), o 79 (.mov (T 10)), o 80 (.indexAddr 5 (T 78) (T 79)), o 81 (.fieldAddr (T 80) 2), u (.store none (T 81) (I 1))] false)
              (.seq
               (.reg [o 82 (.fieldAddr (T 9) 2), o 83 (.fieldAddr (T 82) 3), u (.store none (T 83) (I 1))] false)
               (.seq
                (.reg [o 84 (.load (some 6) (T 11)), o 85 (.load (some 6) (T 9)), o 86 (.call 225 [(T 84), (T 85)] 9), o 87 (.mov (T 86)), og (some 88) (.load (some 4) (T 5)) 87 true, og (some 89) (.build [(.int .i64 0), (.int .i64 0), (.int .i64 0), (.int .i64 0)] []) 87 true, og (some 90) (.load (some 6) (T 11)) 87 true, og (some 91) (.call 121 [(T 88), (T 89), (T 90)] 9) 87 true, og (some 92) (.len (T 91)) 87 true, og (some 93) (.bin .eql (T 92) (I 0)) 87 true, o 94 (.pick (T 87) (T 93) (.c (.bool false))), o 95 (.mov (T 94)), og (some 96) (.load (some 4) (T 5)) 95 true, og (some 97) (.load (some 4) (T 8)) 95 true, og (some 98) (.load (some 6) (T 11)) 95 true, og (some 99) (.call 121 [(T 96), (T 97), (T 98)] 9) 95 true, og (some 100) (.len (T 99)) 95 true, og (some 101) (.bin .eql (T 100) (I 1)) 95 true, o 102 (.pick (T 95) (T 101) (.c (.bool false))), o 103 (.mov (T 102)), og (some 104) (.call 115 [] 9) 103 true, o 105 (.pick (T 103) (T 104) (.c (.bool false))), o 4 (.mov (T 105))] false)
                .ret))))))))))))))), none⟩
def f_law11_awake : IFun := ⟨114, 10, true, [], [.tmp 0],
 (.seq
  (.reg [o 0 (.mov (.c (.bool false)))] false)
  (.seq
   (.reg [o 12 (.call 116 [(I 2)] 0), o 1 (.box (some 4) (.c (.agg [.nils, .nils, .nils, (.int .i64 0)])) 0), u (.store (some 4) (T 1) (T 12))] false)
   (.seq
    (.reg [o 13 (.build [(.int .i64 0), (.int .i64 0), (.int .i64 0), (.int .i64 0)] [(0, none, (I 1)), (2, none, (I 1))]), o 2 (.box (some 4) (.c (.agg [(.int .i64 0), (.int .i64 0), (.int .i64 0), (.int .i64 0)])) 1), u (.store (some 4) (T 2) (T 13))] false)
    (.seq
     (.reg [o 15 (.load (some 4) (T 1)), o 16 (.load (some 4) (T 2)), o 17 (.build [(.int .i64 0), (.int .i64 0), (.int .i64 0)] [(0, none, (I (-1)))]), o 18 (.build [(.int .i64 0), (.int .i64 0), (.int .i64 0), (.int .i64 0), (.int .i64 0)] [(0, none, (I 1)), (1, (some 3), (T 17))]), o 19 (.build [(.int .i64 0), (.int .i64 0), (.int .i64 0), (.int .i64 0), (.int .i64 0)] [(0, none, (I 4))]), o 20 (.build [(.int .i64 0), (.int .i64 0), (.int .i64 0)] []), o 21 (.build [(.int .i64 0), (.int .i64 0), (.int .i64 0), (.int .i64 0), (.int .i64 0)] [(0, none, (I 2)), (1, (some 3), (T 20))]), o 22 (.buildSlice (some 5) [(T 18), (T 19), (T 21)] 2), o 23 (.call 126 [(T 15), (T 16), (T 22)] 3), o 14 (.mov (T 23)), o 24 (.extract (T 14) 0), o 25 (.extract (T 14) 1), o 26 (.extract (T 14) 2), o 3 (.box (some 6) (.c (.agg [.nils, .nils, (.int .i64 0), (.int .i64 0), (.int .i64 0), (.int .i64 0)])) 3), u (.store (some 6) (T 3) (T 24)), o 4 (.mov (T 25)), o 5 (.mov (T 26))] false)
     (.seq
      (.reg [o 28 (.load (some 4) (T 1)), o 29 (.load (some 4) (T 2)), o 30 (.build [(.int .i64 0), (.int .i64 0), (.int .i64 0)] [(0, none, (I (-1)))]), o 31 (.build [(.int .i64 0), (.int .i64 0), (.int .i64 0), (.int .i64 0), (.int .i64 0)] [(0, none, (I 1)), (1, (some 3), (T 30))]), o 32 (.build [(.int .i64 0), (.int .i64 0), (.int .i64 0), (.int .i64 0), (.int .i64 0)] [(0, none, (I 5))]), o 33 (.buildSlice (some 5) [(T 31), (T 32)] 4), o 34 (.call 126 [(T 28), (T 29), (T 33)] 5), o 27 (.mov (T 34)), o 35 (.extract (T 27) 0), o 36 (.extract (T 27) 1), o 37 (.extract (T 27) 2), o 6 (.box (some 6) (.c (.agg [.nils, .nils, (.int .i64 0), (.int .i64 0), (.int .i64 0), (.int .i64 0)])) 5), u (.store (some 6) (T 6) (T 35)), o 7 (.mov (T 36)), o 8 (.mov (T 37))] false)
      (.seq
       (.seq
        (.reg [o 38 (.mov (T 5)), o 39 (.bin .neq (T 38) (I 0)), o 40 (.mov (T 39)), og (some 41) (.mov (T 4)) 40 false, og (some 42) (.bin .neq (T 41) (I 3)) 40 false, o 43 (.pick (T 40) (.c (.bool true)) (T 42)), o 44 (.mov (T 43)), og (some 45) (.mov (T 8)) 44 false, og (some 46) (.bin .neq (T 45) (I 8)) 44 false, o 47 (.pick (T 44) (.c (.bool true)) (T 46)), o 48 (.mov (T 47)), og (some 49) (.mov (T 7)) 48 false, og (some 50) (.bin .neq (T 49) (I 1)) 48 false, o 51 (.pick (T 48) (.c (.bool true)) (T 50)), o 52 (.mov (T 51)), og (some 53) (.fieldAddr (T 3) 0) 52 false, og (some 54) (.load none (T 53)) 52 false, og (some 55) (.len (T 54)) 52 false, og (some 56) (.bin .neq (T 55) (I 2)) 52 false, o 57 (.pick (T 52) (.c (.bool true)) (T 56)), o 58 (.mov (T 57)), og (some 59) (.fieldAddr (T 3) 1) 58 false, og (some 60) (.load none (T 59)) 58 false, og (some 61) (.len (T 60)) 58 false, og (some 62) (.bin .neq (T 61) (I 0)) 58 false, o 63 (.pick (T 58) (.c (.bool true)) (T 62))] false)
        (.cond (T 63)
         (.seq
          (.reg [o 0 (.mov (.c (.bool false)))] false)
          .ret)
         .skip))
       (.seq
        (.reg [o 65 (.load (some 4) (T 1)), o 66 (.call 117 [(T 65)] 6), o 64 (.mov (T 66)), o 67 (.extract (T 64) 0), o 68 (.extract (T 64) 1), o 9 (.box (some 6) (.c (.agg [.nils, .nils, (.int .i64 0), (.int .i64 0), (.int .i64 0), (.int .i64 0)])) 8), u (.store (some 6) (T 9) (T 67)), o 10 (.mov (T 68))] false)
        (.seq
         (.reg [o 69 (.load (some 4) (T 1)), o 70 (.load (some 6) (T 9)), o 71 (.build [(.int .i64 0), (.int .i64 0), (.int .i64 0)] [(0, none, (I (-1)))]), o 72 (.build [(.int .i64 0), (.int .i64 0), (.int .i64 0), (.int .i64 0), (.int .i64 0)] [(0, none, (I 1)), (1, (some 3), (T 71))]), o 73 (.call 127 [(T 69), (T 70), (T 72)] 9), o 11 (.mov (T 73))] false)
         (.seq
          (.reg [o 74 (.fieldAddr (T 3) 0), o 75 (.load none (T 74)), o 76 (.indexAddr 5 (T 75) (I 0)), o 77 (.fieldAddr (T 76) 0), o 78 (.load none (T 77)), o 79 (.buildSlice none [(I 9)] 9), o 80 (.call 119 [(T 78), (T 79)] 10), o 81 (.mov (T 80)), og (some 82) (.fieldAddr (T 3) 0) 81 true, og (some 83) (.load none (T 82)) 81 true, og (some 84) (.indexAddr 5 (T 83) (I 0)) 81 true, og (some 85) (.fieldAddr (T 84) 1) 81 true, og (some 86) (.load none (T 85)) 81 true, o 87 (.pick (T 81) (T 86) (.c (.bool false))), o 88 (.mov (T 87)), og (some 89) (.fieldAddr (T 3) 0) 88 true, og (some 90) (.load none (T 89)) 88 true, og (some 91) (.indexAddr 5 (T 90) (I 0)) 88 true, og (some 92) (.fieldAddr (T 91) 3) 88 true, og (some 93) (.load none (T 92)) 88 true, og (some 94) (.bin .eql (T 93) (I 1)) 88 true, o 95 (.pick (T 88) (T 94) (.c (.bool false))), o 96 (.mov (T 95)), og (some 97) (.fieldAddr (T 3) 2) 96 true, og (some 98) (.load (some 4) (T 97)) 96 true, og (some 99) (.build [(.int .i64 0), (.int .i64 0), (.int .i64 0), (.int .i64 0)] [(0, none, (I 1)), (2, none, (I 1))]) 96 true, og (some 100) (.eqs false [false, false, false, false] (T 98) (T 99)) 96 true, o 101 (.pick (T 96) (T 100) (.c (.bool false))), o 102 (.mov (T 101)), og (some 103) (.mov (T 11)) 102 true, og (some 104) (.len (T 103)) 102 true, og (some 105) (.bin .eql (T 104) (I 1)) 102 true, o 106 (.pick (T 102) (T 105) (.c (.bool false))), o 107 (.mov (T 106)), og (some 108) (.mov (T 11)) 107 true, og (some 109) (.indexAddr 3 (T 108) (I 0)) 107 true, og (some 110) (.fieldAddr (T 109) 0) 107 true, og (some 111) (.load none (T 110)) 107 true, og (some 112) (.bin .eql (T 111) (I 1)) 107 true, o 113 (.pick (T 107) (T 112) (.c (.bool false))), o 0 (.mov (T 113))] false)
          .ret))))))))), none⟩
def f_step_Do : IFun := ⟨21, 5, true, [true, true, true, true], [.cell (some 6) 8, .tmp 9],
 (.seq
  (.reg [o 4 (.box (some 4) (T 0) 0), o 5 (.box (some 4) (T 1) 1), o 6 (.box (some 6) (T 2) 2), o 7 (.box (some 5) (T 3) 3), o 8 (.box (some 6) (.c (.agg [.nils, .nils, (.int .i64 0), (.int .i64 0), (.int .i64 0), (.int .i64 0)])) 4), o 9 (.mov (I 0))] false)
  (.seq
   (.seq
    (.reg [o 10 (.load (some 4) (T 4)), o 11 (.load (some 4) (T 5)), o 12 (.load (some 6) (T 6)), o 13 (.load (some 5) (T 7)), o 14 (.call 122 [(T 10), (T 11), (T 12), (T 13)] 5), o 15 (.un .not (T 14))] false)
    (.cond (T 15)
     (.seq
      (.reg [o 16 (.build [.nils, .nils, (.int .i64 0), (.int .i64 0), (.int .i64 0), (.int .i64 0)] []), u (.store (some 6) (T 8) (T 16)), o 9 (.mov (I 8))] false)
      .ret)
     .skip))
   (.seq
    (.reg [o 17 (.load (some 4) (T 4)), o 18 (.load (some 6) (T 6)), o 19 (.load (some 5) (T 7)), o 20 (.call 130 [(T 17), (T 18), (T 19)] 5), u (.store (some 6) (T 8) (T 20)), o 9 (.mov (I 0))] false)
    .ret))), none⟩
def f_step_Notes : IFun := ⟨15, 3, true, [true, true, true], [.tmp 6],
 (.seq
  (.reg [o 3 (.box (some 4) (T 0) 0), o 4 (.box (some 6) (T 1) 1), o 5 (.box (some 5) (T 2) 2), o 6 (.mov (.c .nils))] false)
  (.seq
   (.seq
    (.reg [o 7 (.load (some 4) (T 3)), o 8 (.load (some 6) (T 4)), o 9 (.call 132 [(T 7), (T 8)] 3), o 10 (.un .not (T 9))] false)
    (.cond (T 10)
     (.seq
      (.reg [o 6 (.mov (.c .nils))] false)
      .ret)
     .skip))
   (.seq
    (.reg [o 11 (.load (some 4) (T 3)), o 12 (.load (some 6) (T 4)), o 13 (.load (some 5) (T 5)), o 14 (.call 138 [(T 11), (T 12), (T 13)] 3), o 6 (.mov (T 14))] false)
    .ret))), none⟩
def f_step_Run : IFun := ⟨44, 6, true, [true, true, true], [.cell (some 6) 6, .tmp 7, .tmp 8],
 (.seq
  (.reg [o 3 (.box (some 4) (T 0) 0), o 4 (.box (some 4) (T 1) 1), o 6 (.box (some 6) (.c (.agg [.nils, .nils, (.int .i64 0), (.int .i64 0), (.int .i64 0), (.int .i64 0)])) 2), o 7 (.mov (I 0)), o 8 (.mov (I 0))] false)
  (.seq
   (.seq
    (.reg [o 12 (.load (some 4) (T 3)), o 13 (.call 117 [(T 12)] 3), o 11 (.mov (T 13)), o 14 (.extract (T 11) 0), o 15 (.extract (T 11) 1), u (.store (some 6) (T 6) (T 14)), o 8 (.mov (T 15))] false)
    (.seq
     (.reg [o 16 (.mov (T 8)), o 17 (.bin .neq (T 16) (I 0))] false)
     (.cond (T 17)
      (.seq
       (.reg [o 18 (.load (some 6) (T 6)), o 19 (.mov (T 8)), u (.store (some 6) (T 6) (T 18)), o 7 (.mov (I 0)), o 8 (.mov (T 19))] false)
       .ret)
      .skip)))
   (.seq
    (.seq
     (.reg [o 20 (.mov (T 2)), o 21 (.len (T 20)), o 22 (.mov (I 0))] false)
     (.block 0
      (.loop
       (.seq
        (.reg [o 23 (.bin .lss (T 22) (T 21))] false)
        (.seq
         (.cond (T 23)
          .skip
          (.exit 0))
         (.seq
          (.block 1
           (.seq
            (.reg [o 24 (.mov (T 22)), o 25 (.indexAddr 5 (T 20) (T 22)), o 26 (.load (some 5) (T 25)), o 10 (.box (some 5) (.c (.agg [(.int .i64 0), (.int .i64 0), (.int .i64 0), (.int .i64 0), (.int .i64 0)])) 5), o 9 (.mov (T 24)), u (.store (some 5) (T 10) (T 26))] false)
            (.seq
             (.reg [o 28 (.load (some 4) (T 3)), o 29 (.load (some 4) (T 4)), o 30 (.load (some 6) (T 6)), o 31 (.load (some 5) (T 10)), o 32 (.call 118 [(T 28), (T 29), (T 30), (T 31)] 6), o 27 (.mov (T 32)), o 33 (.extract (T 27) 0), o 34 (.extract (T 27) 1), u (.store (some 6) (T 6) (T 33)), o 8 (.mov (T 34))] false)
             (.seq
              (.reg [o 35 (.mov (T 8)), o 36 (.bin .neq (T 35) (I 0))] false)
              (.cond (T 36)
               (.seq
                (.reg [o 37 (.build [.nils, .nils, (.int .i64 0), (.int .i64 0), (.int .i64 0), (.int .i64 0)] []), o 38 (.mov (T 9)), o 39 (.mov (T 8)), u (.store (some 6) (T 6) (T 37)), o 7 (.mov (T 38)), o 8 (.mov (T 39))] false)
                .ret)
               .skip)))))
          (.reg [o 40 (.bin .add (T 22) (I 1)), o 22 (.mov (T 40))] false)))))))
    (.seq
     (.reg [o 41 (.load (some 6) (T 6)), o 42 (.mov (T 2)), o 43 (.len (T 42)), u (.store (some 6) (T 6) (T 41)), o 7 (.mov (T 43)), o 8 (.mov (I 0))] false)
     .ret)))), none⟩
def f_event_Is : IFun := ⟨29, 4, true, [true, true, true, true], [.tmp 8],
 (.seq
  (.reg [o 4 (.box (some 4) (T 0) 0), o 5 (.box (some 4) (T 1) 1), o 6 (.box (some 6) (T 2) 2), o 7 (.box (some 5) (T 3) 3), o 8 (.mov (.c (.bool false)))] false)
  (.seq
   (.reg [⟨(some 9), .load (some 4) (T 4), none, []⟩, ⟨(some 10), .load (some 6) (T 6), none, []⟩, ⟨(some 11), .call 132 [(T 9), (T 10)] 4, none, [0, 1]⟩, ⟨(some 12), .mov (T 11), none, [0, 1, 2]⟩, ⟨(some 13), .load (some 4) (T 5), (some (12, true)), [0, 1, 2, 3]⟩, ⟨(some 14), .call 124 [(T 13)] 4, (some (12, true)), [0, 1, 2, 3, 4]⟩, ⟨(some 15), .pick (T 12) (T 14) (.c (.bool false)), none, [0, 1, 2, 3, 4, 5]⟩, ⟨(some 16), .mov (T 15), none, [0, 1, 2, 3, 4, 5, 6]⟩, ⟨(some 17), .load (some 6) (T 6), (some (16, true)), [0, 1, 2, 3, 4, 5, 6, 7]⟩, ⟨(some 18), .load (some 5) (T 7), (some (16, true)), [0, 1, 2, 3, 4, 5, 6, 7]⟩, ⟨(some 19), .call 136 [(T 17), (T 18)] 4, (some (16, true)), [0, 1, 2, 3, 4, 5, 6, 7, 8, 9]⟩, ⟨(some 20), .pick (T 16) (T 19) (.c (.bool false)), none, [0, 1, 2, 3, 4, 5, 6, 7, 8, 9, 10]⟩, ⟨(some 21), .mov (T 20), none, [0, 1, 2, 3, 4, 5, 6, 7, 8, 9, 10, 11]⟩, ⟨(some 22), .load (some 4) (T 5), (some (21, true)), [0, 1, 2, 3, 4, 5, 6, 7, 8, 9, 10, 11, 12]⟩, ⟨(some 23), .load (some 6) (T 6), (some (21, true)), [0, 1, 2, 3, 4, 5, 6, 7, 8, 9, 10, 11, 12]⟩, ⟨(some 24), .call 131 [(T 22), (T 23)] 4, (some (21, true)), [0, 1, 2, 3, 4, 5, 6, 7, 8, 9, 10, 11, 12, 13, 14]⟩, ⟨(some 25), .fieldAddr (T 7) 0, (some (21, true)), [0, 1, 2, 3, 4, 5, 6, 7, 8, 9, 10, 11, 12]⟩, ⟨(some 26), .load none (T 25), (some (21, true)), [0, 1, 2, 3, 4, 5, 6, 7, 8, 9, 10, 11, 12, 16]⟩, ⟨(some 27), .call 137 [(T 24), (T 26)] 4, (some (21, true)), [0, 1, 2, 3, 4, 5, 6, 7, 8, 9, 10, 11, 12, 13, 14, 15, 16, 17]⟩, ⟨(some 28), .pick (T 21) (T 27) (.c (.bool false)), none, [0, 1, 2, 3, 4, 5, 6, 7, 8, 9, 10, 11, 12, 13, 14, 15, 16, 17, 18]⟩, ⟨(some 8), .mov (T 28), none, [0, 1, 2, 3, 4, 5, 6, 7, 8, 9, 10, 11, 12, 13, 14, 15, 16, 17, 18, 19]⟩] true)
   .ret)), none⟩
def f_event_Enabled : IFun := ⟨23, 4, true, [true, true, true], [.tmp 6],
 (.seq
  (.reg [o 3 (.box (some 4) (T 0) 0), o 4 (.box (some 4) (T 1) 1), o 5 (.box (some 6) (T 2) 2), o 6 (.mov (.c .nils))] false)
  (.seq
   (.seq
    (.reg [o 8 (.load (some 4) (T 3)), o 9 (.load (some 6) (T 5)), o 10 (.call 132 [(T 8), (T 9)] 3), o 11 (.un .not (T 10)), o 12 (.mov (T 11)), og (some 13) (.load (some 4) (T 4)) 12 false, og (some 14) (.call 124 [(T 13)] 3) 12 false, og (some 15) (.un .not (T 14)) 12 false, o 16 (.pick (T 12) (.c (.bool true)) (T 15))] false)
    (.cond (T 16)
     (.seq
      (.reg [o 6 (.mov (.c .nils))] false)
      .ret)
     .skip))
   (.seq
    (.reg [o 17 (.load (some 4) (T 4)), o 18 (.load (some 6) (T 5)), o 19 (.call 133 [(T 17), (T 18)] 3), o 7 (.mov (T 19))] false)
    (.seq
     (.reg [o 20 (.mov (T 7)), o 21 (.call 134 [(T 20), (.c (.fn 135 []))] 3)] false)
     (.seq
      (.reg [o 22 (.mov (T 7)), o 6 (.mov (T 22))] false)
      .ret))))), none⟩
def f_event_Left : IFun := ⟨30, 3, true, [true, true], [.cell (some 4) 4],
 (.seq
  (.reg [o 2 (.box (some 4) (T 0) 0), o 3 (.box (some 6) (T 1) 1), o 4 (.box (some 4) (.c (.agg [(.int .i64 0), (.int .i64 0), (.int .i64 0), (.int .i64 0)])) 2)] false)
  (.seq
   (.reg [⟨(some 5), .fieldAddr (T 2) 0, none, []⟩, ⟨(some 6), .load none (T 5), none, [0]⟩, ⟨(some 7), .fieldAddr (T 3) 2, none, []⟩, ⟨(some 8), .fieldAddr (T 7) 0, none, [2]⟩, ⟨(some 9), .load none (T 8), none, [2, 3]⟩, ⟨(some 10), .call 144 [(T 6), (T 9)] 3, none, [0, 1, 2, 3, 4]⟩, ⟨(some 11), .fieldAddr (T 2) 1, none, []⟩, ⟨(some 12), .load none (T 11), none, [6]⟩, ⟨(some 13), .fieldAddr (T 3) 2, none, []⟩, ⟨(some 14), .fieldAddr (T 13) 1, none, [8]⟩, ⟨(some 15), .load none (T 14), none, [8, 9]⟩, ⟨(some 16), .call 144 [(T 12), (T 15)] 3, none, [0, 1, 2, 3, 4, 5, 6, 7, 8, 9, 10]⟩, ⟨(some 17), .fieldAddr (T 2) 2, none, []⟩, ⟨(some 18), .load none (T 17), none, [12]⟩, ⟨(some 19), .fieldAddr (T 3) 2, none, []⟩, ⟨(some 20), .fieldAddr (T 19) 2, none, [14]⟩, ⟨(some 21), .load none (T 20), none, [14, 15]⟩, ⟨(some 22), .call 144 [(T 18), (T 21)] 3, none, [0, 1, 2, 3, 4, 5, 6, 7, 8, 9, 10, 11, 12, 13, 14, 15, 16]⟩, ⟨(some 23), .fieldAddr (T 2) 3, none, []⟩, ⟨(some 24), .load none (T 23), none, [18]⟩, ⟨(some 25), .fieldAddr (T 3) 2, none, []⟩, ⟨(some 26), .fieldAddr (T 25) 3, none, [20]⟩, ⟨(some 27), .load none (T 26), none, [20, 21]⟩, ⟨(some 28), .call 144 [(T 24), (T 27)] 3, none, [0, 1, 2, 3, 4, 5, 6, 7, 8, 9, 10, 11, 12, 13, 14, 15, 16, 17, 18, 19, 20, 21, 22]⟩, ⟨(some 29), .build [(.int .i64 0), (.int .i64 0), (.int .i64 0), (.int .i64 0)] [(0, none, (T 10)), (1, none, (T 16)), (2, none, (T 22)), (3, none, (T 28))], none, [0, 1, 2, 3, 4, 5, 6, 7, 8, 9, 10, 11, 12, 13, 14, 15, 16, 17, 18, 19, 20, 21, 22, 23]⟩, ⟨none, .store (some 4) (T 4) (T 29), none, [0, 1, 2, 3, 4, 5, 6, 7, 8, 9, 10, 11, 12, 13, 14, 15, 16, 17, 18, 19, 20, 21, 22, 23, 24]⟩] true)
   .ret)), none⟩
def f_event_May : IFun := ⟨25, 1, true, [true], [.tmp 2],
 (.seq
  (.reg [o 1 (.box (some 4) (T 0) 0), o 2 (.mov (.c (.bool false)))] false)
  (.seq
   (.reg [o 3 (.fieldAddr (T 1) 0), o 4 (.load none (T 3)), o 5 (.fieldAddr (T 1) 1), o 6 (.load none (T 5)), o 7 (.fieldAddr (T 1) 2), o 8 (.load none (T 7)), o 9 (.fieldAddr (T 1) 3), o 10 (.load none (T 9)), o 11 (.mm false [(T 4), (T 6), (T 8), (T 10)]), o 12 (.bin .geq (T 11) (I 0)), o 13 (.mov (T 12)), og (some 14) (.fieldAddr (T 1) 0) 13 true, og (some 15) (.load none (T 14)) 13 true, og (some 16) (.fieldAddr (T 1) 1) 13 true, og (some 17) (.load none (T 16)) 13 true, og (some 18) (.fieldAddr (T 1) 2) 13 true, og (some 19) (.load none (T 18)) 13 true, og (some 20) (.fieldAddr (T 1) 3) 13 true, og (some 21) (.load none (T 20)) 13 true, og (some 22) (.mm true [(T 15), (T 17), (T 19), (T 21)]) 13 true, og (some 23) (.bin .leq (T 22) (I 1000)) 13 true, o 24 (.pick (T 13) (T 23) (.c (.bool false))), o 2 (.mov (T 24))] false)
   .ret)), none⟩
def f_world_Start : IFun := ⟨37, 13, false, [true], [.cell (some 6) 2, .tmp 3],
 (.seq
  (.reg [o 1 (.box (some 4) (T 0) 0), o 2 (.box (some 6) (.c (.agg [.nils, .nils, (.int .i64 0), (.int .i64 0), (.int .i64 0), (.int .i64 0)])) 1), o 3 (.mov (I 0))] false)
  (.seq
   (.seq
    (.reg [o 7 (.load (some 4) (T 1)), o 8 (.call 128 [(T 7)] 2), o 4 (.mov (T 8))] false)
    (.seq
     (.reg [o 9 (.mov (T 4)), o 10 (.bin .neq (T 9) (I 0))] false)
     (.cond (T 10)
      (.seq
       (.reg [o 11 (.load (some 6) (T 2)), o 12 (.mov (T 4)), u (.store (some 6) (T 2) (T 11)), o 3 (.mov (T 12))] false)
       .ret)
      .skip)))
   (.seq
    (.seq
     (.reg [o 13 (.fieldAddr (T 1) 1), o 14 (.load none (T 13)), o 15 (.len (T 14)), o 16 (.mov (I 0))] false)
     (.block 0
      (.loop
       (.seq
        (.reg [o 17 (.bin .lss (T 16) (T 15))] false)
        (.seq
         (.cond (T 17)
          .skip
          (.exit 0))
         (.seq
          (.block 1
           (.seq
            (.reg [o 18 (.indexAddr 4 (T 14) (T 16)), o 19 (.load (some 4) (T 18)), o 6 (.box (some 4) (.c (.agg [.nils, (.int .i64 0), (.int .i64 0), (.bool false)])) 2), u (.store (some 4) (T 6) (T 19))] false)
            (.reg [⟨(some 20), .fieldAddr (T 2) 0, none, []⟩, ⟨(some 21), .load none (T 20), none, [0]⟩, ⟨(some 22), .fieldAddr (T 6) 0, none, []⟩, ⟨(some 23), .load none (T 22), none, [2]⟩, ⟨(some 24), .call 105 [(T 23)] 3, none, [2, 3]⟩, ⟨(some 25), .fieldAddr (T 6) 3, none, []⟩, ⟨(some 26), .load none (T 25), none, [5]⟩, ⟨(some 27), .build [.nils, (.bool false), (.int .i64 0), (.int .i64 0), (.int .i64 0)] [(0, none, (T 24)), (1, none, (T 26))], none, [2, 3, 4, 5, 6]⟩, ⟨(some 28), .buildSlice (some 5) [(T 27)] 4, none, [2, 3, 4, 5, 6, 7]⟩, ⟨(some 29), .append 5 (T 21) (T 28) 5, none, [0, 1, 2, 3, 4, 5, 6, 7, 8]⟩, ⟨(some 30), .fieldAddr (T 2) 0, none, [0, 1, 2, 3, 4, 5, 6, 7, 8, 9]⟩, ⟨none, .store none (T 30) (T 29), none, [0, 1, 2, 3, 4, 5, 6, 7, 8, 9, 10]⟩] true)))
          (.reg [o 31 (.bin .add (T 16) (I 1)), o 16 (.mov (T 31))] false)))))))
    (.seq
     (.reg [o 32 (.load (some 4) (T 1)), o 33 (.fieldAddr (T 1) 2), o 34 (.load none (T 33)), o 35 (.callD 129 [(T 32), (T 2), (I (-1)), (T 34)] 6 6)] false)
     (.seq
      (.reg [o 36 (.load (some 6) (T 2)), u (.store (some 6) (T 2) (T 36)), o 3 (.mov (I 0))] false)
      .ret))))), none⟩
def f_alike_Ints : IFun := ⟨26, 0, true, [true, true], [.tmp 4],
 (.seq
  (.reg [o 4 (.mov (.c (.bool false)))] false)
  (.seq
   (.seq
    (.reg [o 6 (.mov (T 0)), o 7 (.len (T 6)), o 8 (.mov (T 1)), o 9 (.len (T 8)), o 10 (.bin .neq (T 7) (T 9))] false)
    (.cond (T 10)
     (.seq
      (.reg [o 4 (.mov (.c (.bool false)))] false)
      .ret)
     .skip))
   (.seq
    (.seq
     (.reg [o 5 (.mov (I 0))] false)
     (.block 0
      (.loop
       (.seq
        (.seq
         (.reg [o 11 (.mov (T 5)), o 12 (.mov (T 0)), o 13 (.len (T 12)), o 14 (.bin .lss (T 11) (T 13))] false)
         (.cond (T 14)
          .skip
          (.exit 0)))
        (.seq
         (.block 1
          (.seq
           (.reg [⟨(some 17), .mov (T 0), none, []⟩, ⟨(some 18), .mov (T 5), none, []⟩, ⟨(some 19), .indexAddr 1 (T 17) (T 18), none, [0, 1]⟩, ⟨(some 20), .load none (T 19), none, [0, 1, 2]⟩, ⟨(some 21), .mov (T 1), none, []⟩, ⟨(some 22), .mov (T 5), none, []⟩, ⟨(some 23), .indexAddr 1 (T 21) (T 22), none, [4, 5]⟩, ⟨(some 24), .load none (T 23), none, [4, 5, 6]⟩, ⟨(some 25), .bin .neq (T 20) (T 24), none, [0, 1, 2, 3, 4, 5, 6, 7]⟩] true)
           (.cond (T 25)
            (.seq
             (.reg [o 4 (.mov (.c (.bool false)))] false)
             .ret)
            .skip)))
         (.reg [o 15 (.mov (T 5)), o 16 (.bin .add (T 15) (I 1)), o 5 (.mov (T 16))] false))))))
    (.seq
     (.reg [o 4 (.mov (.c (.bool true)))] false)
     .ret)))), none⟩
def f_world_Copy : IFun := ⟨28, 7, false, [true], [.cell (some 6) 2],
 (.seq
  (.reg [o 1 (.box (some 6) (T 0) 0), o 2 (.box (some 6) (.c (.agg [.nils, .nils, (.int .i64 0), (.int .i64 0), (.int .i64 0), (.int .i64 0)])) 1)] false)
  (.seq
   (.reg [⟨(some 6), .fieldAddr (T 1) 1, none, []⟩, ⟨(some 7), .load none (T 6), none, [0]⟩, ⟨(some 8), .call 44 [(T 7)] 2, none, [0, 1]⟩, ⟨(some 9), .fieldAddr (T 1) 2, none, []⟩, ⟨(some 10), .load (some 4) (T 9), none, [3]⟩, ⟨(some 11), .build [.nils, .nils, (.int .i64 0), (.int .i64 0), (.int .i64 0), (.int .i64 0)] [(1, none, (T 8)), (2, (some 4), (T 10))], none, [0, 1, 2, 3, 4]⟩, ⟨(some 3), .box (some 6) (.c (.agg [.nils, .nils, (.int .i64 0), (.int .i64 0), (.int .i64 0), (.int .i64 0)])) 3, none, []⟩, ⟨none, .store (some 6) (T 3) (T 11), none, [0, 1, 2, 3, 4, 5, 6]⟩] true)
   (.seq
    (.seq
     (.reg [o 12 (.fieldAddr (T 1) 0), o 13 (.load none (T 12)), o 14 (.len (T 13)), o 15 (.mov (I 0))] false)
     (.block 0
      (.loop
       (.seq
        (.reg [o 16 (.bin .lss (T 15) (T 14))] false)
        (.seq
         (.cond (T 16)
          .skip
          (.exit 0))
         (.seq
          (.block 1
           (.seq
            (.reg [o 17 (.indexAddr 5 (T 13) (T 15)), o 18 (.load (some 5) (T 17)), o 5 (.box (some 5) (.c (.agg [.nils, (.bool false), (.int .i64 0), (.int .i64 0), (.int .i64 0)])) 4), u (.store (some 5) (T 5) (T 18))] false)
            (.reg [⟨(some 19), .fieldAddr (T 3) 0, none, []⟩, ⟨(some 20), .load none (T 19), none, [0]⟩, ⟨(some 21), .load (some 5) (T 5), none, []⟩, ⟨(some 22), .call 160 [(T 21)] 5, none, [2]⟩, ⟨(some 23), .buildSlice (some 5) [(T 22)] 5, none, [2, 3]⟩, ⟨(some 24), .append 5 (T 20) (T 23) 6, none, [0, 1, 2, 3, 4]⟩, ⟨(some 25), .fieldAddr (T 3) 0, none, [0, 1, 2, 3, 4, 5]⟩, ⟨none, .store none (T 25) (T 24), none, [0, 1, 2, 3, 4, 5, 6]⟩] true)))
          (.reg [o 26 (.bin .add (T 15) (I 1)), o 15 (.mov (T 26))] false)))))))
    (.seq
     (.reg [o 27 (.load (some 6) (T 3)), u (.store (some 6) (T 2) (T 27))] false)
     .ret)))), none⟩
def f_world_Same : IFun := ⟨24, 2, true, [true, true], [.tmp 4],
 (.seq
  (.reg [o 2 (.box (some 6) (T 0) 0), o 3 (.box (some 6) (T 1) 1), o 4 (.mov (.c (.bool false)))] false)
  (.seq
   (.reg [o 5 (.fieldAddr (T 2) 0), o 6 (.load none (T 5)), o 7 (.fieldAddr (T 3) 0), o 8 (.load none (T 7)), o 9 (.call 238 [(T 6), (T 8), (.c (.fn 239 []))] 2), o 10 (.mov (T 9)), og (some 11) (.fieldAddr (T 2) 1) 10 true, og (some 12) (.load none (T 11)) 10 true, og (some 13) (.fieldAddr (T 3) 1) 10 true, og (some 14) (.load none (T 13)) 10 true, og (some 15) (.call 43 [(T 12), (T 14)] 2) 10 true, o 16 (.pick (T 10) (T 15) (.c (.bool false))), o 17 (.mov (T 16)), og (some 18) (.fieldAddr (T 2) 2) 17 true, og (some 19) (.load (some 4) (T 18)) 17 true, og (some 20) (.fieldAddr (T 3) 2) 17 true, og (some 21) (.load (some 4) (T 20)) 17 true, og (some 22) (.eqs false [false, false, false, false] (T 19) (T 21)) 17 true, o 23 (.pick (T 17) (T 22) (.c (.bool false))), o 4 (.mov (T 23))] false)
   .ret)), none⟩
def f_world_Check : IFun := ⟨13, 2, true, [true, true], [.tmp 4],
 (.seq
  (.reg [o 2 (.box (some 4) (T 0) 0), o 3 (.box (some 6) (T 1) 1), o 4 (.mov (.c (.bool false)))] false)
  (.seq
   (.reg [o 5 (.load (some 4) (T 2)), o 6 (.call 128 [(T 5)] 2), o 7 (.bin .eql (T 6) (I 0)), o 8 (.mov (T 7)), og (some 9) (.load (some 4) (T 2)) 8 true, og (some 10) (.load (some 6) (T 3)) 8 true, og (some 11) (.call 145 [(T 9), (T 10)] 2) 8 true, o 12 (.pick (T 8) (T 11) (.c (.bool false))), o 4 (.mov (T 12))] false)
   .ret)), none⟩
def f_law11_pair : IFun := ⟨36, 9, true, [true], [.cell (some 4) 2],
 (.seq
  (.reg [o 2 (.box (some 4) (.c (.agg [.nils, .nils, .nils, (.int .i64 0)])) 0)] false)
  (.seq
   (.reg [o 4 (.build [(.int .i64 0), (.int .i64 0)] [(0, none, (I 7))]), o 5 (.build [(.int .i64 0), (.int .i64 0)] [(0, none, (I 21)), (1, none, (I 13))]), o 6 (.build [(.int .i64 0), (.int .i64 0)] [(0, none, (I 5))]), o 7 (.build [(.int .i64 0), (.int .i64 0)] [(0, none, (I 7))]), o 8 (.build [(.int .i64 0), (.int .i64 0)] [(0, none, (I 9))]), o 9 (.build [(.int .i64 0), (.int .i64 0)] [(0, none, (I 6))]), o 10 (.build [(.int .i64 0), (.int .i64 0)] [(0, none, (I 7))]), o 11 (.build [(.int .i64 0), (.int .i64 0)] [(0, none, (I 1)), (1, none, (I 1))]), o 12 (.build [(.int .i64 0), (.int .i64 0)] [(0, none, (I 10))]), o 13 (.build [(.int .i64 0), (.int .i64 0)] [(0, none, (I 1)), (1, none, (I 1))]), o 14 (.build [(.int .i64 0), (.int .i64 0)] [(0, none, (I 8))]), o 15 (.build [(.int .i64 0), (.int .i64 0)] [(0, none, (I 10))]), o 16 (.build [(.int .i64 0), (.int .i64 0)] [(0, none, (I 22))]), o 17 (.buildSlice (some 2) [(T 4), (T 5), (T 6), (T 7), (T 8), (T 9), (T 10), (T 11), (T 12), (T 13), (T 14), (T 15), (T 16)] 1), o 3 (.mov (T 17))] false)
   (.seq
    (.reg [o 18 (.mov (T 3)), o 19 (.build [(.int .i64 0), .nils] [(0, none, (I 1)), (1, none, (T 18))]), o 20 (.build [(.int .i64 0), (.int .i64 0)] [(0, none, (I 1)), (1, none, (I 9))]), o 21 (.build [(.int .i64 0), (.int .i64 0)] [(0, none, (I 6))]), o 22 (.build [(.int .i64 0), (.int .i64 0)] [(0, none, (I 23))]), o 23 (.buildSlice (some 2) [(T 20), (T 21), (T 22)] 2), o 24 (.build [(.int .i64 0), .nils] [(1, none, (T 23))]), o 25 (.buildSlice (some 2) [(T 19), (T 24)] 3), o 26 (.buildSlice none [(I 0)] 4), o 27 (.build [.nils, (.int .i64 0), (.int .i64 0), (.bool false)] [(0, none, (T 26)), (1, none, (I 4)), (2, none, (I 1)), (3, none, (.c (.bool true)))]), o 28 (.buildSlice none [(I 0)] 5), o 29 (.build [.nils, (.int .i64 0), (.int .i64 0), (.bool false)] [(0, none, (T 28)), (1, none, (I 4)), (2, none, (I (-1)))]), o 30 (.buildSlice (some 4) [(T 27), (T 29)] 6), o 31 (.mov (T 0)), o 32 (.buildSlice none [(T 31)] 7), o 33 (.build [(.int .i64 0), (.int .i64 0), .nils] [(2, none, (T 32))]), o 34 (.buildSlice (some 3) [(T 33)] 8), o 35 (.build [.nils, .nils, .nils, (.int .i64 0)] [(0, none, (T 25)), (1, none, (T 30)), (2, none, (T 34)), (3, none, (I 20))]), u (.store (some 4) (T 2) (T 35))] false)
    .ret))), none⟩
def f_step_Apply : IFun := ⟨129, 30, true, [true, true, true], [.cell (some 6) 6],
 (.seq
  (.reg [o 3 (.box (some 4) (T 0) 0), o 4 (.box (some 6) (T 1) 1), o 5 (.box (some 5) (T 2) 2), o 6 (.box (some 6) (.c (.agg [.nils, .nils, (.int .i64 0), (.int .i64 0), (.int .i64 0), (.int .i64 0)])) 3)] false)
  (.seq
   (.reg [o 12 (.load (some 6) (T 4)), o 13 (.call 142 [(T 12)] 4), u (.store (some 6) (T 4) (T 13))] false)
   (.seq
    (.reg [o 14 (.fieldAddr (T 4) 1), o 15 (.load none (T 14)), o 16 (.fieldAddr (T 5) 1), o 17 (.load (some 3) (T 16)), o 18 (.call 39 [(T 15), (T 17)] 6), o 7 (.mov (T 18))] false)
    (.seq
     (.seq
      (.reg [o 19 (.fieldAddr (T 5) 0), o 20 (.load none (T 19))] false)
      (.block 0
       (.seq
        (.seq
         (.reg [o 22 (.bin .eql (T 20) (I 1)), o 21 (.mov (T 22))] false)
         (.cond (T 21)
          .skip
          (.reg [o 23 (.bin .eql (T 20) (I 2)), o 21 (.mov (T 23))] false)))
        (.cond (T 21)
         (.seq
          (.reg [o 24 (.fieldAddr (T 4) 1), o 25 (.load none (T 24)), o 26 (.mov (T 7)), o 27 (.indexAddr 6 (T 25) (T 26)), o 28 (.fieldAddr (T 27) 3), o 29 (.load (some 3) (T 28)), o 8 (.box (some 3) (.c (.agg [(.int .i64 0), (.int .i64 0), .nils])) 6), u (.store (some 3) (T 8) (T 29))] false)
          (.seq
           (.reg [⟨(some 30), .fieldAddr (T 4) 1, none, []⟩, ⟨(some 31), .load none (T 30), none, [0]⟩, ⟨(some 32), .mov (T 7), none, []⟩, ⟨(some 33), .slice 6 (T 31) none (some (T 32)) none, none, [0, 1, 2]⟩, ⟨(some 34), .fieldAddr (T 4) 1, none, []⟩, ⟨(some 35), .load none (T 34), none, [4]⟩, ⟨(some 36), .mov (T 7), none, []⟩, ⟨(some 37), .bin .add (T 36) (I 1), none, [6]⟩, ⟨(some 38), .slice 6 (T 35) (some (T 37)) none none, none, [4, 5, 6, 7]⟩, ⟨(some 39), .append 6 (T 33) (T 38) 7, none, [0, 1, 2, 3, 4, 5, 6, 7, 8]⟩, ⟨(some 40), .fieldAddr (T 4) 1, none, [0, 1, 2, 3, 4, 5, 6, 7, 8, 9]⟩, ⟨none, .store none (T 40) (T 39), none, [0, 1, 2, 3, 4, 5, 6, 7, 8, 9, 10]⟩] true)
           (.seq
            (.seq
             (.reg [o 41 (.fieldAddr (T 5) 0), o 42 (.load none (T 41)), o 43 (.bin .eql (T 42) (I 2))] false)
             (.cond (T 43)
              (.seq
               (.reg [o 44 (.fieldAddr (T 4) 2), o 45 (.fieldAddr (T 44) 0), o 46 (.load none (T 45)), o 47 (.bin .add (T 46) (I 1)), o 48 (.fieldAddr (T 4) 2), o 49 (.fieldAddr (T 48) 0), u (.store none (T 49) (T 47))] false)
               (.exit 0))
              .skip))
            (.seq
             (.reg [o 50 (.load (some 4) (T 3)), o 51 (.fieldAddr (T 8) 0), o 52 (.load none (T 51)), o 53 (.fieldAddr (T 8) 1), o 54 (.load none (T 53)), o 55 (.fieldAddr (T 8) 2), o 56 (.load none (T 55)), o 57 (.call 143 [(T 50), (T 4), (T 52), (T 54), (T 56)] 8), o 9 (.mov (T 57))] false)
             (.reg [o 58 (.load (some 4) (T 3)), o 59 (.fieldAddr (T 8) 0), o 60 (.load none (T 59)), o 61 (.mov (T 9)), o 62 (.callD 129 [(T 58), (T 4), (T 60), (T 61)] 8 6)] false)))))
         (.seq
          (.reg [o 64 (.bin .eql (T 20) (I 3)), o 63 (.mov (T 64))] false)
          (.cond (T 63)
           (.seq
            (.reg [o 65 (.fieldAddr (T 4) 2), o 66 (.fieldAddr (T 65) 1), o 67 (.load none (T 66)), o 68 (.bin .add (T 67) (I 1)), o 69 (.fieldAddr (T 4) 2), o 70 (.fieldAddr (T 69) 1), u (.store none (T 70) (T 68))] false)
            (.seq
             (.reg [o 71 (.fieldAddr (T 4) 1), o 72 (.load none (T 71)), o 73 (.mov (T 7)), o 74 (.indexAddr 6 (T 72) (T 73)), o 75 (.load (some 6) (T 74)), o 10 (.box (some 6) (.c (.agg [(.int .i64 0), (.int .i64 0), (.int .i64 0), (.int .i64 0), (.int .i64 0), .nils])) 15), u (.store (some 6) (T 10) (T 75))] false)
             (.seq
              (.reg [o 76 (.fieldAddr (T 4) 2), o 77 (.fieldAddr (T 76) 1), o 78 (.load none (T 77)), o 79 (.fieldAddr (T 10) 0), o 80 (.fieldAddr (T 79) 2), u (.store none (T 80) (T 78))] false)
              (.reg [o 81 (.load (some 4) (T 3)), o 82 (.load (some 6) (T 10)), o 83 (.callD 141 [(T 81), (T 4), (T 82)] 16 6)] false))))
           (.seq
            (.reg [o 85 (.bin .eql (T 20) (I 4)), o 84 (.mov (T 85))] false)
            (.cond (T 84)
             (.seq
              (.reg [o 86 (.fieldAddr (T 4) 2), o 87 (.fieldAddr (T 86) 2), o 88 (.load none (T 87)), o 89 (.bin .add (T 88) (I 1)), o 90 (.fieldAddr (T 4) 2), o 91 (.fieldAddr (T 90) 2), u (.store none (T 91) (T 89))] false)
              (.seq
               (.reg [o 92 (.fieldAddr (T 4) 0), o 93 (.load none (T 92)), o 94 (.fieldAddr (T 5) 4), o 95 (.load none (T 94)), o 96 (.indexAddr 5 (T 93) (T 95)), o 97 (.fieldAddr (T 96) 1), u (.store none (T 97) (.c (.bool false)))] false)
               (.seq
                (.reg [⟨(some 98), .load (some 4) (T 3), none, []⟩, ⟨(some 99), .fieldAddr (T 5) 4, none, []⟩, ⟨(some 100), .load none (T 99), none, [1]⟩, ⟨(some 101), .fieldAddr (T 3) 1, none, []⟩, ⟨(some 102), .load none (T 101), none, [3]⟩, ⟨(some 103), .fieldAddr (T 5) 4, none, []⟩, ⟨(some 104), .load none (T 103), none, [5]⟩, ⟨(some 105), .indexAddr 4 (T 102) (T 104), none, [3, 4, 5, 6]⟩, ⟨(some 106), .fieldAddr (T 105) 2, none, [3, 4, 5, 6, 7]⟩, ⟨(some 107), .load none (T 106), none, [3, 4, 5, 6, 7, 8]⟩, ⟨(some 108), .call 143 [(T 98), (T 4), (T 100), (T 107), (.c .nils)] 23, none, [0, 1, 2, 3, 4, 5, 6, 7, 8, 9]⟩, ⟨(some 11), .mov (T 108), none, [0, 1, 2, 3, 4, 5, 6, 7, 8, 9, 10]⟩] true)
                (.reg [o 109 (.load (some 4) (T 3)), o 110 (.fieldAddr (T 5) 4), o 111 (.load none (T 110)), o 112 (.mov (T 11)), o 113 (.callD 129 [(T 109), (T 4), (T 111), (T 112)] 23 6)] false))))
             (.seq
              (.reg [o 115 (.bin .eql (T 20) (I 5)), o 114 (.mov (T 115))] false)
              (.cond (T 114)
               (.seq
                (.reg [o 116 (.fieldAddr (T 4) 2), o 117 (.fieldAddr (T 116) 3), o 118 (.load none (T 117)), o 119 (.bin .add (T 118) (I 1)), o 120 (.fieldAddr (T 4) 2), o 121 (.fieldAddr (T 120) 3), u (.store none (T 121) (T 119))] false)
                (.reg [o 122 (.fieldAddr (T 4) 0), o 123 (.load none (T 122)), o 124 (.fieldAddr (T 5) 4), o 125 (.load none (T 124)), o 126 (.indexAddr 5 (T 123) (T 125)), o 127 (.fieldAddr (T 126) 2), u (.store none (T 127) (I 1))] false))
               .skip))))))))))
     (.seq
      (.reg [o 128 (.load (some 6) (T 4)), u (.store (some 6) (T 6) (T 128))] false)
      .ret))))), none⟩
def f_step_Would : IFun := ⟨64, 5, true, [true, true, true], [.tmp 6],
 (.seq
  (.reg [o 3 (.box (some 4) (T 0) 0), o 4 (.box (some 6) (T 1) 1), o 5 (.box (some 5) (T 2) 2), o 6 (.mov (.c .nils))] false)
  (.seq
   (.seq
    (.reg [o 9 (.load (some 6) (T 4)), o 10 (.load (some 5) (T 5)), o 11 (.call 136 [(T 9), (T 10)] 3), o 12 (.un .not (T 11))] false)
    (.cond (T 12)
     (.seq
      (.reg [o 6 (.mov (.c .nils))] false)
      .ret)
     .skip))
   (.seq
    (.seq
     (.reg [o 13 (.fieldAddr (T 5) 0), o 14 (.load none (T 13))] false)
     (.block 0
      (.seq
       (.reg [o 16 (.bin .eql (T 14) (I 1)), o 15 (.mov (T 16))] false)
       (.cond (T 15)
        (.seq
         (.reg [⟨(some 17), .fieldAddr (T 4) 1, none, []⟩, ⟨(some 18), .load none (T 17), none, [0]⟩, ⟨(some 19), .fieldAddr (T 4) 1, none, []⟩, ⟨(some 20), .load none (T 19), none, [2]⟩, ⟨(some 21), .fieldAddr (T 5) 1, none, []⟩, ⟨(some 22), .load (some 3) (T 21), none, [4]⟩, ⟨(some 23), .call 39 [(T 20), (T 22)] 3, none, [2, 3, 4, 5]⟩, ⟨(some 24), .indexAddr 6 (T 18) (T 23), none, [0, 1, 2, 3, 4, 5, 6]⟩, ⟨(some 25), .fieldAddr (T 24) 3, none, [0, 1, 2, 3, 4, 5, 6, 7]⟩, ⟨(some 26), .load (some 3) (T 25), none, [0, 1, 2, 3, 4, 5, 6, 7, 8]⟩, ⟨(some 7), .box (some 3) (.c (.agg [(.int .i64 0), (.int .i64 0), .nils])) 3, none, []⟩, ⟨none, .store (some 3) (T 7) (T 26), none, [0, 1, 2, 3, 4, 5, 6, 7, 8, 9, 10]⟩] true)
         (.seq
          (.reg [⟨(some 27), .load (some 4) (T 3), none, []⟩, ⟨(some 28), .fieldAddr (T 7) 0, none, []⟩, ⟨(some 29), .load none (T 28), none, [1]⟩, ⟨(some 30), .fieldAddr (T 4) 0, none, []⟩, ⟨(some 31), .load none (T 30), none, [3]⟩, ⟨(some 32), .fieldAddr (T 7) 0, none, []⟩, ⟨(some 33), .load none (T 32), none, [5]⟩, ⟨(some 34), .indexAddr 5 (T 31) (T 33), none, [3, 4, 5, 6]⟩, ⟨(some 35), .load (some 5) (T 34), none, [3, 4, 5, 6, 7]⟩, ⟨(some 36), .fieldAddr (T 7) 1, none, []⟩, ⟨(some 37), .load none (T 36), none, [9]⟩, ⟨(some 38), .fieldAddr (T 7) 2, none, []⟩, ⟨(some 39), .load none (T 38), none, [11]⟩, ⟨(some 40), .call 149 [(T 27), (T 29), (T 35), (T 37), (T 39)] 4, none, [0, 1, 2, 3, 4, 5, 6, 7, 8, 9, 10, 11, 12]⟩, ⟨(some 41), .field none (T 40) 5, none, [0, 1, 2, 3, 4, 5, 6, 7, 8, 9, 10, 11, 12, 13]⟩, ⟨(some 6), .mov (T 41), none, [0, 1, 2, 3, 4, 5, 6, 7, 8, 9, 10, 11, 12, 13, 14]⟩] true)
          .ret))
        (.seq
         (.reg [o 43 (.bin .eql (T 14) (I 4)), o 42 (.mov (T 43))] false)
         (.cond (T 42)
          (.seq
           (.reg [o 44 (.fieldAddr (T 4) 0), o 45 (.load none (T 44)), o 46 (.fieldAddr (T 5) 4), o 47 (.load none (T 46)), o 48 (.indexAddr 5 (T 45) (T 47)), o 49 (.load (some 5) (T 48)), o 8 (.box (some 5) (.c (.agg [.nils, (.bool false), (.int .i64 0), (.int .i64 0), (.int .i64 0)])) 4), u (.store (some 5) (T 8) (T 49))] false)
           (.seq
            (.reg [o 50 (.fieldAddr (T 8) 1), u (.store none (T 50) (.c (.bool false)))] false)
            (.seq
             (.reg [⟨(some 51), .load (some 4) (T 3), none, []⟩, ⟨(some 52), .fieldAddr (T 5) 4, none, []⟩, ⟨(some 53), .load none (T 52), none, [1]⟩, ⟨(some 54), .load (some 5) (T 8), none, []⟩, ⟨(some 55), .fieldAddr (T 3) 1, none, []⟩, ⟨(some 56), .load none (T 55), none, [4]⟩, ⟨(some 57), .fieldAddr (T 5) 4, none, []⟩, ⟨(some 58), .load none (T 57), none, [6]⟩, ⟨(some 59), .indexAddr 4 (T 56) (T 58), none, [4, 5, 6, 7]⟩, ⟨(some 60), .fieldAddr (T 59) 2, none, [4, 5, 6, 7, 8]⟩, ⟨(some 61), .load none (T 60), none, [4, 5, 6, 7, 8, 9]⟩, ⟨(some 62), .call 149 [(T 51), (T 53), (T 54), (T 61), (.c .nils)] 5, none, [0, 1, 2, 3, 4, 5, 6, 7, 8, 9, 10]⟩, ⟨(some 63), .field none (T 62) 5, none, [0, 1, 2, 3, 4, 5, 6, 7, 8, 9, 10, 11]⟩, ⟨(some 6), .mov (T 63), none, [0, 1, 2, 3, 4, 5, 6, 7, 8, 9, 10, 11, 12]⟩] true)
             .ret)))
          .skip))))))
    (.seq
     (.reg [o 6 (.mov (.c .nils))] false)
     .ret)))), none⟩
def f_event_Can : IFun := ⟨88, 2, true, [true, true], [.tmp 4],
 (.seq
  (.reg [o 2 (.box (some 6) (T 0) 0), o 3 (.box (some 5) (T 1) 1), o 4 (.mov (.c (.bool false)))] false)
  (.seq
   (.seq
    (.reg [o 6 (.fieldAddr (T 3) 0), o 7 (.load none (T 6))] false)
    (.block 0
     (.seq
      (.seq
       (.reg [o 9 (.bin .eql (T 7) (I 1)), o 8 (.mov (T 9))] false)
       (.cond (T 8)
        .skip
        (.seq
         (.reg [o 10 (.bin .eql (T 7) (I 2)), o 8 (.mov (T 10))] false)
         (.cond (T 8)
          .skip
          (.reg [o 11 (.bin .eql (T 7) (I 3)), o 8 (.mov (T 11))] false)))))
      (.cond (T 8)
       (.seq
        (.reg [o 12 (.fieldAddr (T 2) 1), o 13 (.load none (T 12)), o 14 (.fieldAddr (T 3) 1), o 15 (.load (some 3) (T 14)), o 16 (.call 39 [(T 13), (T 15)] 2), o 5 (.mov (T 16))] false)
        (.seq
         (.reg [⟨(some 17), .fieldAddr (T 3) 4, none, []⟩, ⟨(some 18), .load none (T 17), none, [0]⟩, ⟨(some 19), .bin .eql (T 18) (I 0), none, [0, 1]⟩, ⟨(some 20), .mov (T 19), none, [0, 1, 2]⟩, ⟨(some 21), .mov (T 5), (some (20, true)), [0, 1, 2, 3]⟩, ⟨(some 22), .bin .geq (T 21) (I 0), (some (20, true)), [0, 1, 2, 3, 4]⟩, ⟨(some 23), .pick (T 20) (T 22) (.c (.bool false)), none, [0, 1, 2, 3, 4, 5]⟩, ⟨(some 24), .mov (T 23), none, [0, 1, 2, 3, 4, 5, 6]⟩, ⟨(some 25), .fieldAddr (T 3) 0, (some (24, true)), [0, 1, 2, 3, 4, 5, 6, 7]⟩, ⟨(some 26), .load none (T 25), (some (24, true)), [0, 1, 2, 3, 4, 5, 6, 7, 8]⟩, ⟨(some 27), .bin .neq (T 26) (I 1), (some (24, true)), [0, 1, 2, 3, 4, 5, 6, 7, 8, 9]⟩, ⟨(some 28), .mov (T 27), (some (24, true)), [0, 1, 2, 3, 4, 5, 6, 7, 8, 9, 10]⟩, ⟨(some 29), .fieldAddr (T 2) 0, (some (28, false)), [0, 1, 2, 3, 4, 5, 6, 7, 8, 9, 10, 11]⟩, ⟨(some 30), .load none (T 29), (some (28, false)), [0, 1, 2, 3, 4, 5, 6, 7, 8, 9, 10, 11, 12]⟩, ⟨(some 31), .fieldAddr (T 2) 1, (some (28, false)), [0, 1, 2, 3, 4, 5, 6, 7, 8, 9, 10, 11]⟩, ⟨(some 32), .load none (T 31), (some (28, false)), [0, 1, 2, 3, 4, 5, 6, 7, 8, 9, 10, 11, 14]⟩, ⟨(some 33), .mov (T 5), (some (28, false)), [0, 1, 2, 3, 4, 5, 6, 7, 8, 9, 10, 11]⟩, ⟨(some 34), .indexAddr 6 (T 32) (T 33), (some (28, false)), [0, 1, 2, 3, 4, 5, 6, 7, 8, 9, 10, 11, 14, 15, 16]⟩, ⟨(some 35), .fieldAddr (T 34) 3, (some (28, false)), [0, 1, 2, 3, 4, 5, 6, 7, 8, 9, 10, 11, 14, 15, 16, 17]⟩, ⟨(some 36), .fieldAddr (T 35) 0, (some (28, false)), [0, 1, 2, 3, 4, 5, 6, 7, 8, 9, 10, 11, 14, 15, 16, 17, 18]⟩, ⟨(some 37), .load none (T 36), (some (28, false)), [0, 1, 2, 3, 4, 5, 6, 7, 8, 9, 10, 11, 14, 15, 16, 17, 18, 19]⟩, ⟨(some 38), .indexAddr 5 (T 30) (T 37), (some (28, false)), [0, 1, 2, 3, 4, 5, 6, 7, 8, 9, 10, 11, 12, 13, 14, 15, 16, 17, 18, 19, 20]⟩, ⟨(some 39), .fieldAddr (T 38) 2, (some (28, false)), [0, 1, 2, 3, 4, 5, 6, 7, 8, 9, 10, 11, 12, 13, 14, 15, 16, 17, 18, 19, 20, 21]⟩, ⟨(some 40), .load none (T 39), (some (28, false)), [0, 1, 2, 3, 4, 5, 6, 7, 8, 9, 10, 11, 12, 13, 14, 15, 16, 17, 18, 19, 20, 21, 22]⟩, ⟨(some 41), .bin .eql (T 40) (I 0), (some (28, false)), [0, 1, 2, 3, 4, 5, 6, 7, 8, 9, 10, 11, 12, 13, 14, 15, 16, 17, 18, 19, 20, 21, 22, 23]⟩, ⟨(some 42), .pick (T 28) (.c (.bool true)) (T 41), (some (24, true)), [0, 1, 2, 3, 4, 5, 6, 7, 8, 9, 10, 11, 12, 13, 14, 15, 16, 17, 18, 19, 20, 21, 22, 23, 24]⟩, ⟨(some 43), .pick (T 24) (T 42) (.c (.bool false)), none, [0, 1, 2, 3, 4, 5, 6, 7, 8, 9, 10, 11, 12, 13, 14, 15, 16, 17, 18, 19, 20, 21, 22, 23, 24, 25]⟩, ⟨(some 4), .mov (T 43), none, [0, 1, 2, 3, 4, 5, 6, 7, 8, 9, 10, 11, 12, 13, 14, 15, 16, 17, 18, 19, 20, 21, 22, 23, 24, 25, 26]⟩] true)
         .ret))
       (.seq
        (.seq
         (.reg [o 45 (.bin .eql (T 7) (I 4)), o 44 (.mov (T 45))] false)
         (.cond (T 44)
          .skip
          (.reg [o 46 (.bin .eql (T 7) (I 5)), o 44 (.mov (T 46))] false)))
        (.cond (T 44)
         (.seq
          (.reg [o 47 (.fieldAddr (T 3) 1), o 48 (.load (some 3) (T 47)), o 49 (.build [(.int .i64 0), (.int .i64 0), (.int .i64 0)] []), o 50 (.eqs false [false, false, false] (T 48) (T 49)), o 51 (.mov (T 50)), og (some 52) (.fieldAddr (T 3) 4) 51 true, og (some 53) (.load none (T 52)) 51 true, og (some 54) (.bin .geq (T 53) (I 0)) 51 true, o 55 (.pick (T 51) (T 54) (.c (.bool false))), o 56 (.mov (T 55)), og (some 57) (.fieldAddr (T 3) 4) 56 true, og (some 58) (.load none (T 57)) 56 true, og (some 59) (.fieldAddr (T 2) 0) 56 true, og (some 60) (.load none (T 59)) 56 true, og (some 61) (.len (T 60)) 56 true, og (some 62) (.bin .lss (T 58) (T 61)) 56 true, o 63 (.pick (T 56) (T 62) (.c (.bool false))), o 64 (.mov (T 63)), og (some 65) (.fieldAddr (T 2) 0) 64 true, og (some 66) (.load none (T 65)) 64 true, og (some 67) (.fieldAddr (T 3) 4) 64 true, og (some 68) (.load none (T 67)) 64 true, og (some 69) (.indexAddr 5 (T 66) (T 68)) 64 true, og (some 70) (.fieldAddr (T 69) 2) 64 true, og (some 71) (.load none (T 70)) 64 true, og (some 72) (.bin .eql (T 71) (I 0)) 64 true, o 73 (.pick (T 64) (T 72) (.c (.bool false))), o 74 (.mov (T 73)), og (some 75) (.fieldAddr (T 3) 0) 74 true, og (some 76) (.load none (T 75)) 74 true, og (some 77) (.bin .neq (T 76) (I 4)) 74 true, og (some 78) (.mov (T 77)) 74 true, og (some 79) (.fieldAddr (T 2) 0) 78 false, og (some 80) (.load none (T 79)) 78 false, og (some 81) (.fieldAddr (T 3) 4) 78 false, og (some 82) (.load none (T 81)) 78 false, og (some 83) (.indexAddr 5 (T 80) (T 82)) 78 false, og (some 84) (.fieldAddr (T 83) 1) 78 false, og (some 85) (.load none (T 84)) 78 false, og (some 86) (.pick (T 78) (.c (.bool true)) (T 85)) 74 true, o 87 (.pick (T 74) (T 86) (.c (.bool false))), o 4 (.mov (T 87))] false)
          .ret)
         .skip))))))
   (.seq
    (.reg [o 4 (.mov (.c (.bool false)))] false)
    .ret))), none⟩
def f_event_paid : IFun := ⟨26, 1, true, [true, true], [.tmp 4],
 (.seq
  (.reg [o 2 (.box (some 4) (T 0) 0), o 4 (.mov (.c (.bool false)))] false)
  (.seq
   (.seq
    (.reg [o 5 (.mov (T 1))] false)
    (.block 0
     (.seq
      (.reg [o 7 (.bin .eql (T 5) (I 2)), o 6 (.mov (T 7))] false)
      (.cond (T 6)
       (.seq
        (.reg [o 8 (.fieldAddr (T 2) 0), o 9 (.load none (T 8)), o 10 (.bin .gtr (T 9) (I 0)), o 4 (.mov (T 10))] false)
        .ret)
       (.seq
        (.reg [o 12 (.bin .eql (T 5) (I 3)), o 11 (.mov (T 12))] false)
        (.cond (T 11)
         (.seq
          (.reg [o 13 (.fieldAddr (T 2) 1), o 14 (.load none (T 13)), o 15 (.bin .gtr (T 14) (I 0)), o 4 (.mov (T 15))] false)
          .ret)
         (.seq
          (.reg [o 17 (.bin .eql (T 5) (I 4)), o 16 (.mov (T 17))] false)
          (.cond (T 16)
           (.seq
            (.reg [o 18 (.fieldAddr (T 2) 2), o 19 (.load none (T 18)), o 20 (.bin .gtr (T 19) (I 0)), o 4 (.mov (T 20))] false)
            .ret)
           (.seq
            (.reg [o 22 (.bin .eql (T 5) (I 5)), o 21 (.mov (T 22))] false)
            (.cond (T 21)
             (.seq
              (.reg [o 23 (.fieldAddr (T 2) 3), o 24 (.load none (T 23)), o 25 (.bin .gtr (T 24) (I 0)), o 4 (.mov (T 25))] false)
              .ret)
             .skip))))))))))
   (.seq
    (.reg [o 4 (.mov (.c (.bool true)))] false)
    .ret))), none⟩
def f_event_All : IFun := ⟨59, 11, true, [true, true], [.cell none 4],
 (.seq
  (.reg [o 2 (.box (some 4) (T 0) 0), o 3 (.box (some 6) (T 1) 1), o 4 (.box none (.c .nils) 2)] false)
  (.seq
   (.reg [o 14 (.load (some 4) (T 2)), o 15 (.load (some 6) (T 3)), o 16 (.call 131 [(T 14), (T 15)] 3), o 5 (.box (some 4) (.c (.agg [(.int .i64 0), (.int .i64 0), (.int .i64 0), (.int .i64 0)])) 3), u (.store (some 4) (T 5) (T 16))] false)
   (.seq
    (.reg [o 17 (.mkfn 146 [(T 5), (T 3), (T 4)]), o 6 (.mov (T 17))] false)
    (.seq
     (.seq
      (.reg [o 18 (.buildSlice none [(I 1), (I 2), (I 3)] 4), o 19 (.len (T 18)), o 20 (.mov (I 0))] false)
      (.block 0
       (.loop
        (.seq
         (.reg [o 21 (.bin .lss (T 20) (T 19))] false)
         (.seq
          (.cond (T 21)
           .skip
           (.exit 0))
          (.seq
           (.block 1
            (.seq
             (.reg [o 22 (.indexAddr 1 (T 18) (T 20)), o 23 (.load none (T 22)), o 8 (.mov (T 23))] false)
             (.seq
              (.reg [o 24 (.fieldAddr (T 3) 1), o 25 (.load none (T 24)), o 26 (.len (T 25)), o 27 (.mov (I 0))] false)
              (.block 2
               (.loop
                (.seq
                 (.reg [o 28 (.bin .lss (T 27) (T 26))] false)
                 (.seq
                  (.cond (T 28)
                   .skip
                   (.exit 2))
                  (.seq
                   (.block 3
                    (.seq
                     (.reg [o 29 (.indexAddr 6 (T 25) (T 27)), o 30 (.load (some 6) (T 29)), o 10 (.box (some 6) (.c (.agg [(.int .i64 0), (.int .i64 0), (.int .i64 0), (.int .i64 0), (.int .i64 0), .nils])) 5), u (.store (some 6) (T 10) (T 30))] false)
                     (.reg [o 31 (.mov (T 6)), o 32 (.mov (T 8)), o 33 (.fieldAddr (T 10) 0), o 34 (.load (some 3) (T 33)), o 35 (.build [(.int .i64 0), (.int .i64 0), (.int .i64 0), (.int .i64 0), (.int .i64 0)] [(0, none, (T 32)), (1, (some 3), (T 34))]), o 36 (.callv (T 31) [(T 35)] 6)] false)))
                   (.reg [o 37 (.bin .add (T 27) (I 1)), o 27 (.mov (T 37))] false)))))))))
           (.reg [o 38 (.bin .add (T 20) (I 1)), o 20 (.mov (T 38))] false)))))))
     (.seq
      (.seq
       (.reg [o 39 (.buildSlice none [(I 4), (I 5)] 8), o 40 (.len (T 39)), o 41 (.mov (I 0))] false)
       (.block 4
        (.loop
         (.seq
          (.reg [o 42 (.bin .lss (T 41) (T 40))] false)
          (.seq
           (.cond (T 42)
            .skip
            (.exit 4))
           (.seq
            (.block 5
             (.seq
              (.reg [o 43 (.indexAddr 1 (T 39) (T 41)), o 44 (.load none (T 43)), o 12 (.mov (T 44))] false)
              (.seq
               (.reg [o 45 (.fieldAddr (T 3) 0), o 46 (.load none (T 45)), o 47 (.len (T 46)), o 48 (.mov (I 0))] false)
               (.block 6
                (.loop
                 (.seq
                  (.reg [o 49 (.bin .lss (T 48) (T 47))] false)
                  (.seq
                   (.cond (T 49)
                    .skip
                    (.exit 6))
                   (.seq
                    (.block 7
                     (.seq
                      (.reg [o 50 (.mov (T 48)), o 13 (.mov (T 50))] false)
                      (.reg [o 51 (.mov (T 6)), o 52 (.mov (T 12)), o 53 (.mov (T 13)), o 54 (.build [(.int .i64 0), (.int .i64 0), (.int .i64 0), (.int .i64 0), (.int .i64 0)] [(0, none, (T 52)), (4, none, (T 53))]), o 55 (.callv (T 51) [(T 54)] 9)] false)))
                    (.reg [o 56 (.bin .add (T 48) (I 1)), o 48 (.mov (T 56))] false)))))))))
            (.reg [o 57 (.bin .add (T 41) (I 1)), o 41 (.mov (T 57))] false)))))))
      (.seq
       (.reg [o 58 (.load none (T 4)), u (.store none (T 4) (T 58))] false)
       .ret)))))), none⟩
def f_slices_SortFunc_api_Event_api_Event : IFun := ⟨14, 0, false, [], [],
 (.seq
  (.reg [o 5 (.mov (T 0)), o 6 (.len (T 5)), o 4 (.mov (T 6))] false)
  (.reg [o 7 (.mov (T 0)), o 8 (.mov (T 4)), o 9 (.mov (T 4)), o 10 (.toInt .u64 (T 9)), o 11 (.call 148 [(T 10)] 0), o 12 (.mov (T 1)), o 13 (.call 147 [(T 7), (I 0), (T 8), (T 11), (T 12)] 0)] false)), none⟩
def f_ident_Order : IFun := ⟨22, 3, true, [true, true], [.tmp 4],
 (.seq
  (.reg [o 2 (.box (some 5) (T 0) 0), o 3 (.box (some 5) (T 1) 1), o 4 (.mov (I 0))] false)
  (.seq
   (.reg [⟨(some 5), .fieldAddr (T 2) 0, none, []⟩, ⟨(some 6), .load none (T 5), none, [0]⟩, ⟨(some 7), .fieldAddr (T 3) 0, none, []⟩, ⟨(some 8), .load none (T 7), none, [2]⟩, ⟨(some 9), .call 103 [(T 6), (T 8)] 2, none, [0, 1, 2, 3]⟩, ⟨(some 10), .fieldAddr (T 2) 1, none, []⟩, ⟨(some 11), .load (some 3) (T 10), none, [5]⟩, ⟨(some 12), .fieldAddr (T 3) 1, none, []⟩, ⟨(some 13), .load (some 3) (T 12), none, [7]⟩, ⟨(some 14), .call 96 [(T 11), (T 13)] 2, none, [0, 1, 2, 3, 4, 5, 6, 7, 8]⟩, ⟨(some 15), .fieldAddr (T 2) 4, none, []⟩, ⟨(some 16), .load none (T 15), none, [10]⟩, ⟨(some 17), .fieldAddr (T 3) 4, none, []⟩, ⟨(some 18), .load none (T 17), none, [12]⟩, ⟨(some 19), .call 103 [(T 16), (T 18)] 2, none, [0, 1, 2, 3, 4, 5, 6, 7, 8, 9, 10, 11, 12, 13]⟩, ⟨(some 20), .buildSlice none [(T 9), (T 14), (T 19)] 2, none, [0, 1, 2, 3, 4, 5, 6, 7, 8, 9, 10, 11, 12, 13, 14]⟩, ⟨(some 21), .call 102 [(T 20)] 3, none, [0, 1, 2, 3, 4, 5, 6, 7, 8, 9, 10, 11, 12, 13, 14, 15]⟩, ⟨(some 4), .mov (T 21), none, [0, 1, 2, 3, 4, 5, 6, 7, 8, 9, 10, 11, 12, 13, 14, 15, 16]⟩] true)
   .ret)), none⟩
def f_event_less : IFun := ⟨9, 0, true, [true, true], [.tmp 4],
 (.seq
  (.reg [o 4 (.mov (I 0))] false)
  (.seq
   (.reg [o 5 (.mov (T 0)), o 6 (.mov (T 1)), o 7 (.bin .sub (T 5) (T 6)), o 8 (.mm true [(T 7), (I 0)]), o 4 (.mov (T 8))] false)
   .ret)), none⟩
def f_flow_Check : IFun := ⟨31, 2, true, [true], [.tmp 2],
 (.seq
  (.reg [o 1 (.box (some 4) (T 0) 0), o 2 (.mov (I 0))] false)
  (.seq
   (.seq
    (.reg [o 9 (.load (some 4) (T 1)), o 10 (.call 139 [(T 9)] 1), o 3 (.mov (T 10))] false)
    (.seq
     (.reg [o 11 (.mov (T 3)), o 12 (.bin .neq (T 11) (I 0))] false)
     (.cond (T 12)
      (.seq
       (.reg [o 13 (.mov (T 3)), o 2 (.mov (T 13))] false)
       .ret)
      .skip)))
   (.seq
    (.seq
     (.reg [o 14 (.fieldAddr (T 1) 0), o 15 (.load none (T 14)), o 16 (.len (T 15)), o 17 (.mov (I 0))] false)
     (.block 0
      (.loop
       (.seq
        (.reg [o 18 (.bin .lss (T 17) (T 16))] false)
        (.seq
         (.cond (T 18)
          .skip
          (.exit 0))
         (.seq
          (.block 1
           (.seq
            (.reg [o 19 (.indexAddr 2 (T 15) (T 17)), o 20 (.load (some 2) (T 19)), o 5 (.box (some 2) (.c (.agg [(.int .i64 0), .nils])) 1), u (.store (some 2) (T 5) (T 20))] false)
            (.seq
             (.reg [o 22 (.load (some 4) (T 1)), o 23 (.load (some 2) (T 5)), o 24 (.call 140 [(T 22), (T 23)] 2), o 21 (.mov (T 24)), o 25 (.extract (T 21) 0), o 26 (.extract (T 21) 1), o 27 (.extract (T 21) 2), o 6 (.mov (T 25)), o 7 (.mov (T 26)), o 8 (.mov (T 27))] false)
             (.seq
              (.reg [o 28 (.mov (T 8)), o 29 (.un .not (T 28))] false)
              (.cond (T 29)
               (.seq
                (.reg [o 2 (.mov (I 5))] false)
                .ret)
               .skip)))))
          (.reg [o 30 (.bin .add (T 17) (I 1)), o 17 (.mov (T 30))] false)))))))
    (.seq
     (.reg [o 2 (.mov (I 0))] false)
     .ret)))), none⟩
def f_slices_Clone_int_int : IFun := ⟨8, 2, false, [], [.tmp 2],
 (.seq
  (.reg [o 2 (.mov (.c .nils))] false)
  (.seq
   (.seq
    (.reg [o 3 (.mov (T 0)), o 4 (.eqn 0 false (T 3) (.c .nils))] false)
    (.cond (T 4)
     (.seq
      (.reg [o 2 (.mov (.c .nils))] false)
      .ret)
     .skip))
   (.seq
    (.reg [o 5 (.buildSlice none [] 0), o 6 (.mov (T 0)), o 7 (.append 1 (T 5) (T 6) 1), o 2 (.mov (T 7))] false)
    .ret))), none⟩
def f_world_Give : IFun := ⟨59, 9, true, [true, true, true, true], [],
 (.seq
  (.reg [o 4 (.box (some 4) (T 0) 0)] false)
  (.seq
   (.reg [o 8 (.mov (I 0))] false)
   (.seq
    (.seq
     (.reg [o 11 (.mov (T 2)), o 12 (.bin .geq (T 11) (I 0))] false)
     (.cond (T 12)
      (.reg [o 13 (.mov (T 1)), o 14 (.nilchk (T 13)), o 15 (.fieldAddr (T 14) 0), o 16 (.load none (T 15)), o 17 (.mov (T 2)), o 18 (.indexAddr 5 (T 16) (T 17)), o 19 (.fieldAddr (T 18) 3), o 20 (.load none (T 19)), o 21 (.mov (T 3)), o 22 (.len (T 21)), o 23 (.bin .sub (T 20) (T 22)), o 8 (.mov (T 23))] false)
      .skip))
    (.seq
     (.reg [o 24 (.mov (T 3)), o 25 (.len (T 24)), o 26 (.mov (I 0))] false)
     (.block 0
      (.loop
       (.seq
        (.reg [o 27 (.bin .lss (T 26) (T 25))] false)
        (.seq
         (.cond (T 27)
          .skip
          (.exit 0))
         (.seq
          (.block 1
           (.seq
            (.reg [o 28 (.mov (T 26)), o 29 (.indexAddr 3 (T 24) (T 26)), o 30 (.load (some 3) (T 29)), o 10 (.box (some 3) (.c (.agg [(.int .i64 0), (.int .i64 0), .nils])) 1), o 9 (.mov (T 28)), u (.store (some 3) (T 10) (T 30))] false)
            (.seq
             (.reg [⟨(some 31), .fieldAddr (T 10) 0, none, []⟩, ⟨(some 32), .load none (T 31), none, [0]⟩, ⟨(some 33), .bin .geq (T 32) (I 0), none, [0, 1]⟩, ⟨(some 34), .mov (T 33), none, [0, 1, 2]⟩, ⟨(some 35), .fieldAddr (T 10) 0, (some (34, true)), [0, 1, 2, 3]⟩, ⟨(some 36), .load none (T 35), (some (34, true)), [0, 1, 2, 3, 4]⟩, ⟨(some 37), .fieldAddr (T 4) 1, (some (34, true)), [0, 1, 2, 3]⟩, ⟨(some 38), .load none (T 37), (some (34, true)), [0, 1, 2, 3, 6]⟩, ⟨(some 39), .len (T 38), (some (34, true)), [0, 1, 2, 3, 6, 7]⟩, ⟨(some 40), .mov (T 1), (some (34, true)), [0, 1, 2, 3]⟩, ⟨(some 41), .nilchk (T 40), (some (34, true)), [0, 1, 2, 3, 9]⟩, ⟨(some 42), .fieldAddr (T 41) 0, (some (34, true)), [0, 1, 2, 3, 9, 10]⟩, ⟨(some 43), .load none (T 42), (some (34, true)), [0, 1, 2, 3, 9, 10, 11]⟩, ⟨(some 44), .len (T 43), (some (34, true)), [0, 1, 2, 3, 9, 10, 11, 12]⟩, ⟨(some 45), .mm false [(T 39), (T 44)], (some (34, true)), [0, 1, 2, 3, 6, 7, 8, 9, 10, 11, 12, 13]⟩, ⟨(some 46), .bin .lss (T 36) (T 45), (some (34, true)), [0, 1, 2, 3, 4, 5, 6, 7, 8, 9, 10, 11, 12, 13, 14]⟩, ⟨(some 47), .pick (T 34) (T 46) (.c (.bool false)), none, [0, 1, 2, 3, 4, 5, 6, 7, 8, 9, 10, 11, 12, 13, 14, 15]⟩] true)
             (.cond (T 47)
              (.reg [o 48 (.load (some 4) (T 4)), o 49 (.mov (T 1)), o 50 (.mov (T 2)), o 51 (.mov (T 8)), o 52 (.mov (T 9)), o 53 (.bin .add (T 51) (T 52)), o 54 (.build [(.int .i64 0), (.int .i64 0), (.int .i64 0)] [(0, none, (T 50)), (1, none, (T 53))]), o 55 (.load (some 3) (T 10)), o 56 (.build [(.int .i64 0), (.int .i64 0), (.int .i64 0), (.int .i64 0), (.int .i64 0), .nils] [(0, (some 3), (T 54)), (3, (some 3), (T 55))]), o 57 (.callD 141 [(T 48), (T 49), (T 56)] 2 6)] false)
              .skip))))
          (.reg [o 58 (.bin .add (T 26) (I 1)), o 26 (.mov (T 58))] false)))))))))), none⟩
def f_mail_Copy : IFun := ⟨18, 3, false, [true], [.tmp 2],
 (.seq
  (.reg [o 2 (.mov (.c .nils))] false)
  (.seq
   (.seq
    (.reg [o 5 (.mov (T 0)), o 6 (.len (T 5)), o 7 (.mov (I 0))] false)
    (.block 0
     (.loop
      (.seq
       (.reg [o 8 (.bin .lss (T 7) (T 6))] false)
       (.seq
        (.cond (T 8)
         .skip
         (.exit 0))
        (.seq
         (.block 1
          (.seq
           (.reg [o 9 (.indexAddr 6 (T 5) (T 7)), o 10 (.load (some 6) (T 9)), o 4 (.box (some 6) (.c (.agg [(.int .i64 0), (.int .i64 0), (.int .i64 0), (.int .i64 0), (.int .i64 0), .nils])) 0), u (.store (some 6) (T 4) (T 10))] false)
           (.reg [o 11 (.mov (T 2)), o 12 (.load (some 6) (T 4)), o 13 (.call 77 [(T 12)] 1), o 14 (.buildSlice (some 6) [(T 13)] 1), o 15 (.append 6 (T 11) (T 14) 2), o 2 (.mov (T 15))] false)))
         (.reg [o 16 (.bin .add (T 7) (I 1)), o 7 (.mov (T 16))] false)))))))
   (.seq
    (.reg [o 17 (.mov (T 2)), o 2 (.mov (T 17))] false)
    .ret))), none⟩
def f_world_copyLocal : IFun := ⟨8, 3, true, [true], [.cell (some 5) 2],
 (.seq
  (.reg [o 1 (.box (some 5) (T 0) 0), o 2 (.box (some 5) (.c (.agg [.nils, (.bool false), (.int .i64 0), (.int .i64 0), (.int .i64 0)])) 1)] false)
  (.seq
   (.reg [o 3 (.fieldAddr (T 1) 0), o 4 (.load none (T 3)), o 5 (.call 105 [(T 4)] 2), o 6 (.fieldAddr (T 1) 0), u (.store none (T 6) (T 5))] false)
   (.seq
    (.reg [o 7 (.load (some 5) (T 1)), u (.store (some 5) (T 2) (T 7))] false)
    .ret))), none⟩
def f_slices_EqualFunc_api_Local_api_Local_api_Local_api_Local : IFun := ⟨32, 4, true, [true, true, true], [.tmp 6],
 (.seq
  (.reg [o 6 (.mov (.c (.bool false)))] false)
  (.seq
   (.seq
    (.reg [o 10 (.mov (T 0)), o 11 (.len (T 10)), o 12 (.mov (T 1)), o 13 (.len (T 12)), o 14 (.bin .neq (T 11) (T 13))] false)
    (.cond (T 14)
     (.seq
      (.reg [o 6 (.mov (.c (.bool false)))] false)
      .ret)
     .skip))
   (.seq
    (.seq
     (.reg [o 15 (.mov (T 0)), o 16 (.len (T 15)), o 17 (.mov (I 0))] false)
     (.block 0
      (.loop
       (.seq
        (.reg [o 18 (.bin .lss (T 17) (T 16))] false)
        (.seq
         (.cond (T 18)
          .skip
          (.exit 0))
         (.seq
          (.block 1
           (.seq
            (.reg [o 19 (.mov (T 17)), o 20 (.indexAddr 5 (T 15) (T 17)), o 21 (.load (some 5) (T 20)), o 8 (.box (some 5) (.c (.agg [.nils, (.bool false), (.int .i64 0), (.int .i64 0), (.int .i64 0)])) 0), o 7 (.mov (T 19)), u (.store (some 5) (T 8) (T 21))] false)
            (.seq
             (.reg [o 22 (.mov (T 1)), o 23 (.mov (T 7)), o 24 (.indexAddr 5 (T 22) (T 23)), o 25 (.load (some 5) (T 24)), o 9 (.box (some 5) (.c (.agg [.nils, (.bool false), (.int .i64 0), (.int .i64 0), (.int .i64 0)])) 1), u (.store (some 5) (T 9) (T 25))] false)
             (.seq
              (.reg [o 26 (.mov (T 2)), o 27 (.load (some 5) (T 8)), o 28 (.load (some 5) (T 9)), o 29 (.callv (T 26) [(T 27), (T 28)] 2), o 30 (.un .not (T 29))] false)
              (.cond (T 30)
               (.seq
                (.reg [o 6 (.mov (.c (.bool false)))] false)
                .ret)
               .skip)))))
          (.reg [o 31 (.bin .add (T 17) (I 1)), o 17 (.mov (T 31))] false)))))))
    (.seq
     (.reg [o 6 (.mov (.c (.bool true)))] false)
     .ret)))), none⟩
def f_world_sameLocal : IFun := ⟨38, 2, true, [true, true], [.tmp 4],
 (.seq
  (.reg [o 2 (.box (some 5) (T 0) 0), o 3 (.box (some 5) (T 1) 1), o 4 (.mov (.c (.bool false)))] false)
  (.seq
   (.reg [o 5 (.fieldAddr (T 2) 0), o 6 (.load none (T 5)), o 7 (.fieldAddr (T 3) 0), o 8 (.load none (T 7)), o 9 (.call 100 [(T 6), (T 8)] 2), o 10 (.mov (T 9)), og (some 11) (.fieldAddr (T 2) 1) 10 true, og (some 12) (.load none (T 11)) 10 true, og (some 13) (.fieldAddr (T 3) 1) 10 true, og (some 14) (.load none (T 13)) 10 true, og (some 15) (.eqb false (T 12) (T 14)) 10 true, o 16 (.pick (T 10) (T 15) (.c (.bool false))), o 17 (.mov (T 16)), og (some 18) (.fieldAddr (T 2) 2) 17 true, og (some 19) (.load none (T 18)) 17 true, og (some 20) (.fieldAddr (T 3) 2) 17 true, og (some 21) (.load none (T 20)) 17 true, og (some 22) (.bin .eql (T 19) (T 21)) 17 true, o 23 (.pick (T 17) (T 22) (.c (.bool false))), o 24 (.mov (T 23)), og (some 25) (.fieldAddr (T 2) 3) 24 true, og (some 26) (.load none (T 25)) 24 true, og (some 27) (.fieldAddr (T 3) 3) 24 true, og (some 28) (.load none (T 27)) 24 true, og (some 29) (.bin .eql (T 26) (T 28)) 24 true, o 30 (.pick (T 24) (T 29) (.c (.bool false))), o 31 (.mov (T 30)), og (some 32) (.fieldAddr (T 2) 4) 31 true, og (some 33) (.load none (T 32)) 31 true, og (some 34) (.fieldAddr (T 3) 4) 31 true, og (some 35) (.load none (T 34)) 31 true, og (some 36) (.bin .eql (T 33) (T 35)) 31 true, o 37 (.pick (T 31) (T 36) (.c (.bool false))), o 4 (.mov (T 37))] false)
   .ret)), none⟩
def f_mail_Same : IFun := ⟨8, 0, true, [true, true], [.tmp 4],
 (.seq
  (.reg [o 4 (.mov (.c (.bool false)))] false)
  (.seq
   (.reg [o 5 (.mov (T 0)), o 6 (.mov (T 1)), o 7 (.call 82 [(T 5), (T 6), (.c (.fn 83 []))] 0), o 4 (.mov (T 7))] false)
   .ret)), none⟩
def f_world_Fits : IFun := ⟨58, 3, true, [true, true], [.tmp 4],
 (.seq
  (.reg [o 2 (.box (some 4) (T 0) 0), o 3 (.box (some 6) (T 1) 1), o 4 (.mov (.c (.bool false)))] false)
  (.seq
   (.seq
    (.reg [o 7 (.fieldAddr (T 3) 0), o 8 (.load none (T 7)), o 9 (.len (T 8)), o 10 (.fieldAddr (T 2) 1), o 11 (.load none (T 10)), o 12 (.len (T 11)), o 13 (.bin .neq (T 9) (T 12)), o 14 (.mov (T 13)), og (some 15) (.fieldAddr (T 3) 1) 14 false, og (some 16) (.load none (T 15)) 14 false, og (some 17) (.call 37 [(T 16)] 2) 14 false, og (some 18) (.un .not (T 17)) 14 false, o 19 (.pick (T 14) (.c (.bool true)) (T 18)), o 20 (.mov (T 19)), og (some 21) (.fieldAddr (T 3) 2) 20 false, og (some 22) (.fieldAddr (T 21) 0) 20 false, og (some 23) (.load none (T 22)) 20 false, og (some 24) (.fieldAddr (T 3) 2) 20 false, og (some 25) (.fieldAddr (T 24) 1) 20 false, og (some 26) (.load none (T 25)) 20 false, og (some 27) (.fieldAddr (T 3) 2) 20 false, og (some 28) (.fieldAddr (T 27) 2) 20 false, og (some 29) (.load none (T 28)) 20 false, og (some 30) (.fieldAddr (T 3) 2) 20 false, og (some 31) (.fieldAddr (T 30) 3) 20 false, og (some 32) (.load none (T 31)) 20 false, og (some 33) (.mm false [(T 23), (T 26), (T 29), (T 32)]) 20 false, og (some 34) (.bin .lss (T 33) (I 0)) 20 false, o 35 (.pick (T 20) (.c (.bool true)) (T 34))] false)
    (.cond (T 35)
     (.seq
      (.reg [o 4 (.mov (.c (.bool false)))] false)
      .ret)
     .skip))
   (.seq
    (.seq
     (.reg [o 36 (.fieldAddr (T 3) 0), o 37 (.load none (T 36)), o 38 (.len (T 37)), o 39 (.mov (I 0))] false)
     (.block 0
      (.loop
       (.seq
        (.reg [o 40 (.bin .lss (T 39) (T 38))] false)
        (.seq
         (.cond (T 40)
          .skip
          (.exit 0))
         (.seq
          (.block 1
           (.seq
            (.reg [o 41 (.mov (T 39)), o 42 (.indexAddr 5 (T 37) (T 39)), o 43 (.load (some 5) (T 42)), o 6 (.box (some 5) (.c (.agg [.nils, (.bool false), (.int .i64 0), (.int .i64 0), (.int .i64 0)])) 2), o 5 (.mov (T 41)), u (.store (some 5) (T 6) (T 43))] false)
            (.seq
             (.reg [⟨(some 44), .fieldAddr (T 2) 1, none, []⟩, ⟨(some 45), .load none (T 44), none, [0]⟩, ⟨(some 46), .mov (T 5), none, []⟩, ⟨(some 47), .indexAddr 4 (T 45) (T 46), none, [0, 1, 2]⟩, ⟨(some 48), .load (some 4) (T 47), none, [0, 1, 2, 3]⟩, ⟨(some 49), .load (some 5) (T 6), none, []⟩, ⟨(some 50), .call 161 [(T 48), (T 49)] 3, none, [0, 1, 2, 3, 4, 5]⟩, ⟨(some 51), .un .not (T 50), none, [0, 1, 2, 3, 4, 5, 6]⟩] true)
             (.cond (T 51)
              (.seq
               (.reg [o 4 (.mov (.c (.bool false)))] false)
               .ret)
              .skip))))
          (.reg [o 52 (.bin .add (T 39) (I 1)), o 39 (.mov (T 52))] false)))))))
    (.seq
     (.reg [o 53 (.fieldAddr (T 3) 1), o 54 (.load none (T 53)), o 55 (.mkfn 163 [(T 2), (T 3)]), o 56 (.call 162 [(T 54), (T 55)] 3), o 57 (.un .not (T 56)), o 4 (.mov (T 57))] false)
     .ret)))), none⟩
def f_mail_Find : IFun := ⟨8, 1, true, [true, true], [.tmp 4],
 (.seq
  (.reg [o 3 (.box (some 3) (T 1) 0), o 4 (.mov (I 0))] false)
  (.seq
   (.reg [o 5 (.mov (T 0)), o 6 (.mkfn 81 [(T 3)]), o 7 (.call 73 [(T 5), (T 6)] 1), o 4 (.mov (T 7))] false)
   .ret)), none⟩
def f_step_run : IFun := ⟨34, 2, true, [true, true, true, true, true], [.tmp 10],
 (.seq
  (.reg [o 5 (.box (some 4) (T 0) 0), o 10 (.mov (.c .nils))] false)
  (.seq
   (.reg [⟨(some 12), .load (some 4) (T 5), none, []⟩, ⟨(some 13), .mov (T 2), none, []⟩, ⟨(some 14), .mov (T 1), none, []⟩, ⟨(some 15), .nilchk (T 14), none, [2]⟩, ⟨(some 16), .fieldAddr (T 15) 0, none, [2, 3]⟩, ⟨(some 17), .load none (T 16), none, [2, 3, 4]⟩, ⟨(some 18), .mov (T 2), none, []⟩, ⟨(some 19), .indexAddr 5 (T 17) (T 18), none, [2, 3, 4, 5, 6]⟩, ⟨(some 20), .load (some 5) (T 19), none, [2, 3, 4, 5, 6, 7]⟩, ⟨(some 21), .mov (T 3), none, []⟩, ⟨(some 22), .mov (T 4), none, []⟩, ⟨(some 23), .call 149 [(T 12), (T 13), (T 20), (T 21), (T 22)] 1, none, [0, 1, 2, 3, 4, 5, 6, 7, 8, 9, 10]⟩, ⟨(some 11), .box (some 7) (.c (.agg [.nils, (.bool false), (.int .i64 0), (.int .i64 0), (.int .i64 0), .nils, (.int .i64 0)])) 1, none, []⟩, ⟨none, .store (some 7) (T 11) (T 23), none, [0, 1, 2, 3, 4, 5, 6, 7, 8, 9, 10, 11, 12]⟩] true)
   (.seq
    (.reg [⟨(some 24), .mov (T 1), none, []⟩, ⟨(some 25), .nilchk (T 24), none, [0]⟩, ⟨(some 26), .fieldAddr (T 25) 0, none, [0, 1]⟩, ⟨(some 27), .load none (T 26), none, [0, 1, 2]⟩, ⟨(some 28), .mov (T 2), none, []⟩, ⟨(some 29), .fieldAddr (T 11) 0, none, []⟩, ⟨(some 30), .load (some 5) (T 29), none, [5]⟩, ⟨(some 31), .indexAddr 5 (T 27) (T 28), none, [0, 1, 2, 3, 4, 5, 6]⟩, ⟨none, .store (some 5) (T 31) (T 30), none, [0, 1, 2, 3, 4, 5, 6, 7]⟩] true)
    (.seq
     (.reg [o 32 (.fieldAddr (T 11) 5), o 33 (.load none (T 32)), o 10 (.mov (T 33))] false)
     .ret)))), none⟩
def f_world_Post : IFun := ⟨51, 2, true, [true, true, true], [],
 (.seq
  (.reg [o 3 (.box (some 4) (T 0) 0), o 5 (.box (some 6) (T 2) 1)] false)
  (.seq
   (.reg [o 9 (.fieldAddr (T 5) 3), o 10 (.fieldAddr (T 9) 0), o 11 (.load none (T 10)), o 6 (.mov (T 11))] false)
   (.seq
    (.seq
     (.reg [⟨(some 12), .mov (T 1), none, []⟩, ⟨(some 13), .nilchk (T 12), none, [0]⟩, ⟨(some 14), .fieldAddr (T 13) 1, none, [0, 1]⟩, ⟨(some 15), .load none (T 14), none, [0, 1, 2]⟩, ⟨(some 16), .mov (T 6), none, []⟩, ⟨(some 17), .call 41 [(T 15), (T 16)] 2, none, [0, 1, 2, 3, 4]⟩, ⟨(some 18), .fieldAddr (T 3) 1, none, []⟩, ⟨(some 19), .load none (T 18), none, [6]⟩, ⟨(some 20), .mov (T 6), none, []⟩, ⟨(some 21), .indexAddr 4 (T 19) (T 20), none, [6, 7, 8]⟩, ⟨(some 22), .fieldAddr (T 21) 1, none, [6, 7, 8, 9]⟩, ⟨(some 23), .load none (T 22), none, [6, 7, 8, 9, 10]⟩, ⟨(some 24), .bin .lss (T 17) (T 23), none, [0, 1, 2, 3, 4, 5, 6, 7, 8, 9, 10, 11]⟩] true)
     (.cond (T 24)
      (.seq
       (.reg [⟨(some 26), .mov (T 1), none, []⟩, ⟨(some 27), .nilchk (T 26), none, [0]⟩, ⟨(some 28), .fieldAddr (T 27) 1, none, [0, 1]⟩, ⟨(some 29), .load none (T 28), none, [0, 1, 2]⟩, ⟨(some 30), .load (some 6) (T 5), none, []⟩, ⟨(some 31), .call 32 [(T 29), (T 30)] 2, none, [0, 1, 2, 3, 4]⟩, ⟨(some 25), .mov (T 31), none, [0, 1, 2, 3, 4, 5]⟩, ⟨(some 32), .extract (T 25) 0, none, [0, 1, 2, 3, 4, 5, 6]⟩, ⟨(some 33), .extract (T 25) 1, none, [0, 1, 2, 3, 4, 5, 6]⟩, ⟨(some 7), .mov (T 32), none, [0, 1, 2, 3, 4, 5, 6, 7]⟩, ⟨(some 8), .mov (T 33), none, [0, 1, 2, 3, 4, 5, 6, 7, 8, 9]⟩] true)
       (.seq
        (.reg [o 34 (.mov (T 8)), o 35 (.bin .eql (T 34) (I 0))] false)
        (.cond (T 35)
         (.seq
          (.reg [o 36 (.mov (T 1)), o 37 (.mov (T 7)), o 38 (.nilchk (T 36)), o 39 (.fieldAddr (T 38) 1), u (.store none (T 39) (T 37))] false)
          .ret)
         .skip)))
      .skip))
    (.reg [o 40 (.mov (T 1)), o 41 (.nilchk (T 40)), o 42 (.fieldAddr (T 41) 0), o 43 (.load none (T 42)), o 44 (.mov (T 6)), o 45 (.indexAddr 5 (T 43) (T 44)), o 46 (.fieldAddr (T 45) 4), o 47 (.load none (T 46)), o 48 (.bin .add (T 47) (I 1)), o 49 (.indexAddr 5 (T 43) (T 44)), o 50 (.fieldAddr (T 49) 4), u (.store none (T 50) (T 48))] false)))), none⟩
def f_vm_Go : IFun := ⟨98, 13, true, [true, true, true, true, true], [.cell (some 7) 10],
 (.seq
  (.reg [o 5 (.box (some 4) (T 0) 0), o 7 (.box (some 5) (T 2) 1), o 10 (.box (some 7) (.c (.agg [.nils, (.bool false), (.int .i64 0), (.int .i64 0), (.int .i64 0), .nils, (.int .i64 0)])) 2)] false)
  (.seq
   (.reg [o 15 (.fieldAddr (T 5) 0), o 16 (.load none (T 15)), o 17 (.mov (T 3)), o 18 (.indexAddr 2 (T 16) (T 17)), o 19 (.fieldAddr (T 18) 1), o 20 (.load none (T 19)), o 11 (.mov (T 20))] false)
   (.seq
    (.reg [o 21 (.load (some 4) (T 5)), o 22 (.mov (T 1)), o 23 (.mov (T 4)), o 24 (.load (some 5) (T 7)), o 25 (.build [.nils, .nils, .nils, (.int .i64 0), (.int .i64 0), .nils, .nils, (.bool false), (.int .i64 0), (.int .i64 0), (.int .i64 0), .nils, .nils, (.int .i64 0)] [(0, (some 4), (T 21)), (4, none, (T 22)), (5, none, (T 23)), (6, (some 5), (T 24))]), o 26 (.box (some 14) (T 25) 3), o 12 (.mov (T 26))] false)
    (.seq
     (.reg [o 27 (.mov (T 12)), o 28 (.fieldAddr (T 7) 0), o 29 (.load none (T 28)), o 30 (.call 105 [(T 29)] 4), o 31 (.nilchk (T 27)), o 32 (.fieldAddr (T 31) 6), o 33 (.fieldAddr (T 32) 0), u (.store none (T 33) (T 30))] false)
     (.seq
      (.reg [o 13 (.mov (I 0))] false)
      (.seq
       (.block 0
        (.loop
         (.seq
          (.seq
           (.reg [o 34 (.mov (T 12)), o 35 (.nilchk (T 34)), o 36 (.fieldAddr (T 35) 13), o 37 (.load none (T 36)), o 38 (.bin .geq (T 37) (I 0)), o 39 (.mov (T 38)), og (some 40) (.mov (T 12)) 39 true, og (some 41) (.nilchk (T 40)) 39 true, og (some 42) (.fieldAddr (T 41) 13) 39 true, og (some 43) (.load none (T 42)) 39 true, og (some 44) (.mov (T 11)) 39 true, og (some 45) (.len (T 44)) 39 true, og (some 46) (.bin .lss (T 43) (T 45)) 39 true, o 47 (.pick (T 39) (T 46) (.c (.bool false)))] false)
           (.cond (T 47)
            .skip
            (.exit 0)))
          (.block 1
           (.seq
            (.reg [o 14 (.mov (I 2))] false)
            (.seq
             (.seq
              (.reg [o 48 (.mov (T 13)), o 49 (.fieldAddr (T 5) 3), o 50 (.load none (T 49)), o 51 (.bin .lss (T 48) (T 50))] false)
              (.cond (T 51)
               (.seq
                (.reg [o 52 (.mov (T 13)), o 53 (.bin .add (T 52) (I 1)), o 13 (.mov (T 53))] false)
                (.reg [o 54 (.mov (T 12)), o 55 (.mov (T 11)), o 56 (.mov (T 12)), o 57 (.nilchk (T 56)), o 58 (.fieldAddr (T 57) 13), o 59 (.load none (T 58)), o 60 (.indexAddr 2 (T 55) (T 59)), o 61 (.load (some 2) (T 60)), o 62 (.callD 175 [(T 54), (T 61)] 5 6), o 14 (.mov (T 62))] false))
               .skip))
             (.seq
              (.reg [o 63 (.mov (T 14)), o 64 (.bin .neq (T 63) (I 0))] false)
              (.cond (T 64)
               (.seq
                (.reg [o 65 (.fieldAddr (T 7) 0), o 66 (.load none (T 65)), o 67 (.call 105 [(T 66)] 12), o 68 (.mov (T 14)), o 69 (.fieldAddr (T 7) 0), u (.store none (T 69) (T 67)), o 70 (.fieldAddr (T 7) 2), u (.store none (T 70) (T 68))] false)
                (.seq
                 (.reg [o 71 (.load (some 5) (T 7)), o 72 (.mov (T 13)), o 73 (.build [.nils, (.bool false), (.int .i64 0), (.int .i64 0), (.int .i64 0), .nils, (.int .i64 0)] [(0, (some 5), (T 71)), (6, none, (T 72))]), u (.store (some 7) (T 10) (T 73))] false)
                 .ret))
               .skip))))))))
       (.seq
        (.reg [⟨(some 74), .mov (T 12), none, []⟩, ⟨(some 75), .nilchk (T 74), none, [0]⟩, ⟨(some 76), .fieldAddr (T 75) 6, none, [0, 1]⟩, ⟨(some 77), .fieldAddr (T 76) 3, none, [0, 1, 2]⟩, ⟨(some 78), .load none (T 77), none, [0, 1, 2, 3]⟩, ⟨(some 79), .mov (T 12), none, []⟩, ⟨(some 80), .nilchk (T 79), none, [5]⟩, ⟨(some 81), .fieldAddr (T 80) 12, none, [5, 6]⟩, ⟨(some 82), .load none (T 81), none, [5, 6, 7]⟩, ⟨(some 83), .len (T 82), none, [5, 6, 7, 8]⟩, ⟨(some 84), .bin .add (T 78) (T 83), none, [0, 1, 2, 3, 4, 5, 6, 7, 8, 9]⟩, ⟨(some 85), .nilchk (T 74), none, [0, 1, 2, 3, 4, 5, 6, 7, 8, 9, 10]⟩, ⟨(some 86), .fieldAddr (T 85) 6, none, [0, 1, 2, 3, 4, 5, 6, 7, 8, 9, 10, 11]⟩, ⟨(some 87), .fieldAddr (T 86) 3, none, [0, 1, 2, 3, 4, 5, 6, 7, 8, 9, 10, 11, 12]⟩, ⟨none, .store none (T 87) (T 84), none, [0, 1, 2, 3, 4, 5, 6, 7, 8, 9, 10, 11, 12, 13]⟩] true)
        (.seq
         (.reg [⟨(some 88), .mov (T 12), none, []⟩, ⟨(some 89), .nilchk (T 88), none, [0]⟩, ⟨(some 90), .fieldAddr (T 89) 6, none, [0, 1]⟩, ⟨(some 91), .load (some 5) (T 90), none, [0, 1, 2]⟩, ⟨(some 92), .mov (T 12), none, []⟩, ⟨(some 93), .nilchk (T 92), none, [4]⟩, ⟨(some 94), .fieldAddr (T 93) 12, none, [4, 5]⟩, ⟨(some 95), .load none (T 94), none, [4, 5, 6]⟩, ⟨(some 96), .mov (T 13), none, []⟩, ⟨(some 97), .build [.nils, (.bool false), (.int .i64 0), (.int .i64 0), (.int .i64 0), .nils, (.int .i64 0)] [(0, (some 5), (T 91)), (5, none, (T 95)), (6, none, (T 96))], none, [0, 1, 2, 3, 4, 5, 6, 7, 8]⟩, ⟨none, .store (some 7) (T 10) (T 97), none, [0, 1, 2, 3, 4, 5, 6, 7, 8, 9]⟩] true)
         .ret)))))))), none⟩
def f_event_All_1 : IFun := ⟨18, 3, true, [], [],
 (.seq
  (.reg [o 4 (.box (some 5) (T 0) 0)] false)
  (.seq
   (.reg [o 5 (.load (some 4) (T 1)), o 6 (.fieldAddr (T 4) 0), o 7 (.load none (T 6)), o 8 (.call 137 [(T 5), (T 7)] 1), o 9 (.mov (T 8)), og (some 10) (.load (some 6) (T 2)) 9 true, og (some 11) (.load (some 5) (T 4)) 9 true, og (some 12) (.call 136 [(T 10), (T 11)] 1) 9 true, o 13 (.pick (T 9) (T 12) (.c (.bool false)))] false)
   (.cond (T 13)
    (.reg [o 14 (.load none (T 3)), o 15 (.load (some 5) (T 4)), o 16 (.buildSlice (some 5) [(T 15)] 1), o 17 (.append 5 (T 14) (T 16) 2), u (.store none (T 3) (T 17))] false)
    .skip))), none⟩
def f_slices_pdqsortCmpFunc_api_Event : IFun := ⟨148, 2, true, [], [],
 (.seq
  (.reg [o 10 (.mov (.c (.bool true)))] false)
  (.seq
   (.reg [o 11 (.mov (.c (.bool true)))] false)
   (.block 0
    (.loop
     (.block 1
      (.seq
       (.reg [o 21 (.mov (T 2)), o 22 (.mov (T 1)), o 23 (.bin .sub (T 21) (T 22)), o 12 (.mov (T 23))] false)
       (.seq
        (.seq
         (.reg [o 24 (.mov (T 12)), o 25 (.bin .leq (T 24) (I 12))] false)
         (.cond (T 25)
          (.seq
           (.reg [o 26 (.mov (T 0)), o 27 (.mov (T 1)), o 28 (.mov (T 2)), o 29 (.mov (T 4)), o 30 (.call 165 [(T 26), (T 27), (T 28), (T 29)] 0)] false)
           .ret)
          .skip))
        (.seq
         (.seq
          (.reg [o 31 (.mov (T 3)), o 32 (.bin .eql (T 31) (I 0))] false)
          (.cond (T 32)
           (.seq
            (.reg [o 33 (.mov (T 0)), o 34 (.mov (T 1)), o 35 (.mov (T 2)), o 36 (.mov (T 4)), o 37 (.call 166 [(T 33), (T 34), (T 35), (T 36)] 0)] false)
            .ret)
           .skip))
         (.seq
          (.seq
           (.reg [o 38 (.mov (T 10)), o 39 (.un .not (T 38))] false)
           (.cond (T 39)
            (.seq
             (.reg [o 40 (.mov (T 0)), o 41 (.mov (T 1)), o 42 (.mov (T 2)), o 43 (.mov (T 4)), o 44 (.call 167 [(T 40), (T 41), (T 42), (T 43)] 0)] false)
             (.reg [o 45 (.mov (T 3)), o 46 (.bin .sub (T 45) (I 1)), o 3 (.mov (T 46))] false))
            .skip))
          (.seq
           (.reg [o 48 (.mov (T 0)), o 49 (.mov (T 1)), o 50 (.mov (T 2)), o 51 (.mov (T 4)), o 52 (.call 168 [(T 48), (T 49), (T 50), (T 51)] 0), o 47 (.mov (T 52)), o 53 (.extract (T 47) 0), o 54 (.extract (T 47) 1), o 13 (.mov (T 53)), o 14 (.mov (T 54))] false)
           (.seq
            (.seq
             (.reg [o 55 (.mov (T 14)), o 56 (.bin .eql (T 55) (I 2))] false)
             (.cond (T 56)
              (.seq
               (.reg [o 57 (.mov (T 0)), o 58 (.mov (T 1)), o 59 (.mov (T 2)), o 60 (.mov (T 4)), o 61 (.call 169 [(T 57), (T 58), (T 59), (T 60)] 0)] false)
               (.seq
                (.reg [o 62 (.mov (T 2)), o 63 (.bin .sub (T 62) (I 1)), o 64 (.mov (T 13)), o 65 (.mov (T 1)), o 66 (.bin .sub (T 64) (T 65)), o 67 (.bin .sub (T 63) (T 66)), o 13 (.mov (T 67))] false)
                (.reg [o 14 (.mov (I 1))] false)))
              .skip))
            (.seq
             (.seq
              (.reg [o 68 (.mov (T 10)), o 69 (.mov (T 68)), og (some 70) (.mov (T 11)) 69 true, o 71 (.pick (T 69) (T 70) (.c (.bool false))), o 72 (.mov (T 71)), og (some 73) (.mov (T 14)) 72 true, og (some 74) (.bin .eql (T 73) (I 1)) 72 true, o 75 (.pick (T 72) (T 74) (.c (.bool false)))] false)
              (.cond (T 75)
               (.seq
                (.reg [o 76 (.mov (T 0)), o 77 (.mov (T 1)), o 78 (.mov (T 2)), o 79 (.mov (T 4)), o 80 (.call 170 [(T 76), (T 77), (T 78), (T 79)] 0)] false)
                (.cond (T 80)
                 .ret
                 .skip))
               .skip))
             (.seq
              (.seq
               (.reg [⟨(some 81), .mov (T 1), none, []⟩, ⟨(some 82), .bin .gtr (T 81) (I 0), none, [0]⟩, ⟨(some 83), .mov (T 82), none, [0, 1]⟩, ⟨(some 84), .mov (T 4), (some (83, true)), [0, 1, 2]⟩, ⟨(some 85), .mov (T 0), (some (83, true)), [0, 1, 2]⟩, ⟨(some 86), .mov (T 1), (some (83, true)), [0, 1, 2]⟩, ⟨(some 87), .bin .sub (T 86) (I 1), (some (83, true)), [0, 1, 2, 5]⟩, ⟨(some 88), .indexAddr 5 (T 85) (T 87), (some (83, true)), [0, 1, 2, 4, 5, 6]⟩, ⟨(some 89), .load (some 5) (T 88), (some (83, true)), [0, 1, 2, 4, 5, 6, 7]⟩, ⟨(some 90), .mov (T 0), (some (83, true)), [0, 1, 2]⟩, ⟨(some 91), .mov (T 13), (some (83, true)), [0, 1, 2]⟩, ⟨(some 92), .indexAddr 5 (T 90) (T 91), (some (83, true)), [0, 1, 2, 9, 10]⟩, ⟨(some 93), .load (some 5) (T 92), (some (83, true)), [0, 1, 2, 9, 10, 11]⟩, ⟨(some 94), .callv (T 84) [(T 89), (T 93)] 0, (some (83, true)), [0, 1, 2, 3, 4, 5, 6, 7, 8, 9, 10, 11, 12]⟩, ⟨(some 95), .bin .lss (T 94) (I 0), (some (83, true)), [0, 1, 2, 3, 4, 5, 6, 7, 8, 9, 10, 11, 12, 13]⟩, ⟨(some 96), .un .not (T 95), (some (83, true)), [0, 1, 2, 3, 4, 5, 6, 7, 8, 9, 10, 11, 12, 13, 14]⟩, ⟨(some 97), .pick (T 83) (T 96) (.c (.bool false)), none, [0, 1, 2, 3, 4, 5, 6, 7, 8, 9, 10, 11, 12, 13, 14, 15]⟩] true)
               (.cond (T 97)
                (.seq
                 (.reg [o 98 (.mov (T 0)), o 99 (.mov (T 1)), o 100 (.mov (T 2)), o 101 (.mov (T 13)), o 102 (.mov (T 4)), o 103 (.call 171 [(T 98), (T 99), (T 100), (T 101), (T 102)] 2), o 15 (.mov (T 103))] false)
                 (.seq
                  (.reg [o 104 (.mov (T 15)), o 1 (.mov (T 104))] false)
                  (.exit 1)))
                .skip))
              (.seq
               (.reg [o 106 (.mov (T 0)), o 107 (.mov (T 1)), o 108 (.mov (T 2)), o 109 (.mov (T 13)), o 110 (.mov (T 4)), o 111 (.call 172 [(T 106), (T 107), (T 108), (T 109), (T 110)] 2), o 105 (.mov (T 111)), o 112 (.extract (T 105) 0), o 113 (.extract (T 105) 1), o 16 (.mov (T 112)), o 17 (.mov (T 113))] false)
               (.seq
                (.reg [o 114 (.mov (T 17)), o 11 (.mov (T 114))] false)
                (.seq
                 (.reg [o 115 (.mov (T 16)), o 116 (.mov (T 1)), o 117 (.bin .sub (T 115) (T 116)), o 118 (.mov (T 2)), o 119 (.mov (T 16)), o 120 (.bin .sub (T 118) (T 119)), o 18 (.mov (T 117)), o 19 (.mov (T 120))] false)
                 (.seq
                  (.reg [o 121 (.mov (T 12)), o 122 (.bin .quo (T 121) (I 8)), o 20 (.mov (T 122))] false)
                  (.seq
                   (.reg [o 123 (.mov (T 18)), o 124 (.mov (T 19)), o 125 (.bin .lss (T 123) (T 124))] false)
                   (.cond (T 125)
                    (.seq
                     (.reg [o 126 (.mov (T 18)), o 127 (.mov (T 20)), o 128 (.bin .geq (T 126) (T 127)), o 10 (.mov (T 128))] false)
                     (.seq
                      (.reg [o 129 (.mov (T 0)), o 130 (.mov (T 1)), o 131 (.mov (T 16)), o 132 (.mov (T 3)), o 133 (.mov (T 4)), o 134 (.call 147 [(T 129), (T 130), (T 131), (T 132), (T 133)] 2)] false)
                      (.reg [o 135 (.mov (T 16)), o 136 (.bin .add (T 135) (I 1)), o 1 (.mov (T 136))] false)))
                    (.seq
                     (.reg [o 137 (.mov (T 19)), o 138 (.mov (T 20)), o 139 (.bin .geq (T 137) (T 138)), o 10 (.mov (T 139))] false)
                     (.seq
                      (.reg [o 140 (.mov (T 0)), o 141 (.mov (T 16)), o 142 (.bin .add (T 141) (I 1)), o 143 (.mov (T 2)), o 144 (.mov (T 3)), o 145 (.mov (T 4)), o 146 (.call 147 [(T 140), (T 142), (T 143), (T 144), (T 145)] 2)] false)
                      (.reg [o 147 (.mov (T 16)), o 2 (.mov (T 147))] false)))))))))))))))))))))), none⟩
def f_math_bits_Len : IFun := ⟨8, 0, true, [true], [.tmp 2],
 (.seq
  (.reg [o 2 (.mov (I 0))] false)
  (.seq
   (.cond (.c (.bool false))
    (.seq
     (.reg [o 3 (.mov (T 0)), o 4 (.toInt .u32 (T 3)), o 5 (.call 173 [(T 4)] 0), o 2 (.mov (T 5))] false)
     .ret)
    .skip)
   (.seq
    (.reg [o 6 (.mov (T 0)), o 7 (.call 174 [(T 6)] 0), o 2 (.mov (T 7))] false)
    .ret))), none⟩
def f_cmp_Or_int : IFun := ⟨18, 0, true, [true], [.tmp 2],
 (.seq
  (.reg [o 2 (.mov (I 0))] false)
  (.seq
   (.reg [o 3 (.mov (I 0))] false)
   (.seq
    (.seq
     (.reg [o 6 (.mov (T 0)), o 7 (.len (T 6)), o 8 (.mov (I 0))] false)
     (.block 0
      (.loop
       (.seq
        (.reg [o 9 (.bin .lss (T 8) (T 7))] false)
        (.seq
         (.cond (T 9)
          .skip
          (.exit 0))
         (.seq
          (.block 1
           (.seq
            (.reg [o 10 (.indexAddr 1 (T 6) (T 8)), o 11 (.load none (T 10)), o 5 (.mov (T 11))] false)
            (.seq
             (.reg [o 12 (.mov (T 5)), o 13 (.mov (T 3)), o 14 (.bin .neq (T 12) (T 13))] false)
             (.cond (T 14)
              (.seq
               (.reg [o 15 (.mov (T 5)), o 2 (.mov (T 15))] false)
               .ret)
              .skip))))
          (.reg [o 16 (.bin .add (T 8) (I 1)), o 8 (.mov (T 16))] false)))))))
    (.seq
     (.reg [o 17 (.mov (T 3)), o 2 (.mov (T 17))] false)
     .ret)))), none⟩
def f_cmp_Compare_int : IFun := ⟨20, 0, true, [true, true], [.tmp 4],
 (.seq
  (.reg [o 4 (.mov (I 0))] false)
  (.seq
   (.reg [o 7 (.mov (T 0)), o 8 (.call 106 [(T 7)] 0), o 5 (.mov (T 8))] false)
   (.seq
    (.reg [o 9 (.mov (T 1)), o 10 (.call 106 [(T 9)] 0), o 6 (.mov (T 10))] false)
    (.seq
     (.seq
      (.reg [o 11 (.mov (T 5))] false)
      (.cond (T 11)
       (.seq
        (.seq
         (.reg [o 12 (.mov (T 6))] false)
         (.cond (T 12)
          (.seq
           (.reg [o 4 (.mov (I 0))] false)
           .ret)
          .skip))
        (.seq
         (.reg [o 4 (.mov (I (-1)))] false)
         .ret))
       .skip))
     (.seq
      (.seq
       (.reg [o 13 (.mov (T 6))] false)
       (.cond (T 13)
        (.seq
         (.reg [o 4 (.mov (I 1))] false)
         .ret)
        .skip))
      (.seq
       (.seq
        (.reg [o 14 (.mov (T 0)), o 15 (.mov (T 1)), o 16 (.bin .lss (T 14) (T 15))] false)
        (.cond (T 16)
         (.seq
          (.reg [o 4 (.mov (I (-1)))] false)
          .ret)
         .skip))
       (.seq
        (.seq
         (.reg [o 17 (.mov (T 0)), o 18 (.mov (T 1)), o 19 (.bin .gtr (T 17) (T 18))] false)
         (.cond (T 19)
          (.seq
           (.reg [o 4 (.mov (I 1))] false)
           .ret)
          .skip))
        (.seq
         (.reg [o 4 (.mov (I 0))] false)
         .ret)))))))), none⟩
def f_ident_order : IFun := ⟨22, 3, true, [true, true], [.tmp 4],
 (.seq
  (.reg [o 2 (.box (some 3) (T 0) 0), o 3 (.box (some 3) (T 1) 1), o 4 (.mov (I 0))] false)
  (.seq
   (.reg [⟨(some 5), .fieldAddr (T 2) 0, none, []⟩, ⟨(some 6), .load none (T 5), none, [0]⟩, ⟨(some 7), .fieldAddr (T 3) 0, none, []⟩, ⟨(some 8), .load none (T 7), none, [2]⟩, ⟨(some 9), .call 103 [(T 6), (T 8)] 2, none, [0, 1, 2, 3]⟩, ⟨(some 10), .fieldAddr (T 2) 1, none, []⟩, ⟨(some 11), .load none (T 10), none, [5]⟩, ⟨(some 12), .fieldAddr (T 3) 1, none, []⟩, ⟨(some 13), .load none (T 12), none, [7]⟩, ⟨(some 14), .call 103 [(T 11), (T 13)] 2, none, [0, 1, 2, 3, 4, 5, 6, 7, 8]⟩, ⟨(some 15), .fieldAddr (T 2) 2, none, []⟩, ⟨(some 16), .load none (T 15), none, [10]⟩, ⟨(some 17), .fieldAddr (T 3) 2, none, []⟩, ⟨(some 18), .load none (T 17), none, [12]⟩, ⟨(some 19), .call 103 [(T 16), (T 18)] 2, none, [0, 1, 2, 3, 4, 5, 6, 7, 8, 9, 10, 11, 12, 13]⟩, ⟨(some 20), .buildSlice none [(T 9), (T 14), (T 19)] 2, none, [0, 1, 2, 3, 4, 5, 6, 7, 8, 9, 10, 11, 12, 13, 14]⟩, ⟨(some 21), .call 102 [(T 20)] 3, none, [0, 1, 2, 3, 4, 5, 6, 7, 8, 9, 10, 11, 12, 13, 14, 15]⟩, ⟨(some 4), .mov (T 21), none, [0, 1, 2, 3, 4, 5, 6, 7, 8, 9, 10, 11, 12, 13, 14, 15, 16]⟩] true)
   .ret)), none⟩
def f_prog_Check : IFun := ⟨47, 1, true, [true], [.tmp 2],
 (.seq
  (.reg [o 1 (.box (some 4) (T 0) 0), o 2 (.mov (I 0))] false)
  (.seq
   (.block 0
    (.seq
     (.seq
      (.reg [o 6 (.fieldAddr (T 1) 0), o 7 (.load none (T 6)), o 8 (.len (T 7)), o 9 (.bin .gtr (T 8) (I 16)), o 5 (.mov (T 9))] false)
      (.cond (T 5)
       .skip
       (.seq
        (.reg [o 10 (.fieldAddr (T 1) 1), o 11 (.load none (T 10)), o 12 (.len (T 11)), o 13 (.bin .gtr (T 12) (I 8)), o 5 (.mov (T 13))] false)
        (.cond (T 5)
         .skip
         (.reg [o 14 (.fieldAddr (T 1) 2), o 15 (.load none (T 14)), o 16 (.len (T 15)), o 17 (.bin .gtr (T 16) (I 16)), o 5 (.mov (T 17))] false)))))
     (.cond (T 5)
      (.seq
       (.reg [o 2 (.mov (I 3))] false)
       .ret)
      (.seq
       (.seq
        (.reg [o 19 (.fieldAddr (T 1) 1), o 20 (.load none (T 19)), o 21 (.len (T 20)), o 22 (.bin .eql (T 21) (I 0)), o 18 (.mov (T 22))] false)
        (.cond (T 18)
         .skip
         (.seq
          (.reg [o 23 (.fieldAddr (T 1) 3), o 24 (.load none (T 23)), o 25 (.bin .lss (T 24) (I 1)), o 18 (.mov (T 25))] false)
          (.cond (T 18)
           .skip
           (.reg [o 26 (.fieldAddr (T 1) 3), o 27 (.load none (T 26)), o 28 (.bin .gtr (T 27) (I 256)), o 18 (.mov (T 28))] false)))))
       (.cond (T 18)
        (.seq
         (.reg [o 2 (.mov (I 1))] false)
         .ret)
        .skip)))))
   (.seq
    (.seq
     (.reg [o 29 (.load (some 4) (T 1)), o 30 (.fieldAddr (T 1) 0), o 31 (.load none (T 30)), o 32 (.call 150 [(T 29), (T 31), (.c (.fn 151 []))] 1), o 3 (.mov (T 32))] false)
     (.seq
      (.reg [o 33 (.mov (T 3)), o 34 (.bin .neq (T 33) (I 0))] false)
      (.cond (T 34)
       (.seq
        (.reg [o 35 (.mov (T 3)), o 2 (.mov (T 35))] false)
        .ret)
       .skip)))
    (.seq
     (.seq
      (.reg [o 36 (.load (some 4) (T 1)), o 37 (.fieldAddr (T 1) 1), o 38 (.load none (T 37)), o 39 (.call 152 [(T 36), (T 38), (.c (.fn 153 []))] 1), o 4 (.mov (T 39))] false)
      (.seq
       (.reg [o 40 (.mov (T 4)), o 41 (.bin .neq (T 40) (I 0))] false)
       (.cond (T 41)
        (.seq
         (.reg [o 42 (.mov (T 4)), o 2 (.mov (T 42))] false)
         .ret)
        .skip)))
     (.seq
      (.reg [o 43 (.load (some 4) (T 1)), o 44 (.fieldAddr (T 1) 2), o 45 (.load none (T 44)), o 46 (.call 154 [(T 43), (T 45), (.c (.fn 155 []))] 1), o 2 (.mov (T 46))] false)
      .ret))))), none⟩
def f_flow_walk : IFun := ⟨100, 8, true, [true, true], [.tmp 4, .tmp 5, .tmp 6],
 (.seq
  (.reg [o 2 (.box (some 4) (T 0) 0), o 3 (.box (some 2) (T 1) 1), o 4 (.mov (.c .nils)), o 5 (.mov (I 0)), o 6 (.mov (.c (.bool false)))] false)
  (.seq
   (.reg [o 13 (.buildSlice none [(I (-1))] 2), o 14 (.fieldAddr (T 3) 1), o 15 (.load none (T 14)), o 16 (.len (T 15)), o 17 (.bin .add (T 16) (I 1)), o 18 (.call 156 [(T 13), (T 17)] 3), o 4 (.mov (T 18))] false)
   (.seq
    (.reg [o 19 (.mov (T 4)), o 20 (.indexAddr 1 (T 19) (I 0)), u (.store none (T 20) (I 0))] false)
    (.seq
     (.seq
      (.reg [o 21 (.buildSlice none [(I 0)] 4), o 7 (.mov (T 21))] false)
      (.block 0
       (.loop
        (.seq
         (.seq
          (.reg [o 22 (.mov (T 7)), o 23 (.len (T 22)), o 24 (.bin .gtr (T 23) (I 0))] false)
          (.cond (T 24)
           .skip
           (.exit 0)))
         (.block 1
          (.seq
           (.reg [o 25 (.mov (T 7)), o 26 (.indexAddr 1 (T 25) (I 0)), o 27 (.load none (T 26)), o 8 (.mov (T 27))] false)
           (.seq
            (.reg [o 28 (.mov (T 7)), o 29 (.slice 1 (T 28) (some (I 1)) none none), o 7 (.mov (T 29))] false)
            (.seq
             (.seq
              (.reg [o 30 (.mov (T 8)), o 31 (.fieldAddr (T 3) 1), o 32 (.load none (T 31)), o 33 (.len (T 32)), o 34 (.bin .eql (T 30) (T 33))] false)
              (.cond (T 34)
               (.exit 1)
               .skip))
             (.seq
              (.reg [o 35 (.fieldAddr (T 3) 1), o 36 (.load none (T 35)), o 37 (.mov (T 8)), o 38 (.indexAddr 2 (T 36) (T 37)), o 39 (.load (some 2) (T 38)), o 9 (.box (some 2) (.c (.agg [(.int .i64 0), (.int .i64 0)])) 5), u (.store (some 2) (T 9) (T 39))] false)
              (.seq
               (.reg [⟨(some 40), .mov (T 4), none, []⟩, ⟨(some 41), .mov (T 8), none, []⟩, ⟨(some 42), .indexAddr 1 (T 40) (T 41), none, [0, 1]⟩, ⟨(some 43), .load none (T 42), none, [0, 1, 2]⟩, ⟨(some 44), .load (some 4) (T 2), none, []⟩, ⟨(some 45), .load (some 2) (T 9), none, []⟩, ⟨(some 46), .call 157 [(T 44), (T 45)] 6, none, [4, 5]⟩, ⟨(some 47), .bin .sub (T 43) (T 46), none, [0, 1, 2, 3, 4, 5, 6]⟩, ⟨(some 10), .mov (T 47), none, [0, 1, 2, 3, 4, 5, 6, 7]⟩] true)
               (.seq
                (.seq
                 (.reg [o 48 (.mov (T 10)), o 49 (.bin .lss (T 48) (I 0)), o 50 (.mov (T 49)), og (some 51) (.mov (T 10)) 50 false, og (some 52) (.fieldAddr (T 9) 0) 50 false, og (some 53) (.load none (T 52)) 50 false, og (some 54) (.call 158 [(T 53)] 6) 50 false, og (some 55) (.bin .add (T 51) (T 54)) 50 false, og (some 56) (.bin .gtr (T 55) (I 8)) 50 false, o 57 (.pick (T 50) (.c (.bool true)) (T 56))] false)
                 (.cond (T 57)
                  (.seq
                   (.reg [o 4 (.mov (.c .nils)), o 5 (.mov (I 0)), o 6 (.mov (.c (.bool false)))] false)
                   .ret)
                  .skip))
                (.seq
                 (.reg [o 58 (.mov (T 10)), o 59 (.fieldAddr (T 9) 0), o 60 (.load none (T 59)), o 61 (.call 158 [(T 60)] 6), o 62 (.bin .add (T 58) (T 61)), o 10 (.mov (T 62))] false)
                 (.seq
                  (.reg [o 63 (.mov (T 5)), o 64 (.mov (T 4)), o 65 (.mov (T 8)), o 66 (.indexAddr 1 (T 64) (T 65)), o 67 (.load none (T 66)), o 68 (.mov (T 10)), o 69 (.mm true [(T 63), (T 67), (T 68)]), o 5 (.mov (T 69))] false)
                  (.seq
                   (.reg [o 70 (.mov (T 8)), o 71 (.load (some 2) (T 9)), o 72 (.call 159 [(T 70), (T 71)] 6), o 73 (.len (T 72)), o 74 (.mov (I 0))] false)
                   (.block 2
                    (.loop
                     (.seq
                      (.reg [o 75 (.bin .lss (T 74) (T 73))] false)
                      (.seq
                       (.cond (T 75)
                        .skip
                        (.exit 2))
                       (.seq
                        (.block 3
                         (.seq
                          (.reg [o 76 (.indexAddr 1 (T 72) (T 74)), o 77 (.load none (T 76)), o 12 (.mov (T 77))] false)
                          (.seq
                           (.seq
                            (.reg [o 78 (.mov (T 4)), o 79 (.mov (T 12)), o 80 (.indexAddr 1 (T 78) (T 79)), o 81 (.load none (T 80)), o 82 (.bin .eql (T 81) (I (-1)))] false)
                            (.cond (T 82)
                             (.seq
                              (.reg [o 83 (.mov (T 4)), o 84 (.mov (T 12)), o 85 (.mov (T 10)), o 86 (.indexAddr 1 (T 83) (T 84)), u (.store none (T 86) (T 85))] false)
                              (.reg [o 87 (.mov (T 7)), o 88 (.mov (T 12)), o 89 (.buildSlice none [(T 88)] 6), o 90 (.append 1 (T 87) (T 89) 7), o 7 (.mov (T 90))] false))
                             .skip))
                           (.seq
                            (.reg [o 91 (.mov (T 4)), o 92 (.mov (T 12)), o 93 (.indexAddr 1 (T 91) (T 92)), o 94 (.load none (T 93)), o 95 (.mov (T 10)), o 96 (.bin .neq (T 94) (T 95))] false)
                            (.cond (T 96)
                             (.seq
                              (.reg [o 4 (.mov (.c .nils)), o 5 (.mov (I 0)), o 6 (.mov (.c (.bool false)))] false)
                              .ret)
                             .skip)))))
                        (.reg [o 97 (.bin .add (T 74) (I 1)), o 74 (.mov (T 97))] false))))))))))))))))))))
     (.seq
      (.reg [o 98 (.mov (T 4)), o 99 (.mov (T 5)), o 4 (.mov (T 98)), o 5 (.mov (T 99)), o 6 (.mov (.c (.bool true)))] false)
      .ret))))), none⟩
def f_mail_own : IFun := ⟨8, 2, true, [true], [.cell (some 6) 2],
 (.seq
  (.reg [o 1 (.box (some 6) (T 0) 0), o 2 (.box (some 6) (.c (.agg [(.int .i64 0), (.int .i64 0), (.int .i64 0), (.int .i64 0), (.int .i64 0), .nils])) 1)] false)
  (.seq
   (.reg [o 3 (.fieldAddr (T 1) 3), o 4 (.load (some 3) (T 3)), o 5 (.call 99 [(T 4)] 2), o 6 (.fieldAddr (T 1) 3), u (.store (some 3) (T 6) (T 5))] false)
   (.seq
    (.reg [o 7 (.load (some 6) (T 1)), u (.store (some 6) (T 2) (T 7))] false)
    .ret))), none⟩
def f_slices_Equal_int_int : IFun := ⟨26, 0, true, [true, true], [.tmp 4],
 (.seq
  (.reg [o 4 (.mov (.c (.bool false)))] false)
  (.seq
   (.seq
    (.reg [o 6 (.mov (T 0)), o 7 (.len (T 6)), o 8 (.mov (T 1)), o 9 (.len (T 8)), o 10 (.bin .neq (T 7) (T 9))] false)
    (.cond (T 10)
     (.seq
      (.reg [o 4 (.mov (.c (.bool false)))] false)
      .ret)
     .skip))
   (.seq
    (.seq
     (.reg [o 11 (.mov (T 0)), o 12 (.len (T 11)), o 13 (.mov (I 0))] false)
     (.block 0
      (.loop
       (.seq
        (.reg [o 14 (.bin .lss (T 13) (T 12))] false)
        (.seq
         (.cond (T 14)
          .skip
          (.exit 0))
         (.seq
          (.block 1
           (.seq
            (.reg [o 15 (.mov (T 13)), o 5 (.mov (T 15))] false)
            (.seq
             (.reg [⟨(some 16), .mov (T 0), none, []⟩, ⟨(some 17), .mov (T 5), none, []⟩, ⟨(some 18), .indexAddr 1 (T 16) (T 17), none, [0, 1]⟩, ⟨(some 19), .load none (T 18), none, [0, 1, 2]⟩, ⟨(some 20), .mov (T 1), none, []⟩, ⟨(some 21), .mov (T 5), none, []⟩, ⟨(some 22), .indexAddr 1 (T 20) (T 21), none, [4, 5]⟩, ⟨(some 23), .load none (T 22), none, [4, 5, 6]⟩, ⟨(some 24), .bin .neq (T 19) (T 23), none, [0, 1, 2, 3, 4, 5, 6, 7]⟩] true)
             (.cond (T 24)
              (.seq
               (.reg [o 4 (.mov (.c (.bool false)))] false)
               .ret)
              .skip))))
          (.reg [o 25 (.bin .add (T 13) (I 1)), o 13 (.mov (T 25))] false)))))))
    (.seq
     (.reg [o 4 (.mov (.c (.bool true)))] false)
     .ret)))), none⟩
def f_slices_EqualFunc_api_Message_api_Message_api_Message_api_Message : IFun := ⟨32, 4, true, [true, true, true], [.tmp 6],
 (.seq
  (.reg [o 6 (.mov (.c (.bool false)))] false)
  (.seq
   (.seq
    (.reg [o 10 (.mov (T 0)), o 11 (.len (T 10)), o 12 (.mov (T 1)), o 13 (.len (T 12)), o 14 (.bin .neq (T 11) (T 13))] false)
    (.cond (T 14)
     (.seq
      (.reg [o 6 (.mov (.c (.bool false)))] false)
      .ret)
     .skip))
   (.seq
    (.seq
     (.reg [o 15 (.mov (T 0)), o 16 (.len (T 15)), o 17 (.mov (I 0))] false)
     (.block 0
      (.loop
       (.seq
        (.reg [o 18 (.bin .lss (T 17) (T 16))] false)
        (.seq
         (.cond (T 18)
          .skip
          (.exit 0))
         (.seq
          (.block 1
           (.seq
            (.reg [o 19 (.mov (T 17)), o 20 (.indexAddr 6 (T 15) (T 17)), o 21 (.load (some 6) (T 20)), o 8 (.box (some 6) (.c (.agg [(.int .i64 0), (.int .i64 0), (.int .i64 0), (.int .i64 0), (.int .i64 0), .nils])) 0), o 7 (.mov (T 19)), u (.store (some 6) (T 8) (T 21))] false)
            (.seq
             (.reg [o 22 (.mov (T 1)), o 23 (.mov (T 7)), o 24 (.indexAddr 6 (T 22) (T 23)), o 25 (.load (some 6) (T 24)), o 9 (.box (some 6) (.c (.agg [(.int .i64 0), (.int .i64 0), (.int .i64 0), (.int .i64 0), (.int .i64 0), .nils])) 1), u (.store (some 6) (T 9) (T 25))] false)
             (.seq
              (.reg [o 26 (.mov (T 2)), o 27 (.load (some 6) (T 8)), o 28 (.load (some 6) (T 9)), o 29 (.callv (T 26) [(T 27), (T 28)] 2), o 30 (.un .not (T 29))] false)
              (.cond (T 30)
               (.seq
                (.reg [o 6 (.mov (.c (.bool false)))] false)
                .ret)
               .skip)))))
          (.reg [o 31 (.bin .add (T 17) (I 1)), o 17 (.mov (T 31))] false)))))))
    (.seq
     (.reg [o 6 (.mov (.c (.bool true)))] false)
     .ret)))), none⟩
def f_mail_Same_1 : IFun := ⟨17, 2, true, [], [.tmp 4],
 (.seq
  (.reg [o 2 (.box (some 6) (T 0) 0), o 3 (.box (some 6) (T 1) 1), o 4 (.mov (.c (.bool false)))] false)
  (.seq
   (.reg [o 5 (.fieldAddr (T 2) 0), o 6 (.load (some 3) (T 5)), o 7 (.fieldAddr (T 3) 0), o 8 (.load (some 3) (T 7)), o 9 (.eqs false [false, false, false] (T 6) (T 8)), o 10 (.mov (T 9)), og (some 11) (.fieldAddr (T 2) 3) 10 true, og (some 12) (.load (some 3) (T 11)) 10 true, og (some 13) (.fieldAddr (T 3) 3) 10 true, og (some 14) (.load (some 3) (T 13)) 10 true, og (some 15) (.call 84 [(T 12), (T 14)] 2) 10 true, o 16 (.pick (T 10) (T 15) (.c (.bool false))), o 4 (.mov (T 16))] false)
   .ret)), none⟩
def f_prog_SameNote : IFun := ⟨24, 2, true, [true, true], [.tmp 4],
 (.seq
  (.reg [o 2 (.box (some 3) (T 0) 0), o 3 (.box (some 3) (T 1) 1), o 4 (.mov (.c (.bool false)))] false)
  (.seq
   (.reg [o 5 (.fieldAddr (T 2) 0), o 6 (.load none (T 5)), o 7 (.fieldAddr (T 3) 0), o 8 (.load none (T 7)), o 9 (.bin .eql (T 6) (T 8)), o 10 (.mov (T 9)), og (some 11) (.fieldAddr (T 2) 1) 10 true, og (some 12) (.load none (T 11)) 10 true, og (some 13) (.fieldAddr (T 3) 1) 10 true, og (some 14) (.load none (T 13)) 10 true, og (some 15) (.bin .eql (T 12) (T 14)) 10 true, o 16 (.pick (T 10) (T 15) (.c (.bool false))), o 17 (.mov (T 16)), og (some 18) (.fieldAddr (T 2) 2) 17 true, og (some 19) (.load none (T 18)) 17 true, og (some 20) (.fieldAddr (T 3) 2) 17 true, og (some 21) (.load none (T 20)) 17 true, og (some 22) (.call 100 [(T 19), (T 21)] 2) 17 true, o 23 (.pick (T 17) (T 22) (.c (.bool false))), o 4 (.mov (T 23))] false)
   .ret)), none⟩
def f_mail_Sorted : IFun := ⟨27, 0, true, [true], [.tmp 2],
 (.seq
  (.reg [o 2 (.mov (.c (.bool false)))] false)
  (.seq
   (.seq
    (.reg [o 4 (.mov (T 0)), o 5 (.len (T 4)), o 6 (.mov (I 0))] false)
    (.block 0
     (.loop
      (.seq
       (.reg [o 7 (.bin .lss (T 6) (T 5))] false)
       (.seq
        (.cond (T 7)
         .skip
         (.exit 0))
        (.seq
         (.block 1
          (.seq
           (.reg [o 8 (.mov (T 6)), o 3 (.mov (T 8))] false)
           (.seq
            (.reg [⟨(some 9), .mov (T 3), none, []⟩, ⟨(some 10), .bin .gtr (T 9) (I 0), none, [0]⟩, ⟨(some 11), .mov (T 10), none, [0, 1]⟩, ⟨(some 12), .mov (T 0), (some (11, true)), [0, 1, 2]⟩, ⟨(some 13), .mov (T 3), (some (11, true)), [0, 1, 2]⟩, ⟨(some 14), .bin .sub (T 13) (I 1), (some (11, true)), [0, 1, 2, 4]⟩, ⟨(some 15), .indexAddr 6 (T 12) (T 14), (some (11, true)), [0, 1, 2, 3, 4, 5]⟩, ⟨(some 16), .fieldAddr (T 15) 0, (some (11, true)), [0, 1, 2, 3, 4, 5, 6]⟩, ⟨(some 17), .load (some 3) (T 16), (some (11, true)), [0, 1, 2, 3, 4, 5, 6, 7]⟩, ⟨(some 18), .mov (T 0), (some (11, true)), [0, 1, 2]⟩, ⟨(some 19), .mov (T 3), (some (11, true)), [0, 1, 2]⟩, ⟨(some 20), .indexAddr 6 (T 18) (T 19), (some (11, true)), [0, 1, 2, 9, 10]⟩, ⟨(some 21), .fieldAddr (T 20) 0, (some (11, true)), [0, 1, 2, 9, 10, 11]⟩, ⟨(some 22), .load (some 3) (T 21), (some (11, true)), [0, 1, 2, 9, 10, 11, 12]⟩, ⟨(some 23), .call 75 [(T 17), (T 22)] 0, (some (11, true)), [0, 1, 2, 3, 4, 5, 6, 7, 8, 9, 10, 11, 12, 13]⟩, ⟨(some 24), .un .not (T 23), (some (11, true)), [0, 1, 2, 3, 4, 5, 6, 7, 8, 9, 10, 11, 12, 13, 14]⟩, ⟨(some 25), .pick (T 11) (T 24) (.c (.bool false)), none, [0, 1, 2, 3, 4, 5, 6, 7, 8, 9, 10, 11, 12, 13, 14, 15]⟩] true)
            (.cond (T 25)
             (.seq
              (.reg [o 2 (.mov (.c (.bool false)))] false)
              .ret)
             .skip))))
         (.reg [o 26 (.bin .add (T 6) (I 1)), o 6 (.mov (T 26))] false)))))))
   (.seq
    (.reg [o 2 (.mov (.c (.bool true)))] false)
    .ret))), none⟩
def f_world_local : IFun := ⟨48, 2, true, [true, true], [.tmp 4],
 (.seq
  (.reg [o 2 (.box (some 4) (T 0) 0), o 3 (.box (some 5) (T 1) 1), o 4 (.mov (.c (.bool false)))] false)
  (.seq
   (.reg [o 5 (.fieldAddr (T 3) 0), o 6 (.load none (T 5)), o 7 (.len (T 6)), o 8 (.fieldAddr (T 2) 0), o 9 (.load none (T 8)), o 10 (.len (T 9)), o 11 (.bin .eql (T 7) (T 10)), o 12 (.mov (T 11)), og (some 13) (.fieldAddr (T 3) 2) 12 true, og (some 14) (.load none (T 13)) 12 true, og (some 15) (.bin .geq (T 14) (I 0)) 12 true, o 16 (.pick (T 12) (T 15) (.c (.bool false))), o 17 (.mov (T 16)), og (some 18) (.fieldAddr (T 3) 2) 17 true, og (some 19) (.load none (T 18)) 17 true, og (some 20) (.bin .leq (T 19) (I 4)) 17 true, o 21 (.pick (T 17) (T 20) (.c (.bool false))), o 22 (.mov (T 21)), og (some 23) (.fieldAddr (T 3) 3) 22 true, og (some 24) (.load none (T 23)) 22 true, og (some 25) (.fieldAddr (T 3) 4) 22 true, og (some 26) (.load none (T 25)) 22 true, og (some 27) (.mm false [(T 24), (T 26)]) 22 true, og (some 28) (.bin .geq (T 27) (I 0)) 22 true, o 29 (.pick (T 22) (T 28) (.c (.bool false))), o 30 (.mov (T 29)), og (some 31) (.fieldAddr (T 3) 3) 30 true, og (some 32) (.load none (T 31)) 30 true, og (some 33) (.fieldAddr (T 3) 4) 30 true, og (some 34) (.load none (T 33)) 30 true, og (some 35) (.mm true [(T 32), (T 34)]) 30 true, og (some 36) (.bin .leq (T 35) (I 2199023255551)) 30 true, o 37 (.pick (T 30) (T 36) (.c (.bool false))), o 38 (.mov (T 37)), og (some 39) (.fieldAddr (T 3) 1) 38 true, og (some 40) (.load none (T 39)) 38 true, og (some 41) (.mov (T 40)) 38 true, og (some 42) (.fieldAddr (T 2) 2) 41 true, og (some 43) (.load none (T 42)) 41 true, og (some 44) (.bin .eql (T 43) (I (-1))) 41 true, og (some 45) (.pick (T 41) (T 44) (.c (.bool false))) 38 true, og (some 46) (.un .not (T 45)) 38 true, o 47 (.pick (T 38) (T 46) (.c (.bool false))), o 4 (.mov (T 47))] false)
   .ret)), none⟩
def f_slices_ContainsFunc_api_Message_api_Message : IFun := ⟨9, 0, true, [true, true], [.tmp 4],
 (.seq
  (.reg [o 4 (.mov (.c (.bool false)))] false)
  (.seq
   (.reg [o 5 (.mov (T 0)), o 6 (.mov (T 1)), o 7 (.call 73 [(T 5), (T 6)] 0), o 8 (.bin .geq (T 7) (I 0)), o 4 (.mov (T 8))] false)
   .ret)), none⟩
def f_world_Fits_1 : IFun := ⟨10, 1, true, [], [.tmp 4],
 (.seq
  (.reg [o 3 (.box (some 6) (T 0) 0), o 4 (.mov (.c (.bool false)))] false)
  (.seq
   (.reg [o 5 (.load (some 4) (T 1)), o 6 (.load (some 6) (T 2)), o 7 (.load (some 6) (T 3)), o 8 (.call 164 [(T 5), (T 6), (T 7)] 1), o 9 (.un .not (T 8)), o 4 (.mov (T 9))] false)
   .ret)), none⟩
def f_world_message : IFun := ⟨68, 3, true, [true, true, true], [.tmp 6],
 (.seq
  (.reg [o 3 (.box (some 4) (T 0) 0), o 4 (.box (some 6) (T 1) 1), o 5 (.box (some 6) (T 2) 2), o 6 (.mov (.c (.bool false)))] false)
  (.seq
   (.seq
    (.reg [o 7 (.load (some 4) (T 3)), o 8 (.fieldAddr (T 5) 3), o 9 (.load (some 3) (T 8)), o 10 (.call 155 [(T 7), (T 9)] 3), o 11 (.bin .neq (T 10) (I 0)), o 12 (.mov (T 11)), og (some 13) (.fieldAddr (T 5) 0) 12 false, og (some 14) (.fieldAddr (T 13) 1) 12 false, og (some 15) (.load none (T 14)) 12 false, og (some 16) (.bin .lss (T 15) (I 0)) 12 false, o 17 (.pick (T 12) (.c (.bool true)) (T 16)), o 18 (.mov (T 17)), og (some 19) (.fieldAddr (T 5) 0) 18 false, og (some 20) (.fieldAddr (T 19) 2) 18 false, og (some 21) (.load none (T 20)) 18 false, og (some 22) (.bin .lss (T 21) (I 0)) 18 false, o 23 (.pick (T 18) (.c (.bool true)) (T 22)), o 24 (.mov (T 23)), og (some 25) (.fieldAddr (T 5) 0) 24 false, og (some 26) (.fieldAddr (T 25) 2) 24 false, og (some 27) (.load none (T 26)) 24 false, og (some 28) (.fieldAddr (T 4) 2) 24 false, og (some 29) (.fieldAddr (T 28) 1) 24 false, og (some 30) (.load none (T 29)) 24 false, og (some 31) (.bin .gtr (T 27) (T 30)) 24 false, o 32 (.pick (T 24) (.c (.bool true)) (T 31)), o 33 (.mov (T 32)), og (some 34) (.fieldAddr (T 5) 0) 33 false, og (some 35) (.fieldAddr (T 34) 0) 33 false, og (some 36) (.load none (T 35)) 33 false, og (some 37) (.bin .lss (T 36) (I (-1))) 33 false, o 38 (.pick (T 33) (.c (.bool true)) (T 37)), o 39 (.mov (T 38)), og (some 40) (.fieldAddr (T 5) 0) 39 false, og (some 41) (.fieldAddr (T 40) 0) 39 false, og (some 42) (.load none (T 41)) 39 false, og (some 43) (.fieldAddr (T 4) 0) 39 false, og (some 44) (.load none (T 43)) 39 false, og (some 45) (.len (T 44)) 39 false, og (some 46) (.bin .geq (T 42) (T 45)) 39 false, o 47 (.pick (T 39) (.c (.bool true)) (T 46))] false)
    (.cond (T 47)
     (.seq
      (.reg [o 6 (.mov (.c (.bool false)))] false)
      .ret)
     .skip))
   (.seq
    (.seq
     (.reg [o 48 (.fieldAddr (T 5) 0), o 49 (.fieldAddr (T 48) 0), o 50 (.load none (T 49)), o 51 (.bin .eql (T 50) (I (-1)))] false)
     (.cond (T 51)
      (.seq
       (.reg [o 52 (.fieldAddr (T 5) 0), o 53 (.fieldAddr (T 52) 1), o 54 (.load none (T 53)), o 55 (.bin .lss (T 54) (I 16)), o 6 (.mov (T 55))] false)
       .ret)
      .skip))
    (.seq
     (.reg [⟨(some 56), .fieldAddr (T 5) 0, none, []⟩, ⟨(some 57), .fieldAddr (T 56) 1, none, [0]⟩, ⟨(some 58), .load none (T 57), none, [0, 1]⟩, ⟨(some 59), .fieldAddr (T 4) 0, none, []⟩, ⟨(some 60), .load none (T 59), none, [3]⟩, ⟨(some 61), .fieldAddr (T 5) 0, none, []⟩, ⟨(some 62), .fieldAddr (T 61) 0, none, [5]⟩, ⟨(some 63), .load none (T 62), none, [5, 6]⟩, ⟨(some 64), .indexAddr 5 (T 60) (T 63), none, [3, 4, 5, 6, 7]⟩, ⟨(some 65), .fieldAddr (T 64) 3, none, [3, 4, 5, 6, 7, 8]⟩, ⟨(some 66), .load none (T 65), none, [3, 4, 5, 6, 7, 8, 9]⟩, ⟨(some 67), .bin .lss (T 58) (T 66), none, [0, 1, 2, 3, 4, 5, 6, 7, 8, 9, 10]⟩, ⟨(some 6), .mov (T 67), none, [0, 1, 2, 3, 4, 5, 6, 7, 8, 9, 10, 11]⟩] true)
     .ret)))), none⟩
def f_slices_IndexFunc_api_Message_api_Message : IFun := ⟨19, 2, true, [true, true], [.tmp 4],
 (.seq
  (.reg [o 4 (.mov (I 0))] false)
  (.seq
   (.seq
    (.reg [o 6 (.mov (T 0)), o 7 (.len (T 6)), o 8 (.mov (I 0))] false)
    (.block 0
     (.loop
      (.seq
       (.reg [o 9 (.bin .lss (T 8) (T 7))] false)
       (.seq
        (.cond (T 9)
         .skip
         (.exit 0))
        (.seq
         (.block 1
          (.seq
           (.reg [o 10 (.mov (T 8)), o 5 (.mov (T 10))] false)
           (.seq
            (.reg [o 11 (.mov (T 1)), o 12 (.mov (T 0)), o 13 (.mov (T 5)), o 14 (.indexAddr 6 (T 12) (T 13)), o 15 (.load (some 6) (T 14)), o 16 (.callv (T 11) [(T 15)] 0)] false)
            (.cond (T 16)
             (.seq
              (.reg [o 17 (.mov (T 5)), o 4 (.mov (T 17))] false)
              .ret)
             .skip))))
         (.reg [o 18 (.bin .add (T 8) (I 1)), o 8 (.mov (T 18))] false)))))))
   (.seq
    (.reg [o 4 (.mov (I (-1)))] false)
    .ret))), none⟩
def f_mail_Find_1 : IFun := ⟨8, 1, true, [], [.tmp 3],
 (.seq
  (.reg [o 2 (.box (some 6) (T 0) 0), o 3 (.mov (.c (.bool false)))] false)
  (.seq
   (.reg [o 4 (.fieldAddr (T 2) 0), o 5 (.load (some 3) (T 4)), o 6 (.load (some 3) (T 1)), o 7 (.eqs false [false, false, false] (T 5) (T 6)), o 3 (.mov (T 7))] false)
   .ret)), none⟩
def f_mail_To : IFun := ⟨22, 1, true, [true, true], [.tmp 4],
 (.seq
  (.reg [o 4 (.mov (I 0))] false)
  (.seq
   (.seq
    (.reg [o 7 (.mov (T 0)), o 8 (.len (T 7)), o 9 (.mov (I 0))] false)
    (.block 0
     (.loop
      (.seq
       (.reg [o 10 (.bin .lss (T 9) (T 8))] false)
       (.seq
        (.cond (T 10)
         .skip
         (.exit 0))
        (.seq
         (.block 1
          (.seq
           (.reg [o 11 (.indexAddr 6 (T 7) (T 9)), o 12 (.load (some 6) (T 11)), o 6 (.box (some 6) (.c (.agg [(.int .i64 0), (.int .i64 0), (.int .i64 0), (.int .i64 0), (.int .i64 0), .nils])) 0), u (.store (some 6) (T 6) (T 12))] false)
           (.seq
            (.reg [o 13 (.fieldAddr (T 6) 3), o 14 (.fieldAddr (T 13) 0), o 15 (.load none (T 14)), o 16 (.mov (T 1)), o 17 (.bin .eql (T 15) (T 16))] false)
            (.cond (T 17)
             (.reg [o 18 (.mov (T 4)), o 19 (.bin .add (T 18) (I 1)), o 4 (.mov (T 19))] false)
             .skip))))
         (.reg [o 20 (.bin .add (T 9) (I 1)), o 9 (.mov (T 20))] false)))))))
   (.seq
    (.reg [o 21 (.mov (T 4)), o 4 (.mov (T 21))] false)
    .ret))), none⟩
def f_mail_Put : IFun := ⟨26, 4, true, [true, true], [.tmp 4, .tmp 5],
 (.seq
  (.reg [o 3 (.box (some 6) (T 1) 0), o 4 (.mov (.c .nils)), o 5 (.mov (I 0))] false)
  (.seq
   (.seq
    (.reg [o 7 (.mov (T 0)), o 8 (.fieldAddr (T 3) 0), o 9 (.load (some 3) (T 8)), o 10 (.call 39 [(T 7), (T 9)] 1), o 11 (.bin .geq (T 10) (I 0))] false)
    (.cond (T 11)
     (.seq
      (.reg [o 4 (.mov (.c .nils)), o 5 (.mov (I 1))] false)
      .ret)
     .skip))
   (.seq
    (.reg [o 12 (.mov (T 0)), o 13 (.mkfn 74 [(T 3)]), o 14 (.call 73 [(T 12), (T 13)] 1), o 6 (.mov (T 14))] false)
    (.seq
     (.seq
      (.reg [o 15 (.mov (T 6)), o 16 (.bin .lss (T 15) (I 0))] false)
      (.cond (T 16)
       (.reg [o 17 (.mov (T 0)), o 18 (.len (T 17)), o 6 (.mov (T 18))] false)
       .skip))
     (.seq
      (.reg [⟨(some 19), .mov (T 0), none, []⟩, ⟨(some 20), .call 44 [(T 19)] 1, none, [0]⟩, ⟨(some 21), .mov (T 6), none, []⟩, ⟨(some 22), .load (some 6) (T 3), none, []⟩, ⟨(some 23), .call 77 [(T 22)] 2, none, [0, 1, 3]⟩, ⟨(some 24), .buildSlice (some 6) [(T 23)] 2, none, [0, 1, 3, 4]⟩, ⟨(some 25), .call 76 [(T 20), (T 21), (T 24)] 3, none, [0, 1, 2, 3, 4, 5]⟩, ⟨(some 4), .mov (T 25), none, [0, 1, 2, 3, 4, 5, 6]⟩, ⟨(some 5), .mov (I 0), none, [0, 1, 2, 3, 4, 5, 6, 7]⟩] true)
      .ret))))), none⟩
def f_vm_machine_do : IFun := ⟨147, 90, true, [true, true], [.tmp 4],
 (.seq
  (.reg [o 3 (.box (some 2) (T 1) 0), o 4 (.mov (I 0))] false)
  (.seq
   (.reg [o 7 (.mov (T 0)), o 8 (.nilchk (T 7)), o 9 (.fieldAddr (T 8) 13), o 10 (.load none (T 9)), o 11 (.bin .add (T 10) (I 1)), o 12 (.nilchk (T 7)), o 13 (.fieldAddr (T 12) 13), u (.store none (T 13) (T 11))] false)
   (.seq
    (.seq
     (.reg [o 14 (.fieldAddr (T 3) 0), o 15 (.load none (T 14))] false)
     (.block 0
      (.seq
       (.reg [o 21 (.bin .eql (T 15) (I 1)), o 20 (.mov (T 21))] false)
       (.cond (T 20)
        (.reg [o 22 (.mov (T 0)), o 23 (.fieldAddr (T 3) 1), o 24 (.load none (T 23)), o 25 (.buildSlice none [(T 24)] 1), o 26 (.callD 184 [(T 22), (T 25)] 2 6)] false)
        (.seq
         (.reg [o 28 (.bin .eql (T 15) (I 2)), o 27 (.mov (T 28))] false)
         (.cond (T 27)
          (.reg [o 29 (.mov (T 0)), o 30 (.callD 185 [(T 29)] 9 6)] false)
          (.seq
           (.reg [o 32 (.bin .eql (T 15) (I 3)), o 31 (.mov (T 32))] false)
           (.cond (T 31)
            (.reg [⟨(some 33), .mov (T 0), none, []⟩, ⟨(some 34), .mov (T 0), none, []⟩, ⟨(some 35), .nilchk (T 34), none, [1]⟩, ⟨(some 36), .fieldAddr (T 35) 11, none, [1, 2]⟩, ⟨(some 37), .load none (T 36), none, [1, 2, 3]⟩, ⟨(some 38), .mov (T 0), none, []⟩, ⟨(some 39), .nilchk (T 38), none, [5]⟩, ⟨(some 40), .fieldAddr (T 39) 11, none, [5, 6]⟩, ⟨(some 41), .load none (T 40), none, [5, 6, 7]⟩, ⟨(some 42), .len (T 41), none, [5, 6, 7, 8]⟩, ⟨(some 43), .bin .sub (T 42) (I 1), none, [5, 6, 7, 8, 9]⟩, ⟨(some 44), .indexAddr 1 (T 37) (T 43), none, [1, 2, 3, 4, 5, 6, 7, 8, 9, 10]⟩, ⟨(some 45), .load none (T 44), none, [1, 2, 3, 4, 5, 6, 7, 8, 9, 10, 11]⟩, ⟨(some 46), .buildSlice none [(T 45)] 16, none, [1, 2, 3, 4, 5, 6, 7, 8, 9, 10, 11, 12]⟩, ⟨(some 47), .callD 184 [(T 33), (T 46)] 17 6, none, [0, 1, 2, 3, 4, 5, 6, 7, 8, 9, 10, 11, 12, 13]⟩] true)
            (.seq
             (.reg [o 49 (.bin .eql (T 15) (I 4)), o 48 (.mov (T 49))] false)
             (.cond (T 48)
              (.seq
               (.reg [o 50 (.mov (T 0)), o 51 (.callD 185 [(T 50)] 24 6), o 52 (.mov (T 0)), o 53 (.callD 185 [(T 52)] 31 6), o 5 (.mov (T 51)), o 6 (.mov (T 53))] false)
               (.reg [o 54 (.mov (T 0)), o 55 (.mov (T 5)), o 56 (.mov (T 6)), o 57 (.buildSlice none [(T 55), (T 56)] 38), o 58 (.callD 184 [(T 54), (T 57)] 39 6)] false))
              (.seq
               (.seq
                (.reg [o 60 (.bin .eql (T 15) (I 5)), o 59 (.mov (T 60))] false)
                (.cond (T 59)
                 .skip
                 (.reg [o 61 (.bin .eql (T 15) (I 6)), o 59 (.mov (T 61))] false)))
               (.cond (T 59)
                (.reg [o 62 (.mov (T 0)), o 63 (.load (some 2) (T 3)), o 64 (.callD 186 [(T 62), (T 63)] 46 6)] false)
                (.seq
                 (.reg [o 66 (.bin .eql (T 15) (I 7)), o 65 (.mov (T 66))] false)
                 (.cond (T 65)
                  (.reg [⟨(some 67), .mov (T 0), none, []⟩, ⟨(some 68), .mov (T 0), none, []⟩, ⟨(some 69), .nilchk (T 68), none, [1]⟩, ⟨(some 70), .fieldAddr (T 69) 5, none, [1, 2]⟩, ⟨(some 71), .load none (T 70), none, [1, 2, 3]⟩, ⟨(some 72), .fieldAddr (T 3) 1, none, []⟩, ⟨(some 73), .load none (T 72), none, [5]⟩, ⟨(some 74), .indexAddr 1 (T 71) (T 73), none, [1, 2, 3, 4, 5, 6]⟩, ⟨(some 75), .load none (T 74), none, [1, 2, 3, 4, 5, 6, 7]⟩, ⟨(some 76), .buildSlice none [(T 75)] 53, none, [1, 2, 3, 4, 5, 6, 7, 8]⟩, ⟨(some 77), .callD 184 [(T 67), (T 76)] 54 6, none, [0, 1, 2, 3, 4, 5, 6, 7, 8, 9]⟩] true)
                  (.seq
                   (.reg [o 79 (.bin .eql (T 15) (I 8)), o 78 (.mov (T 79))] false)
                   (.cond (T 78)
                    (.reg [o 80 (.mov (T 0)), o 81 (.mov (T 0)), o 82 (.nilchk (T 81)), o 83 (.fieldAddr (T 82) 4), o 84 (.load none (T 83)), o 85 (.buildSlice none [(T 84)] 61), o 86 (.callD 184 [(T 80), (T 85)] 62 6)] false)
                    (.seq
                     (.reg [o 88 (.bin .eql (T 15) (I 20)), o 87 (.mov (T 88))] false)
                     (.cond (T 87)
                      (.reg [o 89 (.mov (T 0)), o 90 (.fieldAddr (T 3) 1), o 91 (.load none (T 90)), o 92 (.nilchk (T 89)), o 93 (.fieldAddr (T 92) 13), u (.store none (T 93) (T 91))] false)
                      (.seq
                       (.reg [o 95 (.bin .eql (T 15) (I 21)), o 94 (.mov (T 95))] false)
                       (.cond (T 94)
                        (.seq
                         (.reg [o 96 (.mov (T 0)), o 97 (.callD 185 [(T 96)] 69 6), o 98 (.bin .eql (T 97) (I 0))] false)
                         (.cond (T 98)
                          (.reg [o 99 (.mov (T 0)), o 100 (.fieldAddr (T 3) 1), o 101 (.load none (T 100)), o 102 (.nilchk (T 99)), o 103 (.fieldAddr (T 102) 13), u (.store none (T 103) (T 101))] false)
                          .skip))
                        (.seq
                         (.reg [o 105 (.bin .eql (T 15) (I 22)), o 104 (.mov (T 105))] false)
                         (.cond (T 104)
                          (.seq
                           (.reg [o 106 (.mov (T 0)), o 107 (.fieldAddr (T 3) 1), o 108 (.load none (T 107)), o 109 (.callD 187 [(T 106), (T 108)] 76 6), o 4 (.mov (T 109))] false)
                           .ret)
                          (.seq
                           (.reg [o 111 (.bin .eql (T 15) (I 23)), o 110 (.mov (T 111))] false)
                           (.cond (T 110)
                            (.reg [⟨(some 112), .mov (T 0), none, []⟩, ⟨(some 113), .mov (T 0), none, []⟩, ⟨(some 114), .nilchk (T 113), none, [1]⟩, ⟨(some 115), .fieldAddr (T 114) 6, none, [1, 2]⟩, ⟨(some 116), .fieldAddr (T 115) 1, none, [1, 2, 3]⟩, ⟨(some 117), .load none (T 116), none, [1, 2, 3, 4]⟩, ⟨(some 118), .mov (T 117), none, [1, 2, 3, 4, 5]⟩, ⟨(some 119), .mov (T 0), (some (118, false)), [1, 2, 3, 4, 5, 6]⟩, ⟨(some 120), .nilchk (T 119), (some (118, false)), [1, 2, 3, 4, 5, 6, 7]⟩, ⟨(some 121), .fieldAddr (T 120) 0, (some (118, false)), [1, 2, 3, 4, 5, 6, 7, 8]⟩, ⟨(some 122), .fieldAddr (T 121) 1, (some (118, false)), [1, 2, 3, 4, 5, 6, 7, 8, 9]⟩, ⟨(some 123), .load none (T 122), (some (118, false)), [1, 2, 3, 4, 5, 6, 7, 8, 9, 10]⟩, ⟨(some 124), .mov (T 0), (some (118, false)), [1, 2, 3, 4, 5, 6]⟩, ⟨(some 125), .nilchk (T 124), (some (118, false)), [1, 2, 3, 4, 5, 6, 12]⟩, ⟨(some 126), .fieldAddr (T 125) 4, (some (118, false)), [1, 2, 3, 4, 5, 6, 12, 13]⟩, ⟨(some 127), .load none (T 126), (some (118, false)), [1, 2, 3, 4, 5, 6, 12, 13, 14]⟩, ⟨(some 128), .indexAddr 4 (T 123) (T 127), (some (118, false)), [1, 2, 3, 4, 5, 6, 7, 8, 9, 10, 11, 12, 13, 14, 15]⟩, ⟨(some 129), .fieldAddr (T 128) 2, (some (118, false)), [1, 2, 3, 4, 5, 6, 7, 8, 9, 10, 11, 12, 13, 14, 15, 16]⟩, ⟨(some 130), .load none (T 129), (some (118, false)), [1, 2, 3, 4, 5, 6, 7, 8, 9, 10, 11, 12, 13, 14, 15, 16, 17]⟩, ⟨(some 131), .bin .neq (T 130) (I (-1)), (some (118, false)), [1, 2, 3, 4, 5, 6, 7, 8, 9, 10, 11, 12, 13, 14, 15, 16, 17, 18]⟩, ⟨(some 132), .pick (T 118) (.c (.bool true)) (T 131), none, [1, 2, 3, 4, 5, 6, 7, 8, 9, 10, 11, 12, 13, 14, 15, 16, 17, 18, 19]⟩, ⟨(some 133), .nilchk (T 112), none, [0, 1, 2, 3, 4, 5, 6, 7, 8, 9, 10, 11, 12, 13, 14, 15, 16, 17, 18, 19, 20]⟩, ⟨(some 134), .fieldAddr (T 133) 6, none, [0, 1, 2, 3, 4, 5, 6, 7, 8, 9, 10, 11, 12, 13, 14, 15, 16, 17, 18, 19, 20, 21]⟩, ⟨(some 135), .fieldAddr (T 134) 1, none, [0, 1, 2, 3, 4, 5, 6, 7, 8, 9, 10, 11, 12, 13, 14, 15, 16, 17, 18, 19, 20, 21, 22]⟩, ⟨none, .store none (T 135) (T 132), none, [0, 1, 2, 3, 4, 5, 6, 7, 8, 9, 10, 11, 12, 13, 14, 15, 16, 17, 18, 19, 20, 21, 22, 23]⟩] true)
                            (.seq
                             (.reg [o 137 (.bin .eql (T 15) (I 24)), o 136 (.mov (T 137))] false)
                             (.cond (T 136)
                              (.reg [o 138 (.mov (T 0)), o 139 (.nilchk (T 138)), o 140 (.fieldAddr (T 139) 6), o 141 (.fieldAddr (T 140) 1), u (.store none (T 141) (.c (.bool false)))] false)
                              (.seq
                               (.reg [o 143 (.bin .eql (T 15) (I 25)), o 142 (.mov (T 143))] false)
                               (.cond (T 142)
                                (.reg [o 144 (.mov (T 0)), o 145 (.nilchk (T 144)), o 146 (.fieldAddr (T 145) 13), u (.store none (T 146) (I (-1)))] false)
                                (.seq
                                 (.reg [o 16 (.mov (T 0)), o 17 (.fieldAddr (T 3) 0), o 18 (.load none (T 17)), o 19 (.callD 188 [(T 16), (T 18)] 83 6), o 4 (.mov (T 19))] false)
                                 .ret)))))))))))))))))))))))))))))
    (.seq
     (.reg [o 4 (.mov (I 0))] false)
     .ret)))), none⟩
def f_slices_insertionSortCmpFunc_api_Event : IFun := ⟨53, 2, true, [], [],
 (.seq
  (.reg [o 10 (.mov (T 1)), o 11 (.bin .add (T 10) (I 1)), o 8 (.mov (T 11))] false)
  (.block 0
   (.loop
    (.seq
     (.seq
      (.reg [o 12 (.mov (T 8)), o 13 (.mov (T 2)), o 14 (.bin .lss (T 12) (T 13))] false)
      (.cond (T 14)
       .skip
       (.exit 0)))
     (.seq
      (.block 1
       (.seq
        (.reg [o 17 (.mov (T 8)), o 9 (.mov (T 17))] false)
        (.block 2
         (.loop
          (.seq
           (.seq
            (.reg [⟨(some 18), .mov (T 9), none, []⟩, ⟨(some 19), .mov (T 1), none, []⟩, ⟨(some 20), .bin .gtr (T 18) (T 19), none, [0, 1]⟩, ⟨(some 21), .mov (T 20), none, [0, 1, 2]⟩, ⟨(some 22), .mov (T 3), (some (21, true)), [0, 1, 2, 3]⟩, ⟨(some 23), .mov (T 0), (some (21, true)), [0, 1, 2, 3]⟩, ⟨(some 24), .mov (T 9), (some (21, true)), [0, 1, 2, 3]⟩, ⟨(some 25), .indexAddr 5 (T 23) (T 24), (some (21, true)), [0, 1, 2, 3, 5, 6]⟩, ⟨(some 26), .load (some 5) (T 25), (some (21, true)), [0, 1, 2, 3, 5, 6, 7]⟩, ⟨(some 27), .mov (T 0), (some (21, true)), [0, 1, 2, 3]⟩, ⟨(some 28), .mov (T 9), (some (21, true)), [0, 1, 2, 3]⟩, ⟨(some 29), .bin .sub (T 28) (I 1), (some (21, true)), [0, 1, 2, 3, 10]⟩, ⟨(some 30), .indexAddr 5 (T 27) (T 29), (some (21, true)), [0, 1, 2, 3, 9, 10, 11]⟩, ⟨(some 31), .load (some 5) (T 30), (some (21, true)), [0, 1, 2, 3, 9, 10, 11, 12]⟩, ⟨(some 32), .callv (T 22) [(T 26), (T 31)] 0, (some (21, true)), [0, 1, 2, 3, 4, 5, 6, 7, 8, 9, 10, 11, 12, 13]⟩, ⟨(some 33), .bin .lss (T 32) (I 0), (some (21, true)), [0, 1, 2, 3, 4, 5, 6, 7, 8, 9, 10, 11, 12, 13, 14]⟩, ⟨(some 34), .pick (T 21) (T 33) (.c (.bool false)), none, [0, 1, 2, 3, 4, 5, 6, 7, 8, 9, 10, 11, 12, 13, 14, 15]⟩] true)
            (.cond (T 34)
             .skip
             (.exit 2)))
           (.seq
            (.block 3
             (.reg [⟨(some 37), .mov (T 0), none, []⟩, ⟨(some 38), .mov (T 9), none, []⟩, ⟨(some 39), .mov (T 0), none, []⟩, ⟨(some 40), .mov (T 9), none, []⟩, ⟨(some 41), .bin .sub (T 40) (I 1), none, [3]⟩, ⟨(some 42), .mov (T 0), none, []⟩, ⟨(some 43), .mov (T 9), none, []⟩, ⟨(some 44), .bin .sub (T 43) (I 1), none, [6]⟩, ⟨(some 45), .indexAddr 5 (T 42) (T 44), none, [5, 6, 7]⟩, ⟨(some 46), .load (some 5) (T 45), none, [5, 6, 7, 8]⟩, ⟨(some 47), .mov (T 0), none, []⟩, ⟨(some 48), .mov (T 9), none, []⟩, ⟨(some 49), .indexAddr 5 (T 47) (T 48), none, [10, 11]⟩, ⟨(some 50), .load (some 5) (T 49), none, [10, 11, 12]⟩, ⟨(some 51), .indexAddr 5 (T 37) (T 38), none, [0, 1, 5, 6, 7, 8, 9, 10, 11, 12, 13]⟩, ⟨none, .store (some 5) (T 51) (T 46), none, [0, 1, 5, 6, 7, 8, 9, 10, 11, 12, 13, 14]⟩, ⟨(some 52), .indexAddr 5 (T 39) (T 41), none, [0, 1, 2, 3, 4, 5, 6, 7, 8, 9, 10, 11, 12, 13, 14, 15]⟩, ⟨none, .store (some 5) (T 52) (T 50), none, [0, 1, 2, 3, 4, 5, 6, 7, 8, 9, 10, 11, 12, 13, 14, 15, 16]⟩] true))
            (.reg [o 35 (.mov (T 9)), o 36 (.bin .sub (T 35) (I 1)), o 9 (.mov (T 36))] false)))))))
      (.reg [o 15 (.mov (T 8)), o 16 (.bin .add (T 15) (I 1)), o 8 (.mov (T 16))] false)))))), none⟩
def f_slices_heapSortCmpFunc_api_Event : IFun := ⟨60, 0, true, [], [],
 (.seq
  (.reg [o 13 (.mov (T 1)), o 8 (.mov (T 13))] false)
  (.seq
   (.reg [o 9 (.mov (I 0))] false)
   (.seq
    (.reg [o 14 (.mov (T 2)), o 15 (.mov (T 1)), o 16 (.bin .sub (T 14) (T 15)), o 10 (.mov (T 16))] false)
    (.seq
     (.seq
      (.reg [o 17 (.mov (T 10)), o 18 (.bin .sub (T 17) (I 1)), o 19 (.bin .quo (T 18) (I 2)), o 11 (.mov (T 19))] false)
      (.block 0
       (.loop
        (.seq
         (.seq
          (.reg [o 20 (.mov (T 11)), o 21 (.bin .geq (T 20) (I 0))] false)
          (.cond (T 21)
           .skip
           (.exit 0)))
         (.seq
          (.block 1
           (.reg [o 24 (.mov (T 0)), o 25 (.mov (T 11)), o 26 (.mov (T 10)), o 27 (.mov (T 8)), o 28 (.mov (T 3)), o 29 (.call 179 [(T 24), (T 25), (T 26), (T 27), (T 28)] 0)] false))
          (.reg [o 22 (.mov (T 11)), o 23 (.bin .sub (T 22) (I 1)), o 11 (.mov (T 23))] false))))))
     (.seq
      (.reg [o 30 (.mov (T 10)), o 31 (.bin .sub (T 30) (I 1)), o 12 (.mov (T 31))] false)
      (.block 2
       (.loop
        (.seq
         (.seq
          (.reg [o 32 (.mov (T 12)), o 33 (.bin .geq (T 32) (I 0))] false)
          (.cond (T 33)
           .skip
           (.exit 2)))
         (.seq
          (.block 3
           (.seq
            (.reg [⟨(some 36), .mov (T 0), none, []⟩, ⟨(some 37), .mov (T 8), none, []⟩, ⟨(some 38), .mov (T 0), none, []⟩, ⟨(some 39), .mov (T 8), none, []⟩, ⟨(some 40), .mov (T 12), none, []⟩, ⟨(some 41), .bin .add (T 39) (T 40), none, [3, 4]⟩, ⟨(some 42), .mov (T 0), none, []⟩, ⟨(some 43), .mov (T 8), none, []⟩, ⟨(some 44), .mov (T 12), none, []⟩, ⟨(some 45), .bin .add (T 43) (T 44), none, [7, 8]⟩, ⟨(some 46), .indexAddr 5 (T 42) (T 45), none, [6, 7, 8, 9]⟩, ⟨(some 47), .load (some 5) (T 46), none, [6, 7, 8, 9, 10]⟩, ⟨(some 48), .mov (T 0), none, []⟩, ⟨(some 49), .mov (T 8), none, []⟩, ⟨(some 50), .indexAddr 5 (T 48) (T 49), none, [12, 13]⟩, ⟨(some 51), .load (some 5) (T 50), none, [12, 13, 14]⟩, ⟨(some 52), .indexAddr 5 (T 36) (T 37), none, [0, 1, 6, 7, 8, 9, 10, 11, 12, 13, 14, 15]⟩, ⟨none, .store (some 5) (T 52) (T 47), none, [0, 1, 6, 7, 8, 9, 10, 11, 12, 13, 14, 15, 16]⟩, ⟨(some 53), .indexAddr 5 (T 38) (T 41), none, [0, 1, 2, 3, 4, 5, 6, 7, 8, 9, 10, 11, 12, 13, 14, 15, 16, 17]⟩, ⟨none, .store (some 5) (T 53) (T 51), none, [0, 1, 2, 3, 4, 5, 6, 7, 8, 9, 10, 11, 12, 13, 14, 15, 16, 17, 18]⟩] true)
            (.reg [o 54 (.mov (T 0)), o 55 (.mov (T 9)), o 56 (.mov (T 12)), o 57 (.mov (T 8)), o 58 (.mov (T 3)), o 59 (.call 179 [(T 54), (T 55), (T 56), (T 57), (T 58)] 0)] false)))
          (.reg [o 34 (.mov (T 12)), o 35 (.bin .sub (T 34) (I 1)), o 12 (.mov (T 35))] false)))))))))), none⟩
def f_slices_breakPatternsCmpFunc_api_Event : IFun := ⟨67, 2, true, [], [],
 (.seq
  (.reg [o 13 (.mov (T 2)), o 14 (.mov (T 1)), o 15 (.bin .sub (T 13) (T 14)), o 8 (.mov (T 15))] false)
  (.seq
   (.reg [o 16 (.mov (T 8)), o 17 (.bin .geq (T 16) (I 8))] false)
   (.cond (T 17)
    (.seq
     (.reg [o 18 (.mov (T 8)), o 19 (.toInt .u64 (T 18)), o 9 (.box none (.c (.int .u64 0)) 0), u (.store none (T 9) (T 19))] false)
     (.seq
      (.reg [o 20 (.mov (T 8)), o 21 (.call 180 [(T 20)] 1), o 10 (.mov (T 21))] false)
      (.seq
       (.reg [o 22 (.mov (T 1)), o 23 (.mov (T 8)), o 24 (.bin .quo (T 23) (I 4)), o 25 (.bin .mul (T 24) (I 2)), o 26 (.bin .add (T 22) (T 25)), o 27 (.bin .sub (T 26) (I 1)), o 11 (.mov (T 27))] false)
       (.block 0
        (.loop
         (.seq
          (.seq
           (.reg [o 28 (.mov (T 11)), o 29 (.mov (T 1)), o 30 (.mov (T 8)), o 31 (.bin .quo (T 30) (I 4)), o 32 (.bin .mul (T 31) (I 2)), o 33 (.bin .add (T 29) (T 32)), o 34 (.bin .add (T 33) (I 1)), o 35 (.bin .leq (T 28) (T 34))] false)
           (.cond (T 35)
            .skip
            (.exit 0)))
          (.seq
           (.block 1
            (.seq
             (.reg [o 38 (.call 181 [(T 9)] 1), o 39 (.mov (T 10)), o 40 (.bin .sub (T 39) (.c (.int .u64 1))), o 41 (.bin .and (T 38) (T 40)), o 42 (.toInt .i64 (T 41)), o 12 (.mov (T 42))] false)
             (.seq
              (.seq
               (.reg [o 43 (.mov (T 12)), o 44 (.mov (T 8)), o 45 (.bin .geq (T 43) (T 44))] false)
               (.cond (T 45)
                (.reg [o 46 (.mov (T 12)), o 47 (.mov (T 8)), o 48 (.bin .sub (T 46) (T 47)), o 12 (.mov (T 48))] false)
                .skip))
              (.reg [⟨(some 49), .mov (T 0), none, []⟩, ⟨(some 50), .mov (T 11), none, []⟩, ⟨(some 51), .mov (T 0), none, []⟩, ⟨(some 52), .mov (T 1), none, []⟩, ⟨(some 53), .mov (T 12), none, []⟩, ⟨(some 54), .bin .add (T 52) (T 53), none, [3, 4]⟩, ⟨(some 55), .mov (T 0), none, []⟩, ⟨(some 56), .mov (T 1), none, []⟩, ⟨(some 57), .mov (T 12), none, []⟩, ⟨(some 58), .bin .add (T 56) (T 57), none, [7, 8]⟩, ⟨(some 59), .indexAddr 5 (T 55) (T 58), none, [6, 7, 8, 9]⟩, ⟨(some 60), .load (some 5) (T 59), none, [6, 7, 8, 9, 10]⟩, ⟨(some 61), .mov (T 0), none, []⟩, ⟨(some 62), .mov (T 11), none, []⟩, ⟨(some 63), .indexAddr 5 (T 61) (T 62), none, [12, 13]⟩, ⟨(some 64), .load (some 5) (T 63), none, [12, 13, 14]⟩, ⟨(some 65), .indexAddr 5 (T 49) (T 50), none, [0, 1, 6, 7, 8, 9, 10, 11, 12, 13, 14, 15]⟩, ⟨none, .store (some 5) (T 65) (T 60), none, [0, 1, 6, 7, 8, 9, 10, 11, 12, 13, 14, 15, 16]⟩, ⟨(some 66), .indexAddr 5 (T 51) (T 54), none, [0, 1, 2, 3, 4, 5, 6, 7, 8, 9, 10, 11, 12, 13, 14, 15, 16, 17]⟩, ⟨none, .store (some 5) (T 66) (T 64), none, [0, 1, 2, 3, 4, 5, 6, 7, 8, 9, 10, 11, 12, 13, 14, 15, 16, 17, 18]⟩] true))))
           (.reg [o 36 (.mov (T 11)), o 37 (.bin .add (T 36) (I 1)), o 11 (.mov (T 37))] false))))))))
    .skip))), none⟩
def f_slices_choosePivotCmpFunc_api_Event : IFun := ⟨63, 1, true, [], [.tmp 8, .tmp 9],
 (.seq
  (.reg [o 8 (.mov (I 0)), o 9 (.mov (I 0))] false)
  (.seq
   (.reg [o 15 (.mov (T 2)), o 16 (.mov (T 1)), o 17 (.bin .sub (T 15) (T 16)), o 10 (.mov (T 17))] false)
   (.seq
    (.reg [o 11 (.box none (.c (.int .i64 0)) 0)] false)
    (.seq
     (.reg [o 18 (.mov (T 1)), o 19 (.mov (T 10)), o 20 (.bin .quo (T 19) (I 4)), o 21 (.bin .mul (T 20) (I 1)), o 22 (.bin .add (T 18) (T 21)), o 12 (.mov (T 22))] false)
     (.seq
      (.reg [o 23 (.mov (T 1)), o 24 (.mov (T 10)), o 25 (.bin .quo (T 24) (I 4)), o 26 (.bin .mul (T 25) (I 2)), o 27 (.bin .add (T 23) (T 26)), o 13 (.mov (T 27))] false)
      (.seq
       (.reg [o 28 (.mov (T 1)), o 29 (.mov (T 10)), o 30 (.bin .quo (T 29) (I 4)), o 31 (.bin .mul (T 30) (I 3)), o 32 (.bin .add (T 28) (T 31)), o 14 (.mov (T 32))] false)
       (.seq
        (.seq
         (.reg [o 33 (.mov (T 10)), o 34 (.bin .geq (T 33) (I 8))] false)
         (.cond (T 34)
          (.seq
           (.seq
            (.reg [o 35 (.mov (T 10)), o 36 (.bin .geq (T 35) (I 50))] false)
            (.cond (T 36)
             (.seq
              (.reg [o 37 (.mov (T 0)), o 38 (.mov (T 12)), o 39 (.mov (T 3)), o 40 (.call 182 [(T 37), (T 38), (T 11), (T 39)] 1), o 12 (.mov (T 40))] false)
              (.seq
               (.reg [o 41 (.mov (T 0)), o 42 (.mov (T 13)), o 43 (.mov (T 3)), o 44 (.call 182 [(T 41), (T 42), (T 11), (T 43)] 1), o 13 (.mov (T 44))] false)
               (.reg [o 45 (.mov (T 0)), o 46 (.mov (T 14)), o 47 (.mov (T 3)), o 48 (.call 182 [(T 45), (T 46), (T 11), (T 47)] 1), o 14 (.mov (T 48))] false)))
             .skip))
           (.reg [o 49 (.mov (T 0)), o 50 (.mov (T 12)), o 51 (.mov (T 13)), o 52 (.mov (T 14)), o 53 (.mov (T 3)), o 54 (.call 183 [(T 49), (T 50), (T 51), (T 52), (T 11), (T 53)] 1), o 13 (.mov (T 54))] false))
          .skip))
        (.seq
         (.reg [o 55 (.load none (T 11))] false)
         (.block 0
          (.seq
           (.reg [o 58 (.bin .eql (T 55) (I 0)), o 57 (.mov (T 58))] false)
           (.cond (T 57)
            (.seq
             (.reg [o 59 (.mov (T 13)), o 8 (.mov (T 59)), o 9 (.mov (I 1))] false)
             .ret)
            (.seq
             (.reg [o 61 (.bin .eql (T 55) (I 12)), o 60 (.mov (T 61))] false)
             (.cond (T 60)
              (.seq
               (.reg [o 62 (.mov (T 13)), o 8 (.mov (T 62)), o 9 (.mov (I 2))] false)
               .ret)
              (.seq
               (.reg [o 56 (.mov (T 13)), o 8 (.mov (T 56)), o 9 (.mov (I 0))] false)
               .ret)))))))))))))), none⟩
def f_slices_reverseRangeCmpFunc_api_Event : IFun := ⟨34, 0, true, [], [],
 (.seq
  (.reg [o 10 (.mov (T 1)), o 8 (.mov (T 10))] false)
  (.seq
   (.reg [o 11 (.mov (T 2)), o 12 (.bin .sub (T 11) (I 1)), o 9 (.mov (T 12))] false)
   (.block 0
    (.loop
     (.seq
      (.seq
       (.reg [o 13 (.mov (T 8)), o 14 (.mov (T 9)), o 15 (.bin .lss (T 13) (T 14))] false)
       (.cond (T 15)
        .skip
        (.exit 0)))
      (.block 1
       (.seq
        (.reg [⟨(some 16), .mov (T 0), none, []⟩, ⟨(some 17), .mov (T 8), none, []⟩, ⟨(some 18), .mov (T 0), none, []⟩, ⟨(some 19), .mov (T 9), none, []⟩, ⟨(some 20), .mov (T 0), none, []⟩, ⟨(some 21), .mov (T 9), none, []⟩, ⟨(some 22), .indexAddr 5 (T 20) (T 21), none, [4, 5]⟩, ⟨(some 23), .load (some 5) (T 22), none, [4, 5, 6]⟩, ⟨(some 24), .mov (T 0), none, []⟩, ⟨(some 25), .mov (T 8), none, []⟩, ⟨(some 26), .indexAddr 5 (T 24) (T 25), none, [8, 9]⟩, ⟨(some 27), .load (some 5) (T 26), none, [8, 9, 10]⟩, ⟨(some 28), .indexAddr 5 (T 16) (T 17), none, [0, 1, 4, 5, 6, 7, 8, 9, 10, 11]⟩, ⟨none, .store (some 5) (T 28) (T 23), none, [0, 1, 4, 5, 6, 7, 8, 9, 10, 11, 12]⟩, ⟨(some 29), .indexAddr 5 (T 18) (T 19), none, [0, 1, 2, 3, 4, 5, 6, 7, 8, 9, 10, 11, 12, 13]⟩, ⟨none, .store (some 5) (T 29) (T 27), none, [0, 1, 2, 3, 4, 5, 6, 7, 8, 9, 10, 11, 12, 13, 14]⟩] true)
        (.seq
         (.reg [o 30 (.mov (T 8)), o 31 (.bin .add (T 30) (I 1)), o 8 (.mov (T 31))] false)
         (.reg [o 32 (.mov (T 9)), o 33 (.bin .sub (T 32) (I 1)), o 9 (.mov (T 33))] false))))))))), none⟩
def f_slices_partialInsertionSortCmpFunc_api_Event : IFun := ⟨141, 6, true, [], [.tmp 8],
 (.seq
  (.reg [o 8 (.mov (.c (.bool false)))] false)
  (.seq
   (.reg [o 13 (.mov (T 1)), o 14 (.bin .add (T 13) (I 1)), o 9 (.mov (T 14))] false)
   (.seq
    (.seq
     (.reg [o 10 (.mov (I 0))] false)
     (.block 0
      (.loop
       (.seq
        (.seq
         (.reg [o 15 (.mov (T 10)), o 16 (.bin .lss (T 15) (I 5))] false)
         (.cond (T 16)
          .skip
          (.exit 0)))
        (.seq
         (.block 1
          (.seq
           (.block 2
            (.loop
             (.seq
              (.seq
               (.reg [⟨(some 19), .mov (T 9), none, []⟩, ⟨(some 20), .mov (T 2), none, []⟩, ⟨(some 21), .bin .lss (T 19) (T 20), none, [0, 1]⟩, ⟨(some 22), .mov (T 21), none, [0, 1, 2]⟩, ⟨(some 23), .mov (T 3), (some (22, true)), [0, 1, 2, 3]⟩, ⟨(some 24), .mov (T 0), (some (22, true)), [0, 1, 2, 3]⟩, ⟨(some 25), .mov (T 9), (some (22, true)), [0, 1, 2, 3]⟩, ⟨(some 26), .indexAddr 5 (T 24) (T 25), (some (22, true)), [0, 1, 2, 3, 5, 6]⟩, ⟨(some 27), .load (some 5) (T 26), (some (22, true)), [0, 1, 2, 3, 5, 6, 7]⟩, ⟨(some 28), .mov (T 0), (some (22, true)), [0, 1, 2, 3]⟩, ⟨(some 29), .mov (T 9), (some (22, true)), [0, 1, 2, 3]⟩, ⟨(some 30), .bin .sub (T 29) (I 1), (some (22, true)), [0, 1, 2, 3, 10]⟩, ⟨(some 31), .indexAddr 5 (T 28) (T 30), (some (22, true)), [0, 1, 2, 3, 9, 10, 11]⟩, ⟨(some 32), .load (some 5) (T 31), (some (22, true)), [0, 1, 2, 3, 9, 10, 11, 12]⟩, ⟨(some 33), .callv (T 23) [(T 27), (T 32)] 0, (some (22, true)), [0, 1, 2, 3, 4, 5, 6, 7, 8, 9, 10, 11, 12, 13]⟩, ⟨(some 34), .bin .lss (T 33) (I 0), (some (22, true)), [0, 1, 2, 3, 4, 5, 6, 7, 8, 9, 10, 11, 12, 13, 14]⟩, ⟨(some 35), .un .not (T 34), (some (22, true)), [0, 1, 2, 3, 4, 5, 6, 7, 8, 9, 10, 11, 12, 13, 14, 15]⟩, ⟨(some 36), .pick (T 22) (T 35) (.c (.bool false)), none, [0, 1, 2, 3, 4, 5, 6, 7, 8, 9, 10, 11, 12, 13, 14, 15, 16]⟩] true)
               (.cond (T 36)
                .skip
                (.exit 2)))
              (.block 3
               (.reg [o 37 (.mov (T 9)), o 38 (.bin .add (T 37) (I 1)), o 9 (.mov (T 38))] false)))))
           (.seq
            (.seq
             (.reg [o 39 (.mov (T 9)), o 40 (.mov (T 2)), o 41 (.bin .eql (T 39) (T 40))] false)
             (.cond (T 41)
              (.seq
               (.reg [o 8 (.mov (.c (.bool true)))] false)
               .ret)
              .skip))
            (.seq
             (.seq
              (.reg [o 42 (.mov (T 2)), o 43 (.mov (T 1)), o 44 (.bin .sub (T 42) (T 43)), o 45 (.bin .lss (T 44) (I 50))] false)
              (.cond (T 45)
               (.seq
                (.reg [o 8 (.mov (.c (.bool false)))] false)
                .ret)
               .skip))
             (.seq
              (.reg [⟨(some 46), .mov (T 0), none, []⟩, ⟨(some 47), .mov (T 9), none, []⟩, ⟨(some 48), .mov (T 0), none, []⟩, ⟨(some 49), .mov (T 9), none, []⟩, ⟨(some 50), .bin .sub (T 49) (I 1), none, [3]⟩, ⟨(some 51), .mov (T 0), none, []⟩, ⟨(some 52), .mov (T 9), none, []⟩, ⟨(some 53), .bin .sub (T 52) (I 1), none, [6]⟩, ⟨(some 54), .indexAddr 5 (T 51) (T 53), none, [5, 6, 7]⟩, ⟨(some 55), .load (some 5) (T 54), none, [5, 6, 7, 8]⟩, ⟨(some 56), .mov (T 0), none, []⟩, ⟨(some 57), .mov (T 9), none, []⟩, ⟨(some 58), .indexAddr 5 (T 56) (T 57), none, [10, 11]⟩, ⟨(some 59), .load (some 5) (T 58), none, [10, 11, 12]⟩, ⟨(some 60), .indexAddr 5 (T 46) (T 47), none, [0, 1, 5, 6, 7, 8, 9, 10, 11, 12, 13]⟩, ⟨none, .store (some 5) (T 60) (T 55), none, [0, 1, 5, 6, 7, 8, 9, 10, 11, 12, 13, 14]⟩, ⟨(some 61), .indexAddr 5 (T 48) (T 50), none, [0, 1, 2, 3, 4, 5, 6, 7, 8, 9, 10, 11, 12, 13, 14, 15]⟩, ⟨none, .store (some 5) (T 61) (T 59), none, [0, 1, 2, 3, 4, 5, 6, 7, 8, 9, 10, 11, 12, 13, 14, 15, 16]⟩] true)
              (.seq
               (.seq
                (.reg [o 62 (.mov (T 9)), o 63 (.mov (T 1)), o 64 (.bin .sub (T 62) (T 63)), o 65 (.bin .geq (T 64) (I 2))] false)
                (.cond (T 65)
                 (.seq
                  (.reg [o 66 (.mov (T 9)), o 67 (.bin .sub (T 66) (I 1)), o 11 (.mov (T 67))] false)
                  (.block 4
                   (.loop
                    (.seq
                     (.seq
                      (.reg [o 68 (.mov (T 11)), o 69 (.bin .geq (T 68) (I 1))] false)
                      (.cond (T 69)
                       .skip
                       (.exit 4)))
                     (.seq
                      (.block 5
                       (.seq
                        (.seq
                         (.reg [⟨(some 72), .mov (T 3), none, []⟩, ⟨(some 73), .mov (T 0), none, []⟩, ⟨(some 74), .mov (T 11), none, []⟩, ⟨(some 75), .indexAddr 5 (T 73) (T 74), none, [1, 2]⟩, ⟨(some 76), .load (some 5) (T 75), none, [1, 2, 3]⟩, ⟨(some 77), .mov (T 0), none, []⟩, ⟨(some 78), .mov (T 11), none, []⟩, ⟨(some 79), .bin .sub (T 78) (I 1), none, [6]⟩, ⟨(some 80), .indexAddr 5 (T 77) (T 79), none, [5, 6, 7]⟩, ⟨(some 81), .load (some 5) (T 80), none, [5, 6, 7, 8]⟩, ⟨(some 82), .callv (T 72) [(T 76), (T 81)] 2, none, [0, 1, 2, 3, 4, 5, 6, 7, 8, 9]⟩, ⟨(some 83), .bin .lss (T 82) (I 0), none, [0, 1, 2, 3, 4, 5, 6, 7, 8, 9, 10]⟩, ⟨(some 84), .un .not (T 83), none, [0, 1, 2, 3, 4, 5, 6, 7, 8, 9, 10, 11]⟩] true)
                         (.cond (T 84)
                          (.exit 4)
                          .skip))
                        (.reg [⟨(some 85), .mov (T 0), none, []⟩, ⟨(some 86), .mov (T 11), none, []⟩, ⟨(some 87), .mov (T 0), none, []⟩, ⟨(some 88), .mov (T 11), none, []⟩, ⟨(some 89), .bin .sub (T 88) (I 1), none, [3]⟩, ⟨(some 90), .mov (T 0), none, []⟩, ⟨(some 91), .mov (T 11), none, []⟩, ⟨(some 92), .bin .sub (T 91) (I 1), none, [6]⟩, ⟨(some 93), .indexAddr 5 (T 90) (T 92), none, [5, 6, 7]⟩, ⟨(some 94), .load (some 5) (T 93), none, [5, 6, 7, 8]⟩, ⟨(some 95), .mov (T 0), none, []⟩, ⟨(some 96), .mov (T 11), none, []⟩, ⟨(some 97), .indexAddr 5 (T 95) (T 96), none, [10, 11]⟩, ⟨(some 98), .load (some 5) (T 97), none, [10, 11, 12]⟩, ⟨(some 99), .indexAddr 5 (T 85) (T 86), none, [0, 1, 5, 6, 7, 8, 9, 10, 11, 12, 13]⟩, ⟨none, .store (some 5) (T 99) (T 94), none, [0, 1, 5, 6, 7, 8, 9, 10, 11, 12, 13, 14]⟩, ⟨(some 100), .indexAddr 5 (T 87) (T 89), none, [0, 1, 2, 3, 4, 5, 6, 7, 8, 9, 10, 11, 12, 13, 14, 15]⟩, ⟨none, .store (some 5) (T 100) (T 98), none, [0, 1, 2, 3, 4, 5, 6, 7, 8, 9, 10, 11, 12, 13, 14, 15, 16]⟩] true)))
                      (.reg [o 70 (.mov (T 11)), o 71 (.bin .sub (T 70) (I 1)), o 11 (.mov (T 71))] false))))))
                 .skip))
               (.seq
                (.reg [o 101 (.mov (T 2)), o 102 (.mov (T 9)), o 103 (.bin .sub (T 101) (T 102)), o 104 (.bin .geq (T 103) (I 2))] false)
                (.cond (T 104)
                 (.seq
                  (.reg [o 105 (.mov (T 9)), o 106 (.bin .add (T 105) (I 1)), o 12 (.mov (T 106))] false)
                  (.block 6
                   (.loop
                    (.seq
                     (.seq
                      (.reg [o 107 (.mov (T 12)), o 108 (.mov (T 2)), o 109 (.bin .lss (T 107) (T 108))] false)
                      (.cond (T 109)
                       .skip
                       (.exit 6)))
                     (.seq
                      (.block 7
                       (.seq
                        (.seq
                         (.reg [⟨(some 112), .mov (T 3), none, []⟩, ⟨(some 113), .mov (T 0), none, []⟩, ⟨(some 114), .mov (T 12), none, []⟩, ⟨(some 115), .indexAddr 5 (T 113) (T 114), none, [1, 2]⟩, ⟨(some 116), .load (some 5) (T 115), none, [1, 2, 3]⟩, ⟨(some 117), .mov (T 0), none, []⟩, ⟨(some 118), .mov (T 12), none, []⟩, ⟨(some 119), .bin .sub (T 118) (I 1), none, [6]⟩, ⟨(some 120), .indexAddr 5 (T 117) (T 119), none, [5, 6, 7]⟩, ⟨(some 121), .load (some 5) (T 120), none, [5, 6, 7, 8]⟩, ⟨(some 122), .callv (T 112) [(T 116), (T 121)] 4, none, [0, 1, 2, 3, 4, 5, 6, 7, 8, 9]⟩, ⟨(some 123), .bin .lss (T 122) (I 0), none, [0, 1, 2, 3, 4, 5, 6, 7, 8, 9, 10]⟩, ⟨(some 124), .un .not (T 123), none, [0, 1, 2, 3, 4, 5, 6, 7, 8, 9, 10, 11]⟩] true)
                         (.cond (T 124)
                          (.exit 6)
                          .skip))
                        (.reg [⟨(some 125), .mov (T 0), none, []⟩, ⟨(some 126), .mov (T 12), none, []⟩, ⟨(some 127), .mov (T 0), none, []⟩, ⟨(some 128), .mov (T 12), none, []⟩, ⟨(some 129), .bin .sub (T 128) (I 1), none, [3]⟩, ⟨(some 130), .mov (T 0), none, []⟩, ⟨(some 131), .mov (T 12), none, []⟩, ⟨(some 132), .bin .sub (T 131) (I 1), none, [6]⟩, ⟨(some 133), .indexAddr 5 (T 130) (T 132), none, [5, 6, 7]⟩, ⟨(some 134), .load (some 5) (T 133), none, [5, 6, 7, 8]⟩, ⟨(some 135), .mov (T 0), none, []⟩, ⟨(some 136), .mov (T 12), none, []⟩, ⟨(some 137), .indexAddr 5 (T 135) (T 136), none, [10, 11]⟩, ⟨(some 138), .load (some 5) (T 137), none, [10, 11, 12]⟩, ⟨(some 139), .indexAddr 5 (T 125) (T 126), none, [0, 1, 5, 6, 7, 8, 9, 10, 11, 12, 13]⟩, ⟨none, .store (some 5) (T 139) (T 134), none, [0, 1, 5, 6, 7, 8, 9, 10, 11, 12, 13, 14]⟩, ⟨(some 140), .indexAddr 5 (T 127) (T 129), none, [0, 1, 2, 3, 4, 5, 6, 7, 8, 9, 10, 11, 12, 13, 14, 15]⟩, ⟨none, .store (some 5) (T 140) (T 138), none, [0, 1, 2, 3, 4, 5, 6, 7, 8, 9, 10, 11, 12, 13, 14, 15, 16]⟩] true)))
                      (.reg [o 110 (.mov (T 12)), o 111 (.bin .add (T 110) (I 1)), o 12 (.mov (T 111))] false))))))
                 .skip))))))))
         (.reg [o 17 (.mov (T 10)), o 18 (.bin .add (T 17) (I 1)), o 10 (.mov (T 18))] false))))))
    (.seq
     (.reg [o 8 (.mov (.c (.bool false)))] false)
     .ret)))), none⟩
def f_slices_partitionEqualCmpFunc_api_Event : IFun := ⟨90, 4, true, [], [.tmp 10],
 (.seq
  (.reg [o 10 (.mov (I 0))] false)
  (.seq
   (.reg [⟨(some 13), .mov (T 0), none, []⟩, ⟨(some 14), .mov (T 1), none, []⟩, ⟨(some 15), .mov (T 0), none, []⟩, ⟨(some 16), .mov (T 3), none, []⟩, ⟨(some 17), .mov (T 0), none, []⟩, ⟨(some 18), .mov (T 3), none, []⟩, ⟨(some 19), .indexAddr 5 (T 17) (T 18), none, [4, 5]⟩, ⟨(some 20), .load (some 5) (T 19), none, [4, 5, 6]⟩, ⟨(some 21), .mov (T 0), none, []⟩, ⟨(some 22), .mov (T 1), none, []⟩, ⟨(some 23), .indexAddr 5 (T 21) (T 22), none, [8, 9]⟩, ⟨(some 24), .load (some 5) (T 23), none, [8, 9, 10]⟩, ⟨(some 25), .indexAddr 5 (T 13) (T 14), none, [0, 1, 4, 5, 6, 7, 8, 9, 10, 11]⟩, ⟨none, .store (some 5) (T 25) (T 20), none, [0, 1, 4, 5, 6, 7, 8, 9, 10, 11, 12]⟩, ⟨(some 26), .indexAddr 5 (T 15) (T 16), none, [0, 1, 2, 3, 4, 5, 6, 7, 8, 9, 10, 11, 12, 13]⟩, ⟨none, .store (some 5) (T 26) (T 24), none, [0, 1, 2, 3, 4, 5, 6, 7, 8, 9, 10, 11, 12, 13, 14]⟩] true)
   (.seq
    (.reg [o 27 (.mov (T 1)), o 28 (.bin .add (T 27) (I 1)), o 29 (.mov (T 2)), o 30 (.bin .sub (T 29) (I 1)), o 11 (.mov (T 28)), o 12 (.mov (T 30))] false)
    (.seq
     (.block 0
      (.loop
       (.block 1
        (.seq
         (.block 2
          (.loop
           (.seq
            (.seq
             (.reg [⟨(some 31), .mov (T 11), none, []⟩, ⟨(some 32), .mov (T 12), none, []⟩, ⟨(some 33), .bin .leq (T 31) (T 32), none, [0, 1]⟩, ⟨(some 34), .mov (T 33), none, [0, 1, 2]⟩, ⟨(some 35), .mov (T 4), (some (34, true)), [0, 1, 2, 3]⟩, ⟨(some 36), .mov (T 0), (some (34, true)), [0, 1, 2, 3]⟩, ⟨(some 37), .mov (T 1), (some (34, true)), [0, 1, 2, 3]⟩, ⟨(some 38), .indexAddr 5 (T 36) (T 37), (some (34, true)), [0, 1, 2, 3, 5, 6]⟩, ⟨(some 39), .load (some 5) (T 38), (some (34, true)), [0, 1, 2, 3, 5, 6, 7]⟩, ⟨(some 40), .mov (T 0), (some (34, true)), [0, 1, 2, 3]⟩, ⟨(some 41), .mov (T 11), (some (34, true)), [0, 1, 2, 3]⟩, ⟨(some 42), .indexAddr 5 (T 40) (T 41), (some (34, true)), [0, 1, 2, 3, 9, 10]⟩, ⟨(some 43), .load (some 5) (T 42), (some (34, true)), [0, 1, 2, 3, 9, 10, 11]⟩, ⟨(some 44), .callv (T 35) [(T 39), (T 43)] 0, (some (34, true)), [0, 1, 2, 3, 4, 5, 6, 7, 8, 9, 10, 11, 12]⟩, ⟨(some 45), .bin .lss (T 44) (I 0), (some (34, true)), [0, 1, 2, 3, 4, 5, 6, 7, 8, 9, 10, 11, 12, 13]⟩, ⟨(some 46), .un .not (T 45), (some (34, true)), [0, 1, 2, 3, 4, 5, 6, 7, 8, 9, 10, 11, 12, 13, 14]⟩, ⟨(some 47), .pick (T 34) (T 46) (.c (.bool false)), none, [0, 1, 2, 3, 4, 5, 6, 7, 8, 9, 10, 11, 12, 13, 14, 15]⟩] true)
             (.cond (T 47)
              .skip
              (.exit 2)))
            (.block 3
             (.reg [o 48 (.mov (T 11)), o 49 (.bin .add (T 48) (I 1)), o 11 (.mov (T 49))] false)))))
         (.seq
          (.block 4
           (.loop
            (.seq
             (.seq
              (.reg [⟨(some 50), .mov (T 11), none, []⟩, ⟨(some 51), .mov (T 12), none, []⟩, ⟨(some 52), .bin .leq (T 50) (T 51), none, [0, 1]⟩, ⟨(some 53), .mov (T 52), none, [0, 1, 2]⟩, ⟨(some 54), .mov (T 4), (some (53, true)), [0, 1, 2, 3]⟩, ⟨(some 55), .mov (T 0), (some (53, true)), [0, 1, 2, 3]⟩, ⟨(some 56), .mov (T 1), (some (53, true)), [0, 1, 2, 3]⟩, ⟨(some 57), .indexAddr 5 (T 55) (T 56), (some (53, true)), [0, 1, 2, 3, 5, 6]⟩, ⟨(some 58), .load (some 5) (T 57), (some (53, true)), [0, 1, 2, 3, 5, 6, 7]⟩, ⟨(some 59), .mov (T 0), (some (53, true)), [0, 1, 2, 3]⟩, ⟨(some 60), .mov (T 12), (some (53, true)), [0, 1, 2, 3]⟩, ⟨(some 61), .indexAddr 5 (T 59) (T 60), (some (53, true)), [0, 1, 2, 3, 9, 10]⟩, ⟨(some 62), .load (some 5) (T 61), (some (53, true)), [0, 1, 2, 3, 9, 10, 11]⟩, ⟨(some 63), .callv (T 54) [(T 58), (T 62)] 2, (some (53, true)), [0, 1, 2, 3, 4, 5, 6, 7, 8, 9, 10, 11, 12]⟩, ⟨(some 64), .bin .lss (T 63) (I 0), (some (53, true)), [0, 1, 2, 3, 4, 5, 6, 7, 8, 9, 10, 11, 12, 13]⟩, ⟨(some 65), .pick (T 53) (T 64) (.c (.bool false)), none, [0, 1, 2, 3, 4, 5, 6, 7, 8, 9, 10, 11, 12, 13, 14]⟩] true)
              (.cond (T 65)
               .skip
               (.exit 4)))
             (.block 5
              (.reg [o 66 (.mov (T 12)), o 67 (.bin .sub (T 66) (I 1)), o 12 (.mov (T 67))] false)))))
          (.seq
           (.seq
            (.reg [o 68 (.mov (T 11)), o 69 (.mov (T 12)), o 70 (.bin .gtr (T 68) (T 69))] false)
            (.cond (T 70)
             (.exit 0)
             .skip))
           (.seq
            (.reg [⟨(some 71), .mov (T 0), none, []⟩, ⟨(some 72), .mov (T 11), none, []⟩, ⟨(some 73), .mov (T 0), none, []⟩, ⟨(some 74), .mov (T 12), none, []⟩, ⟨(some 75), .mov (T 0), none, []⟩, ⟨(some 76), .mov (T 12), none, []⟩, ⟨(some 77), .indexAddr 5 (T 75) (T 76), none, [4, 5]⟩, ⟨(some 78), .load (some 5) (T 77), none, [4, 5, 6]⟩, ⟨(some 79), .mov (T 0), none, []⟩, ⟨(some 80), .mov (T 11), none, []⟩, ⟨(some 81), .indexAddr 5 (T 79) (T 80), none, [8, 9]⟩, ⟨(some 82), .load (some 5) (T 81), none, [8, 9, 10]⟩, ⟨(some 83), .indexAddr 5 (T 71) (T 72), none, [0, 1, 4, 5, 6, 7, 8, 9, 10, 11]⟩, ⟨none, .store (some 5) (T 83) (T 78), none, [0, 1, 4, 5, 6, 7, 8, 9, 10, 11, 12]⟩, ⟨(some 84), .indexAddr 5 (T 73) (T 74), none, [0, 1, 2, 3, 4, 5, 6, 7, 8, 9, 10, 11, 12, 13]⟩, ⟨none, .store (some 5) (T 84) (T 82), none, [0, 1, 2, 3, 4, 5, 6, 7, 8, 9, 10, 11, 12, 13, 14]⟩] true)
            (.seq
             (.reg [o 85 (.mov (T 11)), o 86 (.bin .add (T 85) (I 1)), o 11 (.mov (T 86))] false)
             (.reg [o 87 (.mov (T 12)), o 88 (.bin .sub (T 87) (I 1)), o 12 (.mov (T 88))] false)))))))))
     (.seq
      (.reg [o 89 (.mov (T 11)), o 10 (.mov (T 89))] false)
      .ret))))), none⟩
def f_slices_partitionCmpFunc_api_Event : IFun := ⟨178, 8, true, [], [.tmp 10, .tmp 11],
 (.seq
  (.reg [o 10 (.mov (I 0)), o 11 (.mov (.c (.bool false)))] false)
  (.seq
   (.reg [⟨(some 14), .mov (T 0), none, []⟩, ⟨(some 15), .mov (T 1), none, []⟩, ⟨(some 16), .mov (T 0), none, []⟩, ⟨(some 17), .mov (T 3), none, []⟩, ⟨(some 18), .mov (T 0), none, []⟩, ⟨(some 19), .mov (T 3), none, []⟩, ⟨(some 20), .indexAddr 5 (T 18) (T 19), none, [4, 5]⟩, ⟨(some 21), .load (some 5) (T 20), none, [4, 5, 6]⟩, ⟨(some 22), .mov (T 0), none, []⟩, ⟨(some 23), .mov (T 1), none, []⟩, ⟨(some 24), .indexAddr 5 (T 22) (T 23), none, [8, 9]⟩, ⟨(some 25), .load (some 5) (T 24), none, [8, 9, 10]⟩, ⟨(some 26), .indexAddr 5 (T 14) (T 15), none, [0, 1, 4, 5, 6, 7, 8, 9, 10, 11]⟩, ⟨none, .store (some 5) (T 26) (T 21), none, [0, 1, 4, 5, 6, 7, 8, 9, 10, 11, 12]⟩, ⟨(some 27), .indexAddr 5 (T 16) (T 17), none, [0, 1, 2, 3, 4, 5, 6, 7, 8, 9, 10, 11, 12, 13]⟩, ⟨none, .store (some 5) (T 27) (T 25), none, [0, 1, 2, 3, 4, 5, 6, 7, 8, 9, 10, 11, 12, 13, 14]⟩] true)
   (.seq
    (.reg [o 28 (.mov (T 1)), o 29 (.bin .add (T 28) (I 1)), o 30 (.mov (T 2)), o 31 (.bin .sub (T 30) (I 1)), o 12 (.mov (T 29)), o 13 (.mov (T 31))] false)
    (.seq
     (.block 0
      (.loop
       (.seq
        (.seq
         (.reg [⟨(some 32), .mov (T 12), none, []⟩, ⟨(some 33), .mov (T 13), none, []⟩, ⟨(some 34), .bin .leq (T 32) (T 33), none, [0, 1]⟩, ⟨(some 35), .mov (T 34), none, [0, 1, 2]⟩, ⟨(some 36), .mov (T 4), (some (35, true)), [0, 1, 2, 3]⟩, ⟨(some 37), .mov (T 0), (some (35, true)), [0, 1, 2, 3]⟩, ⟨(some 38), .mov (T 12), (some (35, true)), [0, 1, 2, 3]⟩, ⟨(some 39), .indexAddr 5 (T 37) (T 38), (some (35, true)), [0, 1, 2, 3, 5, 6]⟩, ⟨(some 40), .load (some 5) (T 39), (some (35, true)), [0, 1, 2, 3, 5, 6, 7]⟩, ⟨(some 41), .mov (T 0), (some (35, true)), [0, 1, 2, 3]⟩, ⟨(some 42), .mov (T 1), (some (35, true)), [0, 1, 2, 3]⟩, ⟨(some 43), .indexAddr 5 (T 41) (T 42), (some (35, true)), [0, 1, 2, 3, 9, 10]⟩, ⟨(some 44), .load (some 5) (T 43), (some (35, true)), [0, 1, 2, 3, 9, 10, 11]⟩, ⟨(some 45), .callv (T 36) [(T 40), (T 44)] 0, (some (35, true)), [0, 1, 2, 3, 4, 5, 6, 7, 8, 9, 10, 11, 12]⟩, ⟨(some 46), .bin .lss (T 45) (I 0), (some (35, true)), [0, 1, 2, 3, 4, 5, 6, 7, 8, 9, 10, 11, 12, 13]⟩, ⟨(some 47), .pick (T 35) (T 46) (.c (.bool false)), none, [0, 1, 2, 3, 4, 5, 6, 7, 8, 9, 10, 11, 12, 13, 14]⟩] true)
         (.cond (T 47)
          .skip
          (.exit 0)))
        (.block 1
         (.reg [o 48 (.mov (T 12)), o 49 (.bin .add (T 48) (I 1)), o 12 (.mov (T 49))] false)))))
     (.seq
      (.block 2
       (.loop
        (.seq
         (.seq
          (.reg [⟨(some 50), .mov (T 12), none, []⟩, ⟨(some 51), .mov (T 13), none, []⟩, ⟨(some 52), .bin .leq (T 50) (T 51), none, [0, 1]⟩, ⟨(some 53), .mov (T 52), none, [0, 1, 2]⟩, ⟨(some 54), .mov (T 4), (some (53, true)), [0, 1, 2, 3]⟩, ⟨(some 55), .mov (T 0), (some (53, true)), [0, 1, 2, 3]⟩, ⟨(some 56), .mov (T 13), (some (53, true)), [0, 1, 2, 3]⟩, ⟨(some 57), .indexAddr 5 (T 55) (T 56), (some (53, true)), [0, 1, 2, 3, 5, 6]⟩, ⟨(some 58), .load (some 5) (T 57), (some (53, true)), [0, 1, 2, 3, 5, 6, 7]⟩, ⟨(some 59), .mov (T 0), (some (53, true)), [0, 1, 2, 3]⟩, ⟨(some 60), .mov (T 1), (some (53, true)), [0, 1, 2, 3]⟩, ⟨(some 61), .indexAddr 5 (T 59) (T 60), (some (53, true)), [0, 1, 2, 3, 9, 10]⟩, ⟨(some 62), .load (some 5) (T 61), (some (53, true)), [0, 1, 2, 3, 9, 10, 11]⟩, ⟨(some 63), .callv (T 54) [(T 58), (T 62)] 2, (some (53, true)), [0, 1, 2, 3, 4, 5, 6, 7, 8, 9, 10, 11, 12]⟩, ⟨(some 64), .bin .lss (T 63) (I 0), (some (53, true)), [0, 1, 2, 3, 4, 5, 6, 7, 8, 9, 10, 11, 12, 13]⟩, ⟨(some 65), .un .not (T 64), (some (53, true)), [0, 1, 2, 3, 4, 5, 6, 7, 8, 9, 10, 11, 12, 13, 14]⟩, ⟨(some 66), .pick (T 53) (T 65) (.c (.bool false)), none, [0, 1, 2, 3, 4, 5, 6, 7, 8, 9, 10, 11, 12, 13, 14, 15]⟩] true)
          (.cond (T 66)
           .skip
           (.exit 2)))
         (.block 3
          (.reg [o 67 (.mov (T 13)), o 68 (.bin .sub (T 67) (I 1)), o 13 (.mov (T 68))] false)))))
      (.seq
       (.seq
        (.reg [o 69 (.mov (T 12)), o 70 (.mov (T 13)), o 71 (.bin .gtr (T 69) (T 70))] false)
        (.cond (T 71)
         (.seq
          (.reg [⟨(some 72), .mov (T 0), none, []⟩, ⟨(some 73), .mov (T 13), none, []⟩, ⟨(some 74), .mov (T 0), none, []⟩, ⟨(some 75), .mov (T 1), none, []⟩, ⟨(some 76), .mov (T 0), none, []⟩, ⟨(some 77), .mov (T 1), none, []⟩, ⟨(some 78), .indexAddr 5 (T 76) (T 77), none, [4, 5]⟩, ⟨(some 79), .load (some 5) (T 78), none, [4, 5, 6]⟩, ⟨(some 80), .mov (T 0), none, []⟩, ⟨(some 81), .mov (T 13), none, []⟩, ⟨(some 82), .indexAddr 5 (T 80) (T 81), none, [8, 9]⟩, ⟨(some 83), .load (some 5) (T 82), none, [8, 9, 10]⟩, ⟨(some 84), .indexAddr 5 (T 72) (T 73), none, [0, 1, 4, 5, 6, 7, 8, 9, 10, 11]⟩, ⟨none, .store (some 5) (T 84) (T 79), none, [0, 1, 4, 5, 6, 7, 8, 9, 10, 11, 12]⟩, ⟨(some 85), .indexAddr 5 (T 74) (T 75), none, [0, 1, 2, 3, 4, 5, 6, 7, 8, 9, 10, 11, 12, 13]⟩, ⟨none, .store (some 5) (T 85) (T 83), none, [0, 1, 2, 3, 4, 5, 6, 7, 8, 9, 10, 11, 12, 13, 14]⟩] true)
          (.seq
           (.reg [o 86 (.mov (T 13)), o 10 (.mov (T 86)), o 11 (.mov (.c (.bool true)))] false)
           .ret))
         .skip))
       (.seq
        (.reg [⟨(some 87), .mov (T 0), none, []⟩, ⟨(some 88), .mov (T 12), none, []⟩, ⟨(some 89), .mov (T 0), none, []⟩, ⟨(some 90), .mov (T 13), none, []⟩, ⟨(some 91), .mov (T 0), none, []⟩, ⟨(some 92), .mov (T 13), none, []⟩, ⟨(some 93), .indexAddr 5 (T 91) (T 92), none, [4, 5]⟩, ⟨(some 94), .load (some 5) (T 93), none, [4, 5, 6]⟩, ⟨(some 95), .mov (T 0), none, []⟩, ⟨(some 96), .mov (T 12), none, []⟩, ⟨(some 97), .indexAddr 5 (T 95) (T 96), none, [8, 9]⟩, ⟨(some 98), .load (some 5) (T 97), none, [8, 9, 10]⟩, ⟨(some 99), .indexAddr 5 (T 87) (T 88), none, [0, 1, 4, 5, 6, 7, 8, 9, 10, 11]⟩, ⟨none, .store (some 5) (T 99) (T 94), none, [0, 1, 4, 5, 6, 7, 8, 9, 10, 11, 12]⟩, ⟨(some 100), .indexAddr 5 (T 89) (T 90), none, [0, 1, 2, 3, 4, 5, 6, 7, 8, 9, 10, 11, 12, 13]⟩, ⟨none, .store (some 5) (T 100) (T 98), none, [0, 1, 2, 3, 4, 5, 6, 7, 8, 9, 10, 11, 12, 13, 14]⟩] true)
        (.seq
         (.reg [o 101 (.mov (T 12)), o 102 (.bin .add (T 101) (I 1)), o 12 (.mov (T 102))] false)
         (.seq
          (.reg [o 103 (.mov (T 13)), o 104 (.bin .sub (T 103) (I 1)), o 13 (.mov (T 104))] false)
          (.seq
           (.block 4
            (.loop
             (.block 5
              (.seq
               (.block 6
                (.loop
                 (.seq
                  (.seq
                   (.reg [⟨(some 105), .mov (T 12), none, []⟩, ⟨(some 106), .mov (T 13), none, []⟩, ⟨(some 107), .bin .leq (T 105) (T 106), none, [0, 1]⟩, ⟨(some 108), .mov (T 107), none, [0, 1, 2]⟩, ⟨(some 109), .mov (T 4), (some (108, true)), [0, 1, 2, 3]⟩, ⟨(some 110), .mov (T 0), (some (108, true)), [0, 1, 2, 3]⟩, ⟨(some 111), .mov (T 12), (some (108, true)), [0, 1, 2, 3]⟩, ⟨(some 112), .indexAddr 5 (T 110) (T 111), (some (108, true)), [0, 1, 2, 3, 5, 6]⟩, ⟨(some 113), .load (some 5) (T 112), (some (108, true)), [0, 1, 2, 3, 5, 6, 7]⟩, ⟨(some 114), .mov (T 0), (some (108, true)), [0, 1, 2, 3]⟩, ⟨(some 115), .mov (T 1), (some (108, true)), [0, 1, 2, 3]⟩, ⟨(some 116), .indexAddr 5 (T 114) (T 115), (some (108, true)), [0, 1, 2, 3, 9, 10]⟩, ⟨(some 117), .load (some 5) (T 116), (some (108, true)), [0, 1, 2, 3, 9, 10, 11]⟩, ⟨(some 118), .callv (T 109) [(T 113), (T 117)] 4, (some (108, true)), [0, 1, 2, 3, 4, 5, 6, 7, 8, 9, 10, 11, 12]⟩, ⟨(some 119), .bin .lss (T 118) (I 0), (some (108, true)), [0, 1, 2, 3, 4, 5, 6, 7, 8, 9, 10, 11, 12, 13]⟩, ⟨(some 120), .pick (T 108) (T 119) (.c (.bool false)), none, [0, 1, 2, 3, 4, 5, 6, 7, 8, 9, 10, 11, 12, 13, 14]⟩] true)
                   (.cond (T 120)
                    .skip
                    (.exit 6)))
                  (.block 7
                   (.reg [o 121 (.mov (T 12)), o 122 (.bin .add (T 121) (I 1)), o 12 (.mov (T 122))] false)))))
               (.seq
                (.block 8
                 (.loop
                  (.seq
                   (.seq
                    (.reg [⟨(some 123), .mov (T 12), none, []⟩, ⟨(some 124), .mov (T 13), none, []⟩, ⟨(some 125), .bin .leq (T 123) (T 124), none, [0, 1]⟩, ⟨(some 126), .mov (T 125), none, [0, 1, 2]⟩, ⟨(some 127), .mov (T 4), (some (126, true)), [0, 1, 2, 3]⟩, ⟨(some 128), .mov (T 0), (some (126, true)), [0, 1, 2, 3]⟩, ⟨(some 129), .mov (T 13), (some (126, true)), [0, 1, 2, 3]⟩, ⟨(some 130), .indexAddr 5 (T 128) (T 129), (some (126, true)), [0, 1, 2, 3, 5, 6]⟩, ⟨(some 131), .load (some 5) (T 130), (some (126, true)), [0, 1, 2, 3, 5, 6, 7]⟩, ⟨(some 132), .mov (T 0), (some (126, true)), [0, 1, 2, 3]⟩, ⟨(some 133), .mov (T 1), (some (126, true)), [0, 1, 2, 3]⟩, ⟨(some 134), .indexAddr 5 (T 132) (T 133), (some (126, true)), [0, 1, 2, 3, 9, 10]⟩, ⟨(some 135), .load (some 5) (T 134), (some (126, true)), [0, 1, 2, 3, 9, 10, 11]⟩, ⟨(some 136), .callv (T 127) [(T 131), (T 135)] 6, (some (126, true)), [0, 1, 2, 3, 4, 5, 6, 7, 8, 9, 10, 11, 12]⟩, ⟨(some 137), .bin .lss (T 136) (I 0), (some (126, true)), [0, 1, 2, 3, 4, 5, 6, 7, 8, 9, 10, 11, 12, 13]⟩, ⟨(some 138), .un .not (T 137), (some (126, true)), [0, 1, 2, 3, 4, 5, 6, 7, 8, 9, 10, 11, 12, 13, 14]⟩, ⟨(some 139), .pick (T 126) (T 138) (.c (.bool false)), none, [0, 1, 2, 3, 4, 5, 6, 7, 8, 9, 10, 11, 12, 13, 14, 15]⟩] true)
                    (.cond (T 139)
                     .skip
                     (.exit 8)))
                   (.block 9
                    (.reg [o 140 (.mov (T 13)), o 141 (.bin .sub (T 140) (I 1)), o 13 (.mov (T 141))] false)))))
                (.seq
                 (.seq
                  (.reg [o 142 (.mov (T 12)), o 143 (.mov (T 13)), o 144 (.bin .gtr (T 142) (T 143))] false)
                  (.cond (T 144)
                   (.exit 4)
                   .skip))
                 (.seq
                  (.reg [⟨(some 145), .mov (T 0), none, []⟩, ⟨(some 146), .mov (T 12), none, []⟩, ⟨(some 147), .mov (T 0), none, []⟩, ⟨(some 148), .mov (T 13), none, []⟩, ⟨(some 149), .mov (T 0), none, []⟩, ⟨(some 150), .mov (T 13), none, []⟩, ⟨(some 151), .indexAddr 5 (T 149) (T 150), none, [4, 5]⟩, ⟨(some 152), .load (some 5) (T 151), none, [4, 5, 6]⟩, ⟨(some 153), .mov (T 0), none, []⟩, ⟨(some 154), .mov (T 12), none, []⟩, ⟨(some 155), .indexAddr 5 (T 153) (T 154), none, [8, 9]⟩, ⟨(some 156), .load (some 5) (T 155), none, [8, 9, 10]⟩, ⟨(some 157), .indexAddr 5 (T 145) (T 146), none, [0, 1, 4, 5, 6, 7, 8, 9, 10, 11]⟩, ⟨none, .store (some 5) (T 157) (T 152), none, [0, 1, 4, 5, 6, 7, 8, 9, 10, 11, 12]⟩, ⟨(some 158), .indexAddr 5 (T 147) (T 148), none, [0, 1, 2, 3, 4, 5, 6, 7, 8, 9, 10, 11, 12, 13]⟩, ⟨none, .store (some 5) (T 158) (T 156), none, [0, 1, 2, 3, 4, 5, 6, 7, 8, 9, 10, 11, 12, 13, 14]⟩] true)
                  (.seq
                   (.reg [o 159 (.mov (T 12)), o 160 (.bin .add (T 159) (I 1)), o 12 (.mov (T 160))] false)
                   (.reg [o 161 (.mov (T 13)), o 162 (.bin .sub (T 161) (I 1)), o 13 (.mov (T 162))] false)))))))))
           (.seq
            (.reg [⟨(some 163), .mov (T 0), none, []⟩, ⟨(some 164), .mov (T 13), none, []⟩, ⟨(some 165), .mov (T 0), none, []⟩, ⟨(some 166), .mov (T 1), none, []⟩, ⟨(some 167), .mov (T 0), none, []⟩, ⟨(some 168), .mov (T 1), none, []⟩, ⟨(some 169), .indexAddr 5 (T 167) (T 168), none, [4, 5]⟩, ⟨(some 170), .load (some 5) (T 169), none, [4, 5, 6]⟩, ⟨(some 171), .mov (T 0), none, []⟩, ⟨(some 172), .mov (T 13), none, []⟩, ⟨(some 173), .indexAddr 5 (T 171) (T 172), none, [8, 9]⟩, ⟨(some 174), .load (some 5) (T 173), none, [8, 9, 10]⟩, ⟨(some 175), .indexAddr 5 (T 163) (T 164), none, [0, 1, 4, 5, 6, 7, 8, 9, 10, 11]⟩, ⟨none, .store (some 5) (T 175) (T 170), none, [0, 1, 4, 5, 6, 7, 8, 9, 10, 11, 12]⟩, ⟨(some 176), .indexAddr 5 (T 165) (T 166), none, [0, 1, 2, 3, 4, 5, 6, 7, 8, 9, 10, 11, 12, 13]⟩, ⟨none, .store (some 5) (T 176) (T 174), none, [0, 1, 2, 3, 4, 5, 6, 7, 8, 9, 10, 11, 12, 13, 14]⟩] true)
            (.seq
             (.reg [o 177 (.mov (T 13)), o 10 (.mov (T 177)), o 11 (.mov (.c (.bool false)))] false)
             .ret)))))))))))), none⟩
def f_math_bits_Len32 : IFun := ⟨19, 0, true, [true], [.tmp 2],
 (.seq
  (.reg [o 2 (.mov (I 0))] false)
  (.seq
   (.seq
    (.reg [o 3 (.mov (T 0)), o 4 (.bin .geq (T 3) (.c (.int .u32 65536)))] false)
    (.cond (T 4)
     (.seq
      (.reg [o 5 (.mov (T 0)), o 6 (.bin .shr (T 5) (.c (.int .u64 16))), o 0 (.mov (T 6))] false)
      (.reg [o 2 (.mov (I 16))] false))
     .skip))
   (.seq
    (.seq
     (.reg [o 7 (.mov (T 0)), o 8 (.bin .geq (T 7) (.c (.int .u32 256)))] false)
     (.cond (T 8)
      (.seq
       (.reg [o 9 (.mov (T 0)), o 10 (.bin .shr (T 9) (.c (.int .u64 8))), o 0 (.mov (T 10))] false)
       (.reg [o 11 (.mov (T 2)), o 12 (.bin .add (T 11) (I 8)), o 2 (.mov (T 12))] false))
      .skip))
    (.seq
     (.reg [o 13 (.mov (T 2)), o 14 (.mov (T 0)), o 15 (.toInt .u8 (T 14)), o 16 (.sidx (.c (.str [0, 1, 2, 2, 3, 3, 3, 3, 4, 4, 4, 4, 4, 4, 4, 4, 5, 5, 5, 5, 5, 5, 5, 5, 5, 5, 5, 5, 5, 5, 5, 5, 6, 6, 6, 6, 6, 6, 6, 6, 6, 6, 6, 6, 6, 6, 6, 6, 6, 6, 6, 6, 6, 6, 6, 6, 6, 6, 6, 6, 6, 6, 6, 6, 7, 7, 7, 7, 7, 7, 7, 7, 7, 7, 7, 7, 7, 7, 7, 7, 7, 7, 7, 7, 7, 7, 7, 7, 7, 7, 7, 7, 7, 7, 7, 7, 7, 7, 7, 7, 7, 7, 7, 7, 7, 7, 7, 7, 7, 7, 7, 7, 7, 7, 7, 7, 7, 7, 7, 7, 7, 7, 7, 7, 7, 7, 7, 7, 8, 8, 8, 8, 8, 8, 8, 8, 8, 8, 8, 8, 8, 8, 8, 8, 8, 8, 8, 8, 8, 8, 8, 8, 8, 8, 8, 8, 8, 8, 8, 8, 8, 8, 8, 8, 8, 8, 8, 8, 8, 8, 8, 8, 8, 8, 8, 8, 8, 8, 8, 8, 8, 8, 8, 8, 8, 8, 8, 8, 8, 8, 8, 8, 8, 8, 8, 8, 8, 8, 8, 8, 8, 8, 8, 8, 8, 8, 8, 8, 8, 8, 8, 8, 8, 8, 8, 8, 8, 8, 8, 8, 8, 8, 8, 8, 8, 8, 8, 8, 8, 8, 8, 8, 8, 8, 8, 8, 8, 8, 8, 8, 8, 8, 8, 8, 8, 8, 8, 8, 8, 8, 8, 8, 8, 8, 8, 8])) (T 15)), o 17 (.toInt .i64 (T 16)), o 18 (.bin .add (T 13) (T 17)), o 2 (.mov (T 18))] false)
     .ret)))), none⟩
def f_math_bits_Len64 : IFun := ⟨25, 0, true, [true], [.tmp 2],
 (.seq
  (.reg [o 2 (.mov (I 0))] false)
  (.seq
   (.seq
    (.reg [o 3 (.mov (T 0)), o 4 (.bin .geq (T 3) (.c (.int .u64 4294967296)))] false)
    (.cond (T 4)
     (.seq
      (.reg [o 5 (.mov (T 0)), o 6 (.bin .shr (T 5) (.c (.int .u64 32))), o 0 (.mov (T 6))] false)
      (.reg [o 2 (.mov (I 32))] false))
     .skip))
   (.seq
    (.seq
     (.reg [o 7 (.mov (T 0)), o 8 (.bin .geq (T 7) (.c (.int .u64 65536)))] false)
     (.cond (T 8)
      (.seq
       (.reg [o 9 (.mov (T 0)), o 10 (.bin .shr (T 9) (.c (.int .u64 16))), o 0 (.mov (T 10))] false)
       (.reg [o 11 (.mov (T 2)), o 12 (.bin .add (T 11) (I 16)), o 2 (.mov (T 12))] false))
      .skip))
    (.seq
     (.seq
      (.reg [o 13 (.mov (T 0)), o 14 (.bin .geq (T 13) (.c (.int .u64 256)))] false)
      (.cond (T 14)
       (.seq
        (.reg [o 15 (.mov (T 0)), o 16 (.bin .shr (T 15) (.c (.int .u64 8))), o 0 (.mov (T 16))] false)
        (.reg [o 17 (.mov (T 2)), o 18 (.bin .add (T 17) (I 8)), o 2 (.mov (T 18))] false))
       .skip))
     (.seq
      (.reg [o 19 (.mov (T 2)), o 20 (.mov (T 0)), o 21 (.toInt .u8 (T 20)), o 22 (.sidx (.c (.str [0, 1, 2, 2, 3, 3, 3, 3, 4, 4, 4, 4, 4, 4, 4, 4, 5, 5, 5, 5, 5, 5, 5, 5, 5, 5, 5, 5, 5, 5, 5, 5, 6, 6, 6, 6, 6, 6, 6, 6, 6, 6, 6, 6, 6, 6, 6, 6, 6, 6, 6, 6, 6, 6, 6, 6, 6, 6, 6, 6, 6, 6, 6, 6, 7, 7, 7, 7, 7, 7, 7, 7, 7, 7, 7, 7, 7, 7, 7, 7, 7, 7, 7, 7, 7, 7, 7, 7, 7, 7, 7, 7, 7, 7, 7, 7, 7, 7, 7, 7, 7, 7, 7, 7, 7, 7, 7, 7, 7, 7, 7, 7, 7, 7, 7, 7, 7, 7, 7, 7, 7, 7, 7, 7, 7, 7, 7, 7, 8, 8, 8, 8, 8, 8, 8, 8, 8, 8, 8, 8, 8, 8, 8, 8, 8, 8, 8, 8, 8, 8, 8, 8, 8, 8, 8, 8, 8, 8, 8, 8, 8, 8, 8, 8, 8, 8, 8, 8, 8, 8, 8, 8, 8, 8, 8, 8, 8, 8, 8, 8, 8, 8, 8, 8, 8, 8, 8, 8, 8, 8, 8, 8, 8, 8, 8, 8, 8, 8, 8, 8, 8, 8, 8, 8, 8, 8, 8, 8, 8, 8, 8, 8, 8, 8, 8, 8, 8, 8, 8, 8, 8, 8, 8, 8, 8, 8, 8, 8, 8, 8, 8, 8, 8, 8, 8, 8, 8, 8, 8, 8, 8, 8, 8, 8, 8, 8, 8, 8, 8, 8, 8, 8, 8, 8, 8, 8])) (T 21)), o 23 (.toInt .i64 (T 22)), o 24 (.bin .add (T 19) (T 23)), o 2 (.mov (T 24))] false)
      .ret))))), none⟩
def f_cmp_isNaN_int : IFun := ⟨6, 0, true, [true], [.tmp 2],
 (.seq
  (.reg [o 2 (.mov (.c (.bool false)))] false)
  (.seq
   (.reg [o 3 (.mov (T 0)), o 4 (.mov (T 0)), o 5 (.bin .neq (T 3) (T 4)), o 2 (.mov (T 5))] false)
   .ret)), none⟩
def f_prog_each_api_Handler : IFun := ⟨24, 4, true, [true, true, true], [.tmp 6],
 (.seq
  (.reg [o 3 (.box (some 4) (T 0) 0), o 6 (.mov (I 0))] false)
  (.seq
   (.seq
    (.reg [o 10 (.mov (T 1)), o 11 (.len (T 10)), o 12 (.mov (I 0))] false)
    (.block 0
     (.loop
      (.seq
       (.reg [o 13 (.bin .lss (T 12) (T 11))] false)
       (.seq
        (.cond (T 13)
         .skip
         (.exit 0))
        (.seq
         (.block 1
          (.seq
           (.reg [o 14 (.indexAddr 2 (T 10) (T 12)), o 15 (.load (some 2) (T 14)), o 8 (.box (some 2) (.c (.agg [(.int .i64 0), .nils])) 1), u (.store (some 2) (T 8) (T 15))] false)
           (.seq
            (.reg [o 16 (.mov (T 2)), o 17 (.load (some 4) (T 3)), o 18 (.load (some 2) (T 8)), o 19 (.callv (T 16) [(T 17), (T 18)] 2), o 9 (.mov (T 19))] false)
            (.seq
             (.reg [o 20 (.mov (T 9)), o 21 (.bin .neq (T 20) (I 0))] false)
             (.cond (T 21)
              (.seq
               (.reg [o 22 (.mov (T 9)), o 6 (.mov (T 22))] false)
               .ret)
              .skip)))))
         (.reg [o 23 (.bin .add (T 12) (I 1)), o 12 (.mov (T 23))] false)))))))
   (.seq
    (.reg [o 6 (.mov (I 0))] false)
    .ret))), none⟩
def f_prog_handler : IFun := ⟨35, 3, true, [true, true], [.tmp 4],
 (.seq
  (.reg [o 2 (.box (some 4) (T 0) 0), o 3 (.box (some 2) (T 1) 1), o 4 (.mov (I 0))] false)
  (.seq
   (.block 0
    (.seq
     (.seq
      (.reg [o 9 (.fieldAddr (T 3) 0), o 10 (.load none (T 9)), o 11 (.bin .lss (T 10) (I 0)), o 8 (.mov (T 11))] false)
      (.cond (T 8)
       .skip
       (.reg [o 12 (.fieldAddr (T 3) 0), o 13 (.load none (T 12)), o 14 (.bin .gtr (T 13) (I 4)), o 8 (.mov (T 14))] false)))
     (.cond (T 8)
      (.seq
       (.reg [o 4 (.mov (I 1))] false)
       .ret)
      (.seq
       (.reg [o 16 (.fieldAddr (T 3) 1), o 17 (.load none (T 16)), o 18 (.len (T 17)), o 19 (.bin .gtr (T 18) (I 64)), o 15 (.mov (T 19))] false)
       (.cond (T 15)
        (.seq
         (.reg [o 4 (.mov (I 3))] false)
         .ret)
        .skip)))))
   (.seq
    (.seq
     (.reg [o 20 (.fieldAddr (T 3) 1), o 21 (.load none (T 20)), o 22 (.len (T 21)), o 23 (.mov (I 0))] false)
     (.block 1
      (.loop
       (.seq
        (.reg [o 24 (.bin .lss (T 23) (T 22))] false)
        (.seq
         (.cond (T 24)
          .skip
          (.exit 1))
         (.seq
          (.block 2
           (.seq
            (.reg [o 25 (.indexAddr 2 (T 21) (T 23)), o 26 (.load (some 2) (T 25)), o 6 (.box (some 2) (.c (.agg [(.int .i64 0), (.int .i64 0)])) 2), u (.store (some 2) (T 6) (T 26))] false)
            (.seq
             (.reg [o 27 (.load (some 4) (T 2)), o 28 (.load (some 2) (T 3)), o 29 (.load (some 2) (T 6)), o 30 (.call 176 [(T 27), (T 28), (T 29)] 3), o 7 (.mov (T 30))] false)
             (.seq
              (.reg [o 31 (.mov (T 7)), o 32 (.bin .neq (T 31) (I 0))] false)
              (.cond (T 32)
               (.seq
                (.reg [o 33 (.mov (T 7)), o 4 (.mov (T 33))] false)
                .ret)
               .skip)))))
          (.reg [o 34 (.bin .add (T 23) (I 1)), o 23 (.mov (T 34))] false)))))))
    (.seq
     (.reg [o 4 (.mov (I 0))] false)
     .ret)))), none⟩
def f_prog_each_api_Actor : IFun := ⟨24, 4, true, [true, true, true], [.tmp 6],
 (.seq
  (.reg [o 3 (.box (some 4) (T 0) 0), o 6 (.mov (I 0))] false)
  (.seq
   (.seq
    (.reg [o 10 (.mov (T 1)), o 11 (.len (T 10)), o 12 (.mov (I 0))] false)
    (.block 0
     (.loop
      (.seq
       (.reg [o 13 (.bin .lss (T 12) (T 11))] false)
       (.seq
        (.cond (T 13)
         .skip
         (.exit 0))
        (.seq
         (.block 1
          (.seq
           (.reg [o 14 (.indexAddr 4 (T 10) (T 12)), o 15 (.load (some 4) (T 14)), o 8 (.box (some 4) (.c (.agg [.nils, (.int .i64 0), (.int .i64 0), (.bool false)])) 1), u (.store (some 4) (T 8) (T 15))] false)
           (.seq
            (.reg [o 16 (.mov (T 2)), o 17 (.load (some 4) (T 3)), o 18 (.load (some 4) (T 8)), o 19 (.callv (T 16) [(T 17), (T 18)] 2), o 9 (.mov (T 19))] false)
            (.seq
             (.reg [o 20 (.mov (T 9)), o 21 (.bin .neq (T 20) (I 0))] false)
             (.cond (T 21)
              (.seq
               (.reg [o 22 (.mov (T 9)), o 6 (.mov (T 22))] false)
               .ret)
              .skip)))))
         (.reg [o 23 (.bin .add (T 12) (I 1)), o 12 (.mov (T 23))] false)))))))
   (.seq
    (.reg [o 6 (.mov (I 0))] false)
    .ret))), none⟩
def f_prog_actor : IFun := ⟨52, 2, true, [true, true], [.tmp 4],
 (.seq
  (.reg [o 2 (.box (some 4) (T 0) 0), o 3 (.box (some 4) (T 1) 1), o 4 (.mov (I 0))] false)
  (.seq
   (.block 0
    (.seq
     (.reg [o 6 (.fieldAddr (T 3) 0), o 7 (.load none (T 6)), o 8 (.len (T 7)), o 9 (.bin .gtr (T 8) (I 8)), o 5 (.mov (T 9))] false)
     (.cond (T 5)
      (.seq
       (.reg [o 4 (.mov (I 3))] false)
       .ret)
      (.seq
       (.seq
        (.reg [o 11 (.fieldAddr (T 3) 1), o 12 (.load none (T 11)), o 13 (.bin .lss (T 12) (I 0)), o 10 (.mov (T 13))] false)
        (.cond (T 10)
         .skip
         (.reg [o 14 (.fieldAddr (T 3) 1), o 15 (.load none (T 14)), o 16 (.bin .gtr (T 15) (I 16)), o 10 (.mov (T 16))] false)))
       (.cond (T 10)
        (.seq
         (.reg [o 4 (.mov (I 1))] false)
         .ret)
        (.seq
         (.reg [o 18 (.fieldAddr (T 3) 2), o 19 (.load none (T 18)), o 20 (.bin .neq (T 19) (I (-1))), o 21 (.mov (T 20)), og (some 22) (.fieldAddr (T 3) 2) 21 true, og (some 23) (.load none (T 22)) 21 true, og (some 24) (.bin .lss (T 23) (I 0)) 21 true, og (some 25) (.mov (T 24)) 21 true, og (some 26) (.fieldAddr (T 3) 2) 25 false, og (some 27) (.load none (T 26)) 25 false, og (some 28) (.fieldAddr (T 2) 0) 25 false, og (some 29) (.load none (T 28)) 25 false, og (some 30) (.len (T 29)) 25 false, og (some 31) (.bin .geq (T 27) (T 30)) 25 false, og (some 32) (.pick (T 25) (.c (.bool true)) (T 31)) 21 true, og (some 33) (.mov (T 32)) 21 true, og (some 34) (.fieldAddr (T 2) 0) 33 false, og (some 35) (.load none (T 34)) 33 false, og (some 36) (.fieldAddr (T 3) 2) 33 false, og (some 37) (.load none (T 36)) 33 false, og (some 38) (.indexAddr 2 (T 35) (T 37)) 33 false, og (some 39) (.fieldAddr (T 38) 0) 33 false, og (some 40) (.load none (T 39)) 33 false, og (some 41) (.bin .neq (T 40) (I 0)) 33 false, og (some 42) (.pick (T 33) (.c (.bool true)) (T 41)) 21 true, o 43 (.pick (T 21) (T 42) (.c (.bool false))), o 17 (.mov (T 43))] false)
         (.cond (T 17)
          (.seq
           (.reg [o 4 (.mov (I 7))] false)
           .ret)
          (.seq
           (.reg [o 45 (.fieldAddr (T 3) 3), o 46 (.load none (T 45)), o 47 (.mov (T 46)), og (some 48) (.fieldAddr (T 3) 2) 47 true, og (some 49) (.load none (T 48)) 47 true, og (some 50) (.bin .eql (T 49) (I (-1))) 47 true, o 51 (.pick (T 47) (T 50) (.c (.bool false))), o 44 (.mov (T 51))] false)
           (.cond (T 44)
            (.seq
             (.reg [o 4 (.mov (I 1))] false)
             .ret)
            .skip)))))))))
   (.seq
    (.reg [o 4 (.mov (I 0))] false)
    .ret))), none⟩
def f_prog_each_api_Note : IFun := ⟨24, 4, true, [true, true, true], [.tmp 6],
 (.seq
  (.reg [o 3 (.box (some 4) (T 0) 0), o 6 (.mov (I 0))] false)
  (.seq
   (.seq
    (.reg [o 10 (.mov (T 1)), o 11 (.len (T 10)), o 12 (.mov (I 0))] false)
    (.block 0
     (.loop
      (.seq
       (.reg [o 13 (.bin .lss (T 12) (T 11))] false)
       (.seq
        (.cond (T 13)
         .skip
         (.exit 0))
        (.seq
         (.block 1
          (.seq
           (.reg [o 14 (.indexAddr 3 (T 10) (T 12)), o 15 (.load (some 3) (T 14)), o 8 (.box (some 3) (.c (.agg [(.int .i64 0), (.int .i64 0), .nils])) 1), u (.store (some 3) (T 8) (T 15))] false)
           (.seq
            (.reg [o 16 (.mov (T 2)), o 17 (.load (some 4) (T 3)), o 18 (.load (some 3) (T 8)), o 19 (.callv (T 16) [(T 17), (T 18)] 2), o 9 (.mov (T 19))] false)
            (.seq
             (.reg [o 20 (.mov (T 9)), o 21 (.bin .neq (T 20) (I 0))] false)
             (.cond (T 21)
              (.seq
               (.reg [o 22 (.mov (T 9)), o 6 (.mov (T 22))] false)
               .ret)
              .skip)))))
         (.reg [o 23 (.bin .add (T 12) (I 1)), o 12 (.mov (T 23))] false)))))))
   (.seq
    (.reg [o 6 (.mov (I 0))] false)
    .ret))), none⟩
def f_prog_Note : IFun := ⟨36, 2, true, [true, true], [.tmp 4],
 (.seq
  (.reg [o 2 (.box (some 4) (T 0) 0), o 3 (.box (some 3) (T 1) 1), o 4 (.mov (I 0))] false)
  (.seq
   (.block 0
    (.seq
     (.seq
      (.reg [o 6 (.fieldAddr (T 3) 0), o 7 (.load none (T 6)), o 8 (.bin .lss (T 7) (I 0)), o 5 (.mov (T 8))] false)
      (.cond (T 5)
       .skip
       (.seq
        (.reg [o 9 (.fieldAddr (T 3) 0), o 10 (.load none (T 9)), o 11 (.fieldAddr (T 2) 1), o 12 (.load none (T 11)), o 13 (.len (T 12)), o 14 (.bin .geq (T 10) (T 13)), o 5 (.mov (T 14))] false)
        (.cond (T 5)
         .skip
         (.seq
          (.reg [o 15 (.fieldAddr (T 3) 1), o 16 (.load none (T 15)), o 17 (.bin .lss (T 16) (I 0)), o 5 (.mov (T 17))] false)
          (.cond (T 5)
           .skip
           (.reg [o 18 (.fieldAddr (T 3) 1), o 19 (.load none (T 18)), o 20 (.fieldAddr (T 2) 0), o 21 (.load none (T 20)), o 22 (.len (T 21)), o 23 (.bin .geq (T 19) (T 22)), o 5 (.mov (T 23))] false)))))))
     (.cond (T 5)
      (.seq
       (.reg [o 4 (.mov (I 7))] false)
       .ret)
      (.seq
       (.reg [⟨(some 25), .fieldAddr (T 3) 2, none, []⟩, ⟨(some 26), .load none (T 25), none, [0]⟩, ⟨(some 27), .len (T 26), none, [0, 1]⟩, ⟨(some 28), .fieldAddr (T 2) 0, none, []⟩, ⟨(some 29), .load none (T 28), none, [3]⟩, ⟨(some 30), .fieldAddr (T 3) 1, none, []⟩, ⟨(some 31), .load none (T 30), none, [5]⟩, ⟨(some 32), .indexAddr 2 (T 29) (T 31), none, [3, 4, 5, 6]⟩, ⟨(some 33), .fieldAddr (T 32) 0, none, [3, 4, 5, 6, 7]⟩, ⟨(some 34), .load none (T 33), none, [3, 4, 5, 6, 7, 8]⟩, ⟨(some 35), .bin .neq (T 27) (T 34), none, [0, 1, 2, 3, 4, 5, 6, 7, 8, 9]⟩, ⟨(some 24), .mov (T 35), none, [0, 1, 2, 3, 4, 5, 6, 7, 8, 9, 10]⟩] true)
       (.cond (T 24)
        (.seq
         (.reg [o 4 (.mov (I 1))] false)
         .ret)
        .skip)))))
   (.seq
    (.reg [o 4 (.mov (I 0))] false)
    .ret))), none⟩
def f_slices_Repeat_int_int : IFun := ⟨48, 1, false, [true, true], [.tmp 4],
 (.seq
  (.reg [o 4 (.mov (.c .nils))] false)
  (.seq
   (.seq
    (.reg [o 9 (.mov (T 1)), o 10 (.bin .lss (T 9) (I 0))] false)
    (.cond (T 10)
     (.reg [o 11 (.bad), u (.bad)] false)
     .skip))
   (.seq
    (.reg [o 13 (.mov (T 0)), o 14 (.len (T 13)), o 15 (.toInt .u64 (T 14)), o 16 (.mov (T 1)), o 17 (.toInt .u64 (T 16)), o 18 (.call 177 [(T 15), (T 17)] 0), o 12 (.mov (T 18)), o 19 (.extract (T 12) 0), o 20 (.extract (T 12) 1), o 5 (.mov (T 19)), o 6 (.mov (T 20))] false)
    (.seq
     (.seq
      (.reg [o 21 (.mov (T 5)), o 22 (.bin .gtr (T 21) (.c (.int .u64 0))), o 23 (.mov (T 22)), og (some 24) (.mov (T 6)) 23 false, og (some 25) (.bin .gtr (T 24) (.c (.int .u64 9223372036854775807))) 23 false, o 26 (.pick (T 23) (.c (.bool true)) (T 25))] false)
      (.cond (T 26)
       (.reg [o 27 (.bad), u (.bad)] false)
       .skip))
     (.seq
      (.reg [o 28 (.mov (T 6)), o 29 (.toInt .i64 (T 28)), o 30 (.mkslice 1 (.int .i64 0) (T 29) 0), o 7 (.mov (T 30))] false)
      (.seq
       (.reg [o 31 (.mov (T 7)), o 32 (.mov (T 0)), o 33 (.copy 1 (T 31) (T 32)), o 8 (.mov (T 33))] false)
       (.seq
        (.block 0
         (.loop
          (.seq
           (.seq
            (.reg [o 34 (.mov (T 8)), o 35 (.mov (T 7)), o 36 (.len (T 35)), o 37 (.bin .lss (T 34) (T 36))] false)
            (.cond (T 37)
             .skip
             (.exit 0)))
           (.block 1
            (.reg [⟨(some 38), .mov (T 8), none, []⟩, ⟨(some 39), .mov (T 7), none, []⟩, ⟨(some 40), .mov (T 8), none, []⟩, ⟨(some 41), .slice 1 (T 39) (some (T 40)) none none, none, [1, 2]⟩, ⟨(some 42), .mov (T 7), none, []⟩, ⟨(some 43), .mov (T 8), none, []⟩, ⟨(some 44), .slice 1 (T 42) none (some (T 43)) none, none, [4, 5]⟩, ⟨(some 45), .copy 1 (T 41) (T 44), none, [1, 2, 3, 4, 5, 6]⟩, ⟨(some 46), .bin .add (T 38) (T 45), none, [0, 1, 2, 3, 4, 5, 6, 7]⟩, ⟨(some 8), .mov (T 46), none, [0, 1, 2, 3, 4, 5, 6, 7, 8]⟩] true)))))
        (.seq
         (.reg [o 47 (.mov (T 7)), o 4 (.mov (T 47))] false)
         .ret)))))))), none⟩
def f_flow_takes : IFun := ⟨22, 2, true, [true, true], [.tmp 4],
 (.seq
  (.reg [o 2 (.box (some 4) (T 0) 0), o 3 (.box (some 2) (T 1) 1), o 4 (.mov (I 0))] false)
  (.seq
   (.reg [o 6 (.fieldAddr (T 3) 0), o 7 (.load none (T 6)), o 8 (.call 178 [(T 7)] 2), o 5 (.mov (T 8))] false)
   (.seq
    (.seq
     (.reg [o 9 (.fieldAddr (T 3) 0), o 10 (.load none (T 9)), o 11 (.bin .eql (T 10) (I 22))] false)
     (.cond (T 11)
      (.reg [o 12 (.mov (T 5)), o 13 (.fieldAddr (T 2) 0), o 14 (.load none (T 13)), o 15 (.fieldAddr (T 3) 1), o 16 (.load none (T 15)), o 17 (.indexAddr 2 (T 14) (T 16)), o 18 (.fieldAddr (T 17) 0), o 19 (.load none (T 18)), o 20 (.bin .add (T 12) (T 19)), o 5 (.mov (T 20))] false)
      .skip))
    (.seq
     (.reg [o 21 (.mov (T 5)), o 4 (.mov (T 21))] false)
     .ret)))), none⟩
def f_ops_Puts : IFun := ⟨23, 0, true, [true], [.tmp 2],
 (.seq
  (.reg [o 2 (.mov (I 0))] false)
  (.seq
   (.block 0
    (.seq
     (.seq
      (.reg [o 4 (.mov (T 0)), o 5 (.bin .eql (T 4) (I 3)), o 3 (.mov (T 5))] false)
      (.cond (T 3)
       .skip
       (.reg [o 6 (.mov (T 0)), o 7 (.bin .eql (T 6) (I 4)), o 3 (.mov (T 7))] false)))
     (.cond (T 3)
      (.seq
       (.reg [o 2 (.mov (I 2))] false)
       .ret)
      (.seq
       (.seq
        (.reg [o 9 (.mov (T 0)), o 10 (.bin .eql (T 9) (I 1)), o 8 (.mov (T 10))] false)
        (.cond (T 8)
         .skip
         (.seq
          (.reg [o 11 (.mov (T 0)), o 12 (.bin .eql (T 11) (I 5)), o 8 (.mov (T 12))] false)
          (.cond (T 8)
           .skip
           (.seq
            (.reg [o 13 (.mov (T 0)), o 14 (.bin .eql (T 13) (I 7)), o 8 (.mov (T 14))] false)
            (.cond (T 8)
             .skip
             (.seq
              (.reg [o 15 (.mov (T 0)), o 16 (.bin .eql (T 15) (I 8)), o 8 (.mov (T 16))] false)
              (.cond (T 8)
               .skip
               (.reg [o 17 (.mov (T 0)), o 18 (.bin .geq (T 17) (I 9)), o 19 (.mov (T 18)), og (some 20) (.mov (T 0)) 19 true, og (some 21) (.bin .leq (T 20) (I 19)) 19 true, o 22 (.pick (T 19) (T 21) (.c (.bool false))), o 8 (.mov (T 22))] false)))))))))
       (.cond (T 8)
        (.seq
         (.reg [o 2 (.mov (I 1))] false)
         .ret)
        .skip)))))
   (.seq
    (.reg [o 2 (.mov (I 0))] false)
    .ret))), none⟩
def f_flow_next : IFun := ⟨24, 4, true, [true, true], [.tmp 4],
 (.seq
  (.reg [o 3 (.box (some 2) (T 1) 0), o 4 (.mov (.c .nils))] false)
  (.seq
   (.seq
    (.reg [o 5 (.fieldAddr (T 3) 0), o 6 (.load none (T 5))] false)
    (.block 0
     (.seq
      (.reg [o 8 (.bin .eql (T 6) (I 20)), o 7 (.mov (T 8))] false)
      (.cond (T 7)
       (.seq
        (.reg [o 9 (.fieldAddr (T 3) 1), o 10 (.load none (T 9)), o 11 (.buildSlice none [(T 10)] 1), o 4 (.mov (T 11))] false)
        .ret)
       (.seq
        (.reg [o 13 (.bin .eql (T 6) (I 21)), o 12 (.mov (T 13))] false)
        (.cond (T 12)
         (.seq
          (.reg [o 14 (.fieldAddr (T 3) 1), o 15 (.load none (T 14)), o 16 (.mov (T 0)), o 17 (.bin .add (T 16) (I 1)), o 18 (.buildSlice none [(T 15), (T 17)] 2), o 4 (.mov (T 18))] false)
          .ret)
         (.seq
          (.reg [o 20 (.bin .eql (T 6) (I 25)), o 19 (.mov (T 20))] false)
          (.cond (T 19)
           (.seq
            (.reg [o 4 (.mov (.c .nils))] false)
            .ret)
           .skip))))))))
   (.seq
    (.reg [o 21 (.mov (T 0)), o 22 (.bin .add (T 21) (I 1)), o 23 (.buildSlice none [(T 22)] 3), o 4 (.mov (T 23))] false)
    .ret))), none⟩
def f_prog_CopyNote : IFun := ⟨8, 3, true, [true], [.cell (some 3) 2],
 (.seq
  (.reg [o 1 (.box (some 3) (T 0) 0), o 2 (.box (some 3) (.c (.agg [(.int .i64 0), (.int .i64 0), .nils])) 1)] false)
  (.seq
   (.reg [o 3 (.fieldAddr (T 1) 2), o 4 (.load none (T 3)), o 5 (.call 105 [(T 4)] 2), o 6 (.fieldAddr (T 1) 2), u (.store none (T 6) (T 5))] false)
   (.seq
    (.reg [o 7 (.load (some 3) (T 1)), u (.store (some 3) (T 2) (T 7))] false)
    .ret))), none⟩
def f_ident_Less : IFun := ⟨9, 2, true, [true, true], [.tmp 4],
 (.seq
  (.reg [o 2 (.box (some 3) (T 0) 0), o 3 (.box (some 3) (T 1) 1), o 4 (.mov (.c (.bool false)))] false)
  (.seq
   (.reg [o 5 (.load (some 3) (T 2)), o 6 (.load (some 3) (T 3)), o 7 (.call 96 [(T 5), (T 6)] 2), o 8 (.bin .lss (T 7) (I 0)), o 4 (.mov (T 8))] false)
   .ret)), none⟩
def f_mail_Put_1 : IFun := ⟨10, 1, true, [], [.tmp 3],
 (.seq
  (.reg [o 2 (.box (some 6) (T 0) 0), o 3 (.mov (.c (.bool false)))] false)
  (.seq
   (.reg [o 4 (.fieldAddr (T 2) 0), o 5 (.load (some 3) (T 4)), o 6 (.fieldAddr (T 1) 0), o 7 (.load (some 3) (T 6)), o 8 (.call 75 [(T 5), (T 7)] 1), o 9 (.un .not (T 8)), o 3 (.mov (T 9))] false)
   .ret)), none⟩
def f_slices_Insert_api_Message_api_Message : IFun := ⟨95, 2, false, [], [.tmp 6],
 (.seq
  (.reg [o 6 (.mov (.c .nils))] false)
  (.seq
   (.reg [o 10 (.mov (T 0)), o 11 (.mov (T 1)), o 12 (.slice 6 (T 10) (some (T 11)) none none)] false)
   (.seq
    (.reg [o 13 (.mov (T 2)), o 14 (.len (T 13)), o 7 (.mov (T 14))] false)
    (.seq
     (.seq
      (.reg [o 15 (.mov (T 7)), o 16 (.bin .eql (T 15) (I 0))] false)
      (.cond (T 16)
       (.seq
        (.reg [o 17 (.mov (T 0)), o 6 (.mov (T 17))] false)
        .ret)
       .skip))
     (.seq
      (.reg [o 18 (.mov (T 0)), o 19 (.len (T 18)), o 8 (.mov (T 19))] false)
      (.seq
       (.seq
        (.reg [o 20 (.mov (T 1)), o 21 (.mov (T 8)), o 22 (.bin .eql (T 20) (T 21))] false)
        (.cond (T 22)
         (.seq
          (.reg [o 23 (.mov (T 0)), o 24 (.mov (T 2)), o 25 (.append 6 (T 23) (T 24) 0), o 6 (.mov (T 25))] false)
          .ret)
         .skip))
       (.seq
        (.seq
         (.reg [o 26 (.mov (T 8)), o 27 (.mov (T 7)), o 28 (.bin .add (T 26) (T 27)), o 29 (.mov (T 0)), o 30 (.bad), o 31 (.bin .gtr (T 28) (T 30))] false)
         (.cond (T 31)
          (.seq
           (.reg [o 32 (.mov (T 0)), o 33 (.mov (T 1)), o 34 (.slice 6 (T 32) none (some (T 33)) none), o 35 (.mov (T 8)), o 36 (.mov (T 7)), o 37 (.bin .add (T 35) (T 36)), o 38 (.mov (T 1)), o 39 (.bin .sub (T 37) (T 38)), o 40 (.bad), o 9 (.mov (T 40))] false)
           (.seq
            (.reg [o 41 (.mov (T 9)), o 42 (.mov (T 1)), o 43 (.slice 6 (T 41) (some (T 42)) none none), o 44 (.mov (T 2)), o 45 (.copy 6 (T 43) (T 44))] false)
            (.seq
             (.reg [⟨(some 46), .mov (T 9), none, []⟩, ⟨(some 47), .mov (T 1), none, []⟩, ⟨(some 48), .mov (T 7), none, []⟩, ⟨(some 49), .bin .add (T 47) (T 48), none, [1, 2]⟩, ⟨(some 50), .slice 6 (T 46) (some (T 49)) none none, none, [0, 1, 2, 3]⟩, ⟨(some 51), .mov (T 0), none, []⟩, ⟨(some 52), .mov (T 1), none, []⟩, ⟨(some 53), .slice 6 (T 51) (some (T 52)) none none, none, [5, 6]⟩, ⟨(some 54), .copy 6 (T 50) (T 53), none, [0, 1, 2, 3, 4, 5, 6, 7]⟩] true)
             (.seq
              (.reg [o 55 (.mov (T 9)), o 6 (.mov (T 55))] false)
              .ret))))
          .skip))
        (.seq
         (.reg [o 56 (.mov (T 0)), o 57 (.mov (T 8)), o 58 (.mov (T 7)), o 59 (.bin .add (T 57) (T 58)), o 60 (.slice 6 (T 56) none (some (T 59)) none), o 0 (.mov (T 60))] false)
         (.seq
          (.seq
           (.reg [o 61 (.mov (T 2)), o 62 (.mov (T 0)), o 63 (.mov (T 1)), o 64 (.mov (T 7)), o 65 (.bin .add (T 63) (T 64)), o 66 (.slice 6 (T 62) (some (T 65)) none none), o 67 (.call 97 [(T 61), (T 66)] 1), o 68 (.un .not (T 67))] false)
           (.cond (T 68)
            (.seq
             (.reg [⟨(some 69), .mov (T 0), none, []⟩, ⟨(some 70), .mov (T 1), none, []⟩, ⟨(some 71), .mov (T 7), none, []⟩, ⟨(some 72), .bin .add (T 70) (T 71), none, [1, 2]⟩, ⟨(some 73), .slice 6 (T 69) (some (T 72)) none none, none, [0, 1, 2, 3]⟩, ⟨(some 74), .mov (T 0), none, []⟩, ⟨(some 75), .mov (T 1), none, []⟩, ⟨(some 76), .slice 6 (T 74) (some (T 75)) none none, none, [5, 6]⟩, ⟨(some 77), .copy 6 (T 73) (T 76), none, [0, 1, 2, 3, 4, 5, 6, 7]⟩] true)
             (.seq
              (.reg [o 78 (.mov (T 0)), o 79 (.mov (T 1)), o 80 (.slice 6 (T 78) (some (T 79)) none none), o 81 (.mov (T 2)), o 82 (.copy 6 (T 80) (T 81))] false)
              (.seq
               (.reg [o 83 (.mov (T 0)), o 6 (.mov (T 83))] false)
               .ret)))
            .skip))
          (.seq
           (.reg [o 84 (.mov (T 0)), o 85 (.mov (T 8)), o 86 (.slice 6 (T 84) (some (T 85)) none none), o 87 (.mov (T 2)), o 88 (.copy 6 (T 86) (T 87))] false)
           (.seq
            (.reg [o 89 (.mov (T 0)), o 90 (.mov (T 1)), o 91 (.slice 6 (T 89) (some (T 90)) none none), o 92 (.mov (T 7)), o 93 (.call 98 [(T 91), (T 92)] 1)] false)
            (.seq
             (.reg [o 94 (.mov (T 0)), o 6 (.mov (T 94))] false)
             .ret)))))))))))), none⟩
def f_vm_machine_push : IFun := ⟨13, 1, true, [true, true], [],
 (.reg [o 4 (.mov (T 0)), o 5 (.mov (T 0)), o 6 (.nilchk (T 5)), o 7 (.fieldAddr (T 6) 11), o 8 (.load none (T 7)), o 9 (.mov (T 1)), o 10 (.append 1 (T 8) (T 9) 0), o 11 (.nilchk (T 4)), o 12 (.fieldAddr (T 11) 11), u (.store none (T 12) (T 10))] false), none⟩
def f_vm_machine_pop : IFun := ⟨31, 0, true, [true], [.tmp 2],
 (.seq
  (.reg [o 2 (.mov (I 0))] false)
  (.seq
   (.reg [⟨(some 4), .mov (T 0), none, []⟩, ⟨(some 5), .nilchk (T 4), none, [0]⟩, ⟨(some 6), .fieldAddr (T 5) 11, none, [0, 1]⟩, ⟨(some 7), .load none (T 6), none, [0, 1, 2]⟩, ⟨(some 8), .mov (T 0), none, []⟩, ⟨(some 9), .nilchk (T 8), none, [4]⟩, ⟨(some 10), .fieldAddr (T 9) 11, none, [4, 5]⟩, ⟨(some 11), .load none (T 10), none, [4, 5, 6]⟩, ⟨(some 12), .len (T 11), none, [4, 5, 6, 7]⟩, ⟨(some 13), .bin .sub (T 12) (I 1), none, [4, 5, 6, 7, 8]⟩, ⟨(some 14), .indexAddr 1 (T 7) (T 13), none, [0, 1, 2, 3, 4, 5, 6, 7, 8, 9]⟩, ⟨(some 15), .load none (T 14), none, [0, 1, 2, 3, 4, 5, 6, 7, 8, 9, 10]⟩, ⟨(some 3), .mov (T 15), none, [0, 1, 2, 3, 4, 5, 6, 7, 8, 9, 10, 11]⟩] true)
   (.seq
    (.reg [⟨(some 16), .mov (T 0), none, []⟩, ⟨(some 17), .mov (T 0), none, []⟩, ⟨(some 18), .nilchk (T 17), none, [1]⟩, ⟨(some 19), .fieldAddr (T 18) 11, none, [1, 2]⟩, ⟨(some 20), .load none (T 19), none, [1, 2, 3]⟩, ⟨(some 21), .mov (T 0), none, []⟩, ⟨(some 22), .nilchk (T 21), none, [5]⟩, ⟨(some 23), .fieldAddr (T 22) 11, none, [5, 6]⟩, ⟨(some 24), .load none (T 23), none, [5, 6, 7]⟩, ⟨(some 25), .len (T 24), none, [5, 6, 7, 8]⟩, ⟨(some 26), .bin .sub (T 25) (I 1), none, [5, 6, 7, 8, 9]⟩, ⟨(some 27), .slice 1 (T 20) none (some (T 26)) none, none, [1, 2, 3, 4, 5, 6, 7, 8, 9, 10]⟩, ⟨(some 28), .nilchk (T 16), none, [0, 1, 2, 3, 4, 5, 6, 7, 8, 9, 10, 11]⟩, ⟨(some 29), .fieldAddr (T 28) 11, none, [0, 1, 2, 3, 4, 5, 6, 7, 8, 9, 10, 11, 12]⟩, ⟨none, .store none (T 29) (T 27), none, [0, 1, 2, 3, 4, 5, 6, 7, 8, 9, 10, 11, 12, 13]⟩] true)
    (.seq
     (.reg [o 30 (.mov (T 3)), o 2 (.mov (T 30))] false)
     .ret)))), none⟩
def f_vm_machine_register : IFun := ⟨54, 31, true, [true, true], [],
 (.seq
  (.reg [o 3 (.box (some 2) (T 1) 0)] false)
  (.seq
   (.reg [⟨(some 5), .fieldAddr (T 3) 1, none, []⟩, ⟨(some 6), .load none (T 5), none, [0]⟩, ⟨(some 7), .mov (T 0), none, []⟩, ⟨(some 8), .nilchk (T 7), none, [2]⟩, ⟨(some 9), .fieldAddr (T 8) 6, none, [2, 3]⟩, ⟨(some 10), .fieldAddr (T 9) 0, none, [2, 3, 4]⟩, ⟨(some 11), .load none (T 10), none, [2, 3, 4, 5]⟩, ⟨(some 12), .len (T 11), none, [2, 3, 4, 5, 6]⟩, ⟨(some 13), .bin .lss (T 6) (T 12), none, [0, 1, 2, 3, 4, 5, 6, 7]⟩, ⟨(some 4), .mov (T 13), none, [0, 1, 2, 3, 4, 5, 6, 7, 8]⟩] true)
   (.block 0
    (.seq
     (.reg [o 18 (.fieldAddr (T 3) 0), o 19 (.load none (T 18)), o 20 (.bin .eql (T 19) (I 6)), o 21 (.mov (T 20)), og (some 22) (.mov (T 4)) 21 true, o 23 (.pick (T 21) (T 22) (.c (.bool false))), o 17 (.mov (T 23))] false)
     (.cond (T 17)
      (.reg [⟨(some 24), .mov (T 0), none, []⟩, ⟨(some 25), .nilchk (T 24), none, [0]⟩, ⟨(some 26), .fieldAddr (T 25) 6, none, [0, 1]⟩, ⟨(some 27), .fieldAddr (T 26) 0, none, [0, 1, 2]⟩, ⟨(some 28), .load none (T 27), none, [0, 1, 2, 3]⟩, ⟨(some 29), .fieldAddr (T 3) 1, none, []⟩, ⟨(some 30), .load none (T 29), none, [5]⟩, ⟨(some 31), .mov (T 0), none, []⟩, ⟨(some 32), .callD 185 [(T 31)] 1 6, none, [7]⟩, ⟨(some 33), .indexAddr 1 (T 28) (T 30), none, [0, 1, 2, 3, 4, 5, 6, 7, 8]⟩, ⟨none, .store none (T 33) (T 32), none, [0, 1, 2, 3, 4, 5, 6, 7, 8, 9]⟩] true)
      (.seq
       (.reg [o 35 (.fieldAddr (T 3) 0), o 36 (.load none (T 35)), o 37 (.bin .eql (T 36) (I 6)), o 34 (.mov (T 37))] false)
       (.cond (T 34)
        (.reg [o 38 (.mov (T 0)), o 39 (.callD 185 [(T 38)] 8 6)] false)
        (.seq
         (.reg [o 41 (.mov (T 4)), o 40 (.mov (T 41))] false)
         (.cond (T 40)
          (.reg [⟨(some 42), .mov (T 0), none, []⟩, ⟨(some 43), .mov (T 0), none, []⟩, ⟨(some 44), .nilchk (T 43), none, [1]⟩, ⟨(some 45), .fieldAddr (T 44) 6, none, [1, 2]⟩, ⟨(some 46), .fieldAddr (T 45) 0, none, [1, 2, 3]⟩, ⟨(some 47), .load none (T 46), none, [1, 2, 3, 4]⟩, ⟨(some 48), .fieldAddr (T 3) 1, none, []⟩, ⟨(some 49), .load none (T 48), none, [6]⟩, ⟨(some 50), .indexAddr 1 (T 47) (T 49), none, [1, 2, 3, 4, 5, 6, 7]⟩, ⟨(some 51), .load none (T 50), none, [1, 2, 3, 4, 5, 6, 7, 8]⟩, ⟨(some 52), .buildSlice none [(T 51)] 15, none, [1, 2, 3, 4, 5, 6, 7, 8, 9]⟩, ⟨(some 53), .callD 184 [(T 42), (T 52)] 16 6, none, [0, 1, 2, 3, 4, 5, 6, 7, 8, 9, 10]⟩] true)
          (.reg [o 14 (.mov (T 0)), o 15 (.buildSlice none [(I 0)] 23), o 16 (.callD 184 [(T 14), (T 15)] 24 6)] false)))))))))), none⟩
def f_vm_machine_send : IFun := ⟨64, 10, true, [true, true], [.tmp 4],
 (.seq
  (.reg [o 4 (.mov (I 0))] false)
  (.seq
   (.reg [o 7 (.mov (T 0)), o 8 (.callD 185 [(T 7)] 0 6), o 5 (.mov (T 8))] false)
   (.seq
    (.seq
     (.reg [o 9 (.mov (T 5)), o 10 (.bin .lss (T 9) (I 0)), o 11 (.mov (T 10)), og (some 12) (.mov (T 5)) 11 false, og (some 13) (.mov (T 0)) 11 false, og (some 14) (.nilchk (T 13)) 11 false, og (some 15) (.fieldAddr (T 14) 0) 11 false, og (some 16) (.fieldAddr (T 15) 1) 11 false, og (some 17) (.load none (T 16)) 11 false, og (some 18) (.len (T 17)) 11 false, og (some 19) (.bin .geq (T 12) (T 18)) 11 false, o 20 (.pick (T 11) (.c (.bool true)) (T 19))] false)
     (.cond (T 20)
      (.seq
       (.reg [o 4 (.mov (I 4))] false)
       .ret)
      .skip))
    (.seq
     (.reg [⟨(some 21), .mov (T 0), none, []⟩, ⟨(some 22), .nilchk (T 21), none, [0]⟩, ⟨(some 23), .fieldAddr (T 22) 11, none, [0, 1]⟩, ⟨(some 24), .load none (T 23), none, [0, 1, 2]⟩, ⟨(some 25), .len (T 24), none, [0, 1, 2, 3]⟩, ⟨(some 26), .mov (T 0), none, []⟩, ⟨(some 27), .nilchk (T 26), none, [5]⟩, ⟨(some 28), .fieldAddr (T 27) 0, none, [5, 6]⟩, ⟨(some 29), .fieldAddr (T 28) 0, none, [5, 6, 7]⟩, ⟨(some 30), .load none (T 29), none, [5, 6, 7, 8]⟩, ⟨(some 31), .mov (T 1), none, []⟩, ⟨(some 32), .indexAddr 2 (T 30) (T 31), none, [5, 6, 7, 8, 9, 10]⟩, ⟨(some 33), .fieldAddr (T 32) 0, none, [5, 6, 7, 8, 9, 10, 11]⟩, ⟨(some 34), .load none (T 33), none, [5, 6, 7, 8, 9, 10, 11, 12]⟩, ⟨(some 35), .bin .sub (T 25) (T 34), none, [0, 1, 2, 3, 4, 5, 6, 7, 8, 9, 10, 11, 12, 13]⟩, ⟨(some 6), .mov (T 35), none, [0, 1, 2, 3, 4, 5, 6, 7, 8, 9, 10, 11, 12, 13, 14]⟩] true)
     (.seq
      (.reg [⟨(some 36), .mov (T 0), none, []⟩, ⟨(some 37), .mov (T 0), none, []⟩, ⟨(some 38), .nilchk (T 37), none, [1]⟩, ⟨(some 39), .fieldAddr (T 38) 12, none, [1, 2]⟩, ⟨(some 40), .load none (T 39), none, [1, 2, 3]⟩, ⟨(some 41), .mov (T 5), none, []⟩, ⟨(some 42), .mov (T 1), none, []⟩, ⟨(some 43), .mov (T 0), none, []⟩, ⟨(some 44), .nilchk (T 43), none, [7]⟩, ⟨(some 45), .fieldAddr (T 44) 11, none, [7, 8]⟩, ⟨(some 46), .load none (T 45), none, [7, 8, 9]⟩, ⟨(some 47), .mov (T 6), none, []⟩, ⟨(some 48), .slice 1 (T 46) (some (T 47)) none none, none, [7, 8, 9, 10, 11]⟩, ⟨(some 49), .call 105 [(T 48)] 7, none, [7, 8, 9, 10, 11, 12]⟩, ⟨(some 50), .build [(.int .i64 0), (.int .i64 0), .nils] [(0, none, (T 41)), (1, none, (T 42)), (2, none, (T 49))], none, [5, 6, 7, 8, 9, 10, 11, 12, 13]⟩, ⟨(some 51), .buildSlice (some 3) [(T 50)] 8, none, [5, 6, 7, 8, 9, 10, 11, 12, 13, 14]⟩, ⟨(some 52), .append 3 (T 40) (T 51) 9, none, [1, 2, 3, 4, 5, 6, 7, 8, 9, 10, 11, 12, 13, 14, 15]⟩, ⟨(some 53), .nilchk (T 36), none, [0, 1, 2, 3, 4, 5, 6, 7, 8, 9, 10, 11, 12, 13, 14, 15, 16]⟩, ⟨(some 54), .fieldAddr (T 53) 12, none, [0, 1, 2, 3, 4, 5, 6, 7, 8, 9, 10, 11, 12, 13, 14, 15, 16, 17]⟩, ⟨none, .store none (T 54) (T 52), none, [0, 1, 2, 3, 4, 5, 6, 7, 8, 9, 10, 11, 12, 13, 14, 15, 16, 17, 18]⟩] true)
      (.seq
       (.reg [o 55 (.mov (T 0)), o 56 (.mov (T 0)), o 57 (.nilchk (T 56)), o 58 (.fieldAddr (T 57) 11), o 59 (.load none (T 58)), o 60 (.mov (T 6)), o 61 (.slice 1 (T 59) none (some (T 60)) none), o 62 (.nilchk (T 55)), o 63 (.fieldAddr (T 62) 11), u (.store none (T 63) (T 61))] false)
       (.seq
        (.reg [o 4 (.mov (I 0))] false)
        .ret))))))), none⟩
def f_vm_machine_count : IFun := ⟨36, 30, true, [true, true], [.tmp 4],
 (.seq
  (.reg [o 4 (.mov (I 0))] false)
  (.seq
   (.reg [o 10 (.mov (T 0)), o 11 (.callD 185 [(T 10)] 0 6), o 5 (.mov (T 11))] false)
   (.seq
    (.seq
     (.reg [o 13 (.mov (T 1)), o 14 (.mov (T 5)), o 15 (.call 194 [(T 13), (T 14)] 7), o 12 (.mov (T 15)), o 16 (.extract (T 12) 0), o 17 (.extract (T 12) 1), o 6 (.mov (T 16)), o 7 (.mov (T 17))] false)
     (.seq
      (.reg [o 18 (.mov (T 7))] false)
      (.cond (T 18)
       (.seq
        (.reg [o 19 (.mov (T 0)), o 20 (.mov (T 6)), o 21 (.buildSlice none [(T 20)] 7), o 22 (.callD 184 [(T 19), (T 21)] 8 6)] false)
        (.seq
         (.reg [o 4 (.mov (I 0))] false)
         .ret))
       .skip)))
    (.seq
     (.reg [o 24 (.mov (T 1)), o 25 (.mov (T 0)), o 26 (.callD 185 [(T 25)] 15 6), o 27 (.mov (T 5)), o 28 (.call 195 [(T 24), (T 26), (T 27)] 22), o 23 (.mov (T 28)), o 29 (.extract (T 23) 0), o 30 (.extract (T 23) 1), o 8 (.mov (T 29)), o 9 (.mov (T 30))] false)
     (.seq
      (.reg [o 31 (.mov (T 0)), o 32 (.mov (T 8)), o 33 (.buildSlice none [(T 32)] 22), o 34 (.callD 184 [(T 31), (T 33)] 23 6)] false)
      (.seq
       (.reg [o 35 (.mov (T 9)), o 4 (.mov (T 35))] false)
       .ret)))))), none⟩
def f_slices_siftDownCmpFunc_api_Event : IFun := ⟨82, 4, true, [], [],
 (.seq
  (.reg [o 12 (.mov (T 1)), o 10 (.mov (T 12))] false)
  (.block 0
   (.loop
    (.block 1
     (.seq
      (.reg [o 13 (.mov (T 10)), o 14 (.bin .mul (I 2) (T 13)), o 15 (.bin .add (T 14) (I 1)), o 11 (.mov (T 15))] false)
      (.seq
       (.seq
        (.reg [o 16 (.mov (T 11)), o 17 (.mov (T 2)), o 18 (.bin .geq (T 16) (T 17))] false)
        (.cond (T 18)
         (.exit 0)
         .skip))
       (.seq
        (.seq
         (.reg [⟨(some 19), .mov (T 11), none, []⟩, ⟨(some 20), .bin .add (T 19) (I 1), none, [0]⟩, ⟨(some 21), .mov (T 2), none, []⟩, ⟨(some 22), .bin .lss (T 20) (T 21), none, [0, 1, 2]⟩, ⟨(some 23), .mov (T 22), none, [0, 1, 2, 3]⟩, ⟨(some 24), .mov (T 4), (some (23, true)), [0, 1, 2, 3, 4]⟩, ⟨(some 25), .mov (T 0), (some (23, true)), [0, 1, 2, 3, 4]⟩, ⟨(some 26), .mov (T 3), (some (23, true)), [0, 1, 2, 3, 4]⟩, ⟨(some 27), .mov (T 11), (some (23, true)), [0, 1, 2, 3, 4]⟩, ⟨(some 28), .bin .add (T 26) (T 27), (some (23, true)), [0, 1, 2, 3, 4, 7, 8]⟩, ⟨(some 29), .indexAddr 5 (T 25) (T 28), (some (23, true)), [0, 1, 2, 3, 4, 6, 7, 8, 9]⟩, ⟨(some 30), .load (some 5) (T 29), (some (23, true)), [0, 1, 2, 3, 4, 6, 7, 8, 9, 10]⟩, ⟨(some 31), .mov (T 0), (some (23, true)), [0, 1, 2, 3, 4]⟩, ⟨(some 32), .mov (T 3), (some (23, true)), [0, 1, 2, 3, 4]⟩, ⟨(some 33), .mov (T 11), (some (23, true)), [0, 1, 2, 3, 4]⟩, ⟨(some 34), .bin .add (T 32) (T 33), (some (23, true)), [0, 1, 2, 3, 4, 13, 14]⟩, ⟨(some 35), .bin .add (T 34) (I 1), (some (23, true)), [0, 1, 2, 3, 4, 13, 14, 15]⟩, ⟨(some 36), .indexAddr 5 (T 31) (T 35), (some (23, true)), [0, 1, 2, 3, 4, 12, 13, 14, 15, 16]⟩, ⟨(some 37), .load (some 5) (T 36), (some (23, true)), [0, 1, 2, 3, 4, 12, 13, 14, 15, 16, 17]⟩, ⟨(some 38), .callv (T 24) [(T 30), (T 37)] 0, (some (23, true)), [0, 1, 2, 3, 4, 5, 6, 7, 8, 9, 10, 11, 12, 13, 14, 15, 16, 17, 18]⟩, ⟨(some 39), .bin .lss (T 38) (I 0), (some (23, true)), [0, 1, 2, 3, 4, 5, 6, 7, 8, 9, 10, 11, 12, 13, 14, 15, 16, 17, 18, 19]⟩, ⟨(some 40), .pick (T 23) (T 39) (.c (.bool false)), none, [0, 1, 2, 3, 4, 5, 6, 7, 8, 9, 10, 11, 12, 13, 14, 15, 16, 17, 18, 19, 20]⟩] true)
         (.cond (T 40)
          (.reg [o 41 (.mov (T 11)), o 42 (.bin .add (T 41) (I 1)), o 11 (.mov (T 42))] false)
          .skip))
        (.seq
         (.seq
          (.reg [⟨(some 43), .mov (T 4), none, []⟩, ⟨(some 44), .mov (T 0), none, []⟩, ⟨(some 45), .mov (T 3), none, []⟩, ⟨(some 46), .mov (T 10), none, []⟩, ⟨(some 47), .bin .add (T 45) (T 46), none, [2, 3]⟩, ⟨(some 48), .indexAddr 5 (T 44) (T 47), none, [1, 2, 3, 4]⟩, ⟨(some 49), .load (some 5) (T 48), none, [1, 2, 3, 4, 5]⟩, ⟨(some 50), .mov (T 0), none, []⟩, ⟨(some 51), .mov (T 3), none, []⟩, ⟨(some 52), .mov (T 11), none, []⟩, ⟨(some 53), .bin .add (T 51) (T 52), none, [8, 9]⟩, ⟨(some 54), .indexAddr 5 (T 50) (T 53), none, [7, 8, 9, 10]⟩, ⟨(some 55), .load (some 5) (T 54), none, [7, 8, 9, 10, 11]⟩, ⟨(some 56), .callv (T 43) [(T 49), (T 55)] 2, none, [0, 1, 2, 3, 4, 5, 6, 7, 8, 9, 10, 11, 12]⟩, ⟨(some 57), .bin .lss (T 56) (I 0), none, [0, 1, 2, 3, 4, 5, 6, 7, 8, 9, 10, 11, 12, 13]⟩, ⟨(some 58), .un .not (T 57), none, [0, 1, 2, 3, 4, 5, 6, 7, 8, 9, 10, 11, 12, 13, 14]⟩] true)
          (.cond (T 58)
           .ret
           .skip))
         (.seq
          (.reg [⟨(some 59), .mov (T 0), none, []⟩, ⟨(some 60), .mov (T 3), none, []⟩, ⟨(some 61), .mov (T 10), none, []⟩, ⟨(some 62), .bin .add (T 60) (T 61), none, [1, 2]⟩, ⟨(some 63), .mov (T 0), none, []⟩, ⟨(some 64), .mov (T 3), none, []⟩, ⟨(some 65), .mov (T 11), none, []⟩, ⟨(some 66), .bin .add (T 64) (T 65), none, [5, 6]⟩, ⟨(some 67), .mov (T 0), none, []⟩, ⟨(some 68), .mov (T 3), none, []⟩, ⟨(some 69), .mov (T 11), none, []⟩, ⟨(some 70), .bin .add (T 68) (T 69), none, [9, 10]⟩, ⟨(some 71), .indexAddr 5 (T 67) (T 70), none, [8, 9, 10, 11]⟩, ⟨(some 72), .load (some 5) (T 71), none, [8, 9, 10, 11, 12]⟩, ⟨(some 73), .mov (T 0), none, []⟩, ⟨(some 74), .mov (T 3), none, []⟩, ⟨(some 75), .mov (T 10), none, []⟩, ⟨(some 76), .bin .add (T 74) (T 75), none, [15, 16]⟩, ⟨(some 77), .indexAddr 5 (T 73) (T 76), none, [14, 15, 16, 17]⟩, ⟨(some 78), .load (some 5) (T 77), none, [14, 15, 16, 17, 18]⟩, ⟨(some 79), .indexAddr 5 (T 59) (T 62), none, [0, 1, 2, 3, 8, 9, 10, 11, 12, 13, 14, 15, 16, 17, 18, 19]⟩, ⟨none, .store (some 5) (T 79) (T 72), none, [0, 1, 2, 3, 8, 9, 10, 11, 12, 13, 14, 15, 16, 17, 18, 19, 20]⟩, ⟨(some 80), .indexAddr 5 (T 63) (T 66), none, [0, 1, 2, 3, 4, 5, 6, 7, 8, 9, 10, 11, 12, 13, 14, 15, 16, 17, 18, 19, 20, 21]⟩, ⟨none, .store (some 5) (T 80) (T 78), none, [0, 1, 2, 3, 4, 5, 6, 7, 8, 9, 10, 11, 12, 13, 14, 15, 16, 17, 18, 19, 20, 21, 22]⟩] true)
          (.reg [o 81 (.mov (T 11)), o 10 (.mov (T 81))] false)))))))))), none⟩
def f_slices_nextPowerOfTwo : IFun := ⟨7, 0, true, [true], [.tmp 2],
 (.seq
  (.reg [o 2 (.mov (.c (.int .u64 0)))] false)
  (.seq
   (.reg [o 3 (.mov (T 0)), o 4 (.toInt .u64 (T 3)), o 5 (.call 148 [(T 4)] 0), o 6 (.bin .shl (.c (.int .u64 1)) (T 5)), o 2 (.mov (T 6))] false)
   .ret)), none⟩
def f_slices_xorshift_Next : IFun := ⟨33, 0, false, [true], [.tmp 2],
 (.seq
  (.reg [o 2 (.mov (.c (.int .u64 0)))] false)
  (.seq
   (.reg [⟨(some 3), .mov (T 0), none, []⟩, ⟨(some 4), .nilchk (T 3), none, [0]⟩, ⟨(some 5), .load none (T 4), none, [0, 1]⟩, ⟨(some 6), .mov (T 0), none, []⟩, ⟨(some 7), .nilchk (T 6), none, [3]⟩, ⟨(some 8), .load none (T 7), none, [3, 4]⟩, ⟨(some 9), .bin .shl (T 8) (.c (.int .u64 13)), none, [3, 4, 5]⟩, ⟨(some 10), .bin .xor (T 5) (T 9), none, [0, 1, 2, 3, 4, 5, 6]⟩, ⟨(some 11), .nilchk (T 3), none, [0, 1, 2, 3, 4, 5, 6, 7]⟩, ⟨none, .store none (T 11) (T 10), none, [0, 1, 2, 3, 4, 5, 6, 7, 8]⟩] true)
   (.seq
    (.reg [⟨(some 12), .mov (T 0), none, []⟩, ⟨(some 13), .nilchk (T 12), none, [0]⟩, ⟨(some 14), .load none (T 13), none, [0, 1]⟩, ⟨(some 15), .mov (T 0), none, []⟩, ⟨(some 16), .nilchk (T 15), none, [3]⟩, ⟨(some 17), .load none (T 16), none, [3, 4]⟩, ⟨(some 18), .bin .shr (T 17) (.c (.int .u64 7)), none, [3, 4, 5]⟩, ⟨(some 19), .bin .xor (T 14) (T 18), none, [0, 1, 2, 3, 4, 5, 6]⟩, ⟨(some 20), .nilchk (T 12), none, [0, 1, 2, 3, 4, 5, 6, 7]⟩, ⟨none, .store none (T 20) (T 19), none, [0, 1, 2, 3, 4, 5, 6, 7, 8]⟩] true)
    (.seq
     (.reg [⟨(some 21), .mov (T 0), none, []⟩, ⟨(some 22), .nilchk (T 21), none, [0]⟩, ⟨(some 23), .load none (T 22), none, [0, 1]⟩, ⟨(some 24), .mov (T 0), none, []⟩, ⟨(some 25), .nilchk (T 24), none, [3]⟩, ⟨(some 26), .load none (T 25), none, [3, 4]⟩, ⟨(some 27), .bin .shl (T 26) (.c (.int .u64 17)), none, [3, 4, 5]⟩, ⟨(some 28), .bin .xor (T 23) (T 27), none, [0, 1, 2, 3, 4, 5, 6]⟩, ⟨(some 29), .nilchk (T 21), none, [0, 1, 2, 3, 4, 5, 6, 7]⟩, ⟨none, .store none (T 29) (T 28), none, [0, 1, 2, 3, 4, 5, 6, 7, 8]⟩] true)
     (.seq
      (.reg [o 30 (.mov (T 0)), o 31 (.nilchk (T 30)), o 32 (.load none (T 31)), o 2 (.mov (T 32))] false)
      .ret))))), none⟩
def f_slices_medianAdjacentCmpFunc_api_Event : IFun := ⟨18, 0, true, [], [.tmp 8],
 (.seq
  (.reg [o 8 (.mov (I 0))] false)
  (.seq
   (.reg [o 9 (.mov (T 0)), o 10 (.mov (T 1)), o 11 (.bin .sub (T 10) (I 1)), o 12 (.mov (T 1)), o 13 (.mov (T 1)), o 14 (.bin .add (T 13) (I 1)), o 15 (.mov (T 2)), o 16 (.mov (T 3)), o 17 (.call 183 [(T 9), (T 11), (T 12), (T 14), (T 15), (T 16)] 0), o 8 (.mov (T 17))] false)
   .ret)), none⟩
def f_slices_medianCmpFunc_api_Event : IFun := ⟨41, 0, true, [], [.tmp 12],
 (.seq
  (.reg [o 12 (.mov (I 0))] false)
  (.seq
   (.reg [o 14 (.mov (T 0)), o 15 (.mov (T 1)), o 16 (.mov (T 2)), o 17 (.mov (T 4)), o 18 (.mov (T 5)), o 19 (.call 193 [(T 14), (T 15), (T 16), (T 17), (T 18)] 0), o 13 (.mov (T 19)), o 20 (.extract (T 13) 0), o 21 (.extract (T 13) 1), o 1 (.mov (T 20)), o 2 (.mov (T 21))] false)
   (.seq
    (.reg [o 23 (.mov (T 0)), o 24 (.mov (T 2)), o 25 (.mov (T 3)), o 26 (.mov (T 4)), o 27 (.mov (T 5)), o 28 (.call 193 [(T 23), (T 24), (T 25), (T 26), (T 27)] 0), o 22 (.mov (T 28)), o 29 (.extract (T 22) 0), o 30 (.extract (T 22) 1), o 2 (.mov (T 29)), o 3 (.mov (T 30))] false)
    (.seq
     (.reg [o 32 (.mov (T 0)), o 33 (.mov (T 1)), o 34 (.mov (T 2)), o 35 (.mov (T 4)), o 36 (.mov (T 5)), o 37 (.call 193 [(T 32), (T 33), (T 34), (T 35), (T 36)] 0), o 31 (.mov (T 37)), o 38 (.extract (T 31) 0), o 39 (.extract (T 31) 1), o 1 (.mov (T 38)), o 2 (.mov (T 39))] false)
     (.seq
      (.reg [o 40 (.mov (T 2)), o 12 (.mov (T 40))] false)
      .ret))))), none⟩
def f_prog_instr : IFun := ⟨82, 3, true, [true, true, true], [.tmp 6],
 (.seq
  (.reg [o 3 (.box (some 4) (T 0) 0), o 4 (.box (some 2) (T 1) 1), o 5 (.box (some 2) (T 2) 2), o 6 (.mov (I 0))] false)
  (.seq
   (.seq
    (.reg [o 8 (.fieldAddr (T 5) 0), o 9 (.load none (T 8)), o 10 (.call 189 [(T 9)] 3), o 7 (.mov (T 10))] false)
    (.block 0
     (.seq
      (.seq
       (.reg [o 12 (.fieldAddr (T 5) 0), o 13 (.load none (T 12)), o 14 (.call 190 [(T 13)] 3), o 15 (.un .not (T 14)), o 11 (.mov (T 15))] false)
       (.cond (T 11)
        .skip
        (.reg [o 16 (.mov (T 7)), o 17 (.bin .eql (T 16) (I 0)), o 18 (.mov (T 17)), og (some 19) (.fieldAddr (T 5) 1) 18 true, og (some 20) (.load none (T 19)) 18 true, og (some 21) (.bin .neq (T 20) (I 0)) 18 true, o 22 (.pick (T 18) (T 21) (.c (.bool false))), o 11 (.mov (T 22))] false)))
      (.cond (T 11)
       (.seq
        (.reg [o 6 (.mov (I 1))] false)
        .ret)
       (.seq
        (.reg [o 24 (.mov (T 7)), o 25 (.bin .eql (T 24) (I 4)), o 26 (.mov (T 25)), og (some 27) (.fieldAddr (T 5) 1) 26 true, og (some 28) (.load none (T 27)) 26 true, og (some 29) (.bin .lss (T 28) (I 0)) 26 true, og (some 30) (.mov (T 29)) 26 true, og (some 31) (.fieldAddr (T 5) 1) 30 false, og (some 32) (.load none (T 31)) 30 false, og (some 33) (.fieldAddr (T 4) 1) 30 false, og (some 34) (.load none (T 33)) 30 false, og (some 35) (.len (T 34)) 30 false, og (some 36) (.bin .gtr (T 32) (T 35)) 30 false, og (some 37) (.pick (T 30) (.c (.bool true)) (T 36)) 26 true, o 38 (.pick (T 26) (T 37) (.c (.bool false))), o 23 (.mov (T 38))] false)
        (.cond (T 23)
         (.seq
          (.reg [o 6 (.mov (I 4))] false)
          .ret)
         (.seq
          (.seq
           (.reg [o 40 (.mov (T 7)), o 41 (.bin .eql (T 40) (I 2)), o 42 (.mov (T 41)), og (some 43) (.fieldAddr (T 5) 1) 42 true, og (some 44) (.load none (T 43)) 42 true, og (some 45) (.bin .lss (T 44) (I 0)) 42 true, og (some 46) (.mov (T 45)) 42 true, og (some 47) (.fieldAddr (T 5) 1) 46 false, og (some 48) (.load none (T 47)) 46 false, og (some 49) (.bin .geq (T 48) (I 8)) 46 false, og (some 50) (.pick (T 46) (.c (.bool true)) (T 49)) 42 true, o 51 (.pick (T 42) (T 50) (.c (.bool false))), o 39 (.mov (T 51))] false)
           (.cond (T 39)
            .skip
            (.reg [o 52 (.mov (T 7)), o 53 (.bin .eql (T 52) (I 3)), o 54 (.mov (T 53)), og (some 55) (.fieldAddr (T 5) 1) 54 true, og (some 56) (.load none (T 55)) 54 true, og (some 57) (.bin .lss (T 56) (I 0)) 54 true, og (some 58) (.mov (T 57)) 54 true, og (some 59) (.fieldAddr (T 5) 1) 58 false, og (some 60) (.load none (T 59)) 58 false, og (some 61) (.fieldAddr (T 4) 0) 58 false, og (some 62) (.load none (T 61)) 58 false, og (some 63) (.bin .geq (T 60) (T 62)) 58 false, og (some 64) (.pick (T 58) (.c (.bool true)) (T 63)) 54 true, o 65 (.pick (T 54) (T 64) (.c (.bool false))), o 39 (.mov (T 65))] false)))
          (.cond (T 39)
           (.seq
            (.reg [o 6 (.mov (I 6))] false)
            .ret)
           (.seq
            (.reg [o 67 (.mov (T 7)), o 68 (.bin .eql (T 67) (I 5)), o 69 (.mov (T 68)), og (some 70) (.fieldAddr (T 5) 1) 69 true, og (some 71) (.load none (T 70)) 69 true, og (some 72) (.bin .lss (T 71) (I 0)) 69 true, og (some 73) (.mov (T 72)) 69 true, og (some 74) (.fieldAddr (T 5) 1) 73 false, og (some 75) (.load none (T 74)) 73 false, og (some 76) (.fieldAddr (T 3) 0) 73 false, og (some 77) (.load none (T 76)) 73 false, og (some 78) (.len (T 77)) 73 false, og (some 79) (.bin .geq (T 75) (T 78)) 73 false, og (some 80) (.pick (T 73) (.c (.bool true)) (T 79)) 69 true, o 81 (.pick (T 69) (T 80) (.c (.bool false))), o 66 (.mov (T 81))] false)
            (.cond (T 66)
             (.seq
              (.reg [o 6 (.mov (I 7))] false)
              .ret)
             .skip))))))))))
   (.seq
    (.reg [o 6 (.mov (I 0))] false)
    .ret))), none⟩
def f_math_bits_Mul : IFun := ⟨30, 0, true, [true, true], [.tmp 4, .tmp 5],
 (.seq
  (.reg [o 4 (.mov (.c (.int .u64 0))), o 5 (.mov (.c (.int .u64 0)))] false)
  (.seq
   (.cond (.c (.bool false))
    (.seq
     (.reg [o 11 (.mov (T 0)), o 12 (.toInt .u32 (T 11)), o 13 (.mov (T 1)), o 14 (.toInt .u32 (T 13)), o 15 (.call 191 [(T 12), (T 14)] 0), o 10 (.mov (T 15)), o 16 (.extract (T 10) 0), o 17 (.extract (T 10) 1), o 6 (.mov (T 16)), o 7 (.mov (T 17))] false)
     (.seq
      (.reg [o 18 (.mov (T 6)), o 19 (.toInt .u64 (T 18)), o 20 (.mov (T 7)), o 21 (.toInt .u64 (T 20)), o 4 (.mov (T 19)), o 5 (.mov (T 21))] false)
      .ret))
    .skip)
   (.seq
    (.reg [o 23 (.mov (T 0)), o 24 (.mov (T 1)), o 25 (.call 192 [(T 23), (T 24)] 0), o 22 (.mov (T 25)), o 26 (.extract (T 22) 0), o 27 (.extract (T 22) 1), o 8 (.mov (T 26)), o 9 (.mov (T 27))] false)
    (.seq
     (.reg [o 28 (.mov (T 8)), o 29 (.mov (T 9)), o 4 (.mov (T 28)), o 5 (.mov (T 29))] false)
     .ret)))), none⟩
def f_ops_Pops : IFun := ⟨33, 0, true, [true], [.tmp 2],
 (.seq
  (.reg [o 2 (.mov (I 0))] false)
  (.seq
   (.block 0
    (.seq
     (.seq
      (.reg [o 4 (.mov (T 0)), o 5 (.bin .eql (T 4) (I 4)), o 3 (.mov (T 5))] false)
      (.cond (T 3)
       .skip
       (.seq
        (.reg [o 6 (.mov (T 0)), o 7 (.bin .geq (T 6) (I 9)), o 8 (.mov (T 7)), og (some 9) (.mov (T 0)) 8 true, og (some 10) (.bin .leq (T 9) (I 13)) 8 true, o 11 (.pick (T 8) (T 10) (.c (.bool false))), o 3 (.mov (T 11))] false)
        (.cond (T 3)
         .skip
         (.reg [o 12 (.mov (T 0)), o 13 (.bin .geq (T 12) (I 15)), o 14 (.mov (T 13)), og (some 15) (.mov (T 0)) 14 true, og (some 16) (.bin .leq (T 15) (I 18)) 14 true, o 17 (.pick (T 14) (T 16) (.c (.bool false))), o 3 (.mov (T 17))] false)))))
     (.cond (T 3)
      (.seq
       (.reg [o 2 (.mov (I 2))] false)
       .ret)
      (.seq
       (.seq
        (.reg [o 19 (.mov (T 0)), o 20 (.bin .eql (T 19) (I 2)), o 18 (.mov (T 20))] false)
        (.cond (T 18)
         .skip
         (.seq
          (.reg [o 21 (.mov (T 0)), o 22 (.bin .eql (T 21) (I 3)), o 18 (.mov (T 22))] false)
          (.cond (T 18)
           .skip
           (.seq
            (.reg [o 23 (.mov (T 0)), o 24 (.bin .eql (T 23) (I 6)), o 18 (.mov (T 24))] false)
            (.cond (T 18)
             .skip
             (.seq
              (.reg [o 25 (.mov (T 0)), o 26 (.bin .eql (T 25) (I 14)), o 18 (.mov (T 26))] false)
              (.cond (T 18)
               .skip
               (.seq
                (.reg [o 27 (.mov (T 0)), o 28 (.bin .eql (T 27) (I 19)), o 18 (.mov (T 28))] false)
                (.cond (T 18)
                 .skip
                 (.seq
                  (.reg [o 29 (.mov (T 0)), o 30 (.bin .eql (T 29) (I 21)), o 18 (.mov (T 30))] false)
                  (.cond (T 18)
                   .skip
                   (.reg [o 31 (.mov (T 0)), o 32 (.bin .eql (T 31) (I 22)), o 18 (.mov (T 32))] false)))))))))))))
       (.cond (T 18)
        (.seq
         (.reg [o 2 (.mov (I 1))] false)
         .ret)
        .skip)))))
   (.seq
    (.reg [o 2 (.mov (I 0))] false)
    .ret))), none⟩
def f_slices_rotateRight_api_Message : IFun := ⟨10, 1, false, [], [],
 (.reg [o 4 (.mov (T 0)), o 5 (.mov (T 0)), o 6 (.len (T 5)), o 7 (.mov (T 1)), o 8 (.bin .sub (T 6) (T 7)), o 9 (.call 104 [(T 4), (T 8)] 0)] false), none⟩
def f_sums_One : IFun := ⟨16, 0, true, [true, true], [.tmp 4, .tmp 5],
 (.seq
  (.reg [o 4 (.mov (I 0)), o 5 (.mov (.c (.bool false)))] false)
  (.seq
   (.seq
    (.reg [o 6 (.mov (T 0))] false)
    (.block 0
     (.seq
      (.reg [o 8 (.bin .eql (T 6) (I 14)), o 7 (.mov (T 8))] false)
      (.cond (T 7)
       (.seq
        (.reg [o 9 (.mov (T 1)), o 10 (.un .neg (T 9)), o 4 (.mov (T 10)), o 5 (.mov (.c (.bool true)))] false)
        .ret)
       (.seq
        (.reg [o 12 (.bin .eql (T 6) (I 19)), o 11 (.mov (T 12))] false)
        (.cond (T 11)
         (.seq
          (.reg [o 13 (.mov (T 1)), o 14 (.bin .eql (T 13) (I 0)), o 15 (.call 196 [(T 14)] 0), o 4 (.mov (T 15)), o 5 (.mov (.c (.bool true)))] false)
          .ret)
         .skip))))))
   (.seq
    (.reg [o 4 (.mov (I 0)), o 5 (.mov (.c (.bool false)))] false)
    .ret))), none⟩
def f_sums_Two : IFun := ⟨63, 0, true, [true, true, true], [.tmp 6, .tmp 7],
 (.seq
  (.reg [o 6 (.mov (I 0)), o 7 (.mov (I 0))] false)
  (.seq
   (.seq
    (.reg [o 8 (.mov (T 0))] false)
    (.block 0
     (.seq
      (.reg [o 10 (.bin .eql (T 8) (I 9)), o 9 (.mov (T 10))] false)
      (.cond (T 9)
       (.seq
        (.reg [o 11 (.mov (T 1)), o 12 (.mov (T 2)), o 13 (.bin .add (T 11) (T 12)), o 6 (.mov (T 13)), o 7 (.mov (I 0))] false)
        .ret)
       (.seq
        (.reg [o 15 (.bin .eql (T 8) (I 10)), o 14 (.mov (T 15))] false)
        (.cond (T 14)
         (.seq
          (.reg [o 16 (.mov (T 1)), o 17 (.mov (T 2)), o 18 (.bin .sub (T 16) (T 17)), o 6 (.mov (T 18)), o 7 (.mov (I 0))] false)
          .ret)
         (.seq
          (.reg [o 20 (.bin .eql (T 8) (I 11)), o 19 (.mov (T 20))] false)
          (.cond (T 19)
           (.seq
            (.reg [o 21 (.mov (T 1)), o 22 (.mov (T 2)), o 23 (.bin .mul (T 21) (T 22)), o 6 (.mov (T 23)), o 7 (.mov (I 0))] false)
            .ret)
           (.seq
            (.reg [o 25 (.bin .eql (T 8) (I 15)), o 24 (.mov (T 25))] false)
            (.cond (T 24)
             (.seq
              (.reg [o 26 (.mov (T 1)), o 27 (.mov (T 2)), o 28 (.bin .eql (T 26) (T 27)), o 29 (.call 196 [(T 28)] 0), o 6 (.mov (T 29)), o 7 (.mov (I 0))] false)
              .ret)
             (.seq
              (.reg [o 31 (.bin .eql (T 8) (I 16)), o 30 (.mov (T 31))] false)
              (.cond (T 30)
               (.seq
                (.reg [o 32 (.mov (T 1)), o 33 (.mov (T 2)), o 34 (.bin .lss (T 32) (T 33)), o 35 (.call 196 [(T 34)] 0), o 6 (.mov (T 35)), o 7 (.mov (I 0))] false)
                .ret)
               (.seq
                (.reg [o 37 (.bin .eql (T 8) (I 17)), o 36 (.mov (T 37))] false)
                (.cond (T 36)
                 (.seq
                  (.reg [o 38 (.mov (T 1)), o 39 (.bin .neq (T 38) (I 0)), o 40 (.mov (T 39)), og (some 41) (.mov (T 2)) 40 true, og (some 42) (.bin .neq (T 41) (I 0)) 40 true, o 43 (.pick (T 40) (T 42) (.c (.bool false))), o 44 (.call 196 [(T 43)] 0), o 6 (.mov (T 44)), o 7 (.mov (I 0))] false)
                  .ret)
                 (.seq
                  (.reg [o 46 (.bin .eql (T 8) (I 18)), o 45 (.mov (T 46))] false)
                  (.cond (T 45)
                   (.seq
                    (.reg [o 47 (.mov (T 1)), o 48 (.bin .neq (T 47) (I 0)), o 49 (.mov (T 48)), og (some 50) (.mov (T 2)) 49 false, og (some 51) (.bin .neq (T 50) (I 0)) 49 false, o 52 (.pick (T 49) (.c (.bool true)) (T 51)), o 53 (.call 196 [(T 52)] 0), o 6 (.mov (T 53)), o 7 (.mov (I 0))] false)
                    .ret)
                   (.seq
                    (.seq
                     (.reg [o 55 (.bin .eql (T 8) (I 12)), o 54 (.mov (T 55))] false)
                     (.cond (T 54)
                      .skip
                      (.reg [o 56 (.bin .eql (T 8) (I 13)), o 54 (.mov (T 56))] false)))
                    (.cond (T 54)
                     (.seq
                      (.reg [o 57 (.mov (T 0)), o 58 (.mov (T 1)), o 59 (.mov (T 2)), o 60 (.call 197 [(T 57), (T 58), (T 59)] 0), o 61 (.extract (T 60) 0), o 62 (.extract (T 60) 1), o 6 (.mov (T 61)), o 7 (.mov (T 62))] false)
                      .ret)
                     .skip))))))))))))))))))
   (.seq
    (.reg [o 6 (.mov (I 0)), o 7 (.mov (I 0))] false)
    .ret))), none⟩
def f_slices_order2CmpFunc_api_Event : IFun := ⟨32, 2, true, [true, true, true, true, true], [.tmp 10, .tmp 11],
 (.seq
  (.reg [o 10 (.mov (I 0)), o 11 (.mov (I 0))] false)
  (.seq
   (.seq
    (.reg [⟨(some 12), .mov (T 4), none, []⟩, ⟨(some 13), .mov (T 0), none, []⟩, ⟨(some 14), .mov (T 2), none, []⟩, ⟨(some 15), .indexAddr 5 (T 13) (T 14), none, [1, 2]⟩, ⟨(some 16), .load (some 5) (T 15), none, [1, 2, 3]⟩, ⟨(some 17), .mov (T 0), none, []⟩, ⟨(some 18), .mov (T 1), none, []⟩, ⟨(some 19), .indexAddr 5 (T 17) (T 18), none, [5, 6]⟩, ⟨(some 20), .load (some 5) (T 19), none, [5, 6, 7]⟩, ⟨(some 21), .callv (T 12) [(T 16), (T 20)] 0, none, [0, 1, 2, 3, 4, 5, 6, 7, 8]⟩, ⟨(some 22), .bin .lss (T 21) (I 0), none, [0, 1, 2, 3, 4, 5, 6, 7, 8, 9]⟩] true)
    (.cond (T 22)
     (.seq
      (.reg [o 23 (.mov (T 3)), o 24 (.nilchk (T 23)), o 25 (.load none (T 24)), o 26 (.bin .add (T 25) (I 1)), o 27 (.nilchk (T 23)), u (.store none (T 27) (T 26))] false)
      (.seq
       (.reg [o 28 (.mov (T 2)), o 29 (.mov (T 1)), o 10 (.mov (T 28)), o 11 (.mov (T 29))] false)
       .ret))
     .skip))
   (.seq
    (.reg [o 30 (.mov (T 1)), o 31 (.mov (T 2)), o 10 (.mov (T 30)), o 11 (.mov (T 31))] false)
    .ret))), none⟩
def f_ops_Operand : IFun := ⟨16, 0, true, [true], [.tmp 2],
 (.seq
  (.reg [o 2 (.mov (I 0))] false)
  (.seq
   (.seq
    (.reg [o 3 (.mov (T 0))] false)
    (.block 0
     (.seq
      (.reg [o 5 (.bin .eql (T 3) (I 1)), o 4 (.mov (T 5))] false)
      (.cond (T 4)
       (.seq
        (.reg [o 2 (.mov (I 1))] false)
        .ret)
       (.seq
        (.seq
         (.reg [o 7 (.bin .eql (T 3) (I 5)), o 6 (.mov (T 7))] false)
         (.cond (T 6)
          .skip
          (.reg [o 8 (.bin .eql (T 3) (I 6)), o 6 (.mov (T 8))] false)))
        (.cond (T 6)
         (.seq
          (.reg [o 2 (.mov (I 2))] false)
          .ret)
         (.seq
          (.reg [o 10 (.bin .eql (T 3) (I 7)), o 9 (.mov (T 10))] false)
          (.cond (T 9)
           (.seq
            (.reg [o 2 (.mov (I 3))] false)
            .ret)
           (.seq
            (.seq
             (.reg [o 12 (.bin .eql (T 3) (I 20)), o 11 (.mov (T 12))] false)
             (.cond (T 11)
              .skip
              (.reg [o 13 (.bin .eql (T 3) (I 21)), o 11 (.mov (T 13))] false)))
            (.cond (T 11)
             (.seq
              (.reg [o 2 (.mov (I 4))] false)
              .ret)
             (.seq
              (.reg [o 15 (.bin .eql (T 3) (I 22)), o 14 (.mov (T 15))] false)
              (.cond (T 14)
               (.seq
                (.reg [o 2 (.mov (I 5))] false)
                .ret)
               .skip))))))))))))
   (.seq
    (.reg [o 2 (.mov (I 0))] false)
    .ret))), none⟩
def f_ops_Valid : IFun := ⟨9, 0, true, [true], [.tmp 2],
 (.seq
  (.reg [o 2 (.mov (.c (.bool false)))] false)
  (.seq
   (.reg [o 3 (.mov (T 0)), o 4 (.bin .geq (T 3) (I 1)), o 5 (.mov (T 4)), og (some 6) (.mov (T 0)) 5 true, og (some 7) (.bin .leq (T 6) (I 25)) 5 true, o 8 (.pick (T 5) (T 7) (.c (.bool false))), o 2 (.mov (T 8))] false)
   .ret)), none⟩
def f_math_bits_Mul32 : IFun := ⟨17, 0, true, [true, true], [.tmp 4, .tmp 5],
 (.seq
  (.reg [o 4 (.mov (.c (.int .u32 0))), o 5 (.mov (.c (.int .u32 0)))] false)
  (.seq
   (.reg [o 7 (.mov (T 0)), o 8 (.toInt .u64 (T 7)), o 9 (.mov (T 1)), o 10 (.toInt .u64 (T 9)), o 11 (.bin .mul (T 8) (T 10)), o 6 (.mov (T 11))] false)
   (.seq
    (.reg [o 12 (.mov (T 6)), o 13 (.bin .shr (T 12) (.c (.int .u64 32))), o 14 (.toInt .u32 (T 13)), o 15 (.mov (T 6)), o 16 (.toInt .u32 (T 15)), o 4 (.mov (T 14)), o 5 (.mov (T 16))] false)
    .ret))), none⟩
def f_math_bits_Mul64 : IFun := ⟨51, 0, true, [true, true], [.tmp 4, .tmp 5],
 (.seq
  (.reg [o 4 (.mov (.c (.int .u64 0))), o 5 (.mov (.c (.int .u64 0)))] false)
  (.seq
   (.reg [o 14 (.mov (T 0)), o 15 (.bin .and (T 14) (.c (.int .u64 4294967295))), o 6 (.mov (T 15))] false)
   (.seq
    (.reg [o 16 (.mov (T 0)), o 17 (.bin .shr (T 16) (.c (.int .u64 32))), o 7 (.mov (T 17))] false)
    (.seq
     (.reg [o 18 (.mov (T 1)), o 19 (.bin .and (T 18) (.c (.int .u64 4294967295))), o 8 (.mov (T 19))] false)
     (.seq
      (.reg [o 20 (.mov (T 1)), o 21 (.bin .shr (T 20) (.c (.int .u64 32))), o 9 (.mov (T 21))] false)
      (.seq
       (.reg [o 22 (.mov (T 6)), o 23 (.mov (T 8)), o 24 (.bin .mul (T 22) (T 23)), o 10 (.mov (T 24))] false)
       (.seq
        (.reg [o 25 (.mov (T 7)), o 26 (.mov (T 8)), o 27 (.bin .mul (T 25) (T 26)), o 28 (.mov (T 10)), o 29 (.bin .shr (T 28) (.c (.int .u64 32))), o 30 (.bin .add (T 27) (T 29)), o 11 (.mov (T 30))] false)
        (.seq
         (.reg [o 31 (.mov (T 11)), o 32 (.bin .and (T 31) (.c (.int .u64 4294967295))), o 12 (.mov (T 32))] false)
         (.seq
          (.reg [o 33 (.mov (T 11)), o 34 (.bin .shr (T 33) (.c (.int .u64 32))), o 13 (.mov (T 34))] false)
          (.seq
           (.reg [o 35 (.mov (T 12)), o 36 (.mov (T 6)), o 37 (.mov (T 9)), o 38 (.bin .mul (T 36) (T 37)), o 39 (.bin .add (T 35) (T 38)), o 12 (.mov (T 39))] false)
           (.seq
            (.reg [o 40 (.mov (T 7)), o 41 (.mov (T 9)), o 42 (.bin .mul (T 40) (T 41)), o 43 (.mov (T 13)), o 44 (.bin .add (T 42) (T 43)), o 45 (.mov (T 12)), o 46 (.bin .shr (T 45) (.c (.int .u64 32))), o 47 (.bin .add (T 44) (T 46)), o 4 (.mov (T 47))] false)
            (.seq
             (.reg [o 48 (.mov (T 0)), o 49 (.mov (T 1)), o 50 (.bin .mul (T 48) (T 49)), o 5 (.mov (T 50))] false)
             .ret)))))))))))), none⟩
def f_slices_rotateLeft_api_Message : IFun := ⟨14, 3, false, [], [],
 (.seq
  (.reg [o 4 (.mov (T 0)), o 5 (.mov (T 1)), o 6 (.slice 6 (T 4) none (some (T 5)) none), o 7 (.call 107 [(T 6)] 0)] false)
  (.seq
   (.reg [o 8 (.mov (T 0)), o 9 (.mov (T 1)), o 10 (.slice 6 (T 8) (some (T 9)) none none), o 11 (.call 107 [(T 10)] 1)] false)
   (.reg [o 12 (.mov (T 0)), o 13 (.call 107 [(T 12)] 2)] false))), none⟩
def f_sums_Truth : IFun := ⟨4, 0, true, [true], [.tmp 2],
 (.seq
  (.reg [o 2 (.mov (I 0))] false)
  (.seq
   (.seq
    (.reg [o 3 (.mov (T 0))] false)
    (.cond (T 3)
     (.seq
      (.reg [o 2 (.mov (I 1))] false)
      .ret)
     .skip))
   (.seq
    (.reg [o 2 (.mov (I 0))] false)
    .ret))), none⟩
def f_sums_parts : IFun := ⟨20, 0, true, [true, true, true], [.tmp 6, .tmp 7],
 (.seq
  (.reg [o 6 (.mov (I 0)), o 7 (.mov (I 0))] false)
  (.seq
   (.block 0
    (.seq
     (.reg [o 9 (.mov (T 2)), o 10 (.bin .eql (T 9) (I 0)), o 8 (.mov (T 10))] false)
     (.cond (T 8)
      (.seq
       (.reg [o 6 (.mov (I 0)), o 7 (.mov (I 3))] false)
       .ret)
      (.seq
       (.reg [o 12 (.mov (T 0)), o 13 (.bin .eql (T 12) (I 12)), o 11 (.mov (T 13))] false)
       (.cond (T 11)
        (.seq
         (.reg [o 14 (.mov (T 1)), o 15 (.mov (T 2)), o 16 (.bin .quo (T 14) (T 15)), o 6 (.mov (T 16)), o 7 (.mov (I 0))] false)
         .ret)
        .skip)))))
   (.seq
    (.reg [o 17 (.mov (T 1)), o 18 (.mov (T 2)), o 19 (.bin .rem (T 17) (T 18)), o 6 (.mov (T 19)), o 7 (.mov (I 0))] false)
    .ret))), none⟩
def f_slices_Reverse_api_Message_api_Message : IFun := ⟨28, 0, false, [], [],
 (.seq
  (.reg [o 4 (.mov (T 0)), o 5 (.len (T 4)), o 6 (.bin .sub (T 5) (I 1)), o 2 (.mov (I 0)), o 3 (.mov (T 6))] false)
  (.block 0
   (.loop
    (.seq
     (.seq
      (.reg [o 7 (.mov (T 2)), o 8 (.mov (T 3)), o 9 (.bin .lss (T 7) (T 8))] false)
      (.cond (T 9)
       .skip
       (.exit 0)))
     (.seq
      (.block 1
       (.reg [⟨(some 14), .mov (T 0), none, []⟩, ⟨(some 15), .mov (T 2), none, []⟩, ⟨(some 16), .mov (T 0), none, []⟩, ⟨(some 17), .mov (T 3), none, []⟩, ⟨(some 18), .mov (T 0), none, []⟩, ⟨(some 19), .mov (T 3), none, []⟩, ⟨(some 20), .indexAddr 6 (T 18) (T 19), none, [4, 5]⟩, ⟨(some 21), .load (some 6) (T 20), none, [4, 5, 6]⟩, ⟨(some 22), .mov (T 0), none, []⟩, ⟨(some 23), .mov (T 2), none, []⟩, ⟨(some 24), .indexAddr 6 (T 22) (T 23), none, [8, 9]⟩, ⟨(some 25), .load (some 6) (T 24), none, [8, 9, 10]⟩, ⟨(some 26), .indexAddr 6 (T 14) (T 15), none, [0, 1, 4, 5, 6, 7, 8, 9, 10, 11]⟩, ⟨none, .store (some 6) (T 26) (T 21), none, [0, 1, 4, 5, 6, 7, 8, 9, 10, 11, 12]⟩, ⟨(some 27), .indexAddr 6 (T 16) (T 17), none, [0, 1, 2, 3, 4, 5, 6, 7, 8, 9, 10, 11, 12, 13]⟩, ⟨none, .store (some 6) (T 27) (T 25), none, [0, 1, 2, 3, 4, 5, 6, 7, 8, 9, 10, 11, 12, 13, 14]⟩] true))
      (.reg [o 10 (.mov (T 2)), o 11 (.bin .add (T 10) (I 1)), o 12 (.mov (T 3)), o 13 (.bin .sub (T 12) (I 1)), o 2 (.mov (T 11)), o 3 (.mov (T 13))] false)))))), none⟩
def FTL : List (Option IFun) := [none, none, none, none, none, none, none, none, none, none, none, none, none, none, none, none, none, none, none, none, none, none, none, none, none, none, none, none, none, none, none, none, some f_mail_Put, none, none, none, none, some f_mail_Sorted, none, some f_mail_Find, none, some f_mail_To, none, some f_mail_Same, some f_mail_Copy, none, none, none, none, none, none, none, none, none, none, none, none, none, none, none, none, none, none, none, none, none, none, none, none, none, none, none, none, some f_slices_IndexFunc_api_Message_api_Message, some f_mail_Put_1, some f_ident_Less, some f_slices_Insert_api_Message_api_Message, some f_mail_own, none, none, none, some f_mail_Find_1, some f_slices_EqualFunc_api_Message_api_Message_api_Message_api_Message, some f_mail_Same_1, some f_prog_SameNote, none, none, none, none, none, none, none, none, none, none, none, some f_ident_order, none, some f_slices_rotateRight_api_Message, some f_prog_CopyNote, some f_slices_Equal_int_int, none, some f_cmp_Or_int, some f_cmp_Compare_int, some f_slices_rotateLeft_api_Message, some f_slices_Clone_int_int, some f_cmp_isNaN_int, some f_slices_Reverse_api_Message_api_Message, none, none, none, none, none, none, none, some f_law11_awake, some f_law11_pair, some f_world_Start, some f_step_Do, some f_alike_Ints, none, some f_event_Enabled, some f_event_Is, none, some f_event_May, none, some f_step_Run, some f_step_Notes, some f_flow_Check, some f_world_Give, some f_step_Apply, some f_event_Left, some f_world_Check, some f_event_All, some f_slices_SortFunc_api_Event_api_Event, some f_ident_Order, some f_event_Can, some f_event_paid, some f_step_Would, some f_prog_Check, some f_flow_walk, some f_world_Post, some f_world_Copy, some f_step_run, some f_event_less, some f_world_Fits, some f_event_All_1, some f_slices_pdqsortCmpFunc_api_Event, some f_math_bits_Len, some f_vm_Go, some f_prog_each_api_Handler, some f_prog_handler, some f_prog_each_api_Actor, some f_prog_actor, some f_prog_each_api_Note, some f_prog_Note, some f_slices_Repeat_int_int, some f_flow_takes, some f_ops_Puts, some f_flow_next, some f_world_copyLocal, some f_world_local, some f_slices_ContainsFunc_api_Message_api_Message, some f_world_Fits_1, some f_world_message, some f_slices_insertionSortCmpFunc_api_Event, some f_slices_heapSortCmpFunc_api_Event, some f_slices_breakPatternsCmpFunc_api_Event, some f_slices_choosePivotCmpFunc_api_Event, some f_slices_reverseRangeCmpFunc_api_Event, some f_slices_partialInsertionSortCmpFunc_api_Event, some f_slices_partitionEqualCmpFunc_api_Event, some f_slices_partitionCmpFunc_api_Event, some f_math_bits_Len32, some f_math_bits_Len64, some f_vm_machine_do, some f_prog_instr, some f_math_bits_Mul, some f_ops_Pops, some f_slices_siftDownCmpFunc_api_Event, some f_slices_nextPowerOfTwo, some f_slices_xorshift_Next, some f_slices_medianAdjacentCmpFunc_api_Event, some f_slices_medianCmpFunc_api_Event, some f_vm_machine_push, some f_vm_machine_pop, some f_vm_machine_register, some f_vm_machine_send, some f_vm_machine_count, some f_ops_Operand, some f_ops_Valid, some f_math_bits_Mul32, some f_math_bits_Mul64, some f_slices_order2CmpFunc_api_Event, some f_sums_One, some f_sums_Two, some f_sums_Truth, some f_sums_parts, none, none, none, none, none, none, some f_law11_StepCrashes, none, none, none, none, none, none, none, none, none, none, none, none, none, none, none, none, none, none, none, none, some f_world_Same, none, none, none, none, none, none, none, none, none, none, none, none, some f_slices_EqualFunc_api_Local_api_Local_api_Local_api_Local, some f_world_sameLocal]
def FT : Nat → Option IFun
  | 32 => some f_mail_Put
  | 37 => some f_mail_Sorted
  | 39 => some f_mail_Find
  | 41 => some f_mail_To
  | 43 => some f_mail_Same
  | 44 => some f_mail_Copy
  | 73 => some f_slices_IndexFunc_api_Message_api_Message
  | 74 => some f_mail_Put_1
  | 75 => some f_ident_Less
  | 76 => some f_slices_Insert_api_Message_api_Message
  | 77 => some f_mail_own
  | 81 => some f_mail_Find_1
  | 82 => some f_slices_EqualFunc_api_Message_api_Message_api_Message_api_Message
  | 83 => some f_mail_Same_1
  | 84 => some f_prog_SameNote
  | 96 => some f_ident_order
  | 98 => some f_slices_rotateRight_api_Message
  | 99 => some f_prog_CopyNote
  | 100 => some f_slices_Equal_int_int
  | 102 => some f_cmp_Or_int
  | 103 => some f_cmp_Compare_int
  | 104 => some f_slices_rotateLeft_api_Message
  | 105 => some f_slices_Clone_int_int
  | 106 => some f_cmp_isNaN_int
  | 107 => some f_slices_Reverse_api_Message_api_Message
  | 115 => some f_law11_awake
  | 116 => some f_law11_pair
  | 117 => some f_world_Start
  | 118 => some f_step_Do
  | 119 => some f_alike_Ints
  | 121 => some f_event_Enabled
  | 122 => some f_event_Is
  | 124 => some f_event_May
  | 126 => some f_step_Run
  | 127 => some f_step_Notes
  | 128 => some f_flow_Check
  | 129 => some f_world_Give
  | 130 => some f_step_Apply
  | 131 => some f_event_Left
  | 132 => some f_world_Check
  | 133 => some f_event_All
  | 134 => some f_slices_SortFunc_api_Event_api_Event
  | 135 => some f_ident_Order
  | 136 => some f_event_Can
  | 137 => some f_event_paid
  | 138 => some f_step_Would
  | 139 => some f_prog_Check
  | 140 => some f_flow_walk
  | 141 => some f_world_Post
  | 142 => some f_world_Copy
  | 143 => some f_step_run
  | 144 => some f_event_less
  | 145 => some f_world_Fits
  | 146 => some f_event_All_1
  | 147 => some f_slices_pdqsortCmpFunc_api_Event
  | 148 => some f_math_bits_Len
  | 149 => some f_vm_Go
  | 150 => some f_prog_each_api_Handler
  | 151 => some f_prog_handler
  | 152 => some f_prog_each_api_Actor
  | 153 => some f_prog_actor
  | 154 => some f_prog_each_api_Note
  | 155 => some f_prog_Note
  | 156 => some f_slices_Repeat_int_int
  | 157 => some f_flow_takes
  | 158 => some f_ops_Puts
  | 159 => some f_flow_next
  | 160 => some f_world_copyLocal
  | 161 => some f_world_local
  | 162 => some f_slices_ContainsFunc_api_Message_api_Message
  | 163 => some f_world_Fits_1
  | 164 => some f_world_message
  | 165 => some f_slices_insertionSortCmpFunc_api_Event
  | 166 => some f_slices_heapSortCmpFunc_api_Event
  | 167 => some f_slices_breakPatternsCmpFunc_api_Event
  | 168 => some f_slices_choosePivotCmpFunc_api_Event
  | 169 => some f_slices_reverseRangeCmpFunc_api_Event
  | 170 => some f_slices_partialInsertionSortCmpFunc_api_Event
  | 171 => some f_slices_partitionEqualCmpFunc_api_Event
  | 172 => some f_slices_partitionCmpFunc_api_Event
  | 173 => some f_math_bits_Len32
  | 174 => some f_math_bits_Len64
  | 175 => some f_vm_machine_do
  | 176 => some f_prog_instr
  | 177 => some f_math_bits_Mul
  | 178 => some f_ops_Pops
  | 179 => some f_slices_siftDownCmpFunc_api_Event
  | 180 => some f_slices_nextPowerOfTwo
  | 181 => some f_slices_xorshift_Next
  | 182 => some f_slices_medianAdjacentCmpFunc_api_Event
  | 183 => some f_slices_medianCmpFunc_api_Event
  | 184 => some f_vm_machine_push
  | 185 => some f_vm_machine_pop
  | 186 => some f_vm_machine_register
  | 187 => some f_vm_machine_send
  | 188 => some f_vm_machine_count
  | 189 => some f_ops_Operand
  | 190 => some f_ops_Valid
  | 191 => some f_math_bits_Mul32
  | 192 => some f_math_bits_Mul64
  | 193 => some f_slices_order2CmpFunc_api_Event
  | 194 => some f_sums_One
  | 195 => some f_sums_Two
  | 196 => some f_sums_Truth
  | 197 => some f_sums_parts
  | 204 => some f_law11_StepCrashes
  | 225 => some f_world_Same
  | 238 => some f_slices_EqualFunc_api_Local_api_Local_api_Local_api_Local
  | 239 => some f_world_sameLocal
  | _ => none
end Gv

namespace Gv
/-- The number of a function of E in this program. -/
def fidL : List Nat := [1000000, 1000000, 1000000, 1000000, 1000000, 1000000, 1000000, 1000000, 1000000, 1000000, 1000000, 1000000, 1000000, 1000000, 1000000, 1000000, 1000000, 1000000, 1000000, 1000000, 1000000, 1000000, 1000000, 34, 1000000, 1000000, 1000000, 1000000, 65, 1000000, 48, 1000000, 123, 95, 1000000, 57, 55, 115, 90, 84, 59, 122, 94, 82, 78, 1000000, 12, 1000000, 1000000, 1000000, 1000000, 1000000, 1000000, 168, 1000000, 1000000, 1000000, 1000000, 1000000, 1000000, 1000000, 1000000, 1000000, 1000000, 1000000, 1000000, 1000000, 1000000, 1000000, 1000000, 1000000, 1000000, 1000000, 120, 158, 157, 159, 110, 127, 1000000, 50, 121, 112, 113, 114, 1000000, 1000000, 1000000, 1000000, 16, 87, 1000000, 1000000, 1000000, 1000000, 1000000, 101, 186, 187, 156, 111, 1000000, 99, 100, 200, 74, 141, 204, 1000000, 1000000, 1000000, 1000000, 1000000, 1000000, 1000000, 14, 47, 36, 15, 39, 24, 27, 25, 1000000, 31, 62, 22, 17, 73, 75, 49, 29, 46, 66, 67, 68, 63, 64, 51, 105, 106, 86, 44, 85, 70, 83, 96, 97, 98, 88, 144, 145, 146, 147, 148, 149, 150, 151, 152, 153, 79, 116, 117, 118, 119, 131, 132, 133, 134, 135, 136, 137, 138, 139, 140, 124, 174, 175, 176, 169, 170, 171, 172, 173, 160, 161, 162, 163, 164, 193, 194, 195, 196, 192, 188, 189, 201, 202, 3, 4, 5, 6, 7, 8, 9, 10, 11, 13, 18, 19, 20, 21, 23, 26, 28, 30, 32, 33, 35, 37, 38, 40, 41, 42, 43, 45, 52, 53, 54, 56, 58, 60, 61, 69, 71, 72, 76, 77, 80, 81, 89, 91, 92, 93, 102, 103, 104, 107, 108, 109, 125, 126, 128, 129, 130, 142, 143, 154, 155, 165, 166, 167, 177, 178, 179, 180, 181, 182, 183, 184, 185, 190, 191, 197, 198, 199, 203]
def fid (n : Nat) : Nat := fidL.getD n 1000000
end Gv
