/- What this file proves: one part of the proof that the law answers true for every input, by an interpreter that is proved sound against the given model. -/
import Derived.Test.YtkjefeclbdjkcaaEa
namespace Gv
abbrev T := PO.t
abbrev I (n : Int) : PO := .c (.int .i64 n)
abbrev o (d : Nat) (x : IOp) : IOper := ⟨some d, x, none, []⟩
abbrev u (x : IOp) : IOper := ⟨none, x, none, []⟩
abbrev og (d : Option Nat) (x : IOp) (t : Nat) (b : Bool) : IOper := ⟨d, x, some (t, b), []⟩
def f_law22_WireSame : IFun := ⟨159, 22, true, [true, true], [.tmp 4],
 (.seq
  (.reg [o 4 (.mov (.c (.bool false)))] false)
  (.seq
   (.reg [o 11 (.call 29 [] 0), o 12 (.call 29 [] 9), o 5 (.box (some 11) (.c (.agg [.nils, .nils, .nils, (.int .i64 0), .nils, (.int .i64 0), (.int .i64 0), (.int .i64 0), (.int .i64 0), (.int .i64 0), (.int .i64 0)])) 18), o 6 (.box (some 11) (.c (.agg [.nils, .nils, .nils, (.int .i64 0), .nils, (.int .i64 0), (.int .i64 0), (.int .i64 0), (.int .i64 0), (.int .i64 0), (.int .i64 0)])) 19), u (.store (some 11) (T 5) (T 11)), u (.store (some 11) (T 6) (T 12))] false)
   (.seq
    (.seq
     (.reg [o 13 (.mov (T 1)), o 14 (.bin .lss (T 13) (I 1)), o 15 (.mov (T 14)), og (some 16) (.mov (T 1)) 15 false, og (some 17) (.bin .gtr (T 16) (I 1000)) 15 false, o 18 (.pick (T 15) (.c (.bool true)) (T 17))] false)
     (.cond (T 18)
      (.seq
       (.reg [o 19 (.load (some 11) (T 5)), o 20 (.load (some 11) (T 6)), o 21 (.call 22 [(T 19), (T 20)] 20), o 22 (.mov (T 21)), og (some 23) (.call 10 [] 20) 22 true, o 24 (.pick (T 22) (T 23) (.c (.bool false))), o 4 (.mov (T 24))] false)
       .ret)
      .skip))
    (.seq
     (.seq
      (.reg [o 25 (.mov (T 0)), o 26 (.call 23 [(T 25), (I 10)] 20)] false)
      (.block 0
       (.seq
        (.reg [o 28 (.bin .eql (T 26) (I 0)), o 27 (.mov (T 28))] false)
        (.cond (T 27)
         (.reg [o 29 (.fieldAddr (T 6) 0), o 30 (.fieldAddr (T 29) 3), o 31 (.load none (T 30)), o 32 (.mov (T 1)), o 33 (.bin .add (T 31) (T 32)), o 34 (.fieldAddr (T 6) 0), o 35 (.fieldAddr (T 34) 3), u (.store none (T 35) (T 33))] false)
         (.seq
          (.reg [o 37 (.bin .eql (T 26) (I 1)), o 36 (.mov (T 37))] false)
          (.cond (T 36)
           (.reg [o 38 (.fieldAddr (T 6) 0), o 39 (.fieldAddr (T 38) 0), o 40 (.load none (T 39)), o 41 (.indexAddr 2 (T 40) (I 0)), o 42 (.fieldAddr (T 41) 1), o 43 (.load none (T 42)), o 44 (.indexAddr 2 (T 43) (I 0)), o 45 (.fieldAddr (T 44) 1), o 46 (.load none (T 45)), o 47 (.mov (T 1)), o 48 (.bin .add (T 46) (T 47)), o 49 (.indexAddr 2 (T 43) (I 0)), o 50 (.fieldAddr (T 49) 1), u (.store none (T 50) (T 48))] false)
           (.seq
            (.reg [o 52 (.bin .eql (T 26) (I 2)), o 51 (.mov (T 52))] false)
            (.cond (T 51)
             (.reg [o 53 (.fieldAddr (T 6) 0), o 54 (.fieldAddr (T 53) 1), o 55 (.load none (T 54)), o 56 (.indexAddr 4 (T 55) (I 0)), o 57 (.fieldAddr (T 56) 0), o 58 (.load none (T 57)), o 59 (.indexAddr 1 (T 58) (I 0)), o 60 (.load none (T 59)), o 61 (.mov (T 1)), o 62 (.bin .add (T 60) (T 61)), o 63 (.indexAddr 1 (T 58) (I 0)), u (.store none (T 63) (T 62))] false)
             (.seq
              (.reg [o 65 (.bin .eql (T 26) (I 3)), o 64 (.mov (T 65))] false)
              (.cond (T 64)
               (.reg [o 66 (.fieldAddr (T 6) 0), o 67 (.fieldAddr (T 66) 2), u (.store none (T 67) (.c .nils))] false)
               (.seq
                (.reg [o 69 (.bin .eql (T 26) (I 4)), o 68 (.mov (T 69))] false)
                (.cond (T 68)
                 (.reg [o 70 (.fieldAddr (T 6) 4), o 71 (.load none (T 70)), o 72 (.indexAddr 1 (T 71) (I 0)), o 73 (.load none (T 72)), o 74 (.indexAddr 2 (T 73) (I 0)), o 75 (.fieldAddr (T 74) 1), o 76 (.load none (T 75)), o 77 (.mov (T 1)), o 78 (.bin .add (T 76) (T 77)), o 79 (.indexAddr 2 (T 73) (I 0)), o 80 (.fieldAddr (T 79) 1), u (.store none (T 80) (T 78))] false)
                 (.seq
                  (.reg [o 82 (.bin .eql (T 26) (I 5)), o 81 (.mov (T 82))] false)
                  (.cond (T 81)
                   (.reg [o 83 (.fieldAddr (T 6) 4), o 84 (.load none (T 83)), o 85 (.buildSlice none [(.c .nils)] 20), o 86 (.append 1 (T 84) (T 85) 21), o 87 (.fieldAddr (T 6) 4), u (.store none (T 87) (T 86))] false)
                   (.seq
                    (.reg [o 89 (.bin .eql (T 26) (I 6)), o 88 (.mov (T 89))] false)
                    (.cond (T 88)
                     (.reg [o 90 (.fieldAddr (T 6) 5), o 91 (.fieldAddr (T 90) 3), o 92 (.load none (T 91)), o 93 (.mov (T 1)), o 94 (.bin .add (T 92) (T 93)), o 95 (.fieldAddr (T 6) 5), o 96 (.fieldAddr (T 95) 3), u (.store none (T 96) (T 94))] false)
                     (.seq
                      (.reg [o 98 (.bin .eql (T 26) (I 7)), o 97 (.mov (T 98))] false)
                      (.cond (T 97)
                       (.reg [o 99 (.fieldAddr (T 6) 9), o 100 (.fieldAddr (T 99) 0), o 101 (.load none (T 100)), o 102 (.mov (T 1)), o 103 (.bin .add (T 101) (T 102)), o 104 (.fieldAddr (T 6) 9), o 105 (.fieldAddr (T 104) 0), u (.store none (T 105) (T 103))] false)
                       (.seq
                        (.reg [o 107 (.bin .eql (T 26) (I 8)), o 106 (.mov (T 107))] false)
                        (.cond (T 106)
                         (.reg [o 108 (.fieldAddr (T 6) 9), o 109 (.fieldAddr (T 108) 1), o 110 (.load none (T 109)), o 111 (.mov (T 1)), o 112 (.bin .add (T 110) (T 111)), o 113 (.fieldAddr (T 6) 9), o 114 (.fieldAddr (T 113) 1), u (.store none (T 114) (T 112))] false)
                         (.seq
                          (.reg [o 116 (.bin .eql (T 26) (I 9)), o 115 (.mov (T 116))] false)
                          (.cond (T 115)
                           (.reg [o 117 (.fieldAddr (T 6) 0), o 118 (.fieldAddr (T 117) 1), o 119 (.load none (T 118)), o 120 (.indexAddr 4 (T 119) (I 0)), o 121 (.fieldAddr (T 120) 2), o 122 (.load none (T 121)), o 123 (.mov (T 1)), o 124 (.bin .add (T 122) (T 123)), o 125 (.indexAddr 4 (T 119) (I 0)), o 126 (.fieldAddr (T 125) 2), u (.store none (T 126) (T 124))] false)
                           .skip))))))))))))))))))))))
     (.seq
      (.reg [o 128 (.load (some 11) (T 5)), o 129 (.call 16 [(T 128)] 22), o 127 (.mov (T 129)), o 130 (.extract (T 127) 0), o 131 (.extract (T 127) 1), o 7 (.mov (T 130)), o 8 (.mov (T 131))] false)
      (.seq
       (.reg [o 133 (.load (some 11) (T 6)), o 134 (.call 16 [(T 133)] 22), o 132 (.mov (T 134)), o 135 (.extract (T 132) 0), o 136 (.extract (T 132) 1), o 9 (.mov (T 135)), o 10 (.mov (T 136))] false)
       (.seq
        (.reg [o 137 (.load (some 11) (T 5)), o 138 (.load (some 11) (T 6)), o 139 (.call 22 [(T 137), (T 138)] 22), o 140 (.un .not (T 139)), o 141 (.mov (T 140)), og (some 142) (.mov (T 8)) 141 true, og (some 143) (.bin .eql (T 142) (I 0)) 141 true, o 144 (.pick (T 141) (T 143) (.c (.bool false))), o 145 (.mov (T 144)), og (some 146) (.mov (T 10)) 145 true, og (some 147) (.bin .eql (T 146) (I 0)) 145 true, o 148 (.pick (T 145) (T 147) (.c (.bool false))), o 149 (.mov (T 148)), og (some 150) (.mov (T 7)) 149 true, og (some 151) (.b2s (T 150)) 149 true, og (some 152) (.mov (T 9)) 149 true, og (some 153) (.b2s (T 152)) 149 true, og (some 154) (.bin .neq (T 151) (T 153)) 149 true, o 155 (.pick (T 149) (T 154) (.c (.bool false))), o 156 (.mov (T 155)), og (some 157) (.call 10 [] 22) 156 true, o 158 (.pick (T 156) (T 157) (.c (.bool false))), o 4 (.mov (T 158))] false)
        .ret))))))), none⟩
def f_law22_awake : IFun := ⟨116, 23, true, [], [.tmp 0],
 (.seq
  (.reg [o 0 (.mov (.c (.bool false)))] false)
  (.seq
   (.reg [o 19 (.call 29 [] 0), o 20 (.call 16 [(T 19)] 9), o 18 (.mov (T 20)), o 21 (.extract (T 18) 0), o 22 (.extract (T 18) 1), o 1 (.mov (T 21)), o 2 (.mov (T 22))] false)
   (.seq
    (.reg [o 24 (.mov (T 1)), o 25 (.call 19 [(T 24)] 9), o 23 (.mov (T 25)), o 26 (.extract (T 23) 0), o 27 (.extract (T 23) 1), o 3 (.box (some 11) (.c (.agg [.nils, .nils, .nils, (.int .i64 0), .nils, (.int .i64 0), (.int .i64 0), (.int .i64 0), (.int .i64 0), (.int .i64 0), (.int .i64 0)])) 9), u (.store (some 11) (T 3) (T 26)), o 4 (.mov (T 27))] false)
    (.seq
     (.reg [o 29 (.call 19 [(.c .nils)] 10), o 28 (.mov (T 29)), o 30 (.extract (T 28) 0), o 31 (.extract (T 28) 1), o 5 (.box (some 11) (.c (.agg [.nils, .nils, .nils, (.int .i64 0), .nils, (.int .i64 0), (.int .i64 0), (.int .i64 0), (.int .i64 0), (.int .i64 0), (.int .i64 0)])) 10), u (.store (some 11) (T 5) (T 30)), o 6 (.mov (T 31))] false)
     (.seq
      (.reg [o 33 (.buildSlice none [(.c (.int .u8 128)), (.c (.int .u8 1)), (.c (.int .u8 5))] 11), o 34 (.call 12 [(T 33)] 12), o 32 (.mov (T 34)), o 35 (.extract (T 32) 0), o 36 (.extract (T 32) 1), o 37 (.extract (T 32) 2), o 7 (.mov (T 35)), o 8 (.mov (T 36)), o 9 (.mov (T 37))] false)
      (.seq
       (.reg [o 39 (.buildSlice none [(.c (.int .u8 128)), (.c (.int .u8 0))] 12), o 40 (.call 12 [(T 39)] 13), o 38 (.mov (T 40)), o 41 (.extract (T 38) 0), o 42 (.extract (T 38) 1), o 43 (.extract (T 38) 2), o 10 (.mov (T 41)), o 11 (.mov (T 42)), o 12 (.mov (T 43))] false)
       (.seq
        (.reg [o 44 (.build [(.int .i64 0), (.int .i64 0), (.int .i64 0)] [(0, none, (I (-1)))]), o 45 (.build [(.int .i64 0), (.int .i64 0), (.int .i64 0), (.int .i64 0), (.int .i64 0)] [(0, none, (I 1)), (1, (some 3), (T 44))]), o 46 (.buildSlice (some 5) [(T 45)] 13), o 13 (.mov (T 46))] false)
        (.seq
         (.reg [o 48 (.mov (T 13)), o 49 (.call 24 [(T 48)] 14), o 47 (.mov (T 49)), o 50 (.extract (T 47) 0), o 51 (.extract (T 47) 1), o 14 (.mov (T 50)), o 15 (.mov (T 51))] false)
         (.seq
          (.reg [o 53 (.mov (T 14)), o 54 (.call 26 [(T 53)] 14), o 52 (.mov (T 54)), o 55 (.extract (T 52) 0), o 56 (.extract (T 52) 1), o 16 (.mov (T 55)), o 17 (.mov (T 56))] false)
          (.seq
           (.reg [⟨(some 57), .mov (T 2), none, []⟩, ⟨(some 58), .bin .eql (T 57) (I 0), none, [0]⟩, ⟨(some 59), .mov (T 58), none, [0, 1]⟩, ⟨(some 60), .mov (T 1), (some (59, true)), [0, 1, 2]⟩, ⟨(some 61), .b2s (T 60), (some (59, true)), [0, 1, 2, 3]⟩, ⟨(some 62), .bin .eql (T 61) (.c (.str [71, 65, 86, 49, 2, 0, 4, 2, 9, 4, 0, 2, 2, 216, 4, 4, 1, 0, 2, 0, 0, 0, 18, 2, 2, 2, 2, 2, 0, 0, 0, 8, 140, 1])), (some (59, true)), [0, 1, 2, 3, 4]⟩, ⟨(some 63), .pick (T 59) (T 62) (.c (.bool false)), none, [0, 1, 2, 3, 4, 5]⟩, ⟨(some 64), .mov (T 63), none, [0, 1, 2, 3, 4, 5, 6]⟩, ⟨(some 65), .mov (T 4), (some (64, true)), [0, 1, 2, 3, 4, 5, 6, 7]⟩, ⟨(some 66), .bin .eql (T 65) (I 0), (some (64, true)), [0, 1, 2, 3, 4, 5, 6, 7, 8]⟩, ⟨(some 67), .pick (T 64) (T 66) (.c (.bool false)), none, [0, 1, 2, 3, 4, 5, 6, 7, 8, 9]⟩, ⟨(some 68), .mov (T 67), none, [0, 1, 2, 3, 4, 5, 6, 7, 8, 9, 10]⟩, ⟨(some 69), .load (some 11) (T 3), (some (68, true)), [0, 1, 2, 3, 4, 5, 6, 7, 8, 9, 10, 11]⟩, ⟨(some 70), .call 29 [] 14, (some (68, true)), [0, 1, 2, 3, 4, 5, 6, 7, 8, 9, 10, 11]⟩, ⟨(some 71), .call 22 [(T 69), (T 70)] 23, (some (68, true)), [0, 1, 2, 3, 4, 5, 6, 7, 8, 9, 10, 11, 12, 13]⟩, ⟨(some 72), .pick (T 68) (T 71) (.c (.bool false)), none, [0, 1, 2, 3, 4, 5, 6, 7, 8, 9, 10, 11, 12, 13, 14]⟩, ⟨(some 73), .mov (T 72), none, [0, 1, 2, 3, 4, 5, 6, 7, 8, 9, 10, 11, 12, 13, 14, 15]⟩, ⟨(some 74), .mov (T 6), (some (73, true)), [0, 1, 2, 3, 4, 5, 6, 7, 8, 9, 10, 11, 12, 13, 14, 15, 16]⟩, ⟨(some 75), .bin .eql (T 74) (I 2), (some (73, true)), [0, 1, 2, 3, 4, 5, 6, 7, 8, 9, 10, 11, 12, 13, 14, 15, 16, 17]⟩, ⟨(some 76), .pick (T 73) (T 75) (.c (.bool false)), none, [0, 1, 2, 3, 4, 5, 6, 7, 8, 9, 10, 11, 12, 13, 14, 15, 16, 17, 18]⟩, ⟨(some 77), .mov (T 76), none, [0, 1, 2, 3, 4, 5, 6, 7, 8, 9, 10, 11, 12, 13, 14, 15, 16, 17, 18, 19]⟩, ⟨(some 78), .mov (T 7), (some (77, true)), [0, 1, 2, 3, 4, 5, 6, 7, 8, 9, 10, 11, 12, 13, 14, 15, 16, 17, 18, 19, 20]⟩, ⟨(some 79), .bin .eql (T 78) (I 64), (some (77, true)), [0, 1, 2, 3, 4, 5, 6, 7, 8, 9, 10, 11, 12, 13, 14, 15, 16, 17, 18, 19, 20, 21]⟩, ⟨(some 80), .pick (T 77) (T 79) (.c (.bool false)), none, [0, 1, 2, 3, 4, 5, 6, 7, 8, 9, 10, 11, 12, 13, 14, 15, 16, 17, 18, 19, 20, 21, 22]⟩, ⟨(some 81), .mov (T 80), none, [0, 1, 2, 3, 4, 5, 6, 7, 8, 9, 10, 11, 12, 13, 14, 15, 16, 17, 18, 19, 20, 21, 22, 23]⟩, ⟨(some 82), .mov (T 8), (some (81, true)), [0, 1, 2, 3, 4, 5, 6, 7, 8, 9, 10, 11, 12, 13, 14, 15, 16, 17, 18, 19, 20, 21, 22, 23, 24]⟩, ⟨(some 83), .bin .eql (T 82) (I 2), (some (81, true)), [0, 1, 2, 3, 4, 5, 6, 7, 8, 9, 10, 11, 12, 13, 14, 15, 16, 17, 18, 19, 20, 21, 22, 23, 24, 25]⟩, ⟨(some 84), .pick (T 81) (T 83) (.c (.bool false)), none, [0, 1, 2, 3, 4, 5, 6, 7, 8, 9, 10, 11, 12, 13, 14, 15, 16, 17, 18, 19, 20, 21, 22, 23, 24, 25, 26]⟩, ⟨(some 85), .mov (T 84), none, [0, 1, 2, 3, 4, 5, 6, 7, 8, 9, 10, 11, 12, 13, 14, 15, 16, 17, 18, 19, 20, 21, 22, 23, 24, 25, 26, 27]⟩, ⟨(some 86), .mov (T 9), (some (85, true)), [0, 1, 2, 3, 4, 5, 6, 7, 8, 9, 10, 11, 12, 13, 14, 15, 16, 17, 18, 19, 20, 21, 22, 23, 24, 25, 26, 27, 28]⟩, ⟨(some 87), .bin .eql (T 86) (I 0), (some (85, true)), [0, 1, 2, 3, 4, 5, 6, 7, 8, 9, 10, 11, 12, 13, 14, 15, 16, 17, 18, 19, 20, 21, 22, 23, 24, 25, 26, 27, 28, 29]⟩, ⟨(some 88), .pick (T 85) (T 87) (.c (.bool false)), none, [0, 1, 2, 3, 4, 5, 6, 7, 8, 9, 10, 11, 12, 13, 14, 15, 16, 17, 18, 19, 20, 21, 22, 23, 24, 25, 26, 27, 28, 29, 30]⟩, ⟨(some 89), .mov (T 88), none, [0, 1, 2, 3, 4, 5, 6, 7, 8, 9, 10, 11, 12, 13, 14, 15, 16, 17, 18, 19, 20, 21, 22, 23, 24, 25, 26, 27, 28, 29, 30, 31]⟩, ⟨(some 90), .mov (T 12), (some (89, true)), [0, 1, 2, 3, 4, 5, 6, 7, 8, 9, 10, 11, 12, 13, 14, 15, 16, 17, 18, 19, 20, 21, 22, 23, 24, 25, 26, 27, 28, 29, 30, 31, 32]⟩, ⟨(some 91), .bin .eql (T 90) (I 2), (some (89, true)), [0, 1, 2, 3, 4, 5, 6, 7, 8, 9, 10, 11, 12, 13, 14, 15, 16, 17, 18, 19, 20, 21, 22, 23, 24, 25, 26, 27, 28, 29, 30, 31, 32, 33]⟩, ⟨(some 92), .pick (T 89) (T 91) (.c (.bool false)), none, [0, 1, 2, 3, 4, 5, 6, 7, 8, 9, 10, 11, 12, 13, 14, 15, 16, 17, 18, 19, 20, 21, 22, 23, 24, 25, 26, 27, 28, 29, 30, 31, 32, 33, 34]⟩, ⟨(some 93), .mov (T 92), none, [0, 1, 2, 3, 4, 5, 6, 7, 8, 9, 10, 11, 12, 13, 14, 15, 16, 17, 18, 19, 20, 21, 22, 23, 24, 25, 26, 27, 28, 29, 30, 31, 32, 33, 34, 35]⟩, ⟨(some 94), .call 11 [(I (-1))] 23, (some (93, true)), [0, 1, 2, 3, 4, 5, 6, 7, 8, 9, 10, 11, 12, 13, 14, 15, 16, 17, 18, 19, 20, 21, 22, 23, 24, 25, 26, 27, 28, 29, 30, 31, 32, 33, 34, 35, 36]⟩, ⟨(some 95), .b2s (T 94), (some (93, true)), [0, 1, 2, 3, 4, 5, 6, 7, 8, 9, 10, 11, 12, 13, 14, 15, 16, 17, 18, 19, 20, 21, 22, 23, 24, 25, 26, 27, 28, 29, 30, 31, 32, 33, 34, 35, 36, 37]⟩, ⟨(some 96), .bin .eql (T 95) (.c (.str [1])), (some (93, true)), [0, 1, 2, 3, 4, 5, 6, 7, 8, 9, 10, 11, 12, 13, 14, 15, 16, 17, 18, 19, 20, 21, 22, 23, 24, 25, 26, 27, 28, 29, 30, 31, 32, 33, 34, 35, 36, 37, 38]⟩, ⟨(some 97), .pick (T 93) (T 96) (.c (.bool false)), none, [0, 1, 2, 3, 4, 5, 6, 7, 8, 9, 10, 11, 12, 13, 14, 15, 16, 17, 18, 19, 20, 21, 22, 23, 24, 25, 26, 27, 28, 29, 30, 31, 32, 33, 34, 35, 36, 37, 38, 39]⟩, ⟨(some 98), .mov (T 97), none, [0, 1, 2, 3, 4, 5, 6, 7, 8, 9, 10, 11, 12, 13, 14, 15, 16, 17, 18, 19, 20, 21, 22, 23, 24, 25, 26, 27, 28, 29, 30, 31, 32, 33, 34, 35, 36, 37, 38, 39, 40]⟩, ⟨(some 99), .mov (T 15), (some (98, true)), [0, 1, 2, 3, 4, 5, 6, 7, 8, 9, 10, 11, 12, 13, 14, 15, 16, 17, 18, 19, 20, 21, 22, 23, 24, 25, 26, 27, 28, 29, 30, 31, 32, 33, 34, 35, 36, 37, 38, 39, 40, 41]⟩, ⟨(some 100), .bin .eql (T 99) (I 0), (some (98, true)), [0, 1, 2, 3, 4, 5, 6, 7, 8, 9, 10, 11, 12, 13, 14, 15, 16, 17, 18, 19, 20, 21, 22, 23, 24, 25, 26, 27, 28, 29, 30, 31, 32, 33, 34, 35, 36, 37, 38, 39, 40, 41, 42]⟩, ⟨(some 101), .pick (T 98) (T 100) (.c (.bool false)), none, [0, 1, 2, 3, 4, 5, 6, 7, 8, 9, 10, 11, 12, 13, 14, 15, 16, 17, 18, 19, 20, 21, 22, 23, 24, 25, 26, 27, 28, 29, 30, 31, 32, 33, 34, 35, 36, 37, 38, 39, 40, 41, 42, 43]⟩, ⟨(some 102), .mov (T 101), none, [0, 1, 2, 3, 4, 5, 6, 7, 8, 9, 10, 11, 12, 13, 14, 15, 16, 17, 18, 19, 20, 21, 22, 23, 24, 25, 26, 27, 28, 29, 30, 31, 32, 33, 34, 35, 36, 37, 38, 39, 40, 41, 42, 43, 44]⟩, ⟨(some 103), .mov (T 14), (some (102, true)), [0, 1, 2, 3, 4, 5, 6, 7, 8, 9, 10, 11, 12, 13, 14, 15, 16, 17, 18, 19, 20, 21, 22, 23, 24, 25, 26, 27, 28, 29, 30, 31, 32, 33, 34, 35, 36, 37, 38, 39, 40, 41, 42, 43, 44, 45]⟩, ⟨(some 104), .b2s (T 103), (some (102, true)), [0, 1, 2, 3, 4, 5, 6, 7, 8, 9, 10, 11, 12, 13, 14, 15, 16, 17, 18, 19, 20, 21, 22, 23, 24, 25, 26, 27, 28, 29, 30, 31, 32, 33, 34, 35, 36, 37, 38, 39, 40, 41, 42, 43, 44, 45, 46]⟩, ⟨(some 105), .bin .eql (T 104) (.c (.str [2, 2, 1, 0, 0, 0])), (some (102, true)), [0, 1, 2, 3, 4, 5, 6, 7, 8, 9, 10, 11, 12, 13, 14, 15, 16, 17, 18, 19, 20, 21, 22, 23, 24, 25, 26, 27, 28, 29, 30, 31, 32, 33, 34, 35, 36, 37, 38, 39, 40, 41, 42, 43, 44, 45, 46, 47]⟩, ⟨(some 106), .pick (T 102) (T 105) (.c (.bool false)), none, [0, 1, 2, 3, 4, 5, 6, 7, 8, 9, 10, 11, 12, 13, 14, 15, 16, 17, 18, 19, 20, 21, 22, 23, 24, 25, 26, 27, 28, 29, 30, 31, 32, 33, 34, 35, 36, 37, 38, 39, 40, 41, 42, 43, 44, 45, 46, 47, 48]⟩, ⟨(some 107), .mov (T 106), none, [0, 1, 2, 3, 4, 5, 6, 7, 8, 9, 10, 11, 12, 13, 14, 15, 16, 17, 18, 19, 20, 21, 22, 23, 24, 25, 26, 27, 28, 29, 30, 31, 32, 33, 34, 35, 36, 37, 38, 39, 40, 41, 42, 43, 44, 45, 46, 47, 48, 49]⟩, ⟨(some 108), .mov (T 17), (some (107, true)), [0, 1, 2, 3, 4, 5, 6, 7, 8, 9, 10, 11, 12, 13, 14, 15, 16, 17, 18, 19, 20, 21, 22, 23, 24, 25, 26, 27, 28, 29, 30, 31, 32, 33, 34, 35, 36, 37, 38, 39, 40, 41, 42, 43, 44, 45, 46, 47, 48, 49, 50]⟩, ⟨(some 109), .bin .eql (T 108) (I 0), (some (107, true)), [0, 1, 2, 3, 4, 5, 6, 7, 8, 9, 10, 11, 12, 13, 14, 15, 16, 17, 18, 19, 20, 21, 22, 23, 24, 25, 26, 27, 28, 29, 30, 31, 32, 33, 34, 35, 36, 37, 38, 39, 40, 41, 42, 43, 44, 45, 46, 47, 48, 49, 50, 51]⟩, ⟨(some 110), .pick (T 107) (T 109) (.c (.bool false)), none, [0, 1, 2, 3, 4, 5, 6, 7, 8, 9, 10, 11, 12, 13, 14, 15, 16, 17, 18, 19, 20, 21, 22, 23, 24, 25, 26, 27, 28, 29, 30, 31, 32, 33, 34, 35, 36, 37, 38, 39, 40, 41, 42, 43, 44, 45, 46, 47, 48, 49, 50, 51, 52]⟩, ⟨(some 111), .mov (T 110), none, [0, 1, 2, 3, 4, 5, 6, 7, 8, 9, 10, 11, 12, 13, 14, 15, 16, 17, 18, 19, 20, 21, 22, 23, 24, 25, 26, 27, 28, 29, 30, 31, 32, 33, 34, 35, 36, 37, 38, 39, 40, 41, 42, 43, 44, 45, 46, 47, 48, 49, 50, 51, 52, 53]⟩, ⟨(some 112), .mov (T 16), (some (111, true)), [0, 1, 2, 3, 4, 5, 6, 7, 8, 9, 10, 11, 12, 13, 14, 15, 16, 17, 18, 19, 20, 21, 22, 23, 24, 25, 26, 27, 28, 29, 30, 31, 32, 33, 34, 35, 36, 37, 38, 39, 40, 41, 42, 43, 44, 45, 46, 47, 48, 49, 50, 51, 52, 53, 54]⟩, ⟨(some 113), .mov (T 13), (some (111, true)), [0, 1, 2, 3, 4, 5, 6, 7, 8, 9, 10, 11, 12, 13, 14, 15, 16, 17, 18, 19, 20, 21, 22, 23, 24, 25, 26, 27, 28, 29, 30, 31, 32, 33, 34, 35, 36, 37, 38, 39, 40, 41, 42, 43, 44, 45, 46, 47, 48, 49, 50, 51, 52, 53, 54]⟩, ⟨(some 114), .call 28 [(T 112), (T 113)] 23, (some (111, true)), [0, 1, 2, 3, 4, 5, 6, 7, 8, 9, 10, 11, 12, 13, 14, 15, 16, 17, 18, 19, 20, 21, 22, 23, 24, 25, 26, 27, 28, 29, 30, 31, 32, 33, 34, 35, 36, 37, 38, 39, 40, 41, 42, 43, 44, 45, 46, 47, 48, 49, 50, 51, 52, 53, 54, 55, 56]⟩, ⟨(some 115), .pick (T 111) (T 114) (.c (.bool false)), none, [0, 1, 2, 3, 4, 5, 6, 7, 8, 9, 10, 11, 12, 13, 14, 15, 16, 17, 18, 19, 20, 21, 22, 23, 24, 25, 26, 27, 28, 29, 30, 31, 32, 33, 34, 35, 36, 37, 38, 39, 40, 41, 42, 43, 44, 45, 46, 47, 48, 49, 50, 51, 52, 53, 54, 55, 56, 57]⟩, ⟨(some 0), .mov (T 115), none, [0, 1, 2, 3, 4, 5, 6, 7, 8, 9, 10, 11, 12, 13, 14, 15, 16, 17, 18, 19, 20, 21, 22, 23, 24, 25, 26, 27, 28, 29, 30, 31, 32, 33, 34, 35, 36, 37, 38, 39, 40, 41, 42, 43, 44, 45, 46, 47, 48, 49, 50, 51, 52, 53, 54, 55, 56, 57, 58]⟩] true)
           .ret)))))))))), none⟩
def f_wire_Number : IFun := ⟨26, 4, true, [true], [.tmp 2],
 (.seq
  (.reg [o 2 (.mov (.c .nils))] false)
  (.seq
   (.reg [o 4 (.mov (T 0)), o 5 (.toInt .u64 (T 4)), o 6 (.bin .shl (T 5) (.c (.int .u64 1))), o 7 (.mov (T 0)), o 8 (.bin .shr (T 7) (.c (.int .u64 63))), o 9 (.toInt .u64 (T 8)), o 10 (.bin .xor (T 6) (T 9)), o 3 (.mov (T 10))] false)
   (.seq
    (.block 0
     (.loop
      (.seq
       (.seq
        (.reg [o 11 (.mov (T 3)), o 12 (.bin .geq (T 11) (.c (.int .u64 128)))] false)
        (.cond (T 12)
         .skip
         (.exit 0)))
       (.seq
        (.block 1
         (.reg [o 15 (.mov (T 2)), o 16 (.mov (T 3)), o 17 (.toInt .u8 (T 16)), o 18 (.bin .or (T 17) (.c (.int .u8 128))), o 19 (.buildSlice none [(T 18)] 0), o 20 (.append 1 (T 15) (T 19) 1), o 2 (.mov (T 20))] false))
        (.reg [o 13 (.mov (T 3)), o 14 (.bin .shr (T 13) (.c (.int .u64 7))), o 3 (.mov (T 14))] false)))))
    (.seq
     (.reg [o 21 (.mov (T 2)), o 22 (.mov (T 3)), o 23 (.toInt .u8 (T 22)), o 24 (.buildSlice none [(T 23)] 2), o 25 (.append 1 (T 21) (T 24) 3), o 2 (.mov (T 25))] false)
     .ret)))), none⟩
def f_wire_Take : IFun := ⟨59, 0, true, [true], [.tmp 2, .tmp 3, .tmp 4],
 (.seq
  (.reg [o 2 (.mov (I 0)), o 3 (.mov (I 0)), o 4 (.mov (I 0))] false)
  (.seq
   (.reg [o 5 (.mov (.c (.int .u64 0)))] false)
   (.seq
    (.seq
     (.reg [o 10 (.mov (T 0)), o 11 (.len (T 10)), o 12 (.mov (I 0))] false)
     (.block 0
      (.loop
       (.seq
        (.reg [o 13 (.bin .lss (T 12) (T 11))] false)
        (.seq
         (.cond (T 13)
          .skip
          (.exit 0))
         (.seq
          (.block 1
           (.seq
            (.reg [o 14 (.mov (T 12)), o 15 (.indexAddr 1 (T 10) (T 12)), o 16 (.load none (T 15)), o 6 (.mov (T 14)), o 7 (.mov (T 16))] false)
            (.seq
             (.reg [o 17 (.mov (T 7)), o 18 (.toInt .u64 (T 17)), o 19 (.bin .andNot (T 18) (.c (.int .u64 128))), o 8 (.mov (T 19))] false)
             (.seq
              (.seq
               (.reg [o 20 (.mov (T 6)), o 21 (.bin .mul (I 7) (T 20)), o 9 (.mov (T 21))] false)
               (.block 2
                (.seq
                 (.seq
                  (.reg [o 28 (.mov (T 9)), o 29 (.bin .geq (T 28) (I 64)), o 27 (.mov (T 29))] false)
                  (.cond (T 27)
                   .skip
                   (.seq
                    (.reg [o 30 (.mov (T 9)), o 31 (.bin .add (T 30) (I 7)), o 32 (.bin .gtr (T 31) (I 64)), o 33 (.mov (T 32)), og (some 34) (.mov (T 8)) 33 true, og (some 35) (.mov (T 9)) 33 true, og (some 36) (.bin .sub (I 64) (T 35)) 33 true, og (some 37) (.bin .shr (T 34) (T 36)) 33 true, og (some 38) (.bin .neq (T 37) (.c (.int .u64 0))) 33 true, o 39 (.pick (T 33) (T 38) (.c (.bool false))), o 27 (.mov (T 39))] false)
                    (.cond (T 27)
                     .skip
                     (.reg [o 40 (.mov (T 7)), o 41 (.bin .eql (T 40) (.c (.int .u8 0))), o 42 (.mov (T 41)), og (some 43) (.mov (T 6)) 42 true, og (some 44) (.bin .gtr (T 43) (I 0)) 42 true, o 45 (.pick (T 42) (T 44) (.c (.bool false))), o 27 (.mov (T 45))] false)))))
                 (.cond (T 27)
                  (.seq
                   (.reg [o 2 (.mov (I 0)), o 3 (.mov (I 0)), o 4 (.mov (I 2))] false)
                   .ret)
                  (.reg [o 22 (.mov (T 5)), o 23 (.mov (T 8)), o 24 (.mov (T 9)), o 25 (.bin .shl (T 23) (T 24)), o 26 (.bin .or (T 22) (T 25)), o 5 (.mov (T 26))] false)))))
              (.seq
               (.reg [o 46 (.mov (T 7)), o 47 (.bin .lss (T 46) (.c (.int .u8 128)))] false)
               (.cond (T 47)
                (.seq
                 (.reg [o 48 (.mov (T 5)), o 49 (.bin .shr (T 48) (.c (.int .u64 1))), o 50 (.toInt .i64 (T 49)), o 51 (.mov (T 5)), o 52 (.bin .and (T 51) (.c (.int .u64 1))), o 53 (.toInt .i64 (T 52)), o 54 (.un .neg (T 53)), o 55 (.bin .xor (T 50) (T 54)), o 56 (.mov (T 6)), o 57 (.bin .add (T 56) (I 1)), o 2 (.mov (T 55)), o 3 (.mov (T 57)), o 4 (.mov (I 0))] false)
                 .ret)
                .skip))))))
          (.reg [o 58 (.bin .add (T 12) (I 1)), o 12 (.mov (T 58))] false)))))))
    (.seq
     (.reg [o 2 (.mov (I 0)), o 3 (.mov (I 0)), o 4 (.mov (I 2))] false)
     .ret)))), none⟩
def f_wire_Encode : IFun := ⟨53, 8, true, [true], [.tmp 2, .tmp 3],
 (.seq
  (.reg [o 1 (.box (some 11) (T 0) 0), o 2 (.mov (.c .nils)), o 3 (.mov (I 0))] false)
  (.seq
   (.reg [⟨(some 7), .buildSlice none [(.c (.int .u8 71)), (.c (.int .u8 65)), (.c (.int .u8 86)), (.c (.int .u8 49))] 1, none, []⟩, ⟨(some 8), .same (T 7), none, [0]⟩, ⟨(some 9), .fieldAddr (T 1) 0, none, []⟩, ⟨(some 10), .load (some 4) (T 9), none, [2]⟩, ⟨(some 11), .call 49 [(T 8), (T 10)] 2, none, [0, 1, 2, 3]⟩, ⟨(some 12), .fieldAddr (T 1) 4, none, []⟩, ⟨(some 13), .load none (T 12), none, [5]⟩, ⟨(some 14), .len (T 13), none, [5, 6]⟩, ⟨(some 15), .buildSlice none [(T 14)] 3, none, [5, 6, 7]⟩, ⟨(some 16), .call 48 [(T 11), (T 15)] 4, none, [0, 1, 2, 3, 4, 5, 6, 7, 8]⟩, ⟨(some 4), .mov (T 16), none, [0, 1, 2, 3, 4, 5, 6, 7, 8, 9]⟩] true)
   (.seq
    (.seq
     (.reg [o 17 (.fieldAddr (T 1) 4), o 18 (.load none (T 17)), o 19 (.len (T 18)), o 20 (.mov (I 0))] false)
     (.block 0
      (.loop
       (.seq
        (.reg [o 21 (.bin .lss (T 20) (T 19))] false)
        (.seq
         (.cond (T 21)
          .skip
          (.exit 0))
         (.seq
          (.block 1
           (.seq
            (.reg [o 22 (.indexAddr 1 (T 18) (T 20)), o 23 (.load none (T 22)), o 6 (.mov (T 23))] false)
            (.reg [o 24 (.mov (T 4)), o 25 (.mov (T 6)), o 26 (.call 50 [(T 24), (T 25)] 5), o 4 (.mov (T 26))] false)))
          (.reg [o 27 (.bin .add (T 20) (I 1)), o 20 (.mov (T 27))] false)))))))
    (.seq
     (.reg [o 28 (.mov (T 4)), o 29 (.fieldAddr (T 1) 5), o 30 (.fieldAddr (T 29) 0), o 31 (.load none (T 30)), o 32 (.fieldAddr (T 1) 5), o 33 (.fieldAddr (T 32) 1), o 34 (.load none (T 33)), o 35 (.fieldAddr (T 1) 5), o 36 (.fieldAddr (T 35) 2), o 37 (.load none (T 36)), o 38 (.fieldAddr (T 1) 5), o 39 (.fieldAddr (T 38) 3), o 40 (.load none (T 39)), o 41 (.fieldAddr (T 1) 9), o 42 (.fieldAddr (T 41) 0), o 43 (.load none (T 42)), o 44 (.fieldAddr (T 1) 9), o 45 (.fieldAddr (T 44) 1), o 46 (.load none (T 45)), o 47 (.buildSlice none [(T 31), (T 34), (T 37), (T 40), (T 43), (T 46)] 6), o 48 (.call 48 [(T 28), (T 47)] 7), o 4 (.mov (T 48))] false)
     (.seq
      (.seq
       (.reg [o 49 (.mov (T 4)), o 50 (.len (T 49)), o 51 (.bin .gtr (T 50) (I 65536))] false)
       (.cond (T 51)
        (.seq
         (.reg [o 2 (.mov (.c .nils)), o 3 (.mov (I 3))] false)
         .ret)
        .skip))
      (.seq
       (.reg [o 52 (.mov (T 4)), o 2 (.mov (T 52)), o 3 (.mov (I 0))] false)
       .ret)))))), none⟩
def f_wire_Decode : IFun := ⟨48, 5, true, [true], [.cell (some 11) 2, .tmp 3],
 (.seq
  (.reg [o 2 (.box (some 11) (.c (.agg [.nils, .nils, .nils, (.int .i64 0), .nils, (.int .i64 0), (.int .i64 0), (.int .i64 0), (.int .i64 0), (.int .i64 0), (.int .i64 0)])) 0), o 3 (.mov (I 0))] false)
  (.seq
   (.seq
    (.reg [o 6 (.mov (T 0)), o 7 (.len (T 6)), o 8 (.bin .gtr (T 7) (I 65536))] false)
    (.cond (T 8)
     (.seq
      (.reg [o 9 (.build [.nils, .nils, .nils, (.int .i64 0), .nils, (.int .i64 0), (.int .i64 0), (.int .i64 0), (.int .i64 0), (.int .i64 0), (.int .i64 0)] []), u (.store (some 11) (T 2) (T 9)), o 3 (.mov (I 3))] false)
      .ret)
     .skip))
   (.seq
    (.reg [o 10 (.mov (T 0)), o 11 (.call 54 [(T 10), (.c (.str [71, 65, 86, 49]))] 1), o 4 (.mov (T 11))] false)
    (.seq
     (.reg [o 12 (.mov (T 4)), o 13 (.call 55 [(T 12)] 2), o 14 (.build [.nils, .nils, .nils, (.int .i64 0), .nils, (.int .i64 0), (.int .i64 0), (.int .i64 0), (.int .i64 0), (.int .i64 0), (.int .i64 0)] [(0, (some 4), (T 13))]), o 5 (.box (some 11) (.c (.agg [.nils, .nils, .nils, (.int .i64 0), .nils, (.int .i64 0), (.int .i64 0), (.int .i64 0), (.int .i64 0), (.int .i64 0), (.int .i64 0)])) 2), u (.store (some 11) (T 5) (T 14))] false)
     (.seq
      (.seq
       (.reg [o 15 (.mov (T 4)), o 16 (.call 56 [(T 15)] 3), o 17 (.mov (I 0))] false)
       (.block 0
        (.loop
         (.seq
          (.reg [o 18 (.bin .lss (T 17) (T 16))] false)
          (.seq
           (.cond (T 18)
            .skip
            (.exit 0))
           (.seq
            (.block 1
             (.reg [⟨(some 19), .fieldAddr (T 5) 4, none, []⟩, ⟨(some 20), .load none (T 19), none, [0]⟩, ⟨(some 21), .mov (T 4), none, []⟩, ⟨(some 22), .call 57 [(T 21)] 3, none, [2]⟩, ⟨(some 23), .buildSlice none [(T 22)] 3, none, [2, 3]⟩, ⟨(some 24), .append 1 (T 20) (T 23) 4, none, [0, 1, 2, 3, 4]⟩, ⟨(some 25), .fieldAddr (T 5) 4, none, [0, 1, 2, 3, 4, 5]⟩, ⟨none, .store none (T 25) (T 24), none, [0, 1, 2, 3, 4, 5, 6]⟩] true))
            (.reg [o 26 (.bin .add (T 17) (I 1)), o 17 (.mov (T 26))] false)))))))
      (.seq
       (.reg [o 27 (.mov (T 4)), o 28 (.call 58 [(T 27)] 5), o 29 (.mov (T 4)), o 30 (.call 58 [(T 29)] 5), o 31 (.mov (T 4)), o 32 (.call 58 [(T 31)] 5), o 33 (.mov (T 4)), o 34 (.call 58 [(T 33)] 5), o 35 (.build [(.int .i64 0), (.int .i64 0), (.int .i64 0), (.int .i64 0)] [(0, none, (T 28)), (1, none, (T 30)), (2, none, (T 32)), (3, none, (T 34))]), o 36 (.fieldAddr (T 5) 5), u (.store (some 4) (T 36) (T 35))] false)
       (.seq
        (.reg [o 37 (.mov (T 4)), o 38 (.call 58 [(T 37)] 5), o 39 (.mov (T 4)), o 40 (.call 58 [(T 39)] 5), o 41 (.build [(.int .i64 0), (.int .i64 0)] [(0, none, (T 38)), (1, none, (T 40))]), o 42 (.fieldAddr (T 5) 9), u (.store (some 2) (T 42) (T 41))] false)
        (.seq
         (.seq
          (.reg [o 43 (.mov (T 4)), o 44 (.call 59 [(T 43)] 5), o 45 (.un .not (T 44))] false)
          (.cond (T 45)
           (.seq
            (.reg [o 46 (.build [.nils, .nils, .nils, (.int .i64 0), .nils, (.int .i64 0), (.int .i64 0), (.int .i64 0), (.int .i64 0), (.int .i64 0), (.int .i64 0)] []), u (.store (some 11) (T 2) (T 46)), o 3 (.mov (I 2))] false)
            .ret)
           .skip))
         (.seq
          (.reg [o 47 (.load (some 11) (T 5)), u (.store (some 11) (T 2) (T 47)), o 3 (.mov (I 0))] false)
          .ret))))))))), none⟩
def f_wire_Same : IFun := ⟨33, 2, true, [true, true], [.tmp 4],
 (.seq
  (.reg [o 2 (.box (some 11) (T 0) 0), o 3 (.box (some 11) (T 1) 1), o 4 (.mov (.c (.bool false)))] false)
  (.seq
   (.reg [o 5 (.mov (.c (.fn 66 [])))] false)
   (.seq
    (.reg [o 6 (.fieldAddr (T 2) 0), o 7 (.load (some 4) (T 6)), o 8 (.fieldAddr (T 3) 0), o 9 (.load (some 4) (T 8)), o 10 (.call 68 [(T 7), (T 9)] 2), o 11 (.mov (T 10)), og (some 12) (.fieldAddr (T 2) 4) 11 true, og (some 13) (.load none (T 12)) 11 true, og (some 14) (.fieldAddr (T 3) 4) 11 true, og (some 15) (.load none (T 14)) 11 true, og (some 16) (.mov (T 5)) 11 true, og (some 17) (.call 69 [(T 13), (T 15), (T 16)] 2) 11 true, o 18 (.pick (T 11) (T 17) (.c (.bool false))), o 19 (.mov (T 18)), og (some 20) (.fieldAddr (T 2) 5) 19 true, og (some 21) (.load (some 4) (T 20)) 19 true, og (some 22) (.fieldAddr (T 3) 5) 19 true, og (some 23) (.load (some 4) (T 22)) 19 true, og (some 24) (.eqs false [false, false, false, false] (T 21) (T 23)) 19 true, o 25 (.pick (T 19) (T 24) (.c (.bool false))), o 26 (.mov (T 25)), og (some 27) (.fieldAddr (T 2) 9) 26 true, og (some 28) (.load (some 2) (T 27)) 26 true, og (some 29) (.fieldAddr (T 3) 9) 26 true, og (some 30) (.load (some 2) (T 29)) 26 true, og (some 31) (.eqs false [false, false] (T 28) (T 30)) 26 true, o 32 (.pick (T 26) (T 31) (.c (.bool false))), o 4 (.mov (T 32))] false)
    .ret))), none⟩
def f_alike_Round : IFun := ⟨12, 0, true, [true, true], [.tmp 4],
 (.seq
  (.reg [o 4 (.mov (I 0))] false)
  (.seq
   (.reg [o 5 (.mov (T 0)), o 6 (.mov (T 1)), o 7 (.bin .rem (T 5) (T 6)), o 8 (.mov (T 1)), o 9 (.bin .add (T 7) (T 8)), o 10 (.mov (T 1)), o 11 (.bin .rem (T 9) (T 10)), o 4 (.mov (T 11))] false)
   .ret)), none⟩
def f_wire_Path : IFun := ⟨38, 5, true, [true], [.tmp 2, .tmp 3],
 (.seq
  (.reg [o 2 (.mov (.c .nils)), o 3 (.mov (I 0))] false)
  (.seq
   (.seq
    (.reg [o 7 (.mov (T 0)), o 8 (.len (T 7)), o 9 (.bin .gtr (T 8) (I 1000))] false)
    (.cond (T 9)
     (.seq
      (.reg [o 2 (.mov (.c .nils)), o 3 (.mov (I 3))] false)
      .ret)
     .skip))
   (.seq
    (.reg [o 10 (.mov (T 0)), o 11 (.len (T 10)), o 12 (.buildSlice none [(T 11)] 0), o 13 (.call 48 [(.c .nils), (T 12)] 1), o 4 (.mov (T 13))] false)
    (.seq
     (.seq
      (.reg [o 14 (.mov (T 0)), o 15 (.len (T 14)), o 16 (.mov (I 0))] false)
      (.block 0
       (.loop
        (.seq
         (.reg [o 17 (.bin .lss (T 16) (T 15))] false)
         (.seq
          (.cond (T 17)
           .skip
           (.exit 0))
          (.seq
           (.block 1
            (.seq
             (.reg [o 18 (.indexAddr 5 (T 14) (T 16)), o 19 (.load (some 5) (T 18)), o 6 (.box (some 5) (.c (.agg [(.int .i64 0), (.int .i64 0), (.int .i64 0), (.int .i64 0), (.int .i64 0)])) 2), u (.store (some 5) (T 6) (T 19))] false)
             (.reg [o 20 (.mov (T 4)), o 21 (.fieldAddr (T 6) 0), o 22 (.load none (T 21)), o 23 (.fieldAddr (T 6) 1), o 24 (.fieldAddr (T 23) 0), o 25 (.load none (T 24)), o 26 (.fieldAddr (T 6) 1), o 27 (.fieldAddr (T 26) 1), o 28 (.load none (T 27)), o 29 (.fieldAddr (T 6) 1), o 30 (.fieldAddr (T 29) 2), o 31 (.load none (T 30)), o 32 (.fieldAddr (T 6) 4), o 33 (.load none (T 32)), o 34 (.buildSlice none [(T 22), (T 25), (T 28), (T 31), (T 33)] 3), o 35 (.call 48 [(T 20), (T 34)] 4), o 4 (.mov (T 35))] false)))
           (.reg [o 36 (.bin .add (T 16) (I 1)), o 16 (.mov (T 36))] false)))))))
     (.seq
      (.reg [o 37 (.mov (T 4)), o 2 (.mov (T 37)), o 3 (.mov (I 0))] false)
      .ret))))), none⟩
def f_wire_Events : IFun := ⟨29, 1, true, [true], [.tmp 2, .tmp 3],
 (.seq
  (.reg [o 2 (.mov (.c .nils)), o 3 (.mov (I 0))] false)
  (.seq
   (.seq
    (.reg [o 10 (.mov (T 0)), o 11 (.call 12 [(T 10)] 0), o 9 (.mov (T 11)), o 12 (.extract (T 9) 0), o 13 (.extract (T 9) 1), o 14 (.extract (T 9) 2), o 4 (.mov (T 12)), o 5 (.mov (T 13)), o 6 (.mov (T 14))] false)
    (.seq
     (.reg [o 15 (.mov (T 6)), o 16 (.bin .eql (T 15) (I 0)), o 17 (.mov (T 16)), og (some 18) (.mov (T 4)) 17 true, og (some 19) (.bin .gtr (T 18) (I 1000)) 17 true, o 20 (.pick (T 17) (T 19) (.c (.bool false)))] false)
     (.cond (T 20)
      (.seq
       (.reg [o 2 (.mov (.c .nils)), o 3 (.mov (I 3))] false)
       .ret)
      .skip)))
   (.seq
    (.reg [o 21 (.mov (T 0)), o 22 (.call 54 [(T 21), (.c (.str []))] 0), o 7 (.mov (T 22))] false)
    (.seq
     (.reg [o 23 (.mov (T 7)), o 24 (.call 71 [(T 23)] 1), o 8 (.mov (T 24))] false)
     (.seq
      (.seq
       (.reg [o 25 (.mov (T 7)), o 26 (.call 59 [(T 25)] 1), o 27 (.un .not (T 26))] false)
       (.cond (T 27)
        (.seq
         (.reg [o 2 (.mov (.c .nils)), o 3 (.mov (I 2))] false)
         .ret)
        .skip))
      (.seq
       (.reg [o 28 (.mov (T 8)), o 2 (.mov (T 28)), o 3 (.mov (I 0))] false)
       .ret)))))), none⟩
def f_alike_Events : IFun := ⟨26, 0, true, [true, true], [.tmp 4],
 (.seq
  (.reg [o 4 (.mov (.c (.bool false)))] false)
  (.seq
   (.seq
    (.reg [o 6 (.mov (T 0)), o 7 (.len (T 6)), o 8 (.mov (T 1)), o 9 (.len (T 8)), o 10 (.bin .neq (T 7) (T 9))] false)
    (.cond (T 10)
     (.seq
      (.reg [o 4 (.mov (.c (.bool false)))] false)
      .ret)
     .skip))
   (.seq
    (.seq
     (.reg [o 5 (.mov (I 0))] false)
     (.block 0
      (.loop
       (.seq
        (.seq
         (.reg [o 11 (.mov (T 5)), o 12 (.mov (T 0)), o 13 (.len (T 12)), o 14 (.bin .lss (T 11) (T 13))] false)
         (.cond (T 14)
          .skip
          (.exit 0)))
        (.seq
         (.block 1
          (.seq
           (.reg [⟨(some 17), .mov (T 0), none, []⟩, ⟨(some 18), .mov (T 5), none, []⟩, ⟨(some 19), .indexAddr 5 (T 17) (T 18), none, [0, 1]⟩, ⟨(some 20), .load (some 5) (T 19), none, [0, 1, 2]⟩, ⟨(some 21), .mov (T 1), none, []⟩, ⟨(some 22), .mov (T 5), none, []⟩, ⟨(some 23), .indexAddr 5 (T 21) (T 22), none, [4, 5]⟩, ⟨(some 24), .load (some 5) (T 23), none, [4, 5, 6]⟩, ⟨(some 25), .eqs true [false, false, false, false, false] (T 20) (T 24), none, [0, 1, 2, 3, 4, 5, 6, 7]⟩] true)
           (.cond (T 25)
            (.seq
             (.reg [o 4 (.mov (.c (.bool false)))] false)
             .ret)
            .skip)))
         (.reg [o 15 (.mov (T 5)), o 16 (.bin .add (T 15) (I 1)), o 5 (.mov (T 16))] false))))))
    (.seq
     (.reg [o 4 (.mov (.c (.bool true)))] false)
     .ret)))), none⟩
def f_law22_one : IFun := ⟨18, 8, false, [], [.cell (some 11) 0],
 (.seq
  (.reg [o 0 (.box (some 11) (.c (.agg [.nils, .nils, .nils, (.int .i64 0), .nils, (.int .i64 0), (.int .i64 0), (.int .i64 0), (.int .i64 0), (.int .i64 0), (.int .i64 0)])) 0)] false)
  (.seq
   (.reg [o 1 (.build [(.int .i64 0), (.int .i64 0)] [(0, none, (I 1)), (1, none, (I (-5)))]), o 2 (.build [(.int .i64 0), (.int .i64 0)] [(0, none, (I 2))]), o 3 (.buildSlice (some 2) [(T 1), (T 2)] 1), o 4 (.build [(.int .i64 0), .nils] [(1, none, (T 3))]), o 5 (.buildSlice (some 2) [(T 4)] 2), o 6 (.buildSlice none [(I 300)] 3), o 7 (.build [.nils, (.int .i64 0), (.int .i64 0), (.bool false)] [(0, none, (T 6)), (1, none, (I 2)), (2, none, (I (-1)))]), o 8 (.buildSlice (some 4) [(T 7)] 4), o 9 (.build [(.int .i64 0), (.int .i64 0), .nils] []), o 10 (.buildSlice (some 3) [(T 9)] 5), o 11 (.build [.nils, .nils, .nils, (.int .i64 0)] [(0, none, (T 5)), (1, none, (T 8)), (2, none, (T 10)), (3, none, (I 9))]), o 12 (.build [(.int .i64 0), (.int .i64 0)] [(0, none, (I 1)), (1, none, (I 1))]), o 13 (.buildSlice (some 2) [(T 12)] 6), o 14 (.buildSlice none [(T 13)] 7), o 15 (.build [(.int .i64 0), (.int .i64 0), (.int .i64 0), (.int .i64 0)] [(0, none, (I 1))]), o 16 (.build [(.int .i64 0), (.int .i64 0)] [(0, none, (I 4)), (1, none, (I 70))]), o 17 (.build [.nils, .nils, .nils, (.int .i64 0), .nils, (.int .i64 0), (.int .i64 0), (.int .i64 0), (.int .i64 0), (.int .i64 0), (.int .i64 0)] [(0, (some 4), (T 11)), (4, none, (T 14)), (5, (some 4), (T 15)), (9, (some 2), (T 16))]), u (.store (some 11) (T 0) (T 17))] false)
   .ret)), none⟩
def f_wire_put : IFun := ⟨19, 1, false, [false, true], [.tmp 4],
 (.seq
  (.reg [o 4 (.mov (.c .nils))] false)
  (.seq
   (.seq
    (.reg [o 7 (.mov (T 1)), o 8 (.len (T 7)), o 9 (.mov (I 0))] false)
    (.block 0
     (.loop
      (.seq
       (.reg [o 10 (.bin .lss (T 9) (T 8))] false)
       (.seq
        (.cond (T 10)
         .skip
         (.exit 0))
        (.seq
         (.block 1
          (.seq
           (.reg [o 11 (.indexAddr 1 (T 7) (T 9)), o 12 (.load none (T 11)), o 6 (.mov (T 12))] false)
           (.reg [o 13 (.mov (T 0)), o 14 (.mov (T 6)), o 15 (.call 11 [(T 14)] 0), o 16 (.append 1 (T 13) (T 15) 0), o 0 (.mov (T 16))] false)))
         (.reg [o 17 (.bin .add (T 9) (I 1)), o 9 (.mov (T 17))] false)))))))
   (.seq
    (.reg [o 18 (.mov (T 0)), o 4 (.mov (T 18))] false)
    .ret))), none⟩
def f_wire_putProgram : IFun := ⟨89, 21, false, [false, true], [.tmp 4],
 (.seq
  (.reg [o 3 (.box (some 4) (T 1) 0), o 4 (.mov (.c .nils))] false)
  (.seq
   (.reg [o 11 (.mov (T 0)), o 12 (.fieldAddr (T 3) 0), o 13 (.load none (T 12)), o 14 (.len (T 13)), o 15 (.buildSlice none [(T 14)] 1), o 16 (.call 48 [(T 11), (T 15)] 2), o 0 (.mov (T 16))] false)
   (.seq
    (.seq
     (.reg [o 17 (.fieldAddr (T 3) 0), o 18 (.load none (T 17)), o 19 (.len (T 18)), o 20 (.mov (I 0))] false)
     (.block 0
      (.loop
       (.seq
        (.reg [o 21 (.bin .lss (T 20) (T 19))] false)
        (.seq
         (.cond (T 21)
          .skip
          (.exit 0))
         (.seq
          (.block 1
           (.seq
            (.reg [o 22 (.indexAddr 2 (T 18) (T 20)), o 23 (.load (some 2) (T 22)), o 6 (.box (some 2) (.c (.agg [(.int .i64 0), .nils])) 3), u (.store (some 2) (T 6) (T 23))] false)
            (.reg [⟨(some 24), .mov (T 0), none, []⟩, ⟨(some 25), .fieldAddr (T 6) 0, none, []⟩, ⟨(some 26), .load none (T 25), none, [1]⟩, ⟨(some 27), .buildSlice none [(T 26)] 4, none, [1, 2]⟩, ⟨(some 28), .call 48 [(T 24), (T 27)] 5, none, [0, 1, 2, 3]⟩, ⟨(some 29), .fieldAddr (T 6) 1, none, []⟩, ⟨(some 30), .load none (T 29), none, [5]⟩, ⟨(some 31), .call 50 [(T 28), (T 30)] 6, none, [0, 1, 2, 3, 4, 5, 6]⟩, ⟨(some 0), .mov (T 31), none, [0, 1, 2, 3, 4, 5, 6, 7]⟩] true)))
          (.reg [o 32 (.bin .add (T 20) (I 1)), o 20 (.mov (T 32))] false)))))))
    (.seq
     (.reg [o 33 (.mov (T 0)), o 34 (.fieldAddr (T 3) 1), o 35 (.load none (T 34)), o 36 (.len (T 35)), o 37 (.buildSlice none [(T 36)] 7), o 38 (.call 48 [(T 33), (T 37)] 8), o 0 (.mov (T 38))] false)
     (.seq
      (.seq
       (.reg [o 39 (.fieldAddr (T 3) 1), o 40 (.load none (T 39)), o 41 (.len (T 40)), o 42 (.mov (I 0))] false)
       (.block 2
        (.loop
         (.seq
          (.reg [o 43 (.bin .lss (T 42) (T 41))] false)
          (.seq
           (.cond (T 43)
            .skip
            (.exit 2))
           (.seq
            (.block 3
             (.seq
              (.reg [o 44 (.indexAddr 4 (T 40) (T 42)), o 45 (.load (some 4) (T 44)), o 8 (.box (some 4) (.c (.agg [.nils, (.int .i64 0), (.int .i64 0), (.bool false)])) 9), u (.store (some 4) (T 8) (T 45))] false)
              (.reg [⟨(some 46), .mov (T 0), none, []⟩, ⟨(some 47), .fieldAddr (T 8) 0, none, []⟩, ⟨(some 48), .load none (T 47), none, [1]⟩, ⟨(some 49), .call 85 [(T 46), (T 48)] 10, none, [0, 1, 2]⟩, ⟨(some 50), .fieldAddr (T 8) 1, none, []⟩, ⟨(some 51), .load none (T 50), none, [4]⟩, ⟨(some 52), .fieldAddr (T 8) 2, none, []⟩, ⟨(some 53), .load none (T 52), none, [6]⟩, ⟨(some 54), .fieldAddr (T 8) 3, none, []⟩, ⟨(some 55), .load none (T 54), none, [8]⟩, ⟨(some 56), .call 86 [(T 55)] 11, none, [0, 1, 2, 3, 8, 9]⟩, ⟨(some 57), .buildSlice none [(T 51), (T 53), (T 56)] 11, none, [0, 1, 2, 3, 4, 5, 6, 7, 8, 9, 10]⟩, ⟨(some 58), .call 48 [(T 49), (T 57)] 12, none, [0, 1, 2, 3, 4, 5, 6, 7, 8, 9, 10, 11]⟩, ⟨(some 0), .mov (T 58), none, [0, 1, 2, 3, 4, 5, 6, 7, 8, 9, 10, 11, 12]⟩] true)))
            (.reg [o 59 (.bin .add (T 42) (I 1)), o 42 (.mov (T 59))] false)))))))
      (.seq
       (.reg [o 60 (.mov (T 0)), o 61 (.fieldAddr (T 3) 2), o 62 (.load none (T 61)), o 63 (.len (T 62)), o 64 (.buildSlice none [(T 63)] 13), o 65 (.call 48 [(T 60), (T 64)] 14), o 0 (.mov (T 65))] false)
       (.seq
        (.seq
         (.reg [o 66 (.fieldAddr (T 3) 2), o 67 (.load none (T 66)), o 68 (.len (T 67)), o 69 (.mov (I 0))] false)
         (.block 4
          (.loop
           (.seq
            (.reg [o 70 (.bin .lss (T 69) (T 68))] false)
            (.seq
             (.cond (T 70)
              .skip
              (.exit 4))
             (.seq
              (.block 5
               (.seq
                (.reg [o 71 (.indexAddr 3 (T 67) (T 69)), o 72 (.load (some 3) (T 71)), o 10 (.box (some 3) (.c (.agg [(.int .i64 0), (.int .i64 0), .nils])) 15), u (.store (some 3) (T 10) (T 72))] false)
                (.reg [⟨(some 73), .mov (T 0), none, []⟩, ⟨(some 74), .fieldAddr (T 10) 0, none, []⟩, ⟨(some 75), .load none (T 74), none, [1]⟩, ⟨(some 76), .fieldAddr (T 10) 1, none, []⟩, ⟨(some 77), .load none (T 76), none, [3]⟩, ⟨(some 78), .buildSlice none [(T 75), (T 77)] 16, none, [1, 2, 3, 4]⟩, ⟨(some 79), .call 48 [(T 73), (T 78)] 17, none, [0, 1, 2, 3, 4, 5]⟩, ⟨(some 80), .fieldAddr (T 10) 2, none, []⟩, ⟨(some 81), .load none (T 80), none, [7]⟩, ⟨(some 82), .call 85 [(T 79), (T 81)] 18, none, [0, 1, 2, 3, 4, 5, 6, 7, 8]⟩, ⟨(some 0), .mov (T 82), none, [0, 1, 2, 3, 4, 5, 6, 7, 8, 9]⟩] true)))
              (.reg [o 83 (.bin .add (T 69) (I 1)), o 69 (.mov (T 83))] false)))))))
        (.seq
         (.reg [o 84 (.mov (T 0)), o 85 (.fieldAddr (T 3) 3), o 86 (.load none (T 85)), o 87 (.buildSlice none [(T 86)] 19), o 88 (.call 48 [(T 84), (T 87)] 20), o 4 (.mov (T 88))] false)
         .ret)))))))), none⟩
def f_wire_putCode : IFun := ⟨27, 5, false, [false, true], [.tmp 4],
 (.seq
  (.reg [o 4 (.mov (.c .nils))] false)
  (.seq
   (.reg [o 7 (.mov (T 0)), o 8 (.mov (T 1)), o 9 (.len (T 8)), o 10 (.buildSlice none [(T 9)] 0), o 11 (.call 48 [(T 7), (T 10)] 1), o 0 (.mov (T 11))] false)
   (.seq
    (.seq
     (.reg [o 12 (.mov (T 1)), o 13 (.len (T 12)), o 14 (.mov (I 0))] false)
     (.block 0
      (.loop
       (.seq
        (.reg [o 15 (.bin .lss (T 14) (T 13))] false)
        (.seq
         (.cond (T 15)
          .skip
          (.exit 0))
         (.seq
          (.block 1
           (.seq
            (.reg [o 16 (.indexAddr 2 (T 12) (T 14)), o 17 (.load (some 2) (T 16)), o 6 (.box (some 2) (.c (.agg [(.int .i64 0), (.int .i64 0)])) 2), u (.store (some 2) (T 6) (T 17))] false)
            (.reg [o 18 (.mov (T 0)), o 19 (.fieldAddr (T 6) 0), o 20 (.load none (T 19)), o 21 (.fieldAddr (T 6) 1), o 22 (.load none (T 21)), o 23 (.buildSlice none [(T 20), (T 22)] 3), o 24 (.call 48 [(T 18), (T 23)] 4), o 0 (.mov (T 24))] false)))
          (.reg [o 25 (.bin .add (T 14) (I 1)), o 14 (.mov (T 25))] false)))))))
    (.seq
     (.reg [o 26 (.mov (T 0)), o 4 (.mov (T 26))] false)
     .ret)))), none⟩
def f_wire_Read : IFun := ⟨27, 2, false, [true, true], [.tmp 4],
 (.seq
  (.reg [o 4 (.mov (.c .nilp))] false)
  (.seq
   (.seq
    (.reg [o 5 (.mov (T 0)), o 6 (.len (T 5)), o 7 (.mov (T 1)), o 8 (.lenS (T 7)), o 9 (.bin .lss (T 6) (T 8)), o 10 (.mov (T 9)), og (some 11) (.mov (T 0)) 10 false, og (some 12) (.mov (T 1)) 10 false, og (some 13) (.lenS (T 12)) 10 false, og (some 14) (.slice 1 (T 11) none (some (T 13)) none) 10 false, og (some 15) (.b2s (T 14)) 10 false, og (some 16) (.mov (T 1)) 10 false, og (some 17) (.bin .neq (T 15) (T 16)) 10 false, o 18 (.pick (T 10) (.c (.bool true)) (T 17))] false)
    (.cond (T 18)
     (.seq
      (.reg [o 19 (.build [.nils, (.bool false)] [(1, none, (.c (.bool true)))]), o 20 (.box (some 2) (T 19) 0), o 4 (.mov (T 20))] false)
      .ret)
     .skip))
   (.seq
    (.reg [o 21 (.mov (T 0)), o 22 (.mov (T 1)), o 23 (.lenS (T 22)), o 24 (.slice 1 (T 21) (some (T 23)) none none), o 25 (.build [.nils, (.bool false)] [(0, none, (T 24))]), o 26 (.box (some 2) (T 25) 1), o 4 (.mov (T 26))] false)
    .ret))), none⟩
def f_wire_Reader_program : IFun := ⟨58, 7, true, [true], [.cell (some 4) 2],
 (.seq
  (.reg [o 2 (.box (some 4) (.c (.agg [.nils, .nils, .nils, (.int .i64 0)])) 0)] false)
  (.seq
   (.seq
    (.reg [o 3 (.mov (T 0)), o 4 (.call 56 [(T 3)] 1), o 5 (.mov (I 0))] false)
    (.block 0
     (.loop
      (.seq
       (.reg [o 6 (.bin .lss (T 5) (T 4))] false)
       (.seq
        (.cond (T 6)
         .skip
         (.exit 0))
        (.seq
         (.block 1
          (.reg [⟨(some 7), .fieldAddr (T 2) 0, none, []⟩, ⟨(some 8), .load none (T 7), none, [0]⟩, ⟨(some 9), .mov (T 0), none, []⟩, ⟨(some 10), .call 58 [(T 9)] 1, none, [2]⟩, ⟨(some 11), .mov (T 0), none, []⟩, ⟨(some 12), .call 57 [(T 11)] 1, none, [2, 3, 4]⟩, ⟨(some 13), .build [(.int .i64 0), .nils] [(0, none, (T 10)), (1, none, (T 12))], none, [2, 3, 4, 5]⟩, ⟨(some 14), .buildSlice (some 2) [(T 13)] 1, none, [2, 3, 4, 5, 6]⟩, ⟨(some 15), .append 2 (T 8) (T 14) 2, none, [0, 1, 2, 3, 4, 5, 6, 7]⟩, ⟨(some 16), .fieldAddr (T 2) 0, none, [0, 1, 2, 3, 4, 5, 6, 7, 8]⟩, ⟨none, .store none (T 16) (T 15), none, [0, 1, 2, 3, 4, 5, 6, 7, 8, 9]⟩] true))
         (.reg [o 17 (.bin .add (T 5) (I 1)), o 5 (.mov (T 17))] false)))))))
   (.seq
    (.seq
     (.reg [o 18 (.mov (T 0)), o 19 (.call 56 [(T 18)] 3), o 20 (.mov (I 0))] false)
     (.block 2
      (.loop
       (.seq
        (.reg [o 21 (.bin .lss (T 20) (T 19))] false)
        (.seq
         (.cond (T 21)
          .skip
          (.exit 2))
         (.seq
          (.block 3
           (.reg [⟨(some 22), .fieldAddr (T 2) 1, none, []⟩, ⟨(some 23), .load none (T 22), none, [0]⟩, ⟨(some 24), .mov (T 0), none, []⟩, ⟨(some 25), .call 87 [(T 24)] 3, none, [2]⟩, ⟨(some 26), .mov (T 0), none, []⟩, ⟨(some 27), .call 58 [(T 26)] 3, none, [2, 3, 4]⟩, ⟨(some 28), .mov (T 0), none, []⟩, ⟨(some 29), .call 58 [(T 28)] 3, none, [2, 3, 4, 5, 6]⟩, ⟨(some 30), .mov (T 0), none, []⟩, ⟨(some 31), .call 88 [(T 30)] 3, none, [2, 3, 4, 5, 6, 7, 8]⟩, ⟨(some 32), .build [.nils, (.int .i64 0), (.int .i64 0), (.bool false)] [(0, none, (T 25)), (1, none, (T 27)), (2, none, (T 29)), (3, none, (T 31))], none, [2, 3, 4, 5, 6, 7, 8, 9]⟩, ⟨(some 33), .buildSlice (some 4) [(T 32)] 3, none, [2, 3, 4, 5, 6, 7, 8, 9, 10]⟩, ⟨(some 34), .append 4 (T 23) (T 33) 4, none, [0, 1, 2, 3, 4, 5, 6, 7, 8, 9, 10, 11]⟩, ⟨(some 35), .fieldAddr (T 2) 1, none, [0, 1, 2, 3, 4, 5, 6, 7, 8, 9, 10, 11, 12]⟩, ⟨none, .store none (T 35) (T 34), none, [0, 1, 2, 3, 4, 5, 6, 7, 8, 9, 10, 11, 12, 13]⟩] true))
          (.reg [o 36 (.bin .add (T 20) (I 1)), o 20 (.mov (T 36))] false)))))))
    (.seq
     (.seq
      (.reg [o 37 (.mov (T 0)), o 38 (.call 56 [(T 37)] 5), o 39 (.mov (I 0))] false)
      (.block 4
       (.loop
        (.seq
         (.reg [o 40 (.bin .lss (T 39) (T 38))] false)
         (.seq
          (.cond (T 40)
           .skip
           (.exit 4))
          (.seq
           (.block 5
            (.reg [⟨(some 41), .fieldAddr (T 2) 2, none, []⟩, ⟨(some 42), .load none (T 41), none, [0]⟩, ⟨(some 43), .mov (T 0), none, []⟩, ⟨(some 44), .call 58 [(T 43)] 5, none, [2]⟩, ⟨(some 45), .mov (T 0), none, []⟩, ⟨(some 46), .call 58 [(T 45)] 5, none, [2, 3, 4]⟩, ⟨(some 47), .mov (T 0), none, []⟩, ⟨(some 48), .call 87 [(T 47)] 5, none, [2, 3, 4, 5, 6]⟩, ⟨(some 49), .build [(.int .i64 0), (.int .i64 0), .nils] [(0, none, (T 44)), (1, none, (T 46)), (2, none, (T 48))], none, [2, 3, 4, 5, 6, 7]⟩, ⟨(some 50), .buildSlice (some 3) [(T 49)] 5, none, [2, 3, 4, 5, 6, 7, 8]⟩, ⟨(some 51), .append 3 (T 42) (T 50) 6, none, [0, 1, 2, 3, 4, 5, 6, 7, 8, 9]⟩, ⟨(some 52), .fieldAddr (T 2) 2, none, [0, 1, 2, 3, 4, 5, 6, 7, 8, 9, 10]⟩, ⟨none, .store none (T 52) (T 51), none, [0, 1, 2, 3, 4, 5, 6, 7, 8, 9, 10, 11]⟩] true))
           (.reg [o 53 (.bin .add (T 39) (I 1)), o 39 (.mov (T 53))] false)))))))
     (.seq
      (.reg [o 54 (.mov (T 0)), o 55 (.call 58 [(T 54)] 7), o 56 (.fieldAddr (T 2) 3), u (.store none (T 56) (T 55))] false)
      (.seq
       (.reg [o 57 (.load (some 4) (T 2)), u (.store (some 4) (T 2) (T 57))] false)
       .ret)))))), none⟩
def f_wire_Reader_Count : IFun := ⟨31, 0, true, [true], [.tmp 2],
 (.seq
  (.reg [o 2 (.mov (I 0))] false)
  (.seq
   (.reg [o 4 (.mov (T 0)), o 5 (.call 58 [(T 4)] 0), o 3 (.mov (T 5))] false)
   (.seq
    (.seq
     (.reg [o 6 (.mov (T 0)), o 7 (.mov (T 0)), o 8 (.nilchk (T 7)), o 9 (.fieldAddr (T 8) 1), o 10 (.load none (T 9)), o 11 (.mov (T 10)), og (some 12) (.mov (T 3)) 11 false, og (some 13) (.bin .lss (T 12) (I 0)) 11 false, o 14 (.pick (T 11) (.c (.bool true)) (T 13)), o 15 (.mov (T 14)), og (some 16) (.mov (T 3)) 15 false, og (some 17) (.mov (T 0)) 15 false, og (some 18) (.nilchk (T 17)) 15 false, og (some 19) (.fieldAddr (T 18) 0) 15 false, og (some 20) (.load none (T 19)) 15 false, og (some 21) (.len (T 20)) 15 false, og (some 22) (.bin .gtr (T 16) (T 21)) 15 false, o 23 (.pick (T 15) (.c (.bool true)) (T 22)), o 24 (.nilchk (T 6)), o 25 (.fieldAddr (T 24) 1), u (.store none (T 25) (T 23))] false)
     (.seq
      (.reg [o 26 (.mov (T 0)), o 27 (.nilchk (T 26)), o 28 (.fieldAddr (T 27) 1), o 29 (.load none (T 28))] false)
      (.cond (T 29)
       (.seq
        (.reg [o 2 (.mov (I 0))] false)
        .ret)
       .skip)))
    (.seq
     (.reg [o 30 (.mov (T 3)), o 2 (.mov (T 30))] false)
     .ret)))), none⟩
def f_wire_Reader_code : IFun := ⟨17, 2, true, [true], [.tmp 2],
 (.seq
  (.reg [o 2 (.mov (.c .nils))] false)
  (.seq
   (.seq
    (.reg [o 3 (.mov (T 0)), o 4 (.call 56 [(T 3)] 0), o 5 (.mov (I 0))] false)
    (.block 0
     (.loop
      (.seq
       (.reg [o 6 (.bin .lss (T 5) (T 4))] false)
       (.seq
        (.cond (T 6)
         .skip
         (.exit 0))
        (.seq
         (.block 1
          (.reg [o 7 (.mov (T 2)), o 8 (.mov (T 0)), o 9 (.call 58 [(T 8)] 0), o 10 (.mov (T 0)), o 11 (.call 58 [(T 10)] 0), o 12 (.build [(.int .i64 0), (.int .i64 0)] [(0, none, (T 9)), (1, none, (T 11))]), o 13 (.buildSlice (some 2) [(T 12)] 0), o 14 (.append 2 (T 7) (T 13) 1), o 2 (.mov (T 14))] false))
         (.reg [o 15 (.bin .add (T 5) (I 1)), o 5 (.mov (T 15))] false)))))))
   (.seq
    (.reg [o 16 (.mov (T 2)), o 2 (.mov (T 16))] false)
    .ret))), none⟩
def f_wire_Reader_Num : IFun := ⟨40, 0, true, [true], [.tmp 2],
 (.seq
  (.reg [o 2 (.mov (I 0))] false)
  (.seq
   (.reg [o 7 (.mov (T 0)), o 8 (.nilchk (T 7)), o 9 (.fieldAddr (T 8) 0), o 10 (.load none (T 9)), o 11 (.call 12 [(T 10)] 0), o 6 (.mov (T 11)), o 12 (.extract (T 6) 0), o 13 (.extract (T 6) 1), o 14 (.extract (T 6) 2), o 3 (.mov (T 12)), o 4 (.mov (T 13)), o 5 (.mov (T 14))] false)
   (.seq
    (.seq
     (.reg [o 15 (.mov (T 0)), o 16 (.mov (T 0)), o 17 (.nilchk (T 16)), o 18 (.fieldAddr (T 17) 1), o 19 (.load none (T 18)), o 20 (.mov (T 19)), og (some 21) (.mov (T 5)) 20 false, og (some 22) (.bin .neq (T 21) (I 0)) 20 false, o 23 (.pick (T 20) (.c (.bool true)) (T 22)), o 24 (.nilchk (T 15)), o 25 (.fieldAddr (T 24) 1), u (.store none (T 25) (T 23))] false)
     (.seq
      (.reg [o 26 (.mov (T 0)), o 27 (.nilchk (T 26)), o 28 (.fieldAddr (T 27) 1), o 29 (.load none (T 28))] false)
      (.cond (T 29)
       (.seq
        (.reg [o 2 (.mov (I 0))] false)
        .ret)
       .skip)))
    (.seq
     (.reg [o 30 (.mov (T 0)), o 31 (.mov (T 0)), o 32 (.nilchk (T 31)), o 33 (.fieldAddr (T 32) 0), o 34 (.load none (T 33)), o 35 (.mov (T 4)), o 36 (.slice 1 (T 34) (some (T 35)) none none), o 37 (.nilchk (T 30)), o 38 (.fieldAddr (T 37) 0), u (.store none (T 38) (T 36))] false)
     (.seq
      (.reg [o 39 (.mov (T 3)), o 2 (.mov (T 39))] false)
      .ret))))), none⟩
def f_wire_Reader_Good : IFun := ⟨16, 0, true, [true], [.tmp 2],
 (.seq
  (.reg [o 2 (.mov (.c (.bool false)))] false)
  (.seq
   (.reg [o 3 (.mov (T 0)), o 4 (.nilchk (T 3)), o 5 (.fieldAddr (T 4) 1), o 6 (.load none (T 5)), o 7 (.un .not (T 6)), o 8 (.mov (T 7)), og (some 9) (.mov (T 0)) 8 true, og (some 10) (.nilchk (T 9)) 8 true, og (some 11) (.fieldAddr (T 10) 0) 8 true, og (some 12) (.load none (T 11)) 8 true, og (some 13) (.len (T 12)) 8 true, og (some 14) (.bin .eql (T 13) (I 0)) 8 true, o 15 (.pick (T 8) (T 14) (.c (.bool false))), o 2 (.mov (T 15))] false)
   .ret)), none⟩
def f_wire_Same_1 : IFun := ⟨8, 0, true, [], [.tmp 4],
 (.seq
  (.reg [o 4 (.mov (.c (.bool false)))] false)
  (.seq
   (.reg [o 5 (.mov (T 0)), o 6 (.mov (T 1)), o 7 (.call 67 [(T 5), (T 6)] 0), o 4 (.mov (T 7))] false)
   .ret)), none⟩
def f_slices_Equal_api_Watch_api_Instr : IFun := ⟨26, 0, true, [true, true], [.tmp 4],
 (.seq
  (.reg [o 4 (.mov (.c (.bool false)))] false)
  (.seq
   (.seq
    (.reg [o 6 (.mov (T 0)), o 7 (.len (T 6)), o 8 (.mov (T 1)), o 9 (.len (T 8)), o 10 (.bin .neq (T 7) (T 9))] false)
    (.cond (T 10)
     (.seq
      (.reg [o 4 (.mov (.c (.bool false)))] false)
      .ret)
     .skip))
   (.seq
    (.seq
     (.reg [o 11 (.mov (T 0)), o 12 (.len (T 11)), o 13 (.mov (I 0))] false)
     (.block 0
      (.loop
       (.seq
        (.reg [o 14 (.bin .lss (T 13) (T 12))] false)
        (.seq
         (.cond (T 14)
          .skip
          (.exit 0))
         (.seq
          (.block 1
           (.seq
            (.reg [o 15 (.mov (T 13)), o 5 (.mov (T 15))] false)
            (.seq
             (.reg [⟨(some 16), .mov (T 0), none, []⟩, ⟨(some 17), .mov (T 5), none, []⟩, ⟨(some 18), .indexAddr 2 (T 16) (T 17), none, [0, 1]⟩, ⟨(some 19), .load (some 2) (T 18), none, [0, 1, 2]⟩, ⟨(some 20), .mov (T 1), none, []⟩, ⟨(some 21), .mov (T 5), none, []⟩, ⟨(some 22), .indexAddr 2 (T 20) (T 21), none, [4, 5]⟩, ⟨(some 23), .load (some 2) (T 22), none, [4, 5, 6]⟩, ⟨(some 24), .eqs true [false, false] (T 19) (T 23), none, [0, 1, 2, 3, 4, 5, 6, 7]⟩] true)
             (.cond (T 24)
              (.seq
               (.reg [o 4 (.mov (.c (.bool false)))] false)
               .ret)
              .skip))))
          (.reg [o 25 (.bin .add (T 13) (I 1)), o 13 (.mov (T 25))] false)))))))
    (.seq
     (.reg [o 4 (.mov (.c (.bool true)))] false)
     .ret)))), none⟩
def f_prog_Same : IFun := ⟨31, 2, true, [true, true], [.tmp 4],
 (.seq
  (.reg [o 2 (.box (some 4) (T 0) 0), o 3 (.box (some 4) (T 1) 1), o 4 (.mov (.c (.bool false)))] false)
  (.seq
   (.reg [o 5 (.fieldAddr (T 2) 0), o 6 (.load none (T 5)), o 7 (.fieldAddr (T 3) 0), o 8 (.load none (T 7)), o 9 (.call 91 [(T 6), (T 8), (.c (.fn 92 []))] 2), o 10 (.mov (T 9)), og (some 11) (.fieldAddr (T 2) 1) 10 true, og (some 12) (.load none (T 11)) 10 true, og (some 13) (.fieldAddr (T 3) 1) 10 true, og (some 14) (.load none (T 13)) 10 true, og (some 15) (.call 93 [(T 12), (T 14), (.c (.fn 94 []))] 2) 10 true, o 16 (.pick (T 10) (T 15) (.c (.bool false))), o 17 (.mov (T 16)), og (some 18) (.fieldAddr (T 2) 2) 17 true, og (some 19) (.load none (T 18)) 17 true, og (some 20) (.fieldAddr (T 3) 2) 17 true, og (some 21) (.load none (T 20)) 17 true, og (some 22) (.call 95 [(T 19), (T 21), (.c (.fn 84 []))] 2) 17 true, o 23 (.pick (T 17) (T 22) (.c (.bool false))), o 24 (.mov (T 23)), og (some 25) (.fieldAddr (T 2) 3) 24 true, og (some 26) (.load none (T 25)) 24 true, og (some 27) (.fieldAddr (T 3) 3) 24 true, og (some 28) (.load none (T 27)) 24 true, og (some 29) (.bin .eql (T 26) (T 28)) 24 true, o 30 (.pick (T 24) (T 29) (.c (.bool false))), o 4 (.mov (T 30))] false)
   .ret)), none⟩
def f_slices_EqualFunc_api_Watch_api_Watch_api_Watch_api_Watch : IFun := ⟨32, 2, true, [true, true, true], [.tmp 6],
 (.seq
  (.reg [o 6 (.mov (.c (.bool false)))] false)
  (.seq
   (.seq
    (.reg [o 10 (.mov (T 0)), o 11 (.len (T 10)), o 12 (.mov (T 1)), o 13 (.len (T 12)), o 14 (.bin .neq (T 11) (T 13))] false)
    (.cond (T 14)
     (.seq
      (.reg [o 6 (.mov (.c (.bool false)))] false)
      .ret)
     .skip))
   (.seq
    (.seq
     (.reg [o 15 (.mov (T 0)), o 16 (.len (T 15)), o 17 (.mov (I 0))] false)
     (.block 0
      (.loop
       (.seq
        (.reg [o 18 (.bin .lss (T 17) (T 16))] false)
        (.seq
         (.cond (T 18)
          .skip
          (.exit 0))
         (.seq
          (.block 1
           (.seq
            (.reg [o 19 (.mov (T 17)), o 20 (.indexAddr 1 (T 15) (T 17)), o 21 (.load none (T 20)), o 7 (.mov (T 19)), o 8 (.mov (T 21))] false)
            (.seq
             (.reg [o 22 (.mov (T 1)), o 23 (.mov (T 7)), o 24 (.indexAddr 1 (T 22) (T 23)), o 25 (.load none (T 24)), o 9 (.mov (T 25))] false)
             (.seq
              (.reg [o 26 (.mov (T 2)), o 27 (.mov (T 8)), o 28 (.mov (T 9)), o 29 (.callv (T 26) [(T 27), (T 28)] 0), o 30 (.un .not (T 29))] false)
              (.cond (T 30)
               (.seq
                (.reg [o 6 (.mov (.c (.bool false)))] false)
                .ret)
               .skip)))))
          (.reg [o 31 (.bin .add (T 17) (I 1)), o 17 (.mov (T 31))] false)))))))
    (.seq
     (.reg [o 6 (.mov (.c (.bool true)))] false)
     .ret)))), none⟩
def f_wire_Reader_Events : IFun := ⟨28, 3, true, [true], [.tmp 2],
 (.seq
  (.reg [o 2 (.mov (.c .nils))] false)
  (.seq
   (.seq
    (.reg [o 4 (.mov (T 0)), o 5 (.call 56 [(T 4)] 0), o 6 (.mov (I 0))] false)
    (.block 0
     (.loop
      (.seq
       (.reg [o 7 (.bin .lss (T 6) (T 5))] false)
       (.seq
        (.cond (T 7)
         .skip
         (.exit 0))
        (.seq
         (.block 1
          (.seq
           (.reg [o 8 (.mov (T 0)), o 9 (.call 58 [(T 8)] 0), o 10 (.build [(.int .i64 0), (.int .i64 0), (.int .i64 0), (.int .i64 0), (.int .i64 0)] [(0, none, (T 9))]), o 3 (.box (some 5) (.c (.agg [(.int .i64 0), (.int .i64 0), (.int .i64 0), (.int .i64 0), (.int .i64 0)])) 0), u (.store (some 5) (T 3) (T 10))] false)
           (.seq
            (.reg [o 11 (.mov (T 0)), o 12 (.call 58 [(T 11)] 1), o 13 (.mov (T 0)), o 14 (.call 58 [(T 13)] 1), o 15 (.mov (T 0)), o 16 (.call 58 [(T 15)] 1), o 17 (.build [(.int .i64 0), (.int .i64 0), (.int .i64 0)] [(0, none, (T 12)), (1, none, (T 14)), (2, none, (T 16))]), o 18 (.fieldAddr (T 3) 1), u (.store (some 3) (T 18) (T 17))] false)
            (.seq
             (.reg [o 19 (.mov (T 0)), o 20 (.call 58 [(T 19)] 1), o 21 (.fieldAddr (T 3) 4), u (.store none (T 21) (T 20))] false)
             (.reg [o 22 (.mov (T 2)), o 23 (.load (some 5) (T 3)), o 24 (.buildSlice (some 5) [(T 23)] 1), o 25 (.append 5 (T 22) (T 24) 2), o 2 (.mov (T 25))] false)))))
         (.reg [o 26 (.bin .add (T 6) (I 1)), o 6 (.mov (T 26))] false)))))))
   (.seq
    (.reg [o 27 (.mov (T 2)), o 2 (.mov (T 27))] false)
    .ret))), none⟩
def f_prog_SameNote : IFun := ⟨24, 2, true, [true, true], [.tmp 4],
 (.seq
  (.reg [o 2 (.box (some 3) (T 0) 0), o 3 (.box (some 3) (T 1) 1), o 4 (.mov (.c (.bool false)))] false)
  (.seq
   (.reg [o 5 (.fieldAddr (T 2) 0), o 6 (.load none (T 5)), o 7 (.fieldAddr (T 3) 0), o 8 (.load none (T 7)), o 9 (.bin .eql (T 6) (T 8)), o 10 (.mov (T 9)), og (some 11) (.fieldAddr (T 2) 1) 10 true, og (some 12) (.load none (T 11)) 10 true, og (some 13) (.fieldAddr (T 3) 1) 10 true, og (some 14) (.load none (T 13)) 10 true, og (some 15) (.bin .eql (T 12) (T 14)) 10 true, o 16 (.pick (T 10) (T 15) (.c (.bool false))), o 17 (.mov (T 16)), og (some 18) (.fieldAddr (T 2) 2) 17 true, og (some 19) (.load none (T 18)) 17 true, og (some 20) (.fieldAddr (T 3) 2) 17 true, og (some 21) (.load none (T 20)) 17 true, og (some 22) (.call 100 [(T 19), (T 21)] 2) 17 true, o 23 (.pick (T 17) (T 22) (.c (.bool false))), o 4 (.mov (T 23))] false)
   .ret)), none⟩
def f_wire_putNumbers : IFun := ⟨12, 3, false, [false, true], [.tmp 4],
 (.seq
  (.reg [o 4 (.mov (.c .nils))] false)
  (.seq
   (.reg [o 5 (.mov (T 0)), o 6 (.mov (T 1)), o 7 (.len (T 6)), o 8 (.buildSlice none [(T 7)] 0), o 9 (.call 48 [(T 5), (T 8)] 1), o 10 (.mov (T 1)), o 11 (.call 48 [(T 9), (T 10)] 2), o 4 (.mov (T 11))] false)
   .ret)), none⟩
def f_wire_flag : IFun := ⟨4, 0, true, [true], [.tmp 2],
 (.seq
  (.reg [o 2 (.mov (I 0))] false)
  (.seq
   (.seq
    (.reg [o 3 (.mov (T 0))] false)
    (.cond (T 3)
     (.seq
      (.reg [o 2 (.mov (I 1))] false)
      .ret)
     .skip))
   (.seq
    (.reg [o 2 (.mov (I 0))] false)
    .ret))), none⟩
def f_wire_Reader_numbers : IFun := ⟨14, 2, true, [true], [.tmp 2],
 (.seq
  (.reg [o 2 (.mov (.c .nils))] false)
  (.seq
   (.seq
    (.reg [o 3 (.mov (T 0)), o 4 (.call 56 [(T 3)] 0), o 5 (.mov (I 0))] false)
    (.block 0
     (.loop
      (.seq
       (.reg [o 6 (.bin .lss (T 5) (T 4))] false)
       (.seq
        (.cond (T 6)
         .skip
         (.exit 0))
        (.seq
         (.block 1
          (.reg [o 7 (.mov (T 2)), o 8 (.mov (T 0)), o 9 (.call 58 [(T 8)] 0), o 10 (.buildSlice none [(T 9)] 0), o 11 (.append 1 (T 7) (T 10) 1), o 2 (.mov (T 11))] false))
         (.reg [o 12 (.bin .add (T 5) (I 1)), o 5 (.mov (T 12))] false)))))))
   (.seq
    (.reg [o 13 (.mov (T 2)), o 2 (.mov (T 13))] false)
    .ret))), none⟩
def f_wire_Reader_flag : IFun := ⟨23, 0, true, [true], [.tmp 2],
 (.seq
  (.reg [o 2 (.mov (.c (.bool false)))] false)
  (.seq
   (.reg [o 4 (.mov (T 0)), o 5 (.call 58 [(T 4)] 0), o 3 (.mov (T 5))] false)
   (.seq
    (.reg [o 6 (.mov (T 0)), o 7 (.mov (T 0)), o 8 (.nilchk (T 7)), o 9 (.fieldAddr (T 8) 1), o 10 (.load none (T 9)), o 11 (.mov (T 10)), og (some 12) (.mov (T 3)) 11 false, og (some 13) (.bin .neq (T 12) (I 0)) 11 false, og (some 14) (.mov (T 13)) 11 false, og (some 15) (.mov (T 3)) 14 true, og (some 16) (.bin .neq (T 15) (I 1)) 14 true, og (some 17) (.pick (T 14) (T 16) (.c (.bool false))) 11 false, o 18 (.pick (T 11) (.c (.bool true)) (T 17)), o 19 (.nilchk (T 6)), o 20 (.fieldAddr (T 19) 1), u (.store none (T 20) (T 18))] false)
    (.seq
     (.reg [o 21 (.mov (T 3)), o 22 (.bin .eql (T 21) (I 1)), o 2 (.mov (T 22))] false)
     .ret)))), none⟩
def f_slices_EqualFunc_api_Handler_api_Handler_api_Handler_api_Handler : IFun := ⟨32, 4, true, [true, true, true], [.tmp 6],
 (.seq
  (.reg [o 6 (.mov (.c (.bool false)))] false)
  (.seq
   (.seq
    (.reg [o 10 (.mov (T 0)), o 11 (.len (T 10)), o 12 (.mov (T 1)), o 13 (.len (T 12)), o 14 (.bin .neq (T 11) (T 13))] false)
    (.cond (T 14)
     (.seq
      (.reg [o 6 (.mov (.c (.bool false)))] false)
      .ret)
     .skip))
   (.seq
    (.seq
     (.reg [o 15 (.mov (T 0)), o 16 (.len (T 15)), o 17 (.mov (I 0))] false)
     (.block 0
      (.loop
       (.seq
        (.reg [o 18 (.bin .lss (T 17) (T 16))] false)
        (.seq
         (.cond (T 18)
          .skip
          (.exit 0))
         (.seq
          (.block 1
           (.seq
            (.reg [o 19 (.mov (T 17)), o 20 (.indexAddr 2 (T 15) (T 17)), o 21 (.load (some 2) (T 20)), o 8 (.box (some 2) (.c (.agg [(.int .i64 0), .nils])) 0), o 7 (.mov (T 19)), u (.store (some 2) (T 8) (T 21))] false)
            (.seq
             (.reg [o 22 (.mov (T 1)), o 23 (.mov (T 7)), o 24 (.indexAddr 2 (T 22) (T 23)), o 25 (.load (some 2) (T 24)), o 9 (.box (some 2) (.c (.agg [(.int .i64 0), .nils])) 1), u (.store (some 2) (T 9) (T 25))] false)
             (.seq
              (.reg [o 26 (.mov (T 2)), o 27 (.load (some 2) (T 8)), o 28 (.load (some 2) (T 9)), o 29 (.callv (T 26) [(T 27), (T 28)] 2), o 30 (.un .not (T 29))] false)
              (.cond (T 30)
               (.seq
                (.reg [o 6 (.mov (.c (.bool false)))] false)
                .ret)
               .skip)))))
          (.reg [o 31 (.bin .add (T 17) (I 1)), o 17 (.mov (T 31))] false)))))))
    (.seq
     (.reg [o 6 (.mov (.c (.bool true)))] false)
     .ret)))), none⟩
def f_prog_sameHandler : IFun := ⟨17, 2, true, [true, true], [.tmp 4],
 (.seq
  (.reg [o 2 (.box (some 2) (T 0) 0), o 3 (.box (some 2) (T 1) 1), o 4 (.mov (.c (.bool false)))] false)
  (.seq
   (.reg [o 5 (.fieldAddr (T 2) 0), o 6 (.load none (T 5)), o 7 (.fieldAddr (T 3) 0), o 8 (.load none (T 7)), o 9 (.bin .eql (T 6) (T 8)), o 10 (.mov (T 9)), og (some 11) (.fieldAddr (T 2) 1) 10 true, og (some 12) (.load none (T 11)) 10 true, og (some 13) (.fieldAddr (T 3) 1) 10 true, og (some 14) (.load none (T 13)) 10 true, og (some 15) (.call 101 [(T 12), (T 14)] 2) 10 true, o 16 (.pick (T 10) (T 15) (.c (.bool false))), o 4 (.mov (T 16))] false)
   .ret)), none⟩
def f_slices_EqualFunc_api_Actor_api_Actor_api_Actor_api_Actor : IFun := ⟨32, 4, true, [true, true, true], [.tmp 6],
 (.seq
  (.reg [o 6 (.mov (.c (.bool false)))] false)
  (.seq
   (.seq
    (.reg [o 10 (.mov (T 0)), o 11 (.len (T 10)), o 12 (.mov (T 1)), o 13 (.len (T 12)), o 14 (.bin .neq (T 11) (T 13))] false)
    (.cond (T 14)
     (.seq
      (.reg [o 6 (.mov (.c (.bool false)))] false)
      .ret)
     .skip))
   (.seq
    (.seq
     (.reg [o 15 (.mov (T 0)), o 16 (.len (T 15)), o 17 (.mov (I 0))] false)
     (.block 0
      (.loop
       (.seq
        (.reg [o 18 (.bin .lss (T 17) (T 16))] false)
        (.seq
         (.cond (T 18)
          .skip
          (.exit 0))
         (.seq
          (.block 1
           (.seq
            (.reg [o 19 (.mov (T 17)), o 20 (.indexAddr 4 (T 15) (T 17)), o 21 (.load (some 4) (T 20)), o 8 (.box (some 4) (.c (.agg [.nils, (.int .i64 0), (.int .i64 0), (.bool false)])) 0), o 7 (.mov (T 19)), u (.store (some 4) (T 8) (T 21))] false)
            (.seq
             (.reg [o 22 (.mov (T 1)), o 23 (.mov (T 7)), o 24 (.indexAddr 4 (T 22) (T 23)), o 25 (.load (some 4) (T 24)), o 9 (.box (some 4) (.c (.agg [.nils, (.int .i64 0), (.int .i64 0), (.bool false)])) 1), u (.store (some 4) (T 9) (T 25))] false)
             (.seq
              (.reg [o 26 (.mov (T 2)), o 27 (.load (some 4) (T 8)), o 28 (.load (some 4) (T 9)), o 29 (.callv (T 26) [(T 27), (T 28)] 2), o 30 (.un .not (T 29))] false)
              (.cond (T 30)
               (.seq
                (.reg [o 6 (.mov (.c (.bool false)))] false)
                .ret)
               .skip)))))
          (.reg [o 31 (.bin .add (T 17) (I 1)), o 17 (.mov (T 31))] false)))))))
    (.seq
     (.reg [o 6 (.mov (.c (.bool true)))] false)
     .ret)))), none⟩
def f_prog_sameActor : IFun := ⟨31, 2, true, [true, true], [.tmp 4],
 (.seq
  (.reg [o 2 (.box (some 4) (T 0) 0), o 3 (.box (some 4) (T 1) 1), o 4 (.mov (.c (.bool false)))] false)
  (.seq
   (.reg [o 5 (.fieldAddr (T 2) 0), o 6 (.load none (T 5)), o 7 (.fieldAddr (T 3) 0), o 8 (.load none (T 7)), o 9 (.call 100 [(T 6), (T 8)] 2), o 10 (.mov (T 9)), og (some 11) (.fieldAddr (T 2) 1) 10 true, og (some 12) (.load none (T 11)) 10 true, og (some 13) (.fieldAddr (T 3) 1) 10 true, og (some 14) (.load none (T 13)) 10 true, og (some 15) (.bin .eql (T 12) (T 14)) 10 true, o 16 (.pick (T 10) (T 15) (.c (.bool false))), o 17 (.mov (T 16)), og (some 18) (.fieldAddr (T 2) 2) 17 true, og (some 19) (.load none (T 18)) 17 true, og (some 20) (.fieldAddr (T 3) 2) 17 true, og (some 21) (.load none (T 20)) 17 true, og (some 22) (.bin .eql (T 19) (T 21)) 17 true, o 23 (.pick (T 17) (T 22) (.c (.bool false))), o 24 (.mov (T 23)), og (some 25) (.fieldAddr (T 2) 3) 24 true, og (some 26) (.load none (T 25)) 24 true, og (some 27) (.fieldAddr (T 3) 3) 24 true, og (some 28) (.load none (T 27)) 24 true, og (some 29) (.eqb false (T 26) (T 28)) 24 true, o 30 (.pick (T 24) (T 29) (.c (.bool false))), o 4 (.mov (T 30))] false)
   .ret)), none⟩
def f_slices_EqualFunc_api_Note_api_Note_api_Note_api_Note : IFun := ⟨32, 4, true, [true, true, true], [.tmp 6],
 (.seq
  (.reg [o 6 (.mov (.c (.bool false)))] false)
  (.seq
   (.seq
    (.reg [o 10 (.mov (T 0)), o 11 (.len (T 10)), o 12 (.mov (T 1)), o 13 (.len (T 12)), o 14 (.bin .neq (T 11) (T 13))] false)
    (.cond (T 14)
     (.seq
      (.reg [o 6 (.mov (.c (.bool false)))] false)
      .ret)
     .skip))
   (.seq
    (.seq
     (.reg [o 15 (.mov (T 0)), o 16 (.len (T 15)), o 17 (.mov (I 0))] false)
     (.block 0
      (.loop
       (.seq
        (.reg [o 18 (.bin .lss (T 17) (T 16))] false)
        (.seq
         (.cond (T 18)
          .skip
          (.exit 0))
         (.seq
          (.block 1
           (.seq
            (.reg [o 19 (.mov (T 17)), o 20 (.indexAddr 3 (T 15) (T 17)), o 21 (.load (some 3) (T 20)), o 8 (.box (some 3) (.c (.agg [(.int .i64 0), (.int .i64 0), .nils])) 0), o 7 (.mov (T 19)), u (.store (some 3) (T 8) (T 21))] false)
            (.seq
             (.reg [o 22 (.mov (T 1)), o 23 (.mov (T 7)), o 24 (.indexAddr 3 (T 22) (T 23)), o 25 (.load (some 3) (T 24)), o 9 (.box (some 3) (.c (.agg [(.int .i64 0), (.int .i64 0), .nils])) 1), u (.store (some 3) (T 9) (T 25))] false)
             (.seq
              (.reg [o 26 (.mov (T 2)), o 27 (.load (some 3) (T 8)), o 28 (.load (some 3) (T 9)), o 29 (.callv (T 26) [(T 27), (T 28)] 2), o 30 (.un .not (T 29))] false)
              (.cond (T 30)
               (.seq
                (.reg [o 6 (.mov (.c (.bool false)))] false)
                .ret)
               .skip)))))
          (.reg [o 31 (.bin .add (T 17) (I 1)), o 17 (.mov (T 31))] false)))))))
    (.seq
     (.reg [o 6 (.mov (.c (.bool true)))] false)
     .ret)))), none⟩
def f_slices_Equal_int_int : IFun := ⟨26, 0, true, [true, true], [.tmp 4],
 (.seq
  (.reg [o 4 (.mov (.c (.bool false)))] false)
  (.seq
   (.seq
    (.reg [o 6 (.mov (T 0)), o 7 (.len (T 6)), o 8 (.mov (T 1)), o 9 (.len (T 8)), o 10 (.bin .neq (T 7) (T 9))] false)
    (.cond (T 10)
     (.seq
      (.reg [o 4 (.mov (.c (.bool false)))] false)
      .ret)
     .skip))
   (.seq
    (.seq
     (.reg [o 11 (.mov (T 0)), o 12 (.len (T 11)), o 13 (.mov (I 0))] false)
     (.block 0
      (.loop
       (.seq
        (.reg [o 14 (.bin .lss (T 13) (T 12))] false)
        (.seq
         (.cond (T 14)
          .skip
          (.exit 0))
         (.seq
          (.block 1
           (.seq
            (.reg [o 15 (.mov (T 13)), o 5 (.mov (T 15))] false)
            (.seq
             (.reg [⟨(some 16), .mov (T 0), none, []⟩, ⟨(some 17), .mov (T 5), none, []⟩, ⟨(some 18), .indexAddr 1 (T 16) (T 17), none, [0, 1]⟩, ⟨(some 19), .load none (T 18), none, [0, 1, 2]⟩, ⟨(some 20), .mov (T 1), none, []⟩, ⟨(some 21), .mov (T 5), none, []⟩, ⟨(some 22), .indexAddr 1 (T 20) (T 21), none, [4, 5]⟩, ⟨(some 23), .load none (T 22), none, [4, 5, 6]⟩, ⟨(some 24), .bin .neq (T 19) (T 23), none, [0, 1, 2, 3, 4, 5, 6, 7]⟩] true)
             (.cond (T 24)
              (.seq
               (.reg [o 4 (.mov (.c (.bool false)))] false)
               .ret)
              .skip))))
          (.reg [o 25 (.bin .add (T 13) (I 1)), o 13 (.mov (T 25))] false)))))))
    (.seq
     (.reg [o 4 (.mov (.c (.bool true)))] false)
     .ret)))), none⟩
def f_slices_Equal_api_Instr_api_Instr : IFun := ⟨26, 0, true, [true, true], [.tmp 4],
 (.seq
  (.reg [o 4 (.mov (.c (.bool false)))] false)
  (.seq
   (.seq
    (.reg [o 6 (.mov (T 0)), o 7 (.len (T 6)), o 8 (.mov (T 1)), o 9 (.len (T 8)), o 10 (.bin .neq (T 7) (T 9))] false)
    (.cond (T 10)
     (.seq
      (.reg [o 4 (.mov (.c (.bool false)))] false)
      .ret)
     .skip))
   (.seq
    (.seq
     (.reg [o 11 (.mov (T 0)), o 12 (.len (T 11)), o 13 (.mov (I 0))] false)
     (.block 0
      (.loop
       (.seq
        (.reg [o 14 (.bin .lss (T 13) (T 12))] false)
        (.seq
         (.cond (T 14)
          .skip
          (.exit 0))
         (.seq
          (.block 1
           (.seq
            (.reg [o 15 (.mov (T 13)), o 5 (.mov (T 15))] false)
            (.seq
             (.reg [⟨(some 16), .mov (T 0), none, []⟩, ⟨(some 17), .mov (T 5), none, []⟩, ⟨(some 18), .indexAddr 2 (T 16) (T 17), none, [0, 1]⟩, ⟨(some 19), .load (some 2) (T 18), none, [0, 1, 2]⟩, ⟨(some 20), .mov (T 1), none, []⟩, ⟨(some 21), .mov (T 5), none, []⟩, ⟨(some 22), .indexAddr 2 (T 20) (T 21), none, [4, 5]⟩, ⟨(some 23), .load (some 2) (T 22), none, [4, 5, 6]⟩, ⟨(some 24), .eqs true [false, false] (T 19) (T 23), none, [0, 1, 2, 3, 4, 5, 6, 7]⟩] true)
             (.cond (T 24)
              (.seq
               (.reg [o 4 (.mov (.c (.bool false)))] false)
               .ret)
              .skip))))
          (.reg [o 25 (.bin .add (T 13) (I 1)), o 13 (.mov (T 25))] false)))))))
    (.seq
     (.reg [o 4 (.mov (.c (.bool true)))] false)
     .ret)))), none⟩
def FTL : List (Option IFun) := [none, none, none, none, none, some f_law22_WireSame, none, none, none, none, some f_law22_awake, some f_wire_Number, some f_wire_Take, none, none, none, some f_wire_Encode, none, none, some f_wire_Decode, none, none, some f_wire_Same, some f_alike_Round, some f_wire_Path, none, some f_wire_Events, none, some f_alike_Events, some f_law22_one, none, none, none, none, none, none, none, none, none, none, none, none, none, none, none, none, none, none, some f_wire_put, some f_wire_putProgram, some f_wire_putCode, none, none, none, some f_wire_Read, some f_wire_Reader_program, some f_wire_Reader_Count, some f_wire_Reader_code, some f_wire_Reader_Num, some f_wire_Reader_Good, none, none, none, none, none, none, some f_wire_Same_1, some f_slices_Equal_api_Watch_api_Instr, some f_prog_Same, some f_slices_EqualFunc_api_Watch_api_Watch_api_Watch_api_Watch, none, some f_wire_Reader_Events, none, none, none, none, none, none, none, none, none, none, none, none, some f_prog_SameNote, some f_wire_putNumbers, some f_wire_flag, some f_wire_Reader_numbers, some f_wire_Reader_flag, none, none, some f_slices_EqualFunc_api_Handler_api_Handler_api_Handler_api_Handler, some f_prog_sameHandler, some f_slices_EqualFunc_api_Actor_api_Actor_api_Actor_api_Actor, some f_prog_sameActor, some f_slices_EqualFunc_api_Note_api_Note_api_Note_api_Note, none, none, none, none, some f_slices_Equal_int_int, some f_slices_Equal_api_Instr_api_Instr]
def FT : Nat → Option IFun
  | 5 => some f_law22_WireSame
  | 10 => some f_law22_awake
  | 11 => some f_wire_Number
  | 12 => some f_wire_Take
  | 16 => some f_wire_Encode
  | 19 => some f_wire_Decode
  | 22 => some f_wire_Same
  | 23 => some f_alike_Round
  | 24 => some f_wire_Path
  | 26 => some f_wire_Events
  | 28 => some f_alike_Events
  | 29 => some f_law22_one
  | 48 => some f_wire_put
  | 49 => some f_wire_putProgram
  | 50 => some f_wire_putCode
  | 54 => some f_wire_Read
  | 55 => some f_wire_Reader_program
  | 56 => some f_wire_Reader_Count
  | 57 => some f_wire_Reader_code
  | 58 => some f_wire_Reader_Num
  | 59 => some f_wire_Reader_Good
  | 66 => some f_wire_Same_1
  | 67 => some f_slices_Equal_api_Watch_api_Instr
  | 68 => some f_prog_Same
  | 69 => some f_slices_EqualFunc_api_Watch_api_Watch_api_Watch_api_Watch
  | 71 => some f_wire_Reader_Events
  | 84 => some f_prog_SameNote
  | 85 => some f_wire_putNumbers
  | 86 => some f_wire_flag
  | 87 => some f_wire_Reader_numbers
  | 88 => some f_wire_Reader_flag
  | 91 => some f_slices_EqualFunc_api_Handler_api_Handler_api_Handler_api_Handler
  | 92 => some f_prog_sameHandler
  | 93 => some f_slices_EqualFunc_api_Actor_api_Actor_api_Actor_api_Actor
  | 94 => some f_prog_sameActor
  | 95 => some f_slices_EqualFunc_api_Note_api_Note_api_Note_api_Note
  | 100 => some f_slices_Equal_int_int
  | 101 => some f_slices_Equal_api_Instr_api_Instr
  | _ => none
end Gv

namespace Gv
/-- The number of a function of E in this program. -/
def fidL : List Nat := [3, 4, 5, 6, 7, 8, 9, 10, 11, 12, 13, 14, 15, 16, 17, 18, 19, 20, 21, 22, 23, 24, 25, 26, 27, 28, 29, 30, 31, 32, 33, 34, 35, 36, 37, 38, 39, 40, 41, 42, 43, 44, 45, 46, 47, 48, 49, 50, 51, 52, 53, 54, 55, 56, 57, 58, 59, 60, 61, 62, 63, 64, 65, 66, 67, 68, 69, 70, 71, 72, 73, 74, 75, 76, 77, 78, 79, 80, 81, 82, 83, 84, 85, 86, 87, 88, 89, 90, 91, 92, 93, 94, 95, 96, 97, 98, 99, 100, 101, 102, 103, 104, 105, 106, 107, 108, 109, 110]
def fid (n : Nat) : Nat := fidL.getD n 1000000
end Gv
