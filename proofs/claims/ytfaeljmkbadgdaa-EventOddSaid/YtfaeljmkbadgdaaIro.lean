/- What this file proves: one part of the proof that the law answers true for every input, by an interpreter that is proved sound against the given model. -/
import Derived.Test.YtfaeljmkbadgdaaEa
namespace Gv
abbrev T := PO.t
abbrev I (n : Int) : PO := .c (.int .i64 n)
abbrev mT (n : Nat) : IOp := .mov (T n)
abbrev w (d : Nat) (x : IOp) (l : List Nat) : IOper := ⟨some d, x, none, l⟩
abbrev o (d : Nat) (x : IOp) : IOper := ⟨some d, x, none, []⟩
abbrev u (x : IOp) : IOper := ⟨none, x, none, []⟩
abbrev og (d : Option Nat) (x : IOp) (t : Nat) (b : Bool) : IOper := ⟨d, x, some (t, b), []⟩
def f_law10_EventOdd : IFun := ⟨102, 4, true, [true, true], [.tmp 4],
(.seq
(.reg [o 4 (.mov (.c (.bool false)))] false)
(.seq
(.reg [o 10 (.call 125 [] 0), o 5 (.box (some 4) (.c (.agg [.nils, .nils, .nils, (.int .i64 0)])) 0), u (.store (some 4) (T 5) (T 10))] false)
(.seq
(.reg [o 12 (.load (some 4) (T 5)), o 13 (.call 117 [(T 12)] 1), o 11 (mT 13), o 14 (.extract (T 11) 0), o 15 (.extract (T 11) 1), o 6 (.box (some 6) (.c (.agg [.nils, .nils, (.int .i64 0), (.int .i64 0), (.int .i64 0), (.int .i64 0)])) 1), u (.store (some 6) (T 6) (T 14)), o 7 (mT 15)] false)
(.seq
(.seq
(.reg [o 16 (mT 7), o 17 (.bin .neq (T 16) (I 0)), o 18 (mT 17), og (some 19) (mT 1) 18 false, og (some 20) (.bin .eql (T 19) (I 0)) 18 false, o 21 (.pick (T 18) (.c (.bool true)) (T 20))] false)
(.cond (T 21)
(.seq
(.reg [o 22 (mT 7), o 23 (.bin .eql (T 22) (I 0)), o 24 (mT 23), og (some 25) (.call 120 [] 2) 24 true, o 26 (.pick (T 24) (T 25) (.c (.bool false))), o 4 (mT 26)] false)
.ret)
.skip))
(.seq
(.reg [o 27 (.build [(.int .i64 0), (.int .i64 0), (.int .i64 0), (.int .i64 0)] [(0, none, (I 9)), (1, none, (I 9)), (2, none, (I 9)), (3, none, (I 9))]), o 8 (.box (some 4) (.c (.agg [(.int .i64 0), (.int .i64 0), (.int .i64 0), (.int .i64 0)])) 2), u (.store (some 4) (T 8) (T 27))] false)
(.seq
(.reg [o 28 (.build [(.int .i64 0), (.int .i64 0), (.int .i64 0)] [(0, none, (I (-1)))]), o 29 (.build [(.int .i64 0), (.int .i64 0), (.int .i64 0), (.int .i64 0), (.int .i64 0)] [(0, none, (I 1)), (1, (some 3), (T 28))]), o 9 (.box (some 5) (.c (.agg [(.int .i64 0), (.int .i64 0), (.int .i64 0), (.int .i64 0), (.int .i64 0)])) 3), u (.store (some 5) (T 9) (T 29))] false)
(.seq
(.seq
(.reg [o 30 (mT 0), o 31 (.call 23 [(T 30), (I 7)] 4)] false)
(.block 0
(.seq
(.reg [o 33 (.bin .eql (T 31) (I 0)), o 32 (mT 33)] false)
(.cond (T 32)
(.seq
(.reg [o 34 (mT 1), o 35 (.fieldAddr (T 9) 0), u (.store none (T 35) (T 34))] false)
(.seq
(.reg [o 36 (mT 1), o 37 (.bin .geq (T 36) (I 1)), o 38 (mT 37), og (some 39) (mT 1) 38 true, og (some 40) (.bin .leq (T 39) (I 3)) 38 true, o 41 (.pick (T 38) (T 40) (.c (.bool false)))] false)
(.cond (T 41)
(.seq
(.reg [o 42 (.load (some 4) (T 5)), o 43 (.load (some 4) (T 8)), o 44 (.load (some 6) (T 6)), o 45 (.load (some 5) (T 9)), o 46 (.call 122 [(T 42), (T 43), (T 44), (T 45)] 4), o 47 (mT 46), og (some 48) (.call 120 [] 4) 47 true, o 49 (.pick (T 47) (T 48) (.c (.bool false))), o 4 (mT 49)] false)
.ret)
.skip)))
(.seq
(.reg [o 51 (.bin .eql (T 31) (I 1)), o 50 (mT 51)] false)
(.cond (T 50)
(.reg [o 52 (mT 1), o 53 (.fieldAddr (T 9) 4), u (.store none (T 53) (T 52))] false)
(.seq
(.reg [o 55 (.bin .eql (T 31) (I 2)), o 54 (mT 55)] false)
(.cond (T 54)
(.reg [o 56 (mT 1), o 57 (.fieldAddr (T 9) 1), o 58 (.fieldAddr (T 57) 2), u (.store none (T 58) (T 56))] false)
(.seq
(.reg [o 60 (.bin .eql (T 31) (I 3)), o 59 (mT 60)] false)
(.cond (T 59)
(.reg [o 61 (mT 1), o 62 (.build [(.int .i64 0), (.int .i64 0), (.int .i64 0)] [(1, none, (T 61))]), o 63 (.build [(.int .i64 0), (.int .i64 0), (.int .i64 0), (.int .i64 0), (.int .i64 0)] [(0, none, (I 5)), (1, (some 3), (T 62))]), u (.store (some 5) (T 9) (T 63))] false)
(.seq
(.reg [o 65 (.bin .eql (T 31) (I 4)), o 64 (mT 65)] false)
(.cond (T 64)
(.reg [o 66 (mT 1), o 67 (.build [(.int .i64 0), (.int .i64 0), (.int .i64 0), (.int .i64 0), (.int .i64 0)] [(0, none, (I 4)), (4, none, (T 66))]), u (.store (some 5) (T 9) (T 67))] false)
(.seq
(.reg [o 69 (.bin .eql (T 31) (I 5)), o 68 (mT 69)] false)
(.cond (T 68)
(.seq
(.reg [o 70 (mT 1), o 71 (.bin .add (T 70) (I 1)), o 72 (.build [(.int .i64 0), (.int .i64 0), (.int .i64 0), (.int .i64 0), (.int .i64 0)] [(0, none, (I 5)), (4, none, (T 71))]), u (.store (some 5) (T 9) (T 72))] false)
(.seq
(.reg [o 73 (mT 1), o 74 (.bin .eql (T 73) (I (-1))), o 75 (mT 74), og (some 76) (mT 1) 75 false, og (some 77) (.bin .eql (T 76) (I 0)) 75 false, o 78 (.pick (T 75) (.c (.bool true)) (T 77))] false)
(.cond (T 78)
(.seq
(.reg [o 79 (.load (some 4) (T 5)), o 80 (.load (some 4) (T 8)), o 81 (.load (some 6) (T 6)), o 82 (.load (some 5) (T 9)), o 83 (.call 122 [(T 79), (T 80), (T 81), (T 82)] 4), o 84 (mT 83), og (some 85) (.call 120 [] 4) 84 true, o 86 (.pick (T 84) (T 85) (.c (.bool false))), o 4 (mT 86)] false)
.ret)
.skip)))
(.seq
(.reg [o 88 (.bin .eql (T 31) (I 6)), o 87 (mT 88)] false)
(.cond (T 87)
(.reg [o 89 (mT 1), o 90 (.bin .sub (T 89) (I 1)), o 91 (.fieldAddr (T 9) 1), o 92 (.fieldAddr (T 91) 0), u (.store none (T 92) (T 90))] false)
.skip))))))))))))))))
(.seq
(.reg [o 93 (.load (some 4) (T 5)), o 94 (.load (some 4) (T 8)), o 95 (.load (some 6) (T 6)), o 96 (.load (some 5) (T 9)), o 97 (.call 122 [(T 93), (T 94), (T 95), (T 96)] 4), o 98 (.un .not (T 97)), o 99 (mT 98), og (some 100) (.call 120 [] 4) 99 true, o 101 (.pick (T 99) (T 100) (.c (.bool false))), o 4 (mT 101)] false)
.ret)))))))), none⟩
def f_world_Start : IFun := ⟨37, 8, true, [true], [.cell (some 6) 2, .tmp 3],
(.seq
(.reg [o 1 (.box (some 4) (T 0) 0), o 2 (.box (some 6) (.c (.agg [.nils, .nils, (.int .i64 0), (.int .i64 0), (.int .i64 0), (.int .i64 0)])) 1), o 3 (.mov (I 0))] false)
(.seq
(.seq
(.reg [o 7 (.load (some 4) (T 1)), o 8 (.call 128 [(T 7)] 2), o 4 (mT 8)] false)
(.seq
(.reg [o 9 (mT 4), o 10 (.bin .neq (T 9) (I 0))] false)
(.cond (T 10)
(.seq
(.reg [o 11 (.load (some 6) (T 2)), o 12 (mT 4), u (.store (some 6) (T 2) (T 11)), o 3 (mT 12)] false)
.ret)
.skip)))
(.seq
(.seq
(.reg [o 13 (.fieldAddr (T 1) 1), o 14 (.load none (T 13)), o 15 (.len (T 14)), o 16 (.mov (I 0))] false)
(.block 0
(.loop
(.seq
(.reg [o 17 (.bin .lss (T 16) (T 15))] false)
(.seq
(.cond (T 17)
.skip
(.exit 0))
(.seq
(.block 1
(.seq
(.reg [o 18 (.indexAddr 4 (T 14) (T 16)), o 19 (.load (some 4) (T 18)), o 6 (.box (some 4) (.c (.agg [.nils, (.int .i64 0), (.int .i64 0), (.bool false)])) 2), u (.store (some 4) (T 6) (T 19))] false)
(.reg [w 20 (.fieldAddr (T 2) 0) [], w 21 (.load none (T 20)) [0], w 22 (.fieldAddr (T 6) 0) [], w 23 (.load none (T 22)) [2], w 24 (.call 105 [(T 23)] 3) [2, 3], w 25 (.fieldAddr (T 6) 3) [], w 26 (.load none (T 25)) [5], w 27 (.build [.nils, (.bool false), (.int .i64 0), (.int .i64 0), (.int .i64 0)] [(0, none, (T 24)), (1, none, (T 26))]) [2, 3, 4, 5, 6], w 28 (.buildSlice (some 5) [(T 27)] 4) [2, 3, 4, 5, 6, 7], w 29 (.append 5 (T 21) (T 28) 5) [0, 1, 2, 3, 4, 5, 6, 7, 8], w 30 (.fieldAddr (T 2) 0) [0, 1, 2, 3, 4, 5, 6, 7, 8, 9], ⟨none, .store none (T 30) (T 29), none, [0, 1, 2, 3, 4, 5, 6, 7, 8, 9, 10]⟩] true)))
(.reg [o 31 (.bin .add (T 16) (I 1)), o 16 (mT 31)] false)))))))
(.seq
(.reg [o 32 (.load (some 4) (T 1)), o 33 (.fieldAddr (T 1) 2), o 34 (.load none (T 33)), o 35 (.call 129 [(T 32), (T 2), (I (-1)), (T 34)] 6)] false)
(.seq
(.reg [o 36 (.load (some 6) (T 2)), u (.store (some 6) (T 2) (T 36)), o 3 (.mov (I 0))] false)
.ret))))), none⟩
def f_law10_awake : IFun := ⟨88, 3, true, [], [.tmp 0],
(.seq
(.reg [o 0 (.mov (.c (.bool false)))] false)
(.seq
(.reg [o 6 (.call 125 [] 0), o 1 (.box (some 4) (.c (.agg [.nils, .nils, .nils, (.int .i64 0)])) 0), u (.store (some 4) (T 1) (T 6))] false)
(.seq
(.reg [o 8 (.load (some 4) (T 1)), o 9 (.call 117 [(T 8)] 1), o 7 (mT 9), o 10 (.extract (T 7) 0), o 11 (.extract (T 7) 1), o 2 (.box (some 6) (.c (.agg [.nils, .nils, (.int .i64 0), (.int .i64 0), (.int .i64 0), (.int .i64 0)])) 1), u (.store (some 6) (T 2) (T 10)), o 3 (mT 11)] false)
(.seq
(.seq
(.reg [o 12 (mT 3), o 13 (.bin .neq (T 12) (I 0))] false)
(.cond (T 13)
(.seq
(.reg [o 0 (.mov (.c (.bool false)))] false)
.ret)
.skip))
(.seq
(.reg [o 14 (.load (some 4) (T 1)), o 15 (.build [(.int .i64 0), (.int .i64 0), (.int .i64 0), (.int .i64 0)] [(2, none, (I 1)), (3, none, (I 1))]), o 16 (.load (some 6) (T 2)), o 17 (.call 121 [(T 14), (T 15), (T 16)] 2), o 4 (mT 17)] false)
(.seq
(.reg [o 18 (.build [(.int .i64 0), (.int .i64 0), (.int .i64 0), (.int .i64 0)] [(0, none, (I 3)), (1, none, (I 1))]), o 19 (.build [(.int .i64 0), (.int .i64 0), (.int .i64 0), (.int .i64 0)] [(0, none, (I 1)), (1, none, (I 2))]), o 20 (.build [.nils, .nils, (.int .i64 0), (.int .i64 0), (.int .i64 0), (.int .i64 0)] [(2, (some 4), (T 19))]), o 21 (.call 131 [(T 18), (T 20)] 2), o 5 (.box (some 4) (.c (.agg [(.int .i64 0), (.int .i64 0), (.int .i64 0), (.int .i64 0)])) 2), u (.store (some 4) (T 5) (T 21))] false)
(.seq
(.reg [w 22 (.load (some 4) (T 1)) [], w 23 (.build [(.int .i64 0), (.int .i64 0), (.int .i64 0), (.int .i64 0)] []) [], w 24 (.load (some 6) (T 2)) [], w 25 (.call 121 [(T 22), (T 23), (T 24)] 3) [0, 1, 2], w 26 (.len (T 25)) [0, 1, 2, 3], w 27 (.bin .eql (T 26) (I 2)) [0, 1, 2, 3, 4], w 28 (mT 27) [0, 1, 2, 3, 4, 5], ⟨(some 29), .mov (T 4), (some (28, true)), [0, 1, 2, 3, 4, 5, 6]⟩, ⟨(some 30), .len (T 29), (some (28, true)), [0, 1, 2, 3, 4, 5, 6, 7]⟩, ⟨(some 31), .bin .eql (T 30) (I 5), (some (28, true)), [0, 1, 2, 3, 4, 5, 6, 7, 8]⟩, w 32 (.pick (T 28) (T 31) (.c (.bool false))) [0, 1, 2, 3, 4, 5, 6, 7, 8, 9], w 33 (mT 32) [0, 1, 2, 3, 4, 5, 6, 7, 8, 9, 10], ⟨(some 34), .mov (T 4), (some (33, true)), [0, 1, 2, 3, 4, 5, 6, 7, 8, 9, 10, 11]⟩, ⟨(some 35), .indexAddr 5 (T 34) (I 0), (some (33, true)), [0, 1, 2, 3, 4, 5, 6, 7, 8, 9, 10, 11, 12]⟩, ⟨(some 36), .load (some 5) (T 35), (some (33, true)), [0, 1, 2, 3, 4, 5, 6, 7, 8, 9, 10, 11, 12, 13]⟩, ⟨(some 37), .build [(.int .i64 0), (.int .i64 0), (.int .i64 0)] [(0, none, (I (-1)))], (some (33, true)), [0, 1, 2, 3, 4, 5, 6, 7, 8, 9, 10, 11]⟩, ⟨(some 38), .build [(.int .i64 0), (.int .i64 0), (.int .i64 0), (.int .i64 0), (.int .i64 0)] [(0, none, (I 1)), (1, (some 3), (T 37))], (some (33, true)), [0, 1, 2, 3, 4, 5, 6, 7, 8, 9, 10, 11, 15]⟩, ⟨(some 39), .eqs false [false, false, false, false, false] (T 36) (T 38), (some (33, true)), [0, 1, 2, 3, 4, 5, 6, 7, 8, 9, 10, 11, 12, 13, 14, 15, 16]⟩, w 40 (.pick (T 33) (T 39) (.c (.bool false))) [0, 1, 2, 3, 4, 5, 6, 7, 8, 9, 10, 11, 12, 13, 14, 15, 16, 17], w 41 (mT 40) [0, 1, 2, 3, 4, 5, 6, 7, 8, 9, 10, 11, 12, 13, 14, 15, 16, 17, 18], ⟨(some 42), .mov (T 4), (some (41, true)), [0, 1, 2, 3, 4, 5, 6, 7, 8, 9, 10, 11, 12, 13, 14, 15, 16, 17, 18, 19]⟩, ⟨(some 43), .indexAddr 5 (T 42) (I 2), (some (41, true)), [0, 1, 2, 3, 4, 5, 6, 7, 8, 9, 10, 11, 12, 13, 14, 15, 16, 17, 18, 19, 20]⟩, ⟨(some 44), .load (some 5) (T 43), (some (41, true)), [0, 1, 2, 3, 4, 5, 6, 7, 8, 9, 10, 11, 12, 13, 14, 15, 16, 17, 18, 19, 20, 21]⟩, ⟨(some 45), .build [(.int .i64 0), (.int .i64 0), (.int .i64 0), (.int .i64 0), (.int .i64 0)] [(0, none, (I 4))], (some (41, true)), [0, 1, 2, 3, 4, 5, 6, 7, 8, 9, 10, 11, 12, 13, 14, 15, 16, 17, 18, 19]⟩, ⟨(some 46), .eqs false [false, false, false, false, false] (T 44) (T 45), (some (41, true)), [0, 1, 2, 3, 4, 5, 6, 7, 8, 9, 10, 11, 12, 13, 14, 15, 16, 17, 18, 19, 20, 21, 22, 23]⟩, w 47 (.pick (T 41) (T 46) (.c (.bool false))) [0, 1, 2, 3, 4, 5, 6, 7, 8, 9, 10, 11, 12, 13, 14, 15, 16, 17, 18, 19, 20, 21, 22, 23, 24], w 48 (mT 47) [0, 1, 2, 3, 4, 5, 6, 7, 8, 9, 10, 11, 12, 13, 14, 15, 16, 17, 18, 19, 20, 21, 22, 23, 24, 25], ⟨(some 49), .mov (T 4), (some (48, true)), [0, 1, 2, 3, 4, 5, 6, 7, 8, 9, 10, 11, 12, 13, 14, 15, 16, 17, 18, 19, 20, 21, 22, 23, 24, 25, 26]⟩, ⟨(some 50), .indexAddr 5 (T 49) (I 4), (some (48, true)), [0, 1, 2, 3, 4, 5, 6, 7, 8, 9, 10, 11, 12, 13, 14, 15, 16, 17, 18, 19, 20, 21, 22, 23, 24, 25, 26, 27]⟩, ⟨(some 51), .load (some 5) (T 50), (some (48, true)), [0, 1, 2, 3, 4, 5, 6, 7, 8, 9, 10, 11, 12, 13, 14, 15, 16, 17, 18, 19, 20, 21, 22, 23, 24, 25, 26, 27, 28]⟩, ⟨(some 52), .build [(.int .i64 0), (.int .i64 0), (.int .i64 0), (.int .i64 0), (.int .i64 0)] [(0, none, (I 5)), (4, none, (I 1))], (some (48, true)), [0, 1, 2, 3, 4, 5, 6, 7, 8, 9, 10, 11, 12, 13, 14, 15, 16, 17, 18, 19, 20, 21, 22, 23, 24, 25, 26]⟩, ⟨(some 53), .eqs false [false, false, false, false, false] (T 51) (T 52), (some (48, true)), [0, 1, 2, 3, 4, 5, 6, 7, 8, 9, 10, 11, 12, 13, 14, 15, 16, 17, 18, 19, 20, 21, 22, 23, 24, 25, 26, 27, 28, 29, 30]⟩, w 54 (.pick (T 48) (T 53) (.c (.bool false))) [0, 1, 2, 3, 4, 5, 6, 7, 8, 9, 10, 11, 12, 13, 14, 15, 16, 17, 18, 19, 20, 21, 22, 23, 24, 25, 26, 27, 28, 29, 30, 31], w 55 (mT 54) [0, 1, 2, 3, 4, 5, 6, 7, 8, 9, 10, 11, 12, 13, 14, 15, 16, 17, 18, 19, 20, 21, 22, 23, 24, 25, 26, 27, 28, 29, 30, 31, 32], ⟨(some 56), .load (some 4) (T 1), (some (55, true)), [0, 1, 2, 3, 4, 5, 6, 7, 8, 9, 10, 11, 12, 13, 14, 15, 16, 17, 18, 19, 20, 21, 22, 23, 24, 25, 26, 27, 28, 29, 30, 31, 32, 33]⟩, ⟨(some 57), .build [(.int .i64 0), (.int .i64 0), (.int .i64 0), (.int .i64 0)] [], (some (55, true)), [0, 1, 2, 3, 4, 5, 6, 7, 8, 9, 10, 11, 12, 13, 14, 15, 16, 17, 18, 19, 20, 21, 22, 23, 24, 25, 26, 27, 28, 29, 30, 31, 32, 33]⟩, ⟨(some 58), .load (some 6) (T 2), (some (55, true)), [0, 1, 2, 3, 4, 5, 6, 7, 8, 9, 10, 11, 12, 13, 14, 15, 16, 17, 18, 19, 20, 21, 22, 23, 24, 25, 26, 27, 28, 29, 30, 31, 32, 33]⟩, ⟨(some 59), .mov (T 4), (some (55, true)), [0, 1, 2, 3, 4, 5, 6, 7, 8, 9, 10, 11, 12, 13, 14, 15, 16, 17, 18, 19, 20, 21, 22, 23, 24, 25, 26, 27, 28, 29, 30, 31, 32, 33]⟩, ⟨(some 60), .indexAddr 5 (T 59) (I 0), (some (55, true)), [0, 1, 2, 3, 4, 5, 6, 7, 8, 9, 10, 11, 12, 13, 14, 15, 16, 17, 18, 19, 20, 21, 22, 23, 24, 25, 26, 27, 28, 29, 30, 31, 32, 33, 37]⟩, ⟨(some 61), .load (some 5) (T 60), (some (55, true)), [0, 1, 2, 3, 4, 5, 6, 7, 8, 9, 10, 11, 12, 13, 14, 15, 16, 17, 18, 19, 20, 21, 22, 23, 24, 25, 26, 27, 28, 29, 30, 31, 32, 33, 37, 38]⟩, ⟨(some 62), .call 122 [(T 56), (T 57), (T 58), (T 61)] 3, (some (55, true)), [0, 1, 2, 3, 4, 5, 6, 7, 8, 9, 10, 11, 12, 13, 14, 15, 16, 17, 18, 19, 20, 21, 22, 23, 24, 25, 26, 27, 28, 29, 30, 31, 32, 33, 34, 35, 36, 37, 38, 39]⟩, w 63 (.pick (T 55) (T 62) (.c (.bool false))) [0, 1, 2, 3, 4, 5, 6, 7, 8, 9, 10, 11, 12, 13, 14, 15, 16, 17, 18, 19, 20, 21, 22, 23, 24, 25, 26, 27, 28, 29, 30, 31, 32, 33, 34, 35, 36, 37, 38, 39, 40], w 64 (mT 63) [0, 1, 2, 3, 4, 5, 6, 7, 8, 9, 10, 11, 12, 13, 14, 15, 16, 17, 18, 19, 20, 21, 22, 23, 24, 25, 26, 27, 28, 29, 30, 31, 32, 33, 34, 35, 36, 37, 38, 39, 40, 41], ⟨(some 65), .load (some 4) (T 1), (some (64, true)), [0, 1, 2, 3, 4, 5, 6, 7, 8, 9, 10, 11, 12, 13, 14, 15, 16, 17, 18, 19, 20, 21, 22, 23, 24, 25, 26, 27, 28, 29, 30, 31, 32, 33, 34, 35, 36, 37, 38, 39, 40, 41, 42]⟩, ⟨(some 66), .build [(.int .i64 0), (.int .i64 0), (.int .i64 0), (.int .i64 0)] [], (some (64, true)), [0, 1, 2, 3, 4, 5, 6, 7, 8, 9, 10, 11, 12, 13, 14, 15, 16, 17, 18, 19, 20, 21, 22, 23, 24, 25, 26, 27, 28, 29, 30, 31, 32, 33, 34, 35, 36, 37, 38, 39, 40, 41, 42]⟩, ⟨(some 67), .load (some 6) (T 2), (some (64, true)), [0, 1, 2, 3, 4, 5, 6, 7, 8, 9, 10, 11, 12, 13, 14, 15, 16, 17, 18, 19, 20, 21, 22, 23, 24, 25, 26, 27, 28, 29, 30, 31, 32, 33, 34, 35, 36, 37, 38, 39, 40, 41, 42]⟩, ⟨(some 68), .mov (T 4), (some (64, true)), [0, 1, 2, 3, 4, 5, 6, 7, 8, 9, 10, 11, 12, 13, 14, 15, 16, 17, 18, 19, 20, 21, 22, 23, 24, 25, 26, 27, 28, 29, 30, 31, 32, 33, 34, 35, 36, 37, 38, 39, 40, 41, 42]⟩, ⟨(some 69), .indexAddr 5 (T 68) (I 2), (some (64, true)), [0, 1, 2, 3, 4, 5, 6, 7, 8, 9, 10, 11, 12, 13, 14, 15, 16, 17, 18, 19, 20, 21, 22, 23, 24, 25, 26, 27, 28, 29, 30, 31, 32, 33, 34, 35, 36, 37, 38, 39, 40, 41, 42, 46]⟩, ⟨(some 70), .load (some 5) (T 69), (some (64, true)), [0, 1, 2, 3, 4, 5, 6, 7, 8, 9, 10, 11, 12, 13, 14, 15, 16, 17, 18, 19, 20, 21, 22, 23, 24, 25, 26, 27, 28, 29, 30, 31, 32, 33, 34, 35, 36, 37, 38, 39, 40, 41, 42, 46, 47]⟩, ⟨(some 71), .call 122 [(T 65), (T 66), (T 67), (T 70)] 3, (some (64, true)), [0, 1, 2, 3, 4, 5, 6, 7, 8, 9, 10, 11, 12, 13, 14, 15, 16, 17, 18, 19, 20, 21, 22, 23, 24, 25, 26, 27, 28, 29, 30, 31, 32, 33, 34, 35, 36, 37, 38, 39, 40, 41, 42, 43, 44, 45, 46, 47, 48]⟩, ⟨(some 72), .un .not (T 71), (some (64, true)), [0, 1, 2, 3, 4, 5, 6, 7, 8, 9, 10, 11, 12, 13, 14, 15, 16, 17, 18, 19, 20, 21, 22, 23, 24, 25, 26, 27, 28, 29, 30, 31, 32, 33, 34, 35, 36, 37, 38, 39, 40, 41, 42, 43, 44, 45, 46, 47, 48, 49]⟩, w 73 (.pick (T 64) (T 72) (.c (.bool false))) [0, 1, 2, 3, 4, 5, 6, 7, 8, 9, 10, 11, 12, 13, 14, 15, 16, 17, 18, 19, 20, 21, 22, 23, 24, 25, 26, 27, 28, 29, 30, 31, 32, 33, 34, 35, 36, 37, 38, 39, 40, 41, 42, 43, 44, 45, 46, 47, 48, 49, 50], w 74 (mT 73) [0, 1, 2, 3, 4, 5, 6, 7, 8, 9, 10, 11, 12, 13, 14, 15, 16, 17, 18, 19, 20, 21, 22, 23, 24, 25, 26, 27, 28, 29, 30, 31, 32, 33, 34, 35, 36, 37, 38, 39, 40, 41, 42, 43, 44, 45, 46, 47, 48, 49, 50, 51], ⟨(some 75), .load (some 4) (T 5), (some (74, true)), [0, 1, 2, 3, 4, 5, 6, 7, 8, 9, 10, 11, 12, 13, 14, 15, 16, 17, 18, 19, 20, 21, 22, 23, 24, 25, 26, 27, 28, 29, 30, 31, 32, 33, 34, 35, 36, 37, 38, 39, 40, 41, 42, 43, 44, 45, 46, 47, 48, 49, 50, 51, 52]⟩, ⟨(some 76), .build [(.int .i64 0), (.int .i64 0), (.int .i64 0), (.int .i64 0)] [(0, none, (I 2))], (some (74, true)), [0, 1, 2, 3, 4, 5, 6, 7, 8, 9, 10, 11, 12, 13, 14, 15, 16, 17, 18, 19, 20, 21, 22, 23, 24, 25, 26, 27, 28, 29, 30, 31, 32, 33, 34, 35, 36, 37, 38, 39, 40, 41, 42, 43, 44, 45, 46, 47, 48, 49, 50, 51, 52]⟩, ⟨(some 77), .eqs false [false, false, false, false] (T 75) (T 76), (some (74, true)), [0, 1, 2, 3, 4, 5, 6, 7, 8, 9, 10, 11, 12, 13, 14, 15, 16, 17, 18, 19, 20, 21, 22, 23, 24, 25, 26, 27, 28, 29, 30, 31, 32, 33, 34, 35, 36, 37, 38, 39, 40, 41, 42, 43, 44, 45, 46, 47, 48, 49, 50, 51, 52, 53, 54]⟩, w 78 (.pick (T 74) (T 77) (.c (.bool false))) [0, 1, 2, 3, 4, 5, 6, 7, 8, 9, 10, 11, 12, 13, 14, 15, 16, 17, 18, 19, 20, 21, 22, 23, 24, 25, 26, 27, 28, 29, 30, 31, 32, 33, 34, 35, 36, 37, 38, 39, 40, 41, 42, 43, 44, 45, 46, 47, 48, 49, 50, 51, 52, 53, 54, 55], w 79 (mT 78) [0, 1, 2, 3, 4, 5, 6, 7, 8, 9, 10, 11, 12, 13, 14, 15, 16, 17, 18, 19, 20, 21, 22, 23, 24, 25, 26, 27, 28, 29, 30, 31, 32, 33, 34, 35, 36, 37, 38, 39, 40, 41, 42, 43, 44, 45, 46, 47, 48, 49, 50, 51, 52, 53, 54, 55, 56], ⟨(some 80), .build [(.int .i64 0), (.int .i64 0), (.int .i64 0), (.int .i64 0)] [], (some (79, true)), [0, 1, 2, 3, 4, 5, 6, 7, 8, 9, 10, 11, 12, 13, 14, 15, 16, 17, 18, 19, 20, 21, 22, 23, 24, 25, 26, 27, 28, 29, 30, 31, 32, 33, 34, 35, 36, 37, 38, 39, 40, 41, 42, 43, 44, 45, 46, 47, 48, 49, 50, 51, 52, 53, 54, 55, 56, 57]⟩, ⟨(some 81), .call 124 [(T 80)] 3, (some (79, true)), [0, 1, 2, 3, 4, 5, 6, 7, 8, 9, 10, 11, 12, 13, 14, 15, 16, 17, 18, 19, 20, 21, 22, 23, 24, 25, 26, 27, 28, 29, 30, 31, 32, 33, 34, 35, 36, 37, 38, 39, 40, 41, 42, 43, 44, 45, 46, 47, 48, 49, 50, 51, 52, 53, 54, 55, 56, 57, 58]⟩, w 82 (.pick (T 79) (T 81) (.c (.bool false))) [0, 1, 2, 3, 4, 5, 6, 7, 8, 9, 10, 11, 12, 13, 14, 15, 16, 17, 18, 19, 20, 21, 22, 23, 24, 25, 26, 27, 28, 29, 30, 31, 32, 33, 34, 35, 36, 37, 38, 39, 40, 41, 42, 43, 44, 45, 46, 47, 48, 49, 50, 51, 52, 53, 54, 55, 56, 57, 58, 59], w 83 (mT 82) [0, 1, 2, 3, 4, 5, 6, 7, 8, 9, 10, 11, 12, 13, 14, 15, 16, 17, 18, 19, 20, 21, 22, 23, 24, 25, 26, 27, 28, 29, 30, 31, 32, 33, 34, 35, 36, 37, 38, 39, 40, 41, 42, 43, 44, 45, 46, 47, 48, 49, 50, 51, 52, 53, 54, 55, 56, 57, 58, 59, 60], ⟨(some 84), .build [(.int .i64 0), (.int .i64 0), (.int .i64 0), (.int .i64 0)] [(1, none, (I 1001))], (some (83, true)), [0, 1, 2, 3, 4, 5, 6, 7, 8, 9, 10, 11, 12, 13, 14, 15, 16, 17, 18, 19, 20, 21, 22, 23, 24, 25, 26, 27, 28, 29, 30, 31, 32, 33, 34, 35, 36, 37, 38, 39, 40, 41, 42, 43, 44, 45, 46, 47, 48, 49, 50, 51, 52, 53, 54, 55, 56, 57, 58, 59, 60, 61]⟩, ⟨(some 85), .call 124 [(T 84)] 3, (some (83, true)), [0, 1, 2, 3, 4, 5, 6, 7, 8, 9, 10, 11, 12, 13, 14, 15, 16, 17, 18, 19, 20, 21, 22, 23, 24, 25, 26, 27, 28, 29, 30, 31, 32, 33, 34, 35, 36, 37, 38, 39, 40, 41, 42, 43, 44, 45, 46, 47, 48, 49, 50, 51, 52, 53, 54, 55, 56, 57, 58, 59, 60, 61, 62]⟩, ⟨(some 86), .un .not (T 85), (some (83, true)), [0, 1, 2, 3, 4, 5, 6, 7, 8, 9, 10, 11, 12, 13, 14, 15, 16, 17, 18, 19, 20, 21, 22, 23, 24, 25, 26, 27, 28, 29, 30, 31, 32, 33, 34, 35, 36, 37, 38, 39, 40, 41, 42, 43, 44, 45, 46, 47, 48, 49, 50, 51, 52, 53, 54, 55, 56, 57, 58, 59, 60, 61, 62, 63]⟩, w 87 (.pick (T 83) (T 86) (.c (.bool false))) [0, 1, 2, 3, 4, 5, 6, 7, 8, 9, 10, 11, 12, 13, 14, 15, 16, 17, 18, 19, 20, 21, 22, 23, 24, 25, 26, 27, 28, 29, 30, 31, 32, 33, 34, 35, 36, 37, 38, 39, 40, 41, 42, 43, 44, 45, 46, 47, 48, 49, 50, 51, 52, 53, 54, 55, 56, 57, 58, 59, 60, 61, 62, 63, 64], w 0 (mT 87) [0, 1, 2, 3, 4, 5, 6, 7, 8, 9, 10, 11, 12, 13, 14, 15, 16, 17, 18, 19, 20, 21, 22, 23, 24, 25, 26, 27, 28, 29, 30, 31, 32, 33, 34, 35, 36, 37, 38, 39, 40, 41, 42, 43, 44, 45, 46, 47, 48, 49, 50, 51, 52, 53, 54, 55, 56, 57, 58, 59, 60, 61, 62, 63, 64, 65]] true)
.ret))))))), none⟩
def f_event_Enabled : IFun := ⟨23, 4, true, [true, true, true], [.tmp 6],
(.seq
(.reg [o 3 (.box (some 4) (T 0) 0), o 4 (.box (some 4) (T 1) 1), o 5 (.box (some 6) (T 2) 2), o 6 (.mov (.c .nils))] false)
(.seq
(.seq
(.reg [o 8 (.load (some 4) (T 3)), o 9 (.load (some 6) (T 5)), o 10 (.call 132 [(T 8), (T 9)] 3), o 11 (.un .not (T 10)), o 12 (mT 11), og (some 13) (.load (some 4) (T 4)) 12 false, og (some 14) (.call 124 [(T 13)] 3) 12 false, og (some 15) (.un .not (T 14)) 12 false, o 16 (.pick (T 12) (.c (.bool true)) (T 15))] false)
(.cond (T 16)
(.seq
(.reg [o 6 (.mov (.c .nils))] false)
.ret)
.skip))
(.seq
(.reg [o 17 (.load (some 4) (T 4)), o 18 (.load (some 6) (T 5)), o 19 (.call 133 [(T 17), (T 18)] 3), o 7 (mT 19)] false)
(.seq
(.reg [o 20 (mT 7), o 21 (.call 134 [(T 20), (.c (.fn 135 []))] 3)] false)
(.seq
(.reg [o 22 (mT 7), o 6 (mT 22)] false)
.ret))))), none⟩
def f_event_Is : IFun := ⟨29, 4, true, [true, true, true, true], [.tmp 8],
(.seq
(.reg [o 4 (.box (some 4) (T 0) 0), o 5 (.box (some 4) (T 1) 1), o 6 (.box (some 6) (T 2) 2), o 7 (.box (some 5) (T 3) 3), o 8 (.mov (.c (.bool false)))] false)
(.seq
(.reg [w 9 (.load (some 4) (T 4)) [], w 10 (.load (some 6) (T 6)) [], w 11 (.call 132 [(T 9), (T 10)] 4) [0, 1], w 12 (mT 11) [0, 1, 2], ⟨(some 13), .load (some 4) (T 5), (some (12, true)), [0, 1, 2, 3]⟩, ⟨(some 14), .call 124 [(T 13)] 4, (some (12, true)), [0, 1, 2, 3, 4]⟩, w 15 (.pick (T 12) (T 14) (.c (.bool false))) [0, 1, 2, 3, 4, 5], w 16 (mT 15) [0, 1, 2, 3, 4, 5, 6], ⟨(some 17), .load (some 6) (T 6), (some (16, true)), [0, 1, 2, 3, 4, 5, 6, 7]⟩, ⟨(some 18), .load (some 5) (T 7), (some (16, true)), [0, 1, 2, 3, 4, 5, 6, 7]⟩, ⟨(some 19), .call 136 [(T 17), (T 18)] 4, (some (16, true)), [0, 1, 2, 3, 4, 5, 6, 7, 8, 9]⟩, w 20 (.pick (T 16) (T 19) (.c (.bool false))) [0, 1, 2, 3, 4, 5, 6, 7, 8, 9, 10], w 21 (mT 20) [0, 1, 2, 3, 4, 5, 6, 7, 8, 9, 10, 11], ⟨(some 22), .load (some 4) (T 5), (some (21, true)), [0, 1, 2, 3, 4, 5, 6, 7, 8, 9, 10, 11, 12]⟩, ⟨(some 23), .load (some 6) (T 6), (some (21, true)), [0, 1, 2, 3, 4, 5, 6, 7, 8, 9, 10, 11, 12]⟩, ⟨(some 24), .call 131 [(T 22), (T 23)] 4, (some (21, true)), [0, 1, 2, 3, 4, 5, 6, 7, 8, 9, 10, 11, 12, 13, 14]⟩, ⟨(some 25), .fieldAddr (T 7) 0, (some (21, true)), [0, 1, 2, 3, 4, 5, 6, 7, 8, 9, 10, 11, 12]⟩, ⟨(some 26), .load none (T 25), (some (21, true)), [0, 1, 2, 3, 4, 5, 6, 7, 8, 9, 10, 11, 12, 16]⟩, ⟨(some 27), .call 137 [(T 24), (T 26)] 4, (some (21, true)), [0, 1, 2, 3, 4, 5, 6, 7, 8, 9, 10, 11, 12, 13, 14, 15, 16, 17]⟩, w 28 (.pick (T 21) (T 27) (.c (.bool false))) [0, 1, 2, 3, 4, 5, 6, 7, 8, 9, 10, 11, 12, 13, 14, 15, 16, 17, 18], w 8 (mT 28) [0, 1, 2, 3, 4, 5, 6, 7, 8, 9, 10, 11, 12, 13, 14, 15, 16, 17, 18, 19]] true)
.ret)), none⟩
def f_event_May : IFun := ⟨25, 1, true, [true], [.tmp 2],
(.seq
(.reg [o 1 (.box (some 4) (T 0) 0), o 2 (.mov (.c (.bool false)))] false)
(.seq
(.reg [o 3 (.fieldAddr (T 1) 0), o 4 (.load none (T 3)), o 5 (.fieldAddr (T 1) 1), o 6 (.load none (T 5)), o 7 (.fieldAddr (T 1) 2), o 8 (.load none (T 7)), o 9 (.fieldAddr (T 1) 3), o 10 (.load none (T 9)), o 11 (.mm false [(T 4), (T 6), (T 8), (T 10)]), o 12 (.bin .geq (T 11) (I 0)), o 13 (mT 12), og (some 14) (.fieldAddr (T 1) 0) 13 true, og (some 15) (.load none (T 14)) 13 true, og (some 16) (.fieldAddr (T 1) 1) 13 true, og (some 17) (.load none (T 16)) 13 true, og (some 18) (.fieldAddr (T 1) 2) 13 true, og (some 19) (.load none (T 18)) 13 true, og (some 20) (.fieldAddr (T 1) 3) 13 true, og (some 21) (.load none (T 20)) 13 true, og (some 22) (.mm true [(T 15), (T 17), (T 19), (T 21)]) 13 true, og (some 23) (.bin .leq (T 22) (I 1000)) 13 true, o 24 (.pick (T 13) (T 23) (.c (.bool false))), o 2 (mT 24)] false)
.ret)), none⟩
def f_law10_one : IFun := ⟨10, 4, true, [], [.cell (some 4) 0],
(.seq
(.reg [o 0 (.box (some 4) (.c (.agg [.nils, .nils, .nils, (.int .i64 0)])) 0)] false)
(.seq
(.reg [o 1 (.build [(.int .i64 0), .nils] []), o 2 (.buildSlice (some 2) [(T 1)] 1), o 3 (.build [.nils, (.int .i64 0), (.int .i64 0), (.bool false)] [(1, none, (I 4)), (2, none, (I 0)), (3, none, (.c (.bool true)))]), o 4 (.build [.nils, (.int .i64 0), (.int .i64 0), (.bool false)] [(1, none, (I 4)), (2, none, (I (-1)))]), o 5 (.buildSlice (some 4) [(T 3), (T 4)] 2), o 6 (.build [(.int .i64 0), (.int .i64 0), .nils] []), o 7 (.build [(.int .i64 0), (.int .i64 0), .nils] [(0, none, (I 1))]), o 8 (.buildSlice (some 3) [(T 6), (T 7)] 3), o 9 (.build [.nils, .nils, .nils, (.int .i64 0)] [(0, none, (T 2)), (1, none, (T 5)), (2, none, (T 8)), (3, none, (I 5))]), u (.store (some 4) (T 0) (T 9))] false)
.ret)), none⟩
def f_alike_Round : IFun := ⟨12, 0, true, [true, true], [.tmp 4],
(.seq
(.reg [o 4 (.mov (I 0))] false)
(.seq
(.reg [o 5 (mT 0), o 6 (mT 1), o 7 (.bin .rem (T 5) (T 6)), o 8 (mT 1), o 9 (.bin .add (T 7) (T 8)), o 10 (mT 1), o 11 (.bin .rem (T 9) (T 10)), o 4 (mT 11)] false)
.ret)), none⟩
def f_flow_Check : IFun := ⟨31, 2, true, [true], [.tmp 2],
(.seq
(.reg [o 1 (.box (some 4) (T 0) 0), o 2 (.mov (I 0))] false)
(.seq
(.seq
(.reg [o 9 (.load (some 4) (T 1)), o 10 (.call 139 [(T 9)] 1), o 3 (mT 10)] false)
(.seq
(.reg [o 11 (mT 3), o 12 (.bin .neq (T 11) (I 0))] false)
(.cond (T 12)
(.seq
(.reg [o 13 (mT 3), o 2 (mT 13)] false)
.ret)
.skip)))
(.seq
(.seq
(.reg [o 14 (.fieldAddr (T 1) 0), o 15 (.load none (T 14)), o 16 (.len (T 15)), o 17 (.mov (I 0))] false)
(.block 0
(.loop
(.seq
(.reg [o 18 (.bin .lss (T 17) (T 16))] false)
(.seq
(.cond (T 18)
.skip
(.exit 0))
(.seq
(.block 1
(.seq
(.reg [o 19 (.indexAddr 2 (T 15) (T 17)), o 20 (.load (some 2) (T 19)), o 5 (.box (some 2) (.c (.agg [(.int .i64 0), .nils])) 1), u (.store (some 2) (T 5) (T 20))] false)
(.seq
(.reg [o 22 (.load (some 4) (T 1)), o 23 (.load (some 2) (T 5)), o 24 (.call 140 [(T 22), (T 23)] 2), o 21 (mT 24), o 25 (.extract (T 21) 0), o 26 (.extract (T 21) 1), o 27 (.extract (T 21) 2), o 6 (mT 25), o 7 (mT 26), o 8 (mT 27)] false)
(.seq
(.reg [o 28 (mT 8), o 29 (.un .not (T 28))] false)
(.cond (T 29)
(.seq
(.reg [o 2 (.mov (I 5))] false)
.ret)
.skip)))))
(.reg [o 30 (.bin .add (T 17) (I 1)), o 17 (mT 30)] false)))))))
(.seq
(.reg [o 2 (.mov (I 0))] false)
.ret)))), none⟩
def f_slices_Clone_int_int : IFun := ⟨8, 2, false, [true], [.tmp 2],
(.seq
(.reg [o 2 (.mov (.c .nils))] false)
(.seq
(.seq
(.reg [o 3 (mT 0), o 4 (.eqn 0 false (T 3) (.c .nils))] false)
(.cond (T 4)
(.seq
(.reg [o 2 (.mov (.c .nils))] false)
.ret)
.skip))
(.seq
(.reg [o 5 (.buildSlice none [] 0), o 6 (mT 0), o 7 (.append 1 (T 5) (T 6) 1), o 2 (mT 7)] false)
.ret))), none⟩
def f_world_Give : IFun := ⟨59, 6, true, [true, true, true, true], [],
(.seq
(.reg [o 4 (.box (some 4) (T 0) 0)] false)
(.seq
(.reg [o 8 (.mov (I 0))] false)
(.seq
(.seq
(.reg [o 11 (mT 2), o 12 (.bin .geq (T 11) (I 0))] false)
(.cond (T 12)
(.reg [o 13 (mT 1), o 14 (.nilchk (T 13)), o 15 (.fieldAddr (T 14) 0), o 16 (.load none (T 15)), o 17 (mT 2), o 18 (.indexAddr 5 (T 16) (T 17)), o 19 (.fieldAddr (T 18) 3), o 20 (.load none (T 19)), o 21 (mT 3), o 22 (.len (T 21)), o 23 (.bin .sub (T 20) (T 22)), o 8 (mT 23)] false)
.skip))
(.seq
(.reg [o 24 (mT 3), o 25 (.len (T 24)), o 26 (.mov (I 0))] false)
(.block 0
(.loop
(.seq
(.adj [.cell 1 0 (some 1), .cell 1 1 (some 2)]
(.reg [o 27 (.bin .lss (T 26) (T 25))] false))
(.seq
(.cond (T 27)
.skip
(.exit 0))
(.seq
(.block 1
(.seq
(.reg [o 28 (mT 26), o 29 (.indexAddr 3 (T 24) (T 26)), o 30 (.load (some 3) (T 29)), o 10 (.box (some 3) (.c (.agg [(.int .i64 0), (.int .i64 0), .nils])) 3), o 9 (mT 28), u (.store (some 3) (T 10) (T 30))] false)
(.seq
(.reg [w 31 (.fieldAddr (T 10) 0) [], w 32 (.load none (T 31)) [0], w 33 (.bin .geq (T 32) (I 0)) [0, 1], w 34 (mT 33) [0, 1, 2], ⟨(some 35), .fieldAddr (T 10) 0, (some (34, true)), [0, 1, 2, 3]⟩, ⟨(some 36), .load none (T 35), (some (34, true)), [0, 1, 2, 3, 4]⟩, ⟨(some 37), .fieldAddr (T 4) 1, (some (34, true)), [0, 1, 2, 3]⟩, ⟨(some 38), .load none (T 37), (some (34, true)), [0, 1, 2, 3, 6]⟩, ⟨(some 39), .len (T 38), (some (34, true)), [0, 1, 2, 3, 6, 7]⟩, ⟨(some 40), .mov (T 1), (some (34, true)), [0, 1, 2, 3]⟩, ⟨(some 41), .nilchk (T 40), (some (34, true)), [0, 1, 2, 3, 9]⟩, ⟨(some 42), .fieldAddr (T 41) 0, (some (34, true)), [0, 1, 2, 3, 9, 10]⟩, ⟨(some 43), .load none (T 42), (some (34, true)), [0, 1, 2, 3, 9, 10, 11]⟩, ⟨(some 44), .len (T 43), (some (34, true)), [0, 1, 2, 3, 9, 10, 11, 12]⟩, ⟨(some 45), .mm false [(T 39), (T 44)], (some (34, true)), [0, 1, 2, 3, 6, 7, 8, 9, 10, 11, 12, 13]⟩, ⟨(some 46), .bin .lss (T 36) (T 45), (some (34, true)), [0, 1, 2, 3, 4, 5, 6, 7, 8, 9, 10, 11, 12, 13, 14]⟩, w 47 (.pick (T 34) (T 46) (.c (.bool false))) [0, 1, 2, 3, 4, 5, 6, 7, 8, 9, 10, 11, 12, 13, 14, 15]] true)
(.cond (T 47)
(.reg [o 48 (.load (some 4) (T 4)), o 49 (mT 1), o 50 (mT 2), o 51 (mT 8), o 52 (mT 9), o 53 (.bin .add (T 51) (T 52)), o 54 (.build [(.int .i64 0), (.int .i64 0), (.int .i64 0)] [(0, none, (T 50)), (1, none, (T 53))]), o 55 (.load (some 3) (T 10)), o 56 (.build [(.int .i64 0), (.int .i64 0), (.int .i64 0), (.int .i64 0), (.int .i64 0), .nils] [(0, (some 3), (T 54)), (3, (some 3), (T 55))]), o 57 (.call 141 [(T 48), (T 49), (T 56)] 4)] false)
.skip))))
(.reg [o 58 (.bin .add (T 26) (I 1)), o 26 (mT 58)] false)))))))))), none⟩
def f_event_Left : IFun := ⟨30, 3, true, [true, true], [.cell (some 4) 4],
(.seq
(.reg [o 2 (.box (some 4) (T 0) 0), o 3 (.box (some 6) (T 1) 1), o 4 (.box (some 4) (.c (.agg [(.int .i64 0), (.int .i64 0), (.int .i64 0), (.int .i64 0)])) 2)] false)
(.seq
(.reg [w 5 (.fieldAddr (T 2) 0) [], w 6 (.load none (T 5)) [0], w 7 (.fieldAddr (T 3) 2) [], w 8 (.fieldAddr (T 7) 0) [2], w 9 (.load none (T 8)) [2, 3], w 10 (.call 144 [(T 6), (T 9)] 3) [0, 1, 2, 3, 4], w 11 (.fieldAddr (T 2) 1) [], w 12 (.load none (T 11)) [6], w 13 (.fieldAddr (T 3) 2) [], w 14 (.fieldAddr (T 13) 1) [8], w 15 (.load none (T 14)) [8, 9], w 16 (.call 144 [(T 12), (T 15)] 3) [0, 1, 2, 3, 4, 5, 6, 7, 8, 9, 10], w 17 (.fieldAddr (T 2) 2) [], w 18 (.load none (T 17)) [12], w 19 (.fieldAddr (T 3) 2) [], w 20 (.fieldAddr (T 19) 2) [14], w 21 (.load none (T 20)) [14, 15], w 22 (.call 144 [(T 18), (T 21)] 3) [0, 1, 2, 3, 4, 5, 6, 7, 8, 9, 10, 11, 12, 13, 14, 15, 16], w 23 (.fieldAddr (T 2) 3) [], w 24 (.load none (T 23)) [18], w 25 (.fieldAddr (T 3) 2) [], w 26 (.fieldAddr (T 25) 3) [20], w 27 (.load none (T 26)) [20, 21], w 28 (.call 144 [(T 24), (T 27)] 3) [0, 1, 2, 3, 4, 5, 6, 7, 8, 9, 10, 11, 12, 13, 14, 15, 16, 17, 18, 19, 20, 21, 22], w 29 (.build [(.int .i64 0), (.int .i64 0), (.int .i64 0), (.int .i64 0)] [(0, none, (T 10)), (1, none, (T 16)), (2, none, (T 22)), (3, none, (T 28))]) [0, 1, 2, 3, 4, 5, 6, 7, 8, 9, 10, 11, 12, 13, 14, 15, 16, 17, 18, 19, 20, 21, 22, 23], ⟨none, .store (some 4) (T 4) (T 29), none, [0, 1, 2, 3, 4, 5, 6, 7, 8, 9, 10, 11, 12, 13, 14, 15, 16, 17, 18, 19, 20, 21, 22, 23, 24]⟩] true)
.ret)), none⟩
def f_world_Check : IFun := ⟨13, 2, true, [true, true], [.tmp 4],
(.seq
(.reg [o 2 (.box (some 4) (T 0) 0), o 3 (.box (some 6) (T 1) 1), o 4 (.mov (.c (.bool false)))] false)
(.seq
(.reg [o 5 (.load (some 4) (T 2)), o 6 (.call 128 [(T 5)] 2), o 7 (.bin .eql (T 6) (I 0)), o 8 (mT 7), og (some 9) (.load (some 4) (T 2)) 8 true, og (some 10) (.load (some 6) (T 3)) 8 true, og (some 11) (.call 145 [(T 9), (T 10)] 2) 8 true, o 12 (.pick (T 8) (T 11) (.c (.bool false))), o 4 (mT 12)] false)
.ret)), none⟩
def f_event_All : IFun := ⟨59, 11, true, [true, true], [.cell none 4],
(.seq
(.reg [o 2 (.box (some 4) (T 0) 0), o 3 (.box (some 6) (T 1) 1), o 4 (.box none (.c .nils) 2)] false)
(.seq
(.reg [o 14 (.load (some 4) (T 2)), o 15 (.load (some 6) (T 3)), o 16 (.call 131 [(T 14), (T 15)] 3), o 5 (.box (some 4) (.c (.agg [(.int .i64 0), (.int .i64 0), (.int .i64 0), (.int .i64 0)])) 3), u (.store (some 4) (T 5) (T 16))] false)
(.seq
(.reg [o 17 (.mkfn 146 [(T 5), (T 3), (T 4)]), o 6 (mT 17)] false)
(.seq
(.seq
(.reg [o 18 (.buildSlice none [(I 1), (I 2), (I 3)] 4), o 19 (.len (T 18)), o 20 (.mov (I 0))] false)
(.block 0
(.loop
(.seq
(.reg [o 21 (.bin .lss (T 20) (T 19))] false)
(.seq
(.cond (T 21)
.skip
(.exit 0))
(.seq
(.block 1
(.seq
(.reg [o 22 (.indexAddr 1 (T 18) (T 20)), o 23 (.load none (T 22)), o 8 (mT 23)] false)
(.seq
(.reg [o 24 (.fieldAddr (T 3) 1), o 25 (.load none (T 24)), o 26 (.len (T 25)), o 27 (.mov (I 0))] false)
(.block 2
(.loop
(.seq
(.reg [o 28 (.bin .lss (T 27) (T 26))] false)
(.seq
(.cond (T 28)
.skip
(.exit 2))
(.seq
(.block 3
(.seq
(.reg [o 29 (.indexAddr 6 (T 25) (T 27)), o 30 (.load (some 6) (T 29)), o 10 (.box (some 6) (.c (.agg [(.int .i64 0), (.int .i64 0), (.int .i64 0), (.int .i64 0), (.int .i64 0), .nils])) 5), u (.store (some 6) (T 10) (T 30))] false)
(.reg [o 31 (mT 6), o 32 (mT 8), o 33 (.fieldAddr (T 10) 0), o 34 (.load (some 3) (T 33)), o 35 (.build [(.int .i64 0), (.int .i64 0), (.int .i64 0), (.int .i64 0), (.int .i64 0)] [(0, none, (T 32)), (1, (some 3), (T 34))]), o 36 (.callv (T 31) [(T 35)] 6)] false)))
(.reg [o 37 (.bin .add (T 27) (I 1)), o 27 (mT 37)] false)))))))))
(.reg [o 38 (.bin .add (T 20) (I 1)), o 20 (mT 38)] false)))))))
(.seq
(.seq
(.reg [o 39 (.buildSlice none [(I 4), (I 5)] 8), o 40 (.len (T 39)), o 41 (.mov (I 0))] false)
(.block 4
(.loop
(.seq
(.reg [o 42 (.bin .lss (T 41) (T 40))] false)
(.seq
(.cond (T 42)
.skip
(.exit 4))
(.seq
(.block 5
(.seq
(.reg [o 43 (.indexAddr 1 (T 39) (T 41)), o 44 (.load none (T 43)), o 12 (mT 44)] false)
(.seq
(.reg [o 45 (.fieldAddr (T 3) 0), o 46 (.load none (T 45)), o 47 (.len (T 46)), o 48 (.mov (I 0))] false)
(.block 6
(.loop
(.seq
(.reg [o 49 (.bin .lss (T 48) (T 47))] false)
(.seq
(.cond (T 49)
.skip
(.exit 6))
(.seq
(.block 7
(.seq
(.reg [o 50 (mT 48), o 13 (mT 50)] false)
(.reg [o 51 (mT 6), o 52 (mT 12), o 53 (mT 13), o 54 (.build [(.int .i64 0), (.int .i64 0), (.int .i64 0), (.int .i64 0), (.int .i64 0)] [(0, none, (T 52)), (4, none, (T 53))]), o 55 (.callv (T 51) [(T 54)] 9)] false)))
(.reg [o 56 (.bin .add (T 48) (I 1)), o 48 (mT 56)] false)))))))))
(.reg [o 57 (.bin .add (T 41) (I 1)), o 41 (mT 57)] false)))))))
(.seq
(.reg [o 58 (.load none (T 4)), u (.store none (T 4) (T 58))] false)
.ret)))))), none⟩
def f_slices_SortFunc_api_Event_api_Event : IFun := ⟨14, 0, false, [], [],
(.seq
(.reg [o 5 (mT 0), o 6 (.len (T 5)), o 4 (mT 6)] false)
(.reg [o 7 (mT 0), o 8 (mT 4), o 9 (mT 4), o 10 (.toInt .u64 (T 9)), o 11 (.call 148 [(T 10)] 0), o 12 (mT 1), o 13 (.call 147 [(T 7), (I 0), (T 8), (T 11), (T 12)] 0)] false)), none⟩
def f_ident_Order : IFun := ⟨22, 3, true, [true, true], [.tmp 4],
(.seq
(.reg [o 2 (.box (some 5) (T 0) 0), o 3 (.box (some 5) (T 1) 1), o 4 (.mov (I 0))] false)
(.seq
(.reg [w 5 (.fieldAddr (T 2) 0) [], w 6 (.load none (T 5)) [0], w 7 (.fieldAddr (T 3) 0) [], w 8 (.load none (T 7)) [2], w 9 (.call 103 [(T 6), (T 8)] 2) [0, 1, 2, 3], w 10 (.fieldAddr (T 2) 1) [], w 11 (.load (some 3) (T 10)) [5], w 12 (.fieldAddr (T 3) 1) [], w 13 (.load (some 3) (T 12)) [7], w 14 (.call 96 [(T 11), (T 13)] 2) [0, 1, 2, 3, 4, 5, 6, 7, 8], w 15 (.fieldAddr (T 2) 4) [], w 16 (.load none (T 15)) [10], w 17 (.fieldAddr (T 3) 4) [], w 18 (.load none (T 17)) [12], w 19 (.call 103 [(T 16), (T 18)] 2) [0, 1, 2, 3, 4, 5, 6, 7, 8, 9, 10, 11, 12, 13], w 20 (.buildSlice none [(T 9), (T 14), (T 19)] 2) [0, 1, 2, 3, 4, 5, 6, 7, 8, 9, 10, 11, 12, 13, 14], w 21 (.call 102 [(T 20)] 3) [0, 1, 2, 3, 4, 5, 6, 7, 8, 9, 10, 11, 12, 13, 14, 15], w 4 (mT 21) [0, 1, 2, 3, 4, 5, 6, 7, 8, 9, 10, 11, 12, 13, 14, 15, 16]] true)
.ret)), none⟩
def f_event_Can : IFun := ⟨88, 2, true, [true, true], [.tmp 4],
(.seq
(.reg [o 2 (.box (some 6) (T 0) 0), o 3 (.box (some 5) (T 1) 1), o 4 (.mov (.c (.bool false)))] false)
(.seq
(.seq
(.reg [o 6 (.fieldAddr (T 3) 0), o 7 (.load none (T 6))] false)
(.block 0
(.seq
(.seq
(.reg [o 9 (.bin .eql (T 7) (I 1)), o 8 (mT 9)] false)
(.cond (T 8)
.skip
(.seq
(.reg [o 10 (.bin .eql (T 7) (I 2)), o 8 (mT 10)] false)
(.cond (T 8)
.skip
(.reg [o 11 (.bin .eql (T 7) (I 3)), o 8 (mT 11)] false)))))
(.cond (T 8)
(.seq
(.reg [o 12 (.fieldAddr (T 2) 1), o 13 (.load none (T 12)), o 14 (.fieldAddr (T 3) 1), o 15 (.load (some 3) (T 14)), o 16 (.call 39 [(T 13), (T 15)] 2), o 5 (mT 16)] false)
(.seq
(.reg [w 17 (.fieldAddr (T 3) 4) [], w 18 (.load none (T 17)) [0], w 19 (.bin .eql (T 18) (I 0)) [0, 1], w 20 (mT 19) [0, 1, 2], ⟨(some 21), .mov (T 5), (some (20, true)), [0, 1, 2, 3]⟩, ⟨(some 22), .bin .geq (T 21) (I 0), (some (20, true)), [0, 1, 2, 3, 4]⟩, w 23 (.pick (T 20) (T 22) (.c (.bool false))) [0, 1, 2, 3, 4, 5], w 24 (mT 23) [0, 1, 2, 3, 4, 5, 6], ⟨(some 25), .fieldAddr (T 3) 0, (some (24, true)), [0, 1, 2, 3, 4, 5, 6, 7]⟩, ⟨(some 26), .load none (T 25), (some (24, true)), [0, 1, 2, 3, 4, 5, 6, 7, 8]⟩, ⟨(some 27), .bin .neq (T 26) (I 1), (some (24, true)), [0, 1, 2, 3, 4, 5, 6, 7, 8, 9]⟩, ⟨(some 28), .mov (T 27), (some (24, true)), [0, 1, 2, 3, 4, 5, 6, 7, 8, 9, 10]⟩, ⟨(some 29), .fieldAddr (T 2) 0, (some (28, false)), [0, 1, 2, 3, 4, 5, 6, 7, 8, 9, 10, 11]⟩, ⟨(some 30), .load none (T 29), (some (28, false)), [0, 1, 2, 3, 4, 5, 6, 7, 8, 9, 10, 11, 12]⟩, ⟨(some 31), .fieldAddr (T 2) 1, (some (28, false)), [0, 1, 2, 3, 4, 5, 6, 7, 8, 9, 10, 11]⟩, ⟨(some 32), .load none (T 31), (some (28, false)), [0, 1, 2, 3, 4, 5, 6, 7, 8, 9, 10, 11, 14]⟩, ⟨(some 33), .mov (T 5), (some (28, false)), [0, 1, 2, 3, 4, 5, 6, 7, 8, 9, 10, 11]⟩, ⟨(some 34), .indexAddr 6 (T 32) (T 33), (some (28, false)), [0, 1, 2, 3, 4, 5, 6, 7, 8, 9, 10, 11, 14, 15, 16]⟩, ⟨(some 35), .fieldAddr (T 34) 3, (some (28, false)), [0, 1, 2, 3, 4, 5, 6, 7, 8, 9, 10, 11, 14, 15, 16, 17]⟩, ⟨(some 36), .fieldAddr (T 35) 0, (some (28, false)), [0, 1, 2, 3, 4, 5, 6, 7, 8, 9, 10, 11, 14, 15, 16, 17, 18]⟩, ⟨(some 37), .load none (T 36), (some (28, false)), [0, 1, 2, 3, 4, 5, 6, 7, 8, 9, 10, 11, 14, 15, 16, 17, 18, 19]⟩, ⟨(some 38), .indexAddr 5 (T 30) (T 37), (some (28, false)), [0, 1, 2, 3, 4, 5, 6, 7, 8, 9, 10, 11, 12, 13, 14, 15, 16, 17, 18, 19, 20]⟩, ⟨(some 39), .fieldAddr (T 38) 2, (some (28, false)), [0, 1, 2, 3, 4, 5, 6, 7, 8, 9, 10, 11, 12, 13, 14, 15, 16, 17, 18, 19, 20, 21]⟩, ⟨(some 40), .load none (T 39), (some (28, false)), [0, 1, 2, 3, 4, 5, 6, 7, 8, 9, 10, 11, 12, 13, 14, 15, 16, 17, 18, 19, 20, 21, 22]⟩, ⟨(some 41), .bin .eql (T 40) (I 0), (some (28, false)), [0, 1, 2, 3, 4, 5, 6, 7, 8, 9, 10, 11, 12, 13, 14, 15, 16, 17, 18, 19, 20, 21, 22, 23]⟩, ⟨(some 42), .pick (T 28) (.c (.bool true)) (T 41), (some (24, true)), [0, 1, 2, 3, 4, 5, 6, 7, 8, 9, 10, 11, 12, 13, 14, 15, 16, 17, 18, 19, 20, 21, 22, 23, 24]⟩, w 43 (.pick (T 24) (T 42) (.c (.bool false))) [0, 1, 2, 3, 4, 5, 6, 7, 8, 9, 10, 11, 12, 13, 14, 15, 16, 17, 18, 19, 20, 21, 22, 23, 24, 25], w 4 (mT 43) [0, 1, 2, 3, 4, 5, 6, 7, 8, 9, 10, 11, 12, 13, 14, 15, 16, 17, 18, 19, 20, 21, 22, 23, 24, 25, 26]] true)
.ret))
(.seq
(.seq
(.reg [o 45 (.bin .eql (T 7) (I 4)), o 44 (mT 45)] false)
(.cond (T 44)
.skip
(.reg [o 46 (.bin .eql (T 7) (I 5)), o 44 (mT 46)] false)))
(.cond (T 44)
(.seq
(.reg [o 47 (.fieldAddr (T 3) 1), o 48 (.load (some 3) (T 47)), o 49 (.build [(.int .i64 0), (.int .i64 0), (.int .i64 0)] []), o 50 (.eqs false [false, false, false] (T 48) (T 49)), o 51 (mT 50), og (some 52) (.fieldAddr (T 3) 4) 51 true, og (some 53) (.load none (T 52)) 51 true, og (some 54) (.bin .geq (T 53) (I 0)) 51 true, o 55 (.pick (T 51) (T 54) (.c (.bool false))), o 56 (mT 55), og (some 57) (.fieldAddr (T 3) 4) 56 true, og (some 58) (.load none (T 57)) 56 true, og (some 59) (.fieldAddr (T 2) 0) 56 true, og (some 60) (.load none (T 59)) 56 true, og (some 61) (.len (T 60)) 56 true, og (some 62) (.bin .lss (T 58) (T 61)) 56 true, o 63 (.pick (T 56) (T 62) (.c (.bool false))), o 64 (mT 63), og (some 65) (.fieldAddr (T 2) 0) 64 true, og (some 66) (.load none (T 65)) 64 true, og (some 67) (.fieldAddr (T 3) 4) 64 true, og (some 68) (.load none (T 67)) 64 true, og (some 69) (.indexAddr 5 (T 66) (T 68)) 64 true, og (some 70) (.fieldAddr (T 69) 2) 64 true, og (some 71) (.load none (T 70)) 64 true, og (some 72) (.bin .eql (T 71) (I 0)) 64 true, o 73 (.pick (T 64) (T 72) (.c (.bool false))), o 74 (mT 73), og (some 75) (.fieldAddr (T 3) 0) 74 true, og (some 76) (.load none (T 75)) 74 true, og (some 77) (.bin .neq (T 76) (I 4)) 74 true, og (some 78) (mT 77) 74 true, og (some 79) (.fieldAddr (T 2) 0) 78 false, og (some 80) (.load none (T 79)) 78 false, og (some 81) (.fieldAddr (T 3) 4) 78 false, og (some 82) (.load none (T 81)) 78 false, og (some 83) (.indexAddr 5 (T 80) (T 82)) 78 false, og (some 84) (.fieldAddr (T 83) 1) 78 false, og (some 85) (.load none (T 84)) 78 false, og (some 86) (.pick (T 78) (.c (.bool true)) (T 85)) 74 true, o 87 (.pick (T 74) (T 86) (.c (.bool false))), o 4 (mT 87)] false)
.ret)
.skip))))))
(.seq
(.reg [o 4 (.mov (.c (.bool false)))] false)
.ret))), none⟩
def f_event_paid : IFun := ⟨26, 1, true, [true, true], [.tmp 4],
(.seq
(.reg [o 2 (.box (some 4) (T 0) 0), o 4 (.mov (.c (.bool false)))] false)
(.seq
(.seq
(.reg [o 5 (mT 1)] false)
(.block 0
(.seq
(.reg [o 7 (.bin .eql (T 5) (I 2)), o 6 (mT 7)] false)
(.cond (T 6)
(.seq
(.reg [o 8 (.fieldAddr (T 2) 0), o 9 (.load none (T 8)), o 10 (.bin .gtr (T 9) (I 0)), o 4 (mT 10)] false)
.ret)
(.seq
(.reg [o 12 (.bin .eql (T 5) (I 3)), o 11 (mT 12)] false)
(.cond (T 11)
(.seq
(.reg [o 13 (.fieldAddr (T 2) 1), o 14 (.load none (T 13)), o 15 (.bin .gtr (T 14) (I 0)), o 4 (mT 15)] false)
.ret)
(.seq
(.reg [o 17 (.bin .eql (T 5) (I 4)), o 16 (mT 17)] false)
(.cond (T 16)
(.seq
(.reg [o 18 (.fieldAddr (T 2) 2), o 19 (.load none (T 18)), o 20 (.bin .gtr (T 19) (I 0)), o 4 (mT 20)] false)
.ret)
(.seq
(.reg [o 22 (.bin .eql (T 5) (I 5)), o 21 (mT 22)] false)
(.cond (T 21)
(.seq
(.reg [o 23 (.fieldAddr (T 2) 3), o 24 (.load none (T 23)), o 25 (.bin .gtr (T 24) (I 0)), o 4 (mT 25)] false)
.ret)
.skip))))))))))
(.seq
(.reg [o 4 (.mov (.c (.bool true)))] false)
.ret))), none⟩
def f_prog_Check : IFun := ⟨47, 1, true, [true], [.tmp 2],
(.seq
(.reg [o 1 (.box (some 4) (T 0) 0), o 2 (.mov (I 0))] false)
(.seq
(.block 0
(.seq
(.seq
(.reg [o 6 (.fieldAddr (T 1) 0), o 7 (.load none (T 6)), o 8 (.len (T 7)), o 9 (.bin .gtr (T 8) (I 16)), o 5 (mT 9)] false)
(.cond (T 5)
.skip
(.seq
(.reg [o 10 (.fieldAddr (T 1) 1), o 11 (.load none (T 10)), o 12 (.len (T 11)), o 13 (.bin .gtr (T 12) (I 8)), o 5 (mT 13)] false)
(.cond (T 5)
.skip
(.reg [o 14 (.fieldAddr (T 1) 2), o 15 (.load none (T 14)), o 16 (.len (T 15)), o 17 (.bin .gtr (T 16) (I 16)), o 5 (mT 17)] false)))))
(.cond (T 5)
(.seq
(.reg [o 2 (.mov (I 3))] false)
.ret)
(.seq
(.seq
(.reg [o 19 (.fieldAddr (T 1) 1), o 20 (.load none (T 19)), o 21 (.len (T 20)), o 22 (.bin .eql (T 21) (I 0)), o 18 (mT 22)] false)
(.cond (T 18)
.skip
(.seq
(.reg [o 23 (.fieldAddr (T 1) 3), o 24 (.load none (T 23)), o 25 (.bin .lss (T 24) (I 1)), o 18 (mT 25)] false)
(.cond (T 18)
.skip
(.reg [o 26 (.fieldAddr (T 1) 3), o 27 (.load none (T 26)), o 28 (.bin .gtr (T 27) (I 256)), o 18 (mT 28)] false)))))
(.cond (T 18)
(.seq
(.reg [o 2 (.mov (I 1))] false)
.ret)
.skip)))))
(.seq
(.seq
(.reg [o 29 (.load (some 4) (T 1)), o 30 (.fieldAddr (T 1) 0), o 31 (.load none (T 30)), o 32 (.call 150 [(T 29), (T 31), (.c (.fn 151 []))] 1), o 3 (mT 32)] false)
(.seq
(.reg [o 33 (mT 3), o 34 (.bin .neq (T 33) (I 0))] false)
(.cond (T 34)
(.seq
(.reg [o 35 (mT 3), o 2 (mT 35)] false)
.ret)
.skip)))
(.seq
(.seq
(.reg [o 36 (.load (some 4) (T 1)), o 37 (.fieldAddr (T 1) 1), o 38 (.load none (T 37)), o 39 (.call 152 [(T 36), (T 38), (.c (.fn 153 []))] 1), o 4 (mT 39)] false)
(.seq
(.reg [o 40 (mT 4), o 41 (.bin .neq (T 40) (I 0))] false)
(.cond (T 41)
(.seq
(.reg [o 42 (mT 4), o 2 (mT 42)] false)
.ret)
.skip)))
(.seq
(.reg [o 43 (.load (some 4) (T 1)), o 44 (.fieldAddr (T 1) 2), o 45 (.load none (T 44)), o 46 (.call 154 [(T 43), (T 45), (.c (.fn 155 []))] 1), o 2 (mT 46)] false)
.ret))))), none⟩
def f_flow_walk : IFun := ⟨100, 8, true, [true, true], [.tmp 4, .tmp 5, .tmp 6],
(.seq
(.reg [o 2 (.box (some 4) (T 0) 0), o 3 (.box (some 2) (T 1) 1), o 4 (.mov (.c .nils)), o 5 (.mov (I 0)), o 6 (.mov (.c (.bool false)))] false)
(.seq
(.reg [o 13 (.buildSlice none [(I (-1))] 2), o 14 (.fieldAddr (T 3) 1), o 15 (.load none (T 14)), o 16 (.len (T 15)), o 17 (.bin .add (T 16) (I 1)), o 18 (.call 156 [(T 13), (T 17)] 3), o 4 (mT 18)] false)
(.seq
(.reg [o 19 (mT 4), o 20 (.indexAddr 1 (T 19) (I 0)), u (.store none (T 20) (I 0))] false)
(.seq
(.seq
(.reg [o 21 (.buildSlice none [(I 0)] 4), o 7 (mT 21)] false)
(.block 0
(.loop
(.seq
(.seq
(.reg [o 22 (mT 7), o 23 (.len (T 22)), o 24 (.bin .gtr (T 23) (I 0))] false)
(.cond (T 24)
.skip
(.exit 0)))
(.block 1
(.seq
(.reg [o 25 (mT 7), o 26 (.indexAddr 1 (T 25) (I 0)), o 27 (.load none (T 26)), o 8 (mT 27)] false)
(.seq
(.reg [o 28 (mT 7), o 29 (.slice 1 (T 28) (some (I 1)) none none), o 7 (mT 29)] false)
(.seq
(.seq
(.reg [o 30 (mT 8), o 31 (.fieldAddr (T 3) 1), o 32 (.load none (T 31)), o 33 (.len (T 32)), o 34 (.bin .eql (T 30) (T 33))] false)
(.cond (T 34)
(.exit 1)
.skip))
(.seq
(.reg [o 35 (.fieldAddr (T 3) 1), o 36 (.load none (T 35)), o 37 (mT 8), o 38 (.indexAddr 2 (T 36) (T 37)), o 39 (.load (some 2) (T 38)), o 9 (.box (some 2) (.c (.agg [(.int .i64 0), (.int .i64 0)])) 5), u (.store (some 2) (T 9) (T 39))] false)
(.seq
(.reg [w 40 (mT 4) [], w 41 (mT 8) [], w 42 (.indexAddr 1 (T 40) (T 41)) [0, 1], w 43 (.load none (T 42)) [0, 1, 2], w 44 (.load (some 4) (T 2)) [], w 45 (.load (some 2) (T 9)) [], w 46 (.call 157 [(T 44), (T 45)] 6) [4, 5], w 47 (.bin .sub (T 43) (T 46)) [0, 1, 2, 3, 4, 5, 6], w 10 (mT 47) [0, 1, 2, 3, 4, 5, 6, 7]] true)
(.seq
(.seq
(.reg [o 48 (mT 10), o 49 (.bin .lss (T 48) (I 0)), o 50 (mT 49), og (some 51) (mT 10) 50 false, og (some 52) (.fieldAddr (T 9) 0) 50 false, og (some 53) (.load none (T 52)) 50 false, og (some 54) (.call 158 [(T 53)] 6) 50 false, og (some 55) (.bin .add (T 51) (T 54)) 50 false, og (some 56) (.bin .gtr (T 55) (I 8)) 50 false, o 57 (.pick (T 50) (.c (.bool true)) (T 56))] false)
(.cond (T 57)
(.seq
(.reg [o 4 (.mov (.c .nils)), o 5 (.mov (I 0)), o 6 (.mov (.c (.bool false)))] false)
.ret)
.skip))
(.seq
(.reg [o 58 (mT 10), o 59 (.fieldAddr (T 9) 0), o 60 (.load none (T 59)), o 61 (.call 158 [(T 60)] 6), o 62 (.bin .add (T 58) (T 61)), o 10 (mT 62)] false)
(.seq
(.reg [o 63 (mT 5), o 64 (mT 4), o 65 (mT 8), o 66 (.indexAddr 1 (T 64) (T 65)), o 67 (.load none (T 66)), o 68 (mT 10), o 69 (.mm true [(T 63), (T 67), (T 68)]), o 5 (mT 69)] false)
(.seq
(.reg [o 70 (mT 8), o 71 (.load (some 2) (T 9)), o 72 (.call 159 [(T 70), (T 71)] 6), o 73 (.len (T 72)), o 74 (.mov (I 0))] false)
(.block 2
(.loop
(.seq
(.reg [o 75 (.bin .lss (T 74) (T 73))] false)
(.seq
(.cond (T 75)
.skip
(.exit 2))
(.seq
(.block 3
(.seq
(.reg [o 76 (.indexAddr 1 (T 72) (T 74)), o 77 (.load none (T 76)), o 12 (mT 77)] false)
(.seq
(.seq
(.reg [o 78 (mT 4), o 79 (mT 12), o 80 (.indexAddr 1 (T 78) (T 79)), o 81 (.load none (T 80)), o 82 (.bin .eql (T 81) (I (-1)))] false)
(.cond (T 82)
(.seq
(.reg [o 83 (mT 4), o 84 (mT 12), o 85 (mT 10), o 86 (.indexAddr 1 (T 83) (T 84)), u (.store none (T 86) (T 85))] false)
(.reg [o 87 (mT 7), o 88 (mT 12), o 89 (.buildSlice none [(T 88)] 6), o 90 (.append 1 (T 87) (T 89) 7), o 7 (mT 90)] false))
.skip))
(.seq
(.reg [o 91 (mT 4), o 92 (mT 12), o 93 (.indexAddr 1 (T 91) (T 92)), o 94 (.load none (T 93)), o 95 (mT 10), o 96 (.bin .neq (T 94) (T 95))] false)
(.cond (T 96)
(.seq
(.reg [o 4 (.mov (.c .nils)), o 5 (.mov (I 0)), o 6 (.mov (.c (.bool false)))] false)
.ret)
.skip)))))
(.reg [o 97 (.bin .add (T 74) (I 1)), o 74 (mT 97)] false))))))))))))))))))))
(.seq
(.reg [o 98 (mT 4), o 99 (mT 5), o 4 (mT 98), o 5 (mT 99), o 6 (.mov (.c (.bool true)))] false)
.ret))))), none⟩
def f_world_Post : IFun := ⟨51, 3, true, [true, true, true], [],
(.seq
(.reg [o 3 (.box (some 4) (T 0) 0), o 5 (.box (some 6) (T 2) 1)] false)
(.seq
(.reg [o 9 (.fieldAddr (T 5) 3), o 10 (.fieldAddr (T 9) 0), o 11 (.load none (T 10)), o 6 (mT 11)] false)
(.seq
(.seq
(.reg [w 12 (mT 1) [], w 13 (.nilchk (T 12)) [0], w 14 (.fieldAddr (T 13) 1) [0, 1], w 15 (.load none (T 14)) [0, 1, 2], w 16 (mT 6) [], w 17 (.call 41 [(T 15), (T 16)] 2) [0, 1, 2, 3, 4], w 18 (.fieldAddr (T 3) 1) [], w 19 (.load none (T 18)) [6], w 20 (mT 6) [], w 21 (.indexAddr 4 (T 19) (T 20)) [6, 7, 8], w 22 (.fieldAddr (T 21) 1) [6, 7, 8, 9], w 23 (.load none (T 22)) [6, 7, 8, 9, 10], w 24 (.bin .lss (T 17) (T 23)) [0, 1, 2, 3, 4, 5, 6, 7, 8, 9, 10, 11]] true)
(.cond (T 24)
(.seq
(.reg [w 26 (mT 1) [], w 27 (.nilchk (T 26)) [0], w 28 (.fieldAddr (T 27) 1) [0, 1], w 29 (.load none (T 28)) [0, 1, 2], w 30 (.load (some 6) (T 5)) [], w 31 (.call 32 [(T 29), (T 30)] 2) [0, 1, 2, 3, 4], w 25 (mT 31) [0, 1, 2, 3, 4, 5], w 32 (.extract (T 25) 0) [0, 1, 2, 3, 4, 5, 6], w 33 (.extract (T 25) 1) [0, 1, 2, 3, 4, 5, 6], w 7 (mT 32) [0, 1, 2, 3, 4, 5, 6, 7], w 8 (mT 33) [0, 1, 2, 3, 4, 5, 6, 7, 8, 9]] true)
(.seq
(.reg [o 34 (mT 8), o 35 (.bin .eql (T 34) (I 0))] false)
(.cond (T 35)
(.seq
(.reg [o 36 (mT 1), o 37 (mT 7), o 38 (.nilchk (T 36)), o 39 (.fieldAddr (T 38) 1), u (.store none (T 39) (T 37))] false)
.ret)
.skip)))
.skip))
(.reg [o 40 (mT 1), o 41 (.nilchk (T 40)), o 42 (.fieldAddr (T 41) 0), o 43 (.load none (T 42)), o 44 (mT 6), o 45 (.indexAddr 5 (T 43) (T 44)), o 46 (.fieldAddr (T 45) 4), o 47 (.load none (T 46)), o 48 (.bin .add (T 47) (I 1)), o 49 (.indexAddr 5 (T 43) (T 44)), o 50 (.fieldAddr (T 49) 4), u (.store none (T 50) (T 48))] false)))), none⟩
def f_mail_Find : IFun := ⟨8, 1, true, [true, true], [.tmp 4],
(.seq
(.reg [o 3 (.box (some 3) (T 1) 0), o 4 (.mov (I 0))] false)
(.seq
(.reg [o 5 (mT 0), o 6 (.mkfn 81 [(T 3)]), o 7 (.call 73 [(T 5), (T 6)] 1), o 4 (mT 7)] false)
.ret)), none⟩
def f_event_less : IFun := ⟨9, 0, true, [true, true], [.tmp 4],
(.seq
(.reg [o 4 (.mov (I 0))] false)
(.seq
(.reg [o 5 (mT 0), o 6 (mT 1), o 7 (.bin .sub (T 5) (T 6)), o 8 (.mm true [(T 7), (I 0)]), o 4 (mT 8)] false)
.ret)), none⟩
def f_world_Fits : IFun := ⟨58, 3, true, [true, true], [.tmp 4],
(.seq
(.reg [o 2 (.box (some 4) (T 0) 0), o 3 (.box (some 6) (T 1) 1), o 4 (.mov (.c (.bool false)))] false)
(.seq
(.seq
(.reg [o 7 (.fieldAddr (T 3) 0), o 8 (.load none (T 7)), o 9 (.len (T 8)), o 10 (.fieldAddr (T 2) 1), o 11 (.load none (T 10)), o 12 (.len (T 11)), o 13 (.bin .neq (T 9) (T 12)), o 14 (mT 13), og (some 15) (.fieldAddr (T 3) 1) 14 false, og (some 16) (.load none (T 15)) 14 false, og (some 17) (.call 37 [(T 16)] 2) 14 false, og (some 18) (.un .not (T 17)) 14 false, o 19 (.pick (T 14) (.c (.bool true)) (T 18)), o 20 (mT 19), og (some 21) (.fieldAddr (T 3) 2) 20 false, og (some 22) (.fieldAddr (T 21) 0) 20 false, og (some 23) (.load none (T 22)) 20 false, og (some 24) (.fieldAddr (T 3) 2) 20 false, og (some 25) (.fieldAddr (T 24) 1) 20 false, og (some 26) (.load none (T 25)) 20 false, og (some 27) (.fieldAddr (T 3) 2) 20 false, og (some 28) (.fieldAddr (T 27) 2) 20 false, og (some 29) (.load none (T 28)) 20 false, og (some 30) (.fieldAddr (T 3) 2) 20 false, og (some 31) (.fieldAddr (T 30) 3) 20 false, og (some 32) (.load none (T 31)) 20 false, og (some 33) (.mm false [(T 23), (T 26), (T 29), (T 32)]) 20 false, og (some 34) (.bin .lss (T 33) (I 0)) 20 false, o 35 (.pick (T 20) (.c (.bool true)) (T 34))] false)
(.cond (T 35)
(.seq
(.reg [o 4 (.mov (.c (.bool false)))] false)
.ret)
.skip))
(.seq
(.seq
(.reg [o 36 (.fieldAddr (T 3) 0), o 37 (.load none (T 36)), o 38 (.len (T 37)), o 39 (.mov (I 0))] false)
(.block 0
(.loop
(.seq
(.reg [o 40 (.bin .lss (T 39) (T 38))] false)
(.seq
(.cond (T 40)
.skip
(.exit 0))
(.seq
(.block 1
(.seq
(.reg [o 41 (mT 39), o 42 (.indexAddr 5 (T 37) (T 39)), o 43 (.load (some 5) (T 42)), o 6 (.box (some 5) (.c (.agg [.nils, (.bool false), (.int .i64 0), (.int .i64 0), (.int .i64 0)])) 2), o 5 (mT 41), u (.store (some 5) (T 6) (T 43))] false)
(.seq
(.reg [w 44 (.fieldAddr (T 2) 1) [], w 45 (.load none (T 44)) [0], w 46 (mT 5) [], w 47 (.indexAddr 4 (T 45) (T 46)) [0, 1, 2], w 48 (.load (some 4) (T 47)) [0, 1, 2, 3], w 49 (.load (some 5) (T 6)) [], w 50 (.call 161 [(T 48), (T 49)] 3) [0, 1, 2, 3, 4, 5], w 51 (.un .not (T 50)) [0, 1, 2, 3, 4, 5, 6]] true)
(.cond (T 51)
(.seq
(.reg [o 4 (.mov (.c (.bool false)))] false)
.ret)
.skip))))
(.reg [o 52 (.bin .add (T 39) (I 1)), o 39 (mT 52)] false)))))))
(.seq
(.reg [o 53 (.fieldAddr (T 3) 1), o 54 (.load none (T 53)), o 55 (.mkfn 163 [(T 2), (T 3)]), o 56 (.call 162 [(T 54), (T 55)] 3), o 57 (.un .not (T 56)), o 4 (mT 57)] false)
.ret)))), none⟩
def f_event_All_1 : IFun := ⟨18, 3, true, [], [],
(.seq
(.reg [o 4 (.box (some 5) (T 0) 0)] false)
(.seq
(.reg [o 5 (.load (some 4) (T 1)), o 6 (.fieldAddr (T 4) 0), o 7 (.load none (T 6)), o 8 (.call 137 [(T 5), (T 7)] 1), o 9 (mT 8), og (some 10) (.load (some 6) (T 2)) 9 true, og (some 11) (.load (some 5) (T 4)) 9 true, og (some 12) (.call 136 [(T 10), (T 11)] 1) 9 true, o 13 (.pick (T 9) (T 12) (.c (.bool false)))] false)
(.cond (T 13)
(.reg [o 14 (.load none (T 3)), o 15 (.load (some 5) (T 4)), o 16 (.buildSlice (some 5) [(T 15)] 1), o 17 (.append 5 (T 14) (T 16) 2), u (.store none (T 3) (T 17))] false)
.skip))), none⟩
def f_slices_pdqsortCmpFunc_api_Event : IFun := ⟨148, 2, true, [], [],
(.seq
(.reg [o 10 (.mov (.c (.bool true)))] false)
(.seq
(.reg [o 11 (.mov (.c (.bool true)))] false)
(.block 0
(.loop
(.block 1
(.seq
(.reg [o 21 (mT 2), o 22 (mT 1), o 23 (.bin .sub (T 21) (T 22)), o 12 (mT 23)] false)
(.seq
(.seq
(.reg [o 24 (mT 12), o 25 (.bin .leq (T 24) (I 12))] false)
(.cond (T 25)
(.seq
(.reg [o 26 (mT 0), o 27 (mT 1), o 28 (mT 2), o 29 (mT 4), o 30 (.call 165 [(T 26), (T 27), (T 28), (T 29)] 0)] false)
.ret)
.skip))
(.seq
(.seq
(.reg [o 31 (mT 3), o 32 (.bin .eql (T 31) (I 0))] false)
(.cond (T 32)
(.seq
(.reg [o 33 (mT 0), o 34 (mT 1), o 35 (mT 2), o 36 (mT 4), o 37 (.call 166 [(T 33), (T 34), (T 35), (T 36)] 0)] false)
.ret)
.skip))
(.seq
(.seq
(.reg [o 38 (mT 10), o 39 (.un .not (T 38))] false)
(.cond (T 39)
(.seq
(.reg [o 40 (mT 0), o 41 (mT 1), o 42 (mT 2), o 43 (mT 4), o 44 (.call 167 [(T 40), (T 41), (T 42), (T 43)] 0)] false)
(.reg [o 45 (mT 3), o 46 (.bin .sub (T 45) (I 1)), o 3 (mT 46)] false))
.skip))
(.seq
(.reg [o 48 (mT 0), o 49 (mT 1), o 50 (mT 2), o 51 (mT 4), o 52 (.call 168 [(T 48), (T 49), (T 50), (T 51)] 0), o 47 (mT 52), o 53 (.extract (T 47) 0), o 54 (.extract (T 47) 1), o 13 (mT 53), o 14 (mT 54)] false)
(.seq
(.seq
(.reg [o 55 (mT 14), o 56 (.bin .eql (T 55) (I 2))] false)
(.cond (T 56)
(.seq
(.reg [o 57 (mT 0), o 58 (mT 1), o 59 (mT 2), o 60 (mT 4), o 61 (.call 169 [(T 57), (T 58), (T 59), (T 60)] 0)] false)
(.seq
(.reg [o 62 (mT 2), o 63 (.bin .sub (T 62) (I 1)), o 64 (mT 13), o 65 (mT 1), o 66 (.bin .sub (T 64) (T 65)), o 67 (.bin .sub (T 63) (T 66)), o 13 (mT 67)] false)
(.reg [o 14 (.mov (I 1))] false)))
.skip))
(.seq
(.seq
(.reg [o 68 (mT 10), o 69 (mT 68), og (some 70) (mT 11) 69 true, o 71 (.pick (T 69) (T 70) (.c (.bool false))), o 72 (mT 71), og (some 73) (mT 14) 72 true, og (some 74) (.bin .eql (T 73) (I 1)) 72 true, o 75 (.pick (T 72) (T 74) (.c (.bool false)))] false)
(.cond (T 75)
(.seq
(.reg [o 76 (mT 0), o 77 (mT 1), o 78 (mT 2), o 79 (mT 4), o 80 (.call 170 [(T 76), (T 77), (T 78), (T 79)] 0)] false)
(.cond (T 80)
.ret
.skip))
.skip))
(.seq
(.seq
(.reg [w 81 (mT 1) [], w 82 (.bin .gtr (T 81) (I 0)) [0], w 83 (mT 82) [0, 1], ⟨(some 84), .mov (T 4), (some (83, true)), [0, 1, 2]⟩, ⟨(some 85), .mov (T 0), (some (83, true)), [0, 1, 2]⟩, ⟨(some 86), .mov (T 1), (some (83, true)), [0, 1, 2]⟩, ⟨(some 87), .bin .sub (T 86) (I 1), (some (83, true)), [0, 1, 2, 5]⟩, ⟨(some 88), .indexAddr 5 (T 85) (T 87), (some (83, true)), [0, 1, 2, 4, 5, 6]⟩, ⟨(some 89), .load (some 5) (T 88), (some (83, true)), [0, 1, 2, 4, 5, 6, 7]⟩, ⟨(some 90), .mov (T 0), (some (83, true)), [0, 1, 2]⟩, ⟨(some 91), .mov (T 13), (some (83, true)), [0, 1, 2]⟩, ⟨(some 92), .indexAddr 5 (T 90) (T 91), (some (83, true)), [0, 1, 2, 9, 10]⟩, ⟨(some 93), .load (some 5) (T 92), (some (83, true)), [0, 1, 2, 9, 10, 11]⟩, ⟨(some 94), .callv (T 84) [(T 89), (T 93)] 0, (some (83, true)), [0, 1, 2, 3, 4, 5, 6, 7, 8, 9, 10, 11, 12]⟩, ⟨(some 95), .bin .lss (T 94) (I 0), (some (83, true)), [0, 1, 2, 3, 4, 5, 6, 7, 8, 9, 10, 11, 12, 13]⟩, ⟨(some 96), .un .not (T 95), (some (83, true)), [0, 1, 2, 3, 4, 5, 6, 7, 8, 9, 10, 11, 12, 13, 14]⟩, w 97 (.pick (T 83) (T 96) (.c (.bool false))) [0, 1, 2, 3, 4, 5, 6, 7, 8, 9, 10, 11, 12, 13, 14, 15]] true)
(.cond (T 97)
(.seq
(.reg [o 98 (mT 0), o 99 (mT 1), o 100 (mT 2), o 101 (mT 13), o 102 (mT 4), o 103 (.call 171 [(T 98), (T 99), (T 100), (T 101), (T 102)] 2), o 15 (mT 103)] false)
(.seq
(.reg [o 104 (mT 15), o 1 (mT 104)] false)
(.exit 1)))
.skip))
(.seq
(.reg [o 106 (mT 0), o 107 (mT 1), o 108 (mT 2), o 109 (mT 13), o 110 (mT 4), o 111 (.call 172 [(T 106), (T 107), (T 108), (T 109), (T 110)] 2), o 105 (mT 111), o 112 (.extract (T 105) 0), o 113 (.extract (T 105) 1), o 16 (mT 112), o 17 (mT 113)] false)
(.seq
(.reg [o 114 (mT 17), o 11 (mT 114)] false)
(.seq
(.reg [o 115 (mT 16), o 116 (mT 1), o 117 (.bin .sub (T 115) (T 116)), o 118 (mT 2), o 119 (mT 16), o 120 (.bin .sub (T 118) (T 119)), o 18 (mT 117), o 19 (mT 120)] false)
(.seq
(.reg [o 121 (mT 12), o 122 (.bin .quo (T 121) (I 8)), o 20 (mT 122)] false)
(.seq
(.reg [o 123 (mT 18), o 124 (mT 19), o 125 (.bin .lss (T 123) (T 124))] false)
(.cond (T 125)
(.seq
(.reg [o 126 (mT 18), o 127 (mT 20), o 128 (.bin .geq (T 126) (T 127)), o 10 (mT 128)] false)
(.seq
(.reg [o 129 (mT 0), o 130 (mT 1), o 131 (mT 16), o 132 (mT 3), o 133 (mT 4), o 134 (.call 147 [(T 129), (T 130), (T 131), (T 132), (T 133)] 2)] false)
(.reg [o 135 (mT 16), o 136 (.bin .add (T 135) (I 1)), o 1 (mT 136)] false)))
(.seq
(.reg [o 137 (mT 19), o 138 (mT 20), o 139 (.bin .geq (T 137) (T 138)), o 10 (mT 139)] false)
(.seq
(.reg [o 140 (mT 0), o 141 (mT 16), o 142 (.bin .add (T 141) (I 1)), o 143 (mT 2), o 144 (mT 3), o 145 (mT 4), o 146 (.call 147 [(T 140), (T 142), (T 143), (T 144), (T 145)] 2)] false)
(.reg [o 147 (mT 16), o 2 (mT 147)] false)))))))))))))))))))))), none⟩
def f_math_bits_Len : IFun := ⟨8, 0, true, [true], [.tmp 2],
(.seq
(.reg [o 2 (.mov (I 0))] false)
(.seq
(.cond (.c (.bool false))
(.seq
(.reg [o 3 (mT 0), o 4 (.toInt .u32 (T 3)), o 5 (.call 173 [(T 4)] 0), o 2 (mT 5)] false)
.ret)
.skip)
(.seq
(.reg [o 6 (mT 0), o 7 (.call 174 [(T 6)] 0), o 2 (mT 7)] false)
.ret))), none⟩
def f_cmp_Or_int : IFun := ⟨18, 0, true, [true], [.tmp 2],
(.seq
(.reg [o 2 (.mov (I 0))] false)
(.seq
(.reg [o 3 (.mov (I 0))] false)
(.seq
(.seq
(.reg [o 6 (mT 0), o 7 (.len (T 6)), o 8 (.mov (I 0))] false)
(.block 0
(.loop
(.seq
(.reg [o 9 (.bin .lss (T 8) (T 7))] false)
(.seq
(.cond (T 9)
.skip
(.exit 0))
(.seq
(.block 1
(.seq
(.reg [o 10 (.indexAddr 1 (T 6) (T 8)), o 11 (.load none (T 10)), o 5 (mT 11)] false)
(.seq
(.reg [o 12 (mT 5), o 13 (mT 3), o 14 (.bin .neq (T 12) (T 13))] false)
(.cond (T 14)
(.seq
(.reg [o 15 (mT 5), o 2 (mT 15)] false)
.ret)
.skip))))
(.reg [o 16 (.bin .add (T 8) (I 1)), o 8 (mT 16)] false)))))))
(.seq
(.reg [o 17 (mT 3), o 2 (mT 17)] false)
.ret)))), none⟩
def f_cmp_Compare_int : IFun := ⟨20, 0, true, [true, true], [.tmp 4],
(.seq
(.reg [o 4 (.mov (I 0))] false)
(.seq
(.reg [o 7 (mT 0), o 8 (.call 106 [(T 7)] 0), o 5 (mT 8)] false)
(.seq
(.reg [o 9 (mT 1), o 10 (.call 106 [(T 9)] 0), o 6 (mT 10)] false)
(.seq
(.seq
(.reg [o 11 (mT 5)] false)
(.cond (T 11)
(.seq
(.seq
(.reg [o 12 (mT 6)] false)
(.cond (T 12)
(.seq
(.reg [o 4 (.mov (I 0))] false)
.ret)
.skip))
(.seq
(.reg [o 4 (.mov (I (-1)))] false)
.ret))
.skip))
(.seq
(.seq
(.reg [o 13 (mT 6)] false)
(.cond (T 13)
(.seq
(.reg [o 4 (.mov (I 1))] false)
.ret)
.skip))
(.seq
(.seq
(.reg [o 14 (mT 0), o 15 (mT 1), o 16 (.bin .lss (T 14) (T 15))] false)
(.cond (T 16)
(.seq
(.reg [o 4 (.mov (I (-1)))] false)
.ret)
.skip))
(.seq
(.seq
(.reg [o 17 (mT 0), o 18 (mT 1), o 19 (.bin .gtr (T 17) (T 18))] false)
(.cond (T 19)
(.seq
(.reg [o 4 (.mov (I 1))] false)
.ret)
.skip))
(.seq
(.reg [o 4 (.mov (I 0))] false)
.ret)))))))), none⟩
def f_ident_order : IFun := ⟨22, 3, true, [true, true], [.tmp 4],
(.seq
(.reg [o 2 (.box (some 3) (T 0) 0), o 3 (.box (some 3) (T 1) 1), o 4 (.mov (I 0))] false)
(.seq
(.reg [w 5 (.fieldAddr (T 2) 0) [], w 6 (.load none (T 5)) [0], w 7 (.fieldAddr (T 3) 0) [], w 8 (.load none (T 7)) [2], w 9 (.call 103 [(T 6), (T 8)] 2) [0, 1, 2, 3], w 10 (.fieldAddr (T 2) 1) [], w 11 (.load none (T 10)) [5], w 12 (.fieldAddr (T 3) 1) [], w 13 (.load none (T 12)) [7], w 14 (.call 103 [(T 11), (T 13)] 2) [0, 1, 2, 3, 4, 5, 6, 7, 8], w 15 (.fieldAddr (T 2) 2) [], w 16 (.load none (T 15)) [10], w 17 (.fieldAddr (T 3) 2) [], w 18 (.load none (T 17)) [12], w 19 (.call 103 [(T 16), (T 18)] 2) [0, 1, 2, 3, 4, 5, 6, 7, 8, 9, 10, 11, 12, 13], w 20 (.buildSlice none [(T 9), (T 14), (T 19)] 2) [0, 1, 2, 3, 4, 5, 6, 7, 8, 9, 10, 11, 12, 13, 14], w 21 (.call 102 [(T 20)] 3) [0, 1, 2, 3, 4, 5, 6, 7, 8, 9, 10, 11, 12, 13, 14, 15], w 4 (mT 21) [0, 1, 2, 3, 4, 5, 6, 7, 8, 9, 10, 11, 12, 13, 14, 15, 16]] true)
.ret)), none⟩
def f_prog_each_api_Handler : IFun := ⟨24, 4, true, [true, true, true], [.tmp 6],
(.seq
(.reg [o 3 (.box (some 4) (T 0) 0), o 6 (.mov (I 0))] false)
(.seq
(.seq
(.reg [o 10 (mT 1), o 11 (.len (T 10)), o 12 (.mov (I 0))] false)
(.block 0
(.loop
(.seq
(.reg [o 13 (.bin .lss (T 12) (T 11))] false)
(.seq
(.cond (T 13)
.skip
(.exit 0))
(.seq
(.block 1
(.seq
(.reg [o 14 (.indexAddr 2 (T 10) (T 12)), o 15 (.load (some 2) (T 14)), o 8 (.box (some 2) (.c (.agg [(.int .i64 0), .nils])) 1), u (.store (some 2) (T 8) (T 15))] false)
(.seq
(.reg [o 16 (mT 2), o 17 (.load (some 4) (T 3)), o 18 (.load (some 2) (T 8)), o 19 (.callv (T 16) [(T 17), (T 18)] 2), o 9 (mT 19)] false)
(.seq
(.reg [o 20 (mT 9), o 21 (.bin .neq (T 20) (I 0))] false)
(.cond (T 21)
(.seq
(.reg [o 22 (mT 9), o 6 (mT 22)] false)
.ret)
.skip)))))
(.reg [o 23 (.bin .add (T 12) (I 1)), o 12 (mT 23)] false)))))))
(.seq
(.reg [o 6 (.mov (I 0))] false)
.ret))), none⟩
def f_prog_handler : IFun := ⟨35, 3, true, [true, true], [.tmp 4],
(.seq
(.reg [o 2 (.box (some 4) (T 0) 0), o 3 (.box (some 2) (T 1) 1), o 4 (.mov (I 0))] false)
(.seq
(.block 0
(.seq
(.seq
(.reg [o 9 (.fieldAddr (T 3) 0), o 10 (.load none (T 9)), o 11 (.bin .lss (T 10) (I 0)), o 8 (mT 11)] false)
(.cond (T 8)
.skip
(.reg [o 12 (.fieldAddr (T 3) 0), o 13 (.load none (T 12)), o 14 (.bin .gtr (T 13) (I 4)), o 8 (mT 14)] false)))
(.cond (T 8)
(.seq
(.reg [o 4 (.mov (I 1))] false)
.ret)
(.seq
(.reg [o 16 (.fieldAddr (T 3) 1), o 17 (.load none (T 16)), o 18 (.len (T 17)), o 19 (.bin .gtr (T 18) (I 64)), o 15 (mT 19)] false)
(.cond (T 15)
(.seq
(.reg [o 4 (.mov (I 3))] false)
.ret)
.skip)))))
(.seq
(.seq
(.reg [o 20 (.fieldAddr (T 3) 1), o 21 (.load none (T 20)), o 22 (.len (T 21)), o 23 (.mov (I 0))] false)
(.block 1
(.loop
(.seq
(.reg [o 24 (.bin .lss (T 23) (T 22))] false)
(.seq
(.cond (T 24)
.skip
(.exit 1))
(.seq
(.block 2
(.seq
(.reg [o 25 (.indexAddr 2 (T 21) (T 23)), o 26 (.load (some 2) (T 25)), o 6 (.box (some 2) (.c (.agg [(.int .i64 0), (.int .i64 0)])) 2), u (.store (some 2) (T 6) (T 26))] false)
(.seq
(.reg [o 27 (.load (some 4) (T 2)), o 28 (.load (some 2) (T 3)), o 29 (.load (some 2) (T 6)), o 30 (.call 176 [(T 27), (T 28), (T 29)] 3), o 7 (mT 30)] false)
(.seq
(.reg [o 31 (mT 7), o 32 (.bin .neq (T 31) (I 0))] false)
(.cond (T 32)
(.seq
(.reg [o 33 (mT 7), o 4 (mT 33)] false)
.ret)
.skip)))))
(.reg [o 34 (.bin .add (T 23) (I 1)), o 23 (mT 34)] false)))))))
(.seq
(.reg [o 4 (.mov (I 0))] false)
.ret)))), none⟩
def f_prog_each_api_Actor : IFun := ⟨24, 4, true, [true, true, true], [.tmp 6],
(.seq
(.reg [o 3 (.box (some 4) (T 0) 0), o 6 (.mov (I 0))] false)
(.seq
(.seq
(.reg [o 10 (mT 1), o 11 (.len (T 10)), o 12 (.mov (I 0))] false)
(.block 0
(.loop
(.seq
(.reg [o 13 (.bin .lss (T 12) (T 11))] false)
(.seq
(.cond (T 13)
.skip
(.exit 0))
(.seq
(.block 1
(.seq
(.reg [o 14 (.indexAddr 4 (T 10) (T 12)), o 15 (.load (some 4) (T 14)), o 8 (.box (some 4) (.c (.agg [.nils, (.int .i64 0), (.int .i64 0), (.bool false)])) 1), u (.store (some 4) (T 8) (T 15))] false)
(.seq
(.reg [o 16 (mT 2), o 17 (.load (some 4) (T 3)), o 18 (.load (some 4) (T 8)), o 19 (.callv (T 16) [(T 17), (T 18)] 2), o 9 (mT 19)] false)
(.seq
(.reg [o 20 (mT 9), o 21 (.bin .neq (T 20) (I 0))] false)
(.cond (T 21)
(.seq
(.reg [o 22 (mT 9), o 6 (mT 22)] false)
.ret)
.skip)))))
(.reg [o 23 (.bin .add (T 12) (I 1)), o 12 (mT 23)] false)))))))
(.seq
(.reg [o 6 (.mov (I 0))] false)
.ret))), none⟩
def f_prog_actor : IFun := ⟨52, 2, true, [true, true], [.tmp 4],
(.seq
(.reg [o 2 (.box (some 4) (T 0) 0), o 3 (.box (some 4) (T 1) 1), o 4 (.mov (I 0))] false)
(.seq
(.block 0
(.seq
(.reg [o 6 (.fieldAddr (T 3) 0), o 7 (.load none (T 6)), o 8 (.len (T 7)), o 9 (.bin .gtr (T 8) (I 8)), o 5 (mT 9)] false)
(.cond (T 5)
(.seq
(.reg [o 4 (.mov (I 3))] false)
.ret)
(.seq
(.seq
(.reg [o 11 (.fieldAddr (T 3) 1), o 12 (.load none (T 11)), o 13 (.bin .lss (T 12) (I 0)), o 10 (mT 13)] false)
(.cond (T 10)
.skip
(.reg [o 14 (.fieldAddr (T 3) 1), o 15 (.load none (T 14)), o 16 (.bin .gtr (T 15) (I 16)), o 10 (mT 16)] false)))
(.cond (T 10)
(.seq
(.reg [o 4 (.mov (I 1))] false)
.ret)
(.seq
(.reg [o 18 (.fieldAddr (T 3) 2), o 19 (.load none (T 18)), o 20 (.bin .neq (T 19) (I (-1))), o 21 (mT 20), og (some 22) (.fieldAddr (T 3) 2) 21 true, og (some 23) (.load none (T 22)) 21 true, og (some 24) (.bin .lss (T 23) (I 0)) 21 true, og (some 25) (mT 24) 21 true, og (some 26) (.fieldAddr (T 3) 2) 25 false, og (some 27) (.load none (T 26)) 25 false, og (some 28) (.fieldAddr (T 2) 0) 25 false, og (some 29) (.load none (T 28)) 25 false, og (some 30) (.len (T 29)) 25 false, og (some 31) (.bin .geq (T 27) (T 30)) 25 false, og (some 32) (.pick (T 25) (.c (.bool true)) (T 31)) 21 true, og (some 33) (mT 32) 21 true, og (some 34) (.fieldAddr (T 2) 0) 33 false, og (some 35) (.load none (T 34)) 33 false, og (some 36) (.fieldAddr (T 3) 2) 33 false, og (some 37) (.load none (T 36)) 33 false, og (some 38) (.indexAddr 2 (T 35) (T 37)) 33 false, og (some 39) (.fieldAddr (T 38) 0) 33 false, og (some 40) (.load none (T 39)) 33 false, og (some 41) (.bin .neq (T 40) (I 0)) 33 false, og (some 42) (.pick (T 33) (.c (.bool true)) (T 41)) 21 true, o 43 (.pick (T 21) (T 42) (.c (.bool false))), o 17 (mT 43)] false)
(.cond (T 17)
(.seq
(.reg [o 4 (.mov (I 7))] false)
.ret)
(.seq
(.reg [o 45 (.fieldAddr (T 3) 3), o 46 (.load none (T 45)), o 47 (mT 46), og (some 48) (.fieldAddr (T 3) 2) 47 true, og (some 49) (.load none (T 48)) 47 true, og (some 50) (.bin .eql (T 49) (I (-1))) 47 true, o 51 (.pick (T 47) (T 50) (.c (.bool false))), o 44 (mT 51)] false)
(.cond (T 44)
(.seq
(.reg [o 4 (.mov (I 1))] false)
.ret)
.skip)))))))))
(.seq
(.reg [o 4 (.mov (I 0))] false)
.ret))), none⟩
def f_prog_each_api_Note : IFun := ⟨24, 4, true, [true, true, true], [.tmp 6],
(.seq
(.reg [o 3 (.box (some 4) (T 0) 0), o 6 (.mov (I 0))] false)
(.seq
(.seq
(.reg [o 10 (mT 1), o 11 (.len (T 10)), o 12 (.mov (I 0))] false)
(.block 0
(.loop
(.seq
(.reg [o 13 (.bin .lss (T 12) (T 11))] false)
(.seq
(.cond (T 13)
.skip
(.exit 0))
(.seq
(.block 1
(.seq
(.reg [o 14 (.indexAddr 3 (T 10) (T 12)), o 15 (.load (some 3) (T 14)), o 8 (.box (some 3) (.c (.agg [(.int .i64 0), (.int .i64 0), .nils])) 1), u (.store (some 3) (T 8) (T 15))] false)
(.seq
(.reg [o 16 (mT 2), o 17 (.load (some 4) (T 3)), o 18 (.load (some 3) (T 8)), o 19 (.callv (T 16) [(T 17), (T 18)] 2), o 9 (mT 19)] false)
(.seq
(.reg [o 20 (mT 9), o 21 (.bin .neq (T 20) (I 0))] false)
(.cond (T 21)
(.seq
(.reg [o 22 (mT 9), o 6 (mT 22)] false)
.ret)
.skip)))))
(.reg [o 23 (.bin .add (T 12) (I 1)), o 12 (mT 23)] false)))))))
(.seq
(.reg [o 6 (.mov (I 0))] false)
.ret))), none⟩
def f_prog_Note : IFun := ⟨36, 2, true, [true, true], [.tmp 4],
(.seq
(.reg [o 2 (.box (some 4) (T 0) 0), o 3 (.box (some 3) (T 1) 1), o 4 (.mov (I 0))] false)
(.seq
(.block 0
(.seq
(.seq
(.reg [o 6 (.fieldAddr (T 3) 0), o 7 (.load none (T 6)), o 8 (.bin .lss (T 7) (I 0)), o 5 (mT 8)] false)
(.cond (T 5)
.skip
(.seq
(.reg [o 9 (.fieldAddr (T 3) 0), o 10 (.load none (T 9)), o 11 (.fieldAddr (T 2) 1), o 12 (.load none (T 11)), o 13 (.len (T 12)), o 14 (.bin .geq (T 10) (T 13)), o 5 (mT 14)] false)
(.cond (T 5)
.skip
(.seq
(.reg [o 15 (.fieldAddr (T 3) 1), o 16 (.load none (T 15)), o 17 (.bin .lss (T 16) (I 0)), o 5 (mT 17)] false)
(.cond (T 5)
.skip
(.reg [o 18 (.fieldAddr (T 3) 1), o 19 (.load none (T 18)), o 20 (.fieldAddr (T 2) 0), o 21 (.load none (T 20)), o 22 (.len (T 21)), o 23 (.bin .geq (T 19) (T 22)), o 5 (mT 23)] false)))))))
(.cond (T 5)
(.seq
(.reg [o 4 (.mov (I 7))] false)
.ret)
(.seq
(.reg [w 25 (.fieldAddr (T 3) 2) [], w 26 (.load none (T 25)) [0], w 27 (.len (T 26)) [0, 1], w 28 (.fieldAddr (T 2) 0) [], w 29 (.load none (T 28)) [3], w 30 (.fieldAddr (T 3) 1) [], w 31 (.load none (T 30)) [5], w 32 (.indexAddr 2 (T 29) (T 31)) [3, 4, 5, 6], w 33 (.fieldAddr (T 32) 0) [3, 4, 5, 6, 7], w 34 (.load none (T 33)) [3, 4, 5, 6, 7, 8], w 35 (.bin .neq (T 27) (T 34)) [0, 1, 2, 3, 4, 5, 6, 7, 8, 9], w 24 (mT 35) [0, 1, 2, 3, 4, 5, 6, 7, 8, 9, 10]] true)
(.cond (T 24)
(.seq
(.reg [o 4 (.mov (I 1))] false)
.ret)
.skip)))))
(.seq
(.reg [o 4 (.mov (I 0))] false)
.ret))), none⟩
def f_slices_Repeat_int_int : IFun := ⟨48, 1, false, [true, true], [.tmp 4],
(.seq
(.reg [o 4 (.mov (.c .nils))] false)
(.seq
(.seq
(.reg [o 9 (mT 1), o 10 (.bin .lss (T 9) (I 0))] false)
(.cond (T 10)
(.reg [o 11 (.bad), u (.bad)] false)
.skip))
(.seq
(.reg [o 13 (mT 0), o 14 (.len (T 13)), o 15 (.toInt .u64 (T 14)), o 16 (mT 1), o 17 (.toInt .u64 (T 16)), o 18 (.call 177 [(T 15), (T 17)] 0), o 12 (mT 18), o 19 (.extract (T 12) 0), o 20 (.extract (T 12) 1), o 5 (mT 19), o 6 (mT 20)] false)
(.seq
(.seq
(.reg [o 21 (mT 5), o 22 (.bin .gtr (T 21) (.c (.int .u64 0))), o 23 (mT 22), og (some 24) (mT 6) 23 false, og (some 25) (.bin .gtr (T 24) (.c (.int .u64 9223372036854775807))) 23 false, o 26 (.pick (T 23) (.c (.bool true)) (T 25))] false)
(.cond (T 26)
(.reg [o 27 (.bad), u (.bad)] false)
.skip))
(.seq
(.reg [o 28 (mT 6), o 29 (.toInt .i64 (T 28)), o 30 (.mkslice 1 (.int .i64 0) (T 29) 0), o 7 (mT 30)] false)
(.seq
(.reg [o 31 (mT 7), o 32 (mT 0), o 33 (.copy 1 (T 31) (T 32)), o 8 (mT 33)] false)
(.seq
(.block 0
(.loop
(.seq
(.seq
(.reg [o 34 (mT 8), o 35 (mT 7), o 36 (.len (T 35)), o 37 (.bin .lss (T 34) (T 36))] false)
(.cond (T 37)
.skip
(.exit 0)))
(.block 1
(.reg [w 38 (mT 8) [], w 39 (mT 7) [], w 40 (mT 8) [], w 41 (.slice 1 (T 39) (some (T 40)) none none) [1, 2], w 42 (mT 7) [], w 43 (mT 8) [], w 44 (.slice 1 (T 42) none (some (T 43)) none) [4, 5], w 45 (.copy 1 (T 41) (T 44)) [1, 2, 3, 4, 5, 6], w 46 (.bin .add (T 38) (T 45)) [0, 1, 2, 3, 4, 5, 6, 7], w 8 (mT 46) [0, 1, 2, 3, 4, 5, 6, 7, 8]] true)))))
(.seq
(.reg [o 47 (mT 7), o 4 (mT 47)] false)
.ret)))))))), none⟩
def f_flow_takes : IFun := ⟨22, 2, true, [true, true], [.tmp 4],
(.seq
(.reg [o 2 (.box (some 4) (T 0) 0), o 3 (.box (some 2) (T 1) 1), o 4 (.mov (I 0))] false)
(.seq
(.reg [o 6 (.fieldAddr (T 3) 0), o 7 (.load none (T 6)), o 8 (.call 178 [(T 7)] 2), o 5 (mT 8)] false)
(.seq
(.seq
(.reg [o 9 (.fieldAddr (T 3) 0), o 10 (.load none (T 9)), o 11 (.bin .eql (T 10) (I 22))] false)
(.cond (T 11)
(.reg [o 12 (mT 5), o 13 (.fieldAddr (T 2) 0), o 14 (.load none (T 13)), o 15 (.fieldAddr (T 3) 1), o 16 (.load none (T 15)), o 17 (.indexAddr 2 (T 14) (T 16)), o 18 (.fieldAddr (T 17) 0), o 19 (.load none (T 18)), o 20 (.bin .add (T 12) (T 19)), o 5 (mT 20)] false)
.skip))
(.seq
(.reg [o 21 (mT 5), o 4 (mT 21)] false)
.ret)))), none⟩
def f_ops_Puts : IFun := ⟨23, 0, true, [true], [.tmp 2],
(.seq
(.reg [o 2 (.mov (I 0))] false)
(.seq
(.block 0
(.seq
(.seq
(.reg [o 4 (mT 0), o 5 (.bin .eql (T 4) (I 3)), o 3 (mT 5)] false)
(.cond (T 3)
.skip
(.reg [o 6 (mT 0), o 7 (.bin .eql (T 6) (I 4)), o 3 (mT 7)] false)))
(.cond (T 3)
(.seq
(.reg [o 2 (.mov (I 2))] false)
.ret)
(.seq
(.seq
(.reg [o 9 (mT 0), o 10 (.bin .eql (T 9) (I 1)), o 8 (mT 10)] false)
(.cond (T 8)
.skip
(.seq
(.reg [o 11 (mT 0), o 12 (.bin .eql (T 11) (I 5)), o 8 (mT 12)] false)
(.cond (T 8)
.skip
(.seq
(.reg [o 13 (mT 0), o 14 (.bin .eql (T 13) (I 7)), o 8 (mT 14)] false)
(.cond (T 8)
.skip
(.seq
(.reg [o 15 (mT 0), o 16 (.bin .eql (T 15) (I 8)), o 8 (mT 16)] false)
(.cond (T 8)
.skip
(.reg [o 17 (mT 0), o 18 (.bin .geq (T 17) (I 9)), o 19 (mT 18), og (some 20) (mT 0) 19 true, og (some 21) (.bin .leq (T 20) (I 19)) 19 true, o 22 (.pick (T 19) (T 21) (.c (.bool false))), o 8 (mT 22)] false)))))))))
(.cond (T 8)
(.seq
(.reg [o 2 (.mov (I 1))] false)
.ret)
.skip)))))
(.seq
(.reg [o 2 (.mov (I 0))] false)
.ret))), none⟩
def f_flow_next : IFun := ⟨24, 4, true, [true, true], [.tmp 4],
(.seq
(.reg [o 3 (.box (some 2) (T 1) 0), o 4 (.mov (.c .nils))] false)
(.seq
(.seq
(.reg [o 5 (.fieldAddr (T 3) 0), o 6 (.load none (T 5))] false)
(.block 0
(.seq
(.reg [o 8 (.bin .eql (T 6) (I 20)), o 7 (mT 8)] false)
(.cond (T 7)
(.seq
(.reg [o 9 (.fieldAddr (T 3) 1), o 10 (.load none (T 9)), o 11 (.buildSlice none [(T 10)] 1), o 4 (mT 11)] false)
.ret)
(.seq
(.reg [o 13 (.bin .eql (T 6) (I 21)), o 12 (mT 13)] false)
(.cond (T 12)
(.seq
(.reg [o 14 (.fieldAddr (T 3) 1), o 15 (.load none (T 14)), o 16 (mT 0), o 17 (.bin .add (T 16) (I 1)), o 18 (.buildSlice none [(T 15), (T 17)] 2), o 4 (mT 18)] false)
.ret)
(.seq
(.reg [o 20 (.bin .eql (T 6) (I 25)), o 19 (mT 20)] false)
(.cond (T 19)
(.seq
(.reg [o 4 (.mov (.c .nils))] false)
.ret)
.skip))))))))
(.seq
(.reg [o 21 (mT 0), o 22 (.bin .add (T 21) (I 1)), o 23 (.buildSlice none [(T 22)] 3), o 4 (mT 23)] false)
.ret))), none⟩
def f_mail_To : IFun := ⟨22, 1, true, [true, true], [.tmp 4],
(.seq
(.reg [o 4 (.mov (I 0))] false)
(.seq
(.seq
(.reg [o 7 (mT 0), o 8 (.len (T 7)), o 9 (.mov (I 0))] false)
(.block 0
(.loop
(.seq
(.reg [o 10 (.bin .lss (T 9) (T 8))] false)
(.seq
(.cond (T 10)
.skip
(.exit 0))
(.seq
(.block 1
(.seq
(.reg [o 11 (.indexAddr 6 (T 7) (T 9)), o 12 (.load (some 6) (T 11)), o 6 (.box (some 6) (.c (.agg [(.int .i64 0), (.int .i64 0), (.int .i64 0), (.int .i64 0), (.int .i64 0), .nils])) 0), u (.store (some 6) (T 6) (T 12))] false)
(.seq
(.reg [o 13 (.fieldAddr (T 6) 3), o 14 (.fieldAddr (T 13) 0), o 15 (.load none (T 14)), o 16 (mT 1), o 17 (.bin .eql (T 15) (T 16))] false)
(.cond (T 17)
(.reg [o 18 (mT 4), o 19 (.bin .add (T 18) (I 1)), o 4 (mT 19)] false)
.skip))))
(.reg [o 20 (.bin .add (T 9) (I 1)), o 9 (mT 20)] false)))))))
(.seq
(.reg [o 21 (mT 4), o 4 (mT 21)] false)
.ret))), none⟩
def f_mail_Put : IFun := ⟨26, 4, false, [true, true], [.tmp 4, .tmp 5],
(.seq
(.reg [o 3 (.box (some 6) (T 1) 0), o 4 (.mov (.c .nils)), o 5 (.mov (I 0))] false)
(.seq
(.seq
(.reg [o 7 (mT 0), o 8 (.fieldAddr (T 3) 0), o 9 (.load (some 3) (T 8)), o 10 (.call 39 [(T 7), (T 9)] 1), o 11 (.bin .geq (T 10) (I 0))] false)
(.cond (T 11)
(.seq
(.reg [o 4 (.mov (.c .nils)), o 5 (.mov (I 1))] false)
.ret)
.skip))
(.seq
(.reg [o 12 (mT 0), o 13 (.mkfn 74 [(T 3)]), o 14 (.call 73 [(T 12), (T 13)] 1), o 6 (mT 14)] false)
(.seq
(.seq
(.reg [o 15 (mT 6), o 16 (.bin .lss (T 15) (I 0))] false)
(.cond (T 16)
(.reg [o 17 (mT 0), o 18 (.len (T 17)), o 6 (mT 18)] false)
.skip))
(.seq
(.reg [w 19 (mT 0) [], w 20 (.call 44 [(T 19)] 1) [0], w 21 (mT 6) [], w 22 (.load (some 6) (T 3)) [], w 23 (.call 77 [(T 22)] 2) [0, 1, 3], w 24 (.buildSlice (some 6) [(T 23)] 2) [0, 1, 3, 4], w 25 (.call 76 [(T 20), (T 21), (T 24)] 3) [0, 1, 2, 3, 4, 5], w 4 (mT 25) [0, 1, 2, 3, 4, 5, 6], w 5 (.mov (I 0)) [0, 1, 2, 3, 4, 5, 6, 7]] true)
.ret))))), none⟩
def f_mail_Copy : IFun := ⟨18, 3, false, [true], [.tmp 2],
(.seq
(.reg [o 2 (.mov (.c .nils))] false)
(.seq
(.seq
(.reg [o 5 (mT 0), o 6 (.len (T 5)), o 7 (.mov (I 0))] false)
(.block 0
(.loop
(.seq
(.reg [o 8 (.bin .lss (T 7) (T 6))] false)
(.seq
(.cond (T 8)
.skip
(.exit 0))
(.seq
(.block 1
(.seq
(.reg [o 9 (.indexAddr 6 (T 5) (T 7)), o 10 (.load (some 6) (T 9)), o 4 (.box (some 6) (.c (.agg [(.int .i64 0), (.int .i64 0), (.int .i64 0), (.int .i64 0), (.int .i64 0), .nils])) 0), u (.store (some 6) (T 4) (T 10))] false)
(.reg [o 11 (mT 2), o 12 (.load (some 6) (T 4)), o 13 (.call 77 [(T 12)] 1), o 14 (.buildSlice (some 6) [(T 13)] 1), o 15 (.append 6 (T 11) (T 14) 2), o 2 (mT 15)] false)))
(.reg [o 16 (.bin .add (T 7) (I 1)), o 7 (mT 16)] false)))))))
(.seq
(.reg [o 17 (mT 2), o 2 (mT 17)] false)
.ret))), none⟩
def f_slices_IndexFunc_api_Message_api_Message : IFun := ⟨19, 2, true, [true, true], [.tmp 4],
(.seq
(.reg [o 4 (.mov (I 0))] false)
(.seq
(.seq
(.reg [o 6 (mT 0), o 7 (.len (T 6)), o 8 (.mov (I 0))] false)
(.block 0
(.loop
(.seq
(.reg [o 9 (.bin .lss (T 8) (T 7))] false)
(.seq
(.cond (T 9)
.skip
(.exit 0))
(.seq
(.block 1
(.seq
(.reg [o 10 (mT 8), o 5 (mT 10)] false)
(.seq
(.reg [o 11 (mT 1), o 12 (mT 0), o 13 (mT 5), o 14 (.indexAddr 6 (T 12) (T 13)), o 15 (.load (some 6) (T 14)), o 16 (.callv (T 11) [(T 15)] 0)] false)
(.cond (T 16)
(.seq
(.reg [o 17 (mT 5), o 4 (mT 17)] false)
.ret)
.skip))))
(.reg [o 18 (.bin .add (T 8) (I 1)), o 8 (mT 18)] false)))))))
(.seq
(.reg [o 4 (.mov (I (-1)))] false)
.ret))), none⟩
def f_mail_Find_1 : IFun := ⟨8, 1, true, [], [.tmp 3],
(.seq
(.reg [o 2 (.box (some 6) (T 0) 0), o 3 (.mov (.c (.bool false)))] false)
(.seq
(.reg [o 4 (.fieldAddr (T 2) 0), o 5 (.load (some 3) (T 4)), o 6 (.load (some 3) (T 1)), o 7 (.eqs false [false, false, false] (T 5) (T 6)), o 3 (mT 7)] false)
.ret)), none⟩
def f_mail_Sorted : IFun := ⟨27, 0, true, [true], [.tmp 2],
(.seq
(.reg [o 2 (.mov (.c (.bool false)))] false)
(.seq
(.seq
(.reg [o 4 (mT 0), o 5 (.len (T 4)), o 6 (.mov (I 0))] false)
(.block 0
(.loop
(.seq
(.reg [o 7 (.bin .lss (T 6) (T 5))] false)
(.seq
(.cond (T 7)
.skip
(.exit 0))
(.seq
(.block 1
(.seq
(.reg [o 8 (mT 6), o 3 (mT 8)] false)
(.seq
(.reg [w 9 (mT 3) [], w 10 (.bin .gtr (T 9) (I 0)) [0], w 11 (mT 10) [0, 1], ⟨(some 12), .mov (T 0), (some (11, true)), [0, 1, 2]⟩, ⟨(some 13), .mov (T 3), (some (11, true)), [0, 1, 2]⟩, ⟨(some 14), .bin .sub (T 13) (I 1), (some (11, true)), [0, 1, 2, 4]⟩, ⟨(some 15), .indexAddr 6 (T 12) (T 14), (some (11, true)), [0, 1, 2, 3, 4, 5]⟩, ⟨(some 16), .fieldAddr (T 15) 0, (some (11, true)), [0, 1, 2, 3, 4, 5, 6]⟩, ⟨(some 17), .load (some 3) (T 16), (some (11, true)), [0, 1, 2, 3, 4, 5, 6, 7]⟩, ⟨(some 18), .mov (T 0), (some (11, true)), [0, 1, 2]⟩, ⟨(some 19), .mov (T 3), (some (11, true)), [0, 1, 2]⟩, ⟨(some 20), .indexAddr 6 (T 18) (T 19), (some (11, true)), [0, 1, 2, 9, 10]⟩, ⟨(some 21), .fieldAddr (T 20) 0, (some (11, true)), [0, 1, 2, 9, 10, 11]⟩, ⟨(some 22), .load (some 3) (T 21), (some (11, true)), [0, 1, 2, 9, 10, 11, 12]⟩, ⟨(some 23), .call 75 [(T 17), (T 22)] 0, (some (11, true)), [0, 1, 2, 3, 4, 5, 6, 7, 8, 9, 10, 11, 12, 13]⟩, ⟨(some 24), .un .not (T 23), (some (11, true)), [0, 1, 2, 3, 4, 5, 6, 7, 8, 9, 10, 11, 12, 13, 14]⟩, w 25 (.pick (T 11) (T 24) (.c (.bool false))) [0, 1, 2, 3, 4, 5, 6, 7, 8, 9, 10, 11, 12, 13, 14, 15]] true)
(.cond (T 25)
(.seq
(.reg [o 2 (.mov (.c (.bool false)))] false)
.ret)
.skip))))
(.reg [o 26 (.bin .add (T 6) (I 1)), o 6 (mT 26)] false)))))))
(.seq
(.reg [o 2 (.mov (.c (.bool true)))] false)
.ret))), none⟩
def f_world_local : IFun := ⟨48, 2, true, [true, true], [.tmp 4],
(.seq
(.reg [o 2 (.box (some 4) (T 0) 0), o 3 (.box (some 5) (T 1) 1), o 4 (.mov (.c (.bool false)))] false)
(.seq
(.reg [o 5 (.fieldAddr (T 3) 0), o 6 (.load none (T 5)), o 7 (.len (T 6)), o 8 (.fieldAddr (T 2) 0), o 9 (.load none (T 8)), o 10 (.len (T 9)), o 11 (.bin .eql (T 7) (T 10)), o 12 (mT 11), og (some 13) (.fieldAddr (T 3) 2) 12 true, og (some 14) (.load none (T 13)) 12 true, og (some 15) (.bin .geq (T 14) (I 0)) 12 true, o 16 (.pick (T 12) (T 15) (.c (.bool false))), o 17 (mT 16), og (some 18) (.fieldAddr (T 3) 2) 17 true, og (some 19) (.load none (T 18)) 17 true, og (some 20) (.bin .leq (T 19) (I 4)) 17 true, o 21 (.pick (T 17) (T 20) (.c (.bool false))), o 22 (mT 21), og (some 23) (.fieldAddr (T 3) 3) 22 true, og (some 24) (.load none (T 23)) 22 true, og (some 25) (.fieldAddr (T 3) 4) 22 true, og (some 26) (.load none (T 25)) 22 true, og (some 27) (.mm false [(T 24), (T 26)]) 22 true, og (some 28) (.bin .geq (T 27) (I 0)) 22 true, o 29 (.pick (T 22) (T 28) (.c (.bool false))), o 30 (mT 29), og (some 31) (.fieldAddr (T 3) 3) 30 true, og (some 32) (.load none (T 31)) 30 true, og (some 33) (.fieldAddr (T 3) 4) 30 true, og (some 34) (.load none (T 33)) 30 true, og (some 35) (.mm true [(T 32), (T 34)]) 30 true, og (some 36) (.bin .leq (T 35) (I 2199023255551)) 30 true, o 37 (.pick (T 30) (T 36) (.c (.bool false))), o 38 (mT 37), og (some 39) (.fieldAddr (T 3) 1) 38 true, og (some 40) (.load none (T 39)) 38 true, og (some 41) (mT 40) 38 true, og (some 42) (.fieldAddr (T 2) 2) 41 true, og (some 43) (.load none (T 42)) 41 true, og (some 44) (.bin .eql (T 43) (I (-1))) 41 true, og (some 45) (.pick (T 41) (T 44) (.c (.bool false))) 38 true, og (some 46) (.un .not (T 45)) 38 true, o 47 (.pick (T 38) (T 46) (.c (.bool false))), o 4 (mT 47)] false)
.ret)), none⟩
def f_slices_ContainsFunc_api_Message_api_Message : IFun := ⟨9, 0, true, [true, true], [.tmp 4],
(.seq
(.reg [o 4 (.mov (.c (.bool false)))] false)
(.seq
(.reg [o 5 (mT 0), o 6 (mT 1), o 7 (.call 73 [(T 5), (T 6)] 0), o 8 (.bin .geq (T 7) (I 0)), o 4 (mT 8)] false)
.ret)), none⟩
def f_world_Fits_1 : IFun := ⟨10, 1, true, [], [.tmp 4],
(.seq
(.reg [o 3 (.box (some 6) (T 0) 0), o 4 (.mov (.c (.bool false)))] false)
(.seq
(.reg [o 5 (.load (some 4) (T 1)), o 6 (.load (some 6) (T 2)), o 7 (.load (some 6) (T 3)), o 8 (.call 164 [(T 5), (T 6), (T 7)] 1), o 9 (.un .not (T 8)), o 4 (mT 9)] false)
.ret)), none⟩
def f_world_message : IFun := ⟨68, 3, true, [true, true, true], [.tmp 6],
(.seq
(.reg [o 3 (.box (some 4) (T 0) 0), o 4 (.box (some 6) (T 1) 1), o 5 (.box (some 6) (T 2) 2), o 6 (.mov (.c (.bool false)))] false)
(.seq
(.seq
(.reg [o 7 (.load (some 4) (T 3)), o 8 (.fieldAddr (T 5) 3), o 9 (.load (some 3) (T 8)), o 10 (.call 155 [(T 7), (T 9)] 3), o 11 (.bin .neq (T 10) (I 0)), o 12 (mT 11), og (some 13) (.fieldAddr (T 5) 0) 12 false, og (some 14) (.fieldAddr (T 13) 1) 12 false, og (some 15) (.load none (T 14)) 12 false, og (some 16) (.bin .lss (T 15) (I 0)) 12 false, o 17 (.pick (T 12) (.c (.bool true)) (T 16)), o 18 (mT 17), og (some 19) (.fieldAddr (T 5) 0) 18 false, og (some 20) (.fieldAddr (T 19) 2) 18 false, og (some 21) (.load none (T 20)) 18 false, og (some 22) (.bin .lss (T 21) (I 0)) 18 false, o 23 (.pick (T 18) (.c (.bool true)) (T 22)), o 24 (mT 23), og (some 25) (.fieldAddr (T 5) 0) 24 false, og (some 26) (.fieldAddr (T 25) 2) 24 false, og (some 27) (.load none (T 26)) 24 false, og (some 28) (.fieldAddr (T 4) 2) 24 false, og (some 29) (.fieldAddr (T 28) 1) 24 false, og (some 30) (.load none (T 29)) 24 false, og (some 31) (.bin .gtr (T 27) (T 30)) 24 false, o 32 (.pick (T 24) (.c (.bool true)) (T 31)), o 33 (mT 32), og (some 34) (.fieldAddr (T 5) 0) 33 false, og (some 35) (.fieldAddr (T 34) 0) 33 false, og (some 36) (.load none (T 35)) 33 false, og (some 37) (.bin .lss (T 36) (I (-1))) 33 false, o 38 (.pick (T 33) (.c (.bool true)) (T 37)), o 39 (mT 38), og (some 40) (.fieldAddr (T 5) 0) 39 false, og (some 41) (.fieldAddr (T 40) 0) 39 false, og (some 42) (.load none (T 41)) 39 false, og (some 43) (.fieldAddr (T 4) 0) 39 false, og (some 44) (.load none (T 43)) 39 false, og (some 45) (.len (T 44)) 39 false, og (some 46) (.bin .geq (T 42) (T 45)) 39 false, o 47 (.pick (T 39) (.c (.bool true)) (T 46))] false)
(.cond (T 47)
(.seq
(.reg [o 6 (.mov (.c (.bool false)))] false)
.ret)
.skip))
(.seq
(.seq
(.reg [o 48 (.fieldAddr (T 5) 0), o 49 (.fieldAddr (T 48) 0), o 50 (.load none (T 49)), o 51 (.bin .eql (T 50) (I (-1)))] false)
(.cond (T 51)
(.seq
(.reg [o 52 (.fieldAddr (T 5) 0), o 53 (.fieldAddr (T 52) 1), o 54 (.load none (T 53)), o 55 (.bin .lss (T 54) (I 16)), o 6 (mT 55)] false)
.ret)
.skip))
(.seq
(.reg [w 56 (.fieldAddr (T 5) 0) [], w 57 (.fieldAddr (T 56) 1) [0], w 58 (.load none (T 57)) [0, 1], w 59 (.fieldAddr (T 4) 0) [], w 60 (.load none (T 59)) [3], w 61 (.fieldAddr (T 5) 0) [], w 62 (.fieldAddr (T 61) 0) [5], w 63 (.load none (T 62)) [5, 6], w 64 (.indexAddr 5 (T 60) (T 63)) [3, 4, 5, 6, 7], w 65 (.fieldAddr (T 64) 3) [3, 4, 5, 6, 7, 8], w 66 (.load none (T 65)) [3, 4, 5, 6, 7, 8, 9], w 67 (.bin .lss (T 58) (T 66)) [0, 1, 2, 3, 4, 5, 6, 7, 8, 9, 10], w 6 (mT 67) [0, 1, 2, 3, 4, 5, 6, 7, 8, 9, 10, 11]] true)
.ret)))), none⟩
def f_slices_insertionSortCmpFunc_api_Event : IFun := ⟨53, 2, true, [], [],
(.seq
(.reg [o 10 (mT 1), o 11 (.bin .add (T 10) (I 1)), o 8 (mT 11)] false)
(.block 0
(.loop
(.seq
(.seq
(.reg [o 12 (mT 8), o 13 (mT 2), o 14 (.bin .lss (T 12) (T 13))] false)
(.cond (T 14)
.skip
(.exit 0)))
(.seq
(.block 1
(.seq
(.reg [o 17 (mT 8), o 9 (mT 17)] false)
(.block 2
(.loop
(.seq
(.seq
(.reg [w 18 (mT 9) [], w 19 (mT 1) [], w 20 (.bin .gtr (T 18) (T 19)) [0, 1], w 21 (mT 20) [0, 1, 2], ⟨(some 22), .mov (T 3), (some (21, true)), [0, 1, 2, 3]⟩, ⟨(some 23), .mov (T 0), (some (21, true)), [0, 1, 2, 3]⟩, ⟨(some 24), .mov (T 9), (some (21, true)), [0, 1, 2, 3]⟩, ⟨(some 25), .indexAddr 5 (T 23) (T 24), (some (21, true)), [0, 1, 2, 3, 5, 6]⟩, ⟨(some 26), .load (some 5) (T 25), (some (21, true)), [0, 1, 2, 3, 5, 6, 7]⟩, ⟨(some 27), .mov (T 0), (some (21, true)), [0, 1, 2, 3]⟩, ⟨(some 28), .mov (T 9), (some (21, true)), [0, 1, 2, 3]⟩, ⟨(some 29), .bin .sub (T 28) (I 1), (some (21, true)), [0, 1, 2, 3, 10]⟩, ⟨(some 30), .indexAddr 5 (T 27) (T 29), (some (21, true)), [0, 1, 2, 3, 9, 10, 11]⟩, ⟨(some 31), .load (some 5) (T 30), (some (21, true)), [0, 1, 2, 3, 9, 10, 11, 12]⟩, ⟨(some 32), .callv (T 22) [(T 26), (T 31)] 0, (some (21, true)), [0, 1, 2, 3, 4, 5, 6, 7, 8, 9, 10, 11, 12, 13]⟩, ⟨(some 33), .bin .lss (T 32) (I 0), (some (21, true)), [0, 1, 2, 3, 4, 5, 6, 7, 8, 9, 10, 11, 12, 13, 14]⟩, w 34 (.pick (T 21) (T 33) (.c (.bool false))) [0, 1, 2, 3, 4, 5, 6, 7, 8, 9, 10, 11, 12, 13, 14, 15]] true)
(.cond (T 34)
.skip
(.exit 2)))
(.seq
(.block 3
(.reg [w 37 (mT 0) [], w 38 (mT 9) [], w 39 (mT 0) [], w 40 (mT 9) [], w 41 (.bin .sub (T 40) (I 1)) [3], w 42 (mT 0) [], w 43 (mT 9) [], w 44 (.bin .sub (T 43) (I 1)) [6], w 45 (.indexAddr 5 (T 42) (T 44)) [5, 6, 7], w 46 (.load (some 5) (T 45)) [5, 6, 7, 8], w 47 (mT 0) [], w 48 (mT 9) [], w 49 (.indexAddr 5 (T 47) (T 48)) [10, 11], w 50 (.load (some 5) (T 49)) [10, 11, 12], w 51 (.indexAddr 5 (T 37) (T 38)) [0, 1, 5, 6, 7, 8, 9, 10, 11, 12, 13], ⟨none, .store (some 5) (T 51) (T 46), none, [0, 1, 5, 6, 7, 8, 9, 10, 11, 12, 13, 14]⟩, w 52 (.indexAddr 5 (T 39) (T 41)) [0, 1, 2, 3, 4, 5, 6, 7, 8, 9, 10, 11, 12, 13, 14, 15], ⟨none, .store (some 5) (T 52) (T 50), none, [0, 1, 2, 3, 4, 5, 6, 7, 8, 9, 10, 11, 12, 13, 14, 15, 16]⟩] true))
(.reg [o 35 (mT 9), o 36 (.bin .sub (T 35) (I 1)), o 9 (mT 36)] false)))))))
(.reg [o 15 (mT 8), o 16 (.bin .add (T 15) (I 1)), o 8 (mT 16)] false)))))), none⟩
def f_slices_heapSortCmpFunc_api_Event : IFun := ⟨60, 0, true, [], [],
(.seq
(.reg [o 13 (mT 1), o 8 (mT 13)] false)
(.seq
(.reg [o 9 (.mov (I 0))] false)
(.seq
(.reg [o 14 (mT 2), o 15 (mT 1), o 16 (.bin .sub (T 14) (T 15)), o 10 (mT 16)] false)
(.seq
(.seq
(.reg [o 17 (mT 10), o 18 (.bin .sub (T 17) (I 1)), o 19 (.bin .quo (T 18) (I 2)), o 11 (mT 19)] false)
(.block 0
(.loop
(.seq
(.seq
(.reg [o 20 (mT 11), o 21 (.bin .geq (T 20) (I 0))] false)
(.cond (T 21)
.skip
(.exit 0)))
(.seq
(.block 1
(.reg [o 24 (mT 0), o 25 (mT 11), o 26 (mT 10), o 27 (mT 8), o 28 (mT 3), o 29 (.call 179 [(T 24), (T 25), (T 26), (T 27), (T 28)] 0)] false))
(.reg [o 22 (mT 11), o 23 (.bin .sub (T 22) (I 1)), o 11 (mT 23)] false))))))
(.seq
(.reg [o 30 (mT 10), o 31 (.bin .sub (T 30) (I 1)), o 12 (mT 31)] false)
(.block 2
(.loop
(.seq
(.seq
(.reg [o 32 (mT 12), o 33 (.bin .geq (T 32) (I 0))] false)
(.cond (T 33)
.skip
(.exit 2)))
(.seq
(.block 3
(.seq
(.reg [w 36 (mT 0) [], w 37 (mT 8) [], w 38 (mT 0) [], w 39 (mT 8) [], w 40 (mT 12) [], w 41 (.bin .add (T 39) (T 40)) [3, 4], w 42 (mT 0) [], w 43 (mT 8) [], w 44 (mT 12) [], w 45 (.bin .add (T 43) (T 44)) [7, 8], w 46 (.indexAddr 5 (T 42) (T 45)) [6, 7, 8, 9], w 47 (.load (some 5) (T 46)) [6, 7, 8, 9, 10], w 48 (mT 0) [], w 49 (mT 8) [], w 50 (.indexAddr 5 (T 48) (T 49)) [12, 13], w 51 (.load (some 5) (T 50)) [12, 13, 14], w 52 (.indexAddr 5 (T 36) (T 37)) [0, 1, 6, 7, 8, 9, 10, 11, 12, 13, 14, 15], ⟨none, .store (some 5) (T 52) (T 47), none, [0, 1, 6, 7, 8, 9, 10, 11, 12, 13, 14, 15, 16]⟩, w 53 (.indexAddr 5 (T 38) (T 41)) [0, 1, 2, 3, 4, 5, 6, 7, 8, 9, 10, 11, 12, 13, 14, 15, 16, 17], ⟨none, .store (some 5) (T 53) (T 51), none, [0, 1, 2, 3, 4, 5, 6, 7, 8, 9, 10, 11, 12, 13, 14, 15, 16, 17, 18]⟩] true)
(.reg [o 54 (mT 0), o 55 (mT 9), o 56 (mT 12), o 57 (mT 8), o 58 (mT 3), o 59 (.call 179 [(T 54), (T 55), (T 56), (T 57), (T 58)] 0)] false)))
(.reg [o 34 (mT 12), o 35 (.bin .sub (T 34) (I 1)), o 12 (mT 35)] false)))))))))), none⟩
def f_slices_breakPatternsCmpFunc_api_Event : IFun := ⟨67, 2, true, [], [],
(.seq
(.reg [o 13 (mT 2), o 14 (mT 1), o 15 (.bin .sub (T 13) (T 14)), o 8 (mT 15)] false)
(.seq
(.reg [o 16 (mT 8), o 17 (.bin .geq (T 16) (I 8))] false)
(.cond (T 17)
(.seq
(.reg [o 18 (mT 8), o 19 (.toInt .u64 (T 18)), o 9 (.box none (.c (.int .u64 0)) 0), u (.store none (T 9) (T 19))] false)
(.seq
(.reg [o 20 (mT 8), o 21 (.call 180 [(T 20)] 1), o 10 (mT 21)] false)
(.seq
(.reg [o 22 (mT 1), o 23 (mT 8), o 24 (.bin .quo (T 23) (I 4)), o 25 (.bin .mul (T 24) (I 2)), o 26 (.bin .add (T 22) (T 25)), o 27 (.bin .sub (T 26) (I 1)), o 11 (mT 27)] false)
(.block 0
(.loop
(.seq
(.seq
(.reg [o 28 (mT 11), o 29 (mT 1), o 30 (mT 8), o 31 (.bin .quo (T 30) (I 4)), o 32 (.bin .mul (T 31) (I 2)), o 33 (.bin .add (T 29) (T 32)), o 34 (.bin .add (T 33) (I 1)), o 35 (.bin .leq (T 28) (T 34))] false)
(.cond (T 35)
.skip
(.exit 0)))
(.seq
(.block 1
(.seq
(.reg [o 38 (.call 181 [(T 9)] 1), o 39 (mT 10), o 40 (.bin .sub (T 39) (.c (.int .u64 1))), o 41 (.bin .and (T 38) (T 40)), o 42 (.toInt .i64 (T 41)), o 12 (mT 42)] false)
(.seq
(.seq
(.reg [o 43 (mT 12), o 44 (mT 8), o 45 (.bin .geq (T 43) (T 44))] false)
(.cond (T 45)
(.reg [o 46 (mT 12), o 47 (mT 8), o 48 (.bin .sub (T 46) (T 47)), o 12 (mT 48)] false)
.skip))
(.reg [w 49 (mT 0) [], w 50 (mT 11) [], w 51 (mT 0) [], w 52 (mT 1) [], w 53 (mT 12) [], w 54 (.bin .add (T 52) (T 53)) [3, 4], w 55 (mT 0) [], w 56 (mT 1) [], w 57 (mT 12) [], w 58 (.bin .add (T 56) (T 57)) [7, 8], w 59 (.indexAddr 5 (T 55) (T 58)) [6, 7, 8, 9], w 60 (.load (some 5) (T 59)) [6, 7, 8, 9, 10], w 61 (mT 0) [], w 62 (mT 11) [], w 63 (.indexAddr 5 (T 61) (T 62)) [12, 13], w 64 (.load (some 5) (T 63)) [12, 13, 14], w 65 (.indexAddr 5 (T 49) (T 50)) [0, 1, 6, 7, 8, 9, 10, 11, 12, 13, 14, 15], ⟨none, .store (some 5) (T 65) (T 60), none, [0, 1, 6, 7, 8, 9, 10, 11, 12, 13, 14, 15, 16]⟩, w 66 (.indexAddr 5 (T 51) (T 54)) [0, 1, 2, 3, 4, 5, 6, 7, 8, 9, 10, 11, 12, 13, 14, 15, 16, 17], ⟨none, .store (some 5) (T 66) (T 64), none, [0, 1, 2, 3, 4, 5, 6, 7, 8, 9, 10, 11, 12, 13, 14, 15, 16, 17, 18]⟩] true))))
(.reg [o 36 (mT 11), o 37 (.bin .add (T 36) (I 1)), o 11 (mT 37)] false))))))))
.skip))), none⟩
def f_slices_choosePivotCmpFunc_api_Event : IFun := ⟨63, 1, true, [], [.tmp 8, .tmp 9],
(.seq
(.reg [o 8 (.mov (I 0)), o 9 (.mov (I 0))] false)
(.seq
(.reg [o 15 (mT 2), o 16 (mT 1), o 17 (.bin .sub (T 15) (T 16)), o 10 (mT 17)] false)
(.seq
(.reg [o 11 (.box none (.c (.int .i64 0)) 0)] false)
(.seq
(.reg [o 18 (mT 1), o 19 (mT 10), o 20 (.bin .quo (T 19) (I 4)), o 21 (.bin .mul (T 20) (I 1)), o 22 (.bin .add (T 18) (T 21)), o 12 (mT 22)] false)
(.seq
(.reg [o 23 (mT 1), o 24 (mT 10), o 25 (.bin .quo (T 24) (I 4)), o 26 (.bin .mul (T 25) (I 2)), o 27 (.bin .add (T 23) (T 26)), o 13 (mT 27)] false)
(.seq
(.reg [o 28 (mT 1), o 29 (mT 10), o 30 (.bin .quo (T 29) (I 4)), o 31 (.bin .mul (T 30) (I 3)), o 32 (.bin .add (T 28) (T 31)), o 14 (mT 32)] false)
(.seq
(.seq
(.reg [o 33 (mT 10), o 34 (.bin .geq (T 33) (I 8))] false)
(.cond (T 34)
(.seq
(.seq
(.reg [o 35 (mT 10), o 36 (.bin .geq (T 35) (I 50))] false)
(.cond (T 36)
(.seq
(.reg [o 37 (mT 0), o 38 (mT 12), o 39 (mT 3), o 40 (.call 182 [(T 37), (T 38), (T 11), (T 39)] 1), o 12 (mT 40)] false)
(.seq
(.reg [o 41 (mT 0), o 42 (mT 13), o 43 (mT 3), o 44 (.call 182 [(T 41), (T 42), (T 11), (T 43)] 1), o 13 (mT 44)] false)
(.reg [o 45 (mT 0), o 46 (mT 14), o 47 (mT 3), o 48 (.call 182 [(T 45), (T 46), (T 11), (T 47)] 1), o 14 (mT 48)] false)))
.skip))
(.reg [o 49 (mT 0), o 50 (mT 12), o 51 (mT 13), o 52 (mT 14), o 53 (mT 3), o 54 (.call 183 [(T 49), (T 50), (T 51), (T 52), (T 11), (T 53)] 1), o 13 (mT 54)] false))
.skip))
(.seq
(.reg [o 55 (.load none (T 11))] false)
(.block 0
(.seq
(.reg [o 58 (.bin .eql (T 55) (I 0)), o 57 (mT 58)] false)
(.cond (T 57)
(.seq
(.reg [o 59 (mT 13), o 8 (mT 59), o 9 (.mov (I 1))] false)
.ret)
(.seq
(.reg [o 61 (.bin .eql (T 55) (I 12)), o 60 (mT 61)] false)
(.cond (T 60)
(.seq
(.reg [o 62 (mT 13), o 8 (mT 62), o 9 (.mov (I 2))] false)
.ret)
(.seq
(.reg [o 56 (mT 13), o 8 (mT 56), o 9 (.mov (I 0))] false)
.ret)))))))))))))), none⟩
def f_slices_reverseRangeCmpFunc_api_Event : IFun := ⟨34, 0, true, [], [],
(.seq
(.reg [o 10 (mT 1), o 8 (mT 10)] false)
(.seq
(.reg [o 11 (mT 2), o 12 (.bin .sub (T 11) (I 1)), o 9 (mT 12)] false)
(.block 0
(.loop
(.seq
(.seq
(.reg [o 13 (mT 8), o 14 (mT 9), o 15 (.bin .lss (T 13) (T 14))] false)
(.cond (T 15)
.skip
(.exit 0)))
(.block 1
(.seq
(.reg [w 16 (mT 0) [], w 17 (mT 8) [], w 18 (mT 0) [], w 19 (mT 9) [], w 20 (mT 0) [], w 21 (mT 9) [], w 22 (.indexAddr 5 (T 20) (T 21)) [4, 5], w 23 (.load (some 5) (T 22)) [4, 5, 6], w 24 (mT 0) [], w 25 (mT 8) [], w 26 (.indexAddr 5 (T 24) (T 25)) [8, 9], w 27 (.load (some 5) (T 26)) [8, 9, 10], w 28 (.indexAddr 5 (T 16) (T 17)) [0, 1, 4, 5, 6, 7, 8, 9, 10, 11], ⟨none, .store (some 5) (T 28) (T 23), none, [0, 1, 4, 5, 6, 7, 8, 9, 10, 11, 12]⟩, w 29 (.indexAddr 5 (T 18) (T 19)) [0, 1, 2, 3, 4, 5, 6, 7, 8, 9, 10, 11, 12, 13], ⟨none, .store (some 5) (T 29) (T 27), none, [0, 1, 2, 3, 4, 5, 6, 7, 8, 9, 10, 11, 12, 13, 14]⟩] true)
(.seq
(.reg [o 30 (mT 8), o 31 (.bin .add (T 30) (I 1)), o 8 (mT 31)] false)
(.reg [o 32 (mT 9), o 33 (.bin .sub (T 32) (I 1)), o 9 (mT 33)] false))))))))), none⟩
def f_slices_partialInsertionSortCmpFunc_api_Event : IFun := ⟨141, 6, true, [], [.tmp 8],
(.seq
(.reg [o 8 (.mov (.c (.bool false)))] false)
(.seq
(.reg [o 13 (mT 1), o 14 (.bin .add (T 13) (I 1)), o 9 (mT 14)] false)
(.seq
(.seq
(.reg [o 10 (.mov (I 0))] false)
(.block 0
(.loop
(.seq
(.seq
(.reg [o 15 (mT 10), o 16 (.bin .lss (T 15) (I 5))] false)
(.cond (T 16)
.skip
(.exit 0)))
(.seq
(.block 1
(.seq
(.block 2
(.loop
(.seq
(.seq
(.reg [w 19 (mT 9) [], w 20 (mT 2) [], w 21 (.bin .lss (T 19) (T 20)) [0, 1], w 22 (mT 21) [0, 1, 2], ⟨(some 23), .mov (T 3), (some (22, true)), [0, 1, 2, 3]⟩, ⟨(some 24), .mov (T 0), (some (22, true)), [0, 1, 2, 3]⟩, ⟨(some 25), .mov (T 9), (some (22, true)), [0, 1, 2, 3]⟩, ⟨(some 26), .indexAddr 5 (T 24) (T 25), (some (22, true)), [0, 1, 2, 3, 5, 6]⟩, ⟨(some 27), .load (some 5) (T 26), (some (22, true)), [0, 1, 2, 3, 5, 6, 7]⟩, ⟨(some 28), .mov (T 0), (some (22, true)), [0, 1, 2, 3]⟩, ⟨(some 29), .mov (T 9), (some (22, true)), [0, 1, 2, 3]⟩, ⟨(some 30), .bin .sub (T 29) (I 1), (some (22, true)), [0, 1, 2, 3, 10]⟩, ⟨(some 31), .indexAddr 5 (T 28) (T 30), (some (22, true)), [0, 1, 2, 3, 9, 10, 11]⟩, ⟨(some 32), .load (some 5) (T 31), (some (22, true)), [0, 1, 2, 3, 9, 10, 11, 12]⟩, ⟨(some 33), .callv (T 23) [(T 27), (T 32)] 0, (some (22, true)), [0, 1, 2, 3, 4, 5, 6, 7, 8, 9, 10, 11, 12, 13]⟩, ⟨(some 34), .bin .lss (T 33) (I 0), (some (22, true)), [0, 1, 2, 3, 4, 5, 6, 7, 8, 9, 10, 11, 12, 13, 14]⟩, ⟨(some 35), .un .not (T 34), (some (22, true)), [0, 1, 2, 3, 4, 5, 6, 7, 8, 9, 10, 11, 12, 13, 14, 15]⟩, w 36 (.pick (T 22) (T 35) (.c (.bool false))) [0, 1, 2, 3, 4, 5, 6, 7, 8, 9, 10, 11, 12, 13, 14, 15, 16]] true)
(.cond (T 36)
.skip
(.exit 2)))
(.block 3
(.reg [o 37 (mT 9), o 38 (.bin .add (T 37) (I 1)), o 9 (mT 38)] false)))))
(.seq
(.seq
(.reg [o 39 (mT 9), o 40 (mT 2), o 41 (.bin .eql (T 39) (T 40))] false)
(.cond (T 41)
(.seq
(.reg [o 8 (.mov (.c (.bool true)))] false)
.ret)
.skip))
(.seq
(.seq
(.reg [o 42 (mT 2), o 43 (mT 1), o 44 (.bin .sub (T 42) (T 43)), o 45 (.bin .lss (T 44) (I 50))] false)
(.cond (T 45)
(.seq
(.reg [o 8 (.mov (.c (.bool false)))] false)
.ret)
.skip))
(.seq
(.reg [w 46 (mT 0) [], w 47 (mT 9) [], w 48 (mT 0) [], w 49 (mT 9) [], w 50 (.bin .sub (T 49) (I 1)) [3], w 51 (mT 0) [], w 52 (mT 9) [], w 53 (.bin .sub (T 52) (I 1)) [6], w 54 (.indexAddr 5 (T 51) (T 53)) [5, 6, 7], w 55 (.load (some 5) (T 54)) [5, 6, 7, 8], w 56 (mT 0) [], w 57 (mT 9) [], w 58 (.indexAddr 5 (T 56) (T 57)) [10, 11], w 59 (.load (some 5) (T 58)) [10, 11, 12], w 60 (.indexAddr 5 (T 46) (T 47)) [0, 1, 5, 6, 7, 8, 9, 10, 11, 12, 13], ⟨none, .store (some 5) (T 60) (T 55), none, [0, 1, 5, 6, 7, 8, 9, 10, 11, 12, 13, 14]⟩, w 61 (.indexAddr 5 (T 48) (T 50)) [0, 1, 2, 3, 4, 5, 6, 7, 8, 9, 10, 11, 12, 13, 14, 15], ⟨none, .store (some 5) (T 61) (T 59), none, [0, 1, 2, 3, 4, 5, 6, 7, 8, 9, 10, 11, 12, 13, 14, 15, 16]⟩] true)
(.seq
(.seq
(.reg [o 62 (mT 9), o 63 (mT 1), o 64 (.bin .sub (T 62) (T 63)), o 65 (.bin .geq (T 64) (I 2))] false)
(.cond (T 65)
(.seq
(.reg [o 66 (mT 9), o 67 (.bin .sub (T 66) (I 1)), o 11 (mT 67)] false)
(.block 4
(.loop
(.seq
(.seq
(.reg [o 68 (mT 11), o 69 (.bin .geq (T 68) (I 1))] false)
(.cond (T 69)
.skip
(.exit 4)))
(.seq
(.block 5
(.seq
(.seq
(.reg [w 72 (mT 3) [], w 73 (mT 0) [], w 74 (mT 11) [], w 75 (.indexAddr 5 (T 73) (T 74)) [1, 2], w 76 (.load (some 5) (T 75)) [1, 2, 3], w 77 (mT 0) [], w 78 (mT 11) [], w 79 (.bin .sub (T 78) (I 1)) [6], w 80 (.indexAddr 5 (T 77) (T 79)) [5, 6, 7], w 81 (.load (some 5) (T 80)) [5, 6, 7, 8], w 82 (.callv (T 72) [(T 76), (T 81)] 2) [0, 1, 2, 3, 4, 5, 6, 7, 8, 9], w 83 (.bin .lss (T 82) (I 0)) [0, 1, 2, 3, 4, 5, 6, 7, 8, 9, 10], w 84 (.un .not (T 83)) [0, 1, 2, 3, 4, 5, 6, 7, 8, 9, 10, 11]] true)
(.cond (T 84)
(.exit 4)
.skip))
(.reg [w 85 (mT 0) [], w 86 (mT 11) [], w 87 (mT 0) [], w 88 (mT 11) [], w 89 (.bin .sub (T 88) (I 1)) [3], w 90 (mT 0) [], w 91 (mT 11) [], w 92 (.bin .sub (T 91) (I 1)) [6], w 93 (.indexAddr 5 (T 90) (T 92)) [5, 6, 7], w 94 (.load (some 5) (T 93)) [5, 6, 7, 8], w 95 (mT 0) [], w 96 (mT 11) [], w 97 (.indexAddr 5 (T 95) (T 96)) [10, 11], w 98 (.load (some 5) (T 97)) [10, 11, 12], w 99 (.indexAddr 5 (T 85) (T 86)) [0, 1, 5, 6, 7, 8, 9, 10, 11, 12, 13], ⟨none, .store (some 5) (T 99) (T 94), none, [0, 1, 5, 6, 7, 8, 9, 10, 11, 12, 13, 14]⟩, w 100 (.indexAddr 5 (T 87) (T 89)) [0, 1, 2, 3, 4, 5, 6, 7, 8, 9, 10, 11, 12, 13, 14, 15], ⟨none, .store (some 5) (T 100) (T 98), none, [0, 1, 2, 3, 4, 5, 6, 7, 8, 9, 10, 11, 12, 13, 14, 15, 16]⟩] true)))
(.reg [o 70 (mT 11), o 71 (.bin .sub (T 70) (I 1)), o 11 (mT 71)] false))))))
.skip))
(.seq
(.reg [o 101 (mT 2), o 102 (mT 9), o 103 (.bin .sub (T 101) (T 102)), o 104 (.bin .geq (T 103) (I 2))] false)
(.cond (T 104)
(.seq
(.reg [o 105 (mT 9), o 106 (.bin .add (T 105) (I 1)), o 12 (mT 106)] false)
(.block 6
(.loop
(.seq
(.seq
(.reg [o 107 (mT 12), o 108 (mT 2), o 109 (.bin .lss (T 107) (T 108))] false)
(.cond (T 109)
.skip
(.exit 6)))
(.seq
(.block 7
(.seq
(.seq
(.reg [w 112 (mT 3) [], w 113 (mT 0) [], w 114 (mT 12) [], w 115 (.indexAddr 5 (T 113) (T 114)) [1, 2], w 116 (.load (some 5) (T 115)) [1, 2, 3], w 117 (mT 0) [], w 118 (mT 12) [], w 119 (.bin .sub (T 118) (I 1)) [6], w 120 (.indexAddr 5 (T 117) (T 119)) [5, 6, 7], w 121 (.load (some 5) (T 120)) [5, 6, 7, 8], w 122 (.callv (T 112) [(T 116), (T 121)] 4) [0, 1, 2, 3, 4, 5, 6, 7, 8, 9], w 123 (.bin .lss (T 122) (I 0)) [0, 1, 2, 3, 4, 5, 6, 7, 8, 9, 10], w 124 (.un .not (T 123)) [0, 1, 2, 3, 4, 5, 6, 7, 8, 9, 10, 11]] true)
(.cond (T 124)
(.exit 6)
.skip))
(.reg [w 125 (mT 0) [], w 126 (mT 12) [], w 127 (mT 0) [], w 128 (mT 12) [], w 129 (.bin .sub (T 128) (I 1)) [3], w 130 (mT 0) [], w 131 (mT 12) [], w 132 (.bin .sub (T 131) (I 1)) [6], w 133 (.indexAddr 5 (T 130) (T 132)) [5, 6, 7], w 134 (.load (some 5) (T 133)) [5, 6, 7, 8], w 135 (mT 0) [], w 136 (mT 12) [], w 137 (.indexAddr 5 (T 135) (T 136)) [10, 11], w 138 (.load (some 5) (T 137)) [10, 11, 12], w 139 (.indexAddr 5 (T 125) (T 126)) [0, 1, 5, 6, 7, 8, 9, 10, 11, 12, 13], ⟨none, .store (some 5) (T 139) (T 134), none, [0, 1, 5, 6, 7, 8, 9, 10, 11, 12, 13, 14]⟩, w 140 (.indexAddr 5 (T 127) (T 129)) [0, 1, 2, 3, 4, 5, 6, 7, 8, 9, 10, 11, 12, 13, 14, 15], ⟨none, .store (some 5) (T 140) (T 138), none, [0, 1, 2, 3, 4, 5, 6, 7, 8, 9, 10, 11, 12, 13, 14, 15, 16]⟩] true)))
(.reg [o 110 (mT 12), o 111 (.bin .add (T 110) (I 1)), o 12 (mT 111)] false))))))
.skip))))))))
(.reg [o 17 (mT 10), o 18 (.bin .add (T 17) (I 1)), o 10 (mT 18)] false))))))
(.seq
(.reg [o 8 (.mov (.c (.bool false)))] false)
.ret)))), none⟩
def f_slices_partitionEqualCmpFunc_api_Event : IFun := ⟨90, 4, true, [], [.tmp 10],
(.seq
(.reg [o 10 (.mov (I 0))] false)
(.seq
(.reg [w 13 (mT 0) [], w 14 (mT 1) [], w 15 (mT 0) [], w 16 (mT 3) [], w 17 (mT 0) [], w 18 (mT 3) [], w 19 (.indexAddr 5 (T 17) (T 18)) [4, 5], w 20 (.load (some 5) (T 19)) [4, 5, 6], w 21 (mT 0) [], w 22 (mT 1) [], w 23 (.indexAddr 5 (T 21) (T 22)) [8, 9], w 24 (.load (some 5) (T 23)) [8, 9, 10], w 25 (.indexAddr 5 (T 13) (T 14)) [0, 1, 4, 5, 6, 7, 8, 9, 10, 11], ⟨none, .store (some 5) (T 25) (T 20), none, [0, 1, 4, 5, 6, 7, 8, 9, 10, 11, 12]⟩, w 26 (.indexAddr 5 (T 15) (T 16)) [0, 1, 2, 3, 4, 5, 6, 7, 8, 9, 10, 11, 12, 13], ⟨none, .store (some 5) (T 26) (T 24), none, [0, 1, 2, 3, 4, 5, 6, 7, 8, 9, 10, 11, 12, 13, 14]⟩] true)
(.seq
(.reg [o 27 (mT 1), o 28 (.bin .add (T 27) (I 1)), o 29 (mT 2), o 30 (.bin .sub (T 29) (I 1)), o 11 (mT 28), o 12 (mT 30)] false)
(.seq
(.block 0
(.loop
(.block 1
(.seq
(.block 2
(.loop
(.seq
(.seq
(.reg [w 31 (mT 11) [], w 32 (mT 12) [], w 33 (.bin .leq (T 31) (T 32)) [0, 1], w 34 (mT 33) [0, 1, 2], ⟨(some 35), .mov (T 4), (some (34, true)), [0, 1, 2, 3]⟩, ⟨(some 36), .mov (T 0), (some (34, true)), [0, 1, 2, 3]⟩, ⟨(some 37), .mov (T 1), (some (34, true)), [0, 1, 2, 3]⟩, ⟨(some 38), .indexAddr 5 (T 36) (T 37), (some (34, true)), [0, 1, 2, 3, 5, 6]⟩, ⟨(some 39), .load (some 5) (T 38), (some (34, true)), [0, 1, 2, 3, 5, 6, 7]⟩, ⟨(some 40), .mov (T 0), (some (34, true)), [0, 1, 2, 3]⟩, ⟨(some 41), .mov (T 11), (some (34, true)), [0, 1, 2, 3]⟩, ⟨(some 42), .indexAddr 5 (T 40) (T 41), (some (34, true)), [0, 1, 2, 3, 9, 10]⟩, ⟨(some 43), .load (some 5) (T 42), (some (34, true)), [0, 1, 2, 3, 9, 10, 11]⟩, ⟨(some 44), .callv (T 35) [(T 39), (T 43)] 0, (some (34, true)), [0, 1, 2, 3, 4, 5, 6, 7, 8, 9, 10, 11, 12]⟩, ⟨(some 45), .bin .lss (T 44) (I 0), (some (34, true)), [0, 1, 2, 3, 4, 5, 6, 7, 8, 9, 10, 11, 12, 13]⟩, ⟨(some 46), .un .not (T 45), (some (34, true)), [0, 1, 2, 3, 4, 5, 6, 7, 8, 9, 10, 11, 12, 13, 14]⟩, w 47 (.pick (T 34) (T 46) (.c (.bool false))) [0, 1, 2, 3, 4, 5, 6, 7, 8, 9, 10, 11, 12, 13, 14, 15]] true)
(.cond (T 47)
.skip
(.exit 2)))
(.block 3
(.reg [o 48 (mT 11), o 49 (.bin .add (T 48) (I 1)), o 11 (mT 49)] false)))))
(.seq
(.block 4
(.loop
(.seq
(.seq
(.reg [w 50 (mT 11) [], w 51 (mT 12) [], w 52 (.bin .leq (T 50) (T 51)) [0, 1], w 53 (mT 52) [0, 1, 2], ⟨(some 54), .mov (T 4), (some (53, true)), [0, 1, 2, 3]⟩, ⟨(some 55), .mov (T 0), (some (53, true)), [0, 1, 2, 3]⟩, ⟨(some 56), .mov (T 1), (some (53, true)), [0, 1, 2, 3]⟩, ⟨(some 57), .indexAddr 5 (T 55) (T 56), (some (53, true)), [0, 1, 2, 3, 5, 6]⟩, ⟨(some 58), .load (some 5) (T 57), (some (53, true)), [0, 1, 2, 3, 5, 6, 7]⟩, ⟨(some 59), .mov (T 0), (some (53, true)), [0, 1, 2, 3]⟩, ⟨(some 60), .mov (T 12), (some (53, true)), [0, 1, 2, 3]⟩, ⟨(some 61), .indexAddr 5 (T 59) (T 60), (some (53, true)), [0, 1, 2, 3, 9, 10]⟩, ⟨(some 62), .load (some 5) (T 61), (some (53, true)), [0, 1, 2, 3, 9, 10, 11]⟩, ⟨(some 63), .callv (T 54) [(T 58), (T 62)] 2, (some (53, true)), [0, 1, 2, 3, 4, 5, 6, 7, 8, 9, 10, 11, 12]⟩, ⟨(some 64), .bin .lss (T 63) (I 0), (some (53, true)), [0, 1, 2, 3, 4, 5, 6, 7, 8, 9, 10, 11, 12, 13]⟩, w 65 (.pick (T 53) (T 64) (.c (.bool false))) [0, 1, 2, 3, 4, 5, 6, 7, 8, 9, 10, 11, 12, 13, 14]] true)
(.cond (T 65)
.skip
(.exit 4)))
(.block 5
(.reg [o 66 (mT 12), o 67 (.bin .sub (T 66) (I 1)), o 12 (mT 67)] false)))))
(.seq
(.seq
(.reg [o 68 (mT 11), o 69 (mT 12), o 70 (.bin .gtr (T 68) (T 69))] false)
(.cond (T 70)
(.exit 0)
.skip))
(.seq
(.reg [w 71 (mT 0) [], w 72 (mT 11) [], w 73 (mT 0) [], w 74 (mT 12) [], w 75 (mT 0) [], w 76 (mT 12) [], w 77 (.indexAddr 5 (T 75) (T 76)) [4, 5], w 78 (.load (some 5) (T 77)) [4, 5, 6], w 79 (mT 0) [], w 80 (mT 11) [], w 81 (.indexAddr 5 (T 79) (T 80)) [8, 9], w 82 (.load (some 5) (T 81)) [8, 9, 10], w 83 (.indexAddr 5 (T 71) (T 72)) [0, 1, 4, 5, 6, 7, 8, 9, 10, 11], ⟨none, .store (some 5) (T 83) (T 78), none, [0, 1, 4, 5, 6, 7, 8, 9, 10, 11, 12]⟩, w 84 (.indexAddr 5 (T 73) (T 74)) [0, 1, 2, 3, 4, 5, 6, 7, 8, 9, 10, 11, 12, 13], ⟨none, .store (some 5) (T 84) (T 82), none, [0, 1, 2, 3, 4, 5, 6, 7, 8, 9, 10, 11, 12, 13, 14]⟩] true)
(.seq
(.reg [o 85 (mT 11), o 86 (.bin .add (T 85) (I 1)), o 11 (mT 86)] false)
(.reg [o 87 (mT 12), o 88 (.bin .sub (T 87) (I 1)), o 12 (mT 88)] false)))))))))
(.seq
(.reg [o 89 (mT 11), o 10 (mT 89)] false)
.ret))))), none⟩
def f_slices_partitionCmpFunc_api_Event : IFun := ⟨178, 8, true, [], [.tmp 10, .tmp 11],
(.seq
(.reg [o 10 (.mov (I 0)), o 11 (.mov (.c (.bool false)))] false)
(.seq
(.reg [w 14 (mT 0) [], w 15 (mT 1) [], w 16 (mT 0) [], w 17 (mT 3) [], w 18 (mT 0) [], w 19 (mT 3) [], w 20 (.indexAddr 5 (T 18) (T 19)) [4, 5], w 21 (.load (some 5) (T 20)) [4, 5, 6], w 22 (mT 0) [], w 23 (mT 1) [], w 24 (.indexAddr 5 (T 22) (T 23)) [8, 9], w 25 (.load (some 5) (T 24)) [8, 9, 10], w 26 (.indexAddr 5 (T 14) (T 15)) [0, 1, 4, 5, 6, 7, 8, 9, 10, 11], ⟨none, .store (some 5) (T 26) (T 21), none, [0, 1, 4, 5, 6, 7, 8, 9, 10, 11, 12]⟩, w 27 (.indexAddr 5 (T 16) (T 17)) [0, 1, 2, 3, 4, 5, 6, 7, 8, 9, 10, 11, 12, 13], ⟨none, .store (some 5) (T 27) (T 25), none, [0, 1, 2, 3, 4, 5, 6, 7, 8, 9, 10, 11, 12, 13, 14]⟩] true)
(.seq
(.reg [o 28 (mT 1), o 29 (.bin .add (T 28) (I 1)), o 30 (mT 2), o 31 (.bin .sub (T 30) (I 1)), o 12 (mT 29), o 13 (mT 31)] false)
(.seq
(.block 0
(.loop
(.seq
(.seq
(.reg [w 32 (mT 12) [], w 33 (mT 13) [], w 34 (.bin .leq (T 32) (T 33)) [0, 1], w 35 (mT 34) [0, 1, 2], ⟨(some 36), .mov (T 4), (some (35, true)), [0, 1, 2, 3]⟩, ⟨(some 37), .mov (T 0), (some (35, true)), [0, 1, 2, 3]⟩, ⟨(some 38), .mov (T 12), (some (35, true)), [0, 1, 2, 3]⟩, ⟨(some 39), .indexAddr 5 (T 37) (T 38), (some (35, true)), [0, 1, 2, 3, 5, 6]⟩, ⟨(some 40), .load (some 5) (T 39), (some (35, true)), [0, 1, 2, 3, 5, 6, 7]⟩, ⟨(some 41), .mov (T 0), (some (35, true)), [0, 1, 2, 3]⟩, ⟨(some 42), .mov (T 1), (some (35, true)), [0, 1, 2, 3]⟩, ⟨(some 43), .indexAddr 5 (T 41) (T 42), (some (35, true)), [0, 1, 2, 3, 9, 10]⟩, ⟨(some 44), .load (some 5) (T 43), (some (35, true)), [0, 1, 2, 3, 9, 10, 11]⟩, ⟨(some 45), .callv (T 36) [(T 40), (T 44)] 0, (some (35, true)), [0, 1, 2, 3, 4, 5, 6, 7, 8, 9, 10, 11, 12]⟩, ⟨(some 46), .bin .lss (T 45) (I 0), (some (35, true)), [0, 1, 2, 3, 4, 5, 6, 7, 8, 9, 10, 11, 12, 13]⟩, w 47 (.pick (T 35) (T 46) (.c (.bool false))) [0, 1, 2, 3, 4, 5, 6, 7, 8, 9, 10, 11, 12, 13, 14]] true)
(.cond (T 47)
.skip
(.exit 0)))
(.block 1
(.reg [o 48 (mT 12), o 49 (.bin .add (T 48) (I 1)), o 12 (mT 49)] false)))))
(.seq
(.block 2
(.loop
(.seq
(.seq
(.reg [w 50 (mT 12) [], w 51 (mT 13) [], w 52 (.bin .leq (T 50) (T 51)) [0, 1], w 53 (mT 52) [0, 1, 2], ⟨(some 54), .mov (T 4), (some (53, true)), [0, 1, 2, 3]⟩, ⟨(some 55), .mov (T 0), (some (53, true)), [0, 1, 2, 3]⟩, ⟨(some 56), .mov (T 13), (some (53, true)), [0, 1, 2, 3]⟩, ⟨(some 57), .indexAddr 5 (T 55) (T 56), (some (53, true)), [0, 1, 2, 3, 5, 6]⟩, ⟨(some 58), .load (some 5) (T 57), (some (53, true)), [0, 1, 2, 3, 5, 6, 7]⟩, ⟨(some 59), .mov (T 0), (some (53, true)), [0, 1, 2, 3]⟩, ⟨(some 60), .mov (T 1), (some (53, true)), [0, 1, 2, 3]⟩, ⟨(some 61), .indexAddr 5 (T 59) (T 60), (some (53, true)), [0, 1, 2, 3, 9, 10]⟩, ⟨(some 62), .load (some 5) (T 61), (some (53, true)), [0, 1, 2, 3, 9, 10, 11]⟩, ⟨(some 63), .callv (T 54) [(T 58), (T 62)] 2, (some (53, true)), [0, 1, 2, 3, 4, 5, 6, 7, 8, 9, 10, 11, 12]⟩, ⟨(some 64), .bin .lss (T 63) (I 0), (some (53, true)), [0, 1, 2, 3, 4, 5, 6, 7, 8, 9, 10, 11, 12, 13]⟩, ⟨(some 65), .un .not (T 64), (some (53, true)), [0, 1, 2, 3, 4, 5, 6, 7, 8, 9, 10, 11, 12, 13, 14]⟩, w 66 (.pick (T 53) (T 65) (.c (.bool false))) [0, 1, 2, 3, 4, 5, 6, 7, 8, 9, 10, 11, 12, 13, 14, 15]] true)
(.cond (T 66)
.skip
(.exit 2)))
(.block 3
(.reg [o 67 (mT 13), o 68 (.bin .sub (T 67) (I 1)), o 13 (mT 68)] false)))))
(.seq
(.seq
(.reg [o 69 (mT 12), o 70 (mT 13), o 71 (.bin .gtr (T 69) (T 70))] false)
(.cond (T 71)
(.seq
(.reg [w 72 (mT 0) [], w 73 (mT 13) [], w 74 (mT 0) [], w 75 (mT 1) [], w 76 (mT 0) [], w 77 (mT 1) [], w 78 (.indexAddr 5 (T 76) (T 77)) [4, 5], w 79 (.load (some 5) (T 78)) [4, 5, 6], w 80 (mT 0) [], w 81 (mT 13) [], w 82 (.indexAddr 5 (T 80) (T 81)) [8, 9], w 83 (.load (some 5) (T 82)) [8, 9, 10], w 84 (.indexAddr 5 (T 72) (T 73)) [0, 1, 4, 5, 6, 7, 8, 9, 10, 11], ⟨none, .store (some 5) (T 84) (T 79), none, [0, 1, 4, 5, 6, 7, 8, 9, 10, 11, 12]⟩, w 85 (.indexAddr 5 (T 74) (T 75)) [0, 1, 2, 3, 4, 5, 6, 7, 8, 9, 10, 11, 12, 13], ⟨none, .store (some 5) (T 85) (T 83), none, [0, 1, 2, 3, 4, 5, 6, 7, 8, 9, 10, 11, 12, 13, 14]⟩] true)
(.seq
(.reg [o 86 (mT 13), o 10 (mT 86), o 11 (.mov (.c (.bool true)))] false)
.ret))
.skip))
(.seq
(.reg [w 87 (mT 0) [], w 88 (mT 12) [], w 89 (mT 0) [], w 90 (mT 13) [], w 91 (mT 0) [], w 92 (mT 13) [], w 93 (.indexAddr 5 (T 91) (T 92)) [4, 5], w 94 (.load (some 5) (T 93)) [4, 5, 6], w 95 (mT 0) [], w 96 (mT 12) [], w 97 (.indexAddr 5 (T 95) (T 96)) [8, 9], w 98 (.load (some 5) (T 97)) [8, 9, 10], w 99 (.indexAddr 5 (T 87) (T 88)) [0, 1, 4, 5, 6, 7, 8, 9, 10, 11], ⟨none, .store (some 5) (T 99) (T 94), none, [0, 1, 4, 5, 6, 7, 8, 9, 10, 11, 12]⟩, w 100 (.indexAddr 5 (T 89) (T 90)) [0, 1, 2, 3, 4, 5, 6, 7, 8, 9, 10, 11, 12, 13], ⟨none, .store (some 5) (T 100) (T 98), none, [0, 1, 2, 3, 4, 5, 6, 7, 8, 9, 10, 11, 12, 13, 14]⟩] true)
(.seq
(.reg [o 101 (mT 12), o 102 (.bin .add (T 101) (I 1)), o 12 (mT 102)] false)
(.seq
(.reg [o 103 (mT 13), o 104 (.bin .sub (T 103) (I 1)), o 13 (mT 104)] false)
(.seq
(.block 4
(.loop
(.block 5
(.seq
(.block 6
(.loop
(.seq
(.seq
(.reg [w 105 (mT 12) [], w 106 (mT 13) [], w 107 (.bin .leq (T 105) (T 106)) [0, 1], w 108 (mT 107) [0, 1, 2], ⟨(some 109), .mov (T 4), (some (108, true)), [0, 1, 2, 3]⟩, ⟨(some 110), .mov (T 0), (some (108, true)), [0, 1, 2, 3]⟩, ⟨(some 111), .mov (T 12), (some (108, true)), [0, 1, 2, 3]⟩, ⟨(some 112), .indexAddr 5 (T 110) (T 111), (some (108, true)), [0, 1, 2, 3, 5, 6]⟩, ⟨(some 113), .load (some 5) (T 112), (some (108, true)), [0, 1, 2, 3, 5, 6, 7]⟩, ⟨(some 114), .mov (T 0), (some (108, true)), [0, 1, 2, 3]⟩, ⟨(some 115), .mov (T 1), (some (108, true)), [0, 1, 2, 3]⟩, ⟨(some 116), .indexAddr 5 (T 114) (T 115), (some (108, true)), [0, 1, 2, 3, 9, 10]⟩, ⟨(some 117), .load (some 5) (T 116), (some (108, true)), [0, 1, 2, 3, 9, 10, 11]⟩, ⟨(some 118), .callv (T 109) [(T 113), (T 117)] 4, (some (108, true)), [0, 1, 2, 3, 4, 5, 6, 7, 8, 9, 10, 11, 12]⟩, ⟨(some 119), .bin .lss (T 118) (I 0), (some (108, true)), [0, 1, 2, 3, 4, 5, 6, 7, 8, 9, 10, 11, 12, 13]⟩, w 120 (.pick (T 108) (T 119) (.c (.bool false))) [0, 1, 2, 3, 4, 5, 6, 7, 8, 9, 10, 11, 12, 13, 14]] true)
(.cond (T 120)
.skip
(.exit 6)))
(.block 7
(.reg [o 121 (mT 12), o 122 (.bin .add (T 121) (I 1)), o 12 (mT 122)] false)))))
(.seq
(.block 8
(.loop
(.seq
(.seq
(.reg [w 123 (mT 12) [], w 124 (mT 13) [], w 125 (.bin .leq (T 123) (T 124)) [0, 1], w 126 (mT 125) [0, 1, 2], ⟨(some 127), .mov (T 4), (some (126, true)), [0, 1, 2, 3]⟩, ⟨(some 128), .mov (T 0), (some (126, true)), [0, 1, 2, 3]⟩, ⟨(some 129), .mov (T 13), (some (126, true)), [0, 1, 2, 3]⟩, ⟨(some 130), .indexAddr 5 (T 128) (T 129), (some (126, true)), [0, 1, 2, 3, 5, 6]⟩, ⟨(some 131), .load (some 5) (T 130), (some (126, true)), [0, 1, 2, 3, 5, 6, 7]⟩, ⟨(some 132), .mov (T 0), (some (126, true)), [0, 1, 2, 3]⟩, ⟨(some 133), .mov (T 1), (some (126, true)), [0, 1, 2, 3]⟩, ⟨(some 134), .indexAddr 5 (T 132) (T 133), (some (126, true)), [0, 1, 2, 3, 9, 10]⟩, ⟨(some 135), .load (some 5) (T 134), (some (126, true)), [0, 1, 2, 3, 9, 10, 11]⟩, ⟨(some 136), .callv (T 127) [(T 131), (T 135)] 6, (some (126, true)), [0, 1, 2, 3, 4, 5, 6, 7, 8, 9, 10, 11, 12]⟩, ⟨(some 137), .bin .lss (T 136) (I 0), (some (126, true)), [0, 1, 2, 3, 4, 5, 6, 7, 8, 9, 10, 11, 12, 13]⟩, ⟨(some 138), .un .not (T 137), (some (126, true)), [0, 1, 2, 3, 4, 5, 6, 7, 8, 9, 10, 11, 12, 13, 14]⟩, w 139 (.pick (T 126) (T 138) (.c (.bool false))) [0, 1, 2, 3, 4, 5, 6, 7, 8, 9, 10, 11, 12, 13, 14, 15]] true)
(.cond (T 139)
.skip
(.exit 8)))
(.block 9
(.reg [o 140 (mT 13), o 141 (.bin .sub (T 140) (I 1)), o 13 (mT 141)] false)))))
(.seq
(.seq
(.reg [o 142 (mT 12), o 143 (mT 13), o 144 (.bin .gtr (T 142) (T 143))] false)
(.cond (T 144)
(.exit 4)
.skip))
(.seq
(.reg [w 145 (mT 0) [], w 146 (mT 12) [], w 147 (mT 0) [], w 148 (mT 13) [], w 149 (mT 0) [], w 150 (mT 13) [], w 151 (.indexAddr 5 (T 149) (T 150)) [4, 5], w 152 (.load (some 5) (T 151)) [4, 5, 6], w 153 (mT 0) [], w 154 (mT 12) [], w 155 (.indexAddr 5 (T 153) (T 154)) [8, 9], w 156 (.load (some 5) (T 155)) [8, 9, 10], w 157 (.indexAddr 5 (T 145) (T 146)) [0, 1, 4, 5, 6, 7, 8, 9, 10, 11], ⟨none, .store (some 5) (T 157) (T 152), none, [0, 1, 4, 5, 6, 7, 8, 9, 10, 11, 12]⟩, w 158 (.indexAddr 5 (T 147) (T 148)) [0, 1, 2, 3, 4, 5, 6, 7, 8, 9, 10, 11, 12, 13], ⟨none, .store (some 5) (T 158) (T 156), none, [0, 1, 2, 3, 4, 5, 6, 7, 8, 9, 10, 11, 12, 13, 14]⟩] true)
(.seq
(.reg [o 159 (mT 12), o 160 (.bin .add (T 159) (I 1)), o 12 (mT 160)] false)
(.reg [o 161 (mT 13), o 162 (.bin .sub (T 161) (I 1)), o 13 (mT 162)] false)))))))))
(.seq
(.reg [w 163 (mT 0) [], w 164 (mT 13) [], w 165 (mT 0) [], w 166 (mT 1) [], w 167 (mT 0) [], w 168 (mT 1) [], w 169 (.indexAddr 5 (T 167) (T 168)) [4, 5], w 170 (.load (some 5) (T 169)) [4, 5, 6], w 171 (mT 0) [], w 172 (mT 13) [], w 173 (.indexAddr 5 (T 171) (T 172)) [8, 9], w 174 (.load (some 5) (T 173)) [8, 9, 10], w 175 (.indexAddr 5 (T 163) (T 164)) [0, 1, 4, 5, 6, 7, 8, 9, 10, 11], ⟨none, .store (some 5) (T 175) (T 170), none, [0, 1, 4, 5, 6, 7, 8, 9, 10, 11, 12]⟩, w 176 (.indexAddr 5 (T 165) (T 166)) [0, 1, 2, 3, 4, 5, 6, 7, 8, 9, 10, 11, 12, 13], ⟨none, .store (some 5) (T 176) (T 174), none, [0, 1, 2, 3, 4, 5, 6, 7, 8, 9, 10, 11, 12, 13, 14]⟩] true)
(.seq
(.reg [o 177 (mT 13), o 10 (mT 177), o 11 (.mov (.c (.bool false)))] false)
.ret)))))))))))), none⟩
def f_math_bits_Len32 : IFun := ⟨19, 0, true, [true], [.tmp 2],
(.seq
(.reg [o 2 (.mov (I 0))] false)
(.seq
(.seq
(.reg [o 3 (mT 0), o 4 (.bin .geq (T 3) (.c (.int .u32 65536)))] false)
(.cond (T 4)
(.seq
(.reg [o 5 (mT 0), o 6 (.bin .shr (T 5) (.c (.int .u64 16))), o 0 (mT 6)] false)
(.reg [o 2 (.mov (I 16))] false))
.skip))
(.seq
(.seq
(.reg [o 7 (mT 0), o 8 (.bin .geq (T 7) (.c (.int .u32 256)))] false)
(.cond (T 8)
(.seq
(.reg [o 9 (mT 0), o 10 (.bin .shr (T 9) (.c (.int .u64 8))), o 0 (mT 10)] false)
(.reg [o 11 (mT 2), o 12 (.bin .add (T 11) (I 8)), o 2 (mT 12)] false))
.skip))
(.seq
(.reg [o 13 (mT 2), o 14 (mT 0), o 15 (.toInt .u8 (T 14)), o 16 (.sidx (.c (.str [0, 1, 2, 2, 3, 3, 3, 3, 4, 4, 4, 4, 4, 4, 4, 4, 5, 5, 5, 5, 5, 5, 5, 5, 5, 5, 5, 5, 5, 5, 5, 5, 6, 6, 6, 6, 6, 6, 6, 6, 6, 6, 6, 6, 6, 6, 6, 6, 6, 6, 6, 6, 6, 6, 6, 6, 6, 6, 6, 6, 6, 6, 6, 6, 7, 7, 7, 7, 7, 7, 7, 7, 7, 7, 7, 7, 7, 7, 7, 7, 7, 7, 7, 7, 7, 7, 7, 7, 7, 7, 7, 7, 7, 7, 7, 7, 7, 7, 7, 7, 7, 7, 7, 7, 7, 7, 7, 7, 7, 7, 7, 7, 7, 7, 7, 7, 7, 7, 7, 7, 7, 7, 7, 7, 7, 7, 7, 7, 8, 8, 8, 8, 8, 8, 8, 8, 8, 8, 8, 8, 8, 8, 8, 8, 8, 8, 8, 8, 8, 8, 8, 8, 8, 8, 8, 8, 8, 8, 8, 8, 8, 8, 8, 8, 8, 8, 8, 8, 8, 8, 8, 8, 8, 8, 8, 8, 8, 8, 8, 8, 8, 8, 8, 8, 8, 8, 8, 8, 8, 8, 8, 8, 8, 8, 8, 8, 8, 8, 8, 8, 8, 8, 8, 8, 8, 8, 8, 8, 8, 8, 8, 8, 8, 8, 8, 8, 8, 8, 8, 8, 8, 8, 8, 8, 8, 8, 8, 8, 8, 8, 8, 8, 8, 8, 8, 8, 8, 8, 8, 8, 8, 8, 8, 8, 8, 8, 8, 8, 8, 8, 8, 8, 8, 8, 8, 8])) (T 15)), o 17 (.toInt .i64 (T 16)), o 18 (.bin .add (T 13) (T 17)), o 2 (mT 18)] false)
.ret)))), none⟩
def f_math_bits_Len64 : IFun := ⟨25, 0, true, [true], [.tmp 2],
(.seq
(.reg [o 2 (.mov (I 0))] false)
(.seq
(.seq
(.reg [o 3 (mT 0), o 4 (.bin .geq (T 3) (.c (.int .u64 4294967296)))] false)
(.cond (T 4)
(.seq
(.reg [o 5 (mT 0), o 6 (.bin .shr (T 5) (.c (.int .u64 32))), o 0 (mT 6)] false)
(.reg [o 2 (.mov (I 32))] false))
.skip))
(.seq
(.seq
(.reg [o 7 (mT 0), o 8 (.bin .geq (T 7) (.c (.int .u64 65536)))] false)
(.cond (T 8)
(.seq
(.reg [o 9 (mT 0), o 10 (.bin .shr (T 9) (.c (.int .u64 16))), o 0 (mT 10)] false)
(.reg [o 11 (mT 2), o 12 (.bin .add (T 11) (I 16)), o 2 (mT 12)] false))
.skip))
(.seq
(.seq
(.reg [o 13 (mT 0), o 14 (.bin .geq (T 13) (.c (.int .u64 256)))] false)
(.cond (T 14)
(.seq
(.reg [o 15 (mT 0), o 16 (.bin .shr (T 15) (.c (.int .u64 8))), o 0 (mT 16)] false)
(.reg [o 17 (mT 2), o 18 (.bin .add (T 17) (I 8)), o 2 (mT 18)] false))
.skip))
(.seq
(.reg [o 19 (mT 2), o 20 (mT 0), o 21 (.toInt .u8 (T 20)), o 22 (.sidx (.c (.str [0, 1, 2, 2, 3, 3, 3, 3, 4, 4, 4, 4, 4, 4, 4, 4, 5, 5, 5, 5, 5, 5, 5, 5, 5, 5, 5, 5, 5, 5, 5, 5, 6, 6, 6, 6, 6, 6, 6, 6, 6, 6, 6, 6, 6, 6, 6, 6, 6, 6, 6, 6, 6, 6, 6, 6, 6, 6, 6, 6, 6, 6, 6, 6, 7, 7, 7, 7, 7, 7, 7, 7, 7, 7, 7, 7, 7, 7, 7, 7, 7, 7, 7, 7, 7, 7, 7, 7, 7, 7, 7, 7, 7, 7, 7, 7, 7, 7, 7, 7, 7, 7, 7, 7, 7, 7, 7, 7, 7, 7, 7, 7, 7, 7, 7, 7, 7, 7, 7, 7, 7, 7, 7, 7, 7, 7, 7, 7, 8, 8, 8, 8, 8, 8, 8, 8, 8, 8, 8, 8, 8, 8, 8, 8, 8, 8, 8, 8, 8, 8, 8, 8, 8, 8, 8, 8, 8, 8, 8, 8, 8, 8, 8, 8, 8, 8, 8, 8, 8, 8, 8, 8, 8, 8, 8, 8, 8, 8, 8, 8, 8, 8, 8, 8, 8, 8, 8, 8, 8, 8, 8, 8, 8, 8, 8, 8, 8, 8, 8, 8, 8, 8, 8, 8, 8, 8, 8, 8, 8, 8, 8, 8, 8, 8, 8, 8, 8, 8, 8, 8, 8, 8, 8, 8, 8, 8, 8, 8, 8, 8, 8, 8, 8, 8, 8, 8, 8, 8, 8, 8, 8, 8, 8, 8, 8, 8, 8, 8, 8, 8, 8, 8, 8, 8, 8, 8])) (T 21)), o 23 (.toInt .i64 (T 22)), o 24 (.bin .add (T 19) (T 23)), o 2 (mT 24)] false)
.ret))))), none⟩
def f_cmp_isNaN_int : IFun := ⟨6, 0, true, [true], [.tmp 2],
(.seq
(.reg [o 2 (.mov (.c (.bool false)))] false)
(.seq
(.reg [o 3 (mT 0), o 4 (mT 0), o 5 (.bin .neq (T 3) (T 4)), o 2 (mT 5)] false)
.ret)), none⟩
def f_prog_instr : IFun := ⟨82, 3, true, [true, true, true], [.tmp 6],
(.seq
(.reg [o 3 (.box (some 4) (T 0) 0), o 4 (.box (some 2) (T 1) 1), o 5 (.box (some 2) (T 2) 2), o 6 (.mov (I 0))] false)
(.seq
(.seq
(.reg [o 8 (.fieldAddr (T 5) 0), o 9 (.load none (T 8)), o 10 (.call 189 [(T 9)] 3), o 7 (mT 10)] false)
(.block 0
(.seq
(.seq
(.reg [o 12 (.fieldAddr (T 5) 0), o 13 (.load none (T 12)), o 14 (.call 190 [(T 13)] 3), o 15 (.un .not (T 14)), o 11 (mT 15)] false)
(.cond (T 11)
.skip
(.reg [o 16 (mT 7), o 17 (.bin .eql (T 16) (I 0)), o 18 (mT 17), og (some 19) (.fieldAddr (T 5) 1) 18 true, og (some 20) (.load none (T 19)) 18 true, og (some 21) (.bin .neq (T 20) (I 0)) 18 true, o 22 (.pick (T 18) (T 21) (.c (.bool false))), o 11 (mT 22)] false)))
(.cond (T 11)
(.seq
(.reg [o 6 (.mov (I 1))] false)
.ret)
(.seq
(.reg [o 24 (mT 7), o 25 (.bin .eql (T 24) (I 4)), o 26 (mT 25), og (some 27) (.fieldAddr (T 5) 1) 26 true, og (some 28) (.load none (T 27)) 26 true, og (some 29) (.bin .lss (T 28) (I 0)) 26 true, og (some 30) (mT 29) 26 true, og (some 31) (.fieldAddr (T 5) 1) 30 false, og (some 32) (.load none (T 31)) 30 false, og (some 33) (.fieldAddr (T 4) 1) 30 false, og (some 34) (.load none (T 33)) 30 false, og (some 35) (.len (T 34)) 30 false, og (some 36) (.bin .gtr (T 32) (T 35)) 30 false, og (some 37) (.pick (T 30) (.c (.bool true)) (T 36)) 26 true, o 38 (.pick (T 26) (T 37) (.c (.bool false))), o 23 (mT 38)] false)
(.cond (T 23)
(.seq
(.reg [o 6 (.mov (I 4))] false)
.ret)
(.seq
(.seq
(.reg [o 40 (mT 7), o 41 (.bin .eql (T 40) (I 2)), o 42 (mT 41), og (some 43) (.fieldAddr (T 5) 1) 42 true, og (some 44) (.load none (T 43)) 42 true, og (some 45) (.bin .lss (T 44) (I 0)) 42 true, og (some 46) (mT 45) 42 true, og (some 47) (.fieldAddr (T 5) 1) 46 false, og (some 48) (.load none (T 47)) 46 false, og (some 49) (.bin .geq (T 48) (I 8)) 46 false, og (some 50) (.pick (T 46) (.c (.bool true)) (T 49)) 42 true, o 51 (.pick (T 42) (T 50) (.c (.bool false))), o 39 (mT 51)] false)
(.cond (T 39)
.skip
(.reg [o 52 (mT 7), o 53 (.bin .eql (T 52) (I 3)), o 54 (mT 53), og (some 55) (.fieldAddr (T 5) 1) 54 true, og (some 56) (.load none (T 55)) 54 true, og (some 57) (.bin .lss (T 56) (I 0)) 54 true, og (some 58) (mT 57) 54 true, og (some 59) (.fieldAddr (T 5) 1) 58 false, og (some 60) (.load none (T 59)) 58 false, og (some 61) (.fieldAddr (T 4) 0) 58 false, og (some 62) (.load none (T 61)) 58 false, og (some 63) (.bin .geq (T 60) (T 62)) 58 false, og (some 64) (.pick (T 58) (.c (.bool true)) (T 63)) 54 true, o 65 (.pick (T 54) (T 64) (.c (.bool false))), o 39 (mT 65)] false)))
(.cond (T 39)
(.seq
(.reg [o 6 (.mov (I 6))] false)
.ret)
(.seq
(.reg [o 67 (mT 7), o 68 (.bin .eql (T 67) (I 5)), o 69 (mT 68), og (some 70) (.fieldAddr (T 5) 1) 69 true, og (some 71) (.load none (T 70)) 69 true, og (some 72) (.bin .lss (T 71) (I 0)) 69 true, og (some 73) (mT 72) 69 true, og (some 74) (.fieldAddr (T 5) 1) 73 false, og (some 75) (.load none (T 74)) 73 false, og (some 76) (.fieldAddr (T 3) 0) 73 false, og (some 77) (.load none (T 76)) 73 false, og (some 78) (.len (T 77)) 73 false, og (some 79) (.bin .geq (T 75) (T 78)) 73 false, og (some 80) (.pick (T 73) (.c (.bool true)) (T 79)) 69 true, o 81 (.pick (T 69) (T 80) (.c (.bool false))), o 66 (mT 81)] false)
(.cond (T 66)
(.seq
(.reg [o 6 (.mov (I 7))] false)
.ret)
.skip))))))))))
(.seq
(.reg [o 6 (.mov (I 0))] false)
.ret))), none⟩
def f_math_bits_Mul : IFun := ⟨30, 0, true, [true, true], [.tmp 4, .tmp 5],
(.seq
(.reg [o 4 (.mov (.c (.int .u64 0))), o 5 (.mov (.c (.int .u64 0)))] false)
(.seq
(.cond (.c (.bool false))
(.seq
(.reg [o 11 (mT 0), o 12 (.toInt .u32 (T 11)), o 13 (mT 1), o 14 (.toInt .u32 (T 13)), o 15 (.call 191 [(T 12), (T 14)] 0), o 10 (mT 15), o 16 (.extract (T 10) 0), o 17 (.extract (T 10) 1), o 6 (mT 16), o 7 (mT 17)] false)
(.seq
(.reg [o 18 (mT 6), o 19 (.toInt .u64 (T 18)), o 20 (mT 7), o 21 (.toInt .u64 (T 20)), o 4 (mT 19), o 5 (mT 21)] false)
.ret))
.skip)
(.seq
(.reg [o 23 (mT 0), o 24 (mT 1), o 25 (.call 192 [(T 23), (T 24)] 0), o 22 (mT 25), o 26 (.extract (T 22) 0), o 27 (.extract (T 22) 1), o 8 (mT 26), o 9 (mT 27)] false)
(.seq
(.reg [o 28 (mT 8), o 29 (mT 9), o 4 (mT 28), o 5 (mT 29)] false)
.ret)))), none⟩
def f_ops_Pops : IFun := ⟨33, 0, true, [true], [.tmp 2],
(.seq
(.reg [o 2 (.mov (I 0))] false)
(.seq
(.block 0
(.seq
(.seq
(.reg [o 4 (mT 0), o 5 (.bin .eql (T 4) (I 4)), o 3 (mT 5)] false)
(.cond (T 3)
.skip
(.seq
(.reg [o 6 (mT 0), o 7 (.bin .geq (T 6) (I 9)), o 8 (mT 7), og (some 9) (mT 0) 8 true, og (some 10) (.bin .leq (T 9) (I 13)) 8 true, o 11 (.pick (T 8) (T 10) (.c (.bool false))), o 3 (mT 11)] false)
(.cond (T 3)
.skip
(.reg [o 12 (mT 0), o 13 (.bin .geq (T 12) (I 15)), o 14 (mT 13), og (some 15) (mT 0) 14 true, og (some 16) (.bin .leq (T 15) (I 18)) 14 true, o 17 (.pick (T 14) (T 16) (.c (.bool false))), o 3 (mT 17)] false)))))
(.cond (T 3)
(.seq
(.reg [o 2 (.mov (I 2))] false)
.ret)
(.seq
(.seq
(.reg [o 19 (mT 0), o 20 (.bin .eql (T 19) (I 2)), o 18 (mT 20)] false)
(.cond (T 18)
.skip
(.seq
(.reg [o 21 (mT 0), o 22 (.bin .eql (T 21) (I 3)), o 18 (mT 22)] false)
(.cond (T 18)
.skip
(.seq
(.reg [o 23 (mT 0), o 24 (.bin .eql (T 23) (I 6)), o 18 (mT 24)] false)
(.cond (T 18)
.skip
(.seq
(.reg [o 25 (mT 0), o 26 (.bin .eql (T 25) (I 14)), o 18 (mT 26)] false)
(.cond (T 18)
.skip
(.seq
(.reg [o 27 (mT 0), o 28 (.bin .eql (T 27) (I 19)), o 18 (mT 28)] false)
(.cond (T 18)
.skip
(.seq
(.reg [o 29 (mT 0), o 30 (.bin .eql (T 29) (I 21)), o 18 (mT 30)] false)
(.cond (T 18)
.skip
(.reg [o 31 (mT 0), o 32 (.bin .eql (T 31) (I 22)), o 18 (mT 32)] false)))))))))))))
(.cond (T 18)
(.seq
(.reg [o 2 (.mov (I 1))] false)
.ret)
.skip)))))
(.seq
(.reg [o 2 (.mov (I 0))] false)
.ret))), none⟩
def f_mail_Put_1 : IFun := ⟨10, 1, true, [], [.tmp 3],
(.seq
(.reg [o 2 (.box (some 6) (T 0) 0), o 3 (.mov (.c (.bool false)))] false)
(.seq
(.reg [o 4 (.fieldAddr (T 2) 0), o 5 (.load (some 3) (T 4)), o 6 (.fieldAddr (T 1) 0), o 7 (.load (some 3) (T 6)), o 8 (.call 75 [(T 5), (T 7)] 1), o 9 (.un .not (T 8)), o 3 (mT 9)] false)
.ret)), none⟩
def f_ident_Less : IFun := ⟨9, 2, true, [true, true], [.tmp 4],
(.seq
(.reg [o 2 (.box (some 3) (T 0) 0), o 3 (.box (some 3) (T 1) 1), o 4 (.mov (.c (.bool false)))] false)
(.seq
(.reg [o 5 (.load (some 3) (T 2)), o 6 (.load (some 3) (T 3)), o 7 (.call 96 [(T 5), (T 6)] 2), o 8 (.bin .lss (T 7) (I 0)), o 4 (mT 8)] false)
.ret)), none⟩
def f_slices_Insert_api_Message_api_Message : IFun := ⟨95, 2, false, [], [.tmp 6],
(.seq
(.reg [o 6 (.mov (.c .nils))] false)
(.seq
(.reg [o 10 (mT 0), o 11 (mT 1), o 12 (.slice 6 (T 10) (some (T 11)) none none)] false)
(.seq
(.reg [o 13 (mT 2), o 14 (.len (T 13)), o 7 (mT 14)] false)
(.seq
(.seq
(.reg [o 15 (mT 7), o 16 (.bin .eql (T 15) (I 0))] false)
(.cond (T 16)
(.seq
(.reg [o 17 (mT 0), o 6 (mT 17)] false)
.ret)
.skip))
(.seq
(.reg [o 18 (mT 0), o 19 (.len (T 18)), o 8 (mT 19)] false)
(.seq
(.seq
(.reg [o 20 (mT 1), o 21 (mT 8), o 22 (.bin .eql (T 20) (T 21))] false)
(.cond (T 22)
(.seq
(.reg [o 23 (mT 0), o 24 (mT 2), o 25 (.append 6 (T 23) (T 24) 0), o 6 (mT 25)] false)
.ret)
.skip))
(.seq
(.seq
(.reg [o 26 (mT 8), o 27 (mT 7), o 28 (.bin .add (T 26) (T 27)), o 29 (mT 0), o 30 (.bad), o 31 (.bin .gtr (T 28) (T 30))] false)
(.cond (T 31)
(.seq
(.reg [o 32 (mT 0), o 33 (mT 1), o 34 (.slice 6 (T 32) none (some (T 33)) none), o 35 (mT 8), o 36 (mT 7), o 37 (.bin .add (T 35) (T 36)), o 38 (mT 1), o 39 (.bin .sub (T 37) (T 38)), o 40 (.bad), o 9 (mT 40)] false)
(.seq
(.reg [o 41 (mT 9), o 42 (mT 1), o 43 (.slice 6 (T 41) (some (T 42)) none none), o 44 (mT 2), o 45 (.copy 6 (T 43) (T 44))] false)
(.seq
(.reg [w 46 (mT 9) [], w 47 (mT 1) [], w 48 (mT 7) [], w 49 (.bin .add (T 47) (T 48)) [1, 2], w 50 (.slice 6 (T 46) (some (T 49)) none none) [0, 1, 2, 3], w 51 (mT 0) [], w 52 (mT 1) [], w 53 (.slice 6 (T 51) (some (T 52)) none none) [5, 6], w 54 (.copy 6 (T 50) (T 53)) [0, 1, 2, 3, 4, 5, 6, 7]] true)
(.seq
(.reg [o 55 (mT 9), o 6 (mT 55)] false)
.ret))))
.skip))
(.seq
(.reg [o 56 (mT 0), o 57 (mT 8), o 58 (mT 7), o 59 (.bin .add (T 57) (T 58)), o 60 (.slice 6 (T 56) none (some (T 59)) none), o 0 (mT 60)] false)
(.seq
(.seq
(.reg [o 61 (mT 2), o 62 (mT 0), o 63 (mT 1), o 64 (mT 7), o 65 (.bin .add (T 63) (T 64)), o 66 (.slice 6 (T 62) (some (T 65)) none none), o 67 (.call 97 [(T 61), (T 66)] 1), o 68 (.un .not (T 67))] false)
(.cond (T 68)
(.seq
(.reg [w 69 (mT 0) [], w 70 (mT 1) [], w 71 (mT 7) [], w 72 (.bin .add (T 70) (T 71)) [1, 2], w 73 (.slice 6 (T 69) (some (T 72)) none none) [0, 1, 2, 3], w 74 (mT 0) [], w 75 (mT 1) [], w 76 (.slice 6 (T 74) (some (T 75)) none none) [5, 6], w 77 (.copy 6 (T 73) (T 76)) [0, 1, 2, 3, 4, 5, 6, 7]] true)
(.seq
(.reg [o 78 (mT 0), o 79 (mT 1), o 80 (.slice 6 (T 78) (some (T 79)) none none), o 81 (mT 2), o 82 (.copy 6 (T 80) (T 81))] false)
(.seq
(.reg [o 83 (mT 0), o 6 (mT 83)] false)
.ret)))
.skip))
(.seq
(.reg [o 84 (mT 0), o 85 (mT 8), o 86 (.slice 6 (T 84) (some (T 85)) none none), o 87 (mT 2), o 88 (.copy 6 (T 86) (T 87))] false)
(.seq
(.reg [o 89 (mT 0), o 90 (mT 1), o 91 (.slice 6 (T 89) (some (T 90)) none none), o 92 (mT 7), o 93 (.call 98 [(T 91), (T 92)] 1)] false)
(.seq
(.reg [o 94 (mT 0), o 6 (mT 94)] false)
.ret)))))))))))), none⟩
def f_mail_own : IFun := ⟨8, 2, true, [true], [.cell (some 6) 2],
(.seq
(.reg [o 1 (.box (some 6) (T 0) 0), o 2 (.box (some 6) (.c (.agg [(.int .i64 0), (.int .i64 0), (.int .i64 0), (.int .i64 0), (.int .i64 0), .nils])) 1)] false)
(.seq
(.reg [o 3 (.fieldAddr (T 1) 3), o 4 (.load (some 3) (T 3)), o 5 (.call 99 [(T 4)] 2), o 6 (.fieldAddr (T 1) 3), u (.store (some 3) (T 6) (T 5))] false)
(.seq
(.reg [o 7 (.load (some 6) (T 1)), u (.store (some 6) (T 2) (T 7))] false)
.ret))), none⟩
def f_slices_siftDownCmpFunc_api_Event : IFun := ⟨82, 4, true, [], [],
(.seq
(.reg [o 12 (mT 1), o 10 (mT 12)] false)
(.block 0
(.loop
(.block 1
(.seq
(.reg [o 13 (mT 10), o 14 (.bin .mul (I 2) (T 13)), o 15 (.bin .add (T 14) (I 1)), o 11 (mT 15)] false)
(.seq
(.seq
(.reg [o 16 (mT 11), o 17 (mT 2), o 18 (.bin .geq (T 16) (T 17))] false)
(.cond (T 18)
(.exit 0)
.skip))
(.seq
(.seq
(.reg [w 19 (mT 11) [], w 20 (.bin .add (T 19) (I 1)) [0], w 21 (mT 2) [], w 22 (.bin .lss (T 20) (T 21)) [0, 1, 2], w 23 (mT 22) [0, 1, 2, 3], ⟨(some 24), .mov (T 4), (some (23, true)), [0, 1, 2, 3, 4]⟩, ⟨(some 25), .mov (T 0), (some (23, true)), [0, 1, 2, 3, 4]⟩, ⟨(some 26), .mov (T 3), (some (23, true)), [0, 1, 2, 3, 4]⟩, ⟨(some 27), .mov (T 11), (some (23, true)), [0, 1, 2, 3, 4]⟩, ⟨(some 28), .bin .add (T 26) (T 27), (some (23, true)), [0, 1, 2, 3, 4, 7, 8]⟩, ⟨(some 29), .indexAddr 5 (T 25) (T 28), (some (23, true)), [0, 1, 2, 3, 4, 6, 7, 8, 9]⟩, ⟨(some 30), .load (some 5) (T 29), (some (23, true)), [0, 1, 2, 3, 4, 6, 7, 8, 9, 10]⟩, ⟨(some 31), .mov (T 0), (some (23, true)), [0, 1, 2, 3, 4]⟩, ⟨(some 32), .mov (T 3), (some (23, true)), [0, 1, 2, 3, 4]⟩, ⟨(some 33), .mov (T 11), (some (23, true)), [0, 1, 2, 3, 4]⟩, ⟨(some 34), .bin .add (T 32) (T 33), (some (23, true)), [0, 1, 2, 3, 4, 13, 14]⟩, ⟨(some 35), .bin .add (T 34) (I 1), (some (23, true)), [0, 1, 2, 3, 4, 13, 14, 15]⟩, ⟨(some 36), .indexAddr 5 (T 31) (T 35), (some (23, true)), [0, 1, 2, 3, 4, 12, 13, 14, 15, 16]⟩, ⟨(some 37), .load (some 5) (T 36), (some (23, true)), [0, 1, 2, 3, 4, 12, 13, 14, 15, 16, 17]⟩, ⟨(some 38), .callv (T 24) [(T 30), (T 37)] 0, (some (23, true)), [0, 1, 2, 3, 4, 5, 6, 7, 8, 9, 10, 11, 12, 13, 14, 15, 16, 17, 18]⟩, ⟨(some 39), .bin .lss (T 38) (I 0), (some (23, true)), [0, 1, 2, 3, 4, 5, 6, 7, 8, 9, 10, 11, 12, 13, 14, 15, 16, 17, 18, 19]⟩, w 40 (.pick (T 23) (T 39) (.c (.bool false))) [0, 1, 2, 3, 4, 5, 6, 7, 8, 9, 10, 11, 12, 13, 14, 15, 16, 17, 18, 19, 20]] true)
(.cond (T 40)
(.reg [o 41 (mT 11), o 42 (.bin .add (T 41) (I 1)), o 11 (mT 42)] false)
.skip))
(.seq
(.seq
(.reg [w 43 (mT 4) [], w 44 (mT 0) [], w 45 (mT 3) [], w 46 (mT 10) [], w 47 (.bin .add (T 45) (T 46)) [2, 3], w 48 (.indexAddr 5 (T 44) (T 47)) [1, 2, 3, 4], w 49 (.load (some 5) (T 48)) [1, 2, 3, 4, 5], w 50 (mT 0) [], w 51 (mT 3) [], w 52 (mT 11) [], w 53 (.bin .add (T 51) (T 52)) [8, 9], w 54 (.indexAddr 5 (T 50) (T 53)) [7, 8, 9, 10], w 55 (.load (some 5) (T 54)) [7, 8, 9, 10, 11], w 56 (.callv (T 43) [(T 49), (T 55)] 2) [0, 1, 2, 3, 4, 5, 6, 7, 8, 9, 10, 11, 12], w 57 (.bin .lss (T 56) (I 0)) [0, 1, 2, 3, 4, 5, 6, 7, 8, 9, 10, 11, 12, 13], w 58 (.un .not (T 57)) [0, 1, 2, 3, 4, 5, 6, 7, 8, 9, 10, 11, 12, 13, 14]] true)
(.cond (T 58)
.ret
.skip))
(.seq
(.reg [w 59 (mT 0) [], w 60 (mT 3) [], w 61 (mT 10) [], w 62 (.bin .add (T 60) (T 61)) [1, 2], w 63 (mT 0) [], w 64 (mT 3) [], w 65 (mT 11) [], w 66 (.bin .add (T 64) (T 65)) [5, 6], w 67 (mT 0) [], w 68 (mT 3) [], w 69 (mT 11) [], w 70 (.bin .add (T 68) (T 69)) [9, 10], w 71 (.indexAddr 5 (T 67) (T 70)) [8, 9, 10, 11], w 72 (.load (some 5) (T 71)) [8, 9, 10, 11, 12], w 73 (mT 0) [], w 74 (mT 3) [], w 75 (mT 10) [], w 76 (.bin .add (T 74) (T 75)) [15, 16], w 77 (.indexAddr 5 (T 73) (T 76)) [14, 15, 16, 17], w 78 (.load (some 5) (T 77)) [14, 15, 16, 17, 18], w 79 (.indexAddr 5 (T 59) (T 62)) [0, 1, 2, 3, 8, 9, 10, 11, 12, 13, 14, 15, 16, 17, 18, 19], ⟨none, .store (some 5) (T 79) (T 72), none, [0, 1, 2, 3, 8, 9, 10, 11, 12, 13, 14, 15, 16, 17, 18, 19, 20]⟩, w 80 (.indexAddr 5 (T 63) (T 66)) [0, 1, 2, 3, 4, 5, 6, 7, 8, 9, 10, 11, 12, 13, 14, 15, 16, 17, 18, 19, 20, 21], ⟨none, .store (some 5) (T 80) (T 78), none, [0, 1, 2, 3, 4, 5, 6, 7, 8, 9, 10, 11, 12, 13, 14, 15, 16, 17, 18, 19, 20, 21, 22]⟩] true)
(.reg [o 81 (mT 11), o 10 (mT 81)] false)))))))))), none⟩
def f_slices_nextPowerOfTwo : IFun := ⟨7, 0, true, [true], [.tmp 2],
(.seq
(.reg [o 2 (.mov (.c (.int .u64 0)))] false)
(.seq
(.reg [o 3 (mT 0), o 4 (.toInt .u64 (T 3)), o 5 (.call 148 [(T 4)] 0), o 6 (.bin .shl (.c (.int .u64 1)) (T 5)), o 2 (mT 6)] false)
.ret)), none⟩
def f_slices_xorshift_Next : IFun := ⟨33, 0, false, [true], [.tmp 2],
(.seq
(.reg [o 2 (.mov (.c (.int .u64 0)))] false)
(.seq
(.reg [w 3 (mT 0) [], w 4 (.nilchk (T 3)) [0], w 5 (.load none (T 4)) [0, 1], w 6 (mT 0) [], w 7 (.nilchk (T 6)) [3], w 8 (.load none (T 7)) [3, 4], w 9 (.bin .shl (T 8) (.c (.int .u64 13))) [3, 4, 5], w 10 (.bin .xor (T 5) (T 9)) [0, 1, 2, 3, 4, 5, 6], w 11 (.nilchk (T 3)) [0, 1, 2, 3, 4, 5, 6, 7], ⟨none, .store none (T 11) (T 10), none, [0, 1, 2, 3, 4, 5, 6, 7, 8]⟩] true)
(.seq
(.reg [w 12 (mT 0) [], w 13 (.nilchk (T 12)) [0], w 14 (.load none (T 13)) [0, 1], w 15 (mT 0) [], w 16 (.nilchk (T 15)) [3], w 17 (.load none (T 16)) [3, 4], w 18 (.bin .shr (T 17) (.c (.int .u64 7))) [3, 4, 5], w 19 (.bin .xor (T 14) (T 18)) [0, 1, 2, 3, 4, 5, 6], w 20 (.nilchk (T 12)) [0, 1, 2, 3, 4, 5, 6, 7], ⟨none, .store none (T 20) (T 19), none, [0, 1, 2, 3, 4, 5, 6, 7, 8]⟩] true)
(.seq
(.reg [w 21 (mT 0) [], w 22 (.nilchk (T 21)) [0], w 23 (.load none (T 22)) [0, 1], w 24 (mT 0) [], w 25 (.nilchk (T 24)) [3], w 26 (.load none (T 25)) [3, 4], w 27 (.bin .shl (T 26) (.c (.int .u64 17))) [3, 4, 5], w 28 (.bin .xor (T 23) (T 27)) [0, 1, 2, 3, 4, 5, 6], w 29 (.nilchk (T 21)) [0, 1, 2, 3, 4, 5, 6, 7], ⟨none, .store none (T 29) (T 28), none, [0, 1, 2, 3, 4, 5, 6, 7, 8]⟩] true)
(.seq
(.reg [o 30 (mT 0), o 31 (.nilchk (T 30)), o 32 (.load none (T 31)), o 2 (mT 32)] false)
.ret))))), none⟩
def f_slices_medianAdjacentCmpFunc_api_Event : IFun := ⟨18, 0, true, [], [.tmp 8],
(.seq
(.reg [o 8 (.mov (I 0))] false)
(.seq
(.reg [o 9 (mT 0), o 10 (mT 1), o 11 (.bin .sub (T 10) (I 1)), o 12 (mT 1), o 13 (mT 1), o 14 (.bin .add (T 13) (I 1)), o 15 (mT 2), o 16 (mT 3), o 17 (.call 183 [(T 9), (T 11), (T 12), (T 14), (T 15), (T 16)] 0), o 8 (mT 17)] false)
.ret)), none⟩
def f_slices_medianCmpFunc_api_Event : IFun := ⟨41, 0, true, [], [.tmp 12],
(.seq
(.reg [o 12 (.mov (I 0))] false)
(.seq
(.reg [o 14 (mT 0), o 15 (mT 1), o 16 (mT 2), o 17 (mT 4), o 18 (mT 5), o 19 (.call 193 [(T 14), (T 15), (T 16), (T 17), (T 18)] 0), o 13 (mT 19), o 20 (.extract (T 13) 0), o 21 (.extract (T 13) 1), o 1 (mT 20), o 2 (mT 21)] false)
(.seq
(.reg [o 23 (mT 0), o 24 (mT 2), o 25 (mT 3), o 26 (mT 4), o 27 (mT 5), o 28 (.call 193 [(T 23), (T 24), (T 25), (T 26), (T 27)] 0), o 22 (mT 28), o 29 (.extract (T 22) 0), o 30 (.extract (T 22) 1), o 2 (mT 29), o 3 (mT 30)] false)
(.seq
(.reg [o 32 (mT 0), o 33 (mT 1), o 34 (mT 2), o 35 (mT 4), o 36 (mT 5), o 37 (.call 193 [(T 32), (T 33), (T 34), (T 35), (T 36)] 0), o 31 (mT 37), o 38 (.extract (T 31) 0), o 39 (.extract (T 31) 1), o 1 (mT 38), o 2 (mT 39)] false)
(.seq
(.reg [o 40 (mT 2), o 12 (mT 40)] false)
.ret))))), none⟩
def f_ops_Operand : IFun := ⟨16, 0, true, [true], [.tmp 2],
(.seq
(.reg [o 2 (.mov (I 0))] false)
(.seq
(.seq
(.reg [o 3 (mT 0)] false)
(.block 0
(.seq
(.reg [o 5 (.bin .eql (T 3) (I 1)), o 4 (mT 5)] false)
(.cond (T 4)
(.seq
(.reg [o 2 (.mov (I 1))] false)
.ret)
(.seq
(.seq
(.reg [o 7 (.bin .eql (T 3) (I 5)), o 6 (mT 7)] false)
(.cond (T 6)
.skip
(.reg [o 8 (.bin .eql (T 3) (I 6)), o 6 (mT 8)] false)))
(.cond (T 6)
(.seq
(.reg [o 2 (.mov (I 2))] false)
.ret)
(.seq
(.reg [o 10 (.bin .eql (T 3) (I 7)), o 9 (mT 10)] false)
(.cond (T 9)
(.seq
(.reg [o 2 (.mov (I 3))] false)
.ret)
(.seq
(.seq
(.reg [o 12 (.bin .eql (T 3) (I 20)), o 11 (mT 12)] false)
(.cond (T 11)
.skip
(.reg [o 13 (.bin .eql (T 3) (I 21)), o 11 (mT 13)] false)))
(.cond (T 11)
(.seq
(.reg [o 2 (.mov (I 4))] false)
.ret)
(.seq
(.reg [o 15 (.bin .eql (T 3) (I 22)), o 14 (mT 15)] false)
(.cond (T 14)
(.seq
(.reg [o 2 (.mov (I 5))] false)
.ret)
.skip))))))))))))
(.seq
(.reg [o 2 (.mov (I 0))] false)
.ret))), none⟩
def f_ops_Valid : IFun := ⟨9, 0, true, [true], [.tmp 2],
(.seq
(.reg [o 2 (.mov (.c (.bool false)))] false)
(.seq
(.reg [o 3 (mT 0), o 4 (.bin .geq (T 3) (I 1)), o 5 (mT 4), og (some 6) (mT 0) 5 true, og (some 7) (.bin .leq (T 6) (I 25)) 5 true, o 8 (.pick (T 5) (T 7) (.c (.bool false))), o 2 (mT 8)] false)
.ret)), none⟩
def f_math_bits_Mul32 : IFun := ⟨17, 0, true, [true, true], [.tmp 4, .tmp 5],
(.seq
(.reg [o 4 (.mov (.c (.int .u32 0))), o 5 (.mov (.c (.int .u32 0)))] false)
(.seq
(.reg [o 7 (mT 0), o 8 (.toInt .u64 (T 7)), o 9 (mT 1), o 10 (.toInt .u64 (T 9)), o 11 (.bin .mul (T 8) (T 10)), o 6 (mT 11)] false)
(.seq
(.reg [o 12 (mT 6), o 13 (.bin .shr (T 12) (.c (.int .u64 32))), o 14 (.toInt .u32 (T 13)), o 15 (mT 6), o 16 (.toInt .u32 (T 15)), o 4 (mT 14), o 5 (mT 16)] false)
.ret))), none⟩
def f_math_bits_Mul64 : IFun := ⟨51, 0, true, [true, true], [.tmp 4, .tmp 5],
(.seq
(.reg [o 4 (.mov (.c (.int .u64 0))), o 5 (.mov (.c (.int .u64 0)))] false)
(.seq
(.reg [o 14 (mT 0), o 15 (.bin .and (T 14) (.c (.int .u64 4294967295))), o 6 (mT 15)] false)
(.seq
(.reg [o 16 (mT 0), o 17 (.bin .shr (T 16) (.c (.int .u64 32))), o 7 (mT 17)] false)
(.seq
(.reg [o 18 (mT 1), o 19 (.bin .and (T 18) (.c (.int .u64 4294967295))), o 8 (mT 19)] false)
(.seq
(.reg [o 20 (mT 1), o 21 (.bin .shr (T 20) (.c (.int .u64 32))), o 9 (mT 21)] false)
(.seq
(.reg [o 22 (mT 6), o 23 (mT 8), o 24 (.bin .mul (T 22) (T 23)), o 10 (mT 24)] false)
(.seq
(.reg [o 25 (mT 7), o 26 (mT 8), o 27 (.bin .mul (T 25) (T 26)), o 28 (mT 10), o 29 (.bin .shr (T 28) (.c (.int .u64 32))), o 30 (.bin .add (T 27) (T 29)), o 11 (mT 30)] false)
(.seq
(.reg [o 31 (mT 11), o 32 (.bin .and (T 31) (.c (.int .u64 4294967295))), o 12 (mT 32)] false)
(.seq
(.reg [o 33 (mT 11), o 34 (.bin .shr (T 33) (.c (.int .u64 32))), o 13 (mT 34)] false)
(.seq
(.reg [o 35 (mT 12), o 36 (mT 6), o 37 (mT 9), o 38 (.bin .mul (T 36) (T 37)), o 39 (.bin .add (T 35) (T 38)), o 12 (mT 39)] false)
(.seq
(.reg [o 40 (mT 7), o 41 (mT 9), o 42 (.bin .mul (T 40) (T 41)), o 43 (mT 13), o 44 (.bin .add (T 42) (T 43)), o 45 (mT 12), o 46 (.bin .shr (T 45) (.c (.int .u64 32))), o 47 (.bin .add (T 44) (T 46)), o 4 (mT 47)] false)
(.seq
(.reg [o 48 (mT 0), o 49 (mT 1), o 50 (.bin .mul (T 48) (T 49)), o 5 (mT 50)] false)
.ret)))))))))))), none⟩
def f_slices_rotateRight_api_Message : IFun := ⟨10, 1, false, [], [],
(.reg [o 4 (mT 0), o 5 (mT 0), o 6 (.len (T 5)), o 7 (mT 1), o 8 (.bin .sub (T 6) (T 7)), o 9 (.call 104 [(T 4), (T 8)] 0)] false), none⟩
def f_prog_CopyNote : IFun := ⟨8, 3, true, [true], [.cell (some 3) 2],
(.seq
(.reg [o 1 (.box (some 3) (T 0) 0), o 2 (.box (some 3) (.c (.agg [(.int .i64 0), (.int .i64 0), .nils])) 1)] false)
(.seq
(.reg [o 3 (.fieldAddr (T 1) 2), o 4 (.load none (T 3)), o 5 (.call 105 [(T 4)] 2), o 6 (.fieldAddr (T 1) 2), u (.store none (T 6) (T 5))] false)
(.seq
(.reg [o 7 (.load (some 3) (T 1)), u (.store (some 3) (T 2) (T 7))] false)
.ret))), none⟩
def f_slices_order2CmpFunc_api_Event : IFun := ⟨32, 2, true, [true, true, true, true, true], [.tmp 10, .tmp 11],
(.seq
(.reg [o 10 (.mov (I 0)), o 11 (.mov (I 0))] false)
(.seq
(.seq
(.reg [w 12 (mT 4) [], w 13 (mT 0) [], w 14 (mT 2) [], w 15 (.indexAddr 5 (T 13) (T 14)) [1, 2], w 16 (.load (some 5) (T 15)) [1, 2, 3], w 17 (mT 0) [], w 18 (mT 1) [], w 19 (.indexAddr 5 (T 17) (T 18)) [5, 6], w 20 (.load (some 5) (T 19)) [5, 6, 7], w 21 (.callv (T 12) [(T 16), (T 20)] 0) [0, 1, 2, 3, 4, 5, 6, 7, 8], w 22 (.bin .lss (T 21) (I 0)) [0, 1, 2, 3, 4, 5, 6, 7, 8, 9]] true)
(.cond (T 22)
(.seq
(.reg [o 23 (mT 3), o 24 (.nilchk (T 23)), o 25 (.load none (T 24)), o 26 (.bin .add (T 25) (I 1)), o 27 (.nilchk (T 23)), u (.store none (T 27) (T 26))] false)
(.seq
(.reg [o 28 (mT 2), o 29 (mT 1), o 10 (mT 28), o 11 (mT 29)] false)
.ret))
.skip))
(.seq
(.reg [o 30 (mT 1), o 31 (mT 2), o 10 (mT 30), o 11 (mT 31)] false)
.ret))), none⟩
def f_slices_rotateLeft_api_Message : IFun := ⟨14, 3, false, [], [],
(.seq
(.reg [o 4 (mT 0), o 5 (mT 1), o 6 (.slice 6 (T 4) none (some (T 5)) none), o 7 (.call 107 [(T 6)] 0)] false)
(.seq
(.reg [o 8 (mT 0), o 9 (mT 1), o 10 (.slice 6 (T 8) (some (T 9)) none none), o 11 (.call 107 [(T 10)] 1)] false)
(.reg [o 12 (mT 0), o 13 (.call 107 [(T 12)] 2)] false))), none⟩
def f_slices_Reverse_api_Message_api_Message : IFun := ⟨28, 0, false, [], [],
(.seq
(.reg [o 4 (mT 0), o 5 (.len (T 4)), o 6 (.bin .sub (T 5) (I 1)), o 2 (.mov (I 0)), o 3 (mT 6)] false)
(.block 0
(.loop
(.seq
(.seq
(.reg [o 7 (mT 2), o 8 (mT 3), o 9 (.bin .lss (T 7) (T 8))] false)
(.cond (T 9)
.skip
(.exit 0)))
(.seq
(.block 1
(.reg [w 14 (mT 0) [], w 15 (mT 2) [], w 16 (mT 0) [], w 17 (mT 3) [], w 18 (mT 0) [], w 19 (mT 3) [], w 20 (.indexAddr 6 (T 18) (T 19)) [4, 5], w 21 (.load (some 6) (T 20)) [4, 5, 6], w 22 (mT 0) [], w 23 (mT 2) [], w 24 (.indexAddr 6 (T 22) (T 23)) [8, 9], w 25 (.load (some 6) (T 24)) [8, 9, 10], w 26 (.indexAddr 6 (T 14) (T 15)) [0, 1, 4, 5, 6, 7, 8, 9, 10, 11], ⟨none, .store (some 6) (T 26) (T 21), none, [0, 1, 4, 5, 6, 7, 8, 9, 10, 11, 12]⟩, w 27 (.indexAddr 6 (T 16) (T 17)) [0, 1, 2, 3, 4, 5, 6, 7, 8, 9, 10, 11, 12, 13], ⟨none, .store (some 6) (T 27) (T 25), none, [0, 1, 2, 3, 4, 5, 6, 7, 8, 9, 10, 11, 12, 13, 14]⟩] true))
(.reg [o 10 (mT 2), o 11 (.bin .add (T 10) (I 1)), o 12 (mT 3), o 13 (.bin .sub (T 12) (I 1)), o 2 (mT 11), o 3 (mT 13)] false)))))), none⟩
def FTL : List (Option IFun) := [none, none, none, none, none, none, none, none, none, none, none, none, none, none, none, none, none, none, none, none, none, none, none, some f_alike_Round, none, none, none, none, none, none, none, none, some f_mail_Put, none, none, none, none, some f_mail_Sorted, none, some f_mail_Find, none, some f_mail_To, none, none, some f_mail_Copy, none, none, none, none, none, none, none, none, none, none, none, none, none, none, none, none, none, none, none, none, none, none, none, none, none, none, none, none, some f_slices_IndexFunc_api_Message_api_Message, some f_mail_Put_1, some f_ident_Less, some f_slices_Insert_api_Message_api_Message, some f_mail_own, none, none, none, some f_mail_Find_1, none, none, none, none, none, none, none, none, none, none, none, none, none, none, some f_ident_order, none, some f_slices_rotateRight_api_Message, some f_prog_CopyNote, none, none, some f_cmp_Or_int, some f_cmp_Compare_int, some f_slices_rotateLeft_api_Message, some f_slices_Clone_int_int, some f_cmp_isNaN_int, some f_slices_Reverse_api_Message_api_Message, none, none, none, none, none, none, some f_law10_EventOdd, none, none, some f_world_Start, none, none, some f_law10_awake, some f_event_Enabled, some f_event_Is, none, some f_event_May, some f_law10_one, none, none, some f_flow_Check, some f_world_Give, none, some f_event_Left, some f_world_Check, some f_event_All, some f_slices_SortFunc_api_Event_api_Event, some f_ident_Order, some f_event_Can, some f_event_paid, none, some f_prog_Check, some f_flow_walk, some f_world_Post, none, none, some f_event_less, some f_world_Fits, some f_event_All_1, some f_slices_pdqsortCmpFunc_api_Event, some f_math_bits_Len, none, some f_prog_each_api_Handler, some f_prog_handler, some f_prog_each_api_Actor, some f_prog_actor, some f_prog_each_api_Note, some f_prog_Note, some f_slices_Repeat_int_int, some f_flow_takes, some f_ops_Puts, some f_flow_next, none, some f_world_local, some f_slices_ContainsFunc_api_Message_api_Message, some f_world_Fits_1, some f_world_message, some f_slices_insertionSortCmpFunc_api_Event, some f_slices_heapSortCmpFunc_api_Event, some f_slices_breakPatternsCmpFunc_api_Event, some f_slices_choosePivotCmpFunc_api_Event, some f_slices_reverseRangeCmpFunc_api_Event, some f_slices_partialInsertionSortCmpFunc_api_Event, some f_slices_partitionEqualCmpFunc_api_Event, some f_slices_partitionCmpFunc_api_Event, some f_math_bits_Len32, some f_math_bits_Len64, none, some f_prog_instr, some f_math_bits_Mul, some f_ops_Pops, some f_slices_siftDownCmpFunc_api_Event, some f_slices_nextPowerOfTwo, some f_slices_xorshift_Next, some f_slices_medianAdjacentCmpFunc_api_Event, some f_slices_medianCmpFunc_api_Event, none, none, none, none, none, some f_ops_Operand, some f_ops_Valid, some f_math_bits_Mul32, some f_math_bits_Mul64, some f_slices_order2CmpFunc_api_Event]
def FT : Nat → Option IFun
| 23 => some f_alike_Round
| 32 => some f_mail_Put
| 37 => some f_mail_Sorted
| 39 => some f_mail_Find
| 41 => some f_mail_To
| 44 => some f_mail_Copy
| 73 => some f_slices_IndexFunc_api_Message_api_Message
| 74 => some f_mail_Put_1
| 75 => some f_ident_Less
| 76 => some f_slices_Insert_api_Message_api_Message
| 77 => some f_mail_own
| 81 => some f_mail_Find_1
| 96 => some f_ident_order
| 98 => some f_slices_rotateRight_api_Message
| 99 => some f_prog_CopyNote
| 102 => some f_cmp_Or_int
| 103 => some f_cmp_Compare_int
| 104 => some f_slices_rotateLeft_api_Message
| 105 => some f_slices_Clone_int_int
| 106 => some f_cmp_isNaN_int
| 107 => some f_slices_Reverse_api_Message_api_Message
| 114 => some f_law10_EventOdd
| 117 => some f_world_Start
| 120 => some f_law10_awake
| 121 => some f_event_Enabled
| 122 => some f_event_Is
| 124 => some f_event_May
| 125 => some f_law10_one
| 128 => some f_flow_Check
| 129 => some f_world_Give
| 131 => some f_event_Left
| 132 => some f_world_Check
| 133 => some f_event_All
| 134 => some f_slices_SortFunc_api_Event_api_Event
| 135 => some f_ident_Order
| 136 => some f_event_Can
| 137 => some f_event_paid
| 139 => some f_prog_Check
| 140 => some f_flow_walk
| 141 => some f_world_Post
| 144 => some f_event_less
| 145 => some f_world_Fits
| 146 => some f_event_All_1
| 147 => some f_slices_pdqsortCmpFunc_api_Event
| 148 => some f_math_bits_Len
| 150 => some f_prog_each_api_Handler
| 151 => some f_prog_handler
| 152 => some f_prog_each_api_Actor
| 153 => some f_prog_actor
| 154 => some f_prog_each_api_Note
| 155 => some f_prog_Note
| 156 => some f_slices_Repeat_int_int
| 157 => some f_flow_takes
| 158 => some f_ops_Puts
| 159 => some f_flow_next
| 161 => some f_world_local
| 162 => some f_slices_ContainsFunc_api_Message_api_Message
| 163 => some f_world_Fits_1
| 164 => some f_world_message
| 165 => some f_slices_insertionSortCmpFunc_api_Event
| 166 => some f_slices_heapSortCmpFunc_api_Event
| 167 => some f_slices_breakPatternsCmpFunc_api_Event
| 168 => some f_slices_choosePivotCmpFunc_api_Event
| 169 => some f_slices_reverseRangeCmpFunc_api_Event
| 170 => some f_slices_partialInsertionSortCmpFunc_api_Event
| 171 => some f_slices_partitionEqualCmpFunc_api_Event
| 172 => some f_slices_partitionCmpFunc_api_Event
| 173 => some f_math_bits_Len32
| 174 => some f_math_bits_Len64
| 176 => some f_prog_instr
| 177 => some f_math_bits_Mul
| 178 => some f_ops_Pops
| 179 => some f_slices_siftDownCmpFunc_api_Event
| 180 => some f_slices_nextPowerOfTwo
| 181 => some f_slices_xorshift_Next
| 182 => some f_slices_medianAdjacentCmpFunc_api_Event
| 183 => some f_slices_medianCmpFunc_api_Event
| 189 => some f_ops_Operand
| 190 => some f_ops_Valid
| 191 => some f_math_bits_Mul32
| 192 => some f_math_bits_Mul64
| 193 => some f_slices_order2CmpFunc_api_Event
| _ => none
end Gv

namespace Gv
/-- The number of a function of E in this program. -/
def fidL : List Nat := [1000000, 1000000, 1000000, 1000000, 1000000, 1000000, 1000000, 1000000, 1000000, 1000000, 1000000, 1000000, 1000000, 1000000, 1000000, 1000000, 1000000, 1000000, 1000000, 1000000, 1000000, 1000000, 1000000, 20, 1000000, 1000000, 1000000, 1000000, 1000000, 1000000, 1000000, 1000000, 62, 1000000, 1000000, 1000000, 1000000, 67, 1000000, 40, 1000000, 61, 1000000, 1000000, 63, 1000000, 13, 1000000, 1000000, 1000000, 1000000, 1000000, 1000000, 1000000, 1000000, 1000000, 1000000, 1000000, 1000000, 1000000, 1000000, 1000000, 1000000, 1000000, 1000000, 1000000, 1000000, 1000000, 1000000, 1000000, 1000000, 1000000, 1000000, 65, 87, 88, 89, 90, 34, 1000000, 1000000, 66, 1000000, 1000000, 1000000, 1000000, 1000000, 1000000, 1000000, 1000000, 1000000, 1000000, 1000000, 1000000, 1000000, 1000000, 49, 105, 106, 107, 1000000, 1000000, 47, 48, 111, 24, 82, 114, 3, 4, 1000000, 5, 6, 1000000, 7, 8, 9, 10, 11, 12, 14, 15, 16, 17, 18, 19, 21, 22, 23, 25, 26, 27, 28, 29, 30, 31, 32, 33, 35, 36, 37, 38, 39, 41, 42, 43, 44, 45, 46, 50, 51, 52, 53, 54, 55, 56, 57, 58, 59, 60, 64, 68, 69, 70, 71, 72, 73, 74, 75, 76, 77, 78, 79, 80, 81, 83, 84, 85, 86, 91, 92, 93, 94, 95, 96, 97, 98, 99, 100, 101, 102, 103, 104, 108, 109, 110, 112, 113, 1000000, 1000000, 1000000, 1000000, 1000000, 1000000, 1000000, 1000000, 1000000, 1000000, 1000000, 1000000, 1000000, 1000000, 1000000, 1000000, 1000000, 1000000, 1000000, 1000000, 1000000, 1000000, 1000000, 1000000, 1000000, 1000000, 1000000, 1000000, 1000000, 1000000, 1000000, 1000000, 1000000, 1000000, 1000000, 1000000, 1000000, 1000000, 1000000, 1000000, 1000000, 1000000, 1000000, 1000000, 1000000, 1000000, 1000000, 1000000, 1000000, 1000000, 1000000, 1000000, 1000000, 1000000, 1000000, 1000000, 1000000, 1000000, 1000000, 1000000, 1000000, 1000000, 1000000, 1000000, 1000000, 1000000, 1000000, 1000000, 1000000, 1000000, 1000000, 1000000, 1000000, 1000000, 1000000, 1000000, 1000000, 1000000, 1000000, 1000000, 1000000, 1000000, 1000000, 1000000, 1000000, 1000000, 1000000, 1000000, 1000000, 1000000, 1000000, 1000000, 1000000, 1000000, 1000000, 1000000, 1000000, 1000000, 1000000, 1000000, 1000000, 1000000, 1000000, 1000000, 1000000, 1000000, 1000000, 1000000, 1000000, 1000000, 1000000, 1000000, 1000000, 62, 63]
def fid (n : Nat) : Nat := fidL.getD n 1000000
end Gv
