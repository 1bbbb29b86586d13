/- What this file proves: one part of the proof that the law answers true for every input, by an interpreter that is proved sound against the given model. -/
import Derived.Test.YtkjefeclbdjkcaaEa
namespace Gv
abbrev T := PO.t
abbrev I (n : Int) : PO := .c (.int .i64 n)
abbrev mT (n : Nat) : IOp := .mov (T n)
abbrev w (d : Nat) (x : IOp) (l : List Nat) : IOper := ⟨some d, x, none, l⟩
abbrev o (d : Nat) (x : IOp) : IOper := ⟨some d, x, none, []⟩
abbrev u (x : IOp) : IOper := ⟨none, x, none, []⟩
abbrev og (d : Option Nat) (x : IOp) (t : Nat) (b : Bool) : IOper := ⟨d, x, some (t, b), []⟩
def f_law8_MailTells : IFun := ⟨152, 6, true, [true, true, true, true], [.tmp 8],
(.seq
(.reg [o 6 (.box (some 6) (T 2) 0), o 8 (.mov (.c (.bool false)))] false)
(.seq
(.seq
(.reg [o 19 (mT 0), o 20 (.call 30 [(T 19)] 1), o 21 (.un .not (T 20)), o 22 (mT 21), og (some 23) (mT 1) 22 false, og (some 24) (.call 30 [(T 23)] 1) 22 false, og (some 25) (.un .not (T 24)) 22 false, o 26 (.pick (T 22) (.c (.bool true)) (T 25)), o 27 (mT 26), og (some 28) (.fieldAddr (T 6) 3) 27 false, og (some 29) (.fieldAddr (T 28) 2) 27 false, og (some 30) (.load none (T 29)) 27 false, og (some 31) (.len (T 30)) 27 false, og (some 32) (.bin .gtr (T 31) (I 6)) 27 false, o 33 (.pick (T 27) (.c (.bool true)) (T 32))] false)
(.cond (T 33)
(.seq
(.reg [o 34 (.call 31 [] 1), o 8 (mT 34)] false)
.ret)
.skip))
(.seq
(.reg [o 36 (mT 0), o 37 (.load (some 6) (T 6)), o 38 (.call 32 [(T 36), (T 37)] 1), o 35 (mT 38), o 39 (.extract (T 35) 0), o 40 (.extract (T 35) 1), o 9 (mT 39), o 10 (mT 40)] false)
(.seq
(.reg [o 42 (mT 0), o 43 (.load (some 6) (T 6)), o 44 (.call 33 [(T 42), (T 43)] 2), o 41 (mT 44), o 45 (.extract (T 41) 0), o 46 (.extract (T 41) 1), o 11 (mT 45), o 12 (mT 46)] false)
(.seq
(.reg [o 48 (mT 0), o 49 (.fieldAddr (T 6) 0), o 50 (.load (some 3) (T 49)), o 51 (.call 34 [(T 48), (T 50)] 2), o 47 (mT 51), o 52 (.extract (T 47) 0), o 53 (.extract (T 47) 1), o 54 (.extract (T 47) 2), o 14 (.box (some 6) (.c (.agg [(.int .i64 0), (.int .i64 0), (.int .i64 0), (.int .i64 0), (.int .i64 0), .nils])) 2), o 13 (mT 52), u (.store (some 6) (T 14) (T 53)), o 15 (mT 54)] false)
(.seq
(.reg [o 56 (mT 0), o 57 (.fieldAddr (T 6) 0), o 58 (.load (some 3) (T 57)), o 59 (.call 35 [(T 56), (T 58)] 3), o 55 (mT 59), o 60 (.extract (T 55) 0), o 61 (.extract (T 55) 1), o 62 (.extract (T 55) 2), o 17 (.box (some 6) (.c (.agg [(.int .i64 0), (.int .i64 0), (.int .i64 0), (.int .i64 0), (.int .i64 0), .nils])) 3), o 16 (mT 60), u (.store (some 6) (T 17) (T 61)), o 18 (mT 62)] false)
(.seq
(.seq
(.reg [o 63 (mT 9), o 64 (mT 11), o 65 (.call 36 [(T 63), (T 64)] 4), o 66 (.un .not (T 65)), o 67 (mT 66), og (some 68) (mT 10) 67 false, og (some 69) (.bin .eql (T 68) (I 0)) 67 false, og (some 70) (mT 12) 67 false, og (some 71) (.eqb true (T 69) (T 70)) 67 false, o 72 (.pick (T 67) (.c (.bool true)) (T 71)), o 73 (mT 72), og (some 74) (mT 12) 73 false, og (some 75) (.un .not (T 74)) 73 false, og (some 76) (mT 75) 73 false, og (some 77) (mT 10) 76 true, og (some 78) (.bin .neq (T 77) (I 1)) 76 true, og (some 79) (.pick (T 76) (T 78) (.c (.bool false))) 73 false, o 80 (.pick (T 73) (.c (.bool true)) (T 79)), o 81 (mT 80), og (some 82) (mT 13) 81 false, og (some 83) (mT 16) 81 false, og (some 84) (.call 36 [(T 82), (T 83)] 4) 81 false, og (some 85) (.un .not (T 84)) 81 false, o 86 (.pick (T 81) (.c (.bool true)) (T 85)), o 87 (mT 86), og (some 88) (.load (some 6) (T 14)) 87 false, og (some 89) (.buildSlice (some 6) [(T 88)] 4) 87 false, og (some 90) (.load (some 6) (T 17)) 87 false, og (some 91) (.buildSlice (some 6) [(T 90)] 5) 87 false, og (some 92) (.call 36 [(T 89), (T 91)] 6) 87 false, og (some 93) (.un .not (T 92)) 87 false, o 94 (.pick (T 87) (.c (.bool true)) (T 93)), o 95 (mT 94), og (some 96) (mT 15) 95 false, og (some 97) (.bin .eql (T 96) (I 0)) 95 false, og (some 98) (mT 18) 95 false, og (some 99) (.eqb true (T 97) (T 98)) 95 false, o 100 (.pick (T 95) (.c (.bool true)) (T 99)), o 101 (mT 100), og (some 102) (mT 18) 101 false, og (some 103) (.un .not (T 102)) 101 false, og (some 104) (mT 103) 101 false, og (some 105) (mT 15) 104 true, og (some 106) (.bin .neq (T 105) (I 8)) 104 true, og (some 107) (.pick (T 104) (T 106) (.c (.bool false))) 101 false, o 108 (.pick (T 101) (.c (.bool true)) (T 107))] false)
(.cond (T 108)
(.seq
(.reg [o 8 (.mov (.c (.bool false)))] false)
.ret)
.skip))
(.seq
(.reg [w 109 (mT 0) [], w 110 (.call 37 [(T 109)] 6) [0], w 111 (mT 0) [], w 112 (.call 38 [(T 111)] 6) [0, 1, 2], w 113 (.eqb false (T 110) (T 112)) [0, 1, 2, 3], w 114 (mT 113) [0, 1, 2, 3, 4], ⟨(some 115), .mov (T 0), (some (114, true)), [0, 1, 2, 3, 4, 5]⟩, ⟨(some 116), .fieldAddr (T 6) 0, (some (114, true)), [0, 1, 2, 3, 4, 5]⟩, ⟨(some 117), .load (some 3) (T 116), (some (114, true)), [0, 1, 2, 3, 4, 5, 7]⟩, ⟨(some 118), .call 39 [(T 115), (T 117)] 6, (some (114, true)), [0, 1, 2, 3, 4, 5, 6, 7, 8]⟩, ⟨(some 119), .mov (T 0), (some (114, true)), [0, 1, 2, 3, 4, 5]⟩, ⟨(some 120), .fieldAddr (T 6) 0, (some (114, true)), [0, 1, 2, 3, 4, 5]⟩, ⟨(some 121), .load (some 3) (T 120), (some (114, true)), [0, 1, 2, 3, 4, 5, 11]⟩, ⟨(some 122), .call 40 [(T 119), (T 121)] 6, (some (114, true)), [0, 1, 2, 3, 4, 5, 6, 7, 8, 9, 10, 11, 12]⟩, ⟨(some 123), .bin .eql (T 118) (T 122), (some (114, true)), [0, 1, 2, 3, 4, 5, 6, 7, 8, 9, 10, 11, 12, 13]⟩, w 124 (.pick (T 114) (T 123) (.c (.bool false))) [0, 1, 2, 3, 4, 5, 6, 7, 8, 9, 10, 11, 12, 13, 14], w 125 (mT 124) [0, 1, 2, 3, 4, 5, 6, 7, 8, 9, 10, 11, 12, 13, 14, 15], ⟨(some 126), .mov (T 0), (some (125, true)), [0, 1, 2, 3, 4, 5, 6, 7, 8, 9, 10, 11, 12, 13, 14, 15, 16]⟩, ⟨(some 127), .mov (T 3), (some (125, true)), [0, 1, 2, 3, 4, 5, 6, 7, 8, 9, 10, 11, 12, 13, 14, 15, 16]⟩, ⟨(some 128), .call 41 [(T 126), (T 127)] 6, (some (125, true)), [0, 1, 2, 3, 4, 5, 6, 7, 8, 9, 10, 11, 12, 13, 14, 15, 16, 17, 18]⟩, ⟨(some 129), .mov (T 0), (some (125, true)), [0, 1, 2, 3, 4, 5, 6, 7, 8, 9, 10, 11, 12, 13, 14, 15, 16]⟩, ⟨(some 130), .mov (T 3), (some (125, true)), [0, 1, 2, 3, 4, 5, 6, 7, 8, 9, 10, 11, 12, 13, 14, 15, 16]⟩, ⟨(some 131), .call 42 [(T 129), (T 130)] 6, (some (125, true)), [0, 1, 2, 3, 4, 5, 6, 7, 8, 9, 10, 11, 12, 13, 14, 15, 16, 17, 18, 19, 20, 21]⟩, ⟨(some 132), .bin .eql (T 128) (T 131), (some (125, true)), [0, 1, 2, 3, 4, 5, 6, 7, 8, 9, 10, 11, 12, 13, 14, 15, 16, 17, 18, 19, 20, 21, 22]⟩, w 133 (.pick (T 125) (T 132) (.c (.bool false))) [0, 1, 2, 3, 4, 5, 6, 7, 8, 9, 10, 11, 12, 13, 14, 15, 16, 17, 18, 19, 20, 21, 22, 23], w 134 (mT 133) [0, 1, 2, 3, 4, 5, 6, 7, 8, 9, 10, 11, 12, 13, 14, 15, 16, 17, 18, 19, 20, 21, 22, 23, 24], ⟨(some 135), .mov (T 0), (some (134, true)), [0, 1, 2, 3, 4, 5, 6, 7, 8, 9, 10, 11, 12, 13, 14, 15, 16, 17, 18, 19, 20, 21, 22, 23, 24, 25]⟩, ⟨(some 136), .mov (T 1), (some (134, true)), [0, 1, 2, 3, 4, 5, 6, 7, 8, 9, 10, 11, 12, 13, 14, 15, 16, 17, 18, 19, 20, 21, 22, 23, 24, 25]⟩, ⟨(some 137), .call 43 [(T 135), (T 136)] 6, (some (134, true)), [0, 1, 2, 3, 4, 5, 6, 7, 8, 9, 10, 11, 12, 13, 14, 15, 16, 17, 18, 19, 20, 21, 22, 23, 24, 25, 26, 27]⟩, ⟨(some 138), .mov (T 0), (some (134, true)), [0, 1, 2, 3, 4, 5, 6, 7, 8, 9, 10, 11, 12, 13, 14, 15, 16, 17, 18, 19, 20, 21, 22, 23, 24, 25]⟩, ⟨(some 139), .mov (T 1), (some (134, true)), [0, 1, 2, 3, 4, 5, 6, 7, 8, 9, 10, 11, 12, 13, 14, 15, 16, 17, 18, 19, 20, 21, 22, 23, 24, 25]⟩, ⟨(some 140), .call 36 [(T 138), (T 139)] 6, (some (134, true)), [0, 1, 2, 3, 4, 5, 6, 7, 8, 9, 10, 11, 12, 13, 14, 15, 16, 17, 18, 19, 20, 21, 22, 23, 24, 25, 26, 27, 28, 29, 30]⟩, ⟨(some 141), .eqb false (T 137) (T 140), (some (134, true)), [0, 1, 2, 3, 4, 5, 6, 7, 8, 9, 10, 11, 12, 13, 14, 15, 16, 17, 18, 19, 20, 21, 22, 23, 24, 25, 26, 27, 28, 29, 30, 31]⟩, w 142 (.pick (T 134) (T 141) (.c (.bool false))) [0, 1, 2, 3, 4, 5, 6, 7, 8, 9, 10, 11, 12, 13, 14, 15, 16, 17, 18, 19, 20, 21, 22, 23, 24, 25, 26, 27, 28, 29, 30, 31, 32], w 143 (mT 142) [0, 1, 2, 3, 4, 5, 6, 7, 8, 9, 10, 11, 12, 13, 14, 15, 16, 17, 18, 19, 20, 21, 22, 23, 24, 25, 26, 27, 28, 29, 30, 31, 32, 33], ⟨(some 144), .mov (T 0), (some (143, true)), [0, 1, 2, 3, 4, 5, 6, 7, 8, 9, 10, 11, 12, 13, 14, 15, 16, 17, 18, 19, 20, 21, 22, 23, 24, 25, 26, 27, 28, 29, 30, 31, 32, 33, 34]⟩, ⟨(some 145), .call 312 [(T 144)] 6, (some (143, true)), [0, 1, 2, 3, 4, 5, 6, 7, 8, 9, 10, 11, 12, 13, 14, 15, 16, 17, 18, 19, 20, 21, 22, 23, 24, 25, 26, 27, 28, 29, 30, 31, 32, 33, 34, 35]⟩, ⟨(some 146), .mov (T 0), (some (143, true)), [0, 1, 2, 3, 4, 5, 6, 7, 8, 9, 10, 11, 12, 13, 14, 15, 16, 17, 18, 19, 20, 21, 22, 23, 24, 25, 26, 27, 28, 29, 30, 31, 32, 33, 34]⟩, ⟨(some 147), .call 43 [(T 145), (T 146)] 6, (some (143, true)), [0, 1, 2, 3, 4, 5, 6, 7, 8, 9, 10, 11, 12, 13, 14, 15, 16, 17, 18, 19, 20, 21, 22, 23, 24, 25, 26, 27, 28, 29, 30, 31, 32, 33, 34, 35, 36, 37]⟩, w 148 (.pick (T 143) (T 147) (.c (.bool false))) [0, 1, 2, 3, 4, 5, 6, 7, 8, 9, 10, 11, 12, 13, 14, 15, 16, 17, 18, 19, 20, 21, 22, 23, 24, 25, 26, 27, 28, 29, 30, 31, 32, 33, 34, 35, 36, 37, 38], w 149 (mT 148) [0, 1, 2, 3, 4, 5, 6, 7, 8, 9, 10, 11, 12, 13, 14, 15, 16, 17, 18, 19, 20, 21, 22, 23, 24, 25, 26, 27, 28, 29, 30, 31, 32, 33, 34, 35, 36, 37, 38, 39], ⟨(some 150), .call 31 [] 6, (some (149, true)), [0, 1, 2, 3, 4, 5, 6, 7, 8, 9, 10, 11, 12, 13, 14, 15, 16, 17, 18, 19, 20, 21, 22, 23, 24, 25, 26, 27, 28, 29, 30, 31, 32, 33, 34, 35, 36, 37, 38, 39, 40]⟩, w 151 (.pick (T 149) (T 150) (.c (.bool false))) [0, 1, 2, 3, 4, 5, 6, 7, 8, 9, 10, 11, 12, 13, 14, 15, 16, 17, 18, 19, 20, 21, 22, 23, 24, 25, 26, 27, 28, 29, 30, 31, 32, 33, 34, 35, 36, 37, 38, 39, 40, 41], w 8 (mT 151) [0, 1, 2, 3, 4, 5, 6, 7, 8, 9, 10, 11, 12, 13, 14, 15, 16, 17, 18, 19, 20, 21, 22, 23, 24, 25, 26, 27, 28, 29, 30, 31, 32, 33, 34, 35, 36, 37, 38, 39, 40, 41, 42]] true)
.ret)))))))), none⟩
def f_law8_MailActs : IFun := ⟨160, 14, true, [true], [.tmp 2],
(.seq
(.reg [o 2 (.mov (.c (.bool false)))] false)
(.seq
(.seq
(.reg [o 16 (mT 0), o 17 (.len (T 16)), o 18 (.bin .gtr (T 17) (I 40))] false)
(.cond (T 18)
(.seq
(.reg [o 19 (.call 31 [] 0), o 2 (mT 19)] false)
.ret)
.skip))
(.seq
(.reg [o 3 (.mov (.c .nils))] false)
(.seq
(.reg [o 4 (.mov (.c .nils))] false)
(.seq
(.seq
(.reg [o 5 (.mov (I 0))] false)
(.block 0
(.loop
(.seq
(.seq
(.reg [o 20 (mT 5), o 21 (mT 0), o 22 (.len (T 21)), o 23 (.bin .lss (T 20) (T 22))] false)
(.cond (T 23)
.skip
(.exit 0)))
(.seq
(.block 1
(.seq
(.reg [o 26 (mT 0), o 27 (mT 5), o 28 (.indexAddr 7 (T 26) (T 27)), o 29 (.fieldAddr (T 28) 1), o 30 (.load (some 6) (T 29)), o 6 (.box (some 6) (.c (.agg [(.int .i64 0), (.int .i64 0), (.int .i64 0), (.int .i64 0), (.int .i64 0), .nils])) 0), u (.store (some 6) (T 6) (T 30))] false)
(.seq
(.seq
(.reg [o 31 (.fieldAddr (T 6) 3), o 32 (.fieldAddr (T 31) 2), o 33 (.load none (T 32)), o 34 (.len (T 33)), o 35 (.bin .gtr (T 34) (I 6))] false)
(.cond (T 35)
(.seq
(.reg [o 36 (.call 31 [] 1), o 2 (mT 36)] false)
.ret)
.skip))
(.seq
(.reg [o 37 (mT 4), o 38 (.fieldAddr (T 6) 0), o 39 (.load (some 3) (T 38)), o 40 (.call 40 [(T 37), (T 39)] 1), o 7 (mT 40)] false)
(.seq
(.reg [o 41 (mT 3), o 42 (.call 44 [(T 41)] 1), o 8 (mT 42)] false)
(.seq
(.seq
(.reg [o 43 (mT 0), o 44 (mT 5), o 45 (.indexAddr 7 (T 43) (T 44)), o 46 (.fieldAddr (T 45) 0), o 47 (.load none (T 46)), o 48 (.bin .eql (T 47) (I 1))] false)
(.cond (T 48)
(.seq
(.reg [o 50 (mT 3), o 51 (.load (some 6) (T 6)), o 52 (.call 311 [(T 50), (T 51)] 2), o 49 (mT 52), o 53 (.extract (T 49) 0), o 54 (.extract (T 49) 1), o 9 (mT 53), o 10 (mT 54)] false)
(.seq
(.seq
(.reg [o 55 (mT 10), o 56 (.bin .eql (T 55) (I 0)), o 57 (mT 7), o 58 (.bin .lss (T 57) (I 0)), o 59 (.eqb true (T 56) (T 58)), o 60 (mT 59), og (some 61) (mT 3) 60 false, og (some 62) (mT 8) 60 false, og (some 63) (.call 43 [(T 61), (T 62)] 2) 60 false, og (some 64) (.un .not (T 63)) 60 false, o 65 (.pick (T 60) (.c (.bool true)) (T 64))] false)
(.cond (T 65)
(.seq
(.reg [o 2 (.mov (.c (.bool false)))] false)
.ret)
.skip))
(.seq
(.reg [o 66 (mT 10), o 67 (.bin .eql (T 66) (I 0))] false)
(.cond (T 67)
(.seq
(.reg [o 68 (mT 9), o 3 (mT 68)] false)
(.post
(.reg [o 69 (mT 4), o 70 (.load (some 6) (T 6)), o 71 (.buildSlice (some 6) [(T 70)] 3), o 72 (.append 6 (T 69) (T 71) 4), o 4 (mT 72)] false)
[.tmp 4 (some 2)]))
.skip))))
(.seq
(.reg [o 74 (mT 3), o 75 (.fieldAddr (T 6) 0), o 76 (.load (some 3) (T 75)), o 77 (.call 34 [(T 74), (T 76)] 5), o 73 (mT 77), o 78 (.extract (T 73) 0), o 79 (.extract (T 73) 1), o 80 (.extract (T 73) 2), o 12 (.box (some 6) (.c (.agg [(.int .i64 0), (.int .i64 0), (.int .i64 0), (.int .i64 0), (.int .i64 0), .nils])) 5), o 11 (mT 78), u (.store (some 6) (T 12) (T 79)), o 13 (mT 80)] false)
(.seq
(.seq
(.reg [o 81 (mT 13), o 82 (.bin .eql (T 81) (I 0)), o 83 (mT 7), o 84 (.bin .geq (T 83) (I 0)), o 85 (.eqb true (T 82) (T 84)), o 86 (mT 85), og (some 87) (mT 3) 86 false, og (some 88) (mT 8) 86 false, og (some 89) (.call 43 [(T 87), (T 88)] 6) 86 false, og (some 90) (.un .not (T 89)) 86 false, o 91 (.pick (T 86) (.c (.bool true)) (T 90))] false)
(.cond (T 91)
(.seq
(.reg [o 2 (.mov (.c (.bool false)))] false)
.ret)
.skip))
(.seq
(.reg [o 92 (mT 13), o 93 (.bin .eql (T 92) (I 0))] false)
(.cond (T 93)
(.seq
(.seq
(.reg [w 94 (.load (some 6) (T 12)) [], w 95 (.buildSlice (some 6) [(T 94)] 6) [0], w 96 (mT 4) [], w 97 (mT 7) [], w 98 (.indexAddr 6 (T 96) (T 97)) [2, 3], w 99 (.load (some 6) (T 98)) [2, 3, 4], w 100 (.buildSlice (some 6) [(T 99)] 7) [2, 3, 4, 5], w 101 (.call 36 [(T 95), (T 100)] 8) [0, 1, 2, 3, 4, 5, 6], w 102 (.un .not (T 101)) [0, 1, 2, 3, 4, 5, 6, 7]] true)
(.cond (T 102)
(.seq
(.reg [o 2 (.mov (.c (.bool false)))] false)
.ret)
.skip))
(.seq
(.reg [o 103 (mT 11), o 3 (mT 103)] false)
(.post
(.reg [w 104 (.buildSlice (some 6) [] 9) [], w 105 (mT 4) [], w 106 (mT 7) [], w 107 (.slice 6 (T 105) none (some (T 106)) none) [1, 2], w 108 (.append 6 (T 104) (T 107) 10) [0, 1, 2, 3], w 109 (mT 4) [], w 110 (mT 7) [], w 111 (.bin .add (T 110) (I 1)) [6], w 112 (.slice 6 (T 109) (some (T 111)) none none) [5, 6, 7], w 113 (.append 6 (T 108) (T 112) 11) [0, 1, 2, 3, 4, 5, 6, 7, 8], w 4 (mT 113) [0, 1, 2, 3, 4, 5, 6, 7, 8, 9]] true)
[.tmp 4 (some 8)])))
.skip))))))
(.seq
(.reg [o 114 (mT 3), o 115 (.call 37 [(T 114)] 12), o 116 (.un .not (T 115)), o 117 (mT 116), og (some 118) (mT 3) 117 false, og (some 119) (.len (T 118)) 117 false, og (some 120) (mT 4) 117 false, og (some 121) (.len (T 120)) 117 false, og (some 122) (.bin .neq (T 119) (T 121)) 117 false, o 123 (.pick (T 117) (.c (.bool true)) (T 122))] false)
(.cond (T 123)
(.seq
(.reg [o 2 (.mov (.c (.bool false)))] false)
.ret)
.skip))))))))
(.reg [o 24 (mT 5), o 25 (.bin .add (T 24) (I 1)), o 5 (mT 25)] false))))))
(.seq
(.seq
(.reg [o 14 (.mov (I 0))] false)
(.block 2
(.loop
(.seq
(.seq
(.reg [o 124 (mT 14), o 125 (mT 4), o 126 (.len (T 125)), o 127 (.bin .lss (T 124) (T 126))] false)
(.cond (T 127)
.skip
(.exit 2)))
(.seq
(.block 3
(.seq
(.reg [o 130 (mT 3), o 131 (mT 4), o 132 (mT 14), o 133 (.indexAddr 6 (T 131) (T 132)), o 134 (.fieldAddr (T 133) 0), o 135 (.load (some 3) (T 134)), o 136 (.call 39 [(T 130), (T 135)] 12), o 15 (mT 136)] false)
(.seq
(.reg [w 137 (mT 15) [], w 138 (.bin .lss (T 137) (I 0)) [0], w 139 (mT 138) [0, 1], ⟨(some 140), .mov (T 15), (some (139, false)), [0, 1, 2]⟩, ⟨(some 141), .mov (T 3), (some (139, false)), [0, 1, 2]⟩, ⟨(some 142), .len (T 141), (some (139, false)), [0, 1, 2, 4]⟩, ⟨(some 143), .bin .geq (T 140) (T 142), (some (139, false)), [0, 1, 2, 3, 4, 5]⟩, w 144 (.pick (T 139) (.c (.bool true)) (T 143)) [0, 1, 2, 3, 4, 5, 6], w 145 (mT 144) [0, 1, 2, 3, 4, 5, 6, 7], ⟨(some 146), .mov (T 3), (some (145, false)), [0, 1, 2, 3, 4, 5, 6, 7, 8]⟩, ⟨(some 147), .mov (T 15), (some (145, false)), [0, 1, 2, 3, 4, 5, 6, 7, 8]⟩, ⟨(some 148), .indexAddr 6 (T 146) (T 147), (some (145, false)), [0, 1, 2, 3, 4, 5, 6, 7, 8, 9, 10]⟩, ⟨(some 149), .load (some 6) (T 148), (some (145, false)), [0, 1, 2, 3, 4, 5, 6, 7, 8, 9, 10, 11]⟩, ⟨(some 150), .buildSlice (some 6) [(T 149)] 12, (some (145, false)), [0, 1, 2, 3, 4, 5, 6, 7, 8, 9, 10, 11, 12]⟩, ⟨(some 151), .mov (T 4), (some (145, false)), [0, 1, 2, 3, 4, 5, 6, 7, 8]⟩, ⟨(some 152), .mov (T 14), (some (145, false)), [0, 1, 2, 3, 4, 5, 6, 7, 8]⟩, ⟨(some 153), .indexAddr 6 (T 151) (T 152), (some (145, false)), [0, 1, 2, 3, 4, 5, 6, 7, 8, 14, 15]⟩, ⟨(some 154), .load (some 6) (T 153), (some (145, false)), [0, 1, 2, 3, 4, 5, 6, 7, 8, 14, 15, 16]⟩, ⟨(some 155), .buildSlice (some 6) [(T 154)] 13, (some (145, false)), [0, 1, 2, 3, 4, 5, 6, 7, 8, 14, 15, 16, 17]⟩, ⟨(some 156), .call 36 [(T 150), (T 155)] 14, (some (145, false)), [0, 1, 2, 3, 4, 5, 6, 7, 8, 9, 10, 11, 12, 13, 14, 15, 16, 17, 18]⟩, ⟨(some 157), .un .not (T 156), (some (145, false)), [0, 1, 2, 3, 4, 5, 6, 7, 8, 9, 10, 11, 12, 13, 14, 15, 16, 17, 18, 19]⟩, w 158 (.pick (T 145) (.c (.bool true)) (T 157)) [0, 1, 2, 3, 4, 5, 6, 7, 8, 9, 10, 11, 12, 13, 14, 15, 16, 17, 18, 19, 20]] true)
(.cond (T 158)
(.seq
(.reg [o 2 (.mov (.c (.bool false)))] false)
.ret)
.skip))))
(.reg [o 128 (mT 14), o 129 (.bin .add (T 128) (I 1)), o 14 (mT 129)] false))))))
(.seq
(.reg [o 159 (.call 31 [] 14), o 2 (mT 159)] false)
.ret))))))), none⟩
def f_law8_MailSorted : IFun := ⟨115, 4, true, [true], [.tmp 2],
(.seq
(.reg [o 2 (.mov (.c (.bool false)))] false)
(.seq
(.seq
(.reg [o 14 (mT 0), o 15 (.len (T 14)), o 16 (.bin .gtr (T 15) (I 30))] false)
(.cond (T 16)
(.seq
(.reg [o 17 (.call 31 [] 0), o 2 (mT 17)] false)
.ret)
.skip))
(.seq
(.reg [o 3 (.mov (.c .nils))] false)
(.seq
(.reg [o 18 (.mkslice 1 (.bool false) (I 30) 0), o 4 (mT 18)] false)
(.seq
(.reg [o 5 (.mov (I 0))] false)
(.seq
(.seq
(.reg [o 6 (.mov (I 0))] false)
(.block 0
(.loop
(.seq
(.seq
(.reg [o 19 (mT 6), o 20 (mT 0), o 21 (.len (T 20)), o 22 (.bin .lss (T 19) (T 21))] false)
(.cond (T 22)
.skip
(.exit 0)))
(.seq
(.block 1
(.seq
(.reg [o 25 (mT 0), o 26 (mT 6), o 27 (.indexAddr 1 (T 25) (T 26)), o 28 (.load none (T 27)), o 29 (.call 23 [(T 28), (I 30)] 1), o 7 (mT 29)] false)
(.seq
(.reg [o 31 (mT 3), o 32 (mT 7), o 33 (.call 45 [(T 32)] 1), o 34 (.call 311 [(T 31), (T 33)] 1), o 30 (mT 34), o 35 (.extract (T 30) 0), o 36 (.extract (T 30) 1), o 8 (mT 35), o 9 (mT 36)] false)
(.seq
(.seq
(.reg [o 37 (mT 9), o 38 (.bin .eql (T 37) (I 0)), o 39 (mT 4), o 40 (mT 7), o 41 (.indexAddr 1 (T 39) (T 40)), o 42 (.load none (T 41)), o 43 (.un .not (T 42)), o 44 (.eqb true (T 38) (T 43))] false)
(.cond (T 44)
(.seq
(.reg [o 2 (.mov (.c (.bool false)))] false)
.ret)
.skip))
(.seq
(.reg [o 45 (mT 9), o 46 (.bin .eql (T 45) (I 0))] false)
(.cond (T 46)
(.seq
(.reg [o 47 (mT 8), o 3 (mT 47)] false)
(.seq
(.reg [o 48 (mT 4), o 49 (mT 7), o 50 (.indexAddr 1 (T 48) (T 49)), u (.store none (T 50) (.c (.bool true)))] false)
(.reg [o 51 (mT 5), o 52 (.bin .add (T 51) (I 1)), o 5 (mT 52)] false)))
.skip))))))
(.reg [o 23 (mT 6), o 24 (.bin .add (T 23) (I 1)), o 6 (mT 24)] false))))))
(.seq
(.seq
(.reg [o 53 (mT 3), o 54 (.len (T 53)), o 55 (mT 5), o 56 (.bin .neq (T 54) (T 55)), o 57 (mT 56), og (some 58) (mT 3) 57 false, og (some 59) (.call 37 [(T 58)] 1) 57 false, og (some 60) (.un .not (T 59)) 57 false, o 61 (.pick (T 57) (.c (.bool true)) (T 60)), o 62 (mT 61), og (some 63) (mT 3) 62 false, og (some 64) (.call 41 [(T 63), (I 0)] 1) 62 false, og (some 65) (mT 3) 62 false, og (some 66) (.call 41 [(T 65), (I 1)] 1) 62 false, og (some 67) (.bin .add (T 64) (T 66)) 62 false, og (some 68) (mT 5) 62 false, og (some 69) (.bin .neq (T 67) (T 68)) 62 false, o 70 (.pick (T 62) (.c (.bool true)) (T 69))] false)
(.cond (T 70)
(.seq
(.reg [o 2 (.mov (.c (.bool false)))] false)
.ret)
.skip))
(.seq
(.seq
(.reg [o 10 (.mov (I 29))] false)
(.block 2
(.loop
(.seq
(.seq
(.reg [o 71 (mT 10), o 72 (.bin .geq (T 71) (I 0))] false)
(.cond (T 72)
.skip
(.exit 2)))
(.seq
(.block 3
(.seq
(.reg [o 76 (mT 3), o 77 (mT 10), o 78 (.call 45 [(T 77)] 1), o 79 (.field (some 3) (T 78) 0), o 80 (.call 34 [(T 76), (T 79)] 1), o 75 (mT 80), o 81 (.extract (T 75) 0), o 82 (.extract (T 75) 1), o 83 (.extract (T 75) 2), o 12 (.box (some 6) (.c (.agg [(.int .i64 0), (.int .i64 0), (.int .i64 0), (.int .i64 0), (.int .i64 0), .nils])) 1), o 11 (mT 81), u (.store (some 6) (T 12) (T 82)), o 13 (mT 83)] false)
(.seq
(.seq
(.reg [o 84 (mT 13), o 85 (.bin .eql (T 84) (I 0)), o 86 (mT 4), o 87 (mT 10), o 88 (.indexAddr 1 (T 86) (T 87)), o 89 (.load none (T 88)), o 90 (.eqb true (T 85) (T 89))] false)
(.cond (T 90)
(.seq
(.reg [o 2 (.mov (.c (.bool false)))] false)
.ret)
.skip))
(.seq
(.reg [o 91 (mT 13), o 92 (.bin .eql (T 91) (I 0))] false)
(.cond (T 92)
(.seq
(.seq
(.reg [w 93 (.load (some 6) (T 12)) [], w 94 (.buildSlice (some 6) [(T 93)] 2) [0], w 95 (mT 10) [], w 96 (.call 45 [(T 95)] 3) [2], w 97 (.buildSlice (some 6) [(T 96)] 3) [2, 3], w 98 (.call 43 [(T 94), (T 97)] 4) [0, 1, 2, 3, 4], w 99 (.un .not (T 98)) [0, 1, 2, 3, 4, 5], w 100 (mT 99) [0, 1, 2, 3, 4, 5, 6], ⟨(some 101), .mov (T 11), (some (100, false)), [0, 1, 2, 3, 4, 5, 6, 7]⟩, ⟨(some 102), .len (T 101), (some (100, false)), [0, 1, 2, 3, 4, 5, 6, 7, 8]⟩, ⟨(some 103), .mov (T 3), (some (100, false)), [0, 1, 2, 3, 4, 5, 6, 7]⟩, ⟨(some 104), .len (T 103), (some (100, false)), [0, 1, 2, 3, 4, 5, 6, 7, 10]⟩, ⟨(some 105), .bin .sub (T 104) (I 1), (some (100, false)), [0, 1, 2, 3, 4, 5, 6, 7, 10, 11]⟩, ⟨(some 106), .bin .neq (T 102) (T 105), (some (100, false)), [0, 1, 2, 3, 4, 5, 6, 7, 8, 9, 10, 11, 12]⟩, w 107 (.pick (T 100) (.c (.bool true)) (T 106)) [0, 1, 2, 3, 4, 5, 6, 7, 8, 9, 10, 11, 12, 13]] true)
(.cond (T 107)
(.seq
(.reg [o 2 (.mov (.c (.bool false)))] false)
.ret)
.skip))
(.reg [o 108 (mT 11), o 3 (mT 108)] false))
.skip)))))
(.reg [o 73 (mT 10), o 74 (.bin .sub (T 73) (I 1)), o 10 (mT 74)] false))))))
(.seq
(.reg [o 109 (mT 3), o 110 (.len (T 109)), o 111 (.bin .eql (T 110) (I 0)), o 112 (mT 111), og (some 113) (.call 31 [] 4) 112 true, o 114 (.pick (T 112) (T 113) (.c (.bool false))), o 2 (mT 114)] false)
.ret))))))))), none⟩
def f_alike_Round : IFun := ⟨12, 0, true, [true, true], [.tmp 4],
(.seq
(.reg [o 4 (.mov (I 0))] false)
(.seq
(.reg [o 5 (mT 0), o 6 (mT 1), o 7 (.bin .rem (T 5) (T 6)), o 8 (mT 1), o 9 (.bin .add (T 7) (T 8)), o 10 (mT 1), o 11 (.bin .rem (T 9) (T 10)), o 4 (mT 11)] false)
.ret)), none⟩
def f_alike_Mail : IFun := ⟨25, 0, true, [true], [.tmp 2],
(.seq
(.reg [o 2 (.mov (.c (.bool false)))] false)
(.seq
(.seq
(.reg [o 3 (.mov (I 0))] false)
(.block 0
(.loop
(.seq
(.seq
(.reg [o 4 (mT 3), o 5 (mT 0), o 6 (.len (T 5)), o 7 (.bin .lss (T 4) (T 6)), o 8 (mT 7), og (some 9) (mT 3) 8 true, og (some 10) (.bin .lss (T 9) (I 60)) 8 true, o 11 (.pick (T 8) (T 10) (.c (.bool false)))] false)
(.cond (T 11)
.skip
(.exit 0)))
(.seq
(.block 1
(.seq
(.reg [o 14 (mT 0), o 15 (mT 3), o 16 (.indexAddr 6 (T 14) (T 15)), o 17 (.fieldAddr (T 16) 3), o 18 (.fieldAddr (T 17) 2), o 19 (.load none (T 18)), o 20 (.len (T 19)), o 21 (.bin .gtr (T 20) (I 6))] false)
(.cond (T 21)
(.seq
(.reg [o 2 (.mov (.c (.bool false)))] false)
.ret)
.skip)))
(.reg [o 12 (mT 3), o 13 (.bin .add (T 12) (I 1)), o 3 (mT 13)] false))))))
(.seq
(.reg [o 22 (mT 0), o 23 (.len (T 22)), o 24 (.bin .leq (T 23) (I 50)), o 2 (mT 24)] false)
.ret))), none⟩
def f_law8_awake : IFun := ⟨103, 5, true, [], [.tmp 0],
(.seq
(.reg [o 0 (.mov (.c (.bool false)))] false)
(.seq
(.reg [o 14 (.call 45 [(I 4)] 0), o 15 (.call 32 [(.c .nils), (T 14)] 0), o 13 (mT 15), o 16 (.extract (T 13) 0), o 17 (.extract (T 13) 1), o 1 (mT 16), o 2 (mT 17)] false)
(.seq
(.reg [o 19 (mT 1), o 20 (.call 45 [(I 1)] 1), o 21 (.call 32 [(T 19), (T 20)] 1), o 18 (mT 21), o 22 (.extract (T 18) 0), o 23 (.extract (T 18) 1), o 3 (mT 22), o 4 (mT 23)] false)
(.seq
(.reg [o 25 (mT 3), o 26 (.call 45 [(I 4)] 2), o 27 (.call 32 [(T 25), (T 26)] 2), o 24 (mT 27), o 28 (.extract (T 24) 0), o 29 (.extract (T 24) 1), o 5 (mT 28), o 6 (mT 29)] false)
(.seq
(.reg [o 31 (mT 3), o 32 (.call 45 [(I 1)] 3), o 33 (.field (some 3) (T 32) 0), o 34 (.call 34 [(T 31), (T 33)] 3), o 30 (mT 34), o 35 (.extract (T 30) 0), o 36 (.extract (T 30) 1), o 37 (.extract (T 30) 2), o 8 (.box (some 6) (.c (.agg [(.int .i64 0), (.int .i64 0), (.int .i64 0), (.int .i64 0), (.int .i64 0), .nils])) 3), o 7 (mT 35), u (.store (some 6) (T 8) (T 36)), o 9 (mT 37)] false)
(.seq
(.reg [o 39 (mT 1), o 40 (.call 45 [(I 1)] 4), o 41 (.field (some 3) (T 40) 0), o 42 (.call 34 [(T 39), (T 41)] 4), o 38 (mT 42), o 43 (.extract (T 38) 0), o 44 (.extract (T 38) 1), o 45 (.extract (T 38) 2), o 11 (.box (some 6) (.c (.agg [(.int .i64 0), (.int .i64 0), (.int .i64 0), (.int .i64 0), (.int .i64 0), .nils])) 4), o 10 (mT 43), u (.store (some 6) (T 11) (T 44)), o 12 (mT 45)] false)
(.seq
(.reg [o 46 (mT 2), o 47 (.bin .eql (T 46) (I 0)), o 48 (mT 47), og (some 49) (mT 4) 48 true, og (some 50) (.bin .eql (T 49) (I 0)) 48 true, o 51 (.pick (T 48) (T 50) (.c (.bool false))), o 52 (mT 51), og (some 53) (mT 6) 52 true, og (some 54) (.bin .eql (T 53) (I 1)) 52 true, o 55 (.pick (T 52) (T 54) (.c (.bool false))), o 56 (mT 55), og (some 57) (mT 9) 56 true, og (some 58) (.bin .eql (T 57) (I 0)) 56 true, o 59 (.pick (T 56) (T 58) (.c (.bool false))), o 60 (mT 59), og (some 61) (mT 12) 60 true, og (some 62) (.bin .eql (T 61) (I 8)) 60 true, o 63 (.pick (T 60) (T 62) (.c (.bool false))), o 64 (mT 63), og (some 65) (mT 3) 64 true, og (some 66) (.len (T 65)) 64 true, og (some 67) (.bin .eql (T 66) (I 2)) 64 true, o 68 (.pick (T 64) (T 67) (.c (.bool false))), o 69 (mT 68), og (some 70) (mT 3) 69 true, og (some 71) (.call 37 [(T 70)] 5) 69 true, o 72 (.pick (T 69) (T 71) (.c (.bool false))), o 73 (mT 72), og (some 74) (mT 7) 73 true, og (some 75) (mT 1) 73 true, og (some 76) (.call 43 [(T 74), (T 75)] 5) 73 true, o 77 (.pick (T 73) (T 76) (.c (.bool false))), o 78 (mT 77), og (some 79) (.fieldAddr (T 8) 3) 78 true, og (some 80) (.fieldAddr (T 79) 0) 78 true, og (some 81) (.load none (T 80)) 78 true, og (some 82) (.bin .eql (T 81) (I 1)) 78 true, o 83 (.pick (T 78) (T 82) (.c (.bool false))), o 84 (mT 83), og (some 85) (mT 3) 84 true, og (some 86) (.call 45 [(I 4)] 5) 84 true, og (some 87) (.field (some 3) (T 86) 0) 84 true, og (some 88) (.call 39 [(T 85), (T 87)] 5) 84 true, og (some 89) (.bin .eql (T 88) (I 1)) 84 true, o 90 (.pick (T 84) (T 89) (.c (.bool false))), o 91 (mT 90), og (some 92) (mT 1) 91 true, og (some 93) (.call 45 [(I 1)] 5) 91 true, og (some 94) (.field (some 3) (T 93) 0) 91 true, og (some 95) (.call 39 [(T 92), (T 94)] 5) 91 true, og (some 96) (.bin .eql (T 95) (I (-1))) 91 true, o 97 (.pick (T 91) (T 96) (.c (.bool false))), o 98 (mT 97), og (some 99) (mT 3) 98 true, og (some 100) (.call 41 [(T 99), (I 0)] 5) 98 true, og (some 101) (.bin .eql (T 100) (I 1)) 98 true, o 102 (.pick (T 98) (T 101) (.c (.bool false))), o 0 (mT 102)] false)
.ret))))))), none⟩
def f_mail_Put : IFun := ⟨26, 4, false, [true, true], [.tmp 4, .tmp 5],
(.seq
(.reg [o 3 (.box (some 6) (T 1) 0), o 4 (.mov (.c .nils)), o 5 (.mov (I 0))] false)
(.seq
(.seq
(.reg [o 7 (mT 0), o 8 (.fieldAddr (T 3) 0), o 9 (.load (some 3) (T 8)), o 10 (.call 39 [(T 7), (T 9)] 1), o 11 (.bin .geq (T 10) (I 0))] false)
(.cond (T 11)
(.seq
(.reg [o 4 (.mov (.c .nils)), o 5 (.mov (I 1))] false)
.ret)
.skip))
(.seq
(.reg [o 12 (mT 0), o 13 (.mkfn 74 [(T 3)]), o 14 (.call 73 [(T 12), (T 13)] 1), o 6 (mT 14)] false)
(.seq
(.seq
(.reg [o 15 (mT 6), o 16 (.bin .lss (T 15) (I 0))] false)
(.cond (T 16)
(.reg [o 17 (mT 0), o 18 (.len (T 17)), o 6 (mT 18)] false)
.skip))
(.seq
(.reg [w 19 (mT 0) [], w 20 (.call 44 [(T 19)] 1) [0], w 21 (mT 6) [], w 22 (.load (some 6) (T 3)) [], w 23 (.call 77 [(T 22)] 2) [0, 1, 3], w 24 (.buildSlice (some 6) [(T 23)] 2) [0, 1, 3, 4], w 25 (.call 76 [(T 20), (T 21), (T 24)] 3) [0, 1, 2, 3, 4, 5], w 4 (mT 25) [0, 1, 2, 3, 4, 5, 6], w 5 (.mov (I 0)) [0, 1, 2, 3, 4, 5, 6, 7]] true)
.ret))))), none⟩
def f_ref7_Put : IFun := ⟨40, 6, true, [true, true], [.tmp 4, .tmp 5],
(.seq
(.reg [o 3 (.box (some 6) (T 1) 0), o 4 (.mov (.c .nils)), o 5 (.mov (.c (.bool false)))] false)
(.seq
(.seq
(.reg [o 7 (mT 0), o 8 (.fieldAddr (T 3) 0), o 9 (.load (some 3) (T 8)), o 10 (.call 40 [(T 7), (T 9)] 1), o 11 (.bin .geq (T 10) (I 0))] false)
(.cond (T 11)
(.seq
(.reg [o 4 (.mov (.c .nils)), o 5 (.mov (.c (.bool false)))] false)
.ret)
.skip))
(.seq
(.reg [o 6 (.mov (I 0))] false)
(.seq
(.block 0
(.loop
(.seq
(.seq
(.reg [w 12 (mT 6) [], w 13 (mT 0) [], w 14 (.len (T 13)) [1], w 15 (.bin .lss (T 12) (T 14)) [0, 1, 2], w 16 (mT 15) [0, 1, 2, 3], ⟨(some 17), .mov (T 0), (some (16, true)), [0, 1, 2, 3, 4]⟩, ⟨(some 18), .mov (T 6), (some (16, true)), [0, 1, 2, 3, 4]⟩, ⟨(some 19), .indexAddr 6 (T 17) (T 18), (some (16, true)), [0, 1, 2, 3, 4, 5, 6]⟩, ⟨(some 20), .fieldAddr (T 19) 0, (some (16, true)), [0, 1, 2, 3, 4, 5, 6, 7]⟩, ⟨(some 21), .load (some 3) (T 20), (some (16, true)), [0, 1, 2, 3, 4, 5, 6, 7, 8]⟩, ⟨(some 22), .fieldAddr (T 3) 0, (some (16, true)), [0, 1, 2, 3, 4]⟩, ⟨(some 23), .load (some 3) (T 22), (some (16, true)), [0, 1, 2, 3, 4, 10]⟩, ⟨(some 24), .call 78 [(T 21), (T 23)] 1, (some (16, true)), [0, 1, 2, 3, 4, 5, 6, 7, 8, 9, 10, 11]⟩, w 25 (.pick (T 16) (T 24) (.c (.bool false))) [0, 1, 2, 3, 4, 5, 6, 7, 8, 9, 10, 11, 12]] true)
(.cond (T 25)
.skip
(.exit 0)))
(.block 1
(.reg [o 26 (mT 6), o 27 (.bin .add (T 26) (I 1)), o 6 (mT 27)] false)))))
(.seq
(.reg [w 28 (.buildSlice (some 6) [] 1) [], w 29 (mT 0) [], w 30 (mT 6) [], w 31 (.slice 6 (T 29) none (some (T 30)) none) [1, 2], w 32 (.append 6 (T 28) (T 31) 2) [0, 1, 2, 3], w 33 (.load (some 6) (T 3)) [], w 34 (.buildSlice (some 6) [(T 33)] 3) [5], w 35 (.append 6 (T 32) (T 34) 4) [0, 1, 2, 3, 4, 5, 6], w 36 (mT 0) [], w 37 (mT 6) [], w 38 (.slice 6 (T 36) (some (T 37)) none none) [8, 9], w 39 (.append 6 (T 35) (T 38) 5) [0, 1, 2, 3, 4, 5, 6, 7, 8, 9, 10], w 4 (mT 39) [0, 1, 2, 3, 4, 5, 6, 7, 8, 9, 10, 11], w 5 (.mov (.c (.bool true))) [0, 1, 2, 3, 4, 5, 6, 7, 8, 9, 10, 11, 12]] true)
.ret))))), none⟩
def f_mail_Take : IFun := ⟨25, 4, true, [true, true], [.tmp 4, .cell (some 6) 5, .tmp 6],
(.seq
(.reg [o 3 (.box (some 3) (T 1) 0), o 4 (.mov (.c .nils)), o 5 (.box (some 6) (.c (.agg [(.int .i64 0), (.int .i64 0), (.int .i64 0), (.int .i64 0), (.int .i64 0), .nils])) 1), o 6 (.mov (I 0))] false)
(.seq
(.reg [o 8 (mT 0), o 9 (.load (some 3) (T 3)), o 10 (.call 39 [(T 8), (T 9)] 2), o 7 (mT 10)] false)
(.seq
(.seq
(.reg [o 11 (mT 7), o 12 (.bin .lss (T 11) (I 0))] false)
(.cond (T 12)
(.seq
(.reg [o 13 (.build [(.int .i64 0), (.int .i64 0), (.int .i64 0), (.int .i64 0), (.int .i64 0), .nils] []), o 4 (.mov (.c .nils)), u (.store (some 6) (T 5) (T 13)), o 6 (.mov (I 8))] false)
.ret)
.skip))
(.seq
(.reg [w 14 (mT 0) [], w 15 (.call 44 [(T 14)] 2) [0], w 16 (mT 7) [], w 17 (mT 7) [], w 18 (.bin .add (T 17) (I 1)) [3], w 19 (.call 79 [(T 15), (T 16), (T 18)] 3) [0, 1, 2, 3, 4], w 20 (mT 0) [], w 21 (mT 7) [], w 22 (.indexAddr 6 (T 20) (T 21)) [6, 7], w 23 (.load (some 6) (T 22)) [6, 7, 8], w 24 (.call 77 [(T 23)] 4) [0, 1, 2, 3, 4, 5, 6, 7, 8, 9], w 4 (mT 19) [0, 1, 2, 3, 4, 5, 6, 7, 8, 9, 10], ⟨none, .store (some 6) (T 5) (T 24), none, [0, 1, 2, 3, 4, 5, 6, 7, 8, 9, 10, 11]⟩, w 6 (.mov (I 0)) [0, 1, 2, 3, 4, 5, 6, 7, 8, 9, 10, 11, 12]] true)
.ret)))), none⟩
def f_ref7_Take : IFun := ⟨28, 5, true, [true, true], [.tmp 4, .cell (some 6) 5, .tmp 6],
(.seq
(.reg [o 3 (.box (some 3) (T 1) 0), o 4 (.mov (.c .nils)), o 5 (.box (some 6) (.c (.agg [(.int .i64 0), (.int .i64 0), (.int .i64 0), (.int .i64 0), (.int .i64 0), .nils])) 1), o 6 (.mov (.c (.bool false)))] false)
(.seq
(.reg [o 8 (mT 0), o 9 (.load (some 3) (T 3)), o 10 (.call 40 [(T 8), (T 9)] 2), o 7 (mT 10)] false)
(.seq
(.seq
(.reg [o 11 (mT 7), o 12 (.bin .lss (T 11) (I 0))] false)
(.cond (T 12)
(.seq
(.reg [o 13 (.build [(.int .i64 0), (.int .i64 0), (.int .i64 0), (.int .i64 0), (.int .i64 0), .nils] []), o 4 (.mov (.c .nils)), u (.store (some 6) (T 5) (T 13)), o 6 (.mov (.c (.bool false)))] false)
.ret)
.skip))
(.seq
(.reg [w 14 (.buildSlice (some 6) [] 2) [], w 15 (mT 0) [], w 16 (mT 7) [], w 17 (.slice 6 (T 15) none (some (T 16)) none) [1, 2], w 18 (.append 6 (T 14) (T 17) 3) [0, 1, 2, 3], w 19 (mT 0) [], w 20 (mT 7) [], w 21 (.bin .add (T 20) (I 1)) [6], w 22 (.slice 6 (T 19) (some (T 21)) none none) [5, 6, 7], w 23 (.append 6 (T 18) (T 22) 4) [0, 1, 2, 3, 4, 5, 6, 7, 8], w 24 (mT 0) [], w 25 (mT 7) [], w 26 (.indexAddr 6 (T 24) (T 25)) [10, 11], w 27 (.load (some 6) (T 26)) [10, 11, 12], w 4 (mT 23) [0, 1, 2, 3, 4, 5, 6, 7, 8, 9], ⟨none, .store (some 6) (T 5) (T 27), none, [0, 1, 2, 3, 4, 5, 6, 7, 8, 9, 10, 11, 12, 13, 14]⟩, w 6 (.mov (.c (.bool true))) [0, 1, 2, 3, 4, 5, 6, 7, 8, 9, 10, 11, 12, 13, 14, 15]] true)
.ret)))), none⟩
def f_ref7_SameMail : IFun := ⟨42, 0, true, [true, true], [.tmp 4],
(.seq
(.reg [o 4 (.mov (.c (.bool false)))] false)
(.seq
(.seq
(.reg [o 6 (mT 0), o 7 (.len (T 6)), o 8 (mT 1), o 9 (.len (T 8)), o 10 (.bin .neq (T 7) (T 9))] false)
(.cond (T 10)
(.seq
(.reg [o 4 (.mov (.c (.bool false)))] false)
.ret)
.skip))
(.seq
(.seq
(.reg [o 5 (.mov (I 0))] false)
(.block 0
(.loop
(.seq
(.seq
(.reg [o 11 (mT 5), o 12 (mT 0), o 13 (.len (T 12)), o 14 (.bin .lss (T 11) (T 13))] false)
(.cond (T 14)
.skip
(.exit 0)))
(.seq
(.block 1
(.seq
(.reg [w 17 (mT 0) [], w 18 (mT 5) [], w 19 (.indexAddr 6 (T 17) (T 18)) [0, 1], w 20 (.fieldAddr (T 19) 0) [0, 1, 2], w 21 (.load (some 3) (T 20)) [0, 1, 2, 3], w 22 (mT 1) [], w 23 (mT 5) [], w 24 (.indexAddr 6 (T 22) (T 23)) [5, 6], w 25 (.fieldAddr (T 24) 0) [5, 6, 7], w 26 (.load (some 3) (T 25)) [5, 6, 7, 8], w 27 (.eqs true [false, false, false] (T 21) (T 26)) [0, 1, 2, 3, 4, 5, 6, 7, 8, 9], w 28 (mT 27) [0, 1, 2, 3, 4, 5, 6, 7, 8, 9, 10], ⟨(some 29), .mov (T 0), (some (28, false)), [0, 1, 2, 3, 4, 5, 6, 7, 8, 9, 10, 11]⟩, ⟨(some 30), .mov (T 5), (some (28, false)), [0, 1, 2, 3, 4, 5, 6, 7, 8, 9, 10, 11]⟩, ⟨(some 31), .indexAddr 6 (T 29) (T 30), (some (28, false)), [0, 1, 2, 3, 4, 5, 6, 7, 8, 9, 10, 11, 12, 13]⟩, ⟨(some 32), .fieldAddr (T 31) 3, (some (28, false)), [0, 1, 2, 3, 4, 5, 6, 7, 8, 9, 10, 11, 12, 13, 14]⟩, ⟨(some 33), .load (some 3) (T 32), (some (28, false)), [0, 1, 2, 3, 4, 5, 6, 7, 8, 9, 10, 11, 12, 13, 14, 15]⟩, ⟨(some 34), .mov (T 1), (some (28, false)), [0, 1, 2, 3, 4, 5, 6, 7, 8, 9, 10, 11]⟩, ⟨(some 35), .mov (T 5), (some (28, false)), [0, 1, 2, 3, 4, 5, 6, 7, 8, 9, 10, 11]⟩, ⟨(some 36), .indexAddr 6 (T 34) (T 35), (some (28, false)), [0, 1, 2, 3, 4, 5, 6, 7, 8, 9, 10, 11, 17, 18]⟩, ⟨(some 37), .fieldAddr (T 36) 3, (some (28, false)), [0, 1, 2, 3, 4, 5, 6, 7, 8, 9, 10, 11, 17, 18, 19]⟩, ⟨(some 38), .load (some 3) (T 37), (some (28, false)), [0, 1, 2, 3, 4, 5, 6, 7, 8, 9, 10, 11, 17, 18, 19, 20]⟩, ⟨(some 39), .call 80 [(T 33), (T 38)] 0, (some (28, false)), [0, 1, 2, 3, 4, 5, 6, 7, 8, 9, 10, 11, 12, 13, 14, 15, 16, 17, 18, 19, 20, 21]⟩, ⟨(some 40), .un .not (T 39), (some (28, false)), [0, 1, 2, 3, 4, 5, 6, 7, 8, 9, 10, 11, 12, 13, 14, 15, 16, 17, 18, 19, 20, 21, 22]⟩, w 41 (.pick (T 28) (.c (.bool true)) (T 40)) [0, 1, 2, 3, 4, 5, 6, 7, 8, 9, 10, 11, 12, 13, 14, 15, 16, 17, 18, 19, 20, 21, 22, 23]] true)
(.cond (T 41)
(.seq
(.reg [o 4 (.mov (.c (.bool false)))] false)
.ret)
.skip)))
(.reg [o 15 (mT 5), o 16 (.bin .add (T 15) (I 1)), o 5 (mT 16)] false))))))
(.seq
(.reg [o 4 (.mov (.c (.bool true)))] false)
.ret)))), none⟩
def f_mail_Sorted : IFun := ⟨27, 0, true, [true], [.tmp 2],
(.seq
(.reg [o 2 (.mov (.c (.bool false)))] false)
(.seq
(.seq
(.reg [o 4 (mT 0), o 5 (.len (T 4)), o 6 (.mov (I 0))] false)
(.block 0
(.loop
(.seq
(.reg [o 7 (.bin .lss (T 6) (T 5))] false)
(.seq
(.cond (T 7)
.skip
(.exit 0))
(.seq
(.block 1
(.seq
(.reg [o 8 (mT 6), o 3 (mT 8)] false)
(.seq
(.reg [w 9 (mT 3) [], w 10 (.bin .gtr (T 9) (I 0)) [0], w 11 (mT 10) [0, 1], ⟨(some 12), .mov (T 0), (some (11, true)), [0, 1, 2]⟩, ⟨(some 13), .mov (T 3), (some (11, true)), [0, 1, 2]⟩, ⟨(some 14), .bin .sub (T 13) (I 1), (some (11, true)), [0, 1, 2, 4]⟩, ⟨(some 15), .indexAddr 6 (T 12) (T 14), (some (11, true)), [0, 1, 2, 3, 4, 5]⟩, ⟨(some 16), .fieldAddr (T 15) 0, (some (11, true)), [0, 1, 2, 3, 4, 5, 6]⟩, ⟨(some 17), .load (some 3) (T 16), (some (11, true)), [0, 1, 2, 3, 4, 5, 6, 7]⟩, ⟨(some 18), .mov (T 0), (some (11, true)), [0, 1, 2]⟩, ⟨(some 19), .mov (T 3), (some (11, true)), [0, 1, 2]⟩, ⟨(some 20), .indexAddr 6 (T 18) (T 19), (some (11, true)), [0, 1, 2, 9, 10]⟩, ⟨(some 21), .fieldAddr (T 20) 0, (some (11, true)), [0, 1, 2, 9, 10, 11]⟩, ⟨(some 22), .load (some 3) (T 21), (some (11, true)), [0, 1, 2, 9, 10, 11, 12]⟩, ⟨(some 23), .call 75 [(T 17), (T 22)] 0, (some (11, true)), [0, 1, 2, 3, 4, 5, 6, 7, 8, 9, 10, 11, 12, 13]⟩, ⟨(some 24), .un .not (T 23), (some (11, true)), [0, 1, 2, 3, 4, 5, 6, 7, 8, 9, 10, 11, 12, 13, 14]⟩, w 25 (.pick (T 11) (T 24) (.c (.bool false))) [0, 1, 2, 3, 4, 5, 6, 7, 8, 9, 10, 11, 12, 13, 14, 15]] true)
(.cond (T 25)
(.seq
(.reg [o 2 (.mov (.c (.bool false)))] false)
.ret)
.skip))))
(.reg [o 26 (.bin .add (T 6) (I 1)), o 6 (mT 26)] false)))))))
(.seq
(.reg [o 2 (.mov (.c (.bool true)))] false)
.ret))), none⟩
def f_ref7_Sorted : IFun := ⟨23, 0, true, [true], [.tmp 2],
(.seq
(.reg [o 2 (.mov (.c (.bool false)))] false)
(.seq
(.seq
(.reg [o 3 (.mov (I 1))] false)
(.block 0
(.loop
(.seq
(.seq
(.reg [o 4 (mT 3), o 5 (mT 0), o 6 (.len (T 5)), o 7 (.bin .lss (T 4) (T 6))] false)
(.cond (T 7)
.skip
(.exit 0)))
(.seq
(.block 1
(.seq
(.reg [w 10 (mT 0) [], w 11 (mT 3) [], w 12 (.bin .sub (T 11) (I 1)) [1], w 13 (.indexAddr 6 (T 10) (T 12)) [0, 1, 2], w 14 (.fieldAddr (T 13) 0) [0, 1, 2, 3], w 15 (.load (some 3) (T 14)) [0, 1, 2, 3, 4], w 16 (mT 0) [], w 17 (mT 3) [], w 18 (.indexAddr 6 (T 16) (T 17)) [6, 7], w 19 (.fieldAddr (T 18) 0) [6, 7, 8], w 20 (.load (some 3) (T 19)) [6, 7, 8, 9], w 21 (.call 78 [(T 15), (T 20)] 0) [0, 1, 2, 3, 4, 5, 6, 7, 8, 9, 10], w 22 (.un .not (T 21)) [0, 1, 2, 3, 4, 5, 6, 7, 8, 9, 10, 11]] true)
(.cond (T 22)
(.seq
(.reg [o 2 (.mov (.c (.bool false)))] false)
.ret)
.skip)))
(.reg [o 8 (mT 3), o 9 (.bin .add (T 8) (I 1)), o 3 (mT 9)] false))))))
(.seq
(.reg [o 2 (.mov (.c (.bool true)))] false)
.ret))), none⟩
def f_mail_Find : IFun := ⟨8, 1, true, [true, true], [.tmp 4],
(.seq
(.reg [o 3 (.box (some 3) (T 1) 0), o 4 (.mov (I 0))] false)
(.seq
(.reg [o 5 (mT 0), o 6 (.mkfn 81 [(T 3)]), o 7 (.call 73 [(T 5), (T 6)] 1), o 4 (mT 7)] false)
.ret)), none⟩
def f_ref7_FindID : IFun := ⟨20, 1, true, [true, true], [.tmp 4],
(.seq
(.reg [o 3 (.box (some 3) (T 1) 0), o 4 (.mov (I 0))] false)
(.seq
(.seq
(.reg [o 5 (.mov (I 0))] false)
(.block 0
(.loop
(.seq
(.seq
(.reg [o 6 (mT 5), o 7 (mT 0), o 8 (.len (T 7)), o 9 (.bin .lss (T 6) (T 8))] false)
(.cond (T 9)
.skip
(.exit 0)))
(.seq
(.block 1
(.seq
(.reg [w 12 (mT 0) [], w 13 (mT 5) [], w 14 (.indexAddr 6 (T 12) (T 13)) [0, 1], w 15 (.fieldAddr (T 14) 0) [0, 1, 2], w 16 (.load (some 3) (T 15)) [0, 1, 2, 3], w 17 (.load (some 3) (T 3)) [], w 18 (.eqs false [false, false, false] (T 16) (T 17)) [0, 1, 2, 3, 4, 5]] true)
(.cond (T 18)
(.seq
(.reg [o 19 (mT 5), o 4 (mT 19)] false)
.ret)
.skip)))
(.reg [o 10 (mT 5), o 11 (.bin .add (T 10) (I 1)), o 5 (mT 11)] false))))))
(.seq
(.reg [o 4 (.mov (I (-1)))] false)
.ret))), none⟩
def f_mail_To : IFun := ⟨22, 1, true, [true, true], [.tmp 4],
(.seq
(.reg [o 4 (.mov (I 0))] false)
(.seq
(.seq
(.reg [o 7 (mT 0), o 8 (.len (T 7)), o 9 (.mov (I 0))] false)
(.block 0
(.loop
(.seq
(.reg [o 10 (.bin .lss (T 9) (T 8))] false)
(.seq
(.cond (T 10)
.skip
(.exit 0))
(.seq
(.block 1
(.seq
(.reg [o 11 (.indexAddr 6 (T 7) (T 9)), o 12 (.load (some 6) (T 11)), o 6 (.box (some 6) (.c (.agg [(.int .i64 0), (.int .i64 0), (.int .i64 0), (.int .i64 0), (.int .i64 0), .nils])) 0), u (.store (some 6) (T 6) (T 12))] false)
(.seq
(.reg [o 13 (.fieldAddr (T 6) 3), o 14 (.fieldAddr (T 13) 0), o 15 (.load none (T 14)), o 16 (mT 1), o 17 (.bin .eql (T 15) (T 16))] false)
(.cond (T 17)
(.reg [o 18 (mT 4), o 19 (.bin .add (T 18) (I 1)), o 4 (mT 19)] false)
.skip))))
(.reg [o 20 (.bin .add (T 9) (I 1)), o 9 (mT 20)] false)))))))
(.seq
(.reg [o 21 (mT 4), o 4 (mT 21)] false)
.ret))), none⟩
def f_ref7_To : IFun := ⟨24, 0, true, [true, true], [.tmp 4],
(.seq
(.reg [o 4 (.mov (I 0))] false)
(.seq
(.reg [o 5 (.mov (I 0))] false)
(.seq
(.seq
(.reg [o 6 (.mov (I 0))] false)
(.block 0
(.loop
(.seq
(.seq
(.reg [o 7 (mT 6), o 8 (mT 0), o 9 (.len (T 8)), o 10 (.bin .lss (T 7) (T 9))] false)
(.cond (T 10)
.skip
(.exit 0)))
(.seq
(.block 1
(.seq
(.reg [o 13 (mT 0), o 14 (mT 6), o 15 (.indexAddr 6 (T 13) (T 14)), o 16 (.fieldAddr (T 15) 3), o 17 (.fieldAddr (T 16) 0), o 18 (.load none (T 17)), o 19 (mT 1), o 20 (.bin .eql (T 18) (T 19))] false)
(.cond (T 20)
(.reg [o 21 (mT 5), o 22 (.bin .add (T 21) (I 1)), o 5 (mT 22)] false)
.skip)))
(.reg [o 11 (mT 6), o 12 (.bin .add (T 11) (I 1)), o 6 (mT 12)] false))))))
(.seq
(.reg [o 23 (mT 5), o 4 (mT 23)] false)
.ret)))), none⟩
def f_mail_Same : IFun := ⟨8, 0, true, [true, true], [.tmp 4],
(.seq
(.reg [o 4 (.mov (.c (.bool false)))] false)
(.seq
(.reg [o 5 (mT 0), o 6 (mT 1), o 7 (.call 82 [(T 5), (T 6), (.c (.fn 83 []))] 0), o 4 (mT 7)] false)
.ret)), none⟩
def f_mail_Copy : IFun := ⟨18, 3, false, [true], [.tmp 2],
(.seq
(.reg [o 2 (.mov (.c .nils))] false)
(.seq
(.seq
(.reg [o 5 (mT 0), o 6 (.len (T 5)), o 7 (.mov (I 0))] false)
(.block 0
(.loop
(.seq
(.reg [o 8 (.bin .lss (T 7) (T 6))] false)
(.seq
(.cond (T 8)
.skip
(.exit 0))
(.seq
(.block 1
(.seq
(.reg [o 9 (.indexAddr 6 (T 5) (T 7)), o 10 (.load (some 6) (T 9)), o 4 (.box (some 6) (.c (.agg [(.int .i64 0), (.int .i64 0), (.int .i64 0), (.int .i64 0), (.int .i64 0), .nils])) 0), u (.store (some 6) (T 4) (T 10))] false)
(.reg [o 11 (mT 2), o 12 (.load (some 6) (T 4)), o 13 (.call 77 [(T 12)] 1), o 14 (.buildSlice (some 6) [(T 13)] 1), o 15 (.append 6 (T 11) (T 14) 2), o 2 (mT 15)] false)))
(.reg [o 16 (.bin .add (T 7) (I 1)), o 7 (mT 16)] false)))))))
(.seq
(.reg [o 17 (mT 2), o 2 (mT 17)] false)
.ret))), none⟩
def f_law8_message : IFun := ⟨14, 2, true, [true], [.cell (some 6) 2],
(.seq
(.reg [o 2 (.box (some 6) (.c (.agg [(.int .i64 0), (.int .i64 0), (.int .i64 0), (.int .i64 0), (.int .i64 0), .nils])) 0)] false)
(.seq
(.reg [o 3 (mT 0), o 4 (.bin .rem (T 3) (I 3)), o 5 (mT 0), o 6 (.bin .quo (T 5) (I 3)), o 7 (.build [(.int .i64 0), (.int .i64 0), (.int .i64 0)] [(0, none, (T 4)), (1, none, (T 6))]), o 8 (mT 0), o 9 (.bin .rem (T 8) (I 2)), o 10 (mT 0), o 11 (.buildSlice none [(T 10)] 1), o 12 (.build [(.int .i64 0), (.int .i64 0), .nils] [(0, none, (T 9)), (2, none, (T 11))]), o 13 (.build [(.int .i64 0), (.int .i64 0), (.int .i64 0), (.int .i64 0), (.int .i64 0), .nils] [(0, (some 3), (T 7)), (3, (some 3), (T 12))]), u (.store (some 6) (T 2) (T 13))] false)
.ret)), none⟩
def f_slices_IndexFunc_api_Message_api_Message : IFun := ⟨19, 2, true, [true, true], [.tmp 4],
(.seq
(.reg [o 4 (.mov (I 0))] false)
(.seq
(.seq
(.reg [o 6 (mT 0), o 7 (.len (T 6)), o 8 (.mov (I 0))] false)
(.block 0
(.loop
(.seq
(.reg [o 9 (.bin .lss (T 8) (T 7))] false)
(.seq
(.cond (T 9)
.skip
(.exit 0))
(.seq
(.block 1
(.seq
(.reg [o 10 (mT 8), o 5 (mT 10)] false)
(.seq
(.reg [o 11 (mT 1), o 12 (mT 0), o 13 (mT 5), o 14 (.indexAddr 6 (T 12) (T 13)), o 15 (.load (some 6) (T 14)), o 16 (.callv (T 11) [(T 15)] 0)] false)
(.cond (T 16)
(.seq
(.reg [o 17 (mT 5), o 4 (mT 17)] false)
.ret)
.skip))))
(.reg [o 18 (.bin .add (T 8) (I 1)), o 8 (mT 18)] false)))))))
(.seq
(.reg [o 4 (.mov (I (-1)))] false)
.ret))), none⟩
def f_mail_Put_1 : IFun := ⟨10, 1, true, [], [.tmp 3],
(.seq
(.reg [o 2 (.box (some 6) (T 0) 0), o 3 (.mov (.c (.bool false)))] false)
(.seq
(.reg [o 4 (.fieldAddr (T 2) 0), o 5 (.load (some 3) (T 4)), o 6 (.fieldAddr (T 1) 0), o 7 (.load (some 3) (T 6)), o 8 (.call 75 [(T 5), (T 7)] 1), o 9 (.un .not (T 8)), o 3 (mT 9)] false)
.ret)), none⟩
def f_ident_Less : IFun := ⟨9, 2, true, [true, true], [.tmp 4],
(.seq
(.reg [o 2 (.box (some 3) (T 0) 0), o 3 (.box (some 3) (T 1) 1), o 4 (.mov (.c (.bool false)))] false)
(.seq
(.reg [o 5 (.load (some 3) (T 2)), o 6 (.load (some 3) (T 3)), o 7 (.call 96 [(T 5), (T 6)] 2), o 8 (.bin .lss (T 7) (I 0)), o 4 (mT 8)] false)
.ret)), none⟩
def f_slices_Insert_api_Message_api_Message : IFun := ⟨95, 2, false, [], [.tmp 6],
(.seq
(.reg [o 6 (.mov (.c .nils))] false)
(.seq
(.reg [o 10 (mT 0), o 11 (mT 1), o 12 (.slice 6 (T 10) (some (T 11)) none none)] false)
(.seq
(.reg [o 13 (mT 2), o 14 (.len (T 13)), o 7 (mT 14)] false)
(.seq
(.seq
(.reg [o 15 (mT 7), o 16 (.bin .eql (T 15) (I 0))] false)
(.cond (T 16)
(.seq
(.reg [o 17 (mT 0), o 6 (mT 17)] false)
.ret)
.skip))
(.seq
(.reg [o 18 (mT 0), o 19 (.len (T 18)), o 8 (mT 19)] false)
(.seq
(.seq
(.reg [o 20 (mT 1), o 21 (mT 8), o 22 (.bin .eql (T 20) (T 21))] false)
(.cond (T 22)
(.seq
(.reg [o 23 (mT 0), o 24 (mT 2), o 25 (.append 6 (T 23) (T 24) 0), o 6 (mT 25)] false)
.ret)
.skip))
(.seq
(.seq
(.reg [o 26 (mT 8), o 27 (mT 7), o 28 (.bin .add (T 26) (T 27)), o 29 (mT 0), o 30 (.bad), o 31 (.bin .gtr (T 28) (T 30))] false)
(.cond (T 31)
(.seq
(.reg [o 32 (mT 0), o 33 (mT 1), o 34 (.slice 6 (T 32) none (some (T 33)) none), o 35 (mT 8), o 36 (mT 7), o 37 (.bin .add (T 35) (T 36)), o 38 (mT 1), o 39 (.bin .sub (T 37) (T 38)), o 40 (.bad), o 9 (mT 40)] false)
(.seq
(.reg [o 41 (mT 9), o 42 (mT 1), o 43 (.slice 6 (T 41) (some (T 42)) none none), o 44 (mT 2), o 45 (.copy 6 (T 43) (T 44))] false)
(.seq
(.reg [w 46 (mT 9) [], w 47 (mT 1) [], w 48 (mT 7) [], w 49 (.bin .add (T 47) (T 48)) [1, 2], w 50 (.slice 6 (T 46) (some (T 49)) none none) [0, 1, 2, 3], w 51 (mT 0) [], w 52 (mT 1) [], w 53 (.slice 6 (T 51) (some (T 52)) none none) [5, 6], w 54 (.copy 6 (T 50) (T 53)) [0, 1, 2, 3, 4, 5, 6, 7]] true)
(.seq
(.reg [o 55 (mT 9), o 6 (mT 55)] false)
.ret))))
.skip))
(.seq
(.reg [o 56 (mT 0), o 57 (mT 8), o 58 (mT 7), o 59 (.bin .add (T 57) (T 58)), o 60 (.slice 6 (T 56) none (some (T 59)) none), o 0 (mT 60)] false)
(.seq
(.seq
(.reg [o 61 (mT 2), o 62 (mT 0), o 63 (mT 1), o 64 (mT 7), o 65 (.bin .add (T 63) (T 64)), o 66 (.slice 6 (T 62) (some (T 65)) none none), o 67 (.call 97 [(T 61), (T 66)] 1), o 68 (.un .not (T 67))] false)
(.cond (T 68)
(.seq
(.reg [w 69 (mT 0) [], w 70 (mT 1) [], w 71 (mT 7) [], w 72 (.bin .add (T 70) (T 71)) [1, 2], w 73 (.slice 6 (T 69) (some (T 72)) none none) [0, 1, 2, 3], w 74 (mT 0) [], w 75 (mT 1) [], w 76 (.slice 6 (T 74) (some (T 75)) none none) [5, 6], w 77 (.copy 6 (T 73) (T 76)) [0, 1, 2, 3, 4, 5, 6, 7]] true)
(.seq
(.reg [o 78 (mT 0), o 79 (mT 1), o 80 (.slice 6 (T 78) (some (T 79)) none none), o 81 (mT 2), o 82 (.copy 6 (T 80) (T 81))] false)
(.seq
(.reg [o 83 (mT 0), o 6 (mT 83)] false)
.ret)))
.skip))
(.seq
(.reg [o 84 (mT 0), o 85 (mT 8), o 86 (.slice 6 (T 84) (some (T 85)) none none), o 87 (mT 2), o 88 (.copy 6 (T 86) (T 87))] false)
(.seq
(.reg [o 89 (mT 0), o 90 (mT 1), o 91 (.slice 6 (T 89) (some (T 90)) none none), o 92 (mT 7), o 93 (.call 98 [(T 91), (T 92)] 1)] false)
(.seq
(.reg [o 94 (mT 0), o 6 (mT 94)] false)
.ret)))))))))))), none⟩
def f_mail_own : IFun := ⟨8, 2, true, [true], [.cell (some 6) 2],
(.seq
(.reg [o 1 (.box (some 6) (T 0) 0), o 2 (.box (some 6) (.c (.agg [(.int .i64 0), (.int .i64 0), (.int .i64 0), (.int .i64 0), (.int .i64 0), .nils])) 1)] false)
(.seq
(.reg [o 3 (.fieldAddr (T 1) 3), o 4 (.load (some 3) (T 3)), o 5 (.call 99 [(T 4)] 2), o 6 (.fieldAddr (T 1) 3), u (.store (some 3) (T 6) (T 5))] false)
(.seq
(.reg [o 7 (.load (some 6) (T 1)), u (.store (some 6) (T 2) (T 7))] false)
.ret))), none⟩
def f_ref7_Less : IFun := ⟨32, 2, true, [true, true], [.tmp 4],
(.seq
(.reg [o 2 (.box (some 3) (T 0) 0), o 3 (.box (some 3) (T 1) 1), o 4 (.mov (.c (.bool false)))] false)
(.seq
(.block 0
(.seq
(.reg [o 6 (.fieldAddr (T 2) 0), o 7 (.load none (T 6)), o 8 (.fieldAddr (T 3) 0), o 9 (.load none (T 8)), o 10 (.bin .neq (T 7) (T 9)), o 5 (mT 10)] false)
(.cond (T 5)
(.seq
(.reg [o 11 (.fieldAddr (T 2) 0), o 12 (.load none (T 11)), o 13 (.fieldAddr (T 3) 0), o 14 (.load none (T 13)), o 15 (.bin .lss (T 12) (T 14)), o 4 (mT 15)] false)
.ret)
(.seq
(.reg [o 17 (.fieldAddr (T 2) 1), o 18 (.load none (T 17)), o 19 (.fieldAddr (T 3) 1), o 20 (.load none (T 19)), o 21 (.bin .neq (T 18) (T 20)), o 16 (mT 21)] false)
(.cond (T 16)
(.seq
(.reg [o 22 (.fieldAddr (T 2) 1), o 23 (.load none (T 22)), o 24 (.fieldAddr (T 3) 1), o 25 (.load none (T 24)), o 26 (.bin .lss (T 23) (T 25)), o 4 (mT 26)] false)
.ret)
.skip)))))
(.seq
(.reg [o 27 (.fieldAddr (T 2) 2), o 28 (.load none (T 27)), o 29 (.fieldAddr (T 3) 2), o 30 (.load none (T 29)), o 31 (.bin .lss (T 28) (T 30)), o 4 (mT 31)] false)
.ret))), none⟩
def f_slices_Delete_api_Message_api_Message : IFun := ⟨33, 1, false, [], [.tmp 6],
(.seq
(.reg [o 6 (.mov (.c .nils))] false)
(.seq
(.reg [o 8 (mT 0), o 9 (mT 1), o 10 (mT 2), o 11 (mT 0), o 12 (.len (T 11)), o 13 (.slice 6 (T 8) (some (T 9)) (some (T 10)) (some (T 12)))] false)
(.seq
(.seq
(.reg [o 14 (mT 1), o 15 (mT 2), o 16 (.bin .eql (T 14) (T 15))] false)
(.cond (T 16)
(.seq
(.reg [o 17 (mT 0), o 6 (mT 17)] false)
.ret)
.skip))
(.seq
(.reg [o 18 (mT 0), o 19 (.len (T 18)), o 7 (mT 19)] false)
(.seq
(.reg [w 20 (mT 0) [], w 21 (mT 1) [], w 22 (.slice 6 (T 20) none (some (T 21)) none) [0, 1], w 23 (mT 0) [], w 24 (mT 2) [], w 25 (.slice 6 (T 23) (some (T 24)) none none) [3, 4], w 26 (.append 6 (T 22) (T 25) 0) [0, 1, 2, 3, 4, 5], w 0 (mT 26) [0, 1, 2, 3, 4, 5, 6]] true)
(.seq
(.reg [o 27 (mT 0), o 28 (mT 0), o 29 (.len (T 28)), o 30 (mT 7), o 31 (.slice 6 (T 27) (some (T 29)) (some (T 30)) none), u (.clear (.agg [(.int .i64 0), (.int .i64 0), (.int .i64 0), (.int .i64 0), (.int .i64 0), .nils]) (T 31))] false)
(.seq
(.reg [o 32 (mT 0), o 6 (mT 32)] false)
.ret))))))), none⟩
def f_ref1_SameNote : IFun := ⟨24, 2, true, [true, true], [.tmp 4],
(.seq
(.reg [o 2 (.box (some 3) (T 0) 0), o 3 (.box (some 3) (T 1) 1), o 4 (.mov (.c (.bool false)))] false)
(.seq
(.reg [o 5 (.fieldAddr (T 2) 0), o 6 (.load none (T 5)), o 7 (.fieldAddr (T 3) 0), o 8 (.load none (T 7)), o 9 (.bin .eql (T 6) (T 8)), o 10 (mT 9), og (some 11) (.fieldAddr (T 2) 1) 10 true, og (some 12) (.load none (T 11)) 10 true, og (some 13) (.fieldAddr (T 3) 1) 10 true, og (some 14) (.load none (T 13)) 10 true, og (some 15) (.bin .eql (T 12) (T 14)) 10 true, o 16 (.pick (T 10) (T 15) (.c (.bool false))), o 17 (mT 16), og (some 18) (.fieldAddr (T 2) 2) 17 true, og (some 19) (.load none (T 18)) 17 true, og (some 20) (.fieldAddr (T 3) 2) 17 true, og (some 21) (.load none (T 20)) 17 true, og (some 22) (.call 90 [(T 19), (T 21)] 2) 17 true, o 23 (.pick (T 17) (T 22) (.c (.bool false))), o 4 (mT 23)] false)
.ret)), none⟩
def f_mail_Find_1 : IFun := ⟨8, 1, true, [], [.tmp 3],
(.seq
(.reg [o 2 (.box (some 6) (T 0) 0), o 3 (.mov (.c (.bool false)))] false)
(.seq
(.reg [o 4 (.fieldAddr (T 2) 0), o 5 (.load (some 3) (T 4)), o 6 (.load (some 3) (T 1)), o 7 (.eqs false [false, false, false] (T 5) (T 6)), o 3 (mT 7)] false)
.ret)), none⟩
def f_slices_EqualFunc_api_Message_api_Message_api_Message_api_Message : IFun := ⟨32, 4, true, [true, true, true], [.tmp 6],
(.seq
(.reg [o 6 (.mov (.c (.bool false)))] false)
(.seq
(.seq
(.reg [o 10 (mT 0), o 11 (.len (T 10)), o 12 (mT 1), o 13 (.len (T 12)), o 14 (.bin .neq (T 11) (T 13))] false)
(.cond (T 14)
(.seq
(.reg [o 6 (.mov (.c (.bool false)))] false)
.ret)
.skip))
(.seq
(.seq
(.reg [o 15 (mT 0), o 16 (.len (T 15)), o 17 (.mov (I 0))] false)
(.block 0
(.loop
(.seq
(.reg [o 18 (.bin .lss (T 17) (T 16))] false)
(.seq
(.cond (T 18)
.skip
(.exit 0))
(.seq
(.block 1
(.seq
(.reg [o 19 (mT 17), o 20 (.indexAddr 6 (T 15) (T 17)), o 21 (.load (some 6) (T 20)), o 8 (.box (some 6) (.c (.agg [(.int .i64 0), (.int .i64 0), (.int .i64 0), (.int .i64 0), (.int .i64 0), .nils])) 0), o 7 (mT 19), u (.store (some 6) (T 8) (T 21))] false)
(.seq
(.reg [o 22 (mT 1), o 23 (mT 7), o 24 (.indexAddr 6 (T 22) (T 23)), o 25 (.load (some 6) (T 24)), o 9 (.box (some 6) (.c (.agg [(.int .i64 0), (.int .i64 0), (.int .i64 0), (.int .i64 0), (.int .i64 0), .nils])) 1), u (.store (some 6) (T 9) (T 25))] false)
(.seq
(.reg [o 26 (mT 2), o 27 (.load (some 6) (T 8)), o 28 (.load (some 6) (T 9)), o 29 (.callv (T 26) [(T 27), (T 28)] 2), o 30 (.un .not (T 29))] false)
(.cond (T 30)
(.seq
(.reg [o 6 (.mov (.c (.bool false)))] false)
.ret)
.skip)))))
(.reg [o 31 (.bin .add (T 17) (I 1)), o 17 (mT 31)] false)))))))
(.seq
(.reg [o 6 (.mov (.c (.bool true)))] false)
.ret)))), none⟩
def f_mail_Same_1 : IFun := ⟨17, 2, true, [], [.tmp 4],
(.seq
(.reg [o 2 (.box (some 6) (T 0) 0), o 3 (.box (some 6) (T 1) 1), o 4 (.mov (.c (.bool false)))] false)
(.seq
(.reg [o 5 (.fieldAddr (T 2) 0), o 6 (.load (some 3) (T 5)), o 7 (.fieldAddr (T 3) 0), o 8 (.load (some 3) (T 7)), o 9 (.eqs false [false, false, false] (T 6) (T 8)), o 10 (mT 9), og (some 11) (.fieldAddr (T 2) 3) 10 true, og (some 12) (.load (some 3) (T 11)) 10 true, og (some 13) (.fieldAddr (T 3) 3) 10 true, og (some 14) (.load (some 3) (T 13)) 10 true, og (some 15) (.call 84 [(T 12), (T 14)] 2) 10 true, o 16 (.pick (T 10) (T 15) (.c (.bool false))), o 4 (mT 16)] false)
.ret)), none⟩
def f_prog_SameNote : IFun := ⟨24, 2, true, [true, true], [.tmp 4],
(.seq
(.reg [o 2 (.box (some 3) (T 0) 0), o 3 (.box (some 3) (T 1) 1), o 4 (.mov (.c (.bool false)))] false)
(.seq
(.reg [o 5 (.fieldAddr (T 2) 0), o 6 (.load none (T 5)), o 7 (.fieldAddr (T 3) 0), o 8 (.load none (T 7)), o 9 (.bin .eql (T 6) (T 8)), o 10 (mT 9), og (some 11) (.fieldAddr (T 2) 1) 10 true, og (some 12) (.load none (T 11)) 10 true, og (some 13) (.fieldAddr (T 3) 1) 10 true, og (some 14) (.load none (T 13)) 10 true, og (some 15) (.bin .eql (T 12) (T 14)) 10 true, o 16 (.pick (T 10) (T 15) (.c (.bool false))), o 17 (mT 16), og (some 18) (.fieldAddr (T 2) 2) 17 true, og (some 19) (.load none (T 18)) 17 true, og (some 20) (.fieldAddr (T 3) 2) 17 true, og (some 21) (.load none (T 20)) 17 true, og (some 22) (.call 100 [(T 19), (T 21)] 2) 17 true, o 23 (.pick (T 17) (T 22) (.c (.bool false))), o 4 (mT 23)] false)
.ret)), none⟩
def f_ref1_Ints : IFun := ⟨26, 0, true, [true, true], [.tmp 4],
(.seq
(.reg [o 4 (.mov (.c (.bool false)))] false)
(.seq
(.seq
(.reg [o 6 (mT 0), o 7 (.len (T 6)), o 8 (mT 1), o 9 (.len (T 8)), o 10 (.bin .neq (T 7) (T 9))] false)
(.cond (T 10)
(.seq
(.reg [o 4 (.mov (.c (.bool false)))] false)
.ret)
.skip))
(.seq
(.seq
(.reg [o 5 (.mov (I 0))] false)
(.block 0
(.loop
(.seq
(.seq
(.reg [o 11 (mT 5), o 12 (mT 0), o 13 (.len (T 12)), o 14 (.bin .lss (T 11) (T 13))] false)
(.cond (T 14)
.skip
(.exit 0)))
(.seq
(.block 1
(.seq
(.reg [w 17 (mT 0) [], w 18 (mT 5) [], w 19 (.indexAddr 1 (T 17) (T 18)) [0, 1], w 20 (.load none (T 19)) [0, 1, 2], w 21 (mT 1) [], w 22 (mT 5) [], w 23 (.indexAddr 1 (T 21) (T 22)) [4, 5], w 24 (.load none (T 23)) [4, 5, 6], w 25 (.bin .neq (T 20) (T 24)) [0, 1, 2, 3, 4, 5, 6, 7]] true)
(.cond (T 25)
(.seq
(.reg [o 4 (.mov (.c (.bool false)))] false)
.ret)
.skip)))
(.reg [o 15 (mT 5), o 16 (.bin .add (T 15) (I 1)), o 5 (mT 16)] false))))))
(.seq
(.reg [o 4 (.mov (.c (.bool true)))] false)
.ret)))), none⟩
def f_ident_order : IFun := ⟨22, 3, true, [true, true], [.tmp 4],
(.seq
(.reg [o 2 (.box (some 3) (T 0) 0), o 3 (.box (some 3) (T 1) 1), o 4 (.mov (I 0))] false)
(.seq
(.reg [w 5 (.fieldAddr (T 2) 0) [], w 6 (.load none (T 5)) [0], w 7 (.fieldAddr (T 3) 0) [], w 8 (.load none (T 7)) [2], w 9 (.call 103 [(T 6), (T 8)] 2) [0, 1, 2, 3], w 10 (.fieldAddr (T 2) 1) [], w 11 (.load none (T 10)) [5], w 12 (.fieldAddr (T 3) 1) [], w 13 (.load none (T 12)) [7], w 14 (.call 103 [(T 11), (T 13)] 2) [0, 1, 2, 3, 4, 5, 6, 7, 8], w 15 (.fieldAddr (T 2) 2) [], w 16 (.load none (T 15)) [10], w 17 (.fieldAddr (T 3) 2) [], w 18 (.load none (T 17)) [12], w 19 (.call 103 [(T 16), (T 18)] 2) [0, 1, 2, 3, 4, 5, 6, 7, 8, 9, 10, 11, 12, 13], w 20 (.buildSlice none [(T 9), (T 14), (T 19)] 2) [0, 1, 2, 3, 4, 5, 6, 7, 8, 9, 10, 11, 12, 13, 14], w 21 (.call 102 [(T 20)] 3) [0, 1, 2, 3, 4, 5, 6, 7, 8, 9, 10, 11, 12, 13, 14, 15], w 4 (mT 21) [0, 1, 2, 3, 4, 5, 6, 7, 8, 9, 10, 11, 12, 13, 14, 15, 16]] true)
.ret)), none⟩
def f_slices_rotateRight_api_Message : IFun := ⟨10, 1, false, [], [],
(.reg [o 4 (mT 0), o 5 (mT 0), o 6 (.len (T 5)), o 7 (mT 1), o 8 (.bin .sub (T 6) (T 7)), o 9 (.call 104 [(T 4), (T 8)] 0)] false), none⟩
def f_prog_CopyNote : IFun := ⟨8, 3, true, [true], [.cell (some 3) 2],
(.seq
(.reg [o 1 (.box (some 3) (T 0) 0), o 2 (.box (some 3) (.c (.agg [(.int .i64 0), (.int .i64 0), .nils])) 1)] false)
(.seq
(.reg [o 3 (.fieldAddr (T 1) 2), o 4 (.load none (T 3)), o 5 (.call 105 [(T 4)] 2), o 6 (.fieldAddr (T 1) 2), u (.store none (T 6) (T 5))] false)
(.seq
(.reg [o 7 (.load (some 3) (T 1)), u (.store (some 3) (T 2) (T 7))] false)
.ret))), none⟩
def f_slices_Equal_int_int : IFun := ⟨26, 0, true, [true, true], [.tmp 4],
(.seq
(.reg [o 4 (.mov (.c (.bool false)))] false)
(.seq
(.seq
(.reg [o 6 (mT 0), o 7 (.len (T 6)), o 8 (mT 1), o 9 (.len (T 8)), o 10 (.bin .neq (T 7) (T 9))] false)
(.cond (T 10)
(.seq
(.reg [o 4 (.mov (.c (.bool false)))] false)
.ret)
.skip))
(.seq
(.seq
(.reg [o 11 (mT 0), o 12 (.len (T 11)), o 13 (.mov (I 0))] false)
(.block 0
(.loop
(.seq
(.reg [o 14 (.bin .lss (T 13) (T 12))] false)
(.seq
(.cond (T 14)
.skip
(.exit 0))
(.seq
(.block 1
(.seq
(.reg [o 15 (mT 13), o 5 (mT 15)] false)
(.seq
(.reg [w 16 (mT 0) [], w 17 (mT 5) [], w 18 (.indexAddr 1 (T 16) (T 17)) [0, 1], w 19 (.load none (T 18)) [0, 1, 2], w 20 (mT 1) [], w 21 (mT 5) [], w 22 (.indexAddr 1 (T 20) (T 21)) [4, 5], w 23 (.load none (T 22)) [4, 5, 6], w 24 (.bin .neq (T 19) (T 23)) [0, 1, 2, 3, 4, 5, 6, 7]] true)
(.cond (T 24)
(.seq
(.reg [o 4 (.mov (.c (.bool false)))] false)
.ret)
.skip))))
(.reg [o 25 (.bin .add (T 13) (I 1)), o 13 (mT 25)] false)))))))
(.seq
(.reg [o 4 (.mov (.c (.bool true)))] false)
.ret)))), none⟩
def f_cmp_Or_int : IFun := ⟨18, 0, true, [true], [.tmp 2],
(.seq
(.reg [o 2 (.mov (I 0))] false)
(.seq
(.reg [o 3 (.mov (I 0))] false)
(.seq
(.seq
(.reg [o 6 (mT 0), o 7 (.len (T 6)), o 8 (.mov (I 0))] false)
(.block 0
(.loop
(.seq
(.reg [o 9 (.bin .lss (T 8) (T 7))] false)
(.seq
(.cond (T 9)
.skip
(.exit 0))
(.seq
(.block 1
(.seq
(.reg [o 10 (.indexAddr 1 (T 6) (T 8)), o 11 (.load none (T 10)), o 5 (mT 11)] false)
(.seq
(.reg [o 12 (mT 5), o 13 (mT 3), o 14 (.bin .neq (T 12) (T 13))] false)
(.cond (T 14)
(.seq
(.reg [o 15 (mT 5), o 2 (mT 15)] false)
.ret)
.skip))))
(.reg [o 16 (.bin .add (T 8) (I 1)), o 8 (mT 16)] false)))))))
(.seq
(.reg [o 17 (mT 3), o 2 (mT 17)] false)
.ret)))), none⟩
def f_cmp_Compare_int : IFun := ⟨20, 0, true, [true, true], [.tmp 4],
(.seq
(.reg [o 4 (.mov (I 0))] false)
(.seq
(.reg [o 7 (mT 0), o 8 (.call 106 [(T 7)] 0), o 5 (mT 8)] false)
(.seq
(.reg [o 9 (mT 1), o 10 (.call 106 [(T 9)] 0), o 6 (mT 10)] false)
(.seq
(.seq
(.reg [o 11 (mT 5)] false)
(.cond (T 11)
(.seq
(.seq
(.reg [o 12 (mT 6)] false)
(.cond (T 12)
(.seq
(.reg [o 4 (.mov (I 0))] false)
.ret)
.skip))
(.seq
(.reg [o 4 (.mov (I (-1)))] false)
.ret))
.skip))
(.seq
(.seq
(.reg [o 13 (mT 6)] false)
(.cond (T 13)
(.seq
(.reg [o 4 (.mov (I 1))] false)
.ret)
.skip))
(.seq
(.seq
(.reg [o 14 (mT 0), o 15 (mT 1), o 16 (.bin .lss (T 14) (T 15))] false)
(.cond (T 16)
(.seq
(.reg [o 4 (.mov (I (-1)))] false)
.ret)
.skip))
(.seq
(.seq
(.reg [o 17 (mT 0), o 18 (mT 1), o 19 (.bin .gtr (T 17) (T 18))] false)
(.cond (T 19)
(.seq
(.reg [o 4 (.mov (I 1))] false)
.ret)
.skip))
(.seq
(.reg [o 4 (.mov (I 0))] false)
.ret)))))))), none⟩
def f_slices_rotateLeft_api_Message : IFun := ⟨14, 3, false, [], [],
(.seq
(.reg [o 4 (mT 0), o 5 (mT 1), o 6 (.slice 6 (T 4) none (some (T 5)) none), o 7 (.call 107 [(T 6)] 0)] false)
(.seq
(.reg [o 8 (mT 0), o 9 (mT 1), o 10 (.slice 6 (T 8) (some (T 9)) none none), o 11 (.call 107 [(T 10)] 1)] false)
(.reg [o 12 (mT 0), o 13 (.call 107 [(T 12)] 2)] false))), none⟩
def f_slices_Clone_int_int : IFun := ⟨8, 2, false, [true], [.tmp 2],
(.seq
(.reg [o 2 (.mov (.c .nils))] false)
(.seq
(.seq
(.reg [o 3 (mT 0), o 4 (.eqn 0 false (T 3) (.c .nils))] false)
(.cond (T 4)
(.seq
(.reg [o 2 (.mov (.c .nils))] false)
.ret)
.skip))
(.seq
(.reg [o 5 (.buildSlice none [] 0), o 6 (mT 0), o 7 (.append 1 (T 5) (T 6) 1), o 2 (mT 7)] false)
.ret))), none⟩
def f_cmp_isNaN_int : IFun := ⟨6, 0, true, [true], [.tmp 2],
(.seq
(.reg [o 2 (.mov (.c (.bool false)))] false)
(.seq
(.reg [o 3 (mT 0), o 4 (mT 0), o 5 (.bin .neq (T 3) (T 4)), o 2 (mT 5)] false)
.ret)), none⟩
def f_slices_Reverse_api_Message_api_Message : IFun := ⟨28, 0, false, [], [],
(.seq
(.reg [o 4 (mT 0), o 5 (.len (T 4)), o 6 (.bin .sub (T 5) (I 1)), o 2 (.mov (I 0)), o 3 (mT 6)] false)
(.block 0
(.loop
(.seq
(.seq
(.reg [o 7 (mT 2), o 8 (mT 3), o 9 (.bin .lss (T 7) (T 8))] false)
(.cond (T 9)
.skip
(.exit 0)))
(.seq
(.block 1
(.reg [w 14 (mT 0) [], w 15 (mT 2) [], w 16 (mT 0) [], w 17 (mT 3) [], w 18 (mT 0) [], w 19 (mT 3) [], w 20 (.indexAddr 6 (T 18) (T 19)) [4, 5], w 21 (.load (some 6) (T 20)) [4, 5, 6], w 22 (mT 0) [], w 23 (mT 2) [], w 24 (.indexAddr 6 (T 22) (T 23)) [8, 9], w 25 (.load (some 6) (T 24)) [8, 9, 10], w 26 (.indexAddr 6 (T 14) (T 15)) [0, 1, 4, 5, 6, 7, 8, 9, 10, 11], ⟨none, .store (some 6) (T 26) (T 21), none, [0, 1, 4, 5, 6, 7, 8, 9, 10, 11, 12]⟩, w 27 (.indexAddr 6 (T 16) (T 17)) [0, 1, 2, 3, 4, 5, 6, 7, 8, 9, 10, 11, 12, 13], ⟨none, .store (some 6) (T 27) (T 25), none, [0, 1, 2, 3, 4, 5, 6, 7, 8, 9, 10, 11, 12, 13, 14]⟩] true))
(.reg [o 10 (mT 2), o 11 (.bin .add (T 10) (I 1)), o 12 (mT 3), o 13 (.bin .sub (T 12) (I 1)), o 2 (mT 11), o 3 (mT 13)] false)))))), none⟩
def f_mail_Put_F : IFun := ⟨26, 4, true, [true, true], [.tmp 4, .tmp 5],
(.seq
(.reg [o 3 (.box (some 6) (T 1) 0), o 4 (.mov (.c .nils)), o 5 (.mov (I 0))] false)
(.seq
(.seq
(.reg [o 7 (mT 0), o 8 (.fieldAddr (T 3) 0), o 9 (.load (some 3) (T 8)), o 10 (.call 39 [(T 7), (T 9)] 1), o 11 (.bin .geq (T 10) (I 0))] false)
(.cond (T 11)
(.seq
(.reg [o 4 (.mov (.c .nils)), o 5 (.mov (I 1))] false)
.ret)
.skip))
(.seq
(.reg [o 12 (mT 0), o 13 (.mkfn 74 [(T 3)]), o 14 (.call 73 [(T 12), (T 13)] 1), o 6 (mT 14)] false)
(.seq
(.seq
(.reg [o 15 (mT 6), o 16 (.bin .lss (T 15) (I 0))] false)
(.cond (T 16)
(.reg [o 17 (mT 0), o 18 (.len (T 17)), o 6 (mT 18)] false)
.skip))
(.seq
(.reg [w 19 (mT 0) [], w 20 (.call 44 [(T 19)] 1) [0], w 21 (mT 6) [], w 22 (.load (some 6) (T 3)) [], w 23 (.call 77 [(T 22)] 2) [0, 1, 3], w 24 (.buildSlice (some 6) [(T 23)] 2) [0, 1, 3, 4], w 25 (.call 76 [(T 20), (T 21), (T 24)] 3) [0, 1, 2, 3, 4, 5], w 4 (mT 25) [0, 1, 2, 3, 4, 5, 6], w 5 (.mov (I 0)) [0, 1, 2, 3, 4, 5, 6, 7]] true)
.ret))))), none⟩
def f_mail_Copy_F : IFun := ⟨18, 3, true, [true], [.tmp 2],
(.seq
(.reg [o 2 (.mov (.c .nils))] false)
(.seq
(.seq
(.reg [o 5 (mT 0), o 6 (.len (T 5)), o 7 (.mov (I 0))] false)
(.block 0
(.loop
(.seq
(.reg [o 8 (.bin .lss (T 7) (T 6))] false)
(.seq
(.cond (T 8)
.skip
(.exit 0))
(.seq
(.block 1
(.seq
(.reg [o 9 (.indexAddr 6 (T 5) (T 7)), o 10 (.load (some 6) (T 9)), o 4 (.box (some 6) (.c (.agg [(.int .i64 0), (.int .i64 0), (.int .i64 0), (.int .i64 0), (.int .i64 0), .nils])) 0), u (.store (some 6) (T 4) (T 10))] false)
(.reg [o 11 (mT 2), o 12 (.load (some 6) (T 4)), o 13 (.call 77 [(T 12)] 1), o 14 (.buildSlice (some 6) [(T 13)] 1), o 15 (.append 6 (T 11) (T 14) 2), o 2 (mT 15)] false)))
(.reg [o 16 (.bin .add (T 7) (I 1)), o 7 (mT 16)] false)))))))
(.seq
(.reg [o 17 (mT 2), o 2 (mT 17)] false)
.ret))), none⟩
def FTL : List (Option IFun) := [none, none, none, none, none, none, none, some f_law8_MailTells, some f_law8_MailActs, some f_law8_MailSorted, none, none, none, none, none, none, none, none, none, none, none, none, none, some f_alike_Round, none, none, none, none, none, none, some f_alike_Mail, some f_law8_awake, some f_mail_Put, some f_ref7_Put, some f_mail_Take, some f_ref7_Take, some f_ref7_SameMail, some f_mail_Sorted, some f_ref7_Sorted, some f_mail_Find, some f_ref7_FindID, some f_mail_To, some f_ref7_To, some f_mail_Same, some f_mail_Copy, some f_law8_message, none, none, none, none, none, none, none, none, none, none, none, none, none, none, none, none, none, none, none, none, none, none, none, none, none, none, none, some f_slices_IndexFunc_api_Message_api_Message, some f_mail_Put_1, some f_ident_Less, some f_slices_Insert_api_Message_api_Message, some f_mail_own, some f_ref7_Less, some f_slices_Delete_api_Message_api_Message, some f_ref1_SameNote, some f_mail_Find_1, some f_slices_EqualFunc_api_Message_api_Message_api_Message_api_Message, some f_mail_Same_1, some f_prog_SameNote, none, none, none, none, none, some f_ref1_Ints, none, none, none, none, none, some f_ident_order, none, some f_slices_rotateRight_api_Message, some f_prog_CopyNote, some f_slices_Equal_int_int, none, some f_cmp_Or_int, some f_cmp_Compare_int, some f_slices_rotateLeft_api_Message, some f_slices_Clone_int_int, some f_cmp_isNaN_int, some f_slices_Reverse_api_Message_api_Message, none, none, none, none, none, none, none, none, none, none, none, none, none, none, none, none, none, none, none, none, none, none, none, none, none, none, none, none, none, none, none, none, none, none, none, none, none, none, none, none, none, none, none, none, none, none, none, none, none, none, none, none, none, none, none, none, none, none, none, none, none, none, none, none, none, none, none, none, none, none, none, none, none, none, none, none, none, none, none, none, none, none, none, none, none, none, none, none, none, none, none, none, none, none, none, none, none, none, none, none, none, none, none, none, none, none, none, none, none, none, none, none, none, none, none, none, none, none, none, none, none, none, none, none, none, none, none, none, none, none, none, none, none, none, none, none, none, none, none, none, none, none, none, none, none, none, none, none, none, none, none, none, none, none, none, none, none, none, none, none, none, none, none, none, none, none, none, none, none, none, none, none, none, none, none, none, none, none, none, none, none, none, none, none, none, none, none, none, none, none, none, none, none, none, none, none, none, none, none, none, none, none, none, some f_mail_Put_F, some f_mail_Copy_F]
def FT : Nat → Option IFun
| 7 => some f_law8_MailTells
| 8 => some f_law8_MailActs
| 9 => some f_law8_MailSorted
| 23 => some f_alike_Round
| 30 => some f_alike_Mail
| 31 => some f_law8_awake
| 32 => some f_mail_Put
| 33 => some f_ref7_Put
| 34 => some f_mail_Take
| 35 => some f_ref7_Take
| 36 => some f_ref7_SameMail
| 37 => some f_mail_Sorted
| 38 => some f_ref7_Sorted
| 39 => some f_mail_Find
| 40 => some f_ref7_FindID
| 41 => some f_mail_To
| 42 => some f_ref7_To
| 43 => some f_mail_Same
| 44 => some f_mail_Copy
| 45 => some f_law8_message
| 73 => some f_slices_IndexFunc_api_Message_api_Message
| 74 => some f_mail_Put_1
| 75 => some f_ident_Less
| 76 => some f_slices_Insert_api_Message_api_Message
| 77 => some f_mail_own
| 78 => some f_ref7_Less
| 79 => some f_slices_Delete_api_Message_api_Message
| 80 => some f_ref1_SameNote
| 81 => some f_mail_Find_1
| 82 => some f_slices_EqualFunc_api_Message_api_Message_api_Message_api_Message
| 83 => some f_mail_Same_1
| 84 => some f_prog_SameNote
| 90 => some f_ref1_Ints
| 96 => some f_ident_order
| 98 => some f_slices_rotateRight_api_Message
| 99 => some f_prog_CopyNote
| 100 => some f_slices_Equal_int_int
| 102 => some f_cmp_Or_int
| 103 => some f_cmp_Compare_int
| 104 => some f_slices_rotateLeft_api_Message
| 105 => some f_slices_Clone_int_int
| 106 => some f_cmp_isNaN_int
| 107 => some f_slices_Reverse_api_Message_api_Message
| 311 => some f_mail_Put_F
| 312 => some f_mail_Copy_F
| _ => none
end Gv

namespace Gv
/-- The number of a function of E in this program. -/
def fidL : List Nat := [3, 4, 5, 6, 7, 8, 9, 10, 11, 12, 13, 14, 15, 16, 17, 18, 19, 20, 21, 22, 23, 24, 25, 26, 27, 28, 29, 30, 31, 32, 33, 34, 35, 36, 37, 38, 39, 40, 41, 42, 43, 44, 45, 46, 47, 48, 49, 50, 51, 52, 53, 54, 55, 56, 57, 58, 59, 60, 61, 62, 63, 64, 65, 66, 67, 68, 69, 70, 71, 72, 73, 74, 75, 76, 77, 78, 79, 80, 81, 82, 83, 84, 85, 86, 87, 88, 89, 90, 91, 92, 93, 94, 95, 96, 97, 98, 99, 100, 101, 102, 103, 104, 105, 106, 107, 108, 109, 110, 1000000, 1000000, 1000000, 1000000, 1000000, 1000000, 1000000, 1000000, 1000000, 1000000, 1000000, 1000000, 1000000, 1000000, 1000000, 1000000, 1000000, 1000000, 1000000, 1000000, 1000000, 1000000, 1000000, 1000000, 1000000, 1000000, 1000000, 1000000, 1000000, 1000000, 1000000, 1000000, 1000000, 1000000, 1000000, 1000000, 1000000, 1000000, 1000000, 1000000, 1000000, 1000000, 1000000, 1000000, 1000000, 1000000, 1000000, 1000000, 1000000, 1000000, 1000000, 1000000, 1000000, 1000000, 1000000, 1000000, 1000000, 1000000, 1000000, 1000000, 1000000, 1000000, 1000000, 1000000, 1000000, 1000000, 1000000, 1000000, 1000000, 1000000, 1000000, 1000000, 1000000, 1000000, 1000000, 1000000, 1000000, 1000000, 1000000, 1000000, 1000000, 1000000, 1000000, 1000000, 1000000, 1000000, 1000000, 1000000, 1000000, 1000000, 1000000, 1000000, 1000000, 1000000, 1000000, 1000000, 1000000, 1000000, 1000000, 1000000, 1000000, 1000000, 1000000, 1000000, 1000000, 1000000, 1000000, 1000000, 1000000, 1000000, 1000000, 1000000, 1000000, 1000000, 1000000, 1000000, 1000000, 1000000, 1000000, 1000000, 1000000, 1000000, 1000000, 1000000, 1000000, 1000000, 1000000, 1000000, 1000000, 1000000, 1000000, 1000000, 1000000, 1000000, 1000000, 1000000, 1000000, 1000000, 1000000, 1000000, 1000000, 1000000, 1000000, 1000000, 1000000, 1000000, 1000000, 1000000, 1000000, 1000000, 1000000, 1000000, 1000000, 1000000, 1000000, 1000000, 1000000, 1000000, 1000000, 1000000, 1000000, 1000000, 1000000, 1000000, 1000000, 1000000, 1000000, 1000000, 1000000, 1000000, 1000000, 1000000, 1000000, 1000000, 1000000, 1000000, 1000000, 1000000, 1000000, 1000000, 1000000, 1000000, 1000000, 1000000, 1000000, 1000000, 1000000, 1000000, 1000000, 1000000, 1000000, 1000000, 1000000, 1000000, 1000000, 1000000, 1000000, 1000000, 1000000, 1000000, 1000000, 1000000, 1000000, 35, 47]
def fid (n : Nat) : Nat := fidL.getD n 1000000
end Gv
