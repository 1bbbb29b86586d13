/- What this file proves: one part of the proof that the law answers true for every input, by an interpreter that is proved sound against the given model. -/
import Derived.Test.YtkjefeclbdjkcaaEa
namespace Gv
abbrev T := PO.t
abbrev I (n : Int) : PO := .c (.int .i64 n)
abbrev mT (n : Nat) : IOp := .mov (T n)
abbrev w (d : Nat) (x : IOp) (l : List Nat) : IOper := ⟨some d, x, none, l⟩
abbrev o (d : Nat) (x : IOp) : IOper := ⟨some d, x, none, []⟩
abbrev u (x : IOp) : IOper := ⟨none, x, none, []⟩
abbrev og (d : Option Nat) (x : IOp) (t : Nat) (b : Bool) : IOper := ⟨d, x, some (t, b), []⟩
def f_law22_WireBack : IFun := ⟨144, 11, true, [true, true, true, true], [.tmp 8],
(.seq
(.reg [o 4 (.box (some 11) (T 0) 0), o 8 (.mov (.c (.bool false)))] false)
(.seq
(.seq
(.reg [o 23 (.load (some 11) (T 4)), o 24 (.call 15 [(T 23)] 1), o 25 (.un .not (T 24))] false)
(.cond (T 25)
(.seq
(.reg [o 26 (.call 10 [] 1), o 8 (mT 26)] false)
.ret)
.skip))
(.seq
(.reg [o 28 (.load (some 11) (T 4)), o 29 (.call 16 [(T 28)] 1), o 27 (mT 29), o 30 (.extract (T 27) 0), o 31 (.extract (T 27) 1), o 9 (mT 30), o 10 (mT 31)] false)
(.seq
(.seq
(.reg [o 32 (mT 10), o 33 (.bin .neq (T 32) (I 0))] false)
(.cond (T 33)
(.seq
(.reg [o 34 (.call 10 [] 1), o 8 (mT 34)] false)
.ret)
.skip))
(.seq
(.reg [o 36 (mT 9), o 37 (.call 19 [(T 36)] 1), o 35 (mT 37), o 38 (.extract (T 35) 0), o 39 (.extract (T 35) 1), o 11 (.box (some 11) (.c (.agg [.nils, .nils, .nils, (.int .i64 0), .nils, (.int .i64 0), (.int .i64 0), (.int .i64 0), (.int .i64 0), (.int .i64 0), (.int .i64 0)])) 1), u (.store (some 11) (T 11) (T 38)), o 12 (mT 39)] false)
(.seq
(.seq
(.reg [w 40 (mT 12) [], w 41 (.bin .neq (T 40) (I 0)) [0], w 42 (mT 41) [0, 1], ⟨(some 43), .load (some 11) (T 11), (some (42, false)), [0, 1, 2]⟩, ⟨(some 44), .call 18 [(T 43)] 2, (some (42, false)), [0, 1, 2, 3]⟩, ⟨(some 45), .load (some 11) (T 4), (some (42, false)), [0, 1, 2]⟩, ⟨(some 46), .call 18 [(T 45)] 2, (some (42, false)), [0, 1, 2, 3, 4, 5]⟩, ⟨(some 47), .call 21 [(T 44), (T 46)] 2, (some (42, false)), [0, 1, 2, 3, 4, 5, 6]⟩, ⟨(some 48), .un .not (T 47), (some (42, false)), [0, 1, 2, 3, 4, 5, 6, 7]⟩, w 49 (.pick (T 42) (.c (.bool true)) (T 48)) [0, 1, 2, 3, 4, 5, 6, 7, 8], w 50 (mT 49) [0, 1, 2, 3, 4, 5, 6, 7, 8, 9], ⟨(some 51), .load (some 11) (T 11), (some (50, false)), [0, 1, 2, 3, 4, 5, 6, 7, 8, 9, 10]⟩, ⟨(some 52), .load (some 11) (T 4), (some (50, false)), [0, 1, 2, 3, 4, 5, 6, 7, 8, 9, 10]⟩, ⟨(some 53), .call 22 [(T 51), (T 52)] 2, (some (50, false)), [0, 1, 2, 3, 4, 5, 6, 7, 8, 9, 10, 11, 12]⟩, ⟨(some 54), .un .not (T 53), (some (50, false)), [0, 1, 2, 3, 4, 5, 6, 7, 8, 9, 10, 11, 12, 13]⟩, w 55 (.pick (T 50) (.c (.bool true)) (T 54)) [0, 1, 2, 3, 4, 5, 6, 7, 8, 9, 10, 11, 12, 13, 14], w 56 (mT 55) [0, 1, 2, 3, 4, 5, 6, 7, 8, 9, 10, 11, 12, 13, 14, 15], ⟨(some 57), .mov (T 9), (some (56, false)), [0, 1, 2, 3, 4, 5, 6, 7, 8, 9, 10, 11, 12, 13, 14, 15, 16]⟩, ⟨(some 58), .len (T 57), (some (56, false)), [0, 1, 2, 3, 4, 5, 6, 7, 8, 9, 10, 11, 12, 13, 14, 15, 16, 17]⟩, ⟨(some 59), .bin .eql (T 58) (I 0), (some (56, false)), [0, 1, 2, 3, 4, 5, 6, 7, 8, 9, 10, 11, 12, 13, 14, 15, 16, 17, 18]⟩, w 60 (.pick (T 56) (.c (.bool true)) (T 59)) [0, 1, 2, 3, 4, 5, 6, 7, 8, 9, 10, 11, 12, 13, 14, 15, 16, 17, 18, 19]] true)
(.cond (T 60)
(.seq
(.reg [o 8 (.mov (.c (.bool false)))] false)
.ret)
.skip))
(.seq
(.reg [o 62 (mT 9), o 63 (mT 1), o 64 (mT 9), o 65 (.len (T 64)), o 66 (.call 23 [(T 63), (T 65)] 2), o 67 (.slice 1 (T 62) none (some (T 66)) none), o 68 (.call 19 [(T 67)] 2), o 61 (mT 68), o 69 (.extract (T 61) 0), o 70 (.extract (T 61) 1), o 13 (.box (some 11) (.c (.agg [.nils, .nils, .nils, (.int .i64 0), .nils, (.int .i64 0), (.int .i64 0), (.int .i64 0), (.int .i64 0), (.int .i64 0), (.int .i64 0)])) 2), u (.store (some 11) (T 13) (T 69)), o 14 (mT 70)] false)
(.seq
(.reg [o 72 (.buildSlice none [] 3), o 73 (mT 9), o 74 (.append 1 (T 72) (T 73) 4), o 75 (.buildSlice none [(.c (.int .u8 0))] 5), o 76 (.append 1 (T 74) (T 75) 6), o 77 (.call 19 [(T 76)] 7), o 71 (mT 77), o 78 (.extract (T 71) 0), o 79 (.extract (T 71) 1), o 15 (.box (some 11) (.c (.agg [.nils, .nils, .nils, (.int .i64 0), .nils, (.int .i64 0), (.int .i64 0), (.int .i64 0), (.int .i64 0), (.int .i64 0), (.int .i64 0)])) 7), u (.store (some 11) (T 15) (T 78)), o 16 (mT 79)] false)
(.seq
(.reg [o 80 (.buildSlice none [] 8), o 81 (mT 9), o 82 (.append 1 (T 80) (T 81) 9), o 17 (mT 82)] false)
(.seq
(.reg [o 83 (mT 2), o 84 (mT 17), o 85 (.len (T 84)), o 86 (.call 23 [(T 83), (T 85)] 10), o 18 (mT 86)] false)
(.seq
(.reg [w 87 (mT 17) [], w 88 (mT 18) [], w 89 (mT 17) [], w 90 (mT 18) [], w 91 (.indexAddr 1 (T 89) (T 90)) [2, 3], w 92 (.load none (T 91)) [2, 3, 4], w 93 (.bin .add (T 92) (.c (.int .u8 1))) [2, 3, 4, 5], w 94 (mT 3) [], w 95 (.call 23 [(T 94), (I 255)] 10) [7], w 96 (.toInt .u8 (T 95)) [7, 8], w 97 (.bin .add (T 93) (T 96)) [2, 3, 4, 5, 6, 7, 8, 9], w 98 (.indexAddr 1 (T 87) (T 88)) [0, 1, 2, 3, 4, 5, 6, 7, 8, 9, 10], ⟨none, .store none (T 98) (T 97), none, [0, 1, 2, 3, 4, 5, 6, 7, 8, 9, 10, 11]⟩] true)
(.seq
(.reg [o 100 (mT 17), o 101 (.call 19 [(T 100)] 10), o 99 (mT 101), o 102 (.extract (T 99) 0), o 103 (.extract (T 99) 1), o 19 (.box (some 11) (.c (.agg [.nils, .nils, .nils, (.int .i64 0), .nils, (.int .i64 0), (.int .i64 0), (.int .i64 0), (.int .i64 0), (.int .i64 0), (.int .i64 0)])) 10), u (.store (some 11) (T 19) (T 102)), o 20 (mT 103)] false)
(.seq
(.seq
(.reg [o 104 (mT 14), o 105 (.bin .neq (T 104) (I 2)), o 106 (mT 105), og (some 107) (mT 16) 106 false, og (some 108) (.bin .neq (T 107) (I 2)) 106 false, o 109 (.pick (T 106) (.c (.bool true)) (T 108)), o 110 (mT 109), og (some 111) (mT 20) 110 false, og (some 112) (.bin .neq (T 111) (I 0)) 110 false, og (some 113) (mT 112) 110 false, og (some 114) (mT 20) 113 true, og (some 115) (.bin .neq (T 114) (I 2)) 113 true, og (some 116) (.pick (T 113) (T 115) (.c (.bool false))) 110 false, o 117 (.pick (T 110) (.c (.bool true)) (T 116))] false)
(.cond (T 117)
(.seq
(.reg [o 8 (.mov (.c (.bool false)))] false)
.ret)
.skip))
(.seq
(.seq
(.reg [o 118 (mT 20), o 119 (.bin .eql (T 118) (I 0))] false)
(.cond (T 119)
(.seq
(.reg [o 121 (.load (some 11) (T 19)), o 122 (.call 16 [(T 121)] 11), o 120 (mT 122), o 123 (.extract (T 120) 0), o 124 (.extract (T 120) 1), o 21 (mT 123), o 22 (mT 124)] false)
(.seq
(.reg [o 125 (mT 22), o 126 (.bin .eql (T 125) (I 0)), o 127 (mT 126), og (some 128) (mT 21) 127 true, og (some 129) (.b2s (T 128)) 127 true, og (some 130) (mT 17) 127 true, og (some 131) (.b2s (T 130)) 127 true, og (some 132) (.bin .eql (T 129) (T 131)) 127 true, o 133 (.pick (T 127) (T 132) (.c (.bool false))), o 134 (mT 133), og (some 135) (.load (some 11) (T 19)) 134 true, og (some 136) (.load (some 11) (T 4)) 134 true, og (some 137) (.call 22 [(T 135), (T 136)] 11) 134 true, og (some 138) (.un .not (T 137)) 134 true, o 139 (.pick (T 134) (T 138) (.c (.bool false))), o 140 (mT 139), og (some 141) (.call 10 [] 11) 140 true, o 142 (.pick (T 140) (T 141) (.c (.bool false))), o 8 (mT 142)] false)
.ret))
.skip))
(.seq
(.reg [o 143 (.call 10 [] 11), o 8 (mT 143)] false)
.ret))))))))))))))), none⟩
def f_law22_awake : IFun := ⟨116, 23, true, [], [.tmp 0],
(.seq
(.reg [o 0 (.mov (.c (.bool false)))] false)
(.seq
(.reg [o 19 (.call 29 [] 0), o 20 (.call 16 [(T 19)] 9), o 18 (mT 20), o 21 (.extract (T 18) 0), o 22 (.extract (T 18) 1), o 1 (mT 21), o 2 (mT 22)] false)
(.seq
(.reg [o 24 (mT 1), o 25 (.call 19 [(T 24)] 9), o 23 (mT 25), o 26 (.extract (T 23) 0), o 27 (.extract (T 23) 1), o 3 (.box (some 11) (.c (.agg [.nils, .nils, .nils, (.int .i64 0), .nils, (.int .i64 0), (.int .i64 0), (.int .i64 0), (.int .i64 0), (.int .i64 0), (.int .i64 0)])) 9), u (.store (some 11) (T 3) (T 26)), o 4 (mT 27)] false)
(.seq
(.reg [o 29 (.call 19 [(.c .nils)] 10), o 28 (mT 29), o 30 (.extract (T 28) 0), o 31 (.extract (T 28) 1), o 5 (.box (some 11) (.c (.agg [.nils, .nils, .nils, (.int .i64 0), .nils, (.int .i64 0), (.int .i64 0), (.int .i64 0), (.int .i64 0), (.int .i64 0), (.int .i64 0)])) 10), u (.store (some 11) (T 5) (T 30)), o 6 (mT 31)] false)
(.seq
(.reg [o 33 (.buildSlice none [(.c (.int .u8 128)), (.c (.int .u8 1)), (.c (.int .u8 5))] 11), o 34 (.call 12 [(T 33)] 12), o 32 (mT 34), o 35 (.extract (T 32) 0), o 36 (.extract (T 32) 1), o 37 (.extract (T 32) 2), o 7 (mT 35), o 8 (mT 36), o 9 (mT 37)] false)
(.seq
(.reg [o 39 (.buildSlice none [(.c (.int .u8 128)), (.c (.int .u8 0))] 12), o 40 (.call 12 [(T 39)] 13), o 38 (mT 40), o 41 (.extract (T 38) 0), o 42 (.extract (T 38) 1), o 43 (.extract (T 38) 2), o 10 (mT 41), o 11 (mT 42), o 12 (mT 43)] false)
(.seq
(.reg [o 44 (.build [(.int .i64 0), (.int .i64 0), (.int .i64 0)] [(0, none, (I (-1)))]), o 45 (.build [(.int .i64 0), (.int .i64 0), (.int .i64 0), (.int .i64 0), (.int .i64 0)] [(0, none, (I 1)), (1, (some 3), (T 44))]), o 46 (.buildSlice (some 5) [(T 45)] 13), o 13 (mT 46)] false)
(.seq
(.reg [o 48 (mT 13), o 49 (.call 24 [(T 48)] 14), o 47 (mT 49), o 50 (.extract (T 47) 0), o 51 (.extract (T 47) 1), o 14 (mT 50), o 15 (mT 51)] false)
(.seq
(.reg [o 53 (mT 14), o 54 (.call 26 [(T 53)] 14), o 52 (mT 54), o 55 (.extract (T 52) 0), o 56 (.extract (T 52) 1), o 16 (mT 55), o 17 (mT 56)] false)
(.seq
(.reg [w 57 (mT 2) [], w 58 (.bin .eql (T 57) (I 0)) [0], w 59 (mT 58) [0, 1], ⟨(some 60), .mov (T 1), (some (59, true)), [0, 1, 2]⟩, ⟨(some 61), .b2s (T 60), (some (59, true)), [0, 1, 2, 3]⟩, ⟨(some 62), .bin .eql (T 61) (.c (.str [71, 65, 86, 49, 2, 0, 4, 2, 9, 4, 0, 2, 2, 216, 4, 4, 1, 0, 2, 0, 0, 0, 18, 2, 2, 2, 2, 2, 0, 0, 0, 8, 140, 1])), (some (59, true)), [0, 1, 2, 3, 4]⟩, w 63 (.pick (T 59) (T 62) (.c (.bool false))) [0, 1, 2, 3, 4, 5], w 64 (mT 63) [0, 1, 2, 3, 4, 5, 6], ⟨(some 65), .mov (T 4), (some (64, true)), [0, 1, 2, 3, 4, 5, 6, 7]⟩, ⟨(some 66), .bin .eql (T 65) (I 0), (some (64, true)), [0, 1, 2, 3, 4, 5, 6, 7, 8]⟩, w 67 (.pick (T 64) (T 66) (.c (.bool false))) [0, 1, 2, 3, 4, 5, 6, 7, 8, 9], w 68 (mT 67) [0, 1, 2, 3, 4, 5, 6, 7, 8, 9, 10], ⟨(some 69), .load (some 11) (T 3), (some (68, true)), [0, 1, 2, 3, 4, 5, 6, 7, 8, 9, 10, 11]⟩, ⟨(some 70), .call 29 [] 14, (some (68, true)), [0, 1, 2, 3, 4, 5, 6, 7, 8, 9, 10, 11]⟩, ⟨(some 71), .call 22 [(T 69), (T 70)] 23, (some (68, true)), [0, 1, 2, 3, 4, 5, 6, 7, 8, 9, 10, 11, 12, 13]⟩, w 72 (.pick (T 68) (T 71) (.c (.bool false))) [0, 1, 2, 3, 4, 5, 6, 7, 8, 9, 10, 11, 12, 13, 14], w 73 (mT 72) [0, 1, 2, 3, 4, 5, 6, 7, 8, 9, 10, 11, 12, 13, 14, 15], ⟨(some 74), .mov (T 6), (some (73, true)), [0, 1, 2, 3, 4, 5, 6, 7, 8, 9, 10, 11, 12, 13, 14, 15, 16]⟩, ⟨(some 75), .bin .eql (T 74) (I 2), (some (73, true)), [0, 1, 2, 3, 4, 5, 6, 7, 8, 9, 10, 11, 12, 13, 14, 15, 16, 17]⟩, w 76 (.pick (T 73) (T 75) (.c (.bool false))) [0, 1, 2, 3, 4, 5, 6, 7, 8, 9, 10, 11, 12, 13, 14, 15, 16, 17, 18], w 77 (mT 76) [0, 1, 2, 3, 4, 5, 6, 7, 8, 9, 10, 11, 12, 13, 14, 15, 16, 17, 18, 19], ⟨(some 78), .mov (T 7), (some (77, true)), [0, 1, 2, 3, 4, 5, 6, 7, 8, 9, 10, 11, 12, 13, 14, 15, 16, 17, 18, 19, 20]⟩, ⟨(some 79), .bin .eql (T 78) (I 64), (some (77, true)), [0, 1, 2, 3, 4, 5, 6, 7, 8, 9, 10, 11, 12, 13, 14, 15, 16, 17, 18, 19, 20, 21]⟩, w 80 (.pick (T 77) (T 79) (.c (.bool false))) [0, 1, 2, 3, 4, 5, 6, 7, 8, 9, 10, 11, 12, 13, 14, 15, 16, 17, 18, 19, 20, 21, 22], w 81 (mT 80) [0, 1, 2, 3, 4, 5, 6, 7, 8, 9, 10, 11, 12, 13, 14, 15, 16, 17, 18, 19, 20, 21, 22, 23], ⟨(some 82), .mov (T 8), (some (81, true)), [0, 1, 2, 3, 4, 5, 6, 7, 8, 9, 10, 11, 12, 13, 14, 15, 16, 17, 18, 19, 20, 21, 22, 23, 24]⟩, ⟨(some 83), .bin .eql (T 82) (I 2), (some (81, true)), [0, 1, 2, 3, 4, 5, 6, 7, 8, 9, 10, 11, 12, 13, 14, 15, 16, 17, 18, 19, 20, 21, 22, 23, 24, 25]⟩, w 84 (.pick (T 81) (T 83) (.c (.bool false))) [0, 1, 2, 3, 4, 5, 6, 7, 8, 9, 10, 11, 12, 13, 14, 15, 16, 17, 18, 19, 20, 21, 22, 23, 24, 25, 26], w 85 (mT 84) [0, 1, 2, 3, 4, 5, 6, 7, 8, 9, 10, 11, 12, 13, 14, 15, 16, 17, 18, 19, 20, 21, 22, 23, 24, 25, 26, 27], ⟨(some 86), .mov (T 9), (some (85, true)), [0, 1, 2, 3, 4, 5, 6, 7, 8, 9, 10, 11, 12, 13, 14, 15, 16, 17, 18, 19, 20, 21, 22, 23, 24, 25, 26, 27, 28]⟩, ⟨(some 87), .bin .eql (T 86) (I 0), (some (85, true)), [0, 1, 2, 3, 4, 5, 6, 7, 8, 9, 10, 11, 12, 13, 14, 15, 16, 17, 18, 19, 20, 21, 22, 23, 24, 25, 26, 27, 28, 29]⟩, w 88 (.pick (T 85) (T 87) (.c (.bool false))) [0, 1, 2, 3, 4, 5, 6, 7, 8, 9, 10, 11, 12, 13, 14, 15, 16, 17, 18, 19, 20, 21, 22, 23, 24, 25, 26, 27, 28, 29, 30], w 89 (mT 88) [0, 1, 2, 3, 4, 5, 6, 7, 8, 9, 10, 11, 12, 13, 14, 15, 16, 17, 18, 19, 20, 21, 22, 23, 24, 25, 26, 27, 28, 29, 30, 31], ⟨(some 90), .mov (T 12), (some (89, true)), [0, 1, 2, 3, 4, 5, 6, 7, 8, 9, 10, 11, 12, 13, 14, 15, 16, 17, 18, 19, 20, 21, 22, 23, 24, 25, 26, 27, 28, 29, 30, 31, 32]⟩, ⟨(some 91), .bin .eql (T 90) (I 2), (some (89, true)), [0, 1, 2, 3, 4, 5, 6, 7, 8, 9, 10, 11, 12, 13, 14, 15, 16, 17, 18, 19, 20, 21, 22, 23, 24, 25, 26, 27, 28, 29, 30, 31, 32, 33]⟩, w 92 (.pick (T 89) (T 91) (.c (.bool false))) [0, 1, 2, 3, 4, 5, 6, 7, 8, 9, 10, 11, 12, 13, 14, 15, 16, 17, 18, 19, 20, 21, 22, 23, 24, 25, 26, 27, 28, 29, 30, 31, 32, 33, 34], w 93 (mT 92) [0, 1, 2, 3, 4, 5, 6, 7, 8, 9, 10, 11, 12, 13, 14, 15, 16, 17, 18, 19, 20, 21, 22, 23, 24, 25, 26, 27, 28, 29, 30, 31, 32, 33, 34, 35], ⟨(some 94), .call 11 [(I (-1))] 23, (some (93, true)), [0, 1, 2, 3, 4, 5, 6, 7, 8, 9, 10, 11, 12, 13, 14, 15, 16, 17, 18, 19, 20, 21, 22, 23, 24, 25, 26, 27, 28, 29, 30, 31, 32, 33, 34, 35, 36]⟩, ⟨(some 95), .b2s (T 94), (some (93, true)), [0, 1, 2, 3, 4, 5, 6, 7, 8, 9, 10, 11, 12, 13, 14, 15, 16, 17, 18, 19, 20, 21, 22, 23, 24, 25, 26, 27, 28, 29, 30, 31, 32, 33, 34, 35, 36, 37]⟩, ⟨(some 96), .bin .eql (T 95) (.c (.str [1])), (some (93, true)), [0, 1, 2, 3, 4, 5, 6, 7, 8, 9, 10, 11, 12, 13, 14, 15, 16, 17, 18, 19, 20, 21, 22, 23, 24, 25, 26, 27, 28, 29, 30, 31, 32, 33, 34, 35, 36, 37, 38]⟩, w 97 (.pick (T 93) (T 96) (.c (.bool false))) [0, 1, 2, 3, 4, 5, 6, 7, 8, 9, 10, 11, 12, 13, 14, 15, 16, 17, 18, 19, 20, 21, 22, 23, 24, 25, 26, 27, 28, 29, 30, 31, 32, 33, 34, 35, 36, 37, 38, 39], w 98 (mT 97) [0, 1, 2, 3, 4, 5, 6, 7, 8, 9, 10, 11, 12, 13, 14, 15, 16, 17, 18, 19, 20, 21, 22, 23, 24, 25, 26, 27, 28, 29, 30, 31, 32, 33, 34, 35, 36, 37, 38, 39, 40], ⟨(some 99), .mov (T 15), (some (98, true)), [0, 1, 2, 3, 4, 5, 6, 7, 8, 9, 10, 11, 12, 13, 14, 15, 16, 17, 18, 19, 20, 21, 22, 23, 24, 25, 26, 27, 28, 29, 30, 31, 32, 33, 34, 35, 36, 37, 38, 39, 40, 41]⟩, ⟨(some 100), .bin .eql (T 99) (I 0), (some (98, true)), [0, 1, 2, 3, 4, 5, 6, 7, 8, 9, 10, 11, 12, 13, 14, 15, 16, 17, 18, 19, 20, 21, 22, 23, 24, 25, 26, 27, 28, 29, 30, 31, 32, 33, 34, 35, 36, 37, 38, 39, 40, 41, 42]⟩, w 101 (.pick (T 98) (T 100) (.c (.bool false))) [0, 1, 2, 3, 4, 5, 6, 7, 8, 9, 10, 11, 12, 13, 14, 15, 16, 17, 18, 19, 20, 21, 22, 23, 24, 25, 26, 27, 28, 29, 30, 31, 32, 33, 34, 35, 36, 37, 38, 39, 40, 41, 42, 43], w 102 (mT 101) [0, 1, 2, 3, 4, 5, 6, 7, 8, 9, 10, 11, 12, 13, 14, 15, 16, 17, 18, 19, 20, 21, 22, 23, 24, 25, 26, 27, 28, 29, 30, 31, 32, 33, 34, 35, 36, 37, 38, 39, 40, 41, 42, 43, 44], ⟨(some 103), .mov (T 14), (some (102, true)), [0, 1, 2, 3, 4, 5, 6, 7, 8, 9, 10, 11, 12, 13, 14, 15, 16, 17, 18, 19, 20, 21, 22, 23, 24, 25, 26, 27, 28, 29, 30, 31, 32, 33, 34, 35, 36, 37, 38, 39, 40, 41, 42, 43, 44, 45]⟩, ⟨(some 104), .b2s (T 103), (some (102, true)), [0, 1, 2, 3, 4, 5, 6, 7, 8, 9, 10, 11, 12, 13, 14, 15, 16, 17, 18, 19, 20, 21, 22, 23, 24, 25, 26, 27, 28, 29, 30, 31, 32, 33, 34, 35, 36, 37, 38, 39, 40, 41, 42, 43, 44, 45, 46]⟩, ⟨(some 105), .bin .eql (T 104) (.c (.str [2, 2, 1, 0, 0, 0])), (some (102, true)), [0, 1, 2, 3, 4, 5, 6, 7, 8, 9, 10, 11, 12, 13, 14, 15, 16, 17, 18, 19, 20, 21, 22, 23, 24, 25, 26, 27, 28, 29, 30, 31, 32, 33, 34, 35, 36, 37, 38, 39, 40, 41, 42, 43, 44, 45, 46, 47]⟩, w 106 (.pick (T 102) (T 105) (.c (.bool false))) [0, 1, 2, 3, 4, 5, 6, 7, 8, 9, 10, 11, 12, 13, 14, 15, 16, 17, 18, 19, 20, 21, 22, 23, 24, 25, 26, 27, 28, 29, 30, 31, 32, 33, 34, 35, 36, 37, 38, 39, 40, 41, 42, 43, 44, 45, 46, 47, 48], w 107 (mT 106) [0, 1, 2, 3, 4, 5, 6, 7, 8, 9, 10, 11, 12, 13, 14, 15, 16, 17, 18, 19, 20, 21, 22, 23, 24, 25, 26, 27, 28, 29, 30, 31, 32, 33, 34, 35, 36, 37, 38, 39, 40, 41, 42, 43, 44, 45, 46, 47, 48, 49], ⟨(some 108), .mov (T 17), (some (107, true)), [0, 1, 2, 3, 4, 5, 6, 7, 8, 9, 10, 11, 12, 13, 14, 15, 16, 17, 18, 19, 20, 21, 22, 23, 24, 25, 26, 27, 28, 29, 30, 31, 32, 33, 34, 35, 36, 37, 38, 39, 40, 41, 42, 43, 44, 45, 46, 47, 48, 49, 50]⟩, ⟨(some 109), .bin .eql (T 108) (I 0), (some (107, true)), [0, 1, 2, 3, 4, 5, 6, 7, 8, 9, 10, 11, 12, 13, 14, 15, 16, 17, 18, 19, 20, 21, 22, 23, 24, 25, 26, 27, 28, 29, 30, 31, 32, 33, 34, 35, 36, 37, 38, 39, 40, 41, 42, 43, 44, 45, 46, 47, 48, 49, 50, 51]⟩, w 110 (.pick (T 107) (T 109) (.c (.bool false))) [0, 1, 2, 3, 4, 5, 6, 7, 8, 9, 10, 11, 12, 13, 14, 15, 16, 17, 18, 19, 20, 21, 22, 23, 24, 25, 26, 27, 28, 29, 30, 31, 32, 33, 34, 35, 36, 37, 38, 39, 40, 41, 42, 43, 44, 45, 46, 47, 48, 49, 50, 51, 52], w 111 (mT 110) [0, 1, 2, 3, 4, 5, 6, 7, 8, 9, 10, 11, 12, 13, 14, 15, 16, 17, 18, 19, 20, 21, 22, 23, 24, 25, 26, 27, 28, 29, 30, 31, 32, 33, 34, 35, 36, 37, 38, 39, 40, 41, 42, 43, 44, 45, 46, 47, 48, 49, 50, 51, 52, 53], ⟨(some 112), .mov (T 16), (some (111, true)), [0, 1, 2, 3, 4, 5, 6, 7, 8, 9, 10, 11, 12, 13, 14, 15, 16, 17, 18, 19, 20, 21, 22, 23, 24, 25, 26, 27, 28, 29, 30, 31, 32, 33, 34, 35, 36, 37, 38, 39, 40, 41, 42, 43, 44, 45, 46, 47, 48, 49, 50, 51, 52, 53, 54]⟩, ⟨(some 113), .mov (T 13), (some (111, true)), [0, 1, 2, 3, 4, 5, 6, 7, 8, 9, 10, 11, 12, 13, 14, 15, 16, 17, 18, 19, 20, 21, 22, 23, 24, 25, 26, 27, 28, 29, 30, 31, 32, 33, 34, 35, 36, 37, 38, 39, 40, 41, 42, 43, 44, 45, 46, 47, 48, 49, 50, 51, 52, 53, 54]⟩, ⟨(some 114), .call 28 [(T 112), (T 113)] 23, (some (111, true)), [0, 1, 2, 3, 4, 5, 6, 7, 8, 9, 10, 11, 12, 13, 14, 15, 16, 17, 18, 19, 20, 21, 22, 23, 24, 25, 26, 27, 28, 29, 30, 31, 32, 33, 34, 35, 36, 37, 38, 39, 40, 41, 42, 43, 44, 45, 46, 47, 48, 49, 50, 51, 52, 53, 54, 55, 56]⟩, w 115 (.pick (T 111) (T 114) (.c (.bool false))) [0, 1, 2, 3, 4, 5, 6, 7, 8, 9, 10, 11, 12, 13, 14, 15, 16, 17, 18, 19, 20, 21, 22, 23, 24, 25, 26, 27, 28, 29, 30, 31, 32, 33, 34, 35, 36, 37, 38, 39, 40, 41, 42, 43, 44, 45, 46, 47, 48, 49, 50, 51, 52, 53, 54, 55, 56, 57], w 0 (mT 115) [0, 1, 2, 3, 4, 5, 6, 7, 8, 9, 10, 11, 12, 13, 14, 15, 16, 17, 18, 19, 20, 21, 22, 23, 24, 25, 26, 27, 28, 29, 30, 31, 32, 33, 34, 35, 36, 37, 38, 39, 40, 41, 42, 43, 44, 45, 46, 47, 48, 49, 50, 51, 52, 53, 54, 55, 56, 57, 58]] true)
.ret)))))))))), none⟩
def f_wire_Number : IFun := ⟨26, 4, true, [true], [.tmp 2],
(.seq
(.reg [o 2 (.mov (.c .nils))] false)
(.seq
(.reg [o 4 (mT 0), o 5 (.toInt .u64 (T 4)), o 6 (.bin .shl (T 5) (.c (.int .u64 1))), o 7 (mT 0), o 8 (.bin .shr (T 7) (.c (.int .u64 63))), o 9 (.toInt .u64 (T 8)), o 10 (.bin .xor (T 6) (T 9)), o 3 (mT 10)] false)
(.seq
(.block 0
(.loop
(.seq
(.seq
(.reg [o 11 (mT 3), o 12 (.bin .geq (T 11) (.c (.int .u64 128)))] false)
(.cond (T 12)
.skip
(.exit 0)))
(.seq
(.block 1
(.reg [o 15 (mT 2), o 16 (mT 3), o 17 (.toInt .u8 (T 16)), o 18 (.bin .or (T 17) (.c (.int .u8 128))), o 19 (.buildSlice none [(T 18)] 0), o 20 (.append 1 (T 15) (T 19) 1), o 2 (mT 20)] false))
(.reg [o 13 (mT 3), o 14 (.bin .shr (T 13) (.c (.int .u64 7))), o 3 (mT 14)] false)))))
(.seq
(.reg [o 21 (mT 2), o 22 (mT 3), o 23 (.toInt .u8 (T 22)), o 24 (.buildSlice none [(T 23)] 2), o 25 (.append 1 (T 21) (T 24) 3), o 2 (mT 25)] false)
.ret)))), none⟩
def f_wire_Take : IFun := ⟨59, 0, true, [true], [.tmp 2, .tmp 3, .tmp 4],
(.seq
(.reg [o 2 (.mov (I 0)), o 3 (.mov (I 0)), o 4 (.mov (I 0))] false)
(.seq
(.reg [o 5 (.mov (.c (.int .u64 0)))] false)
(.seq
(.seq
(.reg [o 10 (mT 0), o 11 (.len (T 10)), o 12 (.mov (I 0))] false)
(.block 0
(.loop
(.seq
(.reg [o 13 (.bin .lss (T 12) (T 11))] false)
(.seq
(.cond (T 13)
.skip
(.exit 0))
(.seq
(.block 1
(.seq
(.reg [o 14 (mT 12), o 15 (.indexAddr 1 (T 10) (T 12)), o 16 (.load none (T 15)), o 6 (mT 14), o 7 (mT 16)] false)
(.seq
(.reg [o 17 (mT 7), o 18 (.toInt .u64 (T 17)), o 19 (.bin .andNot (T 18) (.c (.int .u64 128))), o 8 (mT 19)] false)
(.seq
(.seq
(.reg [o 20 (mT 6), o 21 (.bin .mul (I 7) (T 20)), o 9 (mT 21)] false)
(.block 2
(.seq
(.seq
(.reg [o 28 (mT 9), o 29 (.bin .geq (T 28) (I 64)), o 27 (mT 29)] false)
(.cond (T 27)
.skip
(.seq
(.reg [o 30 (mT 9), o 31 (.bin .add (T 30) (I 7)), o 32 (.bin .gtr (T 31) (I 64)), o 33 (mT 32), og (some 34) (mT 8) 33 true, og (some 35) (mT 9) 33 true, og (some 36) (.bin .sub (I 64) (T 35)) 33 true, og (some 37) (.bin .shr (T 34) (T 36)) 33 true, og (some 38) (.bin .neq (T 37) (.c (.int .u64 0))) 33 true, o 39 (.pick (T 33) (T 38) (.c (.bool false))), o 27 (mT 39)] false)
(.cond (T 27)
.skip
(.reg [o 40 (mT 7), o 41 (.bin .eql (T 40) (.c (.int .u8 0))), o 42 (mT 41), og (some 43) (mT 6) 42 true, og (some 44) (.bin .gtr (T 43) (I 0)) 42 true, o 45 (.pick (T 42) (T 44) (.c (.bool false))), o 27 (mT 45)] false)))))
(.cond (T 27)
(.seq
(.reg [o 2 (.mov (I 0)), o 3 (.mov (I 0)), o 4 (.mov (I 2))] false)
.ret)
(.reg [o 22 (mT 5), o 23 (mT 8), o 24 (mT 9), o 25 (.bin .shl (T 23) (T 24)), o 26 (.bin .or (T 22) (T 25)), o 5 (mT 26)] false)))))
(.seq
(.reg [o 46 (mT 7), o 47 (.bin .lss (T 46) (.c (.int .u8 128)))] false)
(.cond (T 47)
(.seq
(.reg [o 48 (mT 5), o 49 (.bin .shr (T 48) (.c (.int .u64 1))), o 50 (.toInt .i64 (T 49)), o 51 (mT 5), o 52 (.bin .and (T 51) (.c (.int .u64 1))), o 53 (.toInt .i64 (T 52)), o 54 (.un .neg (T 53)), o 55 (.bin .xor (T 50) (T 54)), o 56 (mT 6), o 57 (.bin .add (T 56) (I 1)), o 2 (mT 55), o 3 (mT 57), o 4 (.mov (I 0))] false)
.ret)
.skip))))))
(.reg [o 58 (.bin .add (T 12) (I 1)), o 12 (mT 58)] false)))))))
(.seq
(.reg [o 2 (.mov (I 0)), o 3 (.mov (I 0)), o 4 (.mov (I 2))] false)
.ret)))), none⟩
def f_law22_small : IFun := ⟨11, 1, true, [true], [.tmp 2],
(.seq
(.reg [o 1 (.box (some 11) (T 0) 0), o 2 (.mov (.c (.bool false)))] false)
(.seq
(.reg [o 3 (.fieldAddr (T 1) 0), o 4 (.load (some 4) (T 3)), o 5 (.call 46 [(T 4)] 1), o 6 (mT 5), og (some 7) (.fieldAddr (T 1) 4) 6 true, og (some 8) (.load none (T 7)) 6 true, og (some 9) (.call 47 [(T 8)] 1) 6 true, o 10 (.pick (T 6) (T 9) (.c (.bool false))), o 2 (mT 10)] false)
.ret)), none⟩
def f_wire_Encode : IFun := ⟨53, 8, true, [true], [.tmp 2, .tmp 3],
(.seq
(.reg [o 1 (.box (some 11) (T 0) 0), o 2 (.mov (.c .nils)), o 3 (.mov (I 0))] false)
(.seq
(.reg [w 7 (.buildSlice none [(.c (.int .u8 71)), (.c (.int .u8 65)), (.c (.int .u8 86)), (.c (.int .u8 49))] 1) [], w 8 (.same (T 7)) [0], w 9 (.fieldAddr (T 1) 0) [], w 10 (.load (some 4) (T 9)) [2], w 11 (.call 49 [(T 8), (T 10)] 2) [0, 1, 2, 3], w 12 (.fieldAddr (T 1) 4) [], w 13 (.load none (T 12)) [5], w 14 (.len (T 13)) [5, 6], w 15 (.buildSlice none [(T 14)] 3) [5, 6, 7], w 16 (.call 48 [(T 11), (T 15)] 4) [0, 1, 2, 3, 4, 5, 6, 7, 8], w 4 (mT 16) [0, 1, 2, 3, 4, 5, 6, 7, 8, 9]] true)
(.seq
(.seq
(.reg [o 17 (.fieldAddr (T 1) 4), o 18 (.load none (T 17)), o 19 (.len (T 18)), o 20 (.mov (I 0))] false)
(.block 0
(.loop
(.seq
(.reg [o 21 (.bin .lss (T 20) (T 19))] false)
(.seq
(.cond (T 21)
.skip
(.exit 0))
(.seq
(.block 1
(.seq
(.reg [o 22 (.indexAddr 1 (T 18) (T 20)), o 23 (.load none (T 22)), o 6 (mT 23)] false)
(.reg [o 24 (mT 4), o 25 (mT 6), o 26 (.call 50 [(T 24), (T 25)] 5), o 4 (mT 26)] false)))
(.reg [o 27 (.bin .add (T 20) (I 1)), o 20 (mT 27)] false)))))))
(.seq
(.reg [o 28 (mT 4), o 29 (.fieldAddr (T 1) 5), o 30 (.fieldAddr (T 29) 0), o 31 (.load none (T 30)), o 32 (.fieldAddr (T 1) 5), o 33 (.fieldAddr (T 32) 1), o 34 (.load none (T 33)), o 35 (.fieldAddr (T 1) 5), o 36 (.fieldAddr (T 35) 2), o 37 (.load none (T 36)), o 38 (.fieldAddr (T 1) 5), o 39 (.fieldAddr (T 38) 3), o 40 (.load none (T 39)), o 41 (.fieldAddr (T 1) 9), o 42 (.fieldAddr (T 41) 0), o 43 (.load none (T 42)), o 44 (.fieldAddr (T 1) 9), o 45 (.fieldAddr (T 44) 1), o 46 (.load none (T 45)), o 47 (.buildSlice none [(T 31), (T 34), (T 37), (T 40), (T 43), (T 46)] 6), o 48 (.call 48 [(T 28), (T 47)] 7), o 4 (mT 48)] false)
(.seq
(.seq
(.reg [o 49 (mT 4), o 50 (.len (T 49)), o 51 (.bin .gtr (T 50) (I 65536))] false)
(.cond (T 51)
(.seq
(.reg [o 2 (.mov (.c .nils)), o 3 (.mov (I 3))] false)
.ret)
.skip))
(.seq
(.reg [o 52 (mT 4), o 2 (mT 52), o 3 (.mov (I 0))] false)
.ret)))))), none⟩
def f_law22_task : IFun := ⟨17, 2, true, [true], [.cell (some 11) 2],
(.seq
(.reg [o 1 (.box (some 11) (T 0) 0), o 2 (.box (some 11) (.c (.agg [.nils, .nils, .nils, (.int .i64 0), .nils, (.int .i64 0), (.int .i64 0), (.int .i64 0), (.int .i64 0), (.int .i64 0), (.int .i64 0)])) 1)] false)
(.seq
(.reg [o 3 (.fieldAddr (T 1) 0), o 4 (.load (some 4) (T 3)), o 5 (.fieldAddr (T 1) 4), o 6 (.load none (T 5)), o 7 (.fieldAddr (T 1) 5), o 8 (.load (some 4) (T 7)), o 9 (.fieldAddr (T 1) 9), o 10 (.fieldAddr (T 9) 0), o 11 (.load none (T 10)), o 12 (.fieldAddr (T 1) 9), o 13 (.fieldAddr (T 12) 1), o 14 (.load none (T 13)), o 15 (.build [(.int .i64 0), (.int .i64 0)] [(0, none, (T 11)), (1, none, (T 14))]), o 16 (.build [.nils, .nils, .nils, (.int .i64 0), .nils, (.int .i64 0), (.int .i64 0), (.int .i64 0), (.int .i64 0), (.int .i64 0), (.int .i64 0)] [(0, (some 4), (T 4)), (4, none, (T 6)), (5, (some 4), (T 8)), (9, (some 2), (T 15))]), u (.store (some 11) (T 2) (T 16))] false)
.ret)), none⟩
def f_wire_Decode : IFun := ⟨48, 5, true, [true], [.cell (some 11) 2, .tmp 3],
(.seq
(.reg [o 2 (.box (some 11) (.c (.agg [.nils, .nils, .nils, (.int .i64 0), .nils, (.int .i64 0), (.int .i64 0), (.int .i64 0), (.int .i64 0), (.int .i64 0), (.int .i64 0)])) 0), o 3 (.mov (I 0))] false)
(.seq
(.seq
(.reg [o 6 (mT 0), o 7 (.len (T 6)), o 8 (.bin .gtr (T 7) (I 65536))] false)
(.cond (T 8)
(.seq
(.reg [o 9 (.build [.nils, .nils, .nils, (.int .i64 0), .nils, (.int .i64 0), (.int .i64 0), (.int .i64 0), (.int .i64 0), (.int .i64 0), (.int .i64 0)] []), u (.store (some 11) (T 2) (T 9)), o 3 (.mov (I 3))] false)
.ret)
.skip))
(.seq
(.reg [o 10 (mT 0), o 11 (.call 54 [(T 10), (.c (.str [71, 65, 86, 49]))] 1), o 4 (mT 11)] false)
(.seq
(.reg [o 12 (mT 4), o 13 (.call 55 [(T 12)] 2), o 14 (.build [.nils, .nils, .nils, (.int .i64 0), .nils, (.int .i64 0), (.int .i64 0), (.int .i64 0), (.int .i64 0), (.int .i64 0), (.int .i64 0)] [(0, (some 4), (T 13))]), o 5 (.box (some 11) (.c (.agg [.nils, .nils, .nils, (.int .i64 0), .nils, (.int .i64 0), (.int .i64 0), (.int .i64 0), (.int .i64 0), (.int .i64 0), (.int .i64 0)])) 2), u (.store (some 11) (T 5) (T 14))] false)
(.seq
(.seq
(.reg [o 15 (mT 4), o 16 (.call 56 [(T 15)] 3), o 17 (.mov (I 0))] false)
(.block 0
(.loop
(.seq
(.reg [o 18 (.bin .lss (T 17) (T 16))] false)
(.seq
(.cond (T 18)
.skip
(.exit 0))
(.seq
(.block 1
(.reg [w 19 (.fieldAddr (T 5) 4) [], w 20 (.load none (T 19)) [0], w 21 (mT 4) [], w 22 (.call 57 [(T 21)] 3) [2], w 23 (.buildSlice none [(T 22)] 3) [2, 3], w 24 (.append 1 (T 20) (T 23) 4) [0, 1, 2, 3, 4], w 25 (.fieldAddr (T 5) 4) [0, 1, 2, 3, 4, 5], ⟨none, .store none (T 25) (T 24), none, [0, 1, 2, 3, 4, 5, 6]⟩] true))
(.reg [o 26 (.bin .add (T 17) (I 1)), o 17 (mT 26)] false)))))))
(.seq
(.reg [o 27 (mT 4), o 28 (.call 58 [(T 27)] 5), o 29 (mT 4), o 30 (.call 58 [(T 29)] 5), o 31 (mT 4), o 32 (.call 58 [(T 31)] 5), o 33 (mT 4), o 34 (.call 58 [(T 33)] 5), o 35 (.build [(.int .i64 0), (.int .i64 0), (.int .i64 0), (.int .i64 0)] [(0, none, (T 28)), (1, none, (T 30)), (2, none, (T 32)), (3, none, (T 34))]), o 36 (.fieldAddr (T 5) 5), u (.store (some 4) (T 36) (T 35))] false)
(.seq
(.reg [o 37 (mT 4), o 38 (.call 58 [(T 37)] 5), o 39 (mT 4), o 40 (.call 58 [(T 39)] 5), o 41 (.build [(.int .i64 0), (.int .i64 0)] [(0, none, (T 38)), (1, none, (T 40))]), o 42 (.fieldAddr (T 5) 9), u (.store (some 2) (T 42) (T 41))] false)
(.seq
(.seq
(.reg [o 43 (mT 4), o 44 (.call 59 [(T 43)] 5), o 45 (.un .not (T 44))] false)
(.cond (T 45)
(.seq
(.reg [o 46 (.build [.nils, .nils, .nils, (.int .i64 0), .nils, (.int .i64 0), (.int .i64 0), (.int .i64 0), (.int .i64 0), (.int .i64 0), (.int .i64 0)] []), u (.store (some 11) (T 2) (T 46)), o 3 (.mov (I 2))] false)
.ret)
.skip))
(.seq
(.reg [o 47 (.load (some 11) (T 5)), u (.store (some 11) (T 2) (T 47)), o 3 (.mov (I 0))] false)
.ret))))))))), none⟩
def f_ref20_SameTask : IFun := ⟨54, 2, true, [true, true], [.tmp 4],
(.seq
(.reg [o 2 (.box (some 11) (T 0) 0), o 3 (.box (some 11) (T 1) 1), o 4 (.mov (.c (.bool false)))] false)
(.seq
(.seq
(.reg [o 6 (.fieldAddr (T 2) 0), o 7 (.load (some 4) (T 6)), o 8 (.fieldAddr (T 3) 0), o 9 (.load (some 4) (T 8)), o 10 (.call 64 [(T 7), (T 9)] 2), o 11 (.un .not (T 10)), o 12 (mT 11), og (some 13) (.fieldAddr (T 2) 5) 12 false, og (some 14) (.load (some 4) (T 13)) 12 false, og (some 15) (.fieldAddr (T 3) 5) 12 false, og (some 16) (.load (some 4) (T 15)) 12 false, og (some 17) (.eqs true [false, false, false, false] (T 14) (T 16)) 12 false, o 18 (.pick (T 12) (.c (.bool true)) (T 17)), o 19 (mT 18), og (some 20) (.fieldAddr (T 2) 9) 19 false, og (some 21) (.load (some 2) (T 20)) 19 false, og (some 22) (.fieldAddr (T 3) 9) 19 false, og (some 23) (.load (some 2) (T 22)) 19 false, og (some 24) (.eqs true [false, false] (T 21) (T 23)) 19 false, o 25 (.pick (T 19) (.c (.bool true)) (T 24)), o 26 (mT 25), og (some 27) (.fieldAddr (T 2) 4) 26 false, og (some 28) (.load none (T 27)) 26 false, og (some 29) (.len (T 28)) 26 false, og (some 30) (.fieldAddr (T 3) 4) 26 false, og (some 31) (.load none (T 30)) 26 false, og (some 32) (.len (T 31)) 26 false, og (some 33) (.bin .neq (T 29) (T 32)) 26 false, o 34 (.pick (T 26) (.c (.bool true)) (T 33))] false)
(.cond (T 34)
(.seq
(.reg [o 4 (.mov (.c (.bool false)))] false)
.ret)
.skip))
(.seq
(.seq
(.reg [o 5 (.mov (I 0))] false)
(.block 0
(.loop
(.seq
(.seq
(.reg [o 35 (mT 5), o 36 (.fieldAddr (T 2) 4), o 37 (.load none (T 36)), o 38 (.len (T 37)), o 39 (.bin .lss (T 35) (T 38))] false)
(.cond (T 39)
.skip
(.exit 0)))
(.seq
(.block 1
(.seq
(.reg [w 42 (.fieldAddr (T 2) 4) [], w 43 (.load none (T 42)) [0], w 44 (mT 5) [], w 45 (.indexAddr 1 (T 43) (T 44)) [0, 1, 2], w 46 (.load none (T 45)) [0, 1, 2, 3], w 47 (.fieldAddr (T 3) 4) [], w 48 (.load none (T 47)) [5], w 49 (mT 5) [], w 50 (.indexAddr 1 (T 48) (T 49)) [5, 6, 7], w 51 (.load none (T 50)) [5, 6, 7, 8], w 52 (.call 65 [(T 46), (T 51)] 2) [0, 1, 2, 3, 4, 5, 6, 7, 8, 9], w 53 (.un .not (T 52)) [0, 1, 2, 3, 4, 5, 6, 7, 8, 9, 10]] true)
(.cond (T 53)
(.seq
(.reg [o 4 (.mov (.c (.bool false)))] false)
.ret)
.skip)))
(.reg [o 40 (mT 5), o 41 (.bin .add (T 40) (I 1)), o 5 (mT 41)] false))))))
(.seq
(.reg [o 4 (.mov (.c (.bool true)))] false)
.ret)))), none⟩
def f_wire_Same : IFun := ⟨33, 2, true, [true, true], [.tmp 4],
(.seq
(.reg [o 2 (.box (some 11) (T 0) 0), o 3 (.box (some 11) (T 1) 1), o 4 (.mov (.c (.bool false)))] false)
(.seq
(.reg [o 5 (.mov (.c (.fn 66 [])))] false)
(.seq
(.reg [o 6 (.fieldAddr (T 2) 0), o 7 (.load (some 4) (T 6)), o 8 (.fieldAddr (T 3) 0), o 9 (.load (some 4) (T 8)), o 10 (.call 68 [(T 7), (T 9)] 2), o 11 (mT 10), og (some 12) (.fieldAddr (T 2) 4) 11 true, og (some 13) (.load none (T 12)) 11 true, og (some 14) (.fieldAddr (T 3) 4) 11 true, og (some 15) (.load none (T 14)) 11 true, og (some 16) (mT 5) 11 true, og (some 17) (.call 69 [(T 13), (T 15), (T 16)] 2) 11 true, o 18 (.pick (T 11) (T 17) (.c (.bool false))), o 19 (mT 18), og (some 20) (.fieldAddr (T 2) 5) 19 true, og (some 21) (.load (some 4) (T 20)) 19 true, og (some 22) (.fieldAddr (T 3) 5) 19 true, og (some 23) (.load (some 4) (T 22)) 19 true, og (some 24) (.eqs false [false, false, false, false] (T 21) (T 23)) 19 true, o 25 (.pick (T 19) (T 24) (.c (.bool false))), o 26 (mT 25), og (some 27) (.fieldAddr (T 2) 9) 26 true, og (some 28) (.load (some 2) (T 27)) 26 true, og (some 29) (.fieldAddr (T 3) 9) 26 true, og (some 30) (.load (some 2) (T 29)) 26 true, og (some 31) (.eqs false [false, false] (T 28) (T 30)) 26 true, o 32 (.pick (T 26) (T 31) (.c (.bool false))), o 4 (mT 32)] false)
.ret))), none⟩
def f_alike_Round : IFun := ⟨12, 0, true, [true, true], [.tmp 4],
(.seq
(.reg [o 4 (.mov (I 0))] false)
(.seq
(.reg [o 5 (mT 0), o 6 (mT 1), o 7 (.bin .rem (T 5) (T 6)), o 8 (mT 1), o 9 (.bin .add (T 7) (T 8)), o 10 (mT 1), o 11 (.bin .rem (T 9) (T 10)), o 4 (mT 11)] false)
.ret)), none⟩
def f_wire_Path : IFun := ⟨38, 5, true, [true], [.tmp 2, .tmp 3],
(.seq
(.reg [o 2 (.mov (.c .nils)), o 3 (.mov (I 0))] false)
(.seq
(.seq
(.reg [o 7 (mT 0), o 8 (.len (T 7)), o 9 (.bin .gtr (T 8) (I 1000))] false)
(.cond (T 9)
(.seq
(.reg [o 2 (.mov (.c .nils)), o 3 (.mov (I 3))] false)
.ret)
.skip))
(.seq
(.reg [o 10 (mT 0), o 11 (.len (T 10)), o 12 (.buildSlice none [(T 11)] 0), o 13 (.call 48 [(.c .nils), (T 12)] 1), o 4 (mT 13)] false)
(.seq
(.seq
(.reg [o 14 (mT 0), o 15 (.len (T 14)), o 16 (.mov (I 0))] false)
(.block 0
(.loop
(.seq
(.reg [o 17 (.bin .lss (T 16) (T 15))] false)
(.seq
(.cond (T 17)
.skip
(.exit 0))
(.seq
(.block 1
(.seq
(.reg [o 18 (.indexAddr 5 (T 14) (T 16)), o 19 (.load (some 5) (T 18)), o 6 (.box (some 5) (.c (.agg [(.int .i64 0), (.int .i64 0), (.int .i64 0), (.int .i64 0), (.int .i64 0)])) 2), u (.store (some 5) (T 6) (T 19))] false)
(.reg [o 20 (mT 4), o 21 (.fieldAddr (T 6) 0), o 22 (.load none (T 21)), o 23 (.fieldAddr (T 6) 1), o 24 (.fieldAddr (T 23) 0), o 25 (.load none (T 24)), o 26 (.fieldAddr (T 6) 1), o 27 (.fieldAddr (T 26) 1), o 28 (.load none (T 27)), o 29 (.fieldAddr (T 6) 1), o 30 (.fieldAddr (T 29) 2), o 31 (.load none (T 30)), o 32 (.fieldAddr (T 6) 4), o 33 (.load none (T 32)), o 34 (.buildSlice none [(T 22), (T 25), (T 28), (T 31), (T 33)] 3), o 35 (.call 48 [(T 20), (T 34)] 4), o 4 (mT 35)] false)))
(.reg [o 36 (.bin .add (T 16) (I 1)), o 16 (mT 36)] false)))))))
(.seq
(.reg [o 37 (mT 4), o 2 (mT 37), o 3 (.mov (I 0))] false)
.ret))))), none⟩
def f_wire_Events : IFun := ⟨29, 1, true, [true], [.tmp 2, .tmp 3],
(.seq
(.reg [o 2 (.mov (.c .nils)), o 3 (.mov (I 0))] false)
(.seq
(.seq
(.reg [o 10 (mT 0), o 11 (.call 12 [(T 10)] 0), o 9 (mT 11), o 12 (.extract (T 9) 0), o 13 (.extract (T 9) 1), o 14 (.extract (T 9) 2), o 4 (mT 12), o 5 (mT 13), o 6 (mT 14)] false)
(.seq
(.reg [o 15 (mT 6), o 16 (.bin .eql (T 15) (I 0)), o 17 (mT 16), og (some 18) (mT 4) 17 true, og (some 19) (.bin .gtr (T 18) (I 1000)) 17 true, o 20 (.pick (T 17) (T 19) (.c (.bool false)))] false)
(.cond (T 20)
(.seq
(.reg [o 2 (.mov (.c .nils)), o 3 (.mov (I 3))] false)
.ret)
.skip)))
(.seq
(.reg [o 21 (mT 0), o 22 (.call 54 [(T 21), (.c (.str []))] 0), o 7 (mT 22)] false)
(.seq
(.reg [o 23 (mT 7), o 24 (.call 71 [(T 23)] 1), o 8 (mT 24)] false)
(.seq
(.seq
(.reg [o 25 (mT 7), o 26 (.call 59 [(T 25)] 1), o 27 (.un .not (T 26))] false)
(.cond (T 27)
(.seq
(.reg [o 2 (.mov (.c .nils)), o 3 (.mov (I 2))] false)
.ret)
.skip))
(.seq
(.reg [o 28 (mT 8), o 2 (mT 28), o 3 (.mov (I 0))] false)
.ret)))))), none⟩
def f_alike_Events : IFun := ⟨26, 0, true, [true, true], [.tmp 4],
(.seq
(.reg [o 4 (.mov (.c (.bool false)))] false)
(.seq
(.seq
(.reg [o 6 (mT 0), o 7 (.len (T 6)), o 8 (mT 1), o 9 (.len (T 8)), o 10 (.bin .neq (T 7) (T 9))] false)
(.cond (T 10)
(.seq
(.reg [o 4 (.mov (.c (.bool false)))] false)
.ret)
.skip))
(.seq
(.seq
(.reg [o 5 (.mov (I 0))] false)
(.block 0
(.loop
(.seq
(.seq
(.reg [o 11 (mT 5), o 12 (mT 0), o 13 (.len (T 12)), o 14 (.bin .lss (T 11) (T 13))] false)
(.cond (T 14)
.skip
(.exit 0)))
(.seq
(.block 1
(.seq
(.reg [w 17 (mT 0) [], w 18 (mT 5) [], w 19 (.indexAddr 5 (T 17) (T 18)) [0, 1], w 20 (.load (some 5) (T 19)) [0, 1, 2], w 21 (mT 1) [], w 22 (mT 5) [], w 23 (.indexAddr 5 (T 21) (T 22)) [4, 5], w 24 (.load (some 5) (T 23)) [4, 5, 6], w 25 (.eqs true [false, false, false, false, false] (T 20) (T 24)) [0, 1, 2, 3, 4, 5, 6, 7]] true)
(.cond (T 25)
(.seq
(.reg [o 4 (.mov (.c (.bool false)))] false)
.ret)
.skip)))
(.reg [o 15 (mT 5), o 16 (.bin .add (T 15) (I 1)), o 5 (mT 16)] false))))))
(.seq
(.reg [o 4 (.mov (.c (.bool true)))] false)
.ret)))), none⟩
def f_law22_one : IFun := ⟨18, 8, false, [], [.cell (some 11) 0],
(.seq
(.reg [o 0 (.box (some 11) (.c (.agg [.nils, .nils, .nils, (.int .i64 0), .nils, (.int .i64 0), (.int .i64 0), (.int .i64 0), (.int .i64 0), (.int .i64 0), (.int .i64 0)])) 0)] false)
(.seq
(.reg [o 1 (.build [(.int .i64 0), (.int .i64 0)] [(0, none, (I 1)), (1, none, (I (-5)))]), o 2 (.build [(.int .i64 0), (.int .i64 0)] [(0, none, (I 2))]), o 3 (.buildSlice (some 2) [(T 1), (T 2)] 1), o 4 (.build [(.int .i64 0), .nils] [(1, none, (T 3))]), o 5 (.buildSlice (some 2) [(T 4)] 2), o 6 (.buildSlice none [(I 300)] 3), o 7 (.build [.nils, (.int .i64 0), (.int .i64 0), (.bool false)] [(0, none, (T 6)), (1, none, (I 2)), (2, none, (I (-1)))]), o 8 (.buildSlice (some 4) [(T 7)] 4), o 9 (.build [(.int .i64 0), (.int .i64 0), .nils] []), o 10 (.buildSlice (some 3) [(T 9)] 5), o 11 (.build [.nils, .nils, .nils, (.int .i64 0)] [(0, none, (T 5)), (1, none, (T 8)), (2, none, (T 10)), (3, none, (I 9))]), o 12 (.build [(.int .i64 0), (.int .i64 0)] [(0, none, (I 1)), (1, none, (I 1))]), o 13 (.buildSlice (some 2) [(T 12)] 6), o 14 (.buildSlice none [(T 13)] 7), o 15 (.build [(.int .i64 0), (.int .i64 0), (.int .i64 0), (.int .i64 0)] [(0, none, (I 1))]), o 16 (.build [(.int .i64 0), (.int .i64 0)] [(0, none, (I 4)), (1, none, (I 70))]), o 17 (.build [.nils, .nils, .nils, (.int .i64 0), .nils, (.int .i64 0), (.int .i64 0), (.int .i64 0), (.int .i64 0), (.int .i64 0), (.int .i64 0)] [(0, (some 4), (T 11)), (4, none, (T 14)), (5, (some 4), (T 15)), (9, (some 2), (T 16))]), u (.store (some 11) (T 0) (T 17))] false)
.ret)), none⟩
def f_alike_Small : IFun := ⟨67, 1, true, [true], [.tmp 2],
(.seq
(.reg [o 1 (.box (some 4) (T 0) 0), o 2 (.mov (.c (.bool false)))] false)
(.seq
(.seq
(.reg [o 6 (.fieldAddr (T 1) 0), o 7 (.load none (T 6)), o 8 (.len (T 7)), o 9 (.bin .gtr (T 8) (I 18)), o 10 (mT 9), og (some 11) (.fieldAddr (T 1) 1) 10 false, og (some 12) (.load none (T 11)) 10 false, og (some 13) (.len (T 12)) 10 false, og (some 14) (.bin .gtr (T 13) (I 10)) 10 false, o 15 (.pick (T 10) (.c (.bool true)) (T 14)), o 16 (mT 15), og (some 17) (.fieldAddr (T 1) 2) 16 false, og (some 18) (.load none (T 17)) 16 false, og (some 19) (.len (T 18)) 16 false, og (some 20) (.bin .gtr (T 19) (I 18)) 16 false, o 21 (.pick (T 16) (.c (.bool true)) (T 20))] false)
(.cond (T 21)
(.seq
(.reg [o 2 (.mov (.c (.bool false)))] false)
.ret)
.skip))
(.seq
(.seq
(.reg [o 3 (.mov (I 0))] false)
(.block 0
(.loop
(.seq
(.seq
(.reg [o 22 (mT 3), o 23 (.fieldAddr (T 1) 0), o 24 (.load none (T 23)), o 25 (.len (T 24)), o 26 (.bin .lss (T 22) (T 25))] false)
(.cond (T 26)
.skip
(.exit 0)))
(.seq
(.block 1
(.seq
(.reg [o 29 (.fieldAddr (T 1) 0), o 30 (.load none (T 29)), o 31 (mT 3), o 32 (.indexAddr 2 (T 30) (T 31)), o 33 (.fieldAddr (T 32) 1), o 34 (.load none (T 33)), o 35 (.len (T 34)), o 36 (.bin .gtr (T 35) (I 70))] false)
(.cond (T 36)
(.seq
(.reg [o 2 (.mov (.c (.bool false)))] false)
.ret)
.skip)))
(.reg [o 27 (mT 3), o 28 (.bin .add (T 27) (I 1)), o 3 (mT 28)] false))))))
(.seq
(.seq
(.reg [o 4 (.mov (I 0))] false)
(.block 2
(.loop
(.seq
(.seq
(.reg [o 37 (mT 4), o 38 (.fieldAddr (T 1) 1), o 39 (.load none (T 38)), o 40 (.len (T 39)), o 41 (.bin .lss (T 37) (T 40))] false)
(.cond (T 41)
.skip
(.exit 2)))
(.seq
(.block 3
(.seq
(.reg [o 44 (.fieldAddr (T 1) 1), o 45 (.load none (T 44)), o 46 (mT 4), o 47 (.indexAddr 4 (T 45) (T 46)), o 48 (.fieldAddr (T 47) 0), o 49 (.load none (T 48)), o 50 (.len (T 49)), o 51 (.bin .gtr (T 50) (I 10))] false)
(.cond (T 51)
(.seq
(.reg [o 2 (.mov (.c (.bool false)))] false)
.ret)
.skip)))
(.reg [o 42 (mT 4), o 43 (.bin .add (T 42) (I 1)), o 4 (mT 43)] false))))))
(.seq
(.seq
(.reg [o 5 (.mov (I 0))] false)
(.block 4
(.loop
(.seq
(.seq
(.reg [o 52 (mT 5), o 53 (.fieldAddr (T 1) 2), o 54 (.load none (T 53)), o 55 (.len (T 54)), o 56 (.bin .lss (T 52) (T 55))] false)
(.cond (T 56)
.skip
(.exit 4)))
(.seq
(.block 5
(.seq
(.reg [o 59 (.fieldAddr (T 1) 2), o 60 (.load none (T 59)), o 61 (mT 5), o 62 (.indexAddr 3 (T 60) (T 61)), o 63 (.fieldAddr (T 62) 2), o 64 (.load none (T 63)), o 65 (.len (T 64)), o 66 (.bin .gtr (T 65) (I 6))] false)
(.cond (T 66)
(.seq
(.reg [o 2 (.mov (.c (.bool false)))] false)
.ret)
.skip)))
(.reg [o 57 (mT 5), o 58 (.bin .add (T 57) (I 1)), o 5 (mT 58)] false))))))
(.seq
(.reg [o 2 (.mov (.c (.bool true)))] false)
.ret)))))), none⟩
def f_alike_Watches : IFun := ⟨23, 0, true, [true], [.tmp 2],
(.seq
(.reg [o 2 (.mov (.c (.bool false)))] false)
(.seq
(.seq
(.reg [o 3 (.mov (I 0))] false)
(.block 0
(.loop
(.seq
(.seq
(.reg [o 4 (mT 3), o 5 (mT 0), o 6 (.len (T 5)), o 7 (.bin .lss (T 4) (T 6)), o 8 (mT 7), og (some 9) (mT 3) 8 true, og (some 10) (.bin .lss (T 9) (I 12)) 8 true, o 11 (.pick (T 8) (T 10) (.c (.bool false)))] false)
(.cond (T 11)
.skip
(.exit 0)))
(.seq
(.block 1
(.seq
(.reg [o 14 (mT 0), o 15 (mT 3), o 16 (.indexAddr 1 (T 14) (T 15)), o 17 (.load none (T 16)), o 18 (.len (T 17)), o 19 (.bin .gtr (T 18) (I 70))] false)
(.cond (T 19)
(.seq
(.reg [o 2 (.mov (.c (.bool false)))] false)
.ret)
.skip)))
(.reg [o 12 (mT 3), o 13 (.bin .add (T 12) (I 1)), o 3 (mT 13)] false))))))
(.seq
(.reg [o 20 (mT 0), o 21 (.len (T 20)), o 22 (.bin .leq (T 21) (I 10)), o 2 (mT 22)] false)
.ret))), none⟩
def f_wire_put : IFun := ⟨19, 1, false, [false, true], [.tmp 4],
(.seq
(.reg [o 4 (.mov (.c .nils))] false)
(.seq
(.seq
(.reg [o 7 (mT 1), o 8 (.len (T 7)), o 9 (.mov (I 0))] false)
(.block 0
(.loop
(.seq
(.reg [o 10 (.bin .lss (T 9) (T 8))] false)
(.seq
(.cond (T 10)
.skip
(.exit 0))
(.seq
(.block 1
(.seq
(.reg [o 11 (.indexAddr 1 (T 7) (T 9)), o 12 (.load none (T 11)), o 6 (mT 12)] false)
(.reg [o 13 (mT 0), o 14 (mT 6), o 15 (.call 11 [(T 14)] 0), o 16 (.append 1 (T 13) (T 15) 0), o 0 (mT 16)] false)))
(.reg [o 17 (.bin .add (T 9) (I 1)), o 9 (mT 17)] false)))))))
(.seq
(.reg [o 18 (mT 0), o 4 (mT 18)] false)
.ret))), none⟩
def f_wire_putProgram : IFun := ⟨89, 21, false, [false, true], [.tmp 4],
(.seq
(.reg [o 3 (.box (some 4) (T 1) 0), o 4 (.mov (.c .nils))] false)
(.seq
(.reg [o 11 (mT 0), o 12 (.fieldAddr (T 3) 0), o 13 (.load none (T 12)), o 14 (.len (T 13)), o 15 (.buildSlice none [(T 14)] 1), o 16 (.call 48 [(T 11), (T 15)] 2), o 0 (mT 16)] false)
(.seq
(.seq
(.reg [o 17 (.fieldAddr (T 3) 0), o 18 (.load none (T 17)), o 19 (.len (T 18)), o 20 (.mov (I 0))] false)
(.block 0
(.loop
(.seq
(.reg [o 21 (.bin .lss (T 20) (T 19))] false)
(.seq
(.cond (T 21)
.skip
(.exit 0))
(.seq
(.block 1
(.seq
(.reg [o 22 (.indexAddr 2 (T 18) (T 20)), o 23 (.load (some 2) (T 22)), o 6 (.box (some 2) (.c (.agg [(.int .i64 0), .nils])) 3), u (.store (some 2) (T 6) (T 23))] false)
(.reg [w 24 (mT 0) [], w 25 (.fieldAddr (T 6) 0) [], w 26 (.load none (T 25)) [1], w 27 (.buildSlice none [(T 26)] 4) [1, 2], w 28 (.call 48 [(T 24), (T 27)] 5) [0, 1, 2, 3], w 29 (.fieldAddr (T 6) 1) [], w 30 (.load none (T 29)) [5], w 31 (.call 50 [(T 28), (T 30)] 6) [0, 1, 2, 3, 4, 5, 6], w 0 (mT 31) [0, 1, 2, 3, 4, 5, 6, 7]] true)))
(.reg [o 32 (.bin .add (T 20) (I 1)), o 20 (mT 32)] false)))))))
(.seq
(.reg [o 33 (mT 0), o 34 (.fieldAddr (T 3) 1), o 35 (.load none (T 34)), o 36 (.len (T 35)), o 37 (.buildSlice none [(T 36)] 7), o 38 (.call 48 [(T 33), (T 37)] 8), o 0 (mT 38)] false)
(.seq
(.seq
(.reg [o 39 (.fieldAddr (T 3) 1), o 40 (.load none (T 39)), o 41 (.len (T 40)), o 42 (.mov (I 0))] false)
(.block 2
(.loop
(.seq
(.reg [o 43 (.bin .lss (T 42) (T 41))] false)
(.seq
(.cond (T 43)
.skip
(.exit 2))
(.seq
(.block 3
(.seq
(.reg [o 44 (.indexAddr 4 (T 40) (T 42)), o 45 (.load (some 4) (T 44)), o 8 (.box (some 4) (.c (.agg [.nils, (.int .i64 0), (.int .i64 0), (.bool false)])) 9), u (.store (some 4) (T 8) (T 45))] false)
(.reg [w 46 (mT 0) [], w 47 (.fieldAddr (T 8) 0) [], w 48 (.load none (T 47)) [1], w 49 (.call 85 [(T 46), (T 48)] 10) [0, 1, 2], w 50 (.fieldAddr (T 8) 1) [], w 51 (.load none (T 50)) [4], w 52 (.fieldAddr (T 8) 2) [], w 53 (.load none (T 52)) [6], w 54 (.fieldAddr (T 8) 3) [], w 55 (.load none (T 54)) [8], w 56 (.call 86 [(T 55)] 11) [0, 1, 2, 3, 8, 9], w 57 (.buildSlice none [(T 51), (T 53), (T 56)] 11) [0, 1, 2, 3, 4, 5, 6, 7, 8, 9, 10], w 58 (.call 48 [(T 49), (T 57)] 12) [0, 1, 2, 3, 4, 5, 6, 7, 8, 9, 10, 11], w 0 (mT 58) [0, 1, 2, 3, 4, 5, 6, 7, 8, 9, 10, 11, 12]] true)))
(.reg [o 59 (.bin .add (T 42) (I 1)), o 42 (mT 59)] false)))))))
(.seq
(.reg [o 60 (mT 0), o 61 (.fieldAddr (T 3) 2), o 62 (.load none (T 61)), o 63 (.len (T 62)), o 64 (.buildSlice none [(T 63)] 13), o 65 (.call 48 [(T 60), (T 64)] 14), o 0 (mT 65)] false)
(.seq
(.seq
(.reg [o 66 (.fieldAddr (T 3) 2), o 67 (.load none (T 66)), o 68 (.len (T 67)), o 69 (.mov (I 0))] false)
(.block 4
(.loop
(.seq
(.reg [o 70 (.bin .lss (T 69) (T 68))] false)
(.seq
(.cond (T 70)
.skip
(.exit 4))
(.seq
(.block 5
(.seq
(.reg [o 71 (.indexAddr 3 (T 67) (T 69)), o 72 (.load (some 3) (T 71)), o 10 (.box (some 3) (.c (.agg [(.int .i64 0), (.int .i64 0), .nils])) 15), u (.store (some 3) (T 10) (T 72))] false)
(.reg [w 73 (mT 0) [], w 74 (.fieldAddr (T 10) 0) [], w 75 (.load none (T 74)) [1], w 76 (.fieldAddr (T 10) 1) [], w 77 (.load none (T 76)) [3], w 78 (.buildSlice none [(T 75), (T 77)] 16) [1, 2, 3, 4], w 79 (.call 48 [(T 73), (T 78)] 17) [0, 1, 2, 3, 4, 5], w 80 (.fieldAddr (T 10) 2) [], w 81 (.load none (T 80)) [7], w 82 (.call 85 [(T 79), (T 81)] 18) [0, 1, 2, 3, 4, 5, 6, 7, 8], w 0 (mT 82) [0, 1, 2, 3, 4, 5, 6, 7, 8, 9]] true)))
(.reg [o 83 (.bin .add (T 69) (I 1)), o 69 (mT 83)] false)))))))
(.seq
(.reg [o 84 (mT 0), o 85 (.fieldAddr (T 3) 3), o 86 (.load none (T 85)), o 87 (.buildSlice none [(T 86)] 19), o 88 (.call 48 [(T 84), (T 87)] 20), o 4 (mT 88)] false)
.ret)))))))), none⟩
def f_wire_putCode : IFun := ⟨27, 5, false, [false, true], [.tmp 4],
(.seq
(.reg [o 4 (.mov (.c .nils))] false)
(.seq
(.reg [o 7 (mT 0), o 8 (mT 1), o 9 (.len (T 8)), o 10 (.buildSlice none [(T 9)] 0), o 11 (.call 48 [(T 7), (T 10)] 1), o 0 (mT 11)] false)
(.seq
(.seq
(.reg [o 12 (mT 1), o 13 (.len (T 12)), o 14 (.mov (I 0))] false)
(.block 0
(.loop
(.seq
(.reg [o 15 (.bin .lss (T 14) (T 13))] false)
(.seq
(.cond (T 15)
.skip
(.exit 0))
(.seq
(.block 1
(.seq
(.reg [o 16 (.indexAddr 2 (T 12) (T 14)), o 17 (.load (some 2) (T 16)), o 6 (.box (some 2) (.c (.agg [(.int .i64 0), (.int .i64 0)])) 2), u (.store (some 2) (T 6) (T 17))] false)
(.reg [o 18 (mT 0), o 19 (.fieldAddr (T 6) 0), o 20 (.load none (T 19)), o 21 (.fieldAddr (T 6) 1), o 22 (.load none (T 21)), o 23 (.buildSlice none [(T 20), (T 22)] 3), o 24 (.call 48 [(T 18), (T 23)] 4), o 0 (mT 24)] false)))
(.reg [o 25 (.bin .add (T 14) (I 1)), o 14 (mT 25)] false)))))))
(.seq
(.reg [o 26 (mT 0), o 4 (mT 26)] false)
.ret)))), none⟩
def f_wire_Read : IFun := ⟨27, 2, false, [true, true], [.tmp 4],
(.seq
(.reg [o 4 (.mov (.c .nilp))] false)
(.seq
(.seq
(.reg [o 5 (mT 0), o 6 (.len (T 5)), o 7 (mT 1), o 8 (.lenS (T 7)), o 9 (.bin .lss (T 6) (T 8)), o 10 (mT 9), og (some 11) (mT 0) 10 false, og (some 12) (mT 1) 10 false, og (some 13) (.lenS (T 12)) 10 false, og (some 14) (.slice 1 (T 11) none (some (T 13)) none) 10 false, og (some 15) (.b2s (T 14)) 10 false, og (some 16) (mT 1) 10 false, og (some 17) (.bin .neq (T 15) (T 16)) 10 false, o 18 (.pick (T 10) (.c (.bool true)) (T 17))] false)
(.cond (T 18)
(.seq
(.reg [o 19 (.build [.nils, (.bool false)] [(1, none, (.c (.bool true)))]), o 20 (.box (some 2) (T 19) 0), o 4 (mT 20)] false)
.ret)
.skip))
(.seq
(.reg [o 21 (mT 0), o 22 (mT 1), o 23 (.lenS (T 22)), o 24 (.slice 1 (T 21) (some (T 23)) none none), o 25 (.build [.nils, (.bool false)] [(0, none, (T 24))]), o 26 (.box (some 2) (T 25) 1), o 4 (mT 26)] false)
.ret))), none⟩
def f_wire_Reader_program : IFun := ⟨58, 7, true, [true], [.cell (some 4) 2],
(.seq
(.reg [o 2 (.box (some 4) (.c (.agg [.nils, .nils, .nils, (.int .i64 0)])) 0)] false)
(.seq
(.seq
(.reg [o 3 (mT 0), o 4 (.call 56 [(T 3)] 1), o 5 (.mov (I 0))] false)
(.block 0
(.loop
(.seq
(.reg [o 6 (.bin .lss (T 5) (T 4))] false)
(.seq
(.cond (T 6)
.skip
(.exit 0))
(.seq
(.block 1
(.reg [w 7 (.fieldAddr (T 2) 0) [], w 8 (.load none (T 7)) [0], w 9 (mT 0) [], w 10 (.call 58 [(T 9)] 1) [2], w 11 (mT 0) [], w 12 (.call 57 [(T 11)] 1) [2, 3, 4], w 13 (.build [(.int .i64 0), .nils] [(0, none, (T 10)), (1, none, (T 12))]) [2, 3, 4, 5], w 14 (.buildSlice (some 2) [(T 13)] 1) [2, 3, 4, 5, 6], w 15 (.append 2 (T 8) (T 14) 2) [0, 1, 2, 3, 4, 5, 6, 7], w 16 (.fieldAddr (T 2) 0) [0, 1, 2, 3, 4, 5, 6, 7, 8], ⟨none, .store none (T 16) (T 15), none, [0, 1, 2, 3, 4, 5, 6, 7, 8, 9]⟩] true))
(.reg [o 17 (.bin .add (T 5) (I 1)), o 5 (mT 17)] false)))))))
(.seq
(.seq
(.reg [o 18 (mT 0), o 19 (.call 56 [(T 18)] 3), o 20 (.mov (I 0))] false)
(.block 2
(.loop
(.seq
(.reg [o 21 (.bin .lss (T 20) (T 19))] false)
(.seq
(.cond (T 21)
.skip
(.exit 2))
(.seq
(.block 3
(.reg [w 22 (.fieldAddr (T 2) 1) [], w 23 (.load none (T 22)) [0], w 24 (mT 0) [], w 25 (.call 87 [(T 24)] 3) [2], w 26 (mT 0) [], w 27 (.call 58 [(T 26)] 3) [2, 3, 4], w 28 (mT 0) [], w 29 (.call 58 [(T 28)] 3) [2, 3, 4, 5, 6], w 30 (mT 0) [], w 31 (.call 88 [(T 30)] 3) [2, 3, 4, 5, 6, 7, 8], w 32 (.build [.nils, (.int .i64 0), (.int .i64 0), (.bool false)] [(0, none, (T 25)), (1, none, (T 27)), (2, none, (T 29)), (3, none, (T 31))]) [2, 3, 4, 5, 6, 7, 8, 9], w 33 (.buildSlice (some 4) [(T 32)] 3) [2, 3, 4, 5, 6, 7, 8, 9, 10], w 34 (.append 4 (T 23) (T 33) 4) [0, 1, 2, 3, 4, 5, 6, 7, 8, 9, 10, 11], w 35 (.fieldAddr (T 2) 1) [0, 1, 2, 3, 4, 5, 6, 7, 8, 9, 10, 11, 12], ⟨none, .store none (T 35) (T 34), none, [0, 1, 2, 3, 4, 5, 6, 7, 8, 9, 10, 11, 12, 13]⟩] true))
(.reg [o 36 (.bin .add (T 20) (I 1)), o 20 (mT 36)] false)))))))
(.seq
(.seq
(.reg [o 37 (mT 0), o 38 (.call 56 [(T 37)] 5), o 39 (.mov (I 0))] false)
(.block 4
(.loop
(.seq
(.reg [o 40 (.bin .lss (T 39) (T 38))] false)
(.seq
(.cond (T 40)
.skip
(.exit 4))
(.seq
(.block 5
(.reg [w 41 (.fieldAddr (T 2) 2) [], w 42 (.load none (T 41)) [0], w 43 (mT 0) [], w 44 (.call 58 [(T 43)] 5) [2], w 45 (mT 0) [], w 46 (.call 58 [(T 45)] 5) [2, 3, 4], w 47 (mT 0) [], w 48 (.call 87 [(T 47)] 5) [2, 3, 4, 5, 6], w 49 (.build [(.int .i64 0), (.int .i64 0), .nils] [(0, none, (T 44)), (1, none, (T 46)), (2, none, (T 48))]) [2, 3, 4, 5, 6, 7], w 50 (.buildSlice (some 3) [(T 49)] 5) [2, 3, 4, 5, 6, 7, 8], w 51 (.append 3 (T 42) (T 50) 6) [0, 1, 2, 3, 4, 5, 6, 7, 8, 9], w 52 (.fieldAddr (T 2) 2) [0, 1, 2, 3, 4, 5, 6, 7, 8, 9, 10], ⟨none, .store none (T 52) (T 51), none, [0, 1, 2, 3, 4, 5, 6, 7, 8, 9, 10, 11]⟩] true))
(.reg [o 53 (.bin .add (T 39) (I 1)), o 39 (mT 53)] false)))))))
(.seq
(.reg [o 54 (mT 0), o 55 (.call 58 [(T 54)] 7), o 56 (.fieldAddr (T 2) 3), u (.store none (T 56) (T 55))] false)
(.seq
(.reg [o 57 (.load (some 4) (T 2)), u (.store (some 4) (T 2) (T 57))] false)
.ret)))))), none⟩
def f_wire_Reader_Count : IFun := ⟨31, 0, true, [true], [.tmp 2],
(.seq
(.reg [o 2 (.mov (I 0))] false)
(.seq
(.reg [o 4 (mT 0), o 5 (.call 58 [(T 4)] 0), o 3 (mT 5)] false)
(.seq
(.seq
(.reg [o 6 (mT 0), o 7 (mT 0), o 8 (.nilchk (T 7)), o 9 (.fieldAddr (T 8) 1), o 10 (.load none (T 9)), o 11 (mT 10), og (some 12) (mT 3) 11 false, og (some 13) (.bin .lss (T 12) (I 0)) 11 false, o 14 (.pick (T 11) (.c (.bool true)) (T 13)), o 15 (mT 14), og (some 16) (mT 3) 15 false, og (some 17) (mT 0) 15 false, og (some 18) (.nilchk (T 17)) 15 false, og (some 19) (.fieldAddr (T 18) 0) 15 false, og (some 20) (.load none (T 19)) 15 false, og (some 21) (.len (T 20)) 15 false, og (some 22) (.bin .gtr (T 16) (T 21)) 15 false, o 23 (.pick (T 15) (.c (.bool true)) (T 22)), o 24 (.nilchk (T 6)), o 25 (.fieldAddr (T 24) 1), u (.store none (T 25) (T 23))] false)
(.seq
(.reg [o 26 (mT 0), o 27 (.nilchk (T 26)), o 28 (.fieldAddr (T 27) 1), o 29 (.load none (T 28))] false)
(.cond (T 29)
(.seq
(.reg [o 2 (.mov (I 0))] false)
.ret)
.skip)))
(.seq
(.reg [o 30 (mT 3), o 2 (mT 30)] false)
.ret)))), none⟩
def f_wire_Reader_code : IFun := ⟨17, 2, true, [true], [.tmp 2],
(.seq
(.reg [o 2 (.mov (.c .nils))] false)
(.seq
(.seq
(.reg [o 3 (mT 0), o 4 (.call 56 [(T 3)] 0), o 5 (.mov (I 0))] false)
(.block 0
(.loop
(.seq
(.reg [o 6 (.bin .lss (T 5) (T 4))] false)
(.seq
(.cond (T 6)
.skip
(.exit 0))
(.seq
(.block 1
(.reg [o 7 (mT 2), o 8 (mT 0), o 9 (.call 58 [(T 8)] 0), o 10 (mT 0), o 11 (.call 58 [(T 10)] 0), o 12 (.build [(.int .i64 0), (.int .i64 0)] [(0, none, (T 9)), (1, none, (T 11))]), o 13 (.buildSlice (some 2) [(T 12)] 0), o 14 (.append 2 (T 7) (T 13) 1), o 2 (mT 14)] false))
(.reg [o 15 (.bin .add (T 5) (I 1)), o 5 (mT 15)] false)))))))
(.seq
(.reg [o 16 (mT 2), o 2 (mT 16)] false)
.ret))), none⟩
def f_wire_Reader_Num : IFun := ⟨40, 0, true, [true], [.tmp 2],
(.seq
(.reg [o 2 (.mov (I 0))] false)
(.seq
(.reg [o 7 (mT 0), o 8 (.nilchk (T 7)), o 9 (.fieldAddr (T 8) 0), o 10 (.load none (T 9)), o 11 (.call 12 [(T 10)] 0), o 6 (mT 11), o 12 (.extract (T 6) 0), o 13 (.extract (T 6) 1), o 14 (.extract (T 6) 2), o 3 (mT 12), o 4 (mT 13), o 5 (mT 14)] false)
(.seq
(.seq
(.reg [o 15 (mT 0), o 16 (mT 0), o 17 (.nilchk (T 16)), o 18 (.fieldAddr (T 17) 1), o 19 (.load none (T 18)), o 20 (mT 19), og (some 21) (mT 5) 20 false, og (some 22) (.bin .neq (T 21) (I 0)) 20 false, o 23 (.pick (T 20) (.c (.bool true)) (T 22)), o 24 (.nilchk (T 15)), o 25 (.fieldAddr (T 24) 1), u (.store none (T 25) (T 23))] false)
(.seq
(.reg [o 26 (mT 0), o 27 (.nilchk (T 26)), o 28 (.fieldAddr (T 27) 1), o 29 (.load none (T 28))] false)
(.cond (T 29)
(.seq
(.reg [o 2 (.mov (I 0))] false)
.ret)
.skip)))
(.seq
(.reg [o 30 (mT 0), o 31 (mT 0), o 32 (.nilchk (T 31)), o 33 (.fieldAddr (T 32) 0), o 34 (.load none (T 33)), o 35 (mT 4), o 36 (.slice 1 (T 34) (some (T 35)) none none), o 37 (.nilchk (T 30)), o 38 (.fieldAddr (T 37) 0), u (.store none (T 38) (T 36))] false)
(.seq
(.reg [o 39 (mT 3), o 2 (mT 39)] false)
.ret))))), none⟩
def f_wire_Reader_Good : IFun := ⟨16, 0, true, [true], [.tmp 2],
(.seq
(.reg [o 2 (.mov (.c (.bool false)))] false)
(.seq
(.reg [o 3 (mT 0), o 4 (.nilchk (T 3)), o 5 (.fieldAddr (T 4) 1), o 6 (.load none (T 5)), o 7 (.un .not (T 6)), o 8 (mT 7), og (some 9) (mT 0) 8 true, og (some 10) (.nilchk (T 9)) 8 true, og (some 11) (.fieldAddr (T 10) 0) 8 true, og (some 12) (.load none (T 11)) 8 true, og (some 13) (.len (T 12)) 8 true, og (some 14) (.bin .eql (T 13) (I 0)) 8 true, o 15 (.pick (T 8) (T 14) (.c (.bool false))), o 2 (mT 15)] false)
.ret)), none⟩
def f_ref1_SameProg : IFun := ⟨120, 4, true, [true, true], [.tmp 4],
(.seq
(.reg [o 2 (.box (some 4) (T 0) 0), o 3 (.box (some 4) (T 1) 1), o 4 (.mov (.c (.bool false)))] false)
(.seq
(.seq
(.reg [o 9 (.fieldAddr (T 2) 0), o 10 (.load none (T 9)), o 11 (.len (T 10)), o 12 (.fieldAddr (T 3) 0), o 13 (.load none (T 12)), o 14 (.len (T 13)), o 15 (.bin .neq (T 11) (T 14)), o 16 (mT 15), og (some 17) (.fieldAddr (T 2) 1) 16 false, og (some 18) (.load none (T 17)) 16 false, og (some 19) (.len (T 18)) 16 false, og (some 20) (.fieldAddr (T 3) 1) 16 false, og (some 21) (.load none (T 20)) 16 false, og (some 22) (.len (T 21)) 16 false, og (some 23) (.bin .neq (T 19) (T 22)) 16 false, o 24 (.pick (T 16) (.c (.bool true)) (T 23)), o 25 (mT 24), og (some 26) (.fieldAddr (T 2) 3) 25 false, og (some 27) (.load none (T 26)) 25 false, og (some 28) (.fieldAddr (T 3) 3) 25 false, og (some 29) (.load none (T 28)) 25 false, og (some 30) (.bin .neq (T 27) (T 29)) 25 false, o 31 (.pick (T 25) (.c (.bool true)) (T 30)), o 32 (mT 31), og (some 33) (.fieldAddr (T 2) 2) 32 false, og (some 34) (.load none (T 33)) 32 false, og (some 35) (.fieldAddr (T 3) 2) 32 false, og (some 36) (.load none (T 35)) 32 false, og (some 37) (.call 89 [(T 34), (T 36)] 2) 32 false, og (some 38) (.un .not (T 37)) 32 false, o 39 (.pick (T 32) (.c (.bool true)) (T 38))] false)
(.cond (T 39)
(.seq
(.reg [o 4 (.mov (.c (.bool false)))] false)
.ret)
.skip))
(.seq
(.seq
(.reg [o 5 (.mov (I 0))] false)
(.block 0
(.loop
(.seq
(.seq
(.reg [o 40 (mT 5), o 41 (.fieldAddr (T 2) 0), o 42 (.load none (T 41)), o 43 (.len (T 42)), o 44 (.bin .lss (T 40) (T 43))] false)
(.cond (T 44)
.skip
(.exit 0)))
(.seq
(.block 1
(.seq
(.reg [w 47 (.fieldAddr (T 2) 0) [], w 48 (.load none (T 47)) [0], w 49 (mT 5) [], w 50 (.indexAddr 2 (T 48) (T 49)) [0, 1, 2], w 51 (.fieldAddr (T 50) 0) [0, 1, 2, 3], w 52 (.load none (T 51)) [0, 1, 2, 3, 4], w 53 (.fieldAddr (T 3) 0) [], w 54 (.load none (T 53)) [6], w 55 (mT 5) [], w 56 (.indexAddr 2 (T 54) (T 55)) [6, 7, 8], w 57 (.fieldAddr (T 56) 0) [6, 7, 8, 9], w 58 (.load none (T 57)) [6, 7, 8, 9, 10], w 59 (.bin .neq (T 52) (T 58)) [0, 1, 2, 3, 4, 5, 6, 7, 8, 9, 10, 11], w 60 (mT 59) [0, 1, 2, 3, 4, 5, 6, 7, 8, 9, 10, 11, 12], ⟨(some 61), .fieldAddr (T 2) 0, (some (60, false)), [0, 1, 2, 3, 4, 5, 6, 7, 8, 9, 10, 11, 12, 13]⟩, ⟨(some 62), .load none (T 61), (some (60, false)), [0, 1, 2, 3, 4, 5, 6, 7, 8, 9, 10, 11, 12, 13, 14]⟩, ⟨(some 63), .mov (T 5), (some (60, false)), [0, 1, 2, 3, 4, 5, 6, 7, 8, 9, 10, 11, 12, 13]⟩, ⟨(some 64), .indexAddr 2 (T 62) (T 63), (some (60, false)), [0, 1, 2, 3, 4, 5, 6, 7, 8, 9, 10, 11, 12, 13, 14, 15, 16]⟩, ⟨(some 65), .fieldAddr (T 64) 1, (some (60, false)), [0, 1, 2, 3, 4, 5, 6, 7, 8, 9, 10, 11, 12, 13, 14, 15, 16, 17]⟩, ⟨(some 66), .load none (T 65), (some (60, false)), [0, 1, 2, 3, 4, 5, 6, 7, 8, 9, 10, 11, 12, 13, 14, 15, 16, 17, 18]⟩, ⟨(some 67), .fieldAddr (T 3) 0, (some (60, false)), [0, 1, 2, 3, 4, 5, 6, 7, 8, 9, 10, 11, 12, 13]⟩, ⟨(some 68), .load none (T 67), (some (60, false)), [0, 1, 2, 3, 4, 5, 6, 7, 8, 9, 10, 11, 12, 13, 20]⟩, ⟨(some 69), .mov (T 5), (some (60, false)), [0, 1, 2, 3, 4, 5, 6, 7, 8, 9, 10, 11, 12, 13]⟩, ⟨(some 70), .indexAddr 2 (T 68) (T 69), (some (60, false)), [0, 1, 2, 3, 4, 5, 6, 7, 8, 9, 10, 11, 12, 13, 20, 21, 22]⟩, ⟨(some 71), .fieldAddr (T 70) 1, (some (60, false)), [0, 1, 2, 3, 4, 5, 6, 7, 8, 9, 10, 11, 12, 13, 20, 21, 22, 23]⟩, ⟨(some 72), .load none (T 71), (some (60, false)), [0, 1, 2, 3, 4, 5, 6, 7, 8, 9, 10, 11, 12, 13, 20, 21, 22, 23, 24]⟩, ⟨(some 73), .call 65 [(T 66), (T 72)] 2, (some (60, false)), [0, 1, 2, 3, 4, 5, 6, 7, 8, 9, 10, 11, 12, 13, 14, 15, 16, 17, 18, 19, 20, 21, 22, 23, 24, 25]⟩, ⟨(some 74), .un .not (T 73), (some (60, false)), [0, 1, 2, 3, 4, 5, 6, 7, 8, 9, 10, 11, 12, 13, 14, 15, 16, 17, 18, 19, 20, 21, 22, 23, 24, 25, 26]⟩, w 75 (.pick (T 60) (.c (.bool true)) (T 74)) [0, 1, 2, 3, 4, 5, 6, 7, 8, 9, 10, 11, 12, 13, 14, 15, 16, 17, 18, 19, 20, 21, 22, 23, 24, 25, 26, 27]] true)
(.cond (T 75)
(.seq
(.reg [o 4 (.mov (.c (.bool false)))] false)
.ret)
.skip)))
(.reg [o 45 (mT 5), o 46 (.bin .add (T 45) (I 1)), o 5 (mT 46)] false))))))
(.seq
(.seq
(.reg [o 6 (.mov (I 0))] false)
(.block 2
(.loop
(.seq
(.seq
(.reg [o 76 (mT 6), o 77 (.fieldAddr (T 2) 1), o 78 (.load none (T 77)), o 79 (.len (T 78)), o 80 (.bin .lss (T 76) (T 79))] false)
(.cond (T 80)
.skip
(.exit 2)))
(.seq
(.block 3
(.seq
(.reg [w 83 (.fieldAddr (T 2) 1) [], w 84 (.load none (T 83)) [0], w 85 (mT 6) [], w 86 (.indexAddr 4 (T 84) (T 85)) [0, 1, 2], w 87 (.load (some 4) (T 86)) [0, 1, 2, 3], w 88 (.fieldAddr (T 3) 1) [], w 89 (.load none (T 88)) [5], w 90 (mT 6) [], w 91 (.indexAddr 4 (T 89) (T 90)) [5, 6, 7], w 92 (.load (some 4) (T 91)) [5, 6, 7, 8], w 7 (.box (some 4) (.c (.agg [.nils, (.int .i64 0), (.int .i64 0), (.bool false)])) 2) [], w 8 (.box (some 4) (.c (.agg [.nils, (.int .i64 0), (.int .i64 0), (.bool false)])) 3) [], ⟨none, .store (some 4) (T 7) (T 87), none, [0, 1, 2, 3, 4, 10, 11]⟩, ⟨none, .store (some 4) (T 8) (T 92), none, [0, 1, 2, 3, 4, 5, 6, 7, 8, 9, 10, 11, 12]⟩] true)
(.seq
(.reg [o 93 (.fieldAddr (T 7) 0), o 94 (.load none (T 93)), o 95 (.fieldAddr (T 8) 0), o 96 (.load none (T 95)), o 97 (.call 90 [(T 94), (T 96)] 4), o 98 (.un .not (T 97)), o 99 (mT 98), og (some 100) (.fieldAddr (T 7) 1) 99 false, og (some 101) (.load none (T 100)) 99 false, og (some 102) (.fieldAddr (T 8) 1) 99 false, og (some 103) (.load none (T 102)) 99 false, og (some 104) (.bin .neq (T 101) (T 103)) 99 false, o 105 (.pick (T 99) (.c (.bool true)) (T 104)), o 106 (mT 105), og (some 107) (.fieldAddr (T 7) 2) 106 false, og (some 108) (.load none (T 107)) 106 false, og (some 109) (.fieldAddr (T 8) 2) 106 false, og (some 110) (.load none (T 109)) 106 false, og (some 111) (.bin .neq (T 108) (T 110)) 106 false, o 112 (.pick (T 106) (.c (.bool true)) (T 111)), o 113 (mT 112), og (some 114) (.fieldAddr (T 7) 3) 113 false, og (some 115) (.load none (T 114)) 113 false, og (some 116) (.fieldAddr (T 8) 3) 113 false, og (some 117) (.load none (T 116)) 113 false, og (some 118) (.eqb true (T 115) (T 117)) 113 false, o 119 (.pick (T 113) (.c (.bool true)) (T 118))] false)
(.cond (T 119)
(.seq
(.reg [o 4 (.mov (.c (.bool false)))] false)
.ret)
.skip))))
(.reg [o 81 (mT 6), o 82 (.bin .add (T 81) (I 1)), o 6 (mT 82)] false))))))
(.seq
(.reg [o 4 (.mov (.c (.bool true)))] false)
.ret))))), none⟩
def f_ref1_Code : IFun := ⟨26, 0, true, [true, true], [.tmp 4],
(.seq
(.reg [o 4 (.mov (.c (.bool false)))] false)
(.seq
(.seq
(.reg [o 6 (mT 0), o 7 (.len (T 6)), o 8 (mT 1), o 9 (.len (T 8)), o 10 (.bin .neq (T 7) (T 9))] false)
(.cond (T 10)
(.seq
(.reg [o 4 (.mov (.c (.bool false)))] false)
.ret)
.skip))
(.seq
(.seq
(.reg [o 5 (.mov (I 0))] false)
(.block 0
(.loop
(.seq
(.seq
(.reg [o 11 (mT 5), o 12 (mT 0), o 13 (.len (T 12)), o 14 (.bin .lss (T 11) (T 13))] false)
(.cond (T 14)
.skip
(.exit 0)))
(.seq
(.block 1
(.seq
(.reg [w 17 (mT 0) [], w 18 (mT 5) [], w 19 (.indexAddr 2 (T 17) (T 18)) [0, 1], w 20 (.load (some 2) (T 19)) [0, 1, 2], w 21 (mT 1) [], w 22 (mT 5) [], w 23 (.indexAddr 2 (T 21) (T 22)) [4, 5], w 24 (.load (some 2) (T 23)) [4, 5, 6], w 25 (.eqs true [false, false] (T 20) (T 24)) [0, 1, 2, 3, 4, 5, 6, 7]] true)
(.cond (T 25)
(.seq
(.reg [o 4 (.mov (.c (.bool false)))] false)
.ret)
.skip)))
(.reg [o 15 (mT 5), o 16 (.bin .add (T 15) (I 1)), o 5 (mT 16)] false))))))
(.seq
(.reg [o 4 (.mov (.c (.bool true)))] false)
.ret)))), none⟩
def f_wire_Same_1 : IFun := ⟨8, 0, true, [], [.tmp 4],
(.seq
(.reg [o 4 (.mov (.c (.bool false)))] false)
(.seq
(.reg [o 5 (mT 0), o 6 (mT 1), o 7 (.call 67 [(T 5), (T 6)] 0), o 4 (mT 7)] false)
.ret)), none⟩
def f_slices_Equal_api_Watch_api_Instr : IFun := ⟨26, 0, true, [true, true], [.tmp 4],
(.seq
(.reg [o 4 (.mov (.c (.bool false)))] false)
(.seq
(.seq
(.reg [o 6 (mT 0), o 7 (.len (T 6)), o 8 (mT 1), o 9 (.len (T 8)), o 10 (.bin .neq (T 7) (T 9))] false)
(.cond (T 10)
(.seq
(.reg [o 4 (.mov (.c (.bool false)))] false)
.ret)
.skip))
(.seq
(.seq
(.reg [o 11 (mT 0), o 12 (.len (T 11)), o 13 (.mov (I 0))] false)
(.block 0
(.loop
(.seq
(.reg [o 14 (.bin .lss (T 13) (T 12))] false)
(.seq
(.cond (T 14)
.skip
(.exit 0))
(.seq
(.block 1
(.seq
(.reg [o 15 (mT 13), o 5 (mT 15)] false)
(.seq
(.reg [w 16 (mT 0) [], w 17 (mT 5) [], w 18 (.indexAddr 2 (T 16) (T 17)) [0, 1], w 19 (.load (some 2) (T 18)) [0, 1, 2], w 20 (mT 1) [], w 21 (mT 5) [], w 22 (.indexAddr 2 (T 20) (T 21)) [4, 5], w 23 (.load (some 2) (T 22)) [4, 5, 6], w 24 (.eqs true [false, false] (T 19) (T 23)) [0, 1, 2, 3, 4, 5, 6, 7]] true)
(.cond (T 24)
(.seq
(.reg [o 4 (.mov (.c (.bool false)))] false)
.ret)
.skip))))
(.reg [o 25 (.bin .add (T 13) (I 1)), o 13 (mT 25)] false)))))))
(.seq
(.reg [o 4 (.mov (.c (.bool true)))] false)
.ret)))), none⟩
def f_prog_Same : IFun := ⟨31, 2, true, [true, true], [.tmp 4],
(.seq
(.reg [o 2 (.box (some 4) (T 0) 0), o 3 (.box (some 4) (T 1) 1), o 4 (.mov (.c (.bool false)))] false)
(.seq
(.reg [o 5 (.fieldAddr (T 2) 0), o 6 (.load none (T 5)), o 7 (.fieldAddr (T 3) 0), o 8 (.load none (T 7)), o 9 (.call 91 [(T 6), (T 8), (.c (.fn 92 []))] 2), o 10 (mT 9), og (some 11) (.fieldAddr (T 2) 1) 10 true, og (some 12) (.load none (T 11)) 10 true, og (some 13) (.fieldAddr (T 3) 1) 10 true, og (some 14) (.load none (T 13)) 10 true, og (some 15) (.call 93 [(T 12), (T 14), (.c (.fn 94 []))] 2) 10 true, o 16 (.pick (T 10) (T 15) (.c (.bool false))), o 17 (mT 16), og (some 18) (.fieldAddr (T 2) 2) 17 true, og (some 19) (.load none (T 18)) 17 true, og (some 20) (.fieldAddr (T 3) 2) 17 true, og (some 21) (.load none (T 20)) 17 true, og (some 22) (.call 95 [(T 19), (T 21), (.c (.fn 84 []))] 2) 17 true, o 23 (.pick (T 17) (T 22) (.c (.bool false))), o 24 (mT 23), og (some 25) (.fieldAddr (T 2) 3) 24 true, og (some 26) (.load none (T 25)) 24 true, og (some 27) (.fieldAddr (T 3) 3) 24 true, og (some 28) (.load none (T 27)) 24 true, og (some 29) (.bin .eql (T 26) (T 28)) 24 true, o 30 (.pick (T 24) (T 29) (.c (.bool false))), o 4 (mT 30)] false)
.ret)), none⟩
def f_slices_EqualFunc_api_Watch_api_Watch_api_Watch_api_Watch : IFun := ⟨32, 2, true, [true, true, true], [.tmp 6],
(.seq
(.reg [o 6 (.mov (.c (.bool false)))] false)
(.seq
(.seq
(.reg [o 10 (mT 0), o 11 (.len (T 10)), o 12 (mT 1), o 13 (.len (T 12)), o 14 (.bin .neq (T 11) (T 13))] false)
(.cond (T 14)
(.seq
(.reg [o 6 (.mov (.c (.bool false)))] false)
.ret)
.skip))
(.seq
(.seq
(.reg [o 15 (mT 0), o 16 (.len (T 15)), o 17 (.mov (I 0))] false)
(.block 0
(.loop
(.seq
(.reg [o 18 (.bin .lss (T 17) (T 16))] false)
(.seq
(.cond (T 18)
.skip
(.exit 0))
(.seq
(.block 1
(.seq
(.reg [o 19 (mT 17), o 20 (.indexAddr 1 (T 15) (T 17)), o 21 (.load none (T 20)), o 7 (mT 19), o 8 (mT 21)] false)
(.seq
(.reg [o 22 (mT 1), o 23 (mT 7), o 24 (.indexAddr 1 (T 22) (T 23)), o 25 (.load none (T 24)), o 9 (mT 25)] false)
(.seq
(.reg [o 26 (mT 2), o 27 (mT 8), o 28 (mT 9), o 29 (.callv (T 26) [(T 27), (T 28)] 0), o 30 (.un .not (T 29))] false)
(.cond (T 30)
(.seq
(.reg [o 6 (.mov (.c (.bool false)))] false)
.ret)
.skip)))))
(.reg [o 31 (.bin .add (T 17) (I 1)), o 17 (mT 31)] false)))))))
(.seq
(.reg [o 6 (.mov (.c (.bool true)))] false)
.ret)))), none⟩
def f_wire_Reader_Events : IFun := ⟨28, 3, true, [true], [.tmp 2],
(.seq
(.reg [o 2 (.mov (.c .nils))] false)
(.seq
(.seq
(.reg [o 4 (mT 0), o 5 (.call 56 [(T 4)] 0), o 6 (.mov (I 0))] false)
(.block 0
(.loop
(.seq
(.reg [o 7 (.bin .lss (T 6) (T 5))] false)
(.seq
(.cond (T 7)
.skip
(.exit 0))
(.seq
(.block 1
(.seq
(.reg [o 8 (mT 0), o 9 (.call 58 [(T 8)] 0), o 10 (.build [(.int .i64 0), (.int .i64 0), (.int .i64 0), (.int .i64 0), (.int .i64 0)] [(0, none, (T 9))]), o 3 (.box (some 5) (.c (.agg [(.int .i64 0), (.int .i64 0), (.int .i64 0), (.int .i64 0), (.int .i64 0)])) 0), u (.store (some 5) (T 3) (T 10))] false)
(.seq
(.reg [o 11 (mT 0), o 12 (.call 58 [(T 11)] 1), o 13 (mT 0), o 14 (.call 58 [(T 13)] 1), o 15 (mT 0), o 16 (.call 58 [(T 15)] 1), o 17 (.build [(.int .i64 0), (.int .i64 0), (.int .i64 0)] [(0, none, (T 12)), (1, none, (T 14)), (2, none, (T 16))]), o 18 (.fieldAddr (T 3) 1), u (.store (some 3) (T 18) (T 17))] false)
(.seq
(.reg [o 19 (mT 0), o 20 (.call 58 [(T 19)] 1), o 21 (.fieldAddr (T 3) 4), u (.store none (T 21) (T 20))] false)
(.reg [o 22 (mT 2), o 23 (.load (some 5) (T 3)), o 24 (.buildSlice (some 5) [(T 23)] 1), o 25 (.append 5 (T 22) (T 24) 2), o 2 (mT 25)] false)))))
(.reg [o 26 (.bin .add (T 6) (I 1)), o 6 (mT 26)] false)))))))
(.seq
(.reg [o 27 (mT 2), o 2 (mT 27)] false)
.ret))), none⟩
def f_ref1_SameNote : IFun := ⟨24, 2, true, [true, true], [.tmp 4],
(.seq
(.reg [o 2 (.box (some 3) (T 0) 0), o 3 (.box (some 3) (T 1) 1), o 4 (.mov (.c (.bool false)))] false)
(.seq
(.reg [o 5 (.fieldAddr (T 2) 0), o 6 (.load none (T 5)), o 7 (.fieldAddr (T 3) 0), o 8 (.load none (T 7)), o 9 (.bin .eql (T 6) (T 8)), o 10 (mT 9), og (some 11) (.fieldAddr (T 2) 1) 10 true, og (some 12) (.load none (T 11)) 10 true, og (some 13) (.fieldAddr (T 3) 1) 10 true, og (some 14) (.load none (T 13)) 10 true, og (some 15) (.bin .eql (T 12) (T 14)) 10 true, o 16 (.pick (T 10) (T 15) (.c (.bool false))), o 17 (mT 16), og (some 18) (.fieldAddr (T 2) 2) 17 true, og (some 19) (.load none (T 18)) 17 true, og (some 20) (.fieldAddr (T 3) 2) 17 true, og (some 21) (.load none (T 20)) 17 true, og (some 22) (.call 90 [(T 19), (T 21)] 2) 17 true, o 23 (.pick (T 17) (T 22) (.c (.bool false))), o 4 (mT 23)] false)
.ret)), none⟩
def f_prog_SameNote : IFun := ⟨24, 2, true, [true, true], [.tmp 4],
(.seq
(.reg [o 2 (.box (some 3) (T 0) 0), o 3 (.box (some 3) (T 1) 1), o 4 (.mov (.c (.bool false)))] false)
(.seq
(.reg [o 5 (.fieldAddr (T 2) 0), o 6 (.load none (T 5)), o 7 (.fieldAddr (T 3) 0), o 8 (.load none (T 7)), o 9 (.bin .eql (T 6) (T 8)), o 10 (mT 9), og (some 11) (.fieldAddr (T 2) 1) 10 true, og (some 12) (.load none (T 11)) 10 true, og (some 13) (.fieldAddr (T 3) 1) 10 true, og (some 14) (.load none (T 13)) 10 true, og (some 15) (.bin .eql (T 12) (T 14)) 10 true, o 16 (.pick (T 10) (T 15) (.c (.bool false))), o 17 (mT 16), og (some 18) (.fieldAddr (T 2) 2) 17 true, og (some 19) (.load none (T 18)) 17 true, og (some 20) (.fieldAddr (T 3) 2) 17 true, og (some 21) (.load none (T 20)) 17 true, og (some 22) (.call 100 [(T 19), (T 21)] 2) 17 true, o 23 (.pick (T 17) (T 22) (.c (.bool false))), o 4 (mT 23)] false)
.ret)), none⟩
def f_wire_putNumbers : IFun := ⟨12, 3, false, [false, true], [.tmp 4],
(.seq
(.reg [o 4 (.mov (.c .nils))] false)
(.seq
(.reg [o 5 (mT 0), o 6 (mT 1), o 7 (.len (T 6)), o 8 (.buildSlice none [(T 7)] 0), o 9 (.call 48 [(T 5), (T 8)] 1), o 10 (mT 1), o 11 (.call 48 [(T 9), (T 10)] 2), o 4 (mT 11)] false)
.ret)), none⟩
def f_wire_flag : IFun := ⟨4, 0, true, [true], [.tmp 2],
(.seq
(.reg [o 2 (.mov (I 0))] false)
(.seq
(.seq
(.reg [o 3 (mT 0)] false)
(.cond (T 3)
(.seq
(.reg [o 2 (.mov (I 1))] false)
.ret)
.skip))
(.seq
(.reg [o 2 (.mov (I 0))] false)
.ret))), none⟩
def f_wire_Reader_numbers : IFun := ⟨14, 2, true, [true], [.tmp 2],
(.seq
(.reg [o 2 (.mov (.c .nils))] false)
(.seq
(.seq
(.reg [o 3 (mT 0), o 4 (.call 56 [(T 3)] 0), o 5 (.mov (I 0))] false)
(.block 0
(.loop
(.seq
(.reg [o 6 (.bin .lss (T 5) (T 4))] false)
(.seq
(.cond (T 6)
.skip
(.exit 0))
(.seq
(.block 1
(.reg [o 7 (mT 2), o 8 (mT 0), o 9 (.call 58 [(T 8)] 0), o 10 (.buildSlice none [(T 9)] 0), o 11 (.append 1 (T 7) (T 10) 1), o 2 (mT 11)] false))
(.reg [o 12 (.bin .add (T 5) (I 1)), o 5 (mT 12)] false)))))))
(.seq
(.reg [o 13 (mT 2), o 2 (mT 13)] false)
.ret))), none⟩
def f_wire_Reader_flag : IFun := ⟨23, 0, true, [true], [.tmp 2],
(.seq
(.reg [o 2 (.mov (.c (.bool false)))] false)
(.seq
(.reg [o 4 (mT 0), o 5 (.call 58 [(T 4)] 0), o 3 (mT 5)] false)
(.seq
(.reg [o 6 (mT 0), o 7 (mT 0), o 8 (.nilchk (T 7)), o 9 (.fieldAddr (T 8) 1), o 10 (.load none (T 9)), o 11 (mT 10), og (some 12) (mT 3) 11 false, og (some 13) (.bin .neq (T 12) (I 0)) 11 false, og (some 14) (mT 13) 11 false, og (some 15) (mT 3) 14 true, og (some 16) (.bin .neq (T 15) (I 1)) 14 true, og (some 17) (.pick (T 14) (T 16) (.c (.bool false))) 11 false, o 18 (.pick (T 11) (.c (.bool true)) (T 17)), o 19 (.nilchk (T 6)), o 20 (.fieldAddr (T 19) 1), u (.store none (T 20) (T 18))] false)
(.seq
(.reg [o 21 (mT 3), o 22 (.bin .eql (T 21) (I 1)), o 2 (mT 22)] false)
.ret)))), none⟩
def f_ref1_SameNotes : IFun := ⟨27, 0, true, [true, true], [.tmp 4],
(.seq
(.reg [o 4 (.mov (.c (.bool false)))] false)
(.seq
(.seq
(.reg [o 6 (mT 0), o 7 (.len (T 6)), o 8 (mT 1), o 9 (.len (T 8)), o 10 (.bin .neq (T 7) (T 9))] false)
(.cond (T 10)
(.seq
(.reg [o 4 (.mov (.c (.bool false)))] false)
.ret)
.skip))
(.seq
(.seq
(.reg [o 5 (.mov (I 0))] false)
(.block 0
(.loop
(.seq
(.seq
(.reg [o 11 (mT 5), o 12 (mT 0), o 13 (.len (T 12)), o 14 (.bin .lss (T 11) (T 13))] false)
(.cond (T 14)
.skip
(.exit 0)))
(.seq
(.block 1
(.seq
(.reg [w 17 (mT 0) [], w 18 (mT 5) [], w 19 (.indexAddr 3 (T 17) (T 18)) [0, 1], w 20 (.load (some 3) (T 19)) [0, 1, 2], w 21 (mT 1) [], w 22 (mT 5) [], w 23 (.indexAddr 3 (T 21) (T 22)) [4, 5], w 24 (.load (some 3) (T 23)) [4, 5, 6], w 25 (.call 80 [(T 20), (T 24)] 0) [0, 1, 2, 3, 4, 5, 6, 7], w 26 (.un .not (T 25)) [0, 1, 2, 3, 4, 5, 6, 7, 8]] true)
(.cond (T 26)
(.seq
(.reg [o 4 (.mov (.c (.bool false)))] false)
.ret)
.skip)))
(.reg [o 15 (mT 5), o 16 (.bin .add (T 15) (I 1)), o 5 (mT 16)] false))))))
(.seq
(.reg [o 4 (.mov (.c (.bool true)))] false)
.ret)))), none⟩
def f_ref1_Ints : IFun := ⟨26, 0, true, [true, true], [.tmp 4],
(.seq
(.reg [o 4 (.mov (.c (.bool false)))] false)
(.seq
(.seq
(.reg [o 6 (mT 0), o 7 (.len (T 6)), o 8 (mT 1), o 9 (.len (T 8)), o 10 (.bin .neq (T 7) (T 9))] false)
(.cond (T 10)
(.seq
(.reg [o 4 (.mov (.c (.bool false)))] false)
.ret)
.skip))
(.seq
(.seq
(.reg [o 5 (.mov (I 0))] false)
(.block 0
(.loop
(.seq
(.seq
(.reg [o 11 (mT 5), o 12 (mT 0), o 13 (.len (T 12)), o 14 (.bin .lss (T 11) (T 13))] false)
(.cond (T 14)
.skip
(.exit 0)))
(.seq
(.block 1
(.seq
(.reg [w 17 (mT 0) [], w 18 (mT 5) [], w 19 (.indexAddr 1 (T 17) (T 18)) [0, 1], w 20 (.load none (T 19)) [0, 1, 2], w 21 (mT 1) [], w 22 (mT 5) [], w 23 (.indexAddr 1 (T 21) (T 22)) [4, 5], w 24 (.load none (T 23)) [4, 5, 6], w 25 (.bin .neq (T 20) (T 24)) [0, 1, 2, 3, 4, 5, 6, 7]] true)
(.cond (T 25)
(.seq
(.reg [o 4 (.mov (.c (.bool false)))] false)
.ret)
.skip)))
(.reg [o 15 (mT 5), o 16 (.bin .add (T 15) (I 1)), o 5 (mT 16)] false))))))
(.seq
(.reg [o 4 (.mov (.c (.bool true)))] false)
.ret)))), none⟩
def f_slices_EqualFunc_api_Handler_api_Handler_api_Handler_api_Handler : IFun := ⟨32, 4, true, [true, true, true], [.tmp 6],
(.seq
(.reg [o 6 (.mov (.c (.bool false)))] false)
(.seq
(.seq
(.reg [o 10 (mT 0), o 11 (.len (T 10)), o 12 (mT 1), o 13 (.len (T 12)), o 14 (.bin .neq (T 11) (T 13))] false)
(.cond (T 14)
(.seq
(.reg [o 6 (.mov (.c (.bool false)))] false)
.ret)
.skip))
(.seq
(.seq
(.reg [o 15 (mT 0), o 16 (.len (T 15)), o 17 (.mov (I 0))] false)
(.block 0
(.loop
(.seq
(.reg [o 18 (.bin .lss (T 17) (T 16))] false)
(.seq
(.cond (T 18)
.skip
(.exit 0))
(.seq
(.block 1
(.seq
(.reg [o 19 (mT 17), o 20 (.indexAddr 2 (T 15) (T 17)), o 21 (.load (some 2) (T 20)), o 8 (.box (some 2) (.c (.agg [(.int .i64 0), .nils])) 0), o 7 (mT 19), u (.store (some 2) (T 8) (T 21))] false)
(.seq
(.reg [o 22 (mT 1), o 23 (mT 7), o 24 (.indexAddr 2 (T 22) (T 23)), o 25 (.load (some 2) (T 24)), o 9 (.box (some 2) (.c (.agg [(.int .i64 0), .nils])) 1), u (.store (some 2) (T 9) (T 25))] false)
(.seq
(.reg [o 26 (mT 2), o 27 (.load (some 2) (T 8)), o 28 (.load (some 2) (T 9)), o 29 (.callv (T 26) [(T 27), (T 28)] 2), o 30 (.un .not (T 29))] false)
(.cond (T 30)
(.seq
(.reg [o 6 (.mov (.c (.bool false)))] false)
.ret)
.skip)))))
(.reg [o 31 (.bin .add (T 17) (I 1)), o 17 (mT 31)] false)))))))
(.seq
(.reg [o 6 (.mov (.c (.bool true)))] false)
.ret)))), none⟩
def f_prog_sameHandler : IFun := ⟨17, 2, true, [true, true], [.tmp 4],
(.seq
(.reg [o 2 (.box (some 2) (T 0) 0), o 3 (.box (some 2) (T 1) 1), o 4 (.mov (.c (.bool false)))] false)
(.seq
(.reg [o 5 (.fieldAddr (T 2) 0), o 6 (.load none (T 5)), o 7 (.fieldAddr (T 3) 0), o 8 (.load none (T 7)), o 9 (.bin .eql (T 6) (T 8)), o 10 (mT 9), og (some 11) (.fieldAddr (T 2) 1) 10 true, og (some 12) (.load none (T 11)) 10 true, og (some 13) (.fieldAddr (T 3) 1) 10 true, og (some 14) (.load none (T 13)) 10 true, og (some 15) (.call 101 [(T 12), (T 14)] 2) 10 true, o 16 (.pick (T 10) (T 15) (.c (.bool false))), o 4 (mT 16)] false)
.ret)), none⟩
def f_slices_EqualFunc_api_Actor_api_Actor_api_Actor_api_Actor : IFun := ⟨32, 4, true, [true, true, true], [.tmp 6],
(.seq
(.reg [o 6 (.mov (.c (.bool false)))] false)
(.seq
(.seq
(.reg [o 10 (mT 0), o 11 (.len (T 10)), o 12 (mT 1), o 13 (.len (T 12)), o 14 (.bin .neq (T 11) (T 13))] false)
(.cond (T 14)
(.seq
(.reg [o 6 (.mov (.c (.bool false)))] false)
.ret)
.skip))
(.seq
(.seq
(.reg [o 15 (mT 0), o 16 (.len (T 15)), o 17 (.mov (I 0))] false)
(.block 0
(.loop
(.seq
(.reg [o 18 (.bin .lss (T 17) (T 16))] false)
(.seq
(.cond (T 18)
.skip
(.exit 0))
(.seq
(.block 1
(.seq
(.reg [o 19 (mT 17), o 20 (.indexAddr 4 (T 15) (T 17)), o 21 (.load (some 4) (T 20)), o 8 (.box (some 4) (.c (.agg [.nils, (.int .i64 0), (.int .i64 0), (.bool false)])) 0), o 7 (mT 19), u (.store (some 4) (T 8) (T 21))] false)
(.seq
(.reg [o 22 (mT 1), o 23 (mT 7), o 24 (.indexAddr 4 (T 22) (T 23)), o 25 (.load (some 4) (T 24)), o 9 (.box (some 4) (.c (.agg [.nils, (.int .i64 0), (.int .i64 0), (.bool false)])) 1), u (.store (some 4) (T 9) (T 25))] false)
(.seq
(.reg [o 26 (mT 2), o 27 (.load (some 4) (T 8)), o 28 (.load (some 4) (T 9)), o 29 (.callv (T 26) [(T 27), (T 28)] 2), o 30 (.un .not (T 29))] false)
(.cond (T 30)
(.seq
(.reg [o 6 (.mov (.c (.bool false)))] false)
.ret)
.skip)))))
(.reg [o 31 (.bin .add (T 17) (I 1)), o 17 (mT 31)] false)))))))
(.seq
(.reg [o 6 (.mov (.c (.bool true)))] false)
.ret)))), none⟩
def f_prog_sameActor : IFun := ⟨31, 2, true, [true, true], [.tmp 4],
(.seq
(.reg [o 2 (.box (some 4) (T 0) 0), o 3 (.box (some 4) (T 1) 1), o 4 (.mov (.c (.bool false)))] false)
(.seq
(.reg [o 5 (.fieldAddr (T 2) 0), o 6 (.load none (T 5)), o 7 (.fieldAddr (T 3) 0), o 8 (.load none (T 7)), o 9 (.call 100 [(T 6), (T 8)] 2), o 10 (mT 9), og (some 11) (.fieldAddr (T 2) 1) 10 true, og (some 12) (.load none (T 11)) 10 true, og (some 13) (.fieldAddr (T 3) 1) 10 true, og (some 14) (.load none (T 13)) 10 true, og (some 15) (.bin .eql (T 12) (T 14)) 10 true, o 16 (.pick (T 10) (T 15) (.c (.bool false))), o 17 (mT 16), og (some 18) (.fieldAddr (T 2) 2) 17 true, og (some 19) (.load none (T 18)) 17 true, og (some 20) (.fieldAddr (T 3) 2) 17 true, og (some 21) (.load none (T 20)) 17 true, og (some 22) (.bin .eql (T 19) (T 21)) 17 true, o 23 (.pick (T 17) (T 22) (.c (.bool false))), o 24 (mT 23), og (some 25) (.fieldAddr (T 2) 3) 24 true, og (some 26) (.load none (T 25)) 24 true, og (some 27) (.fieldAddr (T 3) 3) 24 true, og (some 28) (.load none (T 27)) 24 true, og (some 29) (.eqb false (T 26) (T 28)) 24 true, o 30 (.pick (T 24) (T 29) (.c (.bool false))), o 4 (mT 30)] false)
.ret)), none⟩
def f_slices_EqualFunc_api_Note_api_Note_api_Note_api_Note : IFun := ⟨32, 4, true, [true, true, true], [.tmp 6],
(.seq
(.reg [o 6 (.mov (.c (.bool false)))] false)
(.seq
(.seq
(.reg [o 10 (mT 0), o 11 (.len (T 10)), o 12 (mT 1), o 13 (.len (T 12)), o 14 (.bin .neq (T 11) (T 13))] false)
(.cond (T 14)
(.seq
(.reg [o 6 (.mov (.c (.bool false)))] false)
.ret)
.skip))
(.seq
(.seq
(.reg [o 15 (mT 0), o 16 (.len (T 15)), o 17 (.mov (I 0))] false)
(.block 0
(.loop
(.seq
(.reg [o 18 (.bin .lss (T 17) (T 16))] false)
(.seq
(.cond (T 18)
.skip
(.exit 0))
(.seq
(.block 1
(.seq
(.reg [o 19 (mT 17), o 20 (.indexAddr 3 (T 15) (T 17)), o 21 (.load (some 3) (T 20)), o 8 (.box (some 3) (.c (.agg [(.int .i64 0), (.int .i64 0), .nils])) 0), o 7 (mT 19), u (.store (some 3) (T 8) (T 21))] false)
(.seq
(.reg [o 22 (mT 1), o 23 (mT 7), o 24 (.indexAddr 3 (T 22) (T 23)), o 25 (.load (some 3) (T 24)), o 9 (.box (some 3) (.c (.agg [(.int .i64 0), (.int .i64 0), .nils])) 1), u (.store (some 3) (T 9) (T 25))] false)
(.seq
(.reg [o 26 (mT 2), o 27 (.load (some 3) (T 8)), o 28 (.load (some 3) (T 9)), o 29 (.callv (T 26) [(T 27), (T 28)] 2), o 30 (.un .not (T 29))] false)
(.cond (T 30)
(.seq
(.reg [o 6 (.mov (.c (.bool false)))] false)
.ret)
.skip)))))
(.reg [o 31 (.bin .add (T 17) (I 1)), o 17 (mT 31)] false)))))))
(.seq
(.reg [o 6 (.mov (.c (.bool true)))] false)
.ret)))), none⟩
def f_slices_Equal_int_int : IFun := ⟨26, 0, true, [true, true], [.tmp 4],
(.seq
(.reg [o 4 (.mov (.c (.bool false)))] false)
(.seq
(.seq
(.reg [o 6 (mT 0), o 7 (.len (T 6)), o 8 (mT 1), o 9 (.len (T 8)), o 10 (.bin .neq (T 7) (T 9))] false)
(.cond (T 10)
(.seq
(.reg [o 4 (.mov (.c (.bool false)))] false)
.ret)
.skip))
(.seq
(.seq
(.reg [o 11 (mT 0), o 12 (.len (T 11)), o 13 (.mov (I 0))] false)
(.block 0
(.loop
(.seq
(.reg [o 14 (.bin .lss (T 13) (T 12))] false)
(.seq
(.cond (T 14)
.skip
(.exit 0))
(.seq
(.block 1
(.seq
(.reg [o 15 (mT 13), o 5 (mT 15)] false)
(.seq
(.reg [w 16 (mT 0) [], w 17 (mT 5) [], w 18 (.indexAddr 1 (T 16) (T 17)) [0, 1], w 19 (.load none (T 18)) [0, 1, 2], w 20 (mT 1) [], w 21 (mT 5) [], w 22 (.indexAddr 1 (T 20) (T 21)) [4, 5], w 23 (.load none (T 22)) [4, 5, 6], w 24 (.bin .neq (T 19) (T 23)) [0, 1, 2, 3, 4, 5, 6, 7]] true)
(.cond (T 24)
(.seq
(.reg [o 4 (.mov (.c (.bool false)))] false)
.ret)
.skip))))
(.reg [o 25 (.bin .add (T 13) (I 1)), o 13 (mT 25)] false)))))))
(.seq
(.reg [o 4 (.mov (.c (.bool true)))] false)
.ret)))), none⟩
def f_slices_Equal_api_Instr_api_Instr : IFun := ⟨26, 0, true, [true, true], [.tmp 4],
(.seq
(.reg [o 4 (.mov (.c (.bool false)))] false)
(.seq
(.seq
(.reg [o 6 (mT 0), o 7 (.len (T 6)), o 8 (mT 1), o 9 (.len (T 8)), o 10 (.bin .neq (T 7) (T 9))] false)
(.cond (T 10)
(.seq
(.reg [o 4 (.mov (.c (.bool false)))] false)
.ret)
.skip))
(.seq
(.seq
(.reg [o 11 (mT 0), o 12 (.len (T 11)), o 13 (.mov (I 0))] false)
(.block 0
(.loop
(.seq
(.reg [o 14 (.bin .lss (T 13) (T 12))] false)
(.seq
(.cond (T 14)
.skip
(.exit 0))
(.seq
(.block 1
(.seq
(.reg [o 15 (mT 13), o 5 (mT 15)] false)
(.seq
(.reg [w 16 (mT 0) [], w 17 (mT 5) [], w 18 (.indexAddr 2 (T 16) (T 17)) [0, 1], w 19 (.load (some 2) (T 18)) [0, 1, 2], w 20 (mT 1) [], w 21 (mT 5) [], w 22 (.indexAddr 2 (T 20) (T 21)) [4, 5], w 23 (.load (some 2) (T 22)) [4, 5, 6], w 24 (.eqs true [false, false] (T 19) (T 23)) [0, 1, 2, 3, 4, 5, 6, 7]] true)
(.cond (T 24)
(.seq
(.reg [o 4 (.mov (.c (.bool false)))] false)
.ret)
.skip))))
(.reg [o 25 (.bin .add (T 13) (I 1)), o 13 (mT 25)] false)))))))
(.seq
(.reg [o 4 (.mov (.c (.bool true)))] false)
.ret)))), none⟩
def FTL : List (Option IFun) := [none, none, some f_law22_WireBack, none, none, none, none, none, none, none, some f_law22_awake, some f_wire_Number, some f_wire_Take, none, none, some f_law22_small, some f_wire_Encode, none, some f_law22_task, some f_wire_Decode, none, some f_ref20_SameTask, some f_wire_Same, some f_alike_Round, some f_wire_Path, none, some f_wire_Events, none, some f_alike_Events, some f_law22_one, none, none, none, none, none, none, none, none, none, none, none, none, none, none, none, none, some f_alike_Small, some f_alike_Watches, some f_wire_put, some f_wire_putProgram, some f_wire_putCode, none, none, none, some f_wire_Read, some f_wire_Reader_program, some f_wire_Reader_Count, some f_wire_Reader_code, some f_wire_Reader_Num, some f_wire_Reader_Good, none, none, none, none, some f_ref1_SameProg, some f_ref1_Code, some f_wire_Same_1, some f_slices_Equal_api_Watch_api_Instr, some f_prog_Same, some f_slices_EqualFunc_api_Watch_api_Watch_api_Watch_api_Watch, none, some f_wire_Reader_Events, none, none, none, none, none, none, none, none, some f_ref1_SameNote, none, none, none, some f_prog_SameNote, some f_wire_putNumbers, some f_wire_flag, some f_wire_Reader_numbers, some f_wire_Reader_flag, some f_ref1_SameNotes, some f_ref1_Ints, some f_slices_EqualFunc_api_Handler_api_Handler_api_Handler_api_Handler, some f_prog_sameHandler, some f_slices_EqualFunc_api_Actor_api_Actor_api_Actor_api_Actor, some f_prog_sameActor, some f_slices_EqualFunc_api_Note_api_Note_api_Note_api_Note, none, none, none, none, some f_slices_Equal_int_int, some f_slices_Equal_api_Instr_api_Instr]
def FT : Nat → Option IFun
| 2 => some f_law22_WireBack
| 10 => some f_law22_awake
| 11 => some f_wire_Number
| 12 => some f_wire_Take
| 15 => some f_law22_small
| 16 => some f_wire_Encode
| 18 => some f_law22_task
| 19 => some f_wire_Decode
| 21 => some f_ref20_SameTask
| 22 => some f_wire_Same
| 23 => some f_alike_Round
| 24 => some f_wire_Path
| 26 => some f_wire_Events
| 28 => some f_alike_Events
| 29 => some f_law22_one
| 46 => some f_alike_Small
| 47 => some f_alike_Watches
| 48 => some f_wire_put
| 49 => some f_wire_putProgram
| 50 => some f_wire_putCode
| 54 => some f_wire_Read
| 55 => some f_wire_Reader_program
| 56 => some f_wire_Reader_Count
| 57 => some f_wire_Reader_code
| 58 => some f_wire_Reader_Num
| 59 => some f_wire_Reader_Good
| 64 => some f_ref1_SameProg
| 65 => some f_ref1_Code
| 66 => some f_wire_Same_1
| 67 => some f_slices_Equal_api_Watch_api_Instr
| 68 => some f_prog_Same
| 69 => some f_slices_EqualFunc_api_Watch_api_Watch_api_Watch_api_Watch
| 71 => some f_wire_Reader_Events
| 80 => some f_ref1_SameNote
| 84 => some f_prog_SameNote
| 85 => some f_wire_putNumbers
| 86 => some f_wire_flag
| 87 => some f_wire_Reader_numbers
| 88 => some f_wire_Reader_flag
| 89 => some f_ref1_SameNotes
| 90 => some f_ref1_Ints
| 91 => some f_slices_EqualFunc_api_Handler_api_Handler_api_Handler_api_Handler
| 92 => some f_prog_sameHandler
| 93 => some f_slices_EqualFunc_api_Actor_api_Actor_api_Actor_api_Actor
| 94 => some f_prog_sameActor
| 95 => some f_slices_EqualFunc_api_Note_api_Note_api_Note_api_Note
| 100 => some f_slices_Equal_int_int
| 101 => some f_slices_Equal_api_Instr_api_Instr
| _ => none
end Gv

namespace Gv
/-- The number of a function of E in this program. -/
def fidL : List Nat := [3, 4, 5, 6, 7, 8, 9, 10, 11, 12, 13, 14, 15, 16, 17, 18, 19, 20, 21, 22, 23, 24, 25, 26, 27, 28, 29, 30, 31, 32, 33, 34, 35, 36, 37, 38, 39, 40, 41, 42, 43, 44, 45, 46, 47, 48, 49, 50, 51, 52, 53, 54, 55, 56, 57, 58, 59, 60, 61, 62, 63, 64, 65, 66, 67, 68, 69, 70, 71, 72, 73, 74, 75, 76, 77, 78, 79, 80, 81, 82, 83, 84, 85, 86, 87, 88, 89, 90, 91, 92, 93, 94, 95, 96, 97, 98, 99, 100, 101, 102, 103, 104, 105, 106, 107, 108, 109, 110]
def fid (n : Nat) : Nat := fidL.getD n 1000000
end Gv
