/- What this file proves: one part of the proof that the law answers true for every input, by an interpreter that is proved sound against the given model. -/
import Derived.Test.YtkjefeclbdjkcaaVc
import Derived.Test.YtkjefeclbdjkcaaIrv
import Derived.KernelRfl
import Derived.Test.YtkjefeclbdjkcaaAw
namespace Gv
open Go
abbrev N (n : Int) : X := .int .i64 n
abbrev lA (a b : Nat) : X := .ld none (.v a) b
abbrev fA (a b : Nat) : X := .fld none (.v a) b
def v_law22_WireTasks : VFun := ⟨⟨[.F, .F], .F, true⟩, [],
(.seq
(.st [.asg [(.chk (some 11) (.v 0))] [(2, (.lp (.cn (fA 0 0) (.cn (fA 0 1) (.cn (fA 0 2) (.cn (fA 0 3) (.cn (fA 0 4) (.cn (fA 0 5) (.cn (fA 0 6) (.cn (fA 0 7) (.cn (fA 0 8) (.cn (fA 0 9) (.cn (fA 0 10) .nl)))))))))))))]])
(.seq
(.seq
(.st [.call [] none 14 15 [(.agg (.cn (lA 2 0) (.cn (lA 2 1) (.cn (lA 2 2) (.cn (lA 2 3) (.cn (lA 2 4) (.cn (lA 2 5) (.cn (lA 2 6) (.cn (lA 2 7) (.cn (lA 2 8) (.cn (lA 2 9) (.cn (lA 2 10) .nl))))))))))))] [], .asg [(.gd (.un .not (.v 14)) false (.len (.v 1))), (.gd (.un .not (.v 14)) false (.bin .gtr (.len (.v 1)) (N 3000))), (.ite (.un .not (.v 14)) (.boo true) (.bin .gtr (.len (.v 1)) (N 3000)))] []])
(.cond (.ite (.un .not (.v 14)) (.boo true) (.bin .gtr (.len (.v 1)) (N 3000)))
(.seq
(.st [.call [] none 21 10 [] [], .asg [] [(4, (.v 21))]])
(.ret (.v 4) []))
.skip))
(.seq
(.st [.call [] none 24 16 [(.agg (.cn (lA 2 0) (.cn (lA 2 1) (.cn (lA 2 2) (.cn (lA 2 3) (.cn (lA 2 4) (.cn (lA 2 5) (.cn (lA 2 6) (.cn (lA 2 7) (.cn (lA 2 8) (.cn (lA 2 9) (.cn (lA 2 10) .nl))))))))))))] [], .asg [] [(6, (.ext (.v 24) 1)), (5, (.ext (.v 24) 0))], .call [] none 29 18 [(.agg (.cn (lA 2 0) (.cn (lA 2 1) (.cn (lA 2 2) (.cn (lA 2 3) (.cn (lA 2 4) (.cn (lA 2 5) (.cn (lA 2 6) (.cn (lA 2 7) (.cn (lA 2 8) (.cn (lA 2 9) (.cn (lA 2 10) .nl))))))))))))] [], .call [] none 30 17 [(.v 29)] [], .asg [] [(8, (.ext (.v 30) 1)), (7, (.ext (.v 30) 0))], .call [] none 35 19 [(.v 1)] [], .asg [(.chk (some 11) (.ext (.v 35) 0))] [(10, (.ext (.v 35) 1)), (9, (.lp (.cn (.fld none (.ext (.v 35) 0) 0) (.cn (.fld none (.ext (.v 35) 0) 1) (.cn (.fld none (.ext (.v 35) 0) 2) (.cn (.fld none (.ext (.v 35) 0) 3) (.cn (.fld none (.ext (.v 35) 0) 4) (.cn (.fld none (.ext (.v 35) 0) 5) (.cn (.fld none (.ext (.v 35) 0) 6) (.cn (.fld none (.ext (.v 35) 0) 7) (.cn (.fld none (.ext (.v 35) 0) 8) (.cn (.fld none (.ext (.v 35) 0) 9) (.cn (.fld none (.ext (.v 35) 0) 10) .nl)))))))))))))], .call [] none 40 20 [(.v 1)] [], .asg [(.chk (some 11) (.ext (.v 40) 0))] [(12, (.ext (.v 40) 1)), (11, (.lp (.cn (.fld none (.ext (.v 40) 0) 0) (.cn (.fld none (.ext (.v 40) 0) 1) (.cn (.fld none (.ext (.v 40) 0) 2) (.cn (.fld none (.ext (.v 40) 0) 3) (.cn (.fld none (.ext (.v 40) 0) 4) (.cn (.fld none (.ext (.v 40) 0) 5) (.cn (.fld none (.ext (.v 40) 0) 6) (.cn (.fld none (.ext (.v 40) 0) 7) (.cn (.fld none (.ext (.v 40) 0) 8) (.cn (.fld none (.ext (.v 40) 0) 9) (.cn (.fld none (.ext (.v 40) 0) 10) .nl)))))))))))))], .call [(.gd (.bin .eql (.b2s (.v 5)) (.b2s (.v 7))) true (.bin .eql (.v 6) (.v 8))), (.ite (.bin .eql (.b2s (.v 5)) (.b2s (.v 7))) (.bin .eql (.v 6) (.v 8)) (.boo false))] (some ((.ite (.bin .eql (.b2s (.v 5)) (.b2s (.v 7))) (.bin .eql (.v 6) (.v 8)) (.boo false)), true)) 55 18 [(.agg (.cn (lA 9 0) (.cn (lA 9 1) (.cn (lA 9 2) (.cn (lA 9 3) (.cn (lA 9 4) (.cn (lA 9 5) (.cn (lA 9 6) (.cn (lA 9 7) (.cn (lA 9 8) (.cn (lA 9 9) (.cn (lA 9 10) .nl))))))))))))] [], .call [] (some ((.ite (.bin .eql (.b2s (.v 5)) (.b2s (.v 7))) (.bin .eql (.v 6) (.v 8)) (.boo false)), true)) 57 21 [(.v 55), (.agg (.cn (lA 11 0) (.cn (lA 11 1) (.cn (lA 11 2) (.cn (lA 11 3) (.cn (lA 11 4) (.cn (lA 11 5) (.cn (lA 11 6) (.cn (lA 11 7) (.cn (lA 11 8) (.cn (lA 11 9) (.cn (lA 11 10) .nl))))))))))))] [], .call [(.gd (.ite (.ite (.bin .eql (.b2s (.v 5)) (.b2s (.v 7))) (.bin .eql (.v 6) (.v 8)) (.boo false)) (.v 57) (.boo false)) true .nl), (.gd (.ite (.ite (.bin .eql (.b2s (.v 5)) (.b2s (.v 7))) (.bin .eql (.v 6) (.v 8)) (.boo false)) (.v 57) (.boo false)) true (.bin .eql (.v 10) (.v 12))), (.ite (.ite (.ite (.bin .eql (.b2s (.v 5)) (.b2s (.v 7))) (.bin .eql (.v 6) (.v 8)) (.boo false)) (.v 57) (.boo false)) (.bin .eql (.v 10) (.v 12)) (.boo false))] (some ((.ite (.ite (.ite (.bin .eql (.b2s (.v 5)) (.b2s (.v 7))) (.bin .eql (.v 6) (.v 8)) (.boo false)) (.v 57) (.boo false)) (.bin .eql (.v 10) (.v 12)) (.boo false)), true)) 65 10 [] [], .asg [] [(4, (.ite (.ite (.ite (.ite (.bin .eql (.b2s (.v 5)) (.b2s (.v 7))) (.bin .eql (.v 6) (.v 8)) (.boo false)) (.v 57) (.boo false)) (.bin .eql (.v 10) (.v 12)) (.boo false)) (.v 65) (.boo false)))]])
(.ret (.v 4) []))))⟩
def v_wire_Number_L1 : VC :=
(.seq
(.seq
(.st [.asg [(.bin .geq (.v 3) (.int .u64 128))] []])
(.cond (.bin .geq (.v 3) (.int .u64 128))
.skip
(.exit 0)))
(.seq
(.block 1
(.st [.asg [] [(2, (.app 1 (.v 2) (.lst (.cn (.bin .or (.toInt .u8 (.v 3)) (.int .u8 128)) .nl))))]]))
(.st [.asg [] [(3, (.bin .shr (.v 3) (.int .u64 7)))]])))
def v_wire_Number : VFun := ⟨⟨[.F], .F, false⟩, [],
(.seq
(.st [.asg [] [(2, (.lst .nl))], .asg [] [(3, (.bin .xor (.bin .shl (.toInt .u64 (.v 0)) (.int .u64 1)) (.toInt .u64 (.bin .shr (.v 0) (.int .u64 63)))))]])
(.seq
(.block 0
(.loop v_wire_Number_L1))
(.seq
(.st [.asg [] [(2, (.app 1 (.v 2) (.lst (.cn (.toInt .u8 (.v 3)) .nl))))]])
(.ret (.v 2) []))))⟩
def v_wire_Take_L1 : VC :=
(.seq
(.st [.asg [(.bin .lss (.v 12) (.v 11))] []])
(.seq
(.cond (.bin .lss (.v 12) (.v 11))
.skip
(.exit 0))
(.seq
(.block 1
(.seq
(.st [.asg [] [(7, (.ld none (.ia 1 (.v 10) (.v 12)) 0)), (6, (.v 12))], .asg [] [(8, (.bin .andNot (.toInt .u64 (.v 7)) (.int .u64 128)))]])
(.seq
(.seq
(.st [.asg [] [(9, (.bin .mul (N 7) (.v 6)))]])
(.block 2
(.seq
(.seq
(.st [.asg [] [(27, (.bin .geq (.v 9) (N 64)))]])
(.cond (.v 27)
.skip
(.seq
(.st [.asg [(.gd (.bin .gtr (.bin .add (.v 9) (N 7)) (N 64)) true (.bin .sub (N 64) (.v 9))), (.gd (.bin .gtr (.bin .add (.v 9) (N 7)) (N 64)) true (.bin .shr (.v 8) (.bin .sub (N 64) (.v 9)))), (.gd (.bin .gtr (.bin .add (.v 9) (N 7)) (N 64)) true (.bin .neq (.bin .shr (.v 8) (.bin .sub (N 64) (.v 9))) (.int .u64 0)))] [(27, (.ite (.bin .gtr (.bin .add (.v 9) (N 7)) (N 64)) (.bin .neq (.bin .shr (.v 8) (.bin .sub (N 64) (.v 9))) (.int .u64 0)) (.boo false)))]])
(.cond (.v 27)
.skip
(.st [.asg [(.gd (.bin .eql (.v 7) (.int .u8 0)) true (.bin .gtr (.v 6) (N 0)))] [(27, (.ite (.bin .eql (.v 7) (.int .u8 0)) (.bin .gtr (.v 6) (N 0)) (.boo false)))]])))))
(.cond (.v 27)
(.seq
(.st [.asg [] [(4, (N 2)), (3, (N 0)), (2, (N 0))]])
(.ret (.tup (.cn (.v 2) (.cn (.v 3) (.cn (.v 4) .nl)))) []))
(.st [.asg [] [(5, (.bin .or (.v 5) (.bin .shl (.v 8) (.v 9))))]])))))
(.seq
(.st [.asg [(.bin .lss (.v 7) (.int .u8 128))] []])
(.cond (.bin .lss (.v 7) (.int .u8 128))
(.seq
(.st [.asg [] [(4, (N 0)), (3, (.bin .add (.v 6) (N 1))), (2, (.bin .xor (.toInt .i64 (.bin .shr (.v 5) (.int .u64 1))) (.un .neg (.toInt .i64 (.bin .and (.v 5) (.int .u64 1))))))]])
(.ret (.tup (.cn (.v 2) (.cn (.v 3) (.cn (.v 4) .nl)))) []))
.skip)))))
(.st [.asg [] [(12, (.bin .add (.v 12) (N 1)))]]))))
def v_wire_Take : VFun := ⟨⟨[.F], (.T [.F, .F, .F]), true⟩, [],
(.seq
(.st [.asg [] [(5, (.int .u64 0))]])
(.seq
(.seq
(.st [.asg [] [(12, (N 0)), (11, (.len (.v 0))), (10, (.v 0))]])
(.block 0
(.loop v_wire_Take_L1)))
(.seq
(.st [.asg [] [(4, (N 2)), (3, (N 0)), (2, (N 0))]])
(.ret (.tup (.cn (.v 2) (.cn (.v 3) (.cn (.v 4) .nl)))) []))))⟩
def v_ref20_Take_L1 : VC :=
(.seq
(.seq
(.st [.asg [(.gd (.bin .lss (.v 5) (.len (.v 0))) true (.bin .lss (.v 5) (N 10))), (.ite (.bin .lss (.v 5) (.len (.v 0))) (.bin .lss (.v 5) (N 10)) (.boo false))] []])
(.cond (.ite (.bin .lss (.v 5) (.len (.v 0))) (.bin .lss (.v 5) (N 10)) (.boo false))
.skip
(.exit 0)))
(.seq
(.block 1
(.seq
(.st [.asg [] [(4, (.bin .or (.v 4) (.bin .shl (.toInt .u64 (.bin .and (.ld none (.ia 1 (.v 0) (.v 5)) 0) (.int .u8 127))) (.bin .mul (N 7) (.v 5)))))]])
(.seq
(.seq
(.st [.asg [(.bin .geq (.ld none (.ia 1 (.v 0) (.v 5)) 0) (.int .u8 128))] []])
(.cond (.bin .geq (.ld none (.ia 1 (.v 0) (.v 5)) 0) (.int .u8 128))
(.exit 1)
.skip))
(.seq
(.st [.asg [] [(6, (.toInt .i64 (.bin .shr (.v 4) (.int .u64 1))))]])
(.seq
(.seq
(.st [.asg [(.bin .eql (.bin .and (.v 4) (.int .u64 1)) (.int .u64 1))] []])
(.cond (.bin .eql (.bin .and (.v 4) (.int .u64 1)) (.int .u64 1))
(.st [.asg [] [(6, (.bin .sub (.un .neg (.v 6)) (N 1)))]])
.skip))
(.seq
(.seq
(.st [.call [] none 43 14 [(.v 6)] [], .asg [(.bin .neq (.b2s (.v 43)) (.b2s (.slice 1 (.v 0) .nl (.bin .add (.v 5) (N 1)) .nl)))] []])
(.cond (.bin .neq (.b2s (.v 43)) (.b2s (.slice 1 (.v 0) .nl (.bin .add (.v 5) (N 1)) .nl)))
(.seq
(.st [.asg [] [(3, (N 0)), (2, (N 0))]])
(.ret (.tup (.cn (.v 2) (.cn (.v 3) .nl))) []))
.skip))
(.seq
(.st [.asg [] [(3, (.bin .add (.v 5) (N 1))), (2, (.v 6))]])
(.ret (.tup (.cn (.v 2) (.cn (.v 3) .nl))) []))))))))
(.st [.asg [] [(5, (.bin .add (.v 5) (N 1)))]])))
def v_ref20_Take : VFun := ⟨⟨[.F], (.T [.F, .F]), true⟩, [],
(.seq
(.st [.asg [] [(4, (.int .u64 0))]])
(.seq
(.seq
(.st [.asg [] [(5, (N 0))]])
(.block 0
(.loop v_ref20_Take_L1)))
(.seq
(.st [.asg [] [(3, (N 0)), (2, (N 0))]])
(.ret (.tup (.cn (.v 2) (.cn (.v 3) .nl))) []))))⟩
def v_ref20_Number_L1 : VC :=
(.seq
(.seq
(.st [.asg [(.bin .geq (.v 3) (.int .u64 128))] []])
(.cond (.bin .geq (.v 3) (.int .u64 128))
.skip
(.exit 0)))
(.block 1
(.st [.asg [] [(4, (.app 1 (.v 4) (.lst (.cn (.bin .or (.toInt .u8 (.v 3)) (.int .u8 128)) .nl))))], .asg [] [(3, (.bin .shr (.v 3) (.int .u64 7)))]])))
def v_ref20_Number : VFun := ⟨⟨[.F], .F, false⟩, [],
(.seq
(.st [.asg [] [(3, (.bin .mul (.toInt .u64 (.v 0)) (.int .u64 2)))]])
(.seq
(.seq
(.st [.asg [(.bin .lss (.v 0) (N 0))] []])
(.cond (.bin .lss (.v 0) (N 0))
(.st [.asg [] [(3, (.bin .add (.bin .mul (.toInt .u64 (.un .neg (.bin .add (.v 0) (N 1)))) (.int .u64 2)) (.int .u64 1)))]])
.skip))
(.seq
(.st [.asg [] [(4, (.lst .nl))]])
(.seq
(.block 0
(.loop v_ref20_Number_L1))
(.seq
(.st [.asg [] [(2, (.app 1 (.v 4) (.lst (.cn (.toInt .u8 (.v 3)) .nl))))]])
(.ret (.v 2) []))))))⟩
def v_law22_small : VFun := ⟨⟨[.F], .F, true⟩, [],
(.seq
(.st [.asg [(.chk (some 11) (.v 0))] [(1, (.lp (.cn (fA 0 0) (.cn (fA 0 1) (.cn (fA 0 2) (.cn (fA 0 3) (.cn (fA 0 4) (.cn (fA 0 5) (.cn (fA 0 6) (.cn (fA 0 7) (.cn (fA 0 8) (.cn (fA 0 9) (.cn (fA 0 10) .nl)))))))))))))], .call [] none 5 46 [(.agg (.cn (lA 1 0) (.cn (lA 1 1) (.cn (lA 1 2) (.cn (lA 1 3) .nl)))))] [], .call [(.gd (.v 5) true .nl), (.gd (.v 5) true .nl)] (some ((.v 5), true)) 9 47 [(lA 1 4)] [], .asg [] [(2, (.ite (.v 5) (.v 9) (.boo false)))]])
(.ret (.v 2) []))⟩
def v_wire_Encode_L1 : VC :=
(.seq
(.st [.asg [(.bin .lss (.v 20) (.v 19))] []])
(.seq
(.cond (.bin .lss (.v 20) (.v 19))
.skip
(.exit 0))
(.seq
(.block 1
(.st [.asg [] [(6, (.ld none (.ia 1 (.v 18) (.v 20)) 0))], .call [] none 26 50 [(.v 4), (.v 6)] [], .asg [] [(4, (.v 26))]]))
(.st [.asg [] [(20, (.bin .add (.v 20) (N 1)))]]))))
def v_wire_Encode : VFun := ⟨⟨[.F], (.T [.F, .F]), false⟩, [],
(.seq
(.st [.asg [(.chk (some 11) (.v 0))] [(1, (.lp (.cn (fA 0 0) (.cn (fA 0 1) (.cn (fA 0 2) (.cn (fA 0 3) (.cn (fA 0 4) (.cn (fA 0 5) (.cn (fA 0 6) (.cn (fA 0 7) (.cn (fA 0 8) (.cn (fA 0 9) (.cn (fA 0 10) .nl)))))))))))))], .call [(.pos (.lst (.cn (.int .u8 71) (.cn (.int .u8 65) (.cn (.int .u8 86) (.cn (.int .u8 49) .nl))))))] none 11 49 [(.lst (.cn (.int .u8 71) (.cn (.int .u8 65) (.cn (.int .u8 86) (.cn (.int .u8 49) .nl))))), (.agg (.cn (lA 1 0) (.cn (lA 1 1) (.cn (lA 1 2) (.cn (lA 1 3) .nl)))))] [], .call [(.len (lA 1 4))] none 16 48 [(.v 11), (.lst (.cn (.len (lA 1 4)) .nl))] [], .asg [] [(4, (.v 16))]])
(.seq
(.seq
(.st [.asg [] [(20, (N 0)), (19, (.len (lA 1 4))), (18, (lA 1 4))]])
(.block 0
(.loop v_wire_Encode_L1)))
(.seq
(.st [.call [] none 48 48 [(.v 4), (.lst (.cn (lA 1 5) (.cn (lA 1 6) (.cn (lA 1 7) (.cn (lA 1 8) (.cn (lA 1 9) (.cn (lA 1 10) .nl)))))))] [], .asg [] [(4, (.v 48))]])
(.seq
(.seq
(.st [.asg [(.bin .gtr (.len (.v 4)) (N 65536))] []])
(.cond (.bin .gtr (.len (.v 4)) (N 65536))
(.seq
(.st [.asg [] [(3, (N 3)), (2, (.lst .nl))]])
(.ret (.tup (.cn (.v 2) (.cn (.v 3) .nl))) []))
.skip))
(.seq
(.st [.asg [] [(3, (N 0)), (2, (.v 4))]])
(.ret (.tup (.cn (.v 2) (.cn (.v 3) .nl))) []))))))⟩
def v_ref20_Encode_L1 : VC :=
(.seq
(.seq
(.st [.asg [(.bin .lss (.v 6) (.len (lA 4 0)))] []])
(.cond (.bin .lss (.v 6) (.len (lA 4 0)))
.skip
(.exit 0)))
(.seq
(.block 1
(.st [.call [(.ld none (.fa (.ia 2 (lA 4 0) (.v 6)) 0) 0)] none 36 51 [(.v 5), (.lst (.cn (.ld none (.fa (.ia 2 (lA 4 0) (.v 6)) 0) 0) .nl))] [], .call [(.ld none (.fa (.ia 2 (lA 4 0) (.v 6)) 1) 0)] none 43 52 [(.v 36), (.ld none (.fa (.ia 2 (lA 4 0) (.v 6)) 1) 0)] [], .asg [] [(5, (.v 43))]]))
(.st [.asg [] [(6, (.bin .add (.v 6) (N 1)))]])))
def v_ref20_Encode_L2 : VC :=
(.seq
(.seq
(.st [.asg [(.bin .lss (.v 7) (.len (lA 4 1)))] []])
(.cond (.bin .lss (.v 7) (.len (lA 4 1)))
.skip
(.exit 2)))
(.seq
(.block 3
(.st [.asg [] [(8, (.lp (.cn (.fld none (.ld (some 4) (.ia 4 (lA 4 1) (.v 7)) 0) 0) (.cn (.fld none (.ld (some 4) (.ia 4 (lA 4 1) (.v 7)) 0) 1) (.cn (.fld none (.ld (some 4) (.ia 4 (lA 4 1) (.v 7)) 0) 2) (.cn (.fld none (.ld (some 4) (.ia 4 (lA 4 1) (.v 7)) 0) 3) .nl))))))], .call [(.len (lA 8 0))] none 67 51 [(.v 5), (.lst (.cn (.len (lA 8 0)) .nl))] [], .call [] none 70 51 [(.v 67), (lA 8 0)] [], .asg [] [(5, (.v 70))], .call [] none 78 53 [(lA 8 3)] [], .call [(.chk none (.v 78))] none 80 51 [(.v 5), (.lst (.cn (lA 8 1) (.cn (lA 8 2) (.cn (.v 78) .nl))))] [], .asg [] [(5, (.v 80))]]))
(.st [.asg [] [(7, (.bin .add (.v 7) (N 1)))]])))
def v_ref20_Encode_L3 : VC :=
(.seq
(.seq
(.st [.asg [(.bin .lss (.v 9) (.len (lA 4 2)))] []])
(.cond (.bin .lss (.v 9) (.len (lA 4 2)))
.skip
(.exit 4)))
(.seq
(.block 5
(.st [.asg [] [(10, (.lp (.cn (.fld none (.ld (some 3) (.ia 3 (lA 4 2) (.v 9)) 0) 0) (.cn (.fld none (.ld (some 3) (.ia 3 (lA 4 2) (.v 9)) 0) 1) (.cn (.fld none (.ld (some 3) (.ia 3 (lA 4 2) (.v 9)) 0) 2) .nl)))))], .call [(.len (lA 10 2))] none 108 51 [(.v 5), (.lst (.cn (lA 10 0) (.cn (lA 10 1) (.cn (.len (lA 10 2)) .nl))))] [], .call [] none 111 51 [(.v 108), (lA 10 2)] [], .asg [] [(5, (.v 111))]]))
(.st [.asg [] [(9, (.bin .add (.v 9) (N 1)))]])))
def v_ref20_Encode_L4 : VC :=
(.seq
(.seq
(.st [.asg [(.bin .lss (.v 11) (.len (lA 1 4)))] []])
(.cond (.bin .lss (.v 11) (.len (lA 1 4)))
.skip
(.exit 6)))
(.seq
(.block 7
(.st [.call [(.ld none (.ia 1 (lA 1 4) (.v 11)) 0)] none 133 52 [(.v 5), (.ld none (.ia 1 (lA 1 4) (.v 11)) 0)] [], .asg [] [(5, (.v 133))]]))
(.st [.asg [] [(11, (.bin .add (.v 11) (N 1)))]])))
def v_ref20_Encode : VFun := ⟨⟨[.F], (.T [.F, .F]), false⟩, [],
(.seq
(.st [.asg [(.chk (some 11) (.v 0))] [(1, (.lp (.cn (fA 0 0) (.cn (fA 0 1) (.cn (fA 0 2) (.cn (fA 0 3) (.cn (fA 0 4) (.cn (fA 0 5) (.cn (fA 0 6) (.cn (fA 0 7) (.cn (fA 0 8) (.cn (fA 0 9) (.cn (fA 0 10) .nl)))))))))))))], .asg [] [(4, (.lp (.cn (lA 1 0) (.cn (lA 1 1) (.cn (lA 1 2) (.cn (lA 1 3) .nl))))))], .call [(.pos (.lst (.cn (.int .u8 71) (.cn (.int .u8 65) (.cn (.int .u8 86) (.cn (.int .u8 49) .nl)))))), (.len (lA 4 0))] none 20 51 [(.lst (.cn (.int .u8 71) (.cn (.int .u8 65) (.cn (.int .u8 86) (.cn (.int .u8 49) .nl))))), (.lst (.cn (.len (lA 4 0)) .nl))] [], .asg [] [(5, (.v 20))]])
(.seq
(.seq
(.st [.asg [] [(6, (N 0))]])
(.block 0
(.loop v_ref20_Encode_L1)))
(.seq
(.st [.call [(.len (lA 4 1))] none 49 51 [(.v 5), (.lst (.cn (.len (lA 4 1)) .nl))] [], .asg [] [(5, (.v 49))]])
(.seq
(.seq
(.st [.asg [] [(7, (N 0))]])
(.block 2
(.loop v_ref20_Encode_L2)))
(.seq
(.st [.call [(.len (lA 4 2))] none 86 51 [(.v 5), (.lst (.cn (.len (lA 4 2)) .nl))] [], .asg [] [(5, (.v 86))]])
(.seq
(.seq
(.st [.asg [] [(9, (N 0))]])
(.block 4
(.loop v_ref20_Encode_L3)))
(.seq
(.st [.call [(.len (lA 1 4))] none 119 51 [(.v 5), (.lst (.cn (lA 4 3) (.cn (.len (lA 1 4)) .nl)))] [], .asg [] [(5, (.v 119))]])
(.seq
(.seq
(.st [.asg [] [(11, (N 0))]])
(.block 6
(.loop v_ref20_Encode_L4)))
(.seq
(.st [.call [] none 154 51 [(.v 5), (.lst (.cn (lA 1 5) (.cn (lA 1 6) (.cn (lA 1 7) (.cn (lA 1 8) (.cn (lA 1 9) (.cn (lA 1 10) .nl)))))))] [], .asg [] [(5, (.v 154))]])
(.seq
(.seq
(.st [.asg [(.bin .gtr (.len (.v 5)) (N 65536))] []])
(.cond (.bin .gtr (.len (.v 5)) (N 65536))
(.seq
(.st [.asg [] [(3, (N 3)), (2, (.lst .nl))]])
(.ret (.tup (.cn (.v 2) (.cn (.v 3) .nl))) []))
.skip))
(.seq
(.st [.asg [] [(3, (N 0)), (2, (.v 5))]])
(.ret (.tup (.cn (.v 2) (.cn (.v 3) .nl))) []))))))))))))⟩
def v_law22_task : VFun := ⟨⟨[.F], .F, false⟩, [],
(.seq
(.st [.asg [(.chk (some 11) (.v 0))] [(2, (.lp (.cn (.lst .nl) (.cn (.lst .nl) (.cn (.lst .nl) (.cn (N 0) (.cn (.lst .nl) (.cn (N 0) (.cn (N 0) (.cn (N 0) (.cn (N 0) (.cn (N 0) (.cn (N 0) .nl))))))))))))), (1, (.lp (.cn (fA 0 0) (.cn (fA 0 1) (.cn (fA 0 2) (.cn (fA 0 3) (.cn (fA 0 4) (.cn (fA 0 5) (.cn (fA 0 6) (.cn (fA 0 7) (.cn (fA 0 8) (.cn (fA 0 9) (.cn (fA 0 10) .nl)))))))))))))], .asg [] [(2, (.lp (.cn (lA 1 0) (.cn (lA 1 1) (.cn (lA 1 2) (.cn (lA 1 3) (.cn (lA 1 4) (.cn (lA 1 5) (.cn (lA 1 6) (.cn (lA 1 7) (.cn (lA 1 8) (.cn (lA 1 9) (.cn (lA 1 10) .nl)))))))))))))]])
(.ret (.agg (.cn (lA 2 0) (.cn (lA 2 1) (.cn (lA 2 2) (.cn (lA 2 3) (.cn (lA 2 4) (.cn (lA 2 5) (.cn (lA 2 6) (.cn (lA 2 7) (.cn (lA 2 8) (.cn (lA 2 9) (.cn (lA 2 10) .nl)))))))))))) []))⟩
def v_wire_Decode_L1 : VC :=
(.seq
(.st [.asg [(.bin .lss (.v 17) (.v 16))] []])
(.seq
(.cond (.bin .lss (.v 17) (.v 16))
.skip
(.exit 0))
(.seq
(.block 1
(.st [.call [] none 22 57 [(.lp (.cn (lA 10704 0) (.cn (lA 10704 1) .nl)))] [10704], .asg [(.chk none (.v 22))] [(5, (.lp (.cn (lA 5 0) (.cn (lA 5 1) (.cn (lA 5 2) (.cn (lA 5 3) (.cn (.app 1 (lA 5 4) (.lst (.cn (.v 22) .nl))) (.cn (lA 5 5) (.cn (lA 5 6) (.cn (lA 5 7) (.cn (lA 5 8) (.cn (lA 5 9) (.cn (lA 5 10) .nl)))))))))))))]]))
(.st [.asg [] [(17, (.bin .add (.v 17) (N 1)))]]))))
def v_wire_Decode : VFun := ⟨⟨[.F], (.T [.F, .F]), false⟩, [],
(.seq
(.st [.asg [] [(2, (.lp (.cn (.lst .nl) (.cn (.lst .nl) (.cn (.lst .nl) (.cn (N 0) (.cn (.lst .nl) (.cn (N 0) (.cn (N 0) (.cn (N 0) (.cn (N 0) (.cn (N 0) (.cn (N 0) .nl)))))))))))))]])
(.seq
(.seq
(.st [.asg [(.bin .gtr (.len (.v 0)) (N 65536))] []])
(.cond (.bin .gtr (.len (.v 0)) (N 65536))
(.seq
(.st [.asg [] [(3, (N 3)), (2, (.lp (.cn (.lst .nl) (.cn (.lst .nl) (.cn (.lst .nl) (.cn (N 0) (.cn (.lst .nl) (.cn (N 0) (.cn (N 0) (.cn (N 0) (.cn (N 0) (.cn (N 0) (.cn (N 0) .nl)))))))))))))]])
(.ret (.tup (.cn (.agg (.cn (lA 2 0) (.cn (lA 2 1) (.cn (lA 2 2) (.cn (lA 2 3) (.cn (lA 2 4) (.cn (lA 2 5) (.cn (lA 2 6) (.cn (lA 2 7) (.cn (lA 2 8) (.cn (lA 2 9) (.cn (lA 2 10) .nl)))))))))))) (.cn (.v 3) .nl))) []))
.skip))
(.seq
(.st [.call [] none 11 54 [(.v 0), (.str [71, 65, 86, 49])] [], .asg [] [(10704, (.lp (.cn (lA 11 0) (.cn (lA 11 1) .nl))))], .call [] none 13 55 [(.lp (.cn (lA 10704 0) (.cn (lA 10704 1) .nl)))] [10704], .asg [(.chk (some 4) (.v 13))] [(5, (.lp (.cn (fA 13 0) (.cn (fA 13 1) (.cn (fA 13 2) (.cn (fA 13 3) (.cn (.lst .nl) (.cn (N 0) (.cn (N 0) (.cn (N 0) (.cn (N 0) (.cn (N 0) (.cn (N 0) .nl)))))))))))))]])
(.seq
(.seq
(.st [.call [] none 16 56 [(.lp (.cn (lA 10704 0) (.cn (lA 10704 1) .nl)))] [10704], .asg [] [(17, (N 0))]])
(.block 0
(.loop v_wire_Decode_L1)))
(.seq
(.st [.call [] none 28 58 [(.lp (.cn (lA 10704 0) (.cn (lA 10704 1) .nl)))] [10704], .call [] none 30 58 [(.lp (.cn (lA 10704 0) (.cn (lA 10704 1) .nl)))] [10704], .call [] none 32 58 [(.lp (.cn (lA 10704 0) (.cn (lA 10704 1) .nl)))] [10704], .call [] none 34 58 [(.lp (.cn (lA 10704 0) (.cn (lA 10704 1) .nl)))] [10704], .asg [(.chk none (.v 28)), (.chk none (.v 30)), (.chk none (.v 32)), (.chk none (.v 34))] [(5, (.lp (.cn (lA 5 0) (.cn (lA 5 1) (.cn (lA 5 2) (.cn (lA 5 3) (.cn (lA 5 4) (.cn (.v 28) (.cn (.v 30) (.cn (.v 32) (.cn (.v 34) (.cn (lA 5 9) (.cn (lA 5 10) .nl)))))))))))))], .call [] none 38 58 [(.lp (.cn (lA 10704 0) (.cn (lA 10704 1) .nl)))] [10704], .call [] none 40 58 [(.lp (.cn (lA 10704 0) (.cn (lA 10704 1) .nl)))] [10704], .asg [(.chk none (.v 38)), (.chk none (.v 40))] [(5, (.lp (.cn (lA 5 0) (.cn (lA 5 1) (.cn (lA 5 2) (.cn (lA 5 3) (.cn (lA 5 4) (.cn (lA 5 5) (.cn (lA 5 6) (.cn (lA 5 7) (.cn (lA 5 8) (.cn (.v 38) (.cn (.v 40) .nl)))))))))))))]])
(.seq
(.seq
(.st [.call [] none 44 59 [(.lp (.cn (lA 10704 0) (.cn (lA 10704 1) .nl)))] [10704], .asg [(.un .not (.v 44))] []])
(.cond (.un .not (.v 44))
(.seq
(.st [.asg [] [(3, (N 2)), (2, (.lp (.cn (.lst .nl) (.cn (.lst .nl) (.cn (.lst .nl) (.cn (N 0) (.cn (.lst .nl) (.cn (N 0) (.cn (N 0) (.cn (N 0) (.cn (N 0) (.cn (N 0) (.cn (N 0) .nl)))))))))))))]])
(.ret (.tup (.cn (.agg (.cn (lA 2 0) (.cn (lA 2 1) (.cn (lA 2 2) (.cn (lA 2 3) (.cn (lA 2 4) (.cn (lA 2 5) (.cn (lA 2 6) (.cn (lA 2 7) (.cn (lA 2 8) (.cn (lA 2 9) (.cn (lA 2 10) .nl)))))))))))) (.cn (.v 3) .nl))) []))
.skip))
(.seq
(.st [.asg [] [(3, (N 0)), (2, (.lp (.cn (lA 5 0) (.cn (lA 5 1) (.cn (lA 5 2) (.cn (lA 5 3) (.cn (lA 5 4) (.cn (lA 5 5) (.cn (lA 5 6) (.cn (lA 5 7) (.cn (lA 5 8) (.cn (lA 5 9) (.cn (lA 5 10) .nl)))))))))))))]])
(.ret (.tup (.cn (.agg (.cn (lA 2 0) (.cn (lA 2 1) (.cn (lA 2 2) (.cn (lA 2 3) (.cn (lA 2 4) (.cn (lA 2 5) (.cn (lA 2 6) (.cn (lA 2 7) (.cn (lA 2 8) (.cn (lA 2 9) (.cn (lA 2 10) .nl)))))))))))) (.cn (.v 3) .nl))) []))))))))⟩
def v_ref20_Decode_L1 : VC :=
(.seq
(.seq
(.st [.asg [(.ite (.bin .lss (.v 7) (.v 6)) (lA 33 1) (.boo false))] []])
(.cond (.ite (.bin .lss (.v 7) (.v 6)) (lA 33 1) (.boo false))
.skip
(.exit 0)))
(.seq
(.block 1
(.st [.call [] none 48 61 [(.lp (.cn (lA 33 0) (.cn (lA 33 1) .nl)))] [33], .asg [] [(8, (.v 48))], .call [] none 54 62 [(.lp (.cn (lA 33 0) (.cn (lA 33 1) .nl)))] [33], .asg [(.chk none (.v 8)), (.chk none (.v 54)), (.chk (some 2) (.agg (.cn (.v 8) (.cn (.v 54) .nl))))] [(5, (.lp (.cn (.app 2 (lA 5 0) (.lst (.cn (.agg (.cn (.v 8) (.cn (.v 54) .nl))) .nl))) (.cn (lA 5 1) (.cn (lA 5 2) (.cn (lA 5 3) (.cn (lA 5 4) (.cn (lA 5 5) (.cn (lA 5 6) (.cn (lA 5 7) (.cn (lA 5 8) (.cn (lA 5 9) (.cn (lA 5 10) .nl)))))))))))))]]))
(.st [.asg [] [(7, (.bin .add (.v 7) (N 1)))]])))
def v_ref20_Decode_L2 : VC :=
(.seq
(.seq
(.st [.asg [(.ite (.bin .lss (.v 9) (.v 6)) (lA 33 1) (.boo false))] []])
(.cond (.ite (.bin .lss (.v 9) (.v 6)) (lA 33 1) (.boo false))
.skip
(.exit 2)))
(.seq
(.block 3
(.st [.call [] none 74 63 [(.lp (.cn (lA 33 0) (.cn (lA 33 1) .nl)))] [33], .asg [(.chk none (.v 74))] [(10, (.lp (.cn (.v 74) (.cn (N 0) (.cn (N 0) (.cn (.boo false) .nl))))))], .call [] none 77 61 [(.lp (.cn (lA 33 0) (.cn (lA 33 1) .nl)))] [33], .asg [(.chk none (.v 77))] [(10, (.lp (.cn (lA 10 0) (.cn (.v 77) (.cn (lA 10 2) (.cn (lA 10 3) .nl))))))], .call [] none 80 61 [(.lp (.cn (lA 33 0) (.cn (lA 33 1) .nl)))] [33], .asg [(.chk none (.v 80))] [(10, (.lp (.cn (lA 10 0) (.cn (lA 10 1) (.cn (.v 80) (.cn (lA 10 3) .nl))))))], .call [] none 83 61 [(.lp (.cn (lA 33 0) (.cn (lA 33 1) .nl)))] [33], .asg [] [(10, (.lp (.cn (lA 10 0) (.cn (lA 10 1) (.cn (lA 10 2) (.cn (.bin .eql (.v 83) (N 1)) .nl))))))], .asg [(.chk (some 4) (.agg (.cn (lA 10 0) (.cn (lA 10 1) (.cn (lA 10 2) (.cn (lA 10 3) .nl))))))] [(5, (.lp (.cn (lA 5 0) (.cn (.app 4 (lA 5 1) (.lst (.cn (.agg (.cn (lA 10 0) (.cn (lA 10 1) (.cn (lA 10 2) (.cn (lA 10 3) .nl))))) .nl))) (.cn (lA 5 2) (.cn (lA 5 3) (.cn (lA 5 4) (.cn (lA 5 5) (.cn (lA 5 6) (.cn (lA 5 7) (.cn (lA 5 8) (.cn (lA 5 9) (.cn (lA 5 10) .nl)))))))))))))]]))
(.st [.asg [] [(9, (.bin .add (.v 9) (N 1)))]])))
def v_ref20_Decode_L3 : VC :=
(.seq
(.seq
(.st [.asg [(.ite (.bin .lss (.v 11) (.v 6)) (lA 33 1) (.boo false))] []])
(.cond (.ite (.bin .lss (.v 11) (.v 6)) (lA 33 1) (.boo false))
.skip
(.exit 4)))
(.seq
(.block 5
(.st [.call [] none 108 61 [(.lp (.cn (lA 33 0) (.cn (lA 33 1) .nl)))] [33], .asg [(.chk none (.v 108))] [(12, (.lp (.cn (.v 108) (.cn (N 0) (.cn (.lst .nl) .nl)))))], .call [] none 111 61 [(.lp (.cn (lA 33 0) (.cn (lA 33 1) .nl)))] [33], .asg [(.chk none (.v 111))] [(12, (.lp (.cn (lA 12 0) (.cn (.v 111) (.cn (lA 12 2) .nl)))))], .call [] none 114 63 [(.lp (.cn (lA 33 0) (.cn (lA 33 1) .nl)))] [33], .asg [(.chk none (.v 114))] [(12, (.lp (.cn (lA 12 0) (.cn (lA 12 1) (.cn (.v 114) .nl)))))], .asg [(.chk (some 3) (.agg (.cn (lA 12 0) (.cn (lA 12 1) (.cn (lA 12 2) .nl)))))] [(5, (.lp (.cn (lA 5 0) (.cn (lA 5 1) (.cn (.app 3 (lA 5 2) (.lst (.cn (.agg (.cn (lA 12 0) (.cn (lA 12 1) (.cn (lA 12 2) .nl)))) .nl))) (.cn (lA 5 3) (.cn (lA 5 4) (.cn (lA 5 5) (.cn (lA 5 6) (.cn (lA 5 7) (.cn (lA 5 8) (.cn (lA 5 9) (.cn (lA 5 10) .nl)))))))))))))]]))
(.st [.asg [] [(11, (.bin .add (.v 11) (N 1)))]])))
def v_ref20_Decode_L4 : VC :=
(.seq
(.seq
(.st [.asg [(.ite (.bin .lss (.v 13) (.v 6)) (lA 33 1) (.boo false))] []])
(.cond (.ite (.bin .lss (.v 13) (.v 6)) (lA 33 1) (.boo false))
.skip
(.exit 6)))
(.seq
(.block 7
(.st [.call [] none 144 62 [(.lp (.cn (lA 33 0) (.cn (lA 33 1) .nl)))] [33], .asg [(.chk none (.v 144))] [(5, (.lp (.cn (lA 5 0) (.cn (lA 5 1) (.cn (lA 5 2) (.cn (lA 5 3) (.cn (.app 1 (lA 5 4) (.lst (.cn (.v 144) .nl))) (.cn (lA 5 5) (.cn (lA 5 6) (.cn (lA 5 7) (.cn (lA 5 8) (.cn (lA 5 9) (.cn (lA 5 10) .nl)))))))))))))]]))
(.st [.asg [] [(13, (.bin .add (.v 13) (N 1)))]])))
def v_ref20_Decode : VFun := ⟨⟨[.F], (.T [.F, .F]), false⟩, [],
(.seq
(.st [.asg [] [(2, (.lp (.cn (.lst .nl) (.cn (.lst .nl) (.cn (.lst .nl) (.cn (N 0) (.cn (.lst .nl) (.cn (N 0) (.cn (N 0) (.cn (N 0) (.cn (N 0) (.cn (N 0) (.cn (N 0) .nl)))))))))))))]])
(.seq
(.seq
(.st [.asg [(.bin .gtr (.len (.v 0)) (N 65536))] []])
(.cond (.bin .gtr (.len (.v 0)) (N 65536))
(.seq
(.st [.asg [] [(3, (N 3)), (2, (.lp (.cn (.lst .nl) (.cn (.lst .nl) (.cn (.lst .nl) (.cn (N 0) (.cn (.lst .nl) (.cn (N 0) (.cn (N 0) (.cn (N 0) (.cn (N 0) (.cn (N 0) (.cn (N 0) .nl)))))))))))))]])
(.ret (.tup (.cn (.agg (.cn (lA 2 0) (.cn (lA 2 1) (.cn (lA 2 2) (.cn (lA 2 3) (.cn (lA 2 4) (.cn (lA 2 5) (.cn (lA 2 6) (.cn (lA 2 7) (.cn (lA 2 8) (.cn (lA 2 9) (.cn (lA 2 10) .nl)))))))))))) (.cn (.v 3) .nl))) []))
.skip))
(.seq
(.seq
(.st [.asg [(.gd (.bin .lss (.len (.v 0)) (N 4)) false (.slice 1 (.v 0) .nl (N 4) .nl)), (.gd (.bin .lss (.len (.v 0)) (N 4)) false (.b2s (.slice 1 (.v 0) .nl (N 4) .nl))), (.gd (.bin .lss (.len (.v 0)) (N 4)) false (.bin .neq (.b2s (.slice 1 (.v 0) .nl (N 4) .nl)) (.str [71, 65, 86, 49]))), (.ite (.bin .lss (.len (.v 0)) (N 4)) (.boo true) (.bin .neq (.b2s (.slice 1 (.v 0) .nl (N 4) .nl)) (.str [71, 65, 86, 49])))] []])
(.cond (.ite (.bin .lss (.len (.v 0)) (N 4)) (.boo true) (.bin .neq (.b2s (.slice 1 (.v 0) .nl (N 4) .nl)) (.str [71, 65, 86, 49])))
(.seq
(.st [.asg [] [(3, (N 2)), (2, (.lp (.cn (.lst .nl) (.cn (.lst .nl) (.cn (.lst .nl) (.cn (N 0) (.cn (.lst .nl) (.cn (N 0) (.cn (N 0) (.cn (N 0) (.cn (N 0) (.cn (N 0) (.cn (N 0) .nl)))))))))))))]])
(.ret (.tup (.cn (.agg (.cn (lA 2 0) (.cn (lA 2 1) (.cn (lA 2 2) (.cn (lA 2 3) (.cn (lA 2 4) (.cn (lA 2 5) (.cn (lA 2 6) (.cn (lA 2 7) (.cn (lA 2 8) (.cn (lA 2 9) (.cn (lA 2 10) .nl)))))))))))) (.cn (.v 3) .nl))) []))
.skip))
(.seq
(.st [.asg [(.chk none (.slice 1 (.v 0) (N 4) .nl .nl))] [(33, (.lp (.cn (.slice 1 (.v 0) (N 4) .nl .nl) (.cn (.boo true) .nl))))], .asg [] [(5, (.lp (.cn (.lst .nl) (.cn (.lst .nl) (.cn (.lst .nl) (.cn (N 0) (.cn (.lst .nl) (.cn (N 0) (.cn (N 0) (.cn (N 0) (.cn (N 0) (.cn (N 0) (.cn (N 0) .nl)))))))))))))], .call [] none 35 60 [(.lp (.cn (lA 33 0) (.cn (lA 33 1) .nl)))] [33], .asg [] [(6, (.v 35))]])
(.seq
(.seq
(.st [.asg [] [(7, (N 0))]])
(.block 0
(.loop v_ref20_Decode_L1)))
(.seq
(.st [.call [] none 61 60 [(.lp (.cn (lA 33 0) (.cn (lA 33 1) .nl)))] [33], .asg [] [(6, (.v 61))]])
(.seq
(.seq
(.st [.asg [] [(9, (N 0))]])
(.block 2
(.loop v_ref20_Decode_L2)))
(.seq
(.st [.call [] none 95 60 [(.lp (.cn (lA 33 0) (.cn (lA 33 1) .nl)))] [33], .asg [] [(6, (.v 95))]])
(.seq
(.seq
(.st [.asg [] [(11, (N 0))]])
(.block 4
(.loop v_ref20_Decode_L3)))
(.seq
(.st [.call [] none 125 61 [(.lp (.cn (lA 33 0) (.cn (lA 33 1) .nl)))] [33], .asg [(.chk none (.v 125))] [(5, (.lp (.cn (lA 5 0) (.cn (lA 5 1) (.cn (lA 5 2) (.cn (.v 125) (.cn (lA 5 4) (.cn (lA 5 5) (.cn (lA 5 6) (.cn (lA 5 7) (.cn (lA 5 8) (.cn (lA 5 9) (.cn (lA 5 10) .nl)))))))))))))], .call [] none 129 60 [(.lp (.cn (lA 33 0) (.cn (lA 33 1) .nl)))] [33], .asg [] [(6, (.v 129))]])
(.seq
(.seq
(.st [.asg [] [(13, (N 0))]])
(.block 6
(.loop v_ref20_Decode_L4)))
(.seq
(.st [.call [] none 149 61 [(.lp (.cn (lA 33 0) (.cn (lA 33 1) .nl)))] [33], .asg [(.chk none (.v 149))] [(5, (.lp (.cn (lA 5 0) (.cn (lA 5 1) (.cn (lA 5 2) (.cn (lA 5 3) (.cn (lA 5 4) (.cn (.v 149) (.cn (lA 5 6) (.cn (lA 5 7) (.cn (lA 5 8) (.cn (lA 5 9) (.cn (lA 5 10) .nl)))))))))))))], .call [] none 153 61 [(.lp (.cn (lA 33 0) (.cn (lA 33 1) .nl)))] [33], .asg [(.chk none (.v 153))] [(5, (.lp (.cn (lA 5 0) (.cn (lA 5 1) (.cn (lA 5 2) (.cn (lA 5 3) (.cn (lA 5 4) (.cn (lA 5 5) (.cn (.v 153) (.cn (lA 5 7) (.cn (lA 5 8) (.cn (lA 5 9) (.cn (lA 5 10) .nl)))))))))))))], .call [] none 157 61 [(.lp (.cn (lA 33 0) (.cn (lA 33 1) .nl)))] [33], .asg [(.chk none (.v 157))] [(5, (.lp (.cn (lA 5 0) (.cn (lA 5 1) (.cn (lA 5 2) (.cn (lA 5 3) (.cn (lA 5 4) (.cn (lA 5 5) (.cn (lA 5 6) (.cn (.v 157) (.cn (lA 5 8) (.cn (lA 5 9) (.cn (lA 5 10) .nl)))))))))))))], .call [] none 161 61 [(.lp (.cn (lA 33 0) (.cn (lA 33 1) .nl)))] [33], .asg [(.chk none (.v 161))] [(5, (.lp (.cn (lA 5 0) (.cn (lA 5 1) (.cn (lA 5 2) (.cn (lA 5 3) (.cn (lA 5 4) (.cn (lA 5 5) (.cn (lA 5 6) (.cn (lA 5 7) (.cn (.v 161) (.cn (lA 5 9) (.cn (lA 5 10) .nl)))))))))))))], .call [] none 165 61 [(.lp (.cn (lA 33 0) (.cn (lA 33 1) .nl)))] [33], .asg [(.chk none (.v 165))] [(5, (.lp (.cn (lA 5 0) (.cn (lA 5 1) (.cn (lA 5 2) (.cn (lA 5 3) (.cn (lA 5 4) (.cn (lA 5 5) (.cn (lA 5 6) (.cn (lA 5 7) (.cn (lA 5 8) (.cn (.v 165) (.cn (lA 5 10) .nl)))))))))))))], .call [] none 169 61 [(.lp (.cn (lA 33 0) (.cn (lA 33 1) .nl)))] [33], .asg [(.chk none (.v 169))] [(5, (.lp (.cn (lA 5 0) (.cn (lA 5 1) (.cn (lA 5 2) (.cn (lA 5 3) (.cn (lA 5 4) (.cn (lA 5 5) (.cn (lA 5 6) (.cn (lA 5 7) (.cn (lA 5 8) (.cn (lA 5 9) (.cn (.v 169) .nl)))))))))))))], .call [] none 174 17 [(.agg (.cn (lA 5 0) (.cn (lA 5 1) (.cn (lA 5 2) (.cn (lA 5 3) (.cn (lA 5 4) (.cn (lA 5 5) (.cn (lA 5 6) (.cn (lA 5 7) (.cn (lA 5 8) (.cn (lA 5 9) (.cn (lA 5 10) .nl))))))))))))] [], .asg [] [(14, (.ext (.v 174) 0))]])
(.seq
(.seq
(.st [.asg [(.gd (.un .not (lA 33 1)) false (.b2s (.v 14))), (.gd (.un .not (lA 33 1)) false (.b2s (.v 0))), (.gd (.un .not (lA 33 1)) false (.bin .neq (.b2s (.v 14)) (.b2s (.v 0)))), (.ite (.un .not (lA 33 1)) (.boo true) (.bin .neq (.b2s (.v 14)) (.b2s (.v 0))))] []])
(.cond (.ite (.un .not (lA 33 1)) (.boo true) (.bin .neq (.b2s (.v 14)) (.b2s (.v 0))))
(.seq
(.st [.asg [] [(3, (N 2)), (2, (.lp (.cn (.lst .nl) (.cn (.lst .nl) (.cn (.lst .nl) (.cn (N 0) (.cn (.lst .nl) (.cn (N 0) (.cn (N 0) (.cn (N 0) (.cn (N 0) (.cn (N 0) (.cn (N 0) .nl)))))))))))))]])
(.ret (.tup (.cn (.agg (.cn (lA 2 0) (.cn (lA 2 1) (.cn (lA 2 2) (.cn (lA 2 3) (.cn (lA 2 4) (.cn (lA 2 5) (.cn (lA 2 6) (.cn (lA 2 7) (.cn (lA 2 8) (.cn (lA 2 9) (.cn (lA 2 10) .nl)))))))))))) (.cn (.v 3) .nl))) []))
.skip))
(.seq
(.st [.asg [] [(3, (N 0)), (2, (.lp (.cn (lA 5 0) (.cn (lA 5 1) (.cn (lA 5 2) (.cn (lA 5 3) (.cn (lA 5 4) (.cn (lA 5 5) (.cn (lA 5 6) (.cn (lA 5 7) (.cn (lA 5 8) (.cn (lA 5 9) (.cn (lA 5 10) .nl)))))))))))))]])
(.ret (.tup (.cn (.agg (.cn (lA 2 0) (.cn (lA 2 1) (.cn (lA 2 2) (.cn (lA 2 3) (.cn (lA 2 4) (.cn (lA 2 5) (.cn (lA 2 6) (.cn (lA 2 7) (.cn (lA 2 8) (.cn (lA 2 9) (.cn (lA 2 10) .nl)))))))))))) (.cn (.v 3) .nl))) [])))))))))))))))⟩
def v_ref20_SameTask_L1 : VC :=
(.seq
(.seq
(.st [.asg [(.bin .lss (.v 5) (.len (lA 2 4)))] []])
(.cond (.bin .lss (.v 5) (.len (lA 2 4)))
.skip
(.exit 0)))
(.seq
(.block 1
(.seq
(.st [.call [(.ld none (.ia 1 (lA 2 4) (.v 5)) 0), (.ld none (.ia 1 (lA 3 4) (.v 5)) 0)] none 52 65 [(.ld none (.ia 1 (lA 2 4) (.v 5)) 0), (.ld none (.ia 1 (lA 3 4) (.v 5)) 0)] [], .asg [(.un .not (.v 52))] []])
(.cond (.un .not (.v 52))
(.seq
(.st [.asg [] [(4, (.boo false))]])
(.ret (.v 4) []))
.skip)))
(.st [.asg [] [(5, (.bin .add (.v 5) (N 1)))]])))
def v_ref20_SameTask : VFun := ⟨⟨[.F, .F], .F, true⟩, [],
(.seq
(.st [.asg [(.chk (some 11) (.v 0)), (.chk (some 11) (.v 1))] [(3, (.lp (.cn (fA 1 0) (.cn (fA 1 1) (.cn (fA 1 2) (.cn (fA 1 3) (.cn (fA 1 4) (.cn (fA 1 5) (.cn (fA 1 6) (.cn (fA 1 7) (.cn (fA 1 8) (.cn (fA 1 9) (.cn (fA 1 10) .nl))))))))))))), (2, (.lp (.cn (fA 0 0) (.cn (fA 0 1) (.cn (fA 0 2) (.cn (fA 0 3) (.cn (fA 0 4) (.cn (fA 0 5) (.cn (fA 0 6) (.cn (fA 0 7) (.cn (fA 0 8) (.cn (fA 0 9) (.cn (fA 0 10) .nl)))))))))))))]])
(.seq
(.seq
(.st [.call [] none 10 64 [(.agg (.cn (lA 2 0) (.cn (lA 2 1) (.cn (lA 2 2) (.cn (lA 2 3) .nl))))), (.agg (.cn (lA 3 0) (.cn (lA 3 1) (.cn (lA 3 2) (.cn (lA 3 3) .nl)))))] [], .asg [(.gd (.un .not (.v 10)) false (.eqs true [false, false, false, false] (.agg (.cn (lA 2 5) (.cn (lA 2 6) (.cn (lA 2 7) (.cn (lA 2 8) .nl))))) (.agg (.cn (lA 3 5) (.cn (lA 3 6) (.cn (lA 3 7) (.cn (lA 3 8) .nl))))))), (.gd (.ite (.un .not (.v 10)) (.boo true) (.eqs true [false, false, false, false] (.agg (.cn (lA 2 5) (.cn (lA 2 6) (.cn (lA 2 7) (.cn (lA 2 8) .nl))))) (.agg (.cn (lA 3 5) (.cn (lA 3 6) (.cn (lA 3 7) (.cn (lA 3 8) .nl))))))) false (.eqs true [false, false] (.agg (.cn (lA 2 9) (.cn (lA 2 10) .nl))) (.agg (.cn (lA 3 9) (.cn (lA 3 10) .nl))))), (.gd (.ite (.ite (.un .not (.v 10)) (.boo true) (.eqs true [false, false, false, false] (.agg (.cn (lA 2 5) (.cn (lA 2 6) (.cn (lA 2 7) (.cn (lA 2 8) .nl))))) (.agg (.cn (lA 3 5) (.cn (lA 3 6) (.cn (lA 3 7) (.cn (lA 3 8) .nl))))))) (.boo true) (.eqs true [false, false] (.agg (.cn (lA 2 9) (.cn (lA 2 10) .nl))) (.agg (.cn (lA 3 9) (.cn (lA 3 10) .nl))))) false (.len (lA 2 4))), (.gd (.ite (.ite (.un .not (.v 10)) (.boo true) (.eqs true [false, false, false, false] (.agg (.cn (lA 2 5) (.cn (lA 2 6) (.cn (lA 2 7) (.cn (lA 2 8) .nl))))) (.agg (.cn (lA 3 5) (.cn (lA 3 6) (.cn (lA 3 7) (.cn (lA 3 8) .nl))))))) (.boo true) (.eqs true [false, false] (.agg (.cn (lA 2 9) (.cn (lA 2 10) .nl))) (.agg (.cn (lA 3 9) (.cn (lA 3 10) .nl))))) false (.len (lA 3 4))), (.gd (.ite (.ite (.un .not (.v 10)) (.boo true) (.eqs true [false, false, false, false] (.agg (.cn (lA 2 5) (.cn (lA 2 6) (.cn (lA 2 7) (.cn (lA 2 8) .nl))))) (.agg (.cn (lA 3 5) (.cn (lA 3 6) (.cn (lA 3 7) (.cn (lA 3 8) .nl))))))) (.boo true) (.eqs true [false, false] (.agg (.cn (lA 2 9) (.cn (lA 2 10) .nl))) (.agg (.cn (lA 3 9) (.cn (lA 3 10) .nl))))) false (.bin .neq (.len (lA 2 4)) (.len (lA 3 4)))), (.ite (.ite (.ite (.un .not (.v 10)) (.boo true) (.eqs true [false, false, false, false] (.agg (.cn (lA 2 5) (.cn (lA 2 6) (.cn (lA 2 7) (.cn (lA 2 8) .nl))))) (.agg (.cn (lA 3 5) (.cn (lA 3 6) (.cn (lA 3 7) (.cn (lA 3 8) .nl))))))) (.boo true) (.eqs true [false, false] (.agg (.cn (lA 2 9) (.cn (lA 2 10) .nl))) (.agg (.cn (lA 3 9) (.cn (lA 3 10) .nl))))) (.boo true) (.bin .neq (.len (lA 2 4)) (.len (lA 3 4))))] []])
(.cond (.ite (.ite (.ite (.un .not (.v 10)) (.boo true) (.eqs true [false, false, false, false] (.agg (.cn (lA 2 5) (.cn (lA 2 6) (.cn (lA 2 7) (.cn (lA 2 8) .nl))))) (.agg (.cn (lA 3 5) (.cn (lA 3 6) (.cn (lA 3 7) (.cn (lA 3 8) .nl))))))) (.boo true) (.eqs true [false, false] (.agg (.cn (lA 2 9) (.cn (lA 2 10) .nl))) (.agg (.cn (lA 3 9) (.cn (lA 3 10) .nl))))) (.boo true) (.bin .neq (.len (lA 2 4)) (.len (lA 3 4))))
(.seq
(.st [.asg [] [(4, (.boo false))]])
(.ret (.v 4) []))
.skip))
(.seq
(.seq
(.st [.asg [] [(5, (N 0))]])
(.block 0
(.loop v_ref20_SameTask_L1)))
(.seq
(.st [.asg [] [(4, (.boo true))]])
(.ret (.v 4) [])))))⟩
def v_alike_Small_L1 : VC :=
(.seq
(.seq
(.st [.asg [(.bin .lss (.v 3) (.len (lA 1 0)))] []])
(.cond (.bin .lss (.v 3) (.len (lA 1 0)))
.skip
(.exit 0)))
(.seq
(.block 1
(.seq
(.st [.asg [(.bin .gtr (.len (.ld none (.fa (.ia 2 (lA 1 0) (.v 3)) 1) 0)) (N 70))] []])
(.cond (.bin .gtr (.len (.ld none (.fa (.ia 2 (lA 1 0) (.v 3)) 1) 0)) (N 70))
(.seq
(.st [.asg [] [(2, (.boo false))]])
(.ret (.v 2) []))
.skip)))
(.st [.asg [] [(3, (.bin .add (.v 3) (N 1)))]])))
def v_alike_Small_L2 : VC :=
(.seq
(.seq
(.st [.asg [(.bin .lss (.v 4) (.len (lA 1 1)))] []])
(.cond (.bin .lss (.v 4) (.len (lA 1 1)))
.skip
(.exit 2)))
(.seq
(.block 3
(.seq
(.st [.asg [(.bin .gtr (.len (.ld none (.fa (.ia 4 (lA 1 1) (.v 4)) 0) 0)) (N 10))] []])
(.cond (.bin .gtr (.len (.ld none (.fa (.ia 4 (lA 1 1) (.v 4)) 0) 0)) (N 10))
(.seq
(.st [.asg [] [(2, (.boo false))]])
(.ret (.v 2) []))
.skip)))
(.st [.asg [] [(4, (.bin .add (.v 4) (N 1)))]])))
def v_alike_Small_L3 : VC :=
(.seq
(.seq
(.st [.asg [(.bin .lss (.v 5) (.len (lA 1 2)))] []])
(.cond (.bin .lss (.v 5) (.len (lA 1 2)))
.skip
(.exit 4)))
(.seq
(.block 5
(.seq
(.st [.asg [(.bin .gtr (.len (.ld none (.fa (.ia 3 (lA 1 2) (.v 5)) 2) 0)) (N 6))] []])
(.cond (.bin .gtr (.len (.ld none (.fa (.ia 3 (lA 1 2) (.v 5)) 2) 0)) (N 6))
(.seq
(.st [.asg [] [(2, (.boo false))]])
(.ret (.v 2) []))
.skip)))
(.st [.asg [] [(5, (.bin .add (.v 5) (N 1)))]])))
def v_alike_Small : VFun := ⟨⟨[.F], .F, true⟩, [],
(.seq
(.st [.asg [(.chk (some 4) (.v 0))] [(1, (.lp (.cn (fA 0 0) (.cn (fA 0 1) (.cn (fA 0 2) (.cn (fA 0 3) .nl))))))]])
(.seq
(.seq
(.st [.asg [(.gd (.bin .gtr (.len (lA 1 0)) (N 18)) false (.len (lA 1 1))), (.gd (.bin .gtr (.len (lA 1 0)) (N 18)) false (.bin .gtr (.len (lA 1 1)) (N 10))), (.gd (.ite (.bin .gtr (.len (lA 1 0)) (N 18)) (.boo true) (.bin .gtr (.len (lA 1 1)) (N 10))) false (.len (lA 1 2))), (.gd (.ite (.bin .gtr (.len (lA 1 0)) (N 18)) (.boo true) (.bin .gtr (.len (lA 1 1)) (N 10))) false (.bin .gtr (.len (lA 1 2)) (N 18))), (.ite (.ite (.bin .gtr (.len (lA 1 0)) (N 18)) (.boo true) (.bin .gtr (.len (lA 1 1)) (N 10))) (.boo true) (.bin .gtr (.len (lA 1 2)) (N 18)))] []])
(.cond (.ite (.ite (.bin .gtr (.len (lA 1 0)) (N 18)) (.boo true) (.bin .gtr (.len (lA 1 1)) (N 10))) (.boo true) (.bin .gtr (.len (lA 1 2)) (N 18)))
(.seq
(.st [.asg [] [(2, (.boo false))]])
(.ret (.v 2) []))
.skip))
(.seq
(.seq
(.st [.asg [] [(3, (N 0))]])
(.block 0
(.loop v_alike_Small_L1)))
(.seq
(.seq
(.st [.asg [] [(4, (N 0))]])
(.block 2
(.loop v_alike_Small_L2)))
(.seq
(.seq
(.st [.asg [] [(5, (N 0))]])
(.block 4
(.loop v_alike_Small_L3)))
(.seq
(.st [.asg [] [(2, (.boo true))]])
(.ret (.v 2) [])))))))⟩
def v_alike_Watches_L1 : VC :=
(.seq
(.seq
(.st [.asg [(.gd (.bin .lss (.v 3) (.len (.v 0))) true (.bin .lss (.v 3) (N 12))), (.ite (.bin .lss (.v 3) (.len (.v 0))) (.bin .lss (.v 3) (N 12)) (.boo false))] []])
(.cond (.ite (.bin .lss (.v 3) (.len (.v 0))) (.bin .lss (.v 3) (N 12)) (.boo false))
.skip
(.exit 0)))
(.seq
(.block 1
(.seq
(.st [.asg [(.bin .gtr (.len (.ld none (.ia 1 (.v 0) (.v 3)) 0)) (N 70))] []])
(.cond (.bin .gtr (.len (.ld none (.ia 1 (.v 0) (.v 3)) 0)) (N 70))
(.seq
(.st [.asg [] [(2, (.boo false))]])
(.ret (.v 2) []))
.skip)))
(.st [.asg [] [(3, (.bin .add (.v 3) (N 1)))]])))
def v_alike_Watches : VFun := ⟨⟨[.F], .F, true⟩, [],
(.seq
(.st [])
(.seq
(.seq
(.st [.asg [] [(3, (N 0))]])
(.block 0
(.loop v_alike_Watches_L1)))
(.seq
(.st [.asg [] [(2, (.bin .leq (.len (.v 0)) (N 10)))]])
(.ret (.v 2) []))))⟩
def v_wire_put_L1 : VC :=
(.seq
(.st [.asg [(.bin .lss (.v 9) (.v 8))] []])
(.seq
(.cond (.bin .lss (.v 9) (.v 8))
.skip
(.exit 0))
(.seq
(.block 1
(.st [.asg [] [(6, (.ld none (.ia 1 (.v 7) (.v 9)) 0))], .call [] none 15 11 [(.v 6)] [], .asg [] [(0, (.app 1 (.v 0) (.v 15)))]]))
(.st [.asg [] [(9, (.bin .add (.v 9) (N 1)))]]))))
def v_wire_put : VFun := ⟨⟨[(.O 1 true), .F], (.O 1 true), false⟩, [],
(.seq
(.st [])
(.seq
(.seq
(.st [.asg [] [(9, (N 0)), (8, (.len (.v 1))), (7, (.v 1))]])
(.block 0
(.loop v_wire_put_L1)))
(.seq
(.st [.asg [] [(4, (.v 0))]])
(.ret (.v 4) []))))⟩
def v_wire_putProgram_L1 : VC :=
(.seq
(.st [.asg [(.bin .lss (.v 20) (.v 19))] []])
(.seq
(.cond (.bin .lss (.v 20) (.v 19))
.skip
(.exit 0))
(.seq
(.block 1
(.st [.asg [] [(6, (.lp (.cn (.fld none (.ld (some 2) (.ia 2 (.v 18) (.v 20)) 0) 0) (.cn (.fld none (.ld (some 2) (.ia 2 (.v 18) (.v 20)) 0) 1) .nl))))], .call [] none 28 48 [(.v 0), (.lst (.cn (lA 6 0) .nl))] [], .call [] none 31 50 [(.v 28), (lA 6 1)] [], .asg [] [(0, (.v 31))]]))
(.st [.asg [] [(20, (.bin .add (.v 20) (N 1)))]]))))
def v_wire_putProgram_L2 : VC :=
(.seq
(.st [.asg [(.bin .lss (.v 42) (.v 41))] []])
(.seq
(.cond (.bin .lss (.v 42) (.v 41))
.skip
(.exit 2))
(.seq
(.block 3
(.st [.asg [] [(8, (.lp (.cn (.fld none (.ld (some 4) (.ia 4 (.v 40) (.v 42)) 0) 0) (.cn (.fld none (.ld (some 4) (.ia 4 (.v 40) (.v 42)) 0) 1) (.cn (.fld none (.ld (some 4) (.ia 4 (.v 40) (.v 42)) 0) 2) (.cn (.fld none (.ld (some 4) (.ia 4 (.v 40) (.v 42)) 0) 3) .nl))))))], .call [] none 49 85 [(.v 0), (lA 8 0)] [], .call [] none 56 86 [(lA 8 3)] [], .call [(.chk none (.v 56))] none 58 48 [(.v 49), (.lst (.cn (lA 8 1) (.cn (lA 8 2) (.cn (.v 56) .nl))))] [], .asg [] [(0, (.v 58))]]))
(.st [.asg [] [(42, (.bin .add (.v 42) (N 1)))]]))))
def v_wire_putProgram_L3 : VC :=
(.seq
(.st [.asg [(.bin .lss (.v 69) (.v 68))] []])
(.seq
(.cond (.bin .lss (.v 69) (.v 68))
.skip
(.exit 4))
(.seq
(.block 5
(.st [.asg [] [(10, (.lp (.cn (.fld none (.ld (some 3) (.ia 3 (.v 67) (.v 69)) 0) 0) (.cn (.fld none (.ld (some 3) (.ia 3 (.v 67) (.v 69)) 0) 1) (.cn (.fld none (.ld (some 3) (.ia 3 (.v 67) (.v 69)) 0) 2) .nl)))))], .call [] none 79 48 [(.v 0), (.lst (.cn (lA 10 0) (.cn (lA 10 1) .nl)))] [], .call [] none 82 85 [(.v 79), (lA 10 2)] [], .asg [] [(0, (.v 82))]]))
(.st [.asg [] [(69, (.bin .add (.v 69) (N 1)))]]))))
def v_wire_putProgram : VFun := ⟨⟨[(.O 1 true), .F], (.O 1 true), false⟩, [],
(.seq
(.st [.asg [(.chk (some 4) (.v 1))] [(3, (.lp (.cn (fA 1 0) (.cn (fA 1 1) (.cn (fA 1 2) (.cn (fA 1 3) .nl))))))], .call [(.len (lA 3 0))] none 16 48 [(.v 0), (.lst (.cn (.len (lA 3 0)) .nl))] [], .asg [] [(0, (.v 16))]])
(.seq
(.seq
(.st [.asg [] [(20, (N 0)), (19, (.len (lA 3 0))), (18, (lA 3 0))]])
(.block 0
(.loop v_wire_putProgram_L1)))
(.seq
(.st [.call [(.len (lA 3 1))] none 38 48 [(.v 0), (.lst (.cn (.len (lA 3 1)) .nl))] [], .asg [] [(0, (.v 38))]])
(.seq
(.seq
(.st [.asg [] [(42, (N 0)), (41, (.len (lA 3 1))), (40, (lA 3 1))]])
(.block 2
(.loop v_wire_putProgram_L2)))
(.seq
(.st [.call [(.len (lA 3 2))] none 65 48 [(.v 0), (.lst (.cn (.len (lA 3 2)) .nl))] [], .asg [] [(0, (.v 65))]])
(.seq
(.seq
(.st [.asg [] [(69, (N 0)), (68, (.len (lA 3 2))), (67, (lA 3 2))]])
(.block 4
(.loop v_wire_putProgram_L3)))
(.seq
(.st [.call [] none 88 48 [(.v 0), (.lst (.cn (lA 3 3) .nl))] [], .asg [] [(4, (.v 88))]])
(.ret (.v 4) []))))))))⟩
def v_wire_putCode_L1 : VC :=
(.seq
(.st [.asg [(.bin .lss (.v 14) (.v 13))] []])
(.seq
(.cond (.bin .lss (.v 14) (.v 13))
.skip
(.exit 0))
(.seq
(.block 1
(.st [.asg [] [(6, (.lp (.cn (.fld none (.ld (some 2) (.ia 2 (.v 12) (.v 14)) 0) 0) (.cn (.fld none (.ld (some 2) (.ia 2 (.v 12) (.v 14)) 0) 1) .nl))))], .call [] none 24 48 [(.v 0), (.lst (.cn (lA 6 0) (.cn (lA 6 1) .nl)))] [], .asg [] [(0, (.v 24))]]))
(.st [.asg [] [(14, (.bin .add (.v 14) (N 1)))]]))))
def v_wire_putCode : VFun := ⟨⟨[(.O 1 true), .F], (.O 1 true), false⟩, [],
(.seq
(.st [.call [(.len (.v 1))] none 11 48 [(.v 0), (.lst (.cn (.len (.v 1)) .nl))] [], .asg [] [(0, (.v 11))]])
(.seq
(.seq
(.st [.asg [] [(14, (N 0)), (13, (.len (.v 1))), (12, (.v 1))]])
(.block 0
(.loop v_wire_putCode_L1)))
(.seq
(.st [.asg [] [(4, (.v 0))]])
(.ret (.v 4) []))))⟩
def v_ref20_put_L1 : VC :=
(.seq
(.seq
(.st [.asg [(.bin .lss (.v 5) (.len (.v 1)))] []])
(.cond (.bin .lss (.v 5) (.len (.v 1)))
.skip
(.exit 0)))
(.seq
(.block 1
(.st [.call [(.ld none (.ia 1 (.v 1) (.v 5)) 0)] none 17 14 [(.ld none (.ia 1 (.v 1) (.v 5)) 0)] [], .asg [] [(0, (.app 1 (.v 0) (.v 17)))]]))
(.st [.asg [] [(5, (.bin .add (.v 5) (N 1)))]])))
def v_ref20_put : VFun := ⟨⟨[(.O 1 true), .F], (.O 1 true), false⟩, [],
(.seq
(.st [])
(.seq
(.seq
(.st [.asg [] [(5, (N 0))]])
(.block 0
(.loop v_ref20_put_L1)))
(.seq
(.st [.asg [] [(4, (.v 0))]])
(.ret (.v 4) []))))⟩
def v_ref20_code_L1 : VC :=
(.seq
(.seq
(.st [.asg [(.bin .lss (.v 5) (.len (.v 1)))] []])
(.cond (.bin .lss (.v 5) (.len (.v 1)))
.skip
(.exit 0)))
(.seq
(.block 1
(.st [.call [(.ld none (.fa (.ia 2 (.v 1) (.v 5)) 0) 0), (.ld none (.fa (.ia 2 (.v 1) (.v 5)) 1) 0)] none 29 51 [(.v 0), (.lst (.cn (.ld none (.fa (.ia 2 (.v 1) (.v 5)) 0) 0) (.cn (.ld none (.fa (.ia 2 (.v 1) (.v 5)) 1) 0) .nl)))] [], .asg [] [(0, (.v 29))]]))
(.st [.asg [] [(5, (.bin .add (.v 5) (N 1)))]])))
def v_ref20_code : VFun := ⟨⟨[(.O 1 true), .F], (.O 1 true), false⟩, [],
(.seq
(.st [.call [(.len (.v 1))] none 10 51 [(.v 0), (.lst (.cn (.len (.v 1)) .nl))] [], .asg [] [(0, (.v 10))]])
(.seq
(.seq
(.st [.asg [] [(5, (N 0))]])
(.block 0
(.loop v_ref20_code_L1)))
(.seq
(.st [.asg [] [(4, (.v 0))]])
(.ret (.v 4) []))))⟩
def v_ref1_Truth : VFun := ⟨⟨[.F], .F, true⟩, [],
(.seq
(.st [])
(.seq
(.seq
(.st [])
(.cond (.v 0)
(.seq
(.st [.asg [] [(2, (N 1))]])
(.ret (.v 2) []))
.skip))
(.seq
(.st [.asg [] [(2, (N 0))]])
(.ret (.v 2) []))))⟩
def v_wire_Read : VFun := ⟨⟨[.F, .F], (.B false [.F, .F]), false⟩, [],
(.seq
(.st [])
(.seq
(.seq
(.st [.asg [(.gd (.bin .lss (.len (.v 0)) (.lenS (.v 1))) false (.lenS (.v 1))), (.gd (.bin .lss (.len (.v 0)) (.lenS (.v 1))) false (.slice 1 (.v 0) .nl (.lenS (.v 1)) .nl)), (.gd (.bin .lss (.len (.v 0)) (.lenS (.v 1))) false (.b2s (.slice 1 (.v 0) .nl (.lenS (.v 1)) .nl))), (.gd (.bin .lss (.len (.v 0)) (.lenS (.v 1))) false (.bin .neq (.b2s (.slice 1 (.v 0) .nl (.lenS (.v 1)) .nl)) (.v 1))), (.ite (.bin .lss (.len (.v 0)) (.lenS (.v 1))) (.boo true) (.bin .neq (.b2s (.slice 1 (.v 0) .nl (.lenS (.v 1)) .nl)) (.v 1)))] []])
(.cond (.ite (.bin .lss (.len (.v 0)) (.lenS (.v 1))) (.boo true) (.bin .neq (.b2s (.slice 1 (.v 0) .nl (.lenS (.v 1)) .nl)) (.v 1)))
(.seq
(.st [.asg [] [(20, (.lp (.cn (.lst .nl) (.cn (.boo true) .nl))))]])
(.ret (.lp (.cn (lA 20 0) (.cn (lA 20 1) .nl))) []))
.skip))
(.seq
(.st [.asg [(.chk none (.slice 1 (.v 0) (.lenS (.v 1)) .nl .nl))] [(26, (.lp (.cn (.slice 1 (.v 0) (.lenS (.v 1)) .nl .nl) (.cn (.boo false) .nl))))]])
(.ret (.lp (.cn (lA 26 0) (.cn (lA 26 1) .nl))) []))))⟩
def v_wire_Reader_program_L1 : VC :=
(.seq
(.st [.asg [(.bin .lss (.v 5) (.v 4))] []])
(.seq
(.cond (.bin .lss (.v 5) (.v 4))
.skip
(.exit 0))
(.seq
(.block 1
(.st [.call [] none 10 58 [(.lp (.cn (lA 4000 0) (.cn (lA 4000 1) .nl)))] [4000], .call [] none 12 57 [(.lp (.cn (lA 4000 0) (.cn (lA 4000 1) .nl)))] [4000], .asg [(.chk none (.v 10)), (.chk none (.v 12)), (.chk (some 2) (.agg (.cn (.v 10) (.cn (.v 12) .nl))))] [(2, (.lp (.cn (.app 2 (lA 2 0) (.lst (.cn (.agg (.cn (.v 10) (.cn (.v 12) .nl))) .nl))) (.cn (lA 2 1) (.cn (lA 2 2) (.cn (lA 2 3) .nl))))))]]))
(.st [.asg [] [(5, (.bin .add (.v 5) (N 1)))]]))))
def v_wire_Reader_program_L2 : VC :=
(.seq
(.st [.asg [(.bin .lss (.v 20) (.v 19))] []])
(.seq
(.cond (.bin .lss (.v 20) (.v 19))
.skip
(.exit 2))
(.seq
(.block 3
(.st [.call [] none 25 87 [(.lp (.cn (lA 4000 0) (.cn (lA 4000 1) .nl)))] [4000], .call [] none 27 58 [(.lp (.cn (lA 4000 0) (.cn (lA 4000 1) .nl)))] [4000], .call [] none 29 58 [(.lp (.cn (lA 4000 0) (.cn (lA 4000 1) .nl)))] [4000], .call [] none 31 88 [(.lp (.cn (lA 4000 0) (.cn (lA 4000 1) .nl)))] [4000], .asg [(.chk none (.v 25)), (.chk none (.v 27)), (.chk none (.v 29)), (.chk none (.v 31)), (.chk (some 4) (.agg (.cn (.v 25) (.cn (.v 27) (.cn (.v 29) (.cn (.v 31) .nl))))))] [(2, (.lp (.cn (lA 2 0) (.cn (.app 4 (lA 2 1) (.lst (.cn (.agg (.cn (.v 25) (.cn (.v 27) (.cn (.v 29) (.cn (.v 31) .nl))))) .nl))) (.cn (lA 2 2) (.cn (lA 2 3) .nl))))))]]))
(.st [.asg [] [(20, (.bin .add (.v 20) (N 1)))]]))))
def v_wire_Reader_program_L3 : VC :=
(.seq
(.st [.asg [(.bin .lss (.v 39) (.v 38))] []])
(.seq
(.cond (.bin .lss (.v 39) (.v 38))
.skip
(.exit 4))
(.seq
(.block 5
(.st [.call [] none 44 58 [(.lp (.cn (lA 4000 0) (.cn (lA 4000 1) .nl)))] [4000], .call [] none 46 58 [(.lp (.cn (lA 4000 0) (.cn (lA 4000 1) .nl)))] [4000], .call [] none 48 87 [(.lp (.cn (lA 4000 0) (.cn (lA 4000 1) .nl)))] [4000], .asg [(.chk none (.v 44)), (.chk none (.v 46)), (.chk none (.v 48)), (.chk (some 3) (.agg (.cn (.v 44) (.cn (.v 46) (.cn (.v 48) .nl)))))] [(2, (.lp (.cn (lA 2 0) (.cn (lA 2 1) (.cn (.app 3 (lA 2 2) (.lst (.cn (.agg (.cn (.v 44) (.cn (.v 46) (.cn (.v 48) .nl)))) .nl))) (.cn (lA 2 3) .nl))))))]]))
(.st [.asg [] [(39, (.bin .add (.v 39) (N 1)))]]))))
def v_wire_Reader_program : VFun := ⟨⟨[(.B false [.F, .F])], .F, false⟩, [],
(.seq
(.st [.asg [] [(2, (.lp (.cn (.lst .nl) (.cn (.lst .nl) (.cn (.lst .nl) (.cn (N 0) .nl)))))), (4000, (.lp (.cn (lA 0 0) (.cn (lA 0 1) .nl))))]])
(.seq
(.seq
(.st [.call [] none 4 56 [(.lp (.cn (lA 4000 0) (.cn (lA 4000 1) .nl)))] [4000], .asg [] [(5, (N 0))]])
(.block 0
(.loop v_wire_Reader_program_L1)))
(.seq
(.seq
(.st [.call [] none 19 56 [(.lp (.cn (lA 4000 0) (.cn (lA 4000 1) .nl)))] [4000], .asg [] [(20, (N 0))]])
(.block 2
(.loop v_wire_Reader_program_L2)))
(.seq
(.seq
(.st [.call [] none 38 56 [(.lp (.cn (lA 4000 0) (.cn (lA 4000 1) .nl)))] [4000], .asg [] [(39, (N 0))]])
(.block 4
(.loop v_wire_Reader_program_L3)))
(.seq
(.st [.call [] none 55 58 [(.lp (.cn (lA 4000 0) (.cn (lA 4000 1) .nl)))] [4000], .asg [(.chk none (.v 55))] [(2, (.lp (.cn (lA 2 0) (.cn (lA 2 1) (.cn (lA 2 2) (.cn (.v 55) .nl))))))]])
(.ret (.agg (.cn (lA 2 0) (.cn (lA 2 1) (.cn (lA 2 2) (.cn (lA 2 3) .nl))))) [(.lp (.cn (lA 4000 0) (.cn (lA 4000 1) .nl)))]))))))⟩
def v_wire_Reader_Count : VFun := ⟨⟨[(.B false [.F, .F])], .F, true⟩, [],
(.seq
(.st [.asg [] [(4000, (.lp (.cn (lA 0 0) (.cn (lA 0 1) .nl))))], .call [] none 5 58 [(.lp (.cn (lA 4000 0) (.cn (lA 4000 1) .nl)))] [4000], .asg [] [(3, (.v 5))]])
(.seq
(.seq
(.st [.asg [(.gd (lA 4000 1) false .nl), (.gd (lA 4000 1) false (.bin .lss (.v 3) (N 0))), (.gd (.ite (lA 4000 1) (.boo true) (.bin .lss (.v 3) (N 0))) false (.len (lA 4000 0))), (.gd (.ite (lA 4000 1) (.boo true) (.bin .lss (.v 3) (N 0))) false (.bin .gtr (.v 3) (.len (lA 4000 0))))] [(4000, (.lp (.cn (lA 4000 0) (.cn (.ite (.ite (lA 4000 1) (.boo true) (.bin .lss (.v 3) (N 0))) (.boo true) (.bin .gtr (.v 3) (.len (lA 4000 0)))) .nl))))]])
(.cond (lA 4000 1)
(.seq
(.st [.asg [] [(2, (N 0))]])
(.ret (.v 2) [(.lp (.cn (lA 4000 0) (.cn (lA 4000 1) .nl)))]))
.skip))
(.seq
(.st [.asg [] [(2, (.v 3))]])
(.ret (.v 2) [(.lp (.cn (lA 4000 0) (.cn (lA 4000 1) .nl)))]))))⟩
def v_wire_Reader_code_L1 : VC :=
(.seq
(.st [.asg [(.bin .lss (.v 5) (.v 4))] []])
(.seq
(.cond (.bin .lss (.v 5) (.v 4))
.skip
(.exit 0))
(.seq
(.block 1
(.st [.call [] none 9 58 [(.lp (.cn (lA 4000 0) (.cn (lA 4000 1) .nl)))] [4000], .call [] none 11 58 [(.lp (.cn (lA 4000 0) (.cn (lA 4000 1) .nl)))] [4000], .asg [(.chk none (.v 9)), (.chk none (.v 11)), (.chk (some 2) (.agg (.cn (.v 9) (.cn (.v 11) .nl))))] [(2, (.app 2 (.v 2) (.lst (.cn (.agg (.cn (.v 9) (.cn (.v 11) .nl))) .nl))))]]))
(.st [.asg [] [(5, (.bin .add (.v 5) (N 1)))]]))))
def v_wire_Reader_code : VFun := ⟨⟨[(.B false [.F, .F])], .F, false⟩, [],
(.seq
(.st [.asg [] [(2, (.lst .nl)), (4000, (.lp (.cn (lA 0 0) (.cn (lA 0 1) .nl))))]])
(.seq
(.seq
(.st [.call [] none 4 56 [(.lp (.cn (lA 4000 0) (.cn (lA 4000 1) .nl)))] [4000], .asg [] [(5, (N 0))]])
(.block 0
(.loop v_wire_Reader_code_L1)))
(.seq
(.st [])
(.ret (.v 2) [(.lp (.cn (lA 4000 0) (.cn (lA 4000 1) .nl)))]))))⟩
def v_wire_Reader_Num : VFun := ⟨⟨[(.B false [.F, .F])], .F, true⟩, [],
(.seq
(.st [.asg [] [(4000, (.lp (.cn (lA 0 0) (.cn (lA 0 1) .nl))))], .call [] none 11 12 [(lA 4000 0)] [], .asg [] [(5, (.ext (.v 11) 2)), (4, (.ext (.v 11) 1)), (3, (.ext (.v 11) 0))]])
(.seq
(.seq
(.st [.asg [(.gd (lA 4000 1) false .nl), (.gd (lA 4000 1) false (.bin .neq (.v 5) (N 0)))] [(4000, (.lp (.cn (lA 4000 0) (.cn (.ite (lA 4000 1) (.boo true) (.bin .neq (.v 5) (N 0))) .nl))))]])
(.cond (lA 4000 1)
(.seq
(.st [.asg [] [(2, (N 0))]])
(.ret (.v 2) [(.lp (.cn (lA 4000 0) (.cn (lA 4000 1) .nl)))]))
.skip))
(.seq
(.st [.asg [(.chk none (.slice 1 (lA 4000 0) (.v 4) .nl .nl))] [(4000, (.lp (.cn (.slice 1 (lA 4000 0) (.v 4) .nl .nl) (.cn (lA 4000 1) .nl))))], .asg [] [(2, (.v 3))]])
(.ret (.v 2) [(.lp (.cn (lA 4000 0) (.cn (lA 4000 1) .nl)))]))))⟩
def v_wire_Reader_Good : VFun := ⟨⟨[(.B false [.F, .F])], .F, true⟩, [],
(.seq
(.st [.asg [] [(4000, (.lp (.cn (lA 0 0) (.cn (lA 0 1) .nl))))], .asg [(.gd (.un .not (lA 4000 1)) true (.len (lA 4000 0))), (.gd (.un .not (lA 4000 1)) true (.bin .eql (.len (lA 4000 0)) (N 0)))] [(2, (.ite (.un .not (lA 4000 1)) (.bin .eql (.len (lA 4000 0)) (N 0)) (.boo false)))]])
(.ret (.v 2) [(.lp (.cn (lA 4000 0) (.cn (lA 4000 1) .nl)))]))⟩
def v_ref20_reader_many : VFun := ⟨⟨[(.B false [.F, .F])], .F, true⟩, [],
(.seq
(.st [.asg [] [(4000, (.lp (.cn (lA 0 0) (.cn (lA 0 1) .nl))))], .call [] none 5 61 [(.lp (.cn (lA 4000 0) (.cn (lA 4000 1) .nl)))] [4000], .asg [] [(3, (.v 5))]])
(.seq
(.seq
(.st [.asg [(.gd (.bin .lss (.v 3) (N 0)) false (.len (lA 4000 0))), (.gd (.bin .lss (.v 3) (N 0)) false (.bin .gtr (.v 3) (.len (lA 4000 0)))), (.ite (.bin .lss (.v 3) (N 0)) (.boo true) (.bin .gtr (.v 3) (.len (lA 4000 0))))] []])
(.cond (.ite (.bin .lss (.v 3) (N 0)) (.boo true) (.bin .gtr (.v 3) (.len (lA 4000 0))))
(.seq
(.st [.asg [] [(4000, (.lp (.cn (lA 4000 0) (.cn (.boo false) .nl))))], .asg [] [(2, (N 0))]])
(.ret (.v 2) [(.lp (.cn (lA 4000 0) (.cn (lA 4000 1) .nl)))]))
.skip))
(.seq
(.st [.asg [] [(2, (.v 3))]])
(.ret (.v 2) [(.lp (.cn (lA 4000 0) (.cn (lA 4000 1) .nl)))]))))⟩
def v_ref20_reader_int : VFun := ⟨⟨[(.B false [.F, .F])], .F, true⟩, [],
(.seq
(.st [.asg [] [(4000, (.lp (.cn (lA 0 0) (.cn (lA 0 1) .nl))))], .call [] none 10 13 [(lA 4000 0)] [], .asg [] [(4, (.ext (.v 10) 1)), (3, (.ext (.v 10) 0))]])
(.seq
(.seq
(.st [.asg [(.gd (.un .not (lA 4000 1)) false (.bin .eql (.v 4) (N 0))), (.ite (.un .not (lA 4000 1)) (.boo true) (.bin .eql (.v 4) (N 0)))] []])
(.cond (.ite (.un .not (lA 4000 1)) (.boo true) (.bin .eql (.v 4) (N 0)))
(.seq
(.st [.asg [] [(4000, (.lp (.cn (lA 4000 0) (.cn (.boo false) .nl))))], .asg [] [(2, (N 0))]])
(.ret (.v 2) [(.lp (.cn (lA 4000 0) (.cn (lA 4000 1) .nl)))]))
.skip))
(.seq
(.st [.asg [(.chk none (.slice 1 (lA 4000 0) (.v 4) .nl .nl))] [(4000, (.lp (.cn (.slice 1 (lA 4000 0) (.v 4) .nl .nl) (.cn (lA 4000 1) .nl))))], .asg [] [(2, (.v 3))]])
(.ret (.v 2) [(.lp (.cn (lA 4000 0) (.cn (lA 4000 1) .nl)))]))))⟩
def v_ref20_reader_code_L1 : VC :=
(.seq
(.seq
(.st [.asg [(.ite (.bin .lss (.v 5) (.v 4)) (lA 4000 1) (.boo false))] []])
(.cond (.ite (.bin .lss (.v 5) (.v 4)) (lA 4000 1) (.boo false))
.skip
(.exit 0)))
(.seq
(.block 1
(.st [.call [] none 21 61 [(.lp (.cn (lA 4000 0) (.cn (lA 4000 1) .nl)))] [4000], .asg [] [(6, (.v 21))], .call [] none 25 61 [(.lp (.cn (lA 4000 0) (.cn (lA 4000 1) .nl)))] [4000], .asg [(.chk none (.v 6)), (.chk none (.v 25)), (.chk (some 2) (.agg (.cn (.v 6) (.cn (.v 25) .nl))))] [(3, (.app 2 (.v 3) (.lst (.cn (.agg (.cn (.v 6) (.cn (.v 25) .nl))) .nl))))]]))
(.st [.asg [] [(5, (.bin .add (.v 5) (N 1)))]])))
def v_ref20_reader_code : VFun := ⟨⟨[(.B false [.F, .F])], .F, false⟩, [],
(.seq
(.st [.asg [] [(4000, (.lp (.cn (lA 0 0) (.cn (lA 0 1) .nl))))], .asg [] [(3, (.lst .nl))], .call [] none 8 60 [(.lp (.cn (lA 4000 0) (.cn (lA 4000 1) .nl)))] [4000], .asg [] [(4, (.v 8))]])
(.seq
(.seq
(.st [.asg [] [(5, (N 0))]])
(.block 0
(.loop v_ref20_reader_code_L1)))
(.seq
(.st [.asg [] [(2, (.v 3))]])
(.ret (.v 2) [(.lp (.cn (lA 4000 0) (.cn (lA 4000 1) .nl)))]))))⟩
def v_ref20_reader_ints_L1 : VC :=
(.seq
(.seq
(.st [.asg [(.ite (.bin .lss (.v 5) (.v 4)) (lA 4000 1) (.boo false))] []])
(.cond (.ite (.bin .lss (.v 5) (.v 4)) (lA 4000 1) (.boo false))
.skip
(.exit 0)))
(.seq
(.block 1
(.st [.call [] none 21 61 [(.lp (.cn (lA 4000 0) (.cn (lA 4000 1) .nl)))] [4000], .asg [(.chk none (.v 21))] [(3, (.app 1 (.v 3) (.lst (.cn (.v 21) .nl))))]]))
(.st [.asg [] [(5, (.bin .add (.v 5) (N 1)))]])))
def v_ref20_reader_ints : VFun := ⟨⟨[(.B false [.F, .F])], .F, false⟩, [],
(.seq
(.st [.asg [] [(4000, (.lp (.cn (lA 0 0) (.cn (lA 0 1) .nl))))], .asg [] [(3, (.lst .nl))], .call [] none 7 60 [(.lp (.cn (lA 4000 0) (.cn (lA 4000 1) .nl)))] [4000], .asg [] [(4, (.v 7))]])
(.seq
(.seq
(.st [.asg [] [(5, (N 0))]])
(.block 0
(.loop v_ref20_reader_ints_L1)))
(.seq
(.st [.asg [] [(2, (.v 3))]])
(.ret (.v 2) [(.lp (.cn (lA 4000 0) (.cn (lA 4000 1) .nl)))]))))⟩
def v_ref1_SameProg_L1 : VC :=
(.seq
(.seq
(.st [.asg [(.bin .lss (.v 5) (.len (lA 2 0)))] []])
(.cond (.bin .lss (.v 5) (.len (lA 2 0)))
.skip
(.exit 0)))
(.seq
(.block 1
(.seq
(.st [.call [(.gd (.bin .neq (.ld none (.fa (.ia 2 (lA 2 0) (.v 5)) 0) 0) (.ld none (.fa (.ia 2 (lA 3 0) (.v 5)) 0) 0)) false (.ia 2 (lA 2 0) (.v 5))), (.gd (.bin .neq (.ld none (.fa (.ia 2 (lA 2 0) (.v 5)) 0) 0) (.ld none (.fa (.ia 2 (lA 3 0) (.v 5)) 0) 0)) false (.fa (.ia 2 (lA 2 0) (.v 5)) 1)), (.gd (.bin .neq (.ld none (.fa (.ia 2 (lA 2 0) (.v 5)) 0) 0) (.ld none (.fa (.ia 2 (lA 3 0) (.v 5)) 0) 0)) false (.ld none (.fa (.ia 2 (lA 2 0) (.v 5)) 1) 0)), (.gd (.bin .neq (.ld none (.fa (.ia 2 (lA 2 0) (.v 5)) 0) 0) (.ld none (.fa (.ia 2 (lA 3 0) (.v 5)) 0) 0)) false (.ia 2 (lA 3 0) (.v 5))), (.gd (.bin .neq (.ld none (.fa (.ia 2 (lA 2 0) (.v 5)) 0) 0) (.ld none (.fa (.ia 2 (lA 3 0) (.v 5)) 0) 0)) false (.fa (.ia 2 (lA 3 0) (.v 5)) 1)), (.gd (.bin .neq (.ld none (.fa (.ia 2 (lA 2 0) (.v 5)) 0) 0) (.ld none (.fa (.ia 2 (lA 3 0) (.v 5)) 0) 0)) false (.ld none (.fa (.ia 2 (lA 3 0) (.v 5)) 1) 0))] (some ((.bin .neq (.ld none (.fa (.ia 2 (lA 2 0) (.v 5)) 0) 0) (.ld none (.fa (.ia 2 (lA 3 0) (.v 5)) 0) 0)), false)) 73 65 [(.ld none (.fa (.ia 2 (lA 2 0) (.v 5)) 1) 0), (.ld none (.fa (.ia 2 (lA 3 0) (.v 5)) 1) 0)] [], .asg [(.gd (.bin .neq (.ld none (.fa (.ia 2 (lA 2 0) (.v 5)) 0) 0) (.ld none (.fa (.ia 2 (lA 3 0) (.v 5)) 0) 0)) false (.un .not (.v 73))), (.ite (.bin .neq (.ld none (.fa (.ia 2 (lA 2 0) (.v 5)) 0) 0) (.ld none (.fa (.ia 2 (lA 3 0) (.v 5)) 0) 0)) (.boo true) (.un .not (.v 73)))] []])
(.cond (.ite (.bin .neq (.ld none (.fa (.ia 2 (lA 2 0) (.v 5)) 0) 0) (.ld none (.fa (.ia 2 (lA 3 0) (.v 5)) 0) 0)) (.boo true) (.un .not (.v 73)))
(.seq
(.st [.asg [] [(4, (.boo false))]])
(.ret (.v 4) []))
.skip)))
(.st [.asg [] [(5, (.bin .add (.v 5) (N 1)))]])))
def v_ref1_SameProg_L2 : VC :=
(.seq
(.seq
(.st [.asg [(.bin .lss (.v 6) (.len (lA 2 1)))] []])
(.cond (.bin .lss (.v 6) (.len (lA 2 1)))
.skip
(.exit 2)))
(.seq
(.block 3
(.seq
(.st [.asg [] [(8, (.lp (.cn (.fld none (.ld (some 4) (.ia 4 (lA 3 1) (.v 6)) 0) 0) (.cn (.fld none (.ld (some 4) (.ia 4 (lA 3 1) (.v 6)) 0) 1) (.cn (.fld none (.ld (some 4) (.ia 4 (lA 3 1) (.v 6)) 0) 2) (.cn (.fld none (.ld (some 4) (.ia 4 (lA 3 1) (.v 6)) 0) 3) .nl)))))), (7, (.lp (.cn (.fld none (.ld (some 4) (.ia 4 (lA 2 1) (.v 6)) 0) 0) (.cn (.fld none (.ld (some 4) (.ia 4 (lA 2 1) (.v 6)) 0) 1) (.cn (.fld none (.ld (some 4) (.ia 4 (lA 2 1) (.v 6)) 0) 2) (.cn (.fld none (.ld (some 4) (.ia 4 (lA 2 1) (.v 6)) 0) 3) .nl))))))], .call [] none 97 90 [(lA 7 0), (lA 8 0)] [], .asg [(.gd (.un .not (.v 97)) false (.bin .neq (lA 7 1) (lA 8 1))), (.gd (.ite (.un .not (.v 97)) (.boo true) (.bin .neq (lA 7 1) (lA 8 1))) false (.bin .neq (lA 7 2) (lA 8 2))), (.gd (.ite (.ite (.un .not (.v 97)) (.boo true) (.bin .neq (lA 7 1) (lA 8 1))) (.boo true) (.bin .neq (lA 7 2) (lA 8 2))) false (.eqb true (lA 7 3) (lA 8 3))), (.ite (.ite (.ite (.un .not (.v 97)) (.boo true) (.bin .neq (lA 7 1) (lA 8 1))) (.boo true) (.bin .neq (lA 7 2) (lA 8 2))) (.boo true) (.eqb true (lA 7 3) (lA 8 3)))] []])
(.cond (.ite (.ite (.ite (.un .not (.v 97)) (.boo true) (.bin .neq (lA 7 1) (lA 8 1))) (.boo true) (.bin .neq (lA 7 2) (lA 8 2))) (.boo true) (.eqb true (lA 7 3) (lA 8 3)))
(.seq
(.st [.asg [] [(4, (.boo false))]])
(.ret (.v 4) []))
.skip)))
(.st [.asg [] [(6, (.bin .add (.v 6) (N 1)))]])))
def v_ref1_SameProg : VFun := ⟨⟨[.F, .F], .F, true⟩, [],
(.seq
(.st [.asg [(.chk (some 4) (.v 0)), (.chk (some 4) (.v 1))] [(3, (.lp (.cn (fA 1 0) (.cn (fA 1 1) (.cn (fA 1 2) (.cn (fA 1 3) .nl)))))), (2, (.lp (.cn (fA 0 0) (.cn (fA 0 1) (.cn (fA 0 2) (.cn (fA 0 3) .nl))))))]])
(.seq
(.seq
(.st [.call [(.gd (.bin .neq (.len (lA 2 0)) (.len (lA 3 0))) false (.len (lA 2 1))), (.gd (.bin .neq (.len (lA 2 0)) (.len (lA 3 0))) false (.len (lA 3 1))), (.gd (.bin .neq (.len (lA 2 0)) (.len (lA 3 0))) false (.bin .neq (.len (lA 2 1)) (.len (lA 3 1)))), (.gd (.ite (.bin .neq (.len (lA 2 0)) (.len (lA 3 0))) (.boo true) (.bin .neq (.len (lA 2 1)) (.len (lA 3 1)))) false (.bin .neq (lA 2 3) (lA 3 3))), (.ite (.ite (.bin .neq (.len (lA 2 0)) (.len (lA 3 0))) (.boo true) (.bin .neq (.len (lA 2 1)) (.len (lA 3 1)))) (.boo true) (.bin .neq (lA 2 3) (lA 3 3)))] (some ((.ite (.ite (.bin .neq (.len (lA 2 0)) (.len (lA 3 0))) (.boo true) (.bin .neq (.len (lA 2 1)) (.len (lA 3 1)))) (.boo true) (.bin .neq (lA 2 3) (lA 3 3))), false)) 37 89 [(lA 2 2), (lA 3 2)] [], .asg [(.gd (.ite (.ite (.bin .neq (.len (lA 2 0)) (.len (lA 3 0))) (.boo true) (.bin .neq (.len (lA 2 1)) (.len (lA 3 1)))) (.boo true) (.bin .neq (lA 2 3) (lA 3 3))) false (.un .not (.v 37))), (.ite (.ite (.ite (.bin .neq (.len (lA 2 0)) (.len (lA 3 0))) (.boo true) (.bin .neq (.len (lA 2 1)) (.len (lA 3 1)))) (.boo true) (.bin .neq (lA 2 3) (lA 3 3))) (.boo true) (.un .not (.v 37)))] []])
(.cond (.ite (.ite (.ite (.bin .neq (.len (lA 2 0)) (.len (lA 3 0))) (.boo true) (.bin .neq (.len (lA 2 1)) (.len (lA 3 1)))) (.boo true) (.bin .neq (lA 2 3) (lA 3 3))) (.boo true) (.un .not (.v 37)))
(.seq
(.st [.asg [] [(4, (.boo false))]])
(.ret (.v 4) []))
.skip))
(.seq
(.seq
(.st [.asg [] [(5, (N 0))]])
(.block 0
(.loop v_ref1_SameProg_L1)))
(.seq
(.seq
(.st [.asg [] [(6, (N 0))]])
(.block 2
(.loop v_ref1_SameProg_L2)))
(.seq
(.st [.asg [] [(4, (.boo true))]])
(.ret (.v 4) []))))))⟩
def v_ref1_Code_L1 : VC :=
(.seq
(.seq
(.st [.asg [(.bin .lss (.v 5) (.len (.v 0)))] []])
(.cond (.bin .lss (.v 5) (.len (.v 0)))
.skip
(.exit 0)))
(.seq
(.block 1
(.seq
(.st [.asg [(.eqs true [false, false] (.ld (some 2) (.ia 2 (.v 0) (.v 5)) 0) (.ld (some 2) (.ia 2 (.v 1) (.v 5)) 0))] []])
(.cond (.eqs true [false, false] (.ld (some 2) (.ia 2 (.v 0) (.v 5)) 0) (.ld (some 2) (.ia 2 (.v 1) (.v 5)) 0))
(.seq
(.st [.asg [] [(4, (.boo false))]])
(.ret (.v 4) []))
.skip)))
(.st [.asg [] [(5, (.bin .add (.v 5) (N 1)))]])))
def v_ref1_Code : VFun := ⟨⟨[.F, .F], .F, true⟩, [],
(.seq
(.st [])
(.seq
(.seq
(.st [.asg [(.bin .neq (.len (.v 0)) (.len (.v 1)))] []])
(.cond (.bin .neq (.len (.v 0)) (.len (.v 1)))
(.seq
(.st [.asg [] [(4, (.boo false))]])
(.ret (.v 4) []))
.skip))
(.seq
(.seq
(.st [.asg [] [(5, (N 0))]])
(.block 0
(.loop v_ref1_Code_L1)))
(.seq
(.st [.asg [] [(4, (.boo true))]])
(.ret (.v 4) [])))))⟩
def v_ref1_SameNote : VFun := ⟨⟨[.F, .F], .F, true⟩, [],
(.seq
(.st [.asg [(.chk (some 3) (.v 0)), (.chk (some 3) (.v 1))] [(3, (.lp (.cn (fA 1 0) (.cn (fA 1 1) (.cn (fA 1 2) .nl))))), (2, (.lp (.cn (fA 0 0) (.cn (fA 0 1) (.cn (fA 0 2) .nl)))))], .call [(.gd (.bin .eql (lA 2 0) (lA 3 0)) true (.bin .eql (lA 2 1) (lA 3 1))), (.ite (.bin .eql (lA 2 0) (lA 3 0)) (.bin .eql (lA 2 1) (lA 3 1)) (.boo false))] (some ((.ite (.bin .eql (lA 2 0) (lA 3 0)) (.bin .eql (lA 2 1) (lA 3 1)) (.boo false)), true)) 22 90 [(lA 2 2), (lA 3 2)] [], .asg [] [(4, (.ite (.ite (.bin .eql (lA 2 0) (lA 3 0)) (.bin .eql (lA 2 1) (lA 3 1)) (.boo false)) (.v 22) (.boo false)))]])
(.ret (.v 4) []))⟩
def v_wire_putNumbers : VFun := ⟨⟨[(.O 1 true), .F], (.O 1 true), false⟩, [],
(.seq
(.st [.call [(.len (.v 1))] none 9 48 [(.v 0), (.lst (.cn (.len (.v 1)) .nl))] [], .call [] none 11 48 [(.v 9), (.v 1)] [], .asg [] [(4, (.v 11))]])
(.ret (.v 4) []))⟩
def v_wire_flag : VFun := ⟨⟨[.F], .F, true⟩, [],
(.seq
(.st [])
(.seq
(.seq
(.st [])
(.cond (.v 0)
(.seq
(.st [.asg [] [(2, (N 1))]])
(.ret (.v 2) []))
.skip))
(.seq
(.st [.asg [] [(2, (N 0))]])
(.ret (.v 2) []))))⟩
def v_wire_Reader_numbers_L1 : VC :=
(.seq
(.st [.asg [(.bin .lss (.v 5) (.v 4))] []])
(.seq
(.cond (.bin .lss (.v 5) (.v 4))
.skip
(.exit 0))
(.seq
(.block 1
(.st [.call [] none 9 58 [(.lp (.cn (lA 4000 0) (.cn (lA 4000 1) .nl)))] [4000], .asg [(.chk none (.v 9))] [(2, (.app 1 (.v 2) (.lst (.cn (.v 9) .nl))))]]))
(.st [.asg [] [(5, (.bin .add (.v 5) (N 1)))]]))))
def v_wire_Reader_numbers : VFun := ⟨⟨[(.B false [.F, .F])], .F, false⟩, [],
(.seq
(.st [.asg [] [(2, (.lst .nl)), (4000, (.lp (.cn (lA 0 0) (.cn (lA 0 1) .nl))))]])
(.seq
(.seq
(.st [.call [] none 4 56 [(.lp (.cn (lA 4000 0) (.cn (lA 4000 1) .nl)))] [4000], .asg [] [(5, (N 0))]])
(.block 0
(.loop v_wire_Reader_numbers_L1)))
(.seq
(.st [])
(.ret (.v 2) [(.lp (.cn (lA 4000 0) (.cn (lA 4000 1) .nl)))]))))⟩
def v_wire_Reader_flag : VFun := ⟨⟨[(.B false [.F, .F])], .F, true⟩, [],
(.seq
(.st [.asg [] [(4000, (.lp (.cn (lA 0 0) (.cn (lA 0 1) .nl))))], .call [] none 5 58 [(.lp (.cn (lA 4000 0) (.cn (lA 4000 1) .nl)))] [4000], .asg [] [(3, (.v 5))], .asg [(.gd (.gd (lA 4000 1) false (.bin .neq (.v 3) (N 0))) true (.bin .neq (.v 3) (N 1))), (.gd (lA 4000 1) false .nl), (.gd (lA 4000 1) false (.ite (.bin .neq (.v 3) (N 0)) (.bin .neq (.v 3) (N 1)) (.boo false)))] [(4000, (.lp (.cn (lA 4000 0) (.cn (.ite (lA 4000 1) (.boo true) (.ite (.bin .neq (.v 3) (N 0)) (.bin .neq (.v 3) (N 1)) (.boo false))) .nl))))], .asg [] [(2, (.bin .eql (.v 3) (N 1)))]])
(.ret (.v 2) [(.lp (.cn (lA 4000 0) (.cn (lA 4000 1) .nl)))]))⟩
def v_ref1_SameNotes_L1 : VC :=
(.seq
(.seq
(.st [.asg [(.bin .lss (.v 5) (.len (.v 0)))] []])
(.cond (.bin .lss (.v 5) (.len (.v 0)))
.skip
(.exit 0)))
(.seq
(.block 1
(.seq
(.st [.call [(.ld (some 3) (.ia 3 (.v 0) (.v 5)) 0), (.ld (some 3) (.ia 3 (.v 1) (.v 5)) 0)] none 25 80 [(.ld (some 3) (.ia 3 (.v 0) (.v 5)) 0), (.ld (some 3) (.ia 3 (.v 1) (.v 5)) 0)] [], .asg [(.un .not (.v 25))] []])
(.cond (.un .not (.v 25))
(.seq
(.st [.asg [] [(4, (.boo false))]])
(.ret (.v 4) []))
.skip)))
(.st [.asg [] [(5, (.bin .add (.v 5) (N 1)))]])))
def v_ref1_SameNotes : VFun := ⟨⟨[.F, .F], .F, true⟩, [],
(.seq
(.st [])
(.seq
(.seq
(.st [.asg [(.bin .neq (.len (.v 0)) (.len (.v 1)))] []])
(.cond (.bin .neq (.len (.v 0)) (.len (.v 1)))
(.seq
(.st [.asg [] [(4, (.boo false))]])
(.ret (.v 4) []))
.skip))
(.seq
(.seq
(.st [.asg [] [(5, (N 0))]])
(.block 0
(.loop v_ref1_SameNotes_L1)))
(.seq
(.st [.asg [] [(4, (.boo true))]])
(.ret (.v 4) [])))))⟩
def v_ref1_Ints_L1 : VC :=
(.seq
(.seq
(.st [.asg [(.bin .lss (.v 5) (.len (.v 0)))] []])
(.cond (.bin .lss (.v 5) (.len (.v 0)))
.skip
(.exit 0)))
(.seq
(.block 1
(.seq
(.st [.asg [(.bin .neq (.ld none (.ia 1 (.v 0) (.v 5)) 0) (.ld none (.ia 1 (.v 1) (.v 5)) 0))] []])
(.cond (.bin .neq (.ld none (.ia 1 (.v 0) (.v 5)) 0) (.ld none (.ia 1 (.v 1) (.v 5)) 0))
(.seq
(.st [.asg [] [(4, (.boo false))]])
(.ret (.v 4) []))
.skip)))
(.st [.asg [] [(5, (.bin .add (.v 5) (N 1)))]])))
def v_ref1_Ints : VFun := ⟨⟨[.F, .F], .F, true⟩, [],
(.seq
(.st [])
(.seq
(.seq
(.st [.asg [(.bin .neq (.len (.v 0)) (.len (.v 1)))] []])
(.cond (.bin .neq (.len (.v 0)) (.len (.v 1)))
(.seq
(.st [.asg [] [(4, (.boo false))]])
(.ret (.v 4) []))
.skip))
(.seq
(.seq
(.st [.asg [] [(5, (N 0))]])
(.block 0
(.loop v_ref1_Ints_L1)))
(.seq
(.st [.asg [] [(4, (.boo true))]])
(.ret (.v 4) [])))))⟩
def VTL : List (Option VFun) := [none, some v_law22_WireTasks, none, none, none, none, none, none, none, none, some yesV, some v_wire_Number, some v_wire_Take, some v_ref20_Take, some v_ref20_Number, some v_law22_small, some v_wire_Encode, some v_ref20_Encode, some v_law22_task, some v_wire_Decode, some v_ref20_Decode, some v_ref20_SameTask, none, none, none, none, none, none, none, none, none, none, none, none, none, none, none, none, none, none, none, none, none, none, none, none, some v_alike_Small, some v_alike_Watches, some v_wire_put, some v_wire_putProgram, some v_wire_putCode, some v_ref20_put, some v_ref20_code, some v_ref1_Truth, some v_wire_Read, some v_wire_Reader_program, some v_wire_Reader_Count, some v_wire_Reader_code, some v_wire_Reader_Num, some v_wire_Reader_Good, some v_ref20_reader_many, some v_ref20_reader_int, some v_ref20_reader_code, some v_ref20_reader_ints, some v_ref1_SameProg, some v_ref1_Code, none, none, none, none, none, none, none, none, none, none, none, none, none, none, some v_ref1_SameNote, none, none, none, none, some v_wire_putNumbers, some v_wire_flag, some v_wire_Reader_numbers, some v_wire_Reader_flag, some v_ref1_SameNotes, some v_ref1_Ints]
def tVT : Nat → Option VFun := tabV VTL
def tVS : Nat → Option Sig := fun g => (tVT g).map VFun.sig
end Gv

namespace Gv
open Go
theorem mk1 : EntOk (tabOf FTL) tVS 1 v_law22_WireTasks := .inl ⟨f_law22_WireTasks, rfl, by kernel_rfl⟩
theorem mk11 : EntOk (tabOf FTL) tVS 11 v_wire_Number := .inl ⟨f_wire_Number, rfl, by kernel_rfl⟩
theorem mk12 : EntOk (tabOf FTL) tVS 12 v_wire_Take := .inl ⟨f_wire_Take, rfl, by kernel_rfl⟩
theorem mk13 : EntOk (tabOf FTL) tVS 13 v_ref20_Take := .inl ⟨f_ref20_Take, rfl, by kernel_rfl⟩
theorem mk14 : EntOk (tabOf FTL) tVS 14 v_ref20_Number := .inl ⟨f_ref20_Number, rfl, by kernel_rfl⟩
theorem mk15 : EntOk (tabOf FTL) tVS 15 v_law22_small := .inl ⟨f_law22_small, rfl, by kernel_rfl⟩
theorem mk16 : EntOk (tabOf FTL) tVS 16 v_wire_Encode := .inl ⟨f_wire_Encode, rfl, by kernel_rfl⟩
theorem mk17 : EntOk (tabOf FTL) tVS 17 v_ref20_Encode := .inl ⟨f_ref20_Encode, rfl, by kernel_rfl⟩
theorem mk18 : EntOk (tabOf FTL) tVS 18 v_law22_task := .inl ⟨f_law22_task, rfl, by kernel_rfl⟩
theorem mk19 : EntOk (tabOf FTL) tVS 19 v_wire_Decode := .inl ⟨f_wire_Decode, rfl, by kernel_rfl⟩
theorem mk20 : EntOk (tabOf FTL) tVS 20 v_ref20_Decode := .inl ⟨f_ref20_Decode, rfl, by kernel_rfl⟩
theorem mk21 : EntOk (tabOf FTL) tVS 21 v_ref20_SameTask := .inl ⟨f_ref20_SameTask, rfl, by kernel_rfl⟩
theorem mk46 : EntOk (tabOf FTL) tVS 46 v_alike_Small := .inl ⟨f_alike_Small, rfl, by kernel_rfl⟩
theorem mk47 : EntOk (tabOf FTL) tVS 47 v_alike_Watches := .inl ⟨f_alike_Watches, rfl, by kernel_rfl⟩
theorem mk48 : EntOk (tabOf FTL) tVS 48 v_wire_put := .inl ⟨f_wire_put, rfl, by kernel_rfl⟩
theorem mk49 : EntOk (tabOf FTL) tVS 49 v_wire_putProgram := .inl ⟨f_wire_putProgram, rfl, by kernel_rfl⟩
theorem mk50 : EntOk (tabOf FTL) tVS 50 v_wire_putCode := .inl ⟨f_wire_putCode, rfl, by kernel_rfl⟩
theorem mk51 : EntOk (tabOf FTL) tVS 51 v_ref20_put := .inl ⟨f_ref20_put, rfl, by kernel_rfl⟩
theorem mk52 : EntOk (tabOf FTL) tVS 52 v_ref20_code := .inl ⟨f_ref20_code, rfl, by kernel_rfl⟩
theorem mk53 : EntOk (tabOf FTL) tVS 53 v_ref1_Truth := .inl ⟨f_ref1_Truth, rfl, by kernel_rfl⟩
theorem mk54 : EntOk (tabOf FTL) tVS 54 v_wire_Read := .inl ⟨f_wire_Read, rfl, by kernel_rfl⟩
theorem mk55 : EntOk (tabOf FTL) tVS 55 v_wire_Reader_program := .inl ⟨f_wire_Reader_program, rfl, by kernel_rfl⟩
theorem mk56 : EntOk (tabOf FTL) tVS 56 v_wire_Reader_Count := .inl ⟨f_wire_Reader_Count, rfl, by kernel_rfl⟩
theorem mk57 : EntOk (tabOf FTL) tVS 57 v_wire_Reader_code := .inl ⟨f_wire_Reader_code, rfl, by kernel_rfl⟩
theorem mk58 : EntOk (tabOf FTL) tVS 58 v_wire_Reader_Num := .inl ⟨f_wire_Reader_Num, rfl, by kernel_rfl⟩
theorem mk59 : EntOk (tabOf FTL) tVS 59 v_wire_Reader_Good := .inl ⟨f_wire_Reader_Good, rfl, by kernel_rfl⟩
theorem mk60 : EntOk (tabOf FTL) tVS 60 v_ref20_reader_many := .inl ⟨f_ref20_reader_many, rfl, by kernel_rfl⟩
theorem mk61 : EntOk (tabOf FTL) tVS 61 v_ref20_reader_int := .inl ⟨f_ref20_reader_int, rfl, by kernel_rfl⟩
theorem mk62 : EntOk (tabOf FTL) tVS 62 v_ref20_reader_code := .inl ⟨f_ref20_reader_code, rfl, by kernel_rfl⟩
theorem mk63 : EntOk (tabOf FTL) tVS 63 v_ref20_reader_ints := .inl ⟨f_ref20_reader_ints, rfl, by kernel_rfl⟩
theorem mk64 : EntOk (tabOf FTL) tVS 64 v_ref1_SameProg := .inl ⟨f_ref1_SameProg, rfl, by kernel_rfl⟩
theorem mk65 : EntOk (tabOf FTL) tVS 65 v_ref1_Code := .inl ⟨f_ref1_Code, rfl, by kernel_rfl⟩
theorem mk80 : EntOk (tabOf FTL) tVS 80 v_ref1_SameNote := .inl ⟨f_ref1_SameNote, rfl, by kernel_rfl⟩
theorem mk85 : EntOk (tabOf FTL) tVS 85 v_wire_putNumbers := .inl ⟨f_wire_putNumbers, rfl, by kernel_rfl⟩
theorem mk86 : EntOk (tabOf FTL) tVS 86 v_wire_flag := .inl ⟨f_wire_flag, rfl, by kernel_rfl⟩
theorem mk87 : EntOk (tabOf FTL) tVS 87 v_wire_Reader_numbers := .inl ⟨f_wire_Reader_numbers, rfl, by kernel_rfl⟩
theorem mk88 : EntOk (tabOf FTL) tVS 88 v_wire_Reader_flag := .inl ⟨f_wire_Reader_flag, rfl, by kernel_rfl⟩
theorem mk89 : EntOk (tabOf FTL) tVS 89 v_ref1_SameNotes := .inl ⟨f_ref1_SameNotes, rfl, by kernel_rfl⟩
theorem mk90 : EntOk (tabOf FTL) tVS 90 v_ref1_Ints := .inl ⟨f_ref1_Ints, rfl, by kernel_rfl⟩
end Gv

namespace Gv
open Go
theorem tVT_ok : VTOk' (tabOf FTL) tVT := by
  have key : ∀ n, ∀ f F, tabV VTL f = some F → f < n → F.binds = [] ∧ EntOk (tabOf FTL) tVS f F := by
    intro n f F h hn
    match f, h with
    | 0, h => cases h
    | 1, h => cases h; exact ⟨rfl, mk1⟩
    | 2, h => cases h
    | 3, h => cases h
    | 4, h => cases h
    | 5, h => cases h
    | 6, h => cases h
    | 7, h => cases h
    | 8, h => cases h
    | 9, h => cases h
    | 10, h => cases h; exact ⟨rfl, yes_ent awakeV⟩
    | 11, h => cases h; exact ⟨rfl, mk11⟩
    | 12, h => cases h; exact ⟨rfl, mk12⟩
    | 13, h => cases h; exact ⟨rfl, mk13⟩
    | 14, h => cases h; exact ⟨rfl, mk14⟩
    | 15, h => cases h; exact ⟨rfl, mk15⟩
    | 16, h => cases h; exact ⟨rfl, mk16⟩
    | 17, h => cases h; exact ⟨rfl, mk17⟩
    | 18, h => cases h; exact ⟨rfl, mk18⟩
    | 19, h => cases h; exact ⟨rfl, mk19⟩
    | 20, h => cases h; exact ⟨rfl, mk20⟩
    | 21, h => cases h; exact ⟨rfl, mk21⟩
    | 22, h => cases h
    | 23, h => cases h
    | 24, h => cases h
    | 25, h => cases h
    | 26, h => cases h
    | 27, h => cases h
    | 28, h => cases h
    | 29, h => cases h
    | 30, h => cases h
    | 31, h => cases h
    | 32, h => cases h
    | 33, h => cases h
    | 34, h => cases h
    | 35, h => cases h
    | 36, h => cases h
    | 37, h => cases h
    | 38, h => cases h
    | 39, h => cases h
    | 40, h => cases h
    | 41, h => cases h
    | 42, h => cases h
    | 43, h => cases h
    | 44, h => cases h
    | 45, h => cases h
    | 46, h => cases h; exact ⟨rfl, mk46⟩
    | 47, h => cases h; exact ⟨rfl, mk47⟩
    | 48, h => cases h; exact ⟨rfl, mk48⟩
    | 49, h => cases h; exact ⟨rfl, mk49⟩
    | 50, h => cases h; exact ⟨rfl, mk50⟩
    | 51, h => cases h; exact ⟨rfl, mk51⟩
    | 52, h => cases h; exact ⟨rfl, mk52⟩
    | 53, h => cases h; exact ⟨rfl, mk53⟩
    | 54, h => cases h; exact ⟨rfl, mk54⟩
    | 55, h => cases h; exact ⟨rfl, mk55⟩
    | 56, h => cases h; exact ⟨rfl, mk56⟩
    | 57, h => cases h; exact ⟨rfl, mk57⟩
    | 58, h => cases h; exact ⟨rfl, mk58⟩
    | 59, h => cases h; exact ⟨rfl, mk59⟩
    | 60, h => cases h; exact ⟨rfl, mk60⟩
    | 61, h => cases h; exact ⟨rfl, mk61⟩
    | 62, h => cases h; exact ⟨rfl, mk62⟩
    | 63, h => cases h; exact ⟨rfl, mk63⟩
    | 64, h => cases h; exact ⟨rfl, mk64⟩
    | 65, h => cases h; exact ⟨rfl, mk65⟩
    | 66, h => cases h
    | 67, h => cases h
    | 68, h => cases h
    | 69, h => cases h
    | 70, h => cases h
    | 71, h => cases h
    | 72, h => cases h
    | 73, h => cases h
    | 74, h => cases h
    | 75, h => cases h
    | 76, h => cases h
    | 77, h => cases h
    | 78, h => cases h
    | 79, h => cases h
    | 80, h => cases h; exact ⟨rfl, mk80⟩
    | 81, h => cases h
    | 82, h => cases h
    | 83, h => cases h
    | 84, h => cases h
    | 85, h => cases h; exact ⟨rfl, mk85⟩
    | 86, h => cases h; exact ⟨rfl, mk86⟩
    | 87, h => cases h; exact ⟨rfl, mk87⟩
    | 88, h => cases h; exact ⟨rfl, mk88⟩
    | 89, h => cases h; exact ⟨rfl, mk89⟩
    | 90, h => cases h; exact ⟨rfl, mk90⟩
    | f + 91, h => cases h
  exact fun f F h => key (f + 1) f F h (by omega)
end Gv
