/- What this file proves: one part of the proof that the law answers true for every input, by an interpreter that is proved sound against the given model. -/
import Derived.Test.YtkjefeclbdjkcaaVc
import Derived.Test.YtkjefeclbdjkcaaIrv
import Derived.KernelRfl
import Derived.Test.YtkjefeclbdjkcaaAw
namespace Gv
open Go
abbrev N (n : Int) : X := .int .i64 n
def v_law22_WirePaths : VFun := ⟨⟨[.F, .F], .F, true⟩, [],
 (.seq
 (.st [])
 (.seq
 (.seq
 (.st [.asg [(.gd (.bin .gtr (.len (.v 0)) (N 1100)) false (.len (.v 1))), (.gd (.bin .gtr (.len (.v 0)) (N 1100)) false (.bin .gtr (.len (.v 1)) (N 2000))), (.ite (.bin .gtr (.len (.v 0)) (N 1100)) (.boo true) (.bin .gtr (.len (.v 1)) (N 2000)))] []])
 (.cond (.ite (.bin .gtr (.len (.v 0)) (N 1100)) (.boo true) (.bin .gtr (.len (.v 1)) (N 2000)))
 (.seq
 (.st [.call [] none 23 10 [] [], .asg [] [(4, (.v 23))]])
 (.ret (.v 4) []))
 .skip))
 (.seq
 (.st [.call [] none 26 24 [(.v 0)] [], .asg [] [(6, (.ext (.v 26) 1)), (5, (.ext (.v 26) 0))], .call [] none 31 25 [(.v 0)] [], .asg [] [(8, (.ext (.v 31) 1)), (7, (.ext (.v 31) 0))], .call [] none 36 26 [(.v 1)] [], .asg [] [(10, (.ext (.v 36) 1)), (9, (.ext (.v 36) 0))], .call [] none 41 27 [(.v 1)] [], .asg [] [(12, (.ext (.v 41) 1)), (11, (.ext (.v 41) 0))]])
 (.seq
 (.seq
 (.st [.call [(.gd (.bin .neq (.b2s (.v 5)) (.b2s (.v 7))) false (.bin .neq (.v 6) (.v 8))), (.ite (.bin .neq (.b2s (.v 5)) (.b2s (.v 7))) (.boo true) (.bin .neq (.v 6) (.v 8)))] (some ((.ite (.bin .neq (.b2s (.v 5)) (.b2s (.v 7))) (.boo true) (.bin .neq (.v 6) (.v 8))), false)) 57 28 [(.v 9), (.v 11)] [], .asg [(.gd (.ite (.bin .neq (.b2s (.v 5)) (.b2s (.v 7))) (.boo true) (.bin .neq (.v 6) (.v 8))) false (.un .not (.v 57))), (.gd (.ite (.ite (.bin .neq (.b2s (.v 5)) (.b2s (.v 7))) (.boo true) (.bin .neq (.v 6) (.v 8))) (.boo true) (.un .not (.v 57))) false (.bin .neq (.v 10) (.v 12))), (.ite (.ite (.ite (.bin .neq (.b2s (.v 5)) (.b2s (.v 7))) (.boo true) (.bin .neq (.v 6) (.v 8))) (.boo true) (.un .not (.v 57))) (.boo true) (.bin .neq (.v 10) (.v 12)))] []])
 (.cond (.ite (.ite (.ite (.bin .neq (.b2s (.v 5)) (.b2s (.v 7))) (.boo true) (.bin .neq (.v 6) (.v 8))) (.boo true) (.un .not (.v 57))) (.boo true) (.bin .neq (.v 10) (.v 12)))
 (.seq
 (.st [.asg [] [(4, (.boo false))]])
 (.ret (.v 4) []))
 .skip))
 (.seq
 (.st [.call [] none 67 26 [(.v 5)] [], .asg [] [(14, (.ext (.v 67) 1)), (13, (.ext (.v 67) 0))], .call [(.gd (.bin .neq (.v 6) (N 0)) false (.bin .eql (.v 14) (N 0)))] (some ((.gd (.bin .neq (.v 6) (N 0)) false (.bin .eql (.v 14) (N 0))), true)) 78 28 [(.v 13), (.v 0)] [], .call [(.gd (.ite (.bin .neq (.v 6) (N 0)) (.boo true) (.ite (.bin .eql (.v 14) (N 0)) (.v 78) (.boo false))) true .nl), (.gd (.bin .neq (.v 6) (N 0)) false (.ite (.bin .eql (.v 14) (N 0)) (.v 78) (.boo false))), (.ite (.bin .neq (.v 6) (N 0)) (.boo true) (.ite (.bin .eql (.v 14) (N 0)) (.v 78) (.boo false)))] (some ((.ite (.bin .neq (.v 6) (N 0)) (.boo true) (.ite (.bin .eql (.v 14) (N 0)) (.v 78) (.boo false))), true)) 82 10 [] [], .asg [] [(4, (.ite (.ite (.bin .neq (.v 6) (N 0)) (.boo true) (.ite (.bin .eql (.v 14) (N 0)) (.v 78) (.boo false))) (.v 82) (.boo false)))]])
 (.ret (.v 4) []))))))⟩
def v_law22_WirePieces_L1 : VC :=
 (.seq
 (.seq
 (.st [.asg [(.bin .lss (.v 10) (N 5))] []])
 (.cond (.bin .lss (.v 10) (N 5))
 .skip
 (.exit 2)))
 (.seq
 (.block 3
 (.st [.call [(.ld none (.ia 1 (.v 9) (.v 10)) 0)] none 73 11 [(.ld none (.ia 1 (.v 9) (.v 10)) 0)] [], .asg [] [(7, (.app 1 (.v 7) (.v 73)))]]))
 (.st [.asg [] [(10, (.bin .add (.v 10) (N 1)))]])))
def v_law22_WirePieces_L2 : VC :=
 (.seq
 (.seq
 (.st [.asg [(.bin .lss (.v 8) (.len (.v 0)))] []])
 (.cond (.bin .lss (.v 8) (.len (.v 0)))
 .skip
 (.exit 0)))
 (.seq
 (.block 1
 (.seq
 (.st [.asg [] [(9, (.lst (.cn (.ld none (.fa (.ia 5 (.v 0) (.v 8)) 0) 0) (.cn (.ld none (.fa (.fa (.ia 5 (.v 0) (.v 8)) 1) 0) 0) (.cn (.ld none (.fa (.fa (.ia 5 (.v 0) (.v 8)) 1) 1) 0) (.cn (.ld none (.fa (.fa (.ia 5 (.v 0) (.v 8)) 1) 2) 0) (.cn (.ld none (.fa (.ia 5 (.v 0) (.v 8)) 4) 0) .nl)))))))], .asg [] [(10, (N 0))]])
 (.block 2
 (.loop v_law22_WirePieces_L1))))
 (.st [.asg [] [(8, (.bin .add (.v 8) (N 1)))]])))
def v_law22_WirePieces : VFun := ⟨⟨[.F, .F], .F, true⟩, [],
 (.seq
 (.st [])
 (.seq
 (.seq
 (.st [.asg [(.bin .gtr (.len (.v 0)) (N 50))] []])
 (.cond (.bin .gtr (.len (.v 0)) (N 50))
 (.seq
 (.st [.call [] none 18 10 [] [], .asg [] [(4, (.v 18))]])
 (.ret (.v 4) []))
 .skip))
 (.seq
 (.st [.call [] none 21 24 [(.v 0)] [], .asg [] [(6, (.ext (.v 21) 1)), (5, (.ext (.v 21) 0))], .call [(.len (.v 0))] none 27 11 [(.len (.v 0))] [], .asg [] [(7, (.app 1 (.lst .nl) (.v 27)))]])
 (.seq
 (.seq
 (.st [.asg [] [(8, (N 0))]])
 (.block 0
 (.loop v_law22_WirePieces_L2)))
 (.seq
 (.seq
 (.st [.asg [(.gd (.bin .neq (.v 6) (N 0)) false (.b2s (.v 5))), (.gd (.bin .neq (.v 6) (N 0)) false (.b2s (.v 7))), (.gd (.bin .neq (.v 6) (N 0)) false (.bin .neq (.b2s (.v 5)) (.b2s (.v 7)))), (.gd (.ite (.bin .neq (.v 6) (N 0)) (.boo true) (.bin .neq (.b2s (.v 5)) (.b2s (.v 7)))) false (.len (.v 5))), (.gd (.ite (.bin .neq (.v 6) (N 0)) (.boo true) (.bin .neq (.b2s (.v 5)) (.b2s (.v 7)))) false (.bin .eql (.len (.v 5)) (N 0))), (.ite (.ite (.bin .neq (.v 6) (N 0)) (.boo true) (.bin .neq (.b2s (.v 5)) (.b2s (.v 7)))) (.boo true) (.bin .eql (.len (.v 5)) (N 0)))] []])
 (.cond (.ite (.ite (.bin .neq (.v 6) (N 0)) (.boo true) (.bin .neq (.b2s (.v 5)) (.b2s (.v 7)))) (.boo true) (.bin .eql (.len (.v 5)) (N 0)))
 (.seq
 (.st [.asg [] [(4, (.boo false))]])
 (.ret (.v 4) []))
 .skip))
 (.seq
 (.st [.call [(.len (.v 5))] none 94 23 [(.v 1), (.len (.v 5))] [], .call [(.slice 1 (.v 5) .nl (.v 94) .nl)] none 96 26 [(.slice 1 (.v 5) .nl (.v 94) .nl)] [], .asg [] [(12, (.ext (.v 96) 1))], .call [(.app 1 (.app 1 (.lst .nl) (.v 5)) (.lst (.cn (.int .u8 0) .nl)))] none 105 26 [(.app 1 (.app 1 (.lst .nl) (.v 5)) (.lst (.cn (.int .u8 0) .nl)))] [], .asg [] [(14, (.ext (.v 105) 1))], .call [(.gd (.bin .eql (.v 12) (N 2)) true (.bin .eql (.v 14) (N 2))), (.ite (.bin .eql (.v 12) (N 2)) (.bin .eql (.v 14) (N 2)) (.boo false))] (some ((.ite (.bin .eql (.v 12) (N 2)) (.bin .eql (.v 14) (N 2)) (.boo false)), true)) 115 10 [] [], .asg [] [(4, (.ite (.ite (.bin .eql (.v 12) (N 2)) (.bin .eql (.v 14) (N 2)) (.boo false)) (.v 115) (.boo false)))]])
 (.ret (.v 4) [])))))))⟩
def v_wire_Number_L1 : VC :=
 (.seq
 (.seq
 (.st [.asg [(.bin .geq (.v 3) (.int .u64 128))] []])
 (.cond (.bin .geq (.v 3) (.int .u64 128))
 .skip
 (.exit 0)))
 (.seq
 (.block 1
 (.st [.asg [] [(2, (.app 1 (.v 2) (.lst (.cn (.bin .or (.toInt .u8 (.v 3)) (.int .u8 128)) .nl))))]]))
 (.st [.asg [] [(3, (.bin .shr (.v 3) (.int .u64 7)))]])))
def v_wire_Number : VFun := ⟨⟨[.F], .F, false⟩, [],
 (.seq
 (.st [.asg [] [(2, (.lst .nl))], .asg [] [(3, (.bin .xor (.bin .shl (.toInt .u64 (.v 0)) (.int .u64 1)) (.toInt .u64 (.bin .shr (.v 0) (.int .u64 63)))))]])
 (.seq
 (.block 0
 (.loop v_wire_Number_L1))
 (.seq
 (.st [.asg [] [(2, (.app 1 (.v 2) (.lst (.cn (.toInt .u8 (.v 3)) .nl))))]])
 (.ret (.v 2) []))))⟩
def v_wire_Take_L1 : VC :=
 (.seq
 (.st [.asg [(.bin .lss (.v 12) (.v 11))] []])
 (.seq
 (.cond (.bin .lss (.v 12) (.v 11))
 .skip
 (.exit 0))
 (.seq
 (.block 1
 (.seq
 (.st [.asg [] [(7, (.ld none (.ia 1 (.v 10) (.v 12)) 0)), (6, (.v 12))], .asg [] [(8, (.bin .andNot (.toInt .u64 (.v 7)) (.int .u64 128)))]])
 (.seq
 (.seq
 (.st [.asg [] [(9, (.bin .mul (N 7) (.v 6)))]])
 (.block 2
 (.seq
 (.seq
 (.st [.asg [] [(27, (.bin .geq (.v 9) (N 64)))]])
 (.cond (.v 27)
 .skip
 (.seq
 (.st [.asg [(.gd (.bin .gtr (.bin .add (.v 9) (N 7)) (N 64)) true (.bin .sub (N 64) (.v 9))), (.gd (.bin .gtr (.bin .add (.v 9) (N 7)) (N 64)) true (.bin .shr (.v 8) (.bin .sub (N 64) (.v 9)))), (.gd (.bin .gtr (.bin .add (.v 9) (N 7)) (N 64)) true (.bin .neq (.bin .shr (.v 8) (.bin .sub (N 64) (.v 9))) (.int .u64 0)))] [(27, (.ite (.bin .gtr (.bin .add (.v 9) (N 7)) (N 64)) (.bin .neq (.bin .shr (.v 8) (.bin .sub (N 64) (.v 9))) (.int .u64 0)) (.boo false)))]])
 (.cond (.v 27)
 .skip
 (.st [.asg [(.gd (.bin .eql (.v 7) (.int .u8 0)) true (.bin .gtr (.v 6) (N 0)))] [(27, (.ite (.bin .eql (.v 7) (.int .u8 0)) (.bin .gtr (.v 6) (N 0)) (.boo false)))]])))))
 (.cond (.v 27)
 (.seq
 (.st [.asg [] [(4, (N 2)), (3, (N 0)), (2, (N 0))]])
 (.ret (.tup (.cn (.v 2) (.cn (.v 3) (.cn (.v 4) .nl)))) []))
 (.st [.asg [] [(5, (.bin .or (.v 5) (.bin .shl (.v 8) (.v 9))))]])))))
 (.seq
 (.st [.asg [(.bin .lss (.v 7) (.int .u8 128))] []])
 (.cond (.bin .lss (.v 7) (.int .u8 128))
 (.seq
 (.st [.asg [] [(4, (N 0)), (3, (.bin .add (.v 6) (N 1))), (2, (.bin .xor (.toInt .i64 (.bin .shr (.v 5) (.int .u64 1))) (.un .neg (.toInt .i64 (.bin .and (.v 5) (.int .u64 1))))))]])
 (.ret (.tup (.cn (.v 2) (.cn (.v 3) (.cn (.v 4) .nl)))) []))
 .skip)))))
 (.st [.asg [] [(12, (.bin .add (.v 12) (N 1)))]]))))
def v_wire_Take : VFun := ⟨⟨[.F], (.T [.F, .F, .F]), true⟩, [],
 (.seq
 (.st [.asg [] [(5, (.int .u64 0))]])
 (.seq
 (.seq
 (.st [.asg [] [(12, (N 0)), (11, (.len (.v 0))), (10, (.v 0))]])
 (.block 0
 (.loop v_wire_Take_L1)))
 (.seq
 (.st [.asg [] [(4, (N 2)), (3, (N 0)), (2, (N 0))]])
 (.ret (.tup (.cn (.v 2) (.cn (.v 3) (.cn (.v 4) .nl)))) []))))⟩
def v_ref20_Take_L1 : VC :=
 (.seq
 (.seq
 (.st [.asg [(.gd (.bin .lss (.v 5) (.len (.v 0))) true (.bin .lss (.v 5) (N 10))), (.ite (.bin .lss (.v 5) (.len (.v 0))) (.bin .lss (.v 5) (N 10)) (.boo false))] []])
 (.cond (.ite (.bin .lss (.v 5) (.len (.v 0))) (.bin .lss (.v 5) (N 10)) (.boo false))
 .skip
 (.exit 0)))
 (.seq
 (.block 1
 (.seq
 (.st [.asg [] [(4, (.bin .or (.v 4) (.bin .shl (.toInt .u64 (.bin .and (.ld none (.ia 1 (.v 0) (.v 5)) 0) (.int .u8 127))) (.bin .mul (N 7) (.v 5)))))]])
 (.seq
 (.seq
 (.st [.asg [(.bin .geq (.ld none (.ia 1 (.v 0) (.v 5)) 0) (.int .u8 128))] []])
 (.cond (.bin .geq (.ld none (.ia 1 (.v 0) (.v 5)) 0) (.int .u8 128))
 (.exit 1)
 .skip))
 (.seq
 (.st [.asg [] [(6, (.toInt .i64 (.bin .shr (.v 4) (.int .u64 1))))]])
 (.seq
 (.seq
 (.st [.asg [(.bin .eql (.bin .and (.v 4) (.int .u64 1)) (.int .u64 1))] []])
 (.cond (.bin .eql (.bin .and (.v 4) (.int .u64 1)) (.int .u64 1))
 (.st [.asg [] [(6, (.bin .sub (.un .neg (.v 6)) (N 1)))]])
 .skip))
 (.seq
 (.seq
 (.st [.call [] none 43 14 [(.v 6)] [], .asg [(.bin .neq (.b2s (.v 43)) (.b2s (.slice 1 (.v 0) .nl (.bin .add (.v 5) (N 1)) .nl)))] []])
 (.cond (.bin .neq (.b2s (.v 43)) (.b2s (.slice 1 (.v 0) .nl (.bin .add (.v 5) (N 1)) .nl)))
 (.seq
 (.st [.asg [] [(3, (N 0)), (2, (N 0))]])
 (.ret (.tup (.cn (.v 2) (.cn (.v 3) .nl))) []))
 .skip))
 (.seq
 (.st [.asg [] [(3, (.bin .add (.v 5) (N 1))), (2, (.v 6))]])
 (.ret (.tup (.cn (.v 2) (.cn (.v 3) .nl))) []))))))))
 (.st [.asg [] [(5, (.bin .add (.v 5) (N 1)))]])))
def v_ref20_Take : VFun := ⟨⟨[.F], (.T [.F, .F]), true⟩, [],
 (.seq
 (.st [.asg [] [(4, (.int .u64 0))]])
 (.seq
 (.seq
 (.st [.asg [] [(5, (N 0))]])
 (.block 0
 (.loop v_ref20_Take_L1)))
 (.seq
 (.st [.asg [] [(3, (N 0)), (2, (N 0))]])
 (.ret (.tup (.cn (.v 2) (.cn (.v 3) .nl))) []))))⟩
def v_ref20_Number_L1 : VC :=
 (.seq
 (.seq
 (.st [.asg [(.bin .geq (.v 3) (.int .u64 128))] []])
 (.cond (.bin .geq (.v 3) (.int .u64 128))
 .skip
 (.exit 0)))
 (.block 1
 (.st [.asg [] [(4, (.app 1 (.v 4) (.lst (.cn (.bin .or (.toInt .u8 (.v 3)) (.int .u8 128)) .nl))))], .asg [] [(3, (.bin .shr (.v 3) (.int .u64 7)))]])))
def v_ref20_Number : VFun := ⟨⟨[.F], .F, false⟩, [],
 (.seq
 (.st [.asg [] [(3, (.bin .mul (.toInt .u64 (.v 0)) (.int .u64 2)))]])
 (.seq
 (.seq
 (.st [.asg [(.bin .lss (.v 0) (N 0))] []])
 (.cond (.bin .lss (.v 0) (N 0))
 (.st [.asg [] [(3, (.bin .add (.bin .mul (.toInt .u64 (.un .neg (.bin .add (.v 0) (N 1)))) (.int .u64 2)) (.int .u64 1)))]])
 .skip))
 (.seq
 (.st [.asg [] [(4, (.lst .nl))]])
 (.seq
 (.block 0
 (.loop v_ref20_Number_L1))
 (.seq
 (.st [.asg [] [(2, (.app 1 (.v 4) (.lst (.cn (.toInt .u8 (.v 3)) .nl))))]])
 (.ret (.v 2) []))))))⟩
def v_wire_Encode_L1 : VC :=
 (.seq
 (.st [.asg [(.bin .lss (.v 20) (.v 19))] []])
 (.seq
 (.cond (.bin .lss (.v 20) (.v 19))
 .skip
 (.exit 0))
 (.seq
 (.block 1
 (.st [.asg [] [(6, (.ld none (.ia 1 (.v 18) (.v 20)) 0))], .call [] none 26 50 [(.v 4), (.v 6)] [], .asg [] [(4, (.v 26))]]))
 (.st [.asg [] [(20, (.bin .add (.v 20) (N 1)))]]))))
def v_wire_Encode : VFun := ⟨⟨[.F], (.T [.F, .F]), false⟩, [],
 (.seq
 (.st [.asg [(.chk (some 11) (.v 0))] [(1, (.lp (.cn (.fld none (.v 0) 0) (.cn (.fld none (.v 0) 1) (.cn (.fld none (.v 0) 2) (.cn (.fld none (.v 0) 3) (.cn (.fld none (.v 0) 4) (.cn (.fld none (.v 0) 5) (.cn (.fld none (.v 0) 6) (.cn (.fld none (.v 0) 7) (.cn (.fld none (.v 0) 8) (.cn (.fld none (.v 0) 9) (.cn (.fld none (.v 0) 10) .nl)))))))))))))], .call [(.pos (.lst (.cn (.int .u8 71) (.cn (.int .u8 65) (.cn (.int .u8 86) (.cn (.int .u8 49) .nl))))))] none 11 49 [(.lst (.cn (.int .u8 71) (.cn (.int .u8 65) (.cn (.int .u8 86) (.cn (.int .u8 49) .nl))))), (.agg (.cn (.ld none (.v 1) 0) (.cn (.ld none (.v 1) 1) (.cn (.ld none (.v 1) 2) (.cn (.ld none (.v 1) 3) .nl)))))] [], .call [(.len (.ld none (.v 1) 4))] none 16 48 [(.v 11), (.lst (.cn (.len (.ld none (.v 1) 4)) .nl))] [], .asg [] [(4, (.v 16))]])
 (.seq
 (.seq
 (.st [.asg [] [(20, (N 0)), (19, (.len (.ld none (.v 1) 4))), (18, (.ld none (.v 1) 4))]])
 (.block 0
 (.loop v_wire_Encode_L1)))
 (.seq
 (.st [.call [] none 48 48 [(.v 4), (.lst (.cn (.ld none (.v 1) 5) (.cn (.ld none (.v 1) 6) (.cn (.ld none (.v 1) 7) (.cn (.ld none (.v 1) 8) (.cn (.ld none (.v 1) 9) (.cn (.ld none (.v 1) 10) .nl)))))))] [], .asg [] [(4, (.v 48))]])
 (.seq
 (.seq
 (.st [.asg [(.bin .gtr (.len (.v 4)) (N 65536))] []])
 (.cond (.bin .gtr (.len (.v 4)) (N 65536))
 (.seq
 (.st [.asg [] [(3, (N 3)), (2, (.lst .nl))]])
 (.ret (.tup (.cn (.v 2) (.cn (.v 3) .nl))) []))
 .skip))
 (.seq
 (.st [.asg [] [(3, (N 0)), (2, (.v 4))]])
 (.ret (.tup (.cn (.v 2) (.cn (.v 3) .nl))) []))))))⟩
def v_wire_Decode_L1 : VC :=
 (.seq
 (.st [.asg [(.bin .lss (.v 17) (.v 16))] []])
 (.seq
 (.cond (.bin .lss (.v 17) (.v 16))
 .skip
 (.exit 0))
 (.seq
 (.block 1
 (.st [.call [] none 22 57 [(.lp (.cn (.ld none (.v 10704) 0) (.cn (.ld none (.v 10704) 1) .nl)))] [10704], .asg [(.chk none (.v 22))] [(5, (.lp (.cn (.ld none (.v 5) 0) (.cn (.ld none (.v 5) 1) (.cn (.ld none (.v 5) 2) (.cn (.ld none (.v 5) 3) (.cn (.app 1 (.ld none (.v 5) 4) (.lst (.cn (.v 22) .nl))) (.cn (.ld none (.v 5) 5) (.cn (.ld none (.v 5) 6) (.cn (.ld none (.v 5) 7) (.cn (.ld none (.v 5) 8) (.cn (.ld none (.v 5) 9) (.cn (.ld none (.v 5) 10) .nl)))))))))))))]]))
 (.st [.asg [] [(17, (.bin .add (.v 17) (N 1)))]]))))
def v_wire_Decode : VFun := ⟨⟨[.F], (.T [.F, .F]), false⟩, [],
 (.seq
 (.st [.asg [] [(2, (.lp (.cn (.lst .nl) (.cn (.lst .nl) (.cn (.lst .nl) (.cn (N 0) (.cn (.lst .nl) (.cn (N 0) (.cn (N 0) (.cn (N 0) (.cn (N 0) (.cn (N 0) (.cn (N 0) .nl)))))))))))))]])
 (.seq
 (.seq
 (.st [.asg [(.bin .gtr (.len (.v 0)) (N 65536))] []])
 (.cond (.bin .gtr (.len (.v 0)) (N 65536))
 (.seq
 (.st [.asg [] [(3, (N 3)), (2, (.lp (.cn (.lst .nl) (.cn (.lst .nl) (.cn (.lst .nl) (.cn (N 0) (.cn (.lst .nl) (.cn (N 0) (.cn (N 0) (.cn (N 0) (.cn (N 0) (.cn (N 0) (.cn (N 0) .nl)))))))))))))]])
 (.ret (.tup (.cn (.agg (.cn (.ld none (.v 2) 0) (.cn (.ld none (.v 2) 1) (.cn (.ld none (.v 2) 2) (.cn (.ld none (.v 2) 3) (.cn (.ld none (.v 2) 4) (.cn (.ld none (.v 2) 5) (.cn (.ld none (.v 2) 6) (.cn (.ld none (.v 2) 7) (.cn (.ld none (.v 2) 8) (.cn (.ld none (.v 2) 9) (.cn (.ld none (.v 2) 10) .nl)))))))))))) (.cn (.v 3) .nl))) []))
 .skip))
 (.seq
 (.st [.call [] none 11 54 [(.v 0), (.str [71, 65, 86, 49])] [], .asg [] [(10704, (.lp (.cn (.ld none (.v 11) 0) (.cn (.ld none (.v 11) 1) .nl))))], .call [] none 13 55 [(.lp (.cn (.ld none (.v 10704) 0) (.cn (.ld none (.v 10704) 1) .nl)))] [10704], .asg [(.chk (some 4) (.v 13))] [(5, (.lp (.cn (.fld none (.v 13) 0) (.cn (.fld none (.v 13) 1) (.cn (.fld none (.v 13) 2) (.cn (.fld none (.v 13) 3) (.cn (.lst .nl) (.cn (N 0) (.cn (N 0) (.cn (N 0) (.cn (N 0) (.cn (N 0) (.cn (N 0) .nl)))))))))))))]])
 (.seq
 (.seq
 (.st [.call [] none 16 56 [(.lp (.cn (.ld none (.v 10704) 0) (.cn (.ld none (.v 10704) 1) .nl)))] [10704], .asg [] [(17, (N 0))]])
 (.block 0
 (.loop v_wire_Decode_L1)))
 (.seq
 (.st [.call [] none 28 58 [(.lp (.cn (.ld none (.v 10704) 0) (.cn (.ld none (.v 10704) 1) .nl)))] [10704], .call [] none 30 58 [(.lp (.cn (.ld none (.v 10704) 0) (.cn (.ld none (.v 10704) 1) .nl)))] [10704], .call [] none 32 58 [(.lp (.cn (.ld none (.v 10704) 0) (.cn (.ld none (.v 10704) 1) .nl)))] [10704], .call [] none 34 58 [(.lp (.cn (.ld none (.v 10704) 0) (.cn (.ld none (.v 10704) 1) .nl)))] [10704], .asg [(.chk none (.v 28)), (.chk none (.v 30)), (.chk none (.v 32)), (.chk none (.v 34))] [(5, (.lp (.cn (.ld none (.v 5) 0) (.cn (.ld none (.v 5) 1) (.cn (.ld none (.v 5) 2) (.cn (.ld none (.v 5) 3) (.cn (.ld none (.v 5) 4) (.cn (.v 28) (.cn (.v 30) (.cn (.v 32) (.cn (.v 34) (.cn (.ld none (.v 5) 9) (.cn (.ld none (.v 5) 10) .nl)))))))))))))], .call [] none 38 58 [(.lp (.cn (.ld none (.v 10704) 0) (.cn (.ld none (.v 10704) 1) .nl)))] [10704], .call [] none 40 58 [(.lp (.cn (.ld none (.v 10704) 0) (.cn (.ld none (.v 10704) 1) .nl)))] [10704], .asg [(.chk none (.v 38)), (.chk none (.v 40))] [(5, (.lp (.cn (.ld none (.v 5) 0) (.cn (.ld none (.v 5) 1) (.cn (.ld none (.v 5) 2) (.cn (.ld none (.v 5) 3) (.cn (.ld none (.v 5) 4) (.cn (.ld none (.v 5) 5) (.cn (.ld none (.v 5) 6) (.cn (.ld none (.v 5) 7) (.cn (.ld none (.v 5) 8) (.cn (.v 38) (.cn (.v 40) .nl)))))))))))))]])
 (.seq
 (.seq
 (.st [.call [] none 44 59 [(.lp (.cn (.ld none (.v 10704) 0) (.cn (.ld none (.v 10704) 1) .nl)))] [10704], .asg [(.un .not (.v 44))] []])
 (.cond (.un .not (.v 44))
 (.seq
 (.st [.asg [] [(3, (N 2)), (2, (.lp (.cn (.lst .nl) (.cn (.lst .nl) (.cn (.lst .nl) (.cn (N 0) (.cn (.lst .nl) (.cn (N 0) (.cn (N 0) (.cn (N 0) (.cn (N 0) (.cn (N 0) (.cn (N 0) .nl)))))))))))))]])
 (.ret (.tup (.cn (.agg (.cn (.ld none (.v 2) 0) (.cn (.ld none (.v 2) 1) (.cn (.ld none (.v 2) 2) (.cn (.ld none (.v 2) 3) (.cn (.ld none (.v 2) 4) (.cn (.ld none (.v 2) 5) (.cn (.ld none (.v 2) 6) (.cn (.ld none (.v 2) 7) (.cn (.ld none (.v 2) 8) (.cn (.ld none (.v 2) 9) (.cn (.ld none (.v 2) 10) .nl)))))))))))) (.cn (.v 3) .nl))) []))
 .skip))
 (.seq
 (.st [.asg [] [(3, (N 0)), (2, (.lp (.cn (.ld none (.v 5) 0) (.cn (.ld none (.v 5) 1) (.cn (.ld none (.v 5) 2) (.cn (.ld none (.v 5) 3) (.cn (.ld none (.v 5) 4) (.cn (.ld none (.v 5) 5) (.cn (.ld none (.v 5) 6) (.cn (.ld none (.v 5) 7) (.cn (.ld none (.v 5) 8) (.cn (.ld none (.v 5) 9) (.cn (.ld none (.v 5) 10) .nl)))))))))))))]])
 (.ret (.tup (.cn (.agg (.cn (.ld none (.v 2) 0) (.cn (.ld none (.v 2) 1) (.cn (.ld none (.v 2) 2) (.cn (.ld none (.v 2) 3) (.cn (.ld none (.v 2) 4) (.cn (.ld none (.v 2) 5) (.cn (.ld none (.v 2) 6) (.cn (.ld none (.v 2) 7) (.cn (.ld none (.v 2) 8) (.cn (.ld none (.v 2) 9) (.cn (.ld none (.v 2) 10) .nl)))))))))))) (.cn (.v 3) .nl))) []))))))))⟩
def v_wire_Same : VFun := ⟨⟨[.F, .F], .F, true⟩, [],
 (.seq
 (.st [.asg [(.chk (some 11) (.v 0)), (.chk (some 11) (.v 1))] [(3, (.lp (.cn (.fld none (.v 1) 0) (.cn (.fld none (.v 1) 1) (.cn (.fld none (.v 1) 2) (.cn (.fld none (.v 1) 3) (.cn (.fld none (.v 1) 4) (.cn (.fld none (.v 1) 5) (.cn (.fld none (.v 1) 6) (.cn (.fld none (.v 1) 7) (.cn (.fld none (.v 1) 8) (.cn (.fld none (.v 1) 9) (.cn (.fld none (.v 1) 10) .nl))))))))))))), (2, (.lp (.cn (.fld none (.v 0) 0) (.cn (.fld none (.v 0) 1) (.cn (.fld none (.v 0) 2) (.cn (.fld none (.v 0) 3) (.cn (.fld none (.v 0) 4) (.cn (.fld none (.v 0) 5) (.cn (.fld none (.v 0) 6) (.cn (.fld none (.v 0) 7) (.cn (.fld none (.v 0) 8) (.cn (.fld none (.v 0) 9) (.cn (.fld none (.v 0) 10) .nl)))))))))))))], .asg [] [(5, (.fn 66 .nl))], .call [] none 10 68 [(.agg (.cn (.ld none (.v 2) 0) (.cn (.ld none (.v 2) 1) (.cn (.ld none (.v 2) 2) (.cn (.ld none (.v 2) 3) .nl))))), (.agg (.cn (.ld none (.v 3) 0) (.cn (.ld none (.v 3) 1) (.cn (.ld none (.v 3) 2) (.cn (.ld none (.v 3) 3) .nl)))))] [], .call [(.gd (.v 10) true .nl), (.gd (.v 10) true .nl)] (some ((.v 10), true)) 17 69 [(.ld none (.v 2) 4), (.ld none (.v 3) 4), (.v 5)] [], .asg [(.gd (.ite (.v 10) (.v 17) (.boo false)) true .nl), (.gd (.ite (.v 10) (.v 17) (.boo false)) true (.eqs false [false, false, false, false] (.agg (.cn (.ld none (.v 2) 5) (.cn (.ld none (.v 2) 6) (.cn (.ld none (.v 2) 7) (.cn (.ld none (.v 2) 8) .nl))))) (.agg (.cn (.ld none (.v 3) 5) (.cn (.ld none (.v 3) 6) (.cn (.ld none (.v 3) 7) (.cn (.ld none (.v 3) 8) .nl))))))), (.gd (.ite (.ite (.v 10) (.v 17) (.boo false)) (.eqs false [false, false, false, false] (.agg (.cn (.ld none (.v 2) 5) (.cn (.ld none (.v 2) 6) (.cn (.ld none (.v 2) 7) (.cn (.ld none (.v 2) 8) .nl))))) (.agg (.cn (.ld none (.v 3) 5) (.cn (.ld none (.v 3) 6) (.cn (.ld none (.v 3) 7) (.cn (.ld none (.v 3) 8) .nl)))))) (.boo false)) true (.eqs false [false, false] (.agg (.cn (.ld none (.v 2) 9) (.cn (.ld none (.v 2) 10) .nl))) (.agg (.cn (.ld none (.v 3) 9) (.cn (.ld none (.v 3) 10) .nl)))))] [(4, (.ite (.ite (.ite (.v 10) (.v 17) (.boo false)) (.eqs false [false, false, false, false] (.agg (.cn (.ld none (.v 2) 5) (.cn (.ld none (.v 2) 6) (.cn (.ld none (.v 2) 7) (.cn (.ld none (.v 2) 8) .nl))))) (.agg (.cn (.ld none (.v 3) 5) (.cn (.ld none (.v 3) 6) (.cn (.ld none (.v 3) 7) (.cn (.ld none (.v 3) 8) .nl)))))) (.boo false)) (.eqs false [false, false] (.agg (.cn (.ld none (.v 2) 9) (.cn (.ld none (.v 2) 10) .nl))) (.agg (.cn (.ld none (.v 3) 9) (.cn (.ld none (.v 3) 10) .nl)))) (.boo false)))]])
 (.ret (.v 4) []))⟩
def v_alike_Round : VFun := ⟨⟨[.F, .F], .F, true⟩, [],
 (.seq
 (.st [.asg [] [(4, (.bin .rem (.bin .add (.bin .rem (.v 0) (.v 1)) (.v 1)) (.v 1)))]])
 (.ret (.v 4) []))⟩
def v_wire_Path_L1 : VC :=
 (.seq
 (.st [.asg [(.bin .lss (.v 16) (.v 15))] []])
 (.seq
 (.cond (.bin .lss (.v 16) (.v 15))
 .skip
 (.exit 0))
 (.seq
 (.block 1
 (.st [.asg [] [(6, (.lp (.cn (.fld none (.ld (some 5) (.ia 5 (.v 14) (.v 16)) 0) 0) (.cn (.fld none (.ld (some 5) (.ia 5 (.v 14) (.v 16)) 0) 1) (.cn (.fld none (.ld (some 5) (.ia 5 (.v 14) (.v 16)) 0) 2) (.cn (.fld none (.ld (some 5) (.ia 5 (.v 14) (.v 16)) 0) 3) (.cn (.fld none (.ld (some 5) (.ia 5 (.v 14) (.v 16)) 0) 4) .nl)))))))], .call [] none 35 48 [(.v 4), (.lst (.cn (.ld none (.v 6) 0) (.cn (.ld none (.v 6) 1) (.cn (.ld none (.v 6) 2) (.cn (.ld none (.v 6) 3) (.cn (.ld none (.v 6) 4) .nl))))))] [], .asg [] [(4, (.v 35))]]))
 (.st [.asg [] [(16, (.bin .add (.v 16) (N 1)))]]))))
def v_wire_Path : VFun := ⟨⟨[.F], (.T [.F, .F]), false⟩, [],
 (.seq
 (.st [])
 (.seq
 (.seq
 (.st [.asg [(.bin .gtr (.len (.v 0)) (N 1000))] []])
 (.cond (.bin .gtr (.len (.v 0)) (N 1000))
 (.seq
 (.st [.asg [] [(3, (N 3)), (2, (.lst .nl))]])
 (.ret (.tup (.cn (.v 2) (.cn (.v 3) .nl))) []))
 .skip))
 (.seq
 (.st [.call [(.len (.v 0))] none 13 48 [(.lst .nl), (.lst (.cn (.len (.v 0)) .nl))] [], .asg [] [(4, (.v 13))]])
 (.seq
 (.seq
 (.st [.asg [] [(16, (N 0)), (15, (.len (.v 0))), (14, (.v 0))]])
 (.block 0
 (.loop v_wire_Path_L1)))
 (.seq
 (.st [.asg [] [(3, (N 0)), (2, (.v 4))]])
 (.ret (.tup (.cn (.v 2) (.cn (.v 3) .nl))) []))))))⟩
def v_ref20_Path : VFun := ⟨⟨[.F], (.T [.F, .F]), false⟩, [],
 (.seq
 (.st [])
 (.seq
 (.seq
 (.st [.asg [(.bin .gtr (.len (.v 0)) (N 1000))] []])
 (.cond (.bin .gtr (.len (.v 0)) (N 1000))
 (.seq
 (.st [.asg [] [(3, (N 3)), (2, (.lst .nl))]])
 (.ret (.tup (.cn (.v 2) (.cn (.v 3) .nl))) []))
 .skip))
 (.seq
 (.st [.call [] none 8 70 [(.lst .nl), (.v 0)] [], .asg [] [(3, (N 0)), (2, (.v 8))]])
 (.ret (.tup (.cn (.v 2) (.cn (.v 3) .nl))) []))))⟩
def v_wire_Events : VFun := ⟨⟨[.F], (.T [.F, .F]), false⟩, [],
 (.seq
 (.st [])
 (.seq
 (.seq
 (.st [.call [] none 11 12 [(.v 0)] [], .asg [] [(6, (.ext (.v 11) 2)), (4, (.ext (.v 11) 0))], .asg [(.gd (.bin .eql (.v 6) (N 0)) true (.bin .gtr (.v 4) (N 1000))), (.ite (.bin .eql (.v 6) (N 0)) (.bin .gtr (.v 4) (N 1000)) (.boo false))] []])
 (.cond (.ite (.bin .eql (.v 6) (N 0)) (.bin .gtr (.v 4) (N 1000)) (.boo false))
 (.seq
 (.st [.asg [] [(3, (N 3)), (2, (.lst .nl))]])
 (.ret (.tup (.cn (.v 2) (.cn (.v 3) .nl))) []))
 .skip))
 (.seq
 (.st [.call [] none 22 54 [(.v 0), (.str [])] [], .asg [] [(11408, (.lp (.cn (.ld none (.v 22) 0) (.cn (.ld none (.v 22) 1) .nl))))], .call [] none 24 71 [(.lp (.cn (.ld none (.v 11408) 0) (.cn (.ld none (.v 11408) 1) .nl)))] [11408], .asg [] [(8, (.v 24))]])
 (.seq
 (.seq
 (.st [.call [] none 26 59 [(.lp (.cn (.ld none (.v 11408) 0) (.cn (.ld none (.v 11408) 1) .nl)))] [11408], .asg [(.un .not (.v 26))] []])
 (.cond (.un .not (.v 26))
 (.seq
 (.st [.asg [] [(3, (N 2)), (2, (.lst .nl))]])
 (.ret (.tup (.cn (.v 2) (.cn (.v 3) .nl))) []))
 .skip))
 (.seq
 (.st [.asg [] [(3, (N 0)), (2, (.v 8))]])
 (.ret (.tup (.cn (.v 2) (.cn (.v 3) .nl))) []))))))⟩
def v_ref20_Events : VFun := ⟨⟨[.F], (.T [.F, .F]), false⟩, [],
 (.seq
 (.st [.call [] none 10 13 [(.v 0)] [], .asg [] [(5, (.ext (.v 10) 1)), (4, (.ext (.v 10) 0))]])
 (.seq
 (.seq
 (.st [.asg [(.gd (.bin .gtr (.v 5) (N 0)) true (.bin .gtr (.v 4) (N 1000))), (.ite (.bin .gtr (.v 5) (N 0)) (.bin .gtr (.v 4) (N 1000)) (.boo false))] []])
 (.cond (.ite (.bin .gtr (.v 5) (N 0)) (.bin .gtr (.v 4) (N 1000)) (.boo false))
 (.seq
 (.st [.asg [] [(3, (N 3)), (2, (.lst .nl))]])
 (.ret (.tup (.cn (.v 2) (.cn (.v 3) .nl))) []))
 .skip))
 (.seq
 (.st [.asg [(.chk none (.v 0))] [(21, (.lp (.cn (.v 0) (.cn (.boo true) .nl))))], .call [] none 23 72 [(.lp (.cn (.ld none (.v 21) 0) (.cn (.ld none (.v 21) 1) .nl)))] [21], .asg [] [(7, (.v 23))]])
 (.seq
 (.seq
 (.st [.asg [(.gd (.un .not (.ld none (.v 21) 1)) false (.len (.ld none (.v 21) 0))), (.gd (.un .not (.ld none (.v 21) 1)) false (.bin .gtr (.len (.ld none (.v 21) 0)) (N 0))), (.ite (.un .not (.ld none (.v 21) 1)) (.boo true) (.bin .gtr (.len (.ld none (.v 21) 0)) (N 0)))] []])
 (.cond (.ite (.un .not (.ld none (.v 21) 1)) (.boo true) (.bin .gtr (.len (.ld none (.v 21) 0)) (N 0)))
 (.seq
 (.st [.asg [] [(3, (N 2)), (2, (.lst .nl))]])
 (.ret (.tup (.cn (.v 2) (.cn (.v 3) .nl))) []))
 .skip))
 (.seq
 (.st [.asg [] [(3, (N 0)), (2, (.v 7))]])
 (.ret (.tup (.cn (.v 2) (.cn (.v 3) .nl))) []))))))⟩
def v_alike_Events_L1 : VC :=
 (.seq
 (.seq
 (.st [.asg [(.bin .lss (.v 5) (.len (.v 0)))] []])
 (.cond (.bin .lss (.v 5) (.len (.v 0)))
 .skip
 (.exit 0)))
 (.seq
 (.block 1
 (.seq
 (.st [.asg [(.eqs true [false, false, false, false, false] (.ld (some 5) (.ia 5 (.v 0) (.v 5)) 0) (.ld (some 5) (.ia 5 (.v 1) (.v 5)) 0))] []])
 (.cond (.eqs true [false, false, false, false, false] (.ld (some 5) (.ia 5 (.v 0) (.v 5)) 0) (.ld (some 5) (.ia 5 (.v 1) (.v 5)) 0))
 (.seq
 (.st [.asg [] [(4, (.boo false))]])
 (.ret (.v 4) []))
 .skip)))
 (.st [.asg [] [(5, (.bin .add (.v 5) (N 1)))]])))
def v_alike_Events : VFun := ⟨⟨[.F, .F], .F, true⟩, [],
 (.seq
 (.st [])
 (.seq
 (.seq
 (.st [.asg [(.bin .neq (.len (.v 0)) (.len (.v 1)))] []])
 (.cond (.bin .neq (.len (.v 0)) (.len (.v 1)))
 (.seq
 (.st [.asg [] [(4, (.boo false))]])
 (.ret (.v 4) []))
 .skip))
 (.seq
 (.seq
 (.st [.asg [] [(5, (N 0))]])
 (.block 0
 (.loop v_alike_Events_L1)))
 (.seq
 (.st [.asg [] [(4, (.boo true))]])
 (.ret (.v 4) [])))))⟩
def v_law22_one : VFun := ⟨⟨[], (.A [(.O 2 true), (.O 4 true), (.O 3 true), .F, (.O 1 true), .F, .F, .F, .F, .F, .F]), false⟩, [],
 (.st [.asg [] [(0, (.lp (.cn (.lst .nl) (.cn (.lst .nl) (.cn (.lst .nl) (.cn (N 0) (.cn (.lst .nl) (.cn (N 0) (.cn (N 0) (.cn (N 0) (.cn (N 0) (.cn (N 0) (.cn (N 0) .nl)))))))))))))], .asg [(.pos (.lst .nl))] []])⟩
def v_wire_put_L1 : VC :=
 (.seq
 (.st [.asg [(.bin .lss (.v 9) (.v 8))] []])
 (.seq
 (.cond (.bin .lss (.v 9) (.v 8))
 .skip
 (.exit 0))
 (.seq
 (.block 1
 (.st [.asg [] [(6, (.ld none (.ia 1 (.v 7) (.v 9)) 0))], .call [] none 15 11 [(.v 6)] [], .asg [] [(0, (.app 1 (.v 0) (.v 15)))]]))
 (.st [.asg [] [(9, (.bin .add (.v 9) (N 1)))]]))))
def v_wire_put : VFun := ⟨⟨[(.O 1 true), .F], (.O 1 true), false⟩, [],
 (.seq
 (.st [])
 (.seq
 (.seq
 (.st [.asg [] [(9, (N 0)), (8, (.len (.v 1))), (7, (.v 1))]])
 (.block 0
 (.loop v_wire_put_L1)))
 (.seq
 (.st [.asg [] [(4, (.v 0))]])
 (.ret (.v 4) []))))⟩
def v_wire_putProgram_L1 : VC :=
 (.seq
 (.st [.asg [(.bin .lss (.v 20) (.v 19))] []])
 (.seq
 (.cond (.bin .lss (.v 20) (.v 19))
 .skip
 (.exit 0))
 (.seq
 (.block 1
 (.st [.asg [] [(6, (.lp (.cn (.fld none (.ld (some 2) (.ia 2 (.v 18) (.v 20)) 0) 0) (.cn (.fld none (.ld (some 2) (.ia 2 (.v 18) (.v 20)) 0) 1) .nl))))], .call [] none 28 48 [(.v 0), (.lst (.cn (.ld none (.v 6) 0) .nl))] [], .call [] none 31 50 [(.v 28), (.ld none (.v 6) 1)] [], .asg [] [(0, (.v 31))]]))
 (.st [.asg [] [(20, (.bin .add (.v 20) (N 1)))]]))))
def v_wire_putProgram_L2 : VC :=
 (.seq
 (.st [.asg [(.bin .lss (.v 42) (.v 41))] []])
 (.seq
 (.cond (.bin .lss (.v 42) (.v 41))
 .skip
 (.exit 2))
 (.seq
 (.block 3
 (.st [.asg [] [(8, (.lp (.cn (.fld none (.ld (some 4) (.ia 4 (.v 40) (.v 42)) 0) 0) (.cn (.fld none (.ld (some 4) (.ia 4 (.v 40) (.v 42)) 0) 1) (.cn (.fld none (.ld (some 4) (.ia 4 (.v 40) (.v 42)) 0) 2) (.cn (.fld none (.ld (some 4) (.ia 4 (.v 40) (.v 42)) 0) 3) .nl))))))], .call [] none 49 85 [(.v 0), (.ld none (.v 8) 0)] [], .call [] none 56 86 [(.ld none (.v 8) 3)] [], .call [(.chk none (.v 56))] none 58 48 [(.v 49), (.lst (.cn (.ld none (.v 8) 1) (.cn (.ld none (.v 8) 2) (.cn (.v 56) .nl))))] [], .asg [] [(0, (.v 58))]]))
 (.st [.asg [] [(42, (.bin .add (.v 42) (N 1)))]]))))
def v_wire_putProgram_L3 : VC :=
 (.seq
 (.st [.asg [(.bin .lss (.v 69) (.v 68))] []])
 (.seq
 (.cond (.bin .lss (.v 69) (.v 68))
 .skip
 (.exit 4))
 (.seq
 (.block 5
 (.st [.asg [] [(10, (.lp (.cn (.fld none (.ld (some 3) (.ia 3 (.v 67) (.v 69)) 0) 0) (.cn (.fld none (.ld (some 3) (.ia 3 (.v 67) (.v 69)) 0) 1) (.cn (.fld none (.ld (some 3) (.ia 3 (.v 67) (.v 69)) 0) 2) .nl)))))], .call [] none 79 48 [(.v 0), (.lst (.cn (.ld none (.v 10) 0) (.cn (.ld none (.v 10) 1) .nl)))] [], .call [] none 82 85 [(.v 79), (.ld none (.v 10) 2)] [], .asg [] [(0, (.v 82))]]))
 (.st [.asg [] [(69, (.bin .add (.v 69) (N 1)))]]))))
def v_wire_putProgram : VFun := ⟨⟨[(.O 1 true), .F], (.O 1 true), false⟩, [],
 (.seq
 (.st [.asg [(.chk (some 4) (.v 1))] [(3, (.lp (.cn (.fld none (.v 1) 0) (.cn (.fld none (.v 1) 1) (.cn (.fld none (.v 1) 2) (.cn (.fld none (.v 1) 3) .nl))))))], .call [(.len (.ld none (.v 3) 0))] none 16 48 [(.v 0), (.lst (.cn (.len (.ld none (.v 3) 0)) .nl))] [], .asg [] [(0, (.v 16))]])
 (.seq
 (.seq
 (.st [.asg [] [(20, (N 0)), (19, (.len (.ld none (.v 3) 0))), (18, (.ld none (.v 3) 0))]])
 (.block 0
 (.loop v_wire_putProgram_L1)))
 (.seq
 (.st [.call [(.len (.ld none (.v 3) 1))] none 38 48 [(.v 0), (.lst (.cn (.len (.ld none (.v 3) 1)) .nl))] [], .asg [] [(0, (.v 38))]])
 (.seq
 (.seq
 (.st [.asg [] [(42, (N 0)), (41, (.len (.ld none (.v 3) 1))), (40, (.ld none (.v 3) 1))]])
 (.block 2
 (.loop v_wire_putProgram_L2)))
 (.seq
 (.st [.call [(.len (.ld none (.v 3) 2))] none 65 48 [(.v 0), (.lst (.cn (.len (.ld none (.v 3) 2)) .nl))] [], .asg [] [(0, (.v 65))]])
 (.seq
 (.seq
 (.st [.asg [] [(69, (N 0)), (68, (.len (.ld none (.v 3) 2))), (67, (.ld none (.v 3) 2))]])
 (.block 4
 (.loop v_wire_putProgram_L3)))
 (.seq
 (.st [.call [] none 88 48 [(.v 0), (.lst (.cn (.ld none (.v 3) 3) .nl))] [], .asg [] [(4, (.v 88))]])
 (.ret (.v 4) []))))))))⟩
def v_wire_putCode_L1 : VC :=
 (.seq
 (.st [.asg [(.bin .lss (.v 14) (.v 13))] []])
 (.seq
 (.cond (.bin .lss (.v 14) (.v 13))
 .skip
 (.exit 0))
 (.seq
 (.block 1
 (.st [.asg [] [(6, (.lp (.cn (.fld none (.ld (some 2) (.ia 2 (.v 12) (.v 14)) 0) 0) (.cn (.fld none (.ld (some 2) (.ia 2 (.v 12) (.v 14)) 0) 1) .nl))))], .call [] none 24 48 [(.v 0), (.lst (.cn (.ld none (.v 6) 0) (.cn (.ld none (.v 6) 1) .nl)))] [], .asg [] [(0, (.v 24))]]))
 (.st [.asg [] [(14, (.bin .add (.v 14) (N 1)))]]))))
def v_wire_putCode : VFun := ⟨⟨[(.O 1 true), .F], (.O 1 true), false⟩, [],
 (.seq
 (.st [.call [(.len (.v 1))] none 11 48 [(.v 0), (.lst (.cn (.len (.v 1)) .nl))] [], .asg [] [(0, (.v 11))]])
 (.seq
 (.seq
 (.st [.asg [] [(14, (N 0)), (13, (.len (.v 1))), (12, (.v 1))]])
 (.block 0
 (.loop v_wire_putCode_L1)))
 (.seq
 (.st [.asg [] [(4, (.v 0))]])
 (.ret (.v 4) []))))⟩
def v_ref20_put_L1 : VC :=
 (.seq
 (.seq
 (.st [.asg [(.bin .lss (.v 5) (.len (.v 1)))] []])
 (.cond (.bin .lss (.v 5) (.len (.v 1)))
 .skip
 (.exit 0)))
 (.seq
 (.block 1
 (.st [.call [(.ld none (.ia 1 (.v 1) (.v 5)) 0)] none 17 14 [(.ld none (.ia 1 (.v 1) (.v 5)) 0)] [], .asg [] [(0, (.app 1 (.v 0) (.v 17)))]]))
 (.st [.asg [] [(5, (.bin .add (.v 5) (N 1)))]])))
def v_ref20_put : VFun := ⟨⟨[(.O 1 true), .F], (.O 1 true), false⟩, [],
 (.seq
 (.st [])
 (.seq
 (.seq
 (.st [.asg [] [(5, (N 0))]])
 (.block 0
 (.loop v_ref20_put_L1)))
 (.seq
 (.st [.asg [] [(4, (.v 0))]])
 (.ret (.v 4) []))))⟩
def v_wire_Read : VFun := ⟨⟨[.F, .F], (.B false [.F, .F]), false⟩, [],
 (.seq
 (.st [])
 (.seq
 (.seq
 (.st [.asg [(.gd (.bin .lss (.len (.v 0)) (.lenS (.v 1))) false (.lenS (.v 1))), (.gd (.bin .lss (.len (.v 0)) (.lenS (.v 1))) false (.slice 1 (.v 0) .nl (.lenS (.v 1)) .nl)), (.gd (.bin .lss (.len (.v 0)) (.lenS (.v 1))) false (.b2s (.slice 1 (.v 0) .nl (.lenS (.v 1)) .nl))), (.gd (.bin .lss (.len (.v 0)) (.lenS (.v 1))) false (.bin .neq (.b2s (.slice 1 (.v 0) .nl (.lenS (.v 1)) .nl)) (.v 1))), (.ite (.bin .lss (.len (.v 0)) (.lenS (.v 1))) (.boo true) (.bin .neq (.b2s (.slice 1 (.v 0) .nl (.lenS (.v 1)) .nl)) (.v 1)))] []])
 (.cond (.ite (.bin .lss (.len (.v 0)) (.lenS (.v 1))) (.boo true) (.bin .neq (.b2s (.slice 1 (.v 0) .nl (.lenS (.v 1)) .nl)) (.v 1)))
 (.seq
 (.st [.asg [] [(20, (.lp (.cn (.lst .nl) (.cn (.boo true) .nl))))]])
 (.ret (.lp (.cn (.ld none (.v 20) 0) (.cn (.ld none (.v 20) 1) .nl))) []))
 .skip))
 (.seq
 (.st [.asg [(.chk none (.slice 1 (.v 0) (.lenS (.v 1)) .nl .nl))] [(26, (.lp (.cn (.slice 1 (.v 0) (.lenS (.v 1)) .nl .nl) (.cn (.boo false) .nl))))]])
 (.ret (.lp (.cn (.ld none (.v 26) 0) (.cn (.ld none (.v 26) 1) .nl))) []))))⟩
def v_wire_Reader_program_L1 : VC :=
 (.seq
 (.st [.asg [(.bin .lss (.v 5) (.v 4))] []])
 (.seq
 (.cond (.bin .lss (.v 5) (.v 4))
 .skip
 (.exit 0))
 (.seq
 (.block 1
 (.st [.call [] none 10 58 [(.lp (.cn (.ld none (.v 4000) 0) (.cn (.ld none (.v 4000) 1) .nl)))] [4000], .call [] none 12 57 [(.lp (.cn (.ld none (.v 4000) 0) (.cn (.ld none (.v 4000) 1) .nl)))] [4000], .asg [(.chk none (.v 10)), (.chk none (.v 12)), (.chk (some 2) (.agg (.cn (.v 10) (.cn (.v 12) .nl))))] [(2, (.lp (.cn (.app 2 (.ld none (.v 2) 0) (.lst (.cn (.agg (.cn (.v 10) (.cn (.v 12) .nl))) .nl))) (.cn (.ld none (.v 2) 1) (.cn (.ld none (.v 2) 2) (.cn (.ld none (.v 2) 3) .nl))))))]]))
 (.st [.asg [] [(5, (.bin .add (.v 5) (N 1)))]]))))
def v_wire_Reader_program_L2 : VC :=
 (.seq
 (.st [.asg [(.bin .lss (.v 20) (.v 19))] []])
 (.seq
 (.cond (.bin .lss (.v 20) (.v 19))
 .skip
 (.exit 2))
 (.seq
 (.block 3
 (.st [.call [] none 25 87 [(.lp (.cn (.ld none (.v 4000) 0) (.cn (.ld none (.v 4000) 1) .nl)))] [4000], .call [] none 27 58 [(.lp (.cn (.ld none (.v 4000) 0) (.cn (.ld none (.v 4000) 1) .nl)))] [4000], .call [] none 29 58 [(.lp (.cn (.ld none (.v 4000) 0) (.cn (.ld none (.v 4000) 1) .nl)))] [4000], .call [] none 31 88 [(.lp (.cn (.ld none (.v 4000) 0) (.cn (.ld none (.v 4000) 1) .nl)))] [4000], .asg [(.chk none (.v 25)), (.chk none (.v 27)), (.chk none (.v 29)), (.chk none (.v 31)), (.chk (some 4) (.agg (.cn (.v 25) (.cn (.v 27) (.cn (.v 29) (.cn (.v 31) .nl))))))] [(2, (.lp (.cn (.ld none (.v 2) 0) (.cn (.app 4 (.ld none (.v 2) 1) (.lst (.cn (.agg (.cn (.v 25) (.cn (.v 27) (.cn (.v 29) (.cn (.v 31) .nl))))) .nl))) (.cn (.ld none (.v 2) 2) (.cn (.ld none (.v 2) 3) .nl))))))]]))
 (.st [.asg [] [(20, (.bin .add (.v 20) (N 1)))]]))))
def v_wire_Reader_program_L3 : VC :=
 (.seq
 (.st [.asg [(.bin .lss (.v 39) (.v 38))] []])
 (.seq
 (.cond (.bin .lss (.v 39) (.v 38))
 .skip
 (.exit 4))
 (.seq
 (.block 5
 (.st [.call [] none 44 58 [(.lp (.cn (.ld none (.v 4000) 0) (.cn (.ld none (.v 4000) 1) .nl)))] [4000], .call [] none 46 58 [(.lp (.cn (.ld none (.v 4000) 0) (.cn (.ld none (.v 4000) 1) .nl)))] [4000], .call [] none 48 87 [(.lp (.cn (.ld none (.v 4000) 0) (.cn (.ld none (.v 4000) 1) .nl)))] [4000], .asg [(.chk none (.v 44)), (.chk none (.v 46)), (.chk none (.v 48)), (.chk (some 3) (.agg (.cn (.v 44) (.cn (.v 46) (.cn (.v 48) .nl)))))] [(2, (.lp (.cn (.ld none (.v 2) 0) (.cn (.ld none (.v 2) 1) (.cn (.app 3 (.ld none (.v 2) 2) (.lst (.cn (.agg (.cn (.v 44) (.cn (.v 46) (.cn (.v 48) .nl)))) .nl))) (.cn (.ld none (.v 2) 3) .nl))))))]]))
 (.st [.asg [] [(39, (.bin .add (.v 39) (N 1)))]]))))
def v_wire_Reader_program : VFun := ⟨⟨[(.B false [.F, .F])], .F, false⟩, [],
 (.seq
 (.st [.asg [] [(2, (.lp (.cn (.lst .nl) (.cn (.lst .nl) (.cn (.lst .nl) (.cn (N 0) .nl)))))), (4000, (.lp (.cn (.ld none (.v 0) 0) (.cn (.ld none (.v 0) 1) .nl))))]])
 (.seq
 (.seq
 (.st [.call [] none 4 56 [(.lp (.cn (.ld none (.v 4000) 0) (.cn (.ld none (.v 4000) 1) .nl)))] [4000], .asg [] [(5, (N 0))]])
 (.block 0
 (.loop v_wire_Reader_program_L1)))
 (.seq
 (.seq
 (.st [.call [] none 19 56 [(.lp (.cn (.ld none (.v 4000) 0) (.cn (.ld none (.v 4000) 1) .nl)))] [4000], .asg [] [(20, (N 0))]])
 (.block 2
 (.loop v_wire_Reader_program_L2)))
 (.seq
 (.seq
 (.st [.call [] none 38 56 [(.lp (.cn (.ld none (.v 4000) 0) (.cn (.ld none (.v 4000) 1) .nl)))] [4000], .asg [] [(39, (N 0))]])
 (.block 4
 (.loop v_wire_Reader_program_L3)))
 (.seq
 (.st [.call [] none 55 58 [(.lp (.cn (.ld none (.v 4000) 0) (.cn (.ld none (.v 4000) 1) .nl)))] [4000], .asg [(.chk none (.v 55))] [(2, (.lp (.cn (.ld none (.v 2) 0) (.cn (.ld none (.v 2) 1) (.cn (.ld none (.v 2) 2) (.cn (.v 55) .nl))))))]])
 (.ret (.agg (.cn (.ld none (.v 2) 0) (.cn (.ld none (.v 2) 1) (.cn (.ld none (.v 2) 2) (.cn (.ld none (.v 2) 3) .nl))))) [(.lp (.cn (.ld none (.v 4000) 0) (.cn (.ld none (.v 4000) 1) .nl)))]))))))⟩
def v_wire_Reader_Count : VFun := ⟨⟨[(.B false [.F, .F])], .F, true⟩, [],
 (.seq
 (.st [.asg [] [(4000, (.lp (.cn (.ld none (.v 0) 0) (.cn (.ld none (.v 0) 1) .nl))))], .call [] none 5 58 [(.lp (.cn (.ld none (.v 4000) 0) (.cn (.ld none (.v 4000) 1) .nl)))] [4000], .asg [] [(3, (.v 5))]])
 (.seq
 (.seq
 (.st [.asg [(.gd (.ld none (.v 4000) 1) false .nl), (.gd (.ld none (.v 4000) 1) false (.bin .lss (.v 3) (N 0))), (.gd (.ite (.ld none (.v 4000) 1) (.boo true) (.bin .lss (.v 3) (N 0))) false (.len (.ld none (.v 4000) 0))), (.gd (.ite (.ld none (.v 4000) 1) (.boo true) (.bin .lss (.v 3) (N 0))) false (.bin .gtr (.v 3) (.len (.ld none (.v 4000) 0))))] [(4000, (.lp (.cn (.ld none (.v 4000) 0) (.cn (.ite (.ite (.ld none (.v 4000) 1) (.boo true) (.bin .lss (.v 3) (N 0))) (.boo true) (.bin .gtr (.v 3) (.len (.ld none (.v 4000) 0)))) .nl))))]])
 (.cond (.ld none (.v 4000) 1)
 (.seq
 (.st [.asg [] [(2, (N 0))]])
 (.ret (.v 2) [(.lp (.cn (.ld none (.v 4000) 0) (.cn (.ld none (.v 4000) 1) .nl)))]))
 .skip))
 (.seq
 (.st [.asg [] [(2, (.v 3))]])
 (.ret (.v 2) [(.lp (.cn (.ld none (.v 4000) 0) (.cn (.ld none (.v 4000) 1) .nl)))]))))⟩
def v_wire_Reader_code_L1 : VC :=
 (.seq
 (.st [.asg [(.bin .lss (.v 5) (.v 4))] []])
 (.seq
 (.cond (.bin .lss (.v 5) (.v 4))
 .skip
 (.exit 0))
 (.seq
 (.block 1
 (.st [.call [] none 9 58 [(.lp (.cn (.ld none (.v 4000) 0) (.cn (.ld none (.v 4000) 1) .nl)))] [4000], .call [] none 11 58 [(.lp (.cn (.ld none (.v 4000) 0) (.cn (.ld none (.v 4000) 1) .nl)))] [4000], .asg [(.chk none (.v 9)), (.chk none (.v 11)), (.chk (some 2) (.agg (.cn (.v 9) (.cn (.v 11) .nl))))] [(2, (.app 2 (.v 2) (.lst (.cn (.agg (.cn (.v 9) (.cn (.v 11) .nl))) .nl))))]]))
 (.st [.asg [] [(5, (.bin .add (.v 5) (N 1)))]]))))
def v_wire_Reader_code : VFun := ⟨⟨[(.B false [.F, .F])], .F, false⟩, [],
 (.seq
 (.st [.asg [] [(2, (.lst .nl)), (4000, (.lp (.cn (.ld none (.v 0) 0) (.cn (.ld none (.v 0) 1) .nl))))]])
 (.seq
 (.seq
 (.st [.call [] none 4 56 [(.lp (.cn (.ld none (.v 4000) 0) (.cn (.ld none (.v 4000) 1) .nl)))] [4000], .asg [] [(5, (N 0))]])
 (.block 0
 (.loop v_wire_Reader_code_L1)))
 (.seq
 (.st [])
 (.ret (.v 2) [(.lp (.cn (.ld none (.v 4000) 0) (.cn (.ld none (.v 4000) 1) .nl)))]))))⟩
def v_wire_Reader_Num : VFun := ⟨⟨[(.B false [.F, .F])], .F, true⟩, [],
 (.seq
 (.st [.asg [] [(4000, (.lp (.cn (.ld none (.v 0) 0) (.cn (.ld none (.v 0) 1) .nl))))], .call [] none 11 12 [(.ld none (.v 4000) 0)] [], .asg [] [(5, (.ext (.v 11) 2)), (4, (.ext (.v 11) 1)), (3, (.ext (.v 11) 0))]])
 (.seq
 (.seq
 (.st [.asg [(.gd (.ld none (.v 4000) 1) false .nl), (.gd (.ld none (.v 4000) 1) false (.bin .neq (.v 5) (N 0)))] [(4000, (.lp (.cn (.ld none (.v 4000) 0) (.cn (.ite (.ld none (.v 4000) 1) (.boo true) (.bin .neq (.v 5) (N 0))) .nl))))]])
 (.cond (.ld none (.v 4000) 1)
 (.seq
 (.st [.asg [] [(2, (N 0))]])
 (.ret (.v 2) [(.lp (.cn (.ld none (.v 4000) 0) (.cn (.ld none (.v 4000) 1) .nl)))]))
 .skip))
 (.seq
 (.st [.asg [(.chk none (.slice 1 (.ld none (.v 4000) 0) (.v 4) .nl .nl))] [(4000, (.lp (.cn (.slice 1 (.ld none (.v 4000) 0) (.v 4) .nl .nl) (.cn (.ld none (.v 4000) 1) .nl))))], .asg [] [(2, (.v 3))]])
 (.ret (.v 2) [(.lp (.cn (.ld none (.v 4000) 0) (.cn (.ld none (.v 4000) 1) .nl)))]))))⟩
def v_wire_Reader_Good : VFun := ⟨⟨[(.B false [.F, .F])], .F, true⟩, [],
 (.seq
 (.st [.asg [] [(4000, (.lp (.cn (.ld none (.v 0) 0) (.cn (.ld none (.v 0) 1) .nl))))], .asg [(.gd (.un .not (.ld none (.v 4000) 1)) true (.len (.ld none (.v 4000) 0))), (.gd (.un .not (.ld none (.v 4000) 1)) true (.bin .eql (.len (.ld none (.v 4000) 0)) (N 0)))] [(2, (.ite (.un .not (.ld none (.v 4000) 1)) (.bin .eql (.len (.ld none (.v 4000) 0)) (N 0)) (.boo false)))]])
 (.ret (.v 2) [(.lp (.cn (.ld none (.v 4000) 0) (.cn (.ld none (.v 4000) 1) .nl)))]))⟩
def v_ref20_reader_many : VFun := ⟨⟨[(.B false [.F, .F])], .F, true⟩, [],
 (.seq
 (.st [.asg [] [(4000, (.lp (.cn (.ld none (.v 0) 0) (.cn (.ld none (.v 0) 1) .nl))))], .call [] none 5 61 [(.lp (.cn (.ld none (.v 4000) 0) (.cn (.ld none (.v 4000) 1) .nl)))] [4000], .asg [] [(3, (.v 5))]])
 (.seq
 (.seq
 (.st [.asg [(.gd (.bin .lss (.v 3) (N 0)) false (.len (.ld none (.v 4000) 0))), (.gd (.bin .lss (.v 3) (N 0)) false (.bin .gtr (.v 3) (.len (.ld none (.v 4000) 0)))), (.ite (.bin .lss (.v 3) (N 0)) (.boo true) (.bin .gtr (.v 3) (.len (.ld none (.v 4000) 0))))] []])
 (.cond (.ite (.bin .lss (.v 3) (N 0)) (.boo true) (.bin .gtr (.v 3) (.len (.ld none (.v 4000) 0))))
 (.seq
 (.st [.asg [] [(4000, (.lp (.cn (.ld none (.v 4000) 0) (.cn (.boo false) .nl))))], .asg [] [(2, (N 0))]])
 (.ret (.v 2) [(.lp (.cn (.ld none (.v 4000) 0) (.cn (.ld none (.v 4000) 1) .nl)))]))
 .skip))
 (.seq
 (.st [.asg [] [(2, (.v 3))]])
 (.ret (.v 2) [(.lp (.cn (.ld none (.v 4000) 0) (.cn (.ld none (.v 4000) 1) .nl)))]))))⟩
def v_ref20_reader_int : VFun := ⟨⟨[(.B false [.F, .F])], .F, true⟩, [],
 (.seq
 (.st [.asg [] [(4000, (.lp (.cn (.ld none (.v 0) 0) (.cn (.ld none (.v 0) 1) .nl))))], .call [] none 10 13 [(.ld none (.v 4000) 0)] [], .asg [] [(4, (.ext (.v 10) 1)), (3, (.ext (.v 10) 0))]])
 (.seq
 (.seq
 (.st [.asg [(.gd (.un .not (.ld none (.v 4000) 1)) false (.bin .eql (.v 4) (N 0))), (.ite (.un .not (.ld none (.v 4000) 1)) (.boo true) (.bin .eql (.v 4) (N 0)))] []])
 (.cond (.ite (.un .not (.ld none (.v 4000) 1)) (.boo true) (.bin .eql (.v 4) (N 0)))
 (.seq
 (.st [.asg [] [(4000, (.lp (.cn (.ld none (.v 4000) 0) (.cn (.boo false) .nl))))], .asg [] [(2, (N 0))]])
 (.ret (.v 2) [(.lp (.cn (.ld none (.v 4000) 0) (.cn (.ld none (.v 4000) 1) .nl)))]))
 .skip))
 (.seq
 (.st [.asg [(.chk none (.slice 1 (.ld none (.v 4000) 0) (.v 4) .nl .nl))] [(4000, (.lp (.cn (.slice 1 (.ld none (.v 4000) 0) (.v 4) .nl .nl) (.cn (.ld none (.v 4000) 1) .nl))))], .asg [] [(2, (.v 3))]])
 (.ret (.v 2) [(.lp (.cn (.ld none (.v 4000) 0) (.cn (.ld none (.v 4000) 1) .nl)))]))))⟩
def v_wire_Same_1 : VFun := ⟨⟨[(.O 2 true), (.O 2 true)], .F, true⟩, [],
 (.seq
 (.st [.call [] none 7 67 [(.v 0), (.v 1)] [], .asg [] [(4, (.v 7))]])
 (.ret (.v 4) []))⟩
def v_slices_Equal_api_Watch_api_Instr_L1 : VC :=
 (.seq
 (.st [.asg [(.bin .lss (.v 13) (.v 12))] []])
 (.seq
 (.cond (.bin .lss (.v 13) (.v 12))
 .skip
 (.exit 0))
 (.seq
 (.block 1
 (.seq
 (.st [.asg [] [(5, (.v 13))], .asg [(.eqs true [false, false] (.ld (some 2) (.ia 2 (.v 0) (.v 5)) 0) (.ld (some 2) (.ia 2 (.v 1) (.v 5)) 0))] []])
 (.cond (.eqs true [false, false] (.ld (some 2) (.ia 2 (.v 0) (.v 5)) 0) (.ld (some 2) (.ia 2 (.v 1) (.v 5)) 0))
 (.seq
 (.st [.asg [] [(4, (.boo false))]])
 (.ret (.v 4) []))
 .skip)))
 (.st [.asg [] [(13, (.bin .add (.v 13) (N 1)))]]))))
def v_slices_Equal_api_Watch_api_Instr : VFun := ⟨⟨[.F, .F], .F, true⟩, [],
 (.seq
 (.st [])
 (.seq
 (.seq
 (.st [.asg [(.bin .neq (.len (.v 0)) (.len (.v 1)))] []])
 (.cond (.bin .neq (.len (.v 0)) (.len (.v 1)))
 (.seq
 (.st [.asg [] [(4, (.boo false))]])
 (.ret (.v 4) []))
 .skip))
 (.seq
 (.seq
 (.st [.asg [] [(13, (N 0)), (12, (.len (.v 0)))]])
 (.block 0
 (.loop v_slices_Equal_api_Watch_api_Instr_L1)))
 (.seq
 (.st [.asg [] [(4, (.boo true))]])
 (.ret (.v 4) [])))))⟩
def v_prog_Same : VFun := ⟨⟨[.F, .F], .F, true⟩, [],
 (.seq
 (.st [.asg [(.chk (some 4) (.v 0)), (.chk (some 4) (.v 1))] [(3, (.lp (.cn (.fld none (.v 1) 0) (.cn (.fld none (.v 1) 1) (.cn (.fld none (.v 1) 2) (.cn (.fld none (.v 1) 3) .nl)))))), (2, (.lp (.cn (.fld none (.v 0) 0) (.cn (.fld none (.v 0) 1) (.cn (.fld none (.v 0) 2) (.cn (.fld none (.v 0) 3) .nl))))))], .call [] none 9 91 [(.ld none (.v 2) 0), (.ld none (.v 3) 0), (.fn 92 .nl)] [], .call [(.gd (.v 9) true .nl), (.gd (.v 9) true .nl)] (some ((.v 9), true)) 15 93 [(.ld none (.v 2) 1), (.ld none (.v 3) 1), (.fn 94 .nl)] [], .call [(.gd (.ite (.v 9) (.v 15) (.boo false)) true .nl), (.gd (.ite (.v 9) (.v 15) (.boo false)) true .nl)] (some ((.ite (.v 9) (.v 15) (.boo false)), true)) 22 95 [(.ld none (.v 2) 2), (.ld none (.v 3) 2), (.fn 84 .nl)] [], .asg [(.gd (.ite (.ite (.v 9) (.v 15) (.boo false)) (.v 22) (.boo false)) true .nl), (.gd (.ite (.ite (.v 9) (.v 15) (.boo false)) (.v 22) (.boo false)) true (.bin .eql (.ld none (.v 2) 3) (.ld none (.v 3) 3)))] [(4, (.ite (.ite (.ite (.v 9) (.v 15) (.boo false)) (.v 22) (.boo false)) (.bin .eql (.ld none (.v 2) 3) (.ld none (.v 3) 3)) (.boo false)))]])
 (.ret (.v 4) []))⟩
def v_slices_EqualFunc_api_Watch_api_Watch_api_Watch_api_Watch_L1 : VC :=
 (.seq
 (.st [.asg [(.bin .lss (.v 17) (.v 16))] []])
 (.seq
 (.cond (.bin .lss (.v 17) (.v 16))
 .skip
 (.exit 0))
 (.seq
 (.block 1
 (.seq
 (.st [.asg [] [(8, (.ld none (.ia 1 (.v 15) (.v 17)) 0)), (7, (.v 17))], .asg [] [(9, (.ld none (.ia 1 (.v 1) (.v 7)) 0))], .callv [] none 29 (.v 2) [(.v 8), (.v 9)], .asg [(.un .not (.v 29))] []])
 (.cond (.un .not (.v 29))
 (.seq
 (.st [.asg [] [(6, (.boo false))]])
 (.ret (.v 6) []))
 .skip)))
 (.st [.asg [] [(17, (.bin .add (.v 17) (N 1)))]]))))
def v_slices_EqualFunc_api_Watch_api_Watch_api_Watch_api_Watch : VFun := ⟨⟨[.F, .F, .F], .F, true⟩, [],
 (.seq
 (.st [])
 (.seq
 (.seq
 (.st [.asg [(.bin .neq (.len (.v 0)) (.len (.v 1)))] []])
 (.cond (.bin .neq (.len (.v 0)) (.len (.v 1)))
 (.seq
 (.st [.asg [] [(6, (.boo false))]])
 (.ret (.v 6) []))
 .skip))
 (.seq
 (.seq
 (.st [.asg [] [(17, (N 0)), (16, (.len (.v 0))), (15, (.v 0))]])
 (.block 0
 (.loop v_slices_EqualFunc_api_Watch_api_Watch_api_Watch_api_Watch_L1)))
 (.seq
 (.st [.asg [] [(6, (.boo true))]])
 (.ret (.v 6) [])))))⟩
def v_ref20_path_L1 : VC :=
 (.seq
 (.seq
 (.st [.asg [(.bin .lss (.v 5) (.len (.v 1)))] []])
 (.cond (.bin .lss (.v 5) (.len (.v 1)))
 .skip
 (.exit 0)))
 (.seq
 (.block 1
 (.st [.call [(.ld none (.fa (.ia 5 (.v 1) (.v 5)) 0) 0), (.ld none (.fa (.fa (.ia 5 (.v 1) (.v 5)) 1) 0) 0), (.ld none (.fa (.fa (.ia 5 (.v 1) (.v 5)) 1) 1) 0), (.ld none (.fa (.fa (.ia 5 (.v 1) (.v 5)) 1) 2) 0), (.ld none (.fa (.ia 5 (.v 1) (.v 5)) 4) 0)] none 47 51 [(.v 0), (.lst (.cn (.ld none (.fa (.ia 5 (.v 1) (.v 5)) 0) 0) (.cn (.ld none (.fa (.fa (.ia 5 (.v 1) (.v 5)) 1) 0) 0) (.cn (.ld none (.fa (.fa (.ia 5 (.v 1) (.v 5)) 1) 1) 0) (.cn (.ld none (.fa (.fa (.ia 5 (.v 1) (.v 5)) 1) 2) 0) (.cn (.ld none (.fa (.ia 5 (.v 1) (.v 5)) 4) 0) .nl))))))] [], .asg [] [(0, (.v 47))]]))
 (.st [.asg [] [(5, (.bin .add (.v 5) (N 1)))]])))
def v_ref20_path : VFun := ⟨⟨[(.O 1 true), .F], (.O 1 true), false⟩, [],
 (.seq
 (.st [.call [(.len (.v 1))] none 10 51 [(.v 0), (.lst (.cn (.len (.v 1)) .nl))] [], .asg [] [(0, (.v 10))]])
 (.seq
 (.seq
 (.st [.asg [] [(5, (N 0))]])
 (.block 0
 (.loop v_ref20_path_L1)))
 (.seq
 (.st [.asg [] [(4, (.v 0))]])
 (.ret (.v 4) []))))⟩
def v_wire_Reader_Events_L1 : VC :=
 (.seq
 (.st [.asg [(.bin .lss (.v 6) (.v 5))] []])
 (.seq
 (.cond (.bin .lss (.v 6) (.v 5))
 .skip
 (.exit 0))
 (.seq
 (.block 1
 (.st [.call [] none 9 58 [(.lp (.cn (.ld none (.v 4000) 0) (.cn (.ld none (.v 4000) 1) .nl)))] [4000], .asg [(.chk none (.v 9))] [(3, (.lp (.cn (.v 9) (.cn (N 0) (.cn (N 0) (.cn (N 0) (.cn (N 0) .nl)))))))], .call [] none 12 58 [(.lp (.cn (.ld none (.v 4000) 0) (.cn (.ld none (.v 4000) 1) .nl)))] [4000], .call [] none 14 58 [(.lp (.cn (.ld none (.v 4000) 0) (.cn (.ld none (.v 4000) 1) .nl)))] [4000], .call [] none 16 58 [(.lp (.cn (.ld none (.v 4000) 0) (.cn (.ld none (.v 4000) 1) .nl)))] [4000], .asg [(.chk none (.v 12)), (.chk none (.v 14)), (.chk none (.v 16))] [(3, (.lp (.cn (.ld none (.v 3) 0) (.cn (.v 12) (.cn (.v 14) (.cn (.v 16) (.cn (.ld none (.v 3) 4) .nl)))))))], .call [] none 20 58 [(.lp (.cn (.ld none (.v 4000) 0) (.cn (.ld none (.v 4000) 1) .nl)))] [4000], .asg [(.chk none (.v 20))] [(3, (.lp (.cn (.ld none (.v 3) 0) (.cn (.ld none (.v 3) 1) (.cn (.ld none (.v 3) 2) (.cn (.ld none (.v 3) 3) (.cn (.v 20) .nl)))))))], .asg [(.chk (some 5) (.agg (.cn (.ld none (.v 3) 0) (.cn (.ld none (.v 3) 1) (.cn (.ld none (.v 3) 2) (.cn (.ld none (.v 3) 3) (.cn (.ld none (.v 3) 4) .nl)))))))] [(2, (.app 5 (.v 2) (.lst (.cn (.agg (.cn (.ld none (.v 3) 0) (.cn (.ld none (.v 3) 1) (.cn (.ld none (.v 3) 2) (.cn (.ld none (.v 3) 3) (.cn (.ld none (.v 3) 4) .nl)))))) .nl))))]]))
 (.st [.asg [] [(6, (.bin .add (.v 6) (N 1)))]]))))
def v_wire_Reader_Events : VFun := ⟨⟨[(.B false [.F, .F])], .F, false⟩, [],
 (.seq
 (.st [.asg [] [(2, (.lst .nl)), (4000, (.lp (.cn (.ld none (.v 0) 0) (.cn (.ld none (.v 0) 1) .nl))))]])
 (.seq
 (.seq
 (.st [.call [] none 5 56 [(.lp (.cn (.ld none (.v 4000) 0) (.cn (.ld none (.v 4000) 1) .nl)))] [4000], .asg [] [(6, (N 0))]])
 (.block 0
 (.loop v_wire_Reader_Events_L1)))
 (.seq
 (.st [])
 (.ret (.v 2) [(.lp (.cn (.ld none (.v 4000) 0) (.cn (.ld none (.v 4000) 1) .nl)))]))))⟩
def v_ref20_reader_events_L1 : VC :=
 (.seq
 (.seq
 (.st [.asg [(.ite (.bin .lss (.v 5) (.v 4)) (.ld none (.v 4000) 1) (.boo false))] []])
 (.cond (.ite (.bin .lss (.v 5) (.v 4)) (.ld none (.v 4000) 1) (.boo false))
 .skip
 (.exit 0)))
 (.seq
 (.block 1
 (.st [.call [] none 21 61 [(.lp (.cn (.ld none (.v 4000) 0) (.cn (.ld none (.v 4000) 1) .nl)))] [4000], .asg [(.chk none (.v 21))] [(6, (.lp (.cn (.v 21) (.cn (N 0) (.cn (N 0) (.cn (N 0) (.cn (N 0) .nl)))))))], .call [] none 24 61 [(.lp (.cn (.ld none (.v 4000) 0) (.cn (.ld none (.v 4000) 1) .nl)))] [4000], .asg [(.chk none (.v 24))] [(6, (.lp (.cn (.ld none (.v 6) 0) (.cn (.v 24) (.cn (.ld none (.v 6) 2) (.cn (.ld none (.v 6) 3) (.cn (.ld none (.v 6) 4) .nl)))))))], .call [] none 28 61 [(.lp (.cn (.ld none (.v 4000) 0) (.cn (.ld none (.v 4000) 1) .nl)))] [4000], .asg [(.chk none (.v 28))] [(6, (.lp (.cn (.ld none (.v 6) 0) (.cn (.ld none (.v 6) 1) (.cn (.v 28) (.cn (.ld none (.v 6) 3) (.cn (.ld none (.v 6) 4) .nl)))))))], .call [] none 32 61 [(.lp (.cn (.ld none (.v 4000) 0) (.cn (.ld none (.v 4000) 1) .nl)))] [4000], .asg [(.chk none (.v 32))] [(6, (.lp (.cn (.ld none (.v 6) 0) (.cn (.ld none (.v 6) 1) (.cn (.ld none (.v 6) 2) (.cn (.v 32) (.cn (.ld none (.v 6) 4) .nl)))))))], .call [] none 36 61 [(.lp (.cn (.ld none (.v 4000) 0) (.cn (.ld none (.v 4000) 1) .nl)))] [4000], .asg [(.chk none (.v 36))] [(6, (.lp (.cn (.ld none (.v 6) 0) (.cn (.ld none (.v 6) 1) (.cn (.ld none (.v 6) 2) (.cn (.ld none (.v 6) 3) (.cn (.v 36) .nl)))))))], .asg [(.chk (some 5) (.agg (.cn (.ld none (.v 6) 0) (.cn (.ld none (.v 6) 1) (.cn (.ld none (.v 6) 2) (.cn (.ld none (.v 6) 3) (.cn (.ld none (.v 6) 4) .nl)))))))] [(3, (.app 5 (.v 3) (.lst (.cn (.agg (.cn (.ld none (.v 6) 0) (.cn (.ld none (.v 6) 1) (.cn (.ld none (.v 6) 2) (.cn (.ld none (.v 6) 3) (.cn (.ld none (.v 6) 4) .nl)))))) .nl))))]]))
 (.st [.asg [] [(5, (.bin .add (.v 5) (N 1)))]])))
def v_ref20_reader_events : VFun := ⟨⟨[(.B false [.F, .F])], .F, false⟩, [],
 (.seq
 (.st [.asg [] [(4000, (.lp (.cn (.ld none (.v 0) 0) (.cn (.ld none (.v 0) 1) .nl))))], .asg [] [(3, (.lst .nl))], .call [] none 8 60 [(.lp (.cn (.ld none (.v 4000) 0) (.cn (.ld none (.v 4000) 1) .nl)))] [4000], .asg [] [(4, (.v 8))]])
 (.seq
 (.seq
 (.st [.asg [] [(5, (N 0))]])
 (.block 0
 (.loop v_ref20_reader_events_L1)))
 (.seq
 (.st [.asg [] [(2, (.v 3))]])
 (.ret (.v 2) [(.lp (.cn (.ld none (.v 4000) 0) (.cn (.ld none (.v 4000) 1) .nl)))]))))⟩
def v_prog_SameNote : VFun := ⟨⟨[.F, .F], .F, true⟩, [],
 (.seq
 (.st [.asg [(.chk (some 3) (.v 0)), (.chk (some 3) (.v 1))] [(3, (.lp (.cn (.fld none (.v 1) 0) (.cn (.fld none (.v 1) 1) (.cn (.fld none (.v 1) 2) .nl))))), (2, (.lp (.cn (.fld none (.v 0) 0) (.cn (.fld none (.v 0) 1) (.cn (.fld none (.v 0) 2) .nl)))))], .call [(.gd (.bin .eql (.ld none (.v 2) 0) (.ld none (.v 3) 0)) true (.bin .eql (.ld none (.v 2) 1) (.ld none (.v 3) 1))), (.ite (.bin .eql (.ld none (.v 2) 0) (.ld none (.v 3) 0)) (.bin .eql (.ld none (.v 2) 1) (.ld none (.v 3) 1)) (.boo false))] (some ((.ite (.bin .eql (.ld none (.v 2) 0) (.ld none (.v 3) 0)) (.bin .eql (.ld none (.v 2) 1) (.ld none (.v 3) 1)) (.boo false)), true)) 22 100 [(.ld none (.v 2) 2), (.ld none (.v 3) 2)] [], .asg [] [(4, (.ite (.ite (.bin .eql (.ld none (.v 2) 0) (.ld none (.v 3) 0)) (.bin .eql (.ld none (.v 2) 1) (.ld none (.v 3) 1)) (.boo false)) (.v 22) (.boo false)))]])
 (.ret (.v 4) []))⟩
def v_wire_putNumbers : VFun := ⟨⟨[(.O 1 true), .F], (.O 1 true), false⟩, [],
 (.seq
 (.st [.call [(.len (.v 1))] none 9 48 [(.v 0), (.lst (.cn (.len (.v 1)) .nl))] [], .call [] none 11 48 [(.v 9), (.v 1)] [], .asg [] [(4, (.v 11))]])
 (.ret (.v 4) []))⟩
def v_wire_flag : VFun := ⟨⟨[.F], .F, true⟩, [],
 (.seq
 (.st [])
 (.seq
 (.seq
 (.st [])
 (.cond (.v 0)
 (.seq
 (.st [.asg [] [(2, (N 1))]])
 (.ret (.v 2) []))
 .skip))
 (.seq
 (.st [.asg [] [(2, (N 0))]])
 (.ret (.v 2) []))))⟩
def v_wire_Reader_numbers_L1 : VC :=
 (.seq
 (.st [.asg [(.bin .lss (.v 5) (.v 4))] []])
 (.seq
 (.cond (.bin .lss (.v 5) (.v 4))
 .skip
 (.exit 0))
 (.seq
 (.block 1
 (.st [.call [] none 9 58 [(.lp (.cn (.ld none (.v 4000) 0) (.cn (.ld none (.v 4000) 1) .nl)))] [4000], .asg [(.chk none (.v 9))] [(2, (.app 1 (.v 2) (.lst (.cn (.v 9) .nl))))]]))
 (.st [.asg [] [(5, (.bin .add (.v 5) (N 1)))]]))))
def v_wire_Reader_numbers : VFun := ⟨⟨[(.B false [.F, .F])], .F, false⟩, [],
 (.seq
 (.st [.asg [] [(2, (.lst .nl)), (4000, (.lp (.cn (.ld none (.v 0) 0) (.cn (.ld none (.v 0) 1) .nl))))]])
 (.seq
 (.seq
 (.st [.call [] none 4 56 [(.lp (.cn (.ld none (.v 4000) 0) (.cn (.ld none (.v 4000) 1) .nl)))] [4000], .asg [] [(5, (N 0))]])
 (.block 0
 (.loop v_wire_Reader_numbers_L1)))
 (.seq
 (.st [])
 (.ret (.v 2) [(.lp (.cn (.ld none (.v 4000) 0) (.cn (.ld none (.v 4000) 1) .nl)))]))))⟩
def v_wire_Reader_flag : VFun := ⟨⟨[(.B false [.F, .F])], .F, true⟩, [],
 (.seq
 (.st [.asg [] [(4000, (.lp (.cn (.ld none (.v 0) 0) (.cn (.ld none (.v 0) 1) .nl))))], .call [] none 5 58 [(.lp (.cn (.ld none (.v 4000) 0) (.cn (.ld none (.v 4000) 1) .nl)))] [4000], .asg [] [(3, (.v 5))], .asg [(.gd (.gd (.ld none (.v 4000) 1) false (.bin .neq (.v 3) (N 0))) true (.bin .neq (.v 3) (N 1))), (.gd (.ld none (.v 4000) 1) false .nl), (.gd (.ld none (.v 4000) 1) false (.ite (.bin .neq (.v 3) (N 0)) (.bin .neq (.v 3) (N 1)) (.boo false)))] [(4000, (.lp (.cn (.ld none (.v 4000) 0) (.cn (.ite (.ld none (.v 4000) 1) (.boo true) (.ite (.bin .neq (.v 3) (N 0)) (.bin .neq (.v 3) (N 1)) (.boo false))) .nl))))], .asg [] [(2, (.bin .eql (.v 3) (N 1)))]])
 (.ret (.v 2) [(.lp (.cn (.ld none (.v 4000) 0) (.cn (.ld none (.v 4000) 1) .nl)))]))⟩
def v_slices_EqualFunc_api_Handler_api_Handler_api_Handler_api_Handler_L1 : VC :=
 (.seq
 (.st [.asg [(.bin .lss (.v 17) (.v 16))] []])
 (.seq
 (.cond (.bin .lss (.v 17) (.v 16))
 .skip
 (.exit 0))
 (.seq
 (.block 1
 (.seq
 (.st [.asg [] [(7, (.v 17)), (8, (.lp (.cn (.fld none (.ld (some 2) (.ia 2 (.v 15) (.v 17)) 0) 0) (.cn (.fld none (.ld (some 2) (.ia 2 (.v 15) (.v 17)) 0) 1) .nl))))], .asg [] [(9, (.lp (.cn (.fld none (.ld (some 2) (.ia 2 (.v 1) (.v 7)) 0) 0) (.cn (.fld none (.ld (some 2) (.ia 2 (.v 1) (.v 7)) 0) 1) .nl))))], .callv [] none 29 (.v 2) [(.agg (.cn (.ld none (.v 8) 0) (.cn (.ld none (.v 8) 1) .nl))), (.agg (.cn (.ld none (.v 9) 0) (.cn (.ld none (.v 9) 1) .nl)))], .asg [(.un .not (.v 29))] []])
 (.cond (.un .not (.v 29))
 (.seq
 (.st [.asg [] [(6, (.boo false))]])
 (.ret (.v 6) []))
 .skip)))
 (.st [.asg [] [(17, (.bin .add (.v 17) (N 1)))]]))))
def v_slices_EqualFunc_api_Handler_api_Handler_api_Handler_api_Handler : VFun := ⟨⟨[.F, .F, .F], .F, true⟩, [],
 (.seq
 (.st [])
 (.seq
 (.seq
 (.st [.asg [(.bin .neq (.len (.v 0)) (.len (.v 1)))] []])
 (.cond (.bin .neq (.len (.v 0)) (.len (.v 1)))
 (.seq
 (.st [.asg [] [(6, (.boo false))]])
 (.ret (.v 6) []))
 .skip))
 (.seq
 (.seq
 (.st [.asg [] [(17, (N 0)), (16, (.len (.v 0))), (15, (.v 0))]])
 (.block 0
 (.loop v_slices_EqualFunc_api_Handler_api_Handler_api_Handler_api_Handler_L1)))
 (.seq
 (.st [.asg [] [(6, (.boo true))]])
 (.ret (.v 6) [])))))⟩
def v_prog_sameHandler : VFun := ⟨⟨[.F, .F], .F, true⟩, [],
 (.seq
 (.st [.asg [(.chk (some 2) (.v 0)), (.chk (some 2) (.v 1))] [(3, (.lp (.cn (.fld none (.v 1) 0) (.cn (.fld none (.v 1) 1) .nl)))), (2, (.lp (.cn (.fld none (.v 0) 0) (.cn (.fld none (.v 0) 1) .nl))))], .call [(.bin .eql (.ld none (.v 2) 0) (.ld none (.v 3) 0))] (some ((.bin .eql (.ld none (.v 2) 0) (.ld none (.v 3) 0)), true)) 15 101 [(.ld none (.v 2) 1), (.ld none (.v 3) 1)] [], .asg [] [(4, (.ite (.bin .eql (.ld none (.v 2) 0) (.ld none (.v 3) 0)) (.v 15) (.boo false)))]])
 (.ret (.v 4) []))⟩
def v_slices_EqualFunc_api_Actor_api_Actor_api_Actor_api_Actor_L1 : VC :=
 (.seq
 (.st [.asg [(.bin .lss (.v 17) (.v 16))] []])
 (.seq
 (.cond (.bin .lss (.v 17) (.v 16))
 .skip
 (.exit 0))
 (.seq
 (.block 1
 (.seq
 (.st [.asg [] [(7, (.v 17)), (8, (.lp (.cn (.fld none (.ld (some 4) (.ia 4 (.v 15) (.v 17)) 0) 0) (.cn (.fld none (.ld (some 4) (.ia 4 (.v 15) (.v 17)) 0) 1) (.cn (.fld none (.ld (some 4) (.ia 4 (.v 15) (.v 17)) 0) 2) (.cn (.fld none (.ld (some 4) (.ia 4 (.v 15) (.v 17)) 0) 3) .nl))))))], .asg [] [(9, (.lp (.cn (.fld none (.ld (some 4) (.ia 4 (.v 1) (.v 7)) 0) 0) (.cn (.fld none (.ld (some 4) (.ia 4 (.v 1) (.v 7)) 0) 1) (.cn (.fld none (.ld (some 4) (.ia 4 (.v 1) (.v 7)) 0) 2) (.cn (.fld none (.ld (some 4) (.ia 4 (.v 1) (.v 7)) 0) 3) .nl))))))], .callv [] none 29 (.v 2) [(.agg (.cn (.ld none (.v 8) 0) (.cn (.ld none (.v 8) 1) (.cn (.ld none (.v 8) 2) (.cn (.ld none (.v 8) 3) .nl))))), (.agg (.cn (.ld none (.v 9) 0) (.cn (.ld none (.v 9) 1) (.cn (.ld none (.v 9) 2) (.cn (.ld none (.v 9) 3) .nl)))))], .asg [(.un .not (.v 29))] []])
 (.cond (.un .not (.v 29))
 (.seq
 (.st [.asg [] [(6, (.boo false))]])
 (.ret (.v 6) []))
 .skip)))
 (.st [.asg [] [(17, (.bin .add (.v 17) (N 1)))]]))))
def v_slices_EqualFunc_api_Actor_api_Actor_api_Actor_api_Actor : VFun := ⟨⟨[.F, .F, .F], .F, true⟩, [],
 (.seq
 (.st [])
 (.seq
 (.seq
 (.st [.asg [(.bin .neq (.len (.v 0)) (.len (.v 1)))] []])
 (.cond (.bin .neq (.len (.v 0)) (.len (.v 1)))
 (.seq
 (.st [.asg [] [(6, (.boo false))]])
 (.ret (.v 6) []))
 .skip))
 (.seq
 (.seq
 (.st [.asg [] [(17, (N 0)), (16, (.len (.v 0))), (15, (.v 0))]])
 (.block 0
 (.loop v_slices_EqualFunc_api_Actor_api_Actor_api_Actor_api_Actor_L1)))
 (.seq
 (.st [.asg [] [(6, (.boo true))]])
 (.ret (.v 6) [])))))⟩
def v_prog_sameActor : VFun := ⟨⟨[.F, .F], .F, true⟩, [],
 (.seq
 (.st [.asg [(.chk (some 4) (.v 0)), (.chk (some 4) (.v 1))] [(3, (.lp (.cn (.fld none (.v 1) 0) (.cn (.fld none (.v 1) 1) (.cn (.fld none (.v 1) 2) (.cn (.fld none (.v 1) 3) .nl)))))), (2, (.lp (.cn (.fld none (.v 0) 0) (.cn (.fld none (.v 0) 1) (.cn (.fld none (.v 0) 2) (.cn (.fld none (.v 0) 3) .nl))))))], .call [] none 9 100 [(.ld none (.v 2) 0), (.ld none (.v 3) 0)] [], .asg [(.gd (.v 9) true .nl), (.gd (.v 9) true (.bin .eql (.ld none (.v 2) 1) (.ld none (.v 3) 1))), (.gd (.ite (.v 9) (.bin .eql (.ld none (.v 2) 1) (.ld none (.v 3) 1)) (.boo false)) true (.bin .eql (.ld none (.v 2) 2) (.ld none (.v 3) 2))), (.gd (.ite (.ite (.v 9) (.bin .eql (.ld none (.v 2) 1) (.ld none (.v 3) 1)) (.boo false)) (.bin .eql (.ld none (.v 2) 2) (.ld none (.v 3) 2)) (.boo false)) true (.eqb false (.ld none (.v 2) 3) (.ld none (.v 3) 3)))] [(4, (.ite (.ite (.ite (.v 9) (.bin .eql (.ld none (.v 2) 1) (.ld none (.v 3) 1)) (.boo false)) (.bin .eql (.ld none (.v 2) 2) (.ld none (.v 3) 2)) (.boo false)) (.eqb false (.ld none (.v 2) 3) (.ld none (.v 3) 3)) (.boo false)))]])
 (.ret (.v 4) []))⟩
def v_slices_EqualFunc_api_Note_api_Note_api_Note_api_Note_L1 : VC :=
 (.seq
 (.st [.asg [(.bin .lss (.v 17) (.v 16))] []])
 (.seq
 (.cond (.bin .lss (.v 17) (.v 16))
 .skip
 (.exit 0))
 (.seq
 (.block 1
 (.seq
 (.st [.asg [] [(7, (.v 17)), (8, (.lp (.cn (.fld none (.ld (some 3) (.ia 3 (.v 15) (.v 17)) 0) 0) (.cn (.fld none (.ld (some 3) (.ia 3 (.v 15) (.v 17)) 0) 1) (.cn (.fld none (.ld (some 3) (.ia 3 (.v 15) (.v 17)) 0) 2) .nl)))))], .asg [] [(9, (.lp (.cn (.fld none (.ld (some 3) (.ia 3 (.v 1) (.v 7)) 0) 0) (.cn (.fld none (.ld (some 3) (.ia 3 (.v 1) (.v 7)) 0) 1) (.cn (.fld none (.ld (some 3) (.ia 3 (.v 1) (.v 7)) 0) 2) .nl)))))], .callv [] none 29 (.v 2) [(.agg (.cn (.ld none (.v 8) 0) (.cn (.ld none (.v 8) 1) (.cn (.ld none (.v 8) 2) .nl)))), (.agg (.cn (.ld none (.v 9) 0) (.cn (.ld none (.v 9) 1) (.cn (.ld none (.v 9) 2) .nl))))], .asg [(.un .not (.v 29))] []])
 (.cond (.un .not (.v 29))
 (.seq
 (.st [.asg [] [(6, (.boo false))]])
 (.ret (.v 6) []))
 .skip)))
 (.st [.asg [] [(17, (.bin .add (.v 17) (N 1)))]]))))
def v_slices_EqualFunc_api_Note_api_Note_api_Note_api_Note : VFun := ⟨⟨[.F, .F, .F], .F, true⟩, [],
 (.seq
 (.st [])
 (.seq
 (.seq
 (.st [.asg [(.bin .neq (.len (.v 0)) (.len (.v 1)))] []])
 (.cond (.bin .neq (.len (.v 0)) (.len (.v 1)))
 (.seq
 (.st [.asg [] [(6, (.boo false))]])
 (.ret (.v 6) []))
 .skip))
 (.seq
 (.seq
 (.st [.asg [] [(17, (N 0)), (16, (.len (.v 0))), (15, (.v 0))]])
 (.block 0
 (.loop v_slices_EqualFunc_api_Note_api_Note_api_Note_api_Note_L1)))
 (.seq
 (.st [.asg [] [(6, (.boo true))]])
 (.ret (.v 6) [])))))⟩
def v_slices_Equal_int_int_L1 : VC :=
 (.seq
 (.st [.asg [(.bin .lss (.v 13) (.v 12))] []])
 (.seq
 (.cond (.bin .lss (.v 13) (.v 12))
 .skip
 (.exit 0))
 (.seq
 (.block 1
 (.seq
 (.st [.asg [] [(5, (.v 13))], .asg [(.bin .neq (.ld none (.ia 1 (.v 0) (.v 5)) 0) (.ld none (.ia 1 (.v 1) (.v 5)) 0))] []])
 (.cond (.bin .neq (.ld none (.ia 1 (.v 0) (.v 5)) 0) (.ld none (.ia 1 (.v 1) (.v 5)) 0))
 (.seq
 (.st [.asg [] [(4, (.boo false))]])
 (.ret (.v 4) []))
 .skip)))
 (.st [.asg [] [(13, (.bin .add (.v 13) (N 1)))]]))))
def v_slices_Equal_int_int : VFun := ⟨⟨[.F, .F], .F, true⟩, [],
 (.seq
 (.st [])
 (.seq
 (.seq
 (.st [.asg [(.bin .neq (.len (.v 0)) (.len (.v 1)))] []])
 (.cond (.bin .neq (.len (.v 0)) (.len (.v 1)))
 (.seq
 (.st [.asg [] [(4, (.boo false))]])
 (.ret (.v 4) []))
 .skip))
 (.seq
 (.seq
 (.st [.asg [] [(13, (N 0)), (12, (.len (.v 0)))]])
 (.block 0
 (.loop v_slices_Equal_int_int_L1)))
 (.seq
 (.st [.asg [] [(4, (.boo true))]])
 (.ret (.v 4) [])))))⟩
def v_slices_Equal_api_Instr_api_Instr_L1 : VC :=
 (.seq
 (.st [.asg [(.bin .lss (.v 13) (.v 12))] []])
 (.seq
 (.cond (.bin .lss (.v 13) (.v 12))
 .skip
 (.exit 0))
 (.seq
 (.block 1
 (.seq
 (.st [.asg [] [(5, (.v 13))], .asg [(.eqs true [false, false] (.ld (some 2) (.ia 2 (.v 0) (.v 5)) 0) (.ld (some 2) (.ia 2 (.v 1) (.v 5)) 0))] []])
 (.cond (.eqs true [false, false] (.ld (some 2) (.ia 2 (.v 0) (.v 5)) 0) (.ld (some 2) (.ia 2 (.v 1) (.v 5)) 0))
 (.seq
 (.st [.asg [] [(4, (.boo false))]])
 (.ret (.v 4) []))
 .skip)))
 (.st [.asg [] [(13, (.bin .add (.v 13) (N 1)))]]))))
def v_slices_Equal_api_Instr_api_Instr : VFun := ⟨⟨[.F, .F], .F, true⟩, [],
 (.seq
 (.st [])
 (.seq
 (.seq
 (.st [.asg [(.bin .neq (.len (.v 0)) (.len (.v 1)))] []])
 (.cond (.bin .neq (.len (.v 0)) (.len (.v 1)))
 (.seq
 (.st [.asg [] [(4, (.boo false))]])
 (.ret (.v 4) []))
 .skip))
 (.seq
 (.seq
 (.st [.asg [] [(13, (N 0)), (12, (.len (.v 0)))]])
 (.block 0
 (.loop v_slices_Equal_api_Instr_api_Instr_L1)))
 (.seq
 (.st [.asg [] [(4, (.boo true))]])
 (.ret (.v 4) [])))))⟩
def VTL : List (Option VFun) := [none, none, none, some v_law22_WirePaths, none, none, some v_law22_WirePieces, none, none, none, some yesV, some v_wire_Number, some v_wire_Take, some v_ref20_Take, some v_ref20_Number, none, some v_wire_Encode, none, none, some v_wire_Decode, none, none, some v_wire_Same, some v_alike_Round, some v_wire_Path, some v_ref20_Path, some v_wire_Events, some v_ref20_Events, some v_alike_Events, some v_law22_one, none, none, none, none, none, none, none, none, none, none, none, none, none, none, none, none, none, none, some v_wire_put, some v_wire_putProgram, some v_wire_putCode, some v_ref20_put, none, none, some v_wire_Read, some v_wire_Reader_program, some v_wire_Reader_Count, some v_wire_Reader_code, some v_wire_Reader_Num, some v_wire_Reader_Good, some v_ref20_reader_many, some v_ref20_reader_int, none, none, none, none, some v_wire_Same_1, some v_slices_Equal_api_Watch_api_Instr, some v_prog_Same, some v_slices_EqualFunc_api_Watch_api_Watch_api_Watch_api_Watch, some v_ref20_path, some v_wire_Reader_Events, some v_ref20_reader_events, none, none, none, none, none, none, none, none, none, none, none, some v_prog_SameNote, some v_wire_putNumbers, some v_wire_flag, some v_wire_Reader_numbers, some v_wire_Reader_flag, none, none, some v_slices_EqualFunc_api_Handler_api_Handler_api_Handler_api_Handler, some v_prog_sameHandler, some v_slices_EqualFunc_api_Actor_api_Actor_api_Actor_api_Actor, some v_prog_sameActor, some v_slices_EqualFunc_api_Note_api_Note_api_Note_api_Note, none, none, none, none, some v_slices_Equal_int_int, some v_slices_Equal_api_Instr_api_Instr]
def tVT : Nat → Option VFun := tabV VTL
def tVS : Nat → Option Sig := fun g => (tVT g).map VFun.sig
end Gv

namespace Gv
open Go
theorem mk3 : EntOk (tabOf FTL) tVS 3 v_law22_WirePaths := .inl ⟨f_law22_WirePaths, rfl, by kernel_rfl⟩
theorem mk6 : EntOk (tabOf FTL) tVS 6 v_law22_WirePieces := .inl ⟨f_law22_WirePieces, rfl, by kernel_rfl⟩
theorem mk11 : EntOk (tabOf FTL) tVS 11 v_wire_Number := .inl ⟨f_wire_Number, rfl, by kernel_rfl⟩
theorem mk12 : EntOk (tabOf FTL) tVS 12 v_wire_Take := .inl ⟨f_wire_Take, rfl, by kernel_rfl⟩
theorem mk13 : EntOk (tabOf FTL) tVS 13 v_ref20_Take := .inl ⟨f_ref20_Take, rfl, by kernel_rfl⟩
theorem mk14 : EntOk (tabOf FTL) tVS 14 v_ref20_Number := .inl ⟨f_ref20_Number, rfl, by kernel_rfl⟩
theorem mk16 : EntOk (tabOf FTL) tVS 16 v_wire_Encode := .inl ⟨f_wire_Encode, rfl, by kernel_rfl⟩
theorem mk19 : EntOk (tabOf FTL) tVS 19 v_wire_Decode := .inl ⟨f_wire_Decode, rfl, by kernel_rfl⟩
theorem mk22 : EntOk (tabOf FTL) tVS 22 v_wire_Same := .inl ⟨f_wire_Same, rfl, by kernel_rfl⟩
theorem mk23 : EntOk (tabOf FTL) tVS 23 v_alike_Round := .inl ⟨f_alike_Round, rfl, by kernel_rfl⟩
theorem mk24 : EntOk (tabOf FTL) tVS 24 v_wire_Path := .inl ⟨f_wire_Path, rfl, by kernel_rfl⟩
theorem mk25 : EntOk (tabOf FTL) tVS 25 v_ref20_Path := .inl ⟨f_ref20_Path, rfl, by kernel_rfl⟩
theorem mk26 : EntOk (tabOf FTL) tVS 26 v_wire_Events := .inl ⟨f_wire_Events, rfl, by kernel_rfl⟩
theorem mk27 : EntOk (tabOf FTL) tVS 27 v_ref20_Events := .inl ⟨f_ref20_Events, rfl, by kernel_rfl⟩
theorem mk28 : EntOk (tabOf FTL) tVS 28 v_alike_Events := .inl ⟨f_alike_Events, rfl, by kernel_rfl⟩
theorem mk29 : EntOk (tabOf FTL) tVS 29 v_law22_one := .inl ⟨f_law22_one, rfl, by kernel_rfl⟩
theorem mk48 : EntOk (tabOf FTL) tVS 48 v_wire_put := .inl ⟨f_wire_put, rfl, by kernel_rfl⟩
theorem mk49 : EntOk (tabOf FTL) tVS 49 v_wire_putProgram := .inl ⟨f_wire_putProgram, rfl, by kernel_rfl⟩
theorem mk50 : EntOk (tabOf FTL) tVS 50 v_wire_putCode := .inl ⟨f_wire_putCode, rfl, by kernel_rfl⟩
theorem mk51 : EntOk (tabOf FTL) tVS 51 v_ref20_put := .inl ⟨f_ref20_put, rfl, by kernel_rfl⟩
theorem mk54 : EntOk (tabOf FTL) tVS 54 v_wire_Read := .inl ⟨f_wire_Read, rfl, by kernel_rfl⟩
theorem mk55 : EntOk (tabOf FTL) tVS 55 v_wire_Reader_program := .inl ⟨f_wire_Reader_program, rfl, by kernel_rfl⟩
theorem mk56 : EntOk (tabOf FTL) tVS 56 v_wire_Reader_Count := .inl ⟨f_wire_Reader_Count, rfl, by kernel_rfl⟩
theorem mk57 : EntOk (tabOf FTL) tVS 57 v_wire_Reader_code := .inl ⟨f_wire_Reader_code, rfl, by kernel_rfl⟩
theorem mk58 : EntOk (tabOf FTL) tVS 58 v_wire_Reader_Num := .inl ⟨f_wire_Reader_Num, rfl, by kernel_rfl⟩
theorem mk59 : EntOk (tabOf FTL) tVS 59 v_wire_Reader_Good := .inl ⟨f_wire_Reader_Good, rfl, by kernel_rfl⟩
theorem mk60 : EntOk (tabOf FTL) tVS 60 v_ref20_reader_many := .inl ⟨f_ref20_reader_many, rfl, by kernel_rfl⟩
theorem mk61 : EntOk (tabOf FTL) tVS 61 v_ref20_reader_int := .inl ⟨f_ref20_reader_int, rfl, by kernel_rfl⟩
theorem mk66 : EntOk (tabOf FTL) tVS 66 v_wire_Same_1 := .inl ⟨f_wire_Same_1, rfl, by kernel_rfl⟩
theorem mk67 : EntOk (tabOf FTL) tVS 67 v_slices_Equal_api_Watch_api_Instr := .inl ⟨f_slices_Equal_api_Watch_api_Instr, rfl, by kernel_rfl⟩
theorem mk68 : EntOk (tabOf FTL) tVS 68 v_prog_Same := .inl ⟨f_prog_Same, rfl, by kernel_rfl⟩
theorem mk69 : EntOk (tabOf FTL) tVS 69 v_slices_EqualFunc_api_Watch_api_Watch_api_Watch_api_Watch := .inl ⟨f_slices_EqualFunc_api_Watch_api_Watch_api_Watch_api_Watch, rfl, by kernel_rfl⟩
theorem mk70 : EntOk (tabOf FTL) tVS 70 v_ref20_path := .inl ⟨f_ref20_path, rfl, by kernel_rfl⟩
theorem mk71 : EntOk (tabOf FTL) tVS 71 v_wire_Reader_Events := .inl ⟨f_wire_Reader_Events, rfl, by kernel_rfl⟩
theorem mk72 : EntOk (tabOf FTL) tVS 72 v_ref20_reader_events := .inl ⟨f_ref20_reader_events, rfl, by kernel_rfl⟩
theorem mk84 : EntOk (tabOf FTL) tVS 84 v_prog_SameNote := .inl ⟨f_prog_SameNote, rfl, by kernel_rfl⟩
theorem mk85 : EntOk (tabOf FTL) tVS 85 v_wire_putNumbers := .inl ⟨f_wire_putNumbers, rfl, by kernel_rfl⟩
theorem mk86 : EntOk (tabOf FTL) tVS 86 v_wire_flag := .inl ⟨f_wire_flag, rfl, by kernel_rfl⟩
theorem mk87 : EntOk (tabOf FTL) tVS 87 v_wire_Reader_numbers := .inl ⟨f_wire_Reader_numbers, rfl, by kernel_rfl⟩
theorem mk88 : EntOk (tabOf FTL) tVS 88 v_wire_Reader_flag := .inl ⟨f_wire_Reader_flag, rfl, by kernel_rfl⟩
theorem mk91 : EntOk (tabOf FTL) tVS 91 v_slices_EqualFunc_api_Handler_api_Handler_api_Handler_api_Handler := .inl ⟨f_slices_EqualFunc_api_Handler_api_Handler_api_Handler_api_Handler, rfl, by kernel_rfl⟩
theorem mk92 : EntOk (tabOf FTL) tVS 92 v_prog_sameHandler := .inl ⟨f_prog_sameHandler, rfl, by kernel_rfl⟩
theorem mk93 : EntOk (tabOf FTL) tVS 93 v_slices_EqualFunc_api_Actor_api_Actor_api_Actor_api_Actor := .inl ⟨f_slices_EqualFunc_api_Actor_api_Actor_api_Actor_api_Actor, rfl, by kernel_rfl⟩
theorem mk94 : EntOk (tabOf FTL) tVS 94 v_prog_sameActor := .inl ⟨f_prog_sameActor, rfl, by kernel_rfl⟩
theorem mk95 : EntOk (tabOf FTL) tVS 95 v_slices_EqualFunc_api_Note_api_Note_api_Note_api_Note := .inl ⟨f_slices_EqualFunc_api_Note_api_Note_api_Note_api_Note, rfl, by kernel_rfl⟩
theorem mk100 : EntOk (tabOf FTL) tVS 100 v_slices_Equal_int_int := .inl ⟨f_slices_Equal_int_int, rfl, by kernel_rfl⟩
theorem mk101 : EntOk (tabOf FTL) tVS 101 v_slices_Equal_api_Instr_api_Instr := .inl ⟨f_slices_Equal_api_Instr_api_Instr, rfl, by kernel_rfl⟩
end Gv

namespace Gv
open Go
theorem tVT_ok : VTOk' (tabOf FTL) tVT := by
  have key : ∀ n, ∀ f F, tabV VTL f = some F → f < n → F.binds = [] ∧ EntOk (tabOf FTL) tVS f F := by
    intro n f F h hn
    match f, h with
    | 0, h => cases h
    | 1, h => cases h
    | 2, h => cases h
    | 3, h => cases h; exact ⟨rfl, mk3⟩
    | 4, h => cases h
    | 5, h => cases h
    | 6, h => cases h; exact ⟨rfl, mk6⟩
    | 7, h => cases h
    | 8, h => cases h
    | 9, h => cases h
    | 10, h => cases h; exact ⟨rfl, yes_ent awakeV⟩
    | 11, h => cases h; exact ⟨rfl, mk11⟩
    | 12, h => cases h; exact ⟨rfl, mk12⟩
    | 13, h => cases h; exact ⟨rfl, mk13⟩
    | 14, h => cases h; exact ⟨rfl, mk14⟩
    | 15, h => cases h
    | 16, h => cases h; exact ⟨rfl, mk16⟩
    | 17, h => cases h
    | 18, h => cases h
    | 19, h => cases h; exact ⟨rfl, mk19⟩
    | 20, h => cases h
    | 21, h => cases h
    | 22, h => cases h; exact ⟨rfl, mk22⟩
    | 23, h => cases h; exact ⟨rfl, mk23⟩
    | 24, h => cases h; exact ⟨rfl, mk24⟩
    | 25, h => cases h; exact ⟨rfl, mk25⟩
    | 26, h => cases h; exact ⟨rfl, mk26⟩
    | 27, h => cases h; exact ⟨rfl, mk27⟩
    | 28, h => cases h; exact ⟨rfl, mk28⟩
    | 29, h => cases h; exact ⟨rfl, mk29⟩
    | 30, h => cases h
    | 31, h => cases h
    | 32, h => cases h
    | 33, h => cases h
    | 34, h => cases h
    | 35, h => cases h
    | 36, h => cases h
    | 37, h => cases h
    | 38, h => cases h
    | 39, h => cases h
    | 40, h => cases h
    | 41, h => cases h
    | 42, h => cases h
    | 43, h => cases h
    | 44, h => cases h
    | 45, h => cases h
    | 46, h => cases h
    | 47, h => cases h
    | 48, h => cases h; exact ⟨rfl, mk48⟩
    | 49, h => cases h; exact ⟨rfl, mk49⟩
    | 50, h => cases h; exact ⟨rfl, mk50⟩
    | 51, h => cases h; exact ⟨rfl, mk51⟩
    | 52, h => cases h
    | 53, h => cases h
    | 54, h => cases h; exact ⟨rfl, mk54⟩
    | 55, h => cases h; exact ⟨rfl, mk55⟩
    | 56, h => cases h; exact ⟨rfl, mk56⟩
    | 57, h => cases h; exact ⟨rfl, mk57⟩
    | 58, h => cases h; exact ⟨rfl, mk58⟩
    | 59, h => cases h; exact ⟨rfl, mk59⟩
    | 60, h => cases h; exact ⟨rfl, mk60⟩
    | 61, h => cases h; exact ⟨rfl, mk61⟩
    | 62, h => cases h
    | 63, h => cases h
    | 64, h => cases h
    | 65, h => cases h
    | 66, h => cases h; exact ⟨rfl, mk66⟩
    | 67, h => cases h; exact ⟨rfl, mk67⟩
    | 68, h => cases h; exact ⟨rfl, mk68⟩
    | 69, h => cases h; exact ⟨rfl, mk69⟩
    | 70, h => cases h; exact ⟨rfl, mk70⟩
    | 71, h => cases h; exact ⟨rfl, mk71⟩
    | 72, h => cases h; exact ⟨rfl, mk72⟩
    | 73, h => cases h
    | 74, h => cases h
    | 75, h => cases h
    | 76, h => cases h
    | 77, h => cases h
    | 78, h => cases h
    | 79, h => cases h
    | 80, h => cases h
    | 81, h => cases h
    | 82, h => cases h
    | 83, h => cases h
    | 84, h => cases h; exact ⟨rfl, mk84⟩
    | 85, h => cases h; exact ⟨rfl, mk85⟩
    | 86, h => cases h; exact ⟨rfl, mk86⟩
    | 87, h => cases h; exact ⟨rfl, mk87⟩
    | 88, h => cases h; exact ⟨rfl, mk88⟩
    | 89, h => cases h
    | 90, h => cases h
    | 91, h => cases h; exact ⟨rfl, mk91⟩
    | 92, h => cases h; exact ⟨rfl, mk92⟩
    | 93, h => cases h; exact ⟨rfl, mk93⟩
    | 94, h => cases h; exact ⟨rfl, mk94⟩
    | 95, h => cases h; exact ⟨rfl, mk95⟩
    | 96, h => cases h
    | 97, h => cases h
    | 98, h => cases h
    | 99, h => cases h
    | 100, h => cases h; exact ⟨rfl, mk100⟩
    | 101, h => cases h; exact ⟨rfl, mk101⟩
    | f + 102, h => cases h
  exact fun f F h => key (f + 1) f F h (by omega)
end Gv
