/- What this file proves: one part of the proof that the law answers true for every input, by an interpreter that is proved sound against the given model. -/
import Derived.Test.YtkjefeclbdjkcaaVc
import Derived.Test.YtkjefeclbdjkcaaIrv
import Derived.KernelRfl
import Derived.Test.YtkjefeclbdjkcaaAw
namespace Gv
open Go
abbrev N (n : Int) : X := .int .i64 n
def v_wire_Number_L1 : VC :=
 (.seq
 (.seq
 (.st [.asg [(.bin .geq (.v 3) (.int .u64 128))] []])
 (.cond (.bin .geq (.v 3) (.int .u64 128))
 .skip
 (.exit 0)))
 (.seq
 (.block 1
 (.st [.asg [] [(2, (.app 1 (.v 2) (.lst (.cn (.bin .or (.toInt .u8 (.v 3)) (.int .u8 128)) .nl))))]]))
 (.st [.asg [] [(3, (.bin .shr (.v 3) (.int .u64 7)))]])))
def v_wire_Number : VFun := ⟨⟨[.F], .F, false⟩, [],
 (.seq
 (.st [.asg [] [(2, (.lst .nl))], .asg [] [(3, (.bin .xor (.bin .shl (.toInt .u64 (.v 0)) (.int .u64 1)) (.toInt .u64 (.bin .shr (.v 0) (.int .u64 63)))))]])
 (.seq
 (.block 0
 (.loop v_wire_Number_L1))
 (.seq
 (.st [.asg [] [(2, (.app 1 (.v 2) (.lst (.cn (.toInt .u8 (.v 3)) .nl))))]])
 (.ret (.v 2) []))))⟩
def v_wire_Encode_L1 : VC :=
 (.seq
 (.st [.asg [(.bin .lss (.v 20) (.v 19))] []])
 (.seq
 (.cond (.bin .lss (.v 20) (.v 19))
 .skip
 (.exit 0))
 (.seq
 (.block 1
 (.st [.asg [] [(6, (.ld none (.ia 1 (.v 18) (.v 20)) 0))], .call [] none 26 50 [(.v 4), (.v 6)] [], .asg [] [(4, (.v 26))]]))
 (.st [.asg [] [(20, (.bin .add (.v 20) (N 1)))]]))))
def v_wire_Encode : VFun := ⟨⟨[.F], (.T [.F, .F]), false⟩, [],
 (.seq
 (.st [.asg [(.chk (some 11) (.v 0))] [(1, (.lp (.cn (.fld none (.v 0) 0) (.cn (.fld none (.v 0) 1) (.cn (.fld none (.v 0) 2) (.cn (.fld none (.v 0) 3) (.cn (.fld none (.v 0) 4) (.cn (.fld none (.v 0) 5) (.cn (.fld none (.v 0) 6) (.cn (.fld none (.v 0) 7) (.cn (.fld none (.v 0) 8) (.cn (.fld none (.v 0) 9) (.cn (.fld none (.v 0) 10) .nl)))))))))))))], .call [(.pos (.lst (.cn (.int .u8 71) (.cn (.int .u8 65) (.cn (.int .u8 86) (.cn (.int .u8 49) .nl))))))] none 11 49 [(.lst (.cn (.int .u8 71) (.cn (.int .u8 65) (.cn (.int .u8 86) (.cn (.int .u8 49) .nl))))), (.agg (.cn (.ld none (.v 1) 0) (.cn (.ld none (.v 1) 1) (.cn (.ld none (.v 1) 2) (.cn (.ld none (.v 1) 3) .nl)))))] [], .call [(.len (.ld none (.v 1) 4))] none 16 48 [(.v 11), (.lst (.cn (.len (.ld none (.v 1) 4)) .nl))] [], .asg [] [(4, (.v 16))]])
 (.seq
 (.seq
 (.st [.asg [] [(20, (N 0)), (19, (.len (.ld none (.v 1) 4))), (18, (.ld none (.v 1) 4))]])
 (.block 0
 (.loop v_wire_Encode_L1)))
 (.seq
 (.st [.call [] none 48 48 [(.v 4), (.lst (.cn (.ld none (.v 1) 5) (.cn (.ld none (.v 1) 6) (.cn (.ld none (.v 1) 7) (.cn (.ld none (.v 1) 8) (.cn (.ld none (.v 1) 9) (.cn (.ld none (.v 1) 10) .nl)))))))] [], .asg [] [(4, (.v 48))]])
 (.seq
 (.seq
 (.st [.asg [(.bin .gtr (.len (.v 4)) (N 65536))] []])
 (.cond (.bin .gtr (.len (.v 4)) (N 65536))
 (.seq
 (.st [.asg [] [(3, (N 3)), (2, (.lst .nl))]])
 (.ret (.tup (.cn (.v 2) (.cn (.v 3) .nl))) []))
 .skip))
 (.seq
 (.st [.asg [] [(3, (N 0)), (2, (.v 4))]])
 (.ret (.tup (.cn (.v 2) (.cn (.v 3) .nl))) []))))))⟩
def v_wire_Same : VFun := ⟨⟨[.F, .F], .F, true⟩, [],
 (.seq
 (.st [.asg [(.chk (some 11) (.v 0)), (.chk (some 11) (.v 1))] [(3, (.lp (.cn (.fld none (.v 1) 0) (.cn (.fld none (.v 1) 1) (.cn (.fld none (.v 1) 2) (.cn (.fld none (.v 1) 3) (.cn (.fld none (.v 1) 4) (.cn (.fld none (.v 1) 5) (.cn (.fld none (.v 1) 6) (.cn (.fld none (.v 1) 7) (.cn (.fld none (.v 1) 8) (.cn (.fld none (.v 1) 9) (.cn (.fld none (.v 1) 10) .nl))))))))))))), (2, (.lp (.cn (.fld none (.v 0) 0) (.cn (.fld none (.v 0) 1) (.cn (.fld none (.v 0) 2) (.cn (.fld none (.v 0) 3) (.cn (.fld none (.v 0) 4) (.cn (.fld none (.v 0) 5) (.cn (.fld none (.v 0) 6) (.cn (.fld none (.v 0) 7) (.cn (.fld none (.v 0) 8) (.cn (.fld none (.v 0) 9) (.cn (.fld none (.v 0) 10) .nl)))))))))))))], .asg [] [(5, (.fn 66 .nl))], .call [] none 10 68 [(.agg (.cn (.ld none (.v 2) 0) (.cn (.ld none (.v 2) 1) (.cn (.ld none (.v 2) 2) (.cn (.ld none (.v 2) 3) .nl))))), (.agg (.cn (.ld none (.v 3) 0) (.cn (.ld none (.v 3) 1) (.cn (.ld none (.v 3) 2) (.cn (.ld none (.v 3) 3) .nl)))))] [], .call [(.gd (.v 10) true .nl), (.gd (.v 10) true .nl)] (some ((.v 10), true)) 17 69 [(.ld none (.v 2) 4), (.ld none (.v 3) 4), (.v 5)] [], .asg [(.gd (.ite (.v 10) (.v 17) (.boo false)) true .nl), (.gd (.ite (.v 10) (.v 17) (.boo false)) true (.eqs false [false, false, false, false] (.agg (.cn (.ld none (.v 2) 5) (.cn (.ld none (.v 2) 6) (.cn (.ld none (.v 2) 7) (.cn (.ld none (.v 2) 8) .nl))))) (.agg (.cn (.ld none (.v 3) 5) (.cn (.ld none (.v 3) 6) (.cn (.ld none (.v 3) 7) (.cn (.ld none (.v 3) 8) .nl))))))), (.gd (.ite (.ite (.v 10) (.v 17) (.boo false)) (.eqs false [false, false, false, false] (.agg (.cn (.ld none (.v 2) 5) (.cn (.ld none (.v 2) 6) (.cn (.ld none (.v 2) 7) (.cn (.ld none (.v 2) 8) .nl))))) (.agg (.cn (.ld none (.v 3) 5) (.cn (.ld none (.v 3) 6) (.cn (.ld none (.v 3) 7) (.cn (.ld none (.v 3) 8) .nl)))))) (.boo false)) true (.eqs false [false, false] (.agg (.cn (.ld none (.v 2) 9) (.cn (.ld none (.v 2) 10) .nl))) (.agg (.cn (.ld none (.v 3) 9) (.cn (.ld none (.v 3) 10) .nl)))))] [(4, (.ite (.ite (.ite (.v 10) (.v 17) (.boo false)) (.eqs false [false, false, false, false] (.agg (.cn (.ld none (.v 2) 5) (.cn (.ld none (.v 2) 6) (.cn (.ld none (.v 2) 7) (.cn (.ld none (.v 2) 8) .nl))))) (.agg (.cn (.ld none (.v 3) 5) (.cn (.ld none (.v 3) 6) (.cn (.ld none (.v 3) 7) (.cn (.ld none (.v 3) 8) .nl)))))) (.boo false)) (.eqs false [false, false] (.agg (.cn (.ld none (.v 2) 9) (.cn (.ld none (.v 2) 10) .nl))) (.agg (.cn (.ld none (.v 3) 9) (.cn (.ld none (.v 3) 10) .nl)))) (.boo false)))]])
 (.ret (.v 4) []))⟩
def v_alike_Round : VFun := ⟨⟨[.F, .F], .F, true⟩, [],
 (.seq
 (.st [.asg [] [(4, (.bin .rem (.bin .add (.bin .rem (.v 0) (.v 1)) (.v 1)) (.v 1)))]])
 (.ret (.v 4) []))⟩
def v_wire_put_L1 : VC :=
 (.seq
 (.st [.asg [(.bin .lss (.v 9) (.v 8))] []])
 (.seq
 (.cond (.bin .lss (.v 9) (.v 8))
 .skip
 (.exit 0))
 (.seq
 (.block 1
 (.st [.asg [] [(6, (.ld none (.ia 1 (.v 7) (.v 9)) 0))], .call [] none 15 11 [(.v 6)] [], .asg [] [(0, (.app 1 (.v 0) (.v 15)))]]))
 (.st [.asg [] [(9, (.bin .add (.v 9) (N 1)))]]))))
def v_wire_put : VFun := ⟨⟨[(.O 1 true), .F], (.O 1 true), false⟩, [],
 (.seq
 (.st [])
 (.seq
 (.seq
 (.st [.asg [] [(9, (N 0)), (8, (.len (.v 1))), (7, (.v 1))]])
 (.block 0
 (.loop v_wire_put_L1)))
 (.seq
 (.st [.asg [] [(4, (.v 0))]])
 (.ret (.v 4) []))))⟩
def v_wire_putProgram_L1 : VC :=
 (.seq
 (.st [.asg [(.bin .lss (.v 20) (.v 19))] []])
 (.seq
 (.cond (.bin .lss (.v 20) (.v 19))
 .skip
 (.exit 0))
 (.seq
 (.block 1
 (.st [.asg [] [(6, (.lp (.cn (.fld none (.ld (some 2) (.ia 2 (.v 18) (.v 20)) 0) 0) (.cn (.fld none (.ld (some 2) (.ia 2 (.v 18) (.v 20)) 0) 1) .nl))))], .call [] none 28 48 [(.v 0), (.lst (.cn (.ld none (.v 6) 0) .nl))] [], .call [] none 31 50 [(.v 28), (.ld none (.v 6) 1)] [], .asg [] [(0, (.v 31))]]))
 (.st [.asg [] [(20, (.bin .add (.v 20) (N 1)))]]))))
def v_wire_putProgram_L2 : VC :=
 (.seq
 (.st [.asg [(.bin .lss (.v 42) (.v 41))] []])
 (.seq
 (.cond (.bin .lss (.v 42) (.v 41))
 .skip
 (.exit 2))
 (.seq
 (.block 3
 (.st [.asg [] [(8, (.lp (.cn (.fld none (.ld (some 4) (.ia 4 (.v 40) (.v 42)) 0) 0) (.cn (.fld none (.ld (some 4) (.ia 4 (.v 40) (.v 42)) 0) 1) (.cn (.fld none (.ld (some 4) (.ia 4 (.v 40) (.v 42)) 0) 2) (.cn (.fld none (.ld (some 4) (.ia 4 (.v 40) (.v 42)) 0) 3) .nl))))))], .call [] none 49 85 [(.v 0), (.ld none (.v 8) 0)] [], .call [] none 56 86 [(.ld none (.v 8) 3)] [], .call [(.chk none (.v 56))] none 58 48 [(.v 49), (.lst (.cn (.ld none (.v 8) 1) (.cn (.ld none (.v 8) 2) (.cn (.v 56) .nl))))] [], .asg [] [(0, (.v 58))]]))
 (.st [.asg [] [(42, (.bin .add (.v 42) (N 1)))]]))))
def v_wire_putProgram_L3 : VC :=
 (.seq
 (.st [.asg [(.bin .lss (.v 69) (.v 68))] []])
 (.seq
 (.cond (.bin .lss (.v 69) (.v 68))
 .skip
 (.exit 4))
 (.seq
 (.block 5
 (.st [.asg [] [(10, (.lp (.cn (.fld none (.ld (some 3) (.ia 3 (.v 67) (.v 69)) 0) 0) (.cn (.fld none (.ld (some 3) (.ia 3 (.v 67) (.v 69)) 0) 1) (.cn (.fld none (.ld (some 3) (.ia 3 (.v 67) (.v 69)) 0) 2) .nl)))))], .call [] none 79 48 [(.v 0), (.lst (.cn (.ld none (.v 10) 0) (.cn (.ld none (.v 10) 1) .nl)))] [], .call [] none 82 85 [(.v 79), (.ld none (.v 10) 2)] [], .asg [] [(0, (.v 82))]]))
 (.st [.asg [] [(69, (.bin .add (.v 69) (N 1)))]]))))
def v_wire_putProgram : VFun := ⟨⟨[(.O 1 true), .F], (.O 1 true), false⟩, [],
 (.seq
 (.st [.asg [(.chk (some 4) (.v 1))] [(3, (.lp (.cn (.fld none (.v 1) 0) (.cn (.fld none (.v 1) 1) (.cn (.fld none (.v 1) 2) (.cn (.fld none (.v 1) 3) .nl))))))], .call [(.len (.ld none (.v 3) 0))] none 16 48 [(.v 0), (.lst (.cn (.len (.ld none (.v 3) 0)) .nl))] [], .asg [] [(0, (.v 16))]])
 (.seq
 (.seq
 (.st [.asg [] [(20, (N 0)), (19, (.len (.ld none (.v 3) 0))), (18, (.ld none (.v 3) 0))]])
 (.block 0
 (.loop v_wire_putProgram_L1)))
 (.seq
 (.st [.call [(.len (.ld none (.v 3) 1))] none 38 48 [(.v 0), (.lst (.cn (.len (.ld none (.v 3) 1)) .nl))] [], .asg [] [(0, (.v 38))]])
 (.seq
 (.seq
 (.st [.asg [] [(42, (N 0)), (41, (.len (.ld none (.v 3) 1))), (40, (.ld none (.v 3) 1))]])
 (.block 2
 (.loop v_wire_putProgram_L2)))
 (.seq
 (.st [.call [(.len (.ld none (.v 3) 2))] none 65 48 [(.v 0), (.lst (.cn (.len (.ld none (.v 3) 2)) .nl))] [], .asg [] [(0, (.v 65))]])
 (.seq
 (.seq
 (.st [.asg [] [(69, (N 0)), (68, (.len (.ld none (.v 3) 2))), (67, (.ld none (.v 3) 2))]])
 (.block 4
 (.loop v_wire_putProgram_L3)))
 (.seq
 (.st [.call [] none 88 48 [(.v 0), (.lst (.cn (.ld none (.v 3) 3) .nl))] [], .asg [] [(4, (.v 88))]])
 (.ret (.v 4) []))))))))⟩
def v_wire_putCode_L1 : VC :=
 (.seq
 (.st [.asg [(.bin .lss (.v 14) (.v 13))] []])
 (.seq
 (.cond (.bin .lss (.v 14) (.v 13))
 .skip
 (.exit 0))
 (.seq
 (.block 1
 (.st [.asg [] [(6, (.lp (.cn (.fld none (.ld (some 2) (.ia 2 (.v 12) (.v 14)) 0) 0) (.cn (.fld none (.ld (some 2) (.ia 2 (.v 12) (.v 14)) 0) 1) .nl))))], .call [] none 24 48 [(.v 0), (.lst (.cn (.ld none (.v 6) 0) (.cn (.ld none (.v 6) 1) .nl)))] [], .asg [] [(0, (.v 24))]]))
 (.st [.asg [] [(14, (.bin .add (.v 14) (N 1)))]]))))
def v_wire_putCode : VFun := ⟨⟨[(.O 1 true), .F], (.O 1 true), false⟩, [],
 (.seq
 (.st [.call [(.len (.v 1))] none 11 48 [(.v 0), (.lst (.cn (.len (.v 1)) .nl))] [], .asg [] [(0, (.v 11))]])
 (.seq
 (.seq
 (.st [.asg [] [(14, (N 0)), (13, (.len (.v 1))), (12, (.v 1))]])
 (.block 0
 (.loop v_wire_putCode_L1)))
 (.seq
 (.st [.asg [] [(4, (.v 0))]])
 (.ret (.v 4) []))))⟩
def v_wire_Same_1 : VFun := ⟨⟨[.F, .F], .F, true⟩, [],
 (.seq
 (.st [.call [] none 7 67 [(.v 0), (.v 1)] [], .asg [] [(4, (.v 7))]])
 (.ret (.v 4) []))⟩
def v_slices_Equal_api_Watch_api_Instr_L1 : VC :=
 (.seq
 (.st [.asg [(.bin .lss (.v 13) (.v 12))] []])
 (.seq
 (.cond (.bin .lss (.v 13) (.v 12))
 .skip
 (.exit 0))
 (.seq
 (.block 1
 (.seq
 (.st [.asg [] [(5, (.v 13))], .asg [(.eqs true [false, false] (.ld (some 2) (.ia 2 (.v 0) (.v 5)) 0) (.ld (some 2) (.ia 2 (.v 1) (.v 5)) 0))] []])
 (.cond (.eqs true [false, false] (.ld (some 2) (.ia 2 (.v 0) (.v 5)) 0) (.ld (some 2) (.ia 2 (.v 1) (.v 5)) 0))
 (.seq
 (.st [.asg [] [(4, (.boo false))]])
 (.ret (.v 4) []))
 .skip)))
 (.st [.asg [] [(13, (.bin .add (.v 13) (N 1)))]]))))
def v_slices_Equal_api_Watch_api_Instr : VFun := ⟨⟨[.F, .F], .F, true⟩, [],
 (.seq
 (.st [])
 (.seq
 (.seq
 (.st [.asg [(.bin .neq (.len (.v 0)) (.len (.v 1)))] []])
 (.cond (.bin .neq (.len (.v 0)) (.len (.v 1)))
 (.seq
 (.st [.asg [] [(4, (.boo false))]])
 (.ret (.v 4) []))
 .skip))
 (.seq
 (.seq
 (.st [.asg [] [(13, (N 0)), (12, (.len (.v 0)))]])
 (.block 0
 (.loop v_slices_Equal_api_Watch_api_Instr_L1)))
 (.seq
 (.st [.asg [] [(4, (.boo true))]])
 (.ret (.v 4) [])))))⟩
def v_prog_Same : VFun := ⟨⟨[.F, .F], .F, true⟩, [],
 (.seq
 (.st [.asg [(.chk (some 4) (.v 0)), (.chk (some 4) (.v 1))] [(3, (.lp (.cn (.fld none (.v 1) 0) (.cn (.fld none (.v 1) 1) (.cn (.fld none (.v 1) 2) (.cn (.fld none (.v 1) 3) .nl)))))), (2, (.lp (.cn (.fld none (.v 0) 0) (.cn (.fld none (.v 0) 1) (.cn (.fld none (.v 0) 2) (.cn (.fld none (.v 0) 3) .nl))))))], .call [] none 9 91 [(.ld none (.v 2) 0), (.ld none (.v 3) 0), (.fn 92 .nl)] [], .call [(.gd (.v 9) true .nl), (.gd (.v 9) true .nl)] (some ((.v 9), true)) 15 93 [(.ld none (.v 2) 1), (.ld none (.v 3) 1), (.fn 94 .nl)] [], .call [(.gd (.ite (.v 9) (.v 15) (.boo false)) true .nl), (.gd (.ite (.v 9) (.v 15) (.boo false)) true .nl)] (some ((.ite (.v 9) (.v 15) (.boo false)), true)) 22 95 [(.ld none (.v 2) 2), (.ld none (.v 3) 2), (.fn 84 .nl)] [], .asg [(.gd (.ite (.ite (.v 9) (.v 15) (.boo false)) (.v 22) (.boo false)) true .nl), (.gd (.ite (.ite (.v 9) (.v 15) (.boo false)) (.v 22) (.boo false)) true (.bin .eql (.ld none (.v 2) 3) (.ld none (.v 3) 3)))] [(4, (.ite (.ite (.ite (.v 9) (.v 15) (.boo false)) (.v 22) (.boo false)) (.bin .eql (.ld none (.v 2) 3) (.ld none (.v 3) 3)) (.boo false)))]])
 (.ret (.v 4) []))⟩
def v_slices_EqualFunc_api_Watch_api_Watch_api_Watch_api_Watch_L1 : VC :=
 (.seq
 (.st [.asg [(.bin .lss (.v 17) (.v 16))] []])
 (.seq
 (.cond (.bin .lss (.v 17) (.v 16))
 .skip
 (.exit 0))
 (.seq
 (.block 1
 (.seq
 (.st [.asg [] [(8, (.ld none (.ia 1 (.v 15) (.v 17)) 0)), (7, (.v 17))], .asg [] [(9, (.ld none (.ia 1 (.v 1) (.v 7)) 0))], .callv [] none 29 (.v 2) [(.v 8), (.v 9)], .asg [(.un .not (.v 29))] []])
 (.cond (.un .not (.v 29))
 (.seq
 (.st [.asg [] [(6, (.boo false))]])
 (.ret (.v 6) []))
 .skip)))
 (.st [.asg [] [(17, (.bin .add (.v 17) (N 1)))]]))))
def v_slices_EqualFunc_api_Watch_api_Watch_api_Watch_api_Watch : VFun := ⟨⟨[.F, .F, .F], .F, true⟩, [],
 (.seq
 (.st [])
 (.seq
 (.seq
 (.st [.asg [(.bin .neq (.len (.v 0)) (.len (.v 1)))] []])
 (.cond (.bin .neq (.len (.v 0)) (.len (.v 1)))
 (.seq
 (.st [.asg [] [(6, (.boo false))]])
 (.ret (.v 6) []))
 .skip))
 (.seq
 (.seq
 (.st [.asg [] [(17, (N 0)), (16, (.len (.v 0))), (15, (.v 0))]])
 (.block 0
 (.loop v_slices_EqualFunc_api_Watch_api_Watch_api_Watch_api_Watch_L1)))
 (.seq
 (.st [.asg [] [(6, (.boo true))]])
 (.ret (.v 6) [])))))⟩
def v_prog_SameNote : VFun := ⟨⟨[.F, .F], .F, true⟩, [],
 (.seq
 (.st [.asg [(.chk (some 3) (.v 0)), (.chk (some 3) (.v 1))] [(3, (.lp (.cn (.fld none (.v 1) 0) (.cn (.fld none (.v 1) 1) (.cn (.fld none (.v 1) 2) .nl))))), (2, (.lp (.cn (.fld none (.v 0) 0) (.cn (.fld none (.v 0) 1) (.cn (.fld none (.v 0) 2) .nl)))))], .call [(.gd (.bin .eql (.ld none (.v 2) 0) (.ld none (.v 3) 0)) true (.bin .eql (.ld none (.v 2) 1) (.ld none (.v 3) 1))), (.ite (.bin .eql (.ld none (.v 2) 0) (.ld none (.v 3) 0)) (.bin .eql (.ld none (.v 2) 1) (.ld none (.v 3) 1)) (.boo false))] (some ((.ite (.bin .eql (.ld none (.v 2) 0) (.ld none (.v 3) 0)) (.bin .eql (.ld none (.v 2) 1) (.ld none (.v 3) 1)) (.boo false)), true)) 22 100 [(.ld none (.v 2) 2), (.ld none (.v 3) 2)] [], .asg [] [(4, (.ite (.ite (.bin .eql (.ld none (.v 2) 0) (.ld none (.v 3) 0)) (.bin .eql (.ld none (.v 2) 1) (.ld none (.v 3) 1)) (.boo false)) (.v 22) (.boo false)))]])
 (.ret (.v 4) []))⟩
def v_wire_putNumbers : VFun := ⟨⟨[(.O 1 true), .F], (.O 1 true), false⟩, [],
 (.seq
 (.st [.call [(.len (.v 1))] none 9 48 [(.v 0), (.lst (.cn (.len (.v 1)) .nl))] [], .call [] none 11 48 [(.v 9), (.v 1)] [], .asg [] [(4, (.v 11))]])
 (.ret (.v 4) []))⟩
def v_wire_flag : VFun := ⟨⟨[.F], .F, true⟩, [],
 (.seq
 (.st [])
 (.seq
 (.seq
 (.st [])
 (.cond (.v 0)
 (.seq
 (.st [.asg [] [(2, (N 1))]])
 (.ret (.v 2) []))
 .skip))
 (.seq
 (.st [.asg [] [(2, (N 0))]])
 (.ret (.v 2) []))))⟩
def v_slices_EqualFunc_api_Handler_api_Handler_api_Handler_api_Handler_L1 : VC :=
 (.seq
 (.st [.asg [(.bin .lss (.v 17) (.v 16))] []])
 (.seq
 (.cond (.bin .lss (.v 17) (.v 16))
 .skip
 (.exit 0))
 (.seq
 (.block 1
 (.seq
 (.st [.asg [] [(7, (.v 17)), (8, (.lp (.cn (.fld none (.ld (some 2) (.ia 2 (.v 15) (.v 17)) 0) 0) (.cn (.fld none (.ld (some 2) (.ia 2 (.v 15) (.v 17)) 0) 1) .nl))))], .asg [] [(9, (.lp (.cn (.fld none (.ld (some 2) (.ia 2 (.v 1) (.v 7)) 0) 0) (.cn (.fld none (.ld (some 2) (.ia 2 (.v 1) (.v 7)) 0) 1) .nl))))], .callv [] none 29 (.v 2) [(.agg (.cn (.ld none (.v 8) 0) (.cn (.ld none (.v 8) 1) .nl))), (.agg (.cn (.ld none (.v 9) 0) (.cn (.ld none (.v 9) 1) .nl)))], .asg [(.un .not (.v 29))] []])
 (.cond (.un .not (.v 29))
 (.seq
 (.st [.asg [] [(6, (.boo false))]])
 (.ret (.v 6) []))
 .skip)))
 (.st [.asg [] [(17, (.bin .add (.v 17) (N 1)))]]))))
def v_slices_EqualFunc_api_Handler_api_Handler_api_Handler_api_Handler : VFun := ⟨⟨[.F, .F, .F], .F, true⟩, [],
 (.seq
 (.st [])
 (.seq
 (.seq
 (.st [.asg [(.bin .neq (.len (.v 0)) (.len (.v 1)))] []])
 (.cond (.bin .neq (.len (.v 0)) (.len (.v 1)))
 (.seq
 (.st [.asg [] [(6, (.boo false))]])
 (.ret (.v 6) []))
 .skip))
 (.seq
 (.seq
 (.st [.asg [] [(17, (N 0)), (16, (.len (.v 0))), (15, (.v 0))]])
 (.block 0
 (.loop v_slices_EqualFunc_api_Handler_api_Handler_api_Handler_api_Handler_L1)))
 (.seq
 (.st [.asg [] [(6, (.boo true))]])
 (.ret (.v 6) [])))))⟩
def v_prog_sameHandler : VFun := ⟨⟨[.F, .F], .F, true⟩, [],
 (.seq
 (.st [.asg [(.chk (some 2) (.v 0)), (.chk (some 2) (.v 1))] [(3, (.lp (.cn (.fld none (.v 1) 0) (.cn (.fld none (.v 1) 1) .nl)))), (2, (.lp (.cn (.fld none (.v 0) 0) (.cn (.fld none (.v 0) 1) .nl))))], .call [(.bin .eql (.ld none (.v 2) 0) (.ld none (.v 3) 0))] (some ((.bin .eql (.ld none (.v 2) 0) (.ld none (.v 3) 0)), true)) 15 101 [(.ld none (.v 2) 1), (.ld none (.v 3) 1)] [], .asg [] [(4, (.ite (.bin .eql (.ld none (.v 2) 0) (.ld none (.v 3) 0)) (.v 15) (.boo false)))]])
 (.ret (.v 4) []))⟩
def v_slices_EqualFunc_api_Actor_api_Actor_api_Actor_api_Actor_L1 : VC :=
 (.seq
 (.st [.asg [(.bin .lss (.v 17) (.v 16))] []])
 (.seq
 (.cond (.bin .lss (.v 17) (.v 16))
 .skip
 (.exit 0))
 (.seq
 (.block 1
 (.seq
 (.st [.asg [] [(7, (.v 17)), (8, (.lp (.cn (.fld none (.ld (some 4) (.ia 4 (.v 15) (.v 17)) 0) 0) (.cn (.fld none (.ld (some 4) (.ia 4 (.v 15) (.v 17)) 0) 1) (.cn (.fld none (.ld (some 4) (.ia 4 (.v 15) (.v 17)) 0) 2) (.cn (.fld none (.ld (some 4) (.ia 4 (.v 15) (.v 17)) 0) 3) .nl))))))], .asg [] [(9, (.lp (.cn (.fld none (.ld (some 4) (.ia 4 (.v 1) (.v 7)) 0) 0) (.cn (.fld none (.ld (some 4) (.ia 4 (.v 1) (.v 7)) 0) 1) (.cn (.fld none (.ld (some 4) (.ia 4 (.v 1) (.v 7)) 0) 2) (.cn (.fld none (.ld (some 4) (.ia 4 (.v 1) (.v 7)) 0) 3) .nl))))))], .callv [] none 29 (.v 2) [(.agg (.cn (.ld none (.v 8) 0) (.cn (.ld none (.v 8) 1) (.cn (.ld none (.v 8) 2) (.cn (.ld none (.v 8) 3) .nl))))), (.agg (.cn (.ld none (.v 9) 0) (.cn (.ld none (.v 9) 1) (.cn (.ld none (.v 9) 2) (.cn (.ld none (.v 9) 3) .nl)))))], .asg [(.un .not (.v 29))] []])
 (.cond (.un .not (.v 29))
 (.seq
 (.st [.asg [] [(6, (.boo false))]])
 (.ret (.v 6) []))
 .skip)))
 (.st [.asg [] [(17, (.bin .add (.v 17) (N 1)))]]))))
def v_slices_EqualFunc_api_Actor_api_Actor_api_Actor_api_Actor : VFun := ⟨⟨[.F, .F, .F], .F, true⟩, [],
 (.seq
 (.st [])
 (.seq
 (.seq
 (.st [.asg [(.bin .neq (.len (.v 0)) (.len (.v 1)))] []])
 (.cond (.bin .neq (.len (.v 0)) (.len (.v 1)))
 (.seq
 (.st [.asg [] [(6, (.boo false))]])
 (.ret (.v 6) []))
 .skip))
 (.seq
 (.seq
 (.st [.asg [] [(17, (N 0)), (16, (.len (.v 0))), (15, (.v 0))]])
 (.block 0
 (.loop v_slices_EqualFunc_api_Actor_api_Actor_api_Actor_api_Actor_L1)))
 (.seq
 (.st [.asg [] [(6, (.boo true))]])
 (.ret (.v 6) [])))))⟩
def v_prog_sameActor : VFun := ⟨⟨[.F, .F], .F, true⟩, [],
 (.seq
 (.st [.asg [(.chk (some 4) (.v 0)), (.chk (some 4) (.v 1))] [(3, (.lp (.cn (.fld none (.v 1) 0) (.cn (.fld none (.v 1) 1) (.cn (.fld none (.v 1) 2) (.cn (.fld none (.v 1) 3) .nl)))))), (2, (.lp (.cn (.fld none (.v 0) 0) (.cn (.fld none (.v 0) 1) (.cn (.fld none (.v 0) 2) (.cn (.fld none (.v 0) 3) .nl))))))], .call [] none 9 100 [(.ld none (.v 2) 0), (.ld none (.v 3) 0)] [], .asg [(.gd (.v 9) true .nl), (.gd (.v 9) true (.bin .eql (.ld none (.v 2) 1) (.ld none (.v 3) 1))), (.gd (.ite (.v 9) (.bin .eql (.ld none (.v 2) 1) (.ld none (.v 3) 1)) (.boo false)) true (.bin .eql (.ld none (.v 2) 2) (.ld none (.v 3) 2))), (.gd (.ite (.ite (.v 9) (.bin .eql (.ld none (.v 2) 1) (.ld none (.v 3) 1)) (.boo false)) (.bin .eql (.ld none (.v 2) 2) (.ld none (.v 3) 2)) (.boo false)) true (.eqb false (.ld none (.v 2) 3) (.ld none (.v 3) 3)))] [(4, (.ite (.ite (.ite (.v 9) (.bin .eql (.ld none (.v 2) 1) (.ld none (.v 3) 1)) (.boo false)) (.bin .eql (.ld none (.v 2) 2) (.ld none (.v 3) 2)) (.boo false)) (.eqb false (.ld none (.v 2) 3) (.ld none (.v 3) 3)) (.boo false)))]])
 (.ret (.v 4) []))⟩
def v_slices_EqualFunc_api_Note_api_Note_api_Note_api_Note_L1 : VC :=
 (.seq
 (.st [.asg [(.bin .lss (.v 17) (.v 16))] []])
 (.seq
 (.cond (.bin .lss (.v 17) (.v 16))
 .skip
 (.exit 0))
 (.seq
 (.block 1
 (.seq
 (.st [.asg [] [(7, (.v 17)), (8, (.lp (.cn (.fld none (.ld (some 3) (.ia 3 (.v 15) (.v 17)) 0) 0) (.cn (.fld none (.ld (some 3) (.ia 3 (.v 15) (.v 17)) 0) 1) (.cn (.fld none (.ld (some 3) (.ia 3 (.v 15) (.v 17)) 0) 2) .nl)))))], .asg [] [(9, (.lp (.cn (.fld none (.ld (some 3) (.ia 3 (.v 1) (.v 7)) 0) 0) (.cn (.fld none (.ld (some 3) (.ia 3 (.v 1) (.v 7)) 0) 1) (.cn (.fld none (.ld (some 3) (.ia 3 (.v 1) (.v 7)) 0) 2) .nl)))))], .callv [] none 29 (.v 2) [(.agg (.cn (.ld none (.v 8) 0) (.cn (.ld none (.v 8) 1) (.cn (.ld none (.v 8) 2) .nl)))), (.agg (.cn (.ld none (.v 9) 0) (.cn (.ld none (.v 9) 1) (.cn (.ld none (.v 9) 2) .nl))))], .asg [(.un .not (.v 29))] []])
 (.cond (.un .not (.v 29))
 (.seq
 (.st [.asg [] [(6, (.boo false))]])
 (.ret (.v 6) []))
 .skip)))
 (.st [.asg [] [(17, (.bin .add (.v 17) (N 1)))]]))))
def v_slices_EqualFunc_api_Note_api_Note_api_Note_api_Note : VFun := ⟨⟨[.F, .F, .F], .F, true⟩, [],
 (.seq
 (.st [])
 (.seq
 (.seq
 (.st [.asg [(.bin .neq (.len (.v 0)) (.len (.v 1)))] []])
 (.cond (.bin .neq (.len (.v 0)) (.len (.v 1)))
 (.seq
 (.st [.asg [] [(6, (.boo false))]])
 (.ret (.v 6) []))
 .skip))
 (.seq
 (.seq
 (.st [.asg [] [(17, (N 0)), (16, (.len (.v 0))), (15, (.v 0))]])
 (.block 0
 (.loop v_slices_EqualFunc_api_Note_api_Note_api_Note_api_Note_L1)))
 (.seq
 (.st [.asg [] [(6, (.boo true))]])
 (.ret (.v 6) [])))))⟩
def v_slices_Equal_int_int_L1 : VC :=
 (.seq
 (.st [.asg [(.bin .lss (.v 13) (.v 12))] []])
 (.seq
 (.cond (.bin .lss (.v 13) (.v 12))
 .skip
 (.exit 0))
 (.seq
 (.block 1
 (.seq
 (.st [.asg [] [(5, (.v 13))], .asg [(.bin .neq (.ld none (.ia 1 (.v 0) (.v 5)) 0) (.ld none (.ia 1 (.v 1) (.v 5)) 0))] []])
 (.cond (.bin .neq (.ld none (.ia 1 (.v 0) (.v 5)) 0) (.ld none (.ia 1 (.v 1) (.v 5)) 0))
 (.seq
 (.st [.asg [] [(4, (.boo false))]])
 (.ret (.v 4) []))
 .skip)))
 (.st [.asg [] [(13, (.bin .add (.v 13) (N 1)))]]))))
def v_slices_Equal_int_int : VFun := ⟨⟨[.F, .F], .F, true⟩, [],
 (.seq
 (.st [])
 (.seq
 (.seq
 (.st [.asg [(.bin .neq (.len (.v 0)) (.len (.v 1)))] []])
 (.cond (.bin .neq (.len (.v 0)) (.len (.v 1)))
 (.seq
 (.st [.asg [] [(4, (.boo false))]])
 (.ret (.v 4) []))
 .skip))
 (.seq
 (.seq
 (.st [.asg [] [(13, (N 0)), (12, (.len (.v 0)))]])
 (.block 0
 (.loop v_slices_Equal_int_int_L1)))
 (.seq
 (.st [.asg [] [(4, (.boo true))]])
 (.ret (.v 4) [])))))⟩
def v_slices_Equal_api_Instr_api_Instr_L1 : VC :=
 (.seq
 (.st [.asg [(.bin .lss (.v 13) (.v 12))] []])
 (.seq
 (.cond (.bin .lss (.v 13) (.v 12))
 .skip
 (.exit 0))
 (.seq
 (.block 1
 (.seq
 (.st [.asg [] [(5, (.v 13))], .asg [(.eqs true [false, false] (.ld (some 2) (.ia 2 (.v 0) (.v 5)) 0) (.ld (some 2) (.ia 2 (.v 1) (.v 5)) 0))] []])
 (.cond (.eqs true [false, false] (.ld (some 2) (.ia 2 (.v 0) (.v 5)) 0) (.ld (some 2) (.ia 2 (.v 1) (.v 5)) 0))
 (.seq
 (.st [.asg [] [(4, (.boo false))]])
 (.ret (.v 4) []))
 .skip)))
 (.st [.asg [] [(13, (.bin .add (.v 13) (N 1)))]]))))
def v_slices_Equal_api_Instr_api_Instr : VFun := ⟨⟨[.F, .F], .F, true⟩, [],
 (.seq
 (.st [])
 (.seq
 (.seq
 (.st [.asg [(.bin .neq (.len (.v 0)) (.len (.v 1)))] []])
 (.cond (.bin .neq (.len (.v 0)) (.len (.v 1)))
 (.seq
 (.st [.asg [] [(4, (.boo false))]])
 (.ret (.v 4) []))
 .skip))
 (.seq
 (.seq
 (.st [.asg [] [(13, (N 0)), (12, (.len (.v 0)))]])
 (.block 0
 (.loop v_slices_Equal_api_Instr_api_Instr_L1)))
 (.seq
 (.st [.asg [] [(4, (.boo true))]])
 (.ret (.v 4) [])))))⟩
def VTL : List (Option VFun) := [none, none, none, none, none, none, none, none, none, none, some yesV, some v_wire_Number, none, none, none, none, some v_wire_Encode, none, none, none, none, none, some v_wire_Same, some v_alike_Round, none, none, none, none, none, none, none, none, none, none, none, none, none, none, none, none, none, none, none, none, none, none, none, none, some v_wire_put, some v_wire_putProgram, some v_wire_putCode, none, none, none, none, none, none, none, none, none, none, none, none, none, none, none, some v_wire_Same_1, some v_slices_Equal_api_Watch_api_Instr, some v_prog_Same, some v_slices_EqualFunc_api_Watch_api_Watch_api_Watch_api_Watch, none, none, none, none, none, none, none, none, none, none, none, none, none, none, some v_prog_SameNote, some v_wire_putNumbers, some v_wire_flag, none, none, none, none, some v_slices_EqualFunc_api_Handler_api_Handler_api_Handler_api_Handler, some v_prog_sameHandler, some v_slices_EqualFunc_api_Actor_api_Actor_api_Actor_api_Actor, some v_prog_sameActor, some v_slices_EqualFunc_api_Note_api_Note_api_Note_api_Note, none, none, none, none, some v_slices_Equal_int_int, some v_slices_Equal_api_Instr_api_Instr]
def tVT : Nat → Option VFun := tabV VTL
def tVS : Nat → Option Sig := fun g => (tVT g).map VFun.sig
end Gv

namespace Gv
open Go
theorem mk11 : EntOk (tabOf FTL) tVS 11 v_wire_Number := .inl ⟨f_wire_Number, rfl, by kernel_rfl⟩
theorem mk16 : EntOk (tabOf FTL) tVS 16 v_wire_Encode := .inl ⟨f_wire_Encode, rfl, by kernel_rfl⟩
theorem mk22 : EntOk (tabOf FTL) tVS 22 v_wire_Same := .inl ⟨f_wire_Same, rfl, by kernel_rfl⟩
theorem mk23 : EntOk (tabOf FTL) tVS 23 v_alike_Round := .inl ⟨f_alike_Round, rfl, by kernel_rfl⟩
theorem mk48 : EntOk (tabOf FTL) tVS 48 v_wire_put := .inl ⟨f_wire_put, rfl, by kernel_rfl⟩
theorem mk49 : EntOk (tabOf FTL) tVS 49 v_wire_putProgram := .inl ⟨f_wire_putProgram, rfl, by kernel_rfl⟩
theorem mk50 : EntOk (tabOf FTL) tVS 50 v_wire_putCode := .inl ⟨f_wire_putCode, rfl, by kernel_rfl⟩
theorem mk66 : EntOk (tabOf FTL) tVS 66 v_wire_Same_1 := .inl ⟨f_wire_Same_1, rfl, by kernel_rfl⟩
theorem mk67 : EntOk (tabOf FTL) tVS 67 v_slices_Equal_api_Watch_api_Instr := .inl ⟨f_slices_Equal_api_Watch_api_Instr, rfl, by kernel_rfl⟩
theorem mk68 : EntOk (tabOf FTL) tVS 68 v_prog_Same := .inl ⟨f_prog_Same, rfl, by kernel_rfl⟩
theorem mk69 : EntOk (tabOf FTL) tVS 69 v_slices_EqualFunc_api_Watch_api_Watch_api_Watch_api_Watch := .inl ⟨f_slices_EqualFunc_api_Watch_api_Watch_api_Watch_api_Watch, rfl, by kernel_rfl⟩
theorem mk84 : EntOk (tabOf FTL) tVS 84 v_prog_SameNote := .inl ⟨f_prog_SameNote, rfl, by kernel_rfl⟩
theorem mk85 : EntOk (tabOf FTL) tVS 85 v_wire_putNumbers := .inl ⟨f_wire_putNumbers, rfl, by kernel_rfl⟩
theorem mk86 : EntOk (tabOf FTL) tVS 86 v_wire_flag := .inl ⟨f_wire_flag, rfl, by kernel_rfl⟩
theorem mk91 : EntOk (tabOf FTL) tVS 91 v_slices_EqualFunc_api_Handler_api_Handler_api_Handler_api_Handler := .inl ⟨f_slices_EqualFunc_api_Handler_api_Handler_api_Handler_api_Handler, rfl, by kernel_rfl⟩
theorem mk92 : EntOk (tabOf FTL) tVS 92 v_prog_sameHandler := .inl ⟨f_prog_sameHandler, rfl, by kernel_rfl⟩
theorem mk93 : EntOk (tabOf FTL) tVS 93 v_slices_EqualFunc_api_Actor_api_Actor_api_Actor_api_Actor := .inl ⟨f_slices_EqualFunc_api_Actor_api_Actor_api_Actor_api_Actor, rfl, by kernel_rfl⟩
theorem mk94 : EntOk (tabOf FTL) tVS 94 v_prog_sameActor := .inl ⟨f_prog_sameActor, rfl, by kernel_rfl⟩
theorem mk95 : EntOk (tabOf FTL) tVS 95 v_slices_EqualFunc_api_Note_api_Note_api_Note_api_Note := .inl ⟨f_slices_EqualFunc_api_Note_api_Note_api_Note_api_Note, rfl, by kernel_rfl⟩
theorem mk100 : EntOk (tabOf FTL) tVS 100 v_slices_Equal_int_int := .inl ⟨f_slices_Equal_int_int, rfl, by kernel_rfl⟩
theorem mk101 : EntOk (tabOf FTL) tVS 101 v_slices_Equal_api_Instr_api_Instr := .inl ⟨f_slices_Equal_api_Instr_api_Instr, rfl, by kernel_rfl⟩
end Gv

namespace Gv
open Go
theorem tVT_ok : VTOk' (tabOf FTL) tVT := by
  have key : ∀ n, ∀ f F, tabV VTL f = some F → f < n → F.binds = [] ∧ EntOk (tabOf FTL) tVS f F := by
    intro n f F h hn
    match f, h with
    | 0, h => cases h
    | 1, h => cases h
    | 2, h => cases h
    | 3, h => cases h
    | 4, h => cases h
    | 5, h => cases h
    | 6, h => cases h
    | 7, h => cases h
    | 8, h => cases h
    | 9, h => cases h
    | 10, h => cases h; exact ⟨rfl, yes_ent awakeV⟩
    | 11, h => cases h; exact ⟨rfl, mk11⟩
    | 12, h => cases h
    | 13, h => cases h
    | 14, h => cases h
    | 15, h => cases h
    | 16, h => cases h; exact ⟨rfl, mk16⟩
    | 17, h => cases h
    | 18, h => cases h
    | 19, h => cases h
    | 20, h => cases h
    | 21, h => cases h
    | 22, h => cases h; exact ⟨rfl, mk22⟩
    | 23, h => cases h; exact ⟨rfl, mk23⟩
    | 24, h => cases h
    | 25, h => cases h
    | 26, h => cases h
    | 27, h => cases h
    | 28, h => cases h
    | 29, h => cases h
    | 30, h => cases h
    | 31, h => cases h
    | 32, h => cases h
    | 33, h => cases h
    | 34, h => cases h
    | 35, h => cases h
    | 36, h => cases h
    | 37, h => cases h
    | 38, h => cases h
    | 39, h => cases h
    | 40, h => cases h
    | 41, h => cases h
    | 42, h => cases h
    | 43, h => cases h
    | 44, h => cases h
    | 45, h => cases h
    | 46, h => cases h
    | 47, h => cases h
    | 48, h => cases h; exact ⟨rfl, mk48⟩
    | 49, h => cases h; exact ⟨rfl, mk49⟩
    | 50, h => cases h; exact ⟨rfl, mk50⟩
    | 51, h => cases h
    | 52, h => cases h
    | 53, h => cases h
    | 54, h => cases h
    | 55, h => cases h
    | 56, h => cases h
    | 57, h => cases h
    | 58, h => cases h
    | 59, h => cases h
    | 60, h => cases h
    | 61, h => cases h
    | 62, h => cases h
    | 63, h => cases h
    | 64, h => cases h
    | 65, h => cases h
    | 66, h => cases h; exact ⟨rfl, mk66⟩
    | 67, h => cases h; exact ⟨rfl, mk67⟩
    | 68, h => cases h; exact ⟨rfl, mk68⟩
    | 69, h => cases h; exact ⟨rfl, mk69⟩
    | 70, h => cases h
    | 71, h => cases h
    | 72, h => cases h
    | 73, h => cases h
    | 74, h => cases h
    | 75, h => cases h
    | 76, h => cases h
    | 77, h => cases h
    | 78, h => cases h
    | 79, h => cases h
    | 80, h => cases h
    | 81, h => cases h
    | 82, h => cases h
    | 83, h => cases h
    | 84, h => cases h; exact ⟨rfl, mk84⟩
    | 85, h => cases h; exact ⟨rfl, mk85⟩
    | 86, h => cases h; exact ⟨rfl, mk86⟩
    | 87, h => cases h
    | 88, h => cases h
    | 89, h => cases h
    | 90, h => cases h
    | 91, h => cases h; exact ⟨rfl, mk91⟩
    | 92, h => cases h; exact ⟨rfl, mk92⟩
    | 93, h => cases h; exact ⟨rfl, mk93⟩
    | 94, h => cases h; exact ⟨rfl, mk94⟩
    | 95, h => cases h; exact ⟨rfl, mk95⟩
    | 96, h => cases h
    | 97, h => cases h
    | 98, h => cases h
    | 99, h => cases h
    | 100, h => cases h; exact ⟨rfl, mk100⟩
    | 101, h => cases h; exact ⟨rfl, mk101⟩
    | f + 102, h => cases h
  exact fun f F h => key (f + 1) f F h (by omega)
end Gv
