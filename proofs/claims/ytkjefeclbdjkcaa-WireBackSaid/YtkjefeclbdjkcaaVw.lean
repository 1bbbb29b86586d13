/- What this file proves: one part of the proof that the law answers true for every input, by an interpreter that is proved sound against the given model. -/
import Derived.Test.YtkjefeclbdjkcaaVc
import Derived.Test.YtkjefeclbdjkcaaIrv
import Derived.KernelRfl
import Derived.Test.YtkjefeclbdjkcaaAw
namespace Gv
open Go
abbrev N (n : Int) : X := .int .i64 n
abbrev lA (a b : Nat) : X := .ld none (.v a) b
abbrev fA (a b : Nat) : X := .fld none (.v a) b
def v_law22_WireBack : VFun := ⟨⟨[.F, .F, .F, .F], .F, true⟩, [],
(.seq
(.st [.asg [(.chk (some 11) (.v 0))] [(4, (.lp (.cn (fA 0 0) (.cn (fA 0 1) (.cn (fA 0 2) (.cn (fA 0 3) (.cn (fA 0 4) (.cn (fA 0 5) (.cn (fA 0 6) (.cn (fA 0 7) (.cn (fA 0 8) (.cn (fA 0 9) (.cn (fA 0 10) .nl)))))))))))))]])
(.seq
(.seq
(.st [.call [] none 24 15 [(.agg (.cn (lA 4 0) (.cn (lA 4 1) (.cn (lA 4 2) (.cn (lA 4 3) (.cn (lA 4 4) (.cn (lA 4 5) (.cn (lA 4 6) (.cn (lA 4 7) (.cn (lA 4 8) (.cn (lA 4 9) (.cn (lA 4 10) .nl))))))))))))] [], .asg [(.un .not (.v 24))] []])
(.cond (.un .not (.v 24))
(.seq
(.st [.call [] none 26 10 [] [], .asg [] [(8, (.v 26))]])
(.ret (.v 8) []))
.skip))
(.seq
(.st [.call [] none 29 16 [(.agg (.cn (lA 4 0) (.cn (lA 4 1) (.cn (lA 4 2) (.cn (lA 4 3) (.cn (lA 4 4) (.cn (lA 4 5) (.cn (lA 4 6) (.cn (lA 4 7) (.cn (lA 4 8) (.cn (lA 4 9) (.cn (lA 4 10) .nl))))))))))))] [], .asg [] [(10, (.ext (.v 29) 1)), (9, (.ext (.v 29) 0))]])
(.seq
(.seq
(.st [.asg [(.bin .neq (.v 10) (N 0))] []])
(.cond (.bin .neq (.v 10) (N 0))
(.seq
(.st [.call [] none 34 10 [] [], .asg [] [(8, (.v 34))]])
(.ret (.v 8) []))
.skip))
(.seq
(.st [.call [] none 37 19 [(.v 9)] [], .asg [(.chk (some 11) (.ext (.v 37) 0))] [(12, (.ext (.v 37) 1)), (11, (.lp (.cn (.fld none (.ext (.v 37) 0) 0) (.cn (.fld none (.ext (.v 37) 0) 1) (.cn (.fld none (.ext (.v 37) 0) 2) (.cn (.fld none (.ext (.v 37) 0) 3) (.cn (.fld none (.ext (.v 37) 0) 4) (.cn (.fld none (.ext (.v 37) 0) 5) (.cn (.fld none (.ext (.v 37) 0) 6) (.cn (.fld none (.ext (.v 37) 0) 7) (.cn (.fld none (.ext (.v 37) 0) 8) (.cn (.fld none (.ext (.v 37) 0) 9) (.cn (.fld none (.ext (.v 37) 0) 10) .nl)))))))))))))]])
(.seq
(.seq
(.st [.call [(.bin .neq (.v 12) (N 0))] (some ((.bin .neq (.v 12) (N 0)), false)) 44 18 [(.agg (.cn (lA 11 0) (.cn (lA 11 1) (.cn (lA 11 2) (.cn (lA 11 3) (.cn (lA 11 4) (.cn (lA 11 5) (.cn (lA 11 6) (.cn (lA 11 7) (.cn (lA 11 8) (.cn (lA 11 9) (.cn (lA 11 10) .nl))))))))))))] [], .call [] (some ((.bin .neq (.v 12) (N 0)), false)) 46 18 [(.agg (.cn (lA 4 0) (.cn (lA 4 1) (.cn (lA 4 2) (.cn (lA 4 3) (.cn (lA 4 4) (.cn (lA 4 5) (.cn (lA 4 6) (.cn (lA 4 7) (.cn (lA 4 8) (.cn (lA 4 9) (.cn (lA 4 10) .nl))))))))))))] [], .call [] (some ((.bin .neq (.v 12) (N 0)), false)) 47 21 [(.v 44), (.v 46)] [], .call [(.gd (.bin .neq (.v 12) (N 0)) false (.un .not (.v 47))), (.ite (.bin .neq (.v 12) (N 0)) (.boo true) (.un .not (.v 47)))] (some ((.ite (.bin .neq (.v 12) (N 0)) (.boo true) (.un .not (.v 47))), false)) 53 22 [(.agg (.cn (lA 11 0) (.cn (lA 11 1) (.cn (lA 11 2) (.cn (lA 11 3) (.cn (lA 11 4) (.cn (lA 11 5) (.cn (lA 11 6) (.cn (lA 11 7) (.cn (lA 11 8) (.cn (lA 11 9) (.cn (lA 11 10) .nl)))))))))))), (.agg (.cn (lA 4 0) (.cn (lA 4 1) (.cn (lA 4 2) (.cn (lA 4 3) (.cn (lA 4 4) (.cn (lA 4 5) (.cn (lA 4 6) (.cn (lA 4 7) (.cn (lA 4 8) (.cn (lA 4 9) (.cn (lA 4 10) .nl))))))))))))] [], .asg [(.gd (.ite (.bin .neq (.v 12) (N 0)) (.boo true) (.un .not (.v 47))) false (.un .not (.v 53))), (.gd (.ite (.ite (.bin .neq (.v 12) (N 0)) (.boo true) (.un .not (.v 47))) (.boo true) (.un .not (.v 53))) false (.len (.v 9))), (.gd (.ite (.ite (.bin .neq (.v 12) (N 0)) (.boo true) (.un .not (.v 47))) (.boo true) (.un .not (.v 53))) false (.bin .eql (.len (.v 9)) (N 0))), (.ite (.ite (.ite (.bin .neq (.v 12) (N 0)) (.boo true) (.un .not (.v 47))) (.boo true) (.un .not (.v 53))) (.boo true) (.bin .eql (.len (.v 9)) (N 0)))] []])
(.cond (.ite (.ite (.ite (.bin .neq (.v 12) (N 0)) (.boo true) (.un .not (.v 47))) (.boo true) (.un .not (.v 53))) (.boo true) (.bin .eql (.len (.v 9)) (N 0)))
(.seq
(.st [.asg [] [(8, (.boo false))]])
(.ret (.v 8) []))
.skip))
(.seq
(.st [.call [(.len (.v 9))] none 66 23 [(.v 1), (.len (.v 9))] [], .call [(.slice 1 (.v 9) .nl (.v 66) .nl)] none 68 19 [(.slice 1 (.v 9) .nl (.v 66) .nl)] [], .asg [(.chk (some 11) (.ext (.v 68) 0))] [(14, (.ext (.v 68) 1))], .call [(.app 1 (.app 1 (.lst .nl) (.v 9)) (.lst (.cn (.int .u8 0) .nl)))] none 77 19 [(.app 1 (.app 1 (.lst .nl) (.v 9)) (.lst (.cn (.int .u8 0) .nl)))] [], .asg [(.chk (some 11) (.ext (.v 77) 0))] [(16, (.ext (.v 77) 1))], .asg [] [(17, (.app 1 (.lst .nl) (.v 9)))], .call [(.len (.v 17))] none 86 23 [(.v 2), (.len (.v 17))] [], .asg [] [(18, (.v 86))], .call [(.bin .add (.ld none (.ia 1 (.v 17) (.v 18)) 0) (.int .u8 1))] none 95 23 [(.v 3), (N 255)] [], .asg [] [(17, (.upd none (.v 17) (.v 18) 0 (.bin .add (.bin .add (.ld none (.ia 1 (.v 17) (.v 18)) 0) (.int .u8 1)) (.toInt .u8 (.v 95)))))], .call [] none 101 19 [(.v 17)] [], .asg [(.chk (some 11) (.ext (.v 101) 0))] [(20, (.ext (.v 101) 1)), (19, (.lp (.cn (.fld none (.ext (.v 101) 0) 0) (.cn (.fld none (.ext (.v 101) 0) 1) (.cn (.fld none (.ext (.v 101) 0) 2) (.cn (.fld none (.ext (.v 101) 0) 3) (.cn (.fld none (.ext (.v 101) 0) 4) (.cn (.fld none (.ext (.v 101) 0) 5) (.cn (.fld none (.ext (.v 101) 0) 6) (.cn (.fld none (.ext (.v 101) 0) 7) (.cn (.fld none (.ext (.v 101) 0) 8) (.cn (.fld none (.ext (.v 101) 0) 9) (.cn (.fld none (.ext (.v 101) 0) 10) .nl)))))))))))))]])
(.seq
(.seq
(.st [.asg [(.gd (.bin .neq (.v 14) (N 2)) false (.bin .neq (.v 16) (N 2))), (.gd (.gd (.ite (.bin .neq (.v 14) (N 2)) (.boo true) (.bin .neq (.v 16) (N 2))) false (.bin .neq (.v 20) (N 0))) true (.bin .neq (.v 20) (N 2))), (.gd (.ite (.bin .neq (.v 14) (N 2)) (.boo true) (.bin .neq (.v 16) (N 2))) false (.ite (.bin .neq (.v 20) (N 0)) (.bin .neq (.v 20) (N 2)) (.boo false))), (.ite (.ite (.bin .neq (.v 14) (N 2)) (.boo true) (.bin .neq (.v 16) (N 2))) (.boo true) (.ite (.bin .neq (.v 20) (N 0)) (.bin .neq (.v 20) (N 2)) (.boo false)))] []])
(.cond (.ite (.ite (.bin .neq (.v 14) (N 2)) (.boo true) (.bin .neq (.v 16) (N 2))) (.boo true) (.ite (.bin .neq (.v 20) (N 0)) (.bin .neq (.v 20) (N 2)) (.boo false)))
(.seq
(.st [.asg [] [(8, (.boo false))]])
(.ret (.v 8) []))
.skip))
(.seq
(.seq
(.st [.asg [(.bin .eql (.v 20) (N 0))] []])
(.cond (.bin .eql (.v 20) (N 0))
(.seq
(.st [.call [] none 122 16 [(.agg (.cn (lA 19 0) (.cn (lA 19 1) (.cn (lA 19 2) (.cn (lA 19 3) (.cn (lA 19 4) (.cn (lA 19 5) (.cn (lA 19 6) (.cn (lA 19 7) (.cn (lA 19 8) (.cn (lA 19 9) (.cn (lA 19 10) .nl))))))))))))] [], .asg [] [(22, (.ext (.v 122) 1)), (21, (.ext (.v 122) 0))], .call [(.gd (.bin .eql (.v 22) (N 0)) true (.b2s (.v 21))), (.gd (.bin .eql (.v 22) (N 0)) true (.b2s (.v 17))), (.gd (.bin .eql (.v 22) (N 0)) true (.bin .eql (.b2s (.v 21)) (.b2s (.v 17)))), (.ite (.bin .eql (.v 22) (N 0)) (.bin .eql (.b2s (.v 21)) (.b2s (.v 17))) (.boo false))] (some ((.ite (.bin .eql (.v 22) (N 0)) (.bin .eql (.b2s (.v 21)) (.b2s (.v 17))) (.boo false)), true)) 137 22 [(.agg (.cn (lA 19 0) (.cn (lA 19 1) (.cn (lA 19 2) (.cn (lA 19 3) (.cn (lA 19 4) (.cn (lA 19 5) (.cn (lA 19 6) (.cn (lA 19 7) (.cn (lA 19 8) (.cn (lA 19 9) (.cn (lA 19 10) .nl)))))))))))), (.agg (.cn (lA 4 0) (.cn (lA 4 1) (.cn (lA 4 2) (.cn (lA 4 3) (.cn (lA 4 4) (.cn (lA 4 5) (.cn (lA 4 6) (.cn (lA 4 7) (.cn (lA 4 8) (.cn (lA 4 9) (.cn (lA 4 10) .nl))))))))))))] [], .call [(.gd (.ite (.bin .eql (.v 22) (N 0)) (.bin .eql (.b2s (.v 21)) (.b2s (.v 17))) (.boo false)) true (.un .not (.v 137))), (.ite (.ite (.bin .eql (.v 22) (N 0)) (.bin .eql (.b2s (.v 21)) (.b2s (.v 17))) (.boo false)) (.un .not (.v 137)) (.boo false))] (some ((.ite (.ite (.bin .eql (.v 22) (N 0)) (.bin .eql (.b2s (.v 21)) (.b2s (.v 17))) (.boo false)) (.un .not (.v 137)) (.boo false)), true)) 141 10 [] [], .asg [] [(8, (.ite (.ite (.ite (.bin .eql (.v 22) (N 0)) (.bin .eql (.b2s (.v 21)) (.b2s (.v 17))) (.boo false)) (.un .not (.v 137)) (.boo false)) (.v 141) (.boo false)))]])
(.ret (.v 8) []))
.skip))
(.seq
(.st [.call [] none 143 10 [] [], .asg [] [(8, (.v 143))]])
(.ret (.v 8) [])))))))))))⟩
def v_wire_Number_L1 : VC :=
(.seq
(.seq
(.st [.asg [(.bin .geq (.v 3) (.int .u64 128))] []])
(.cond (.bin .geq (.v 3) (.int .u64 128))
.skip
(.exit 0)))
(.seq
(.block 1
(.st [.asg [] [(2, (.app 1 (.v 2) (.lst (.cn (.bin .or (.toInt .u8 (.v 3)) (.int .u8 128)) .nl))))]]))
(.st [.asg [] [(3, (.bin .shr (.v 3) (.int .u64 7)))]])))
def v_wire_Number : VFun := ⟨⟨[.F], .F, false⟩, [],
(.seq
(.st [.asg [] [(2, (.lst .nl))], .asg [] [(3, (.bin .xor (.bin .shl (.toInt .u64 (.v 0)) (.int .u64 1)) (.toInt .u64 (.bin .shr (.v 0) (.int .u64 63)))))]])
(.seq
(.block 0
(.loop v_wire_Number_L1))
(.seq
(.st [.asg [] [(2, (.app 1 (.v 2) (.lst (.cn (.toInt .u8 (.v 3)) .nl))))]])
(.ret (.v 2) []))))⟩
def v_wire_Take_L1 : VC :=
(.seq
(.st [.asg [(.bin .lss (.v 12) (.v 11))] []])
(.seq
(.cond (.bin .lss (.v 12) (.v 11))
.skip
(.exit 0))
(.seq
(.block 1
(.seq
(.st [.asg [] [(7, (.ld none (.ia 1 (.v 10) (.v 12)) 0)), (6, (.v 12))], .asg [] [(8, (.bin .andNot (.toInt .u64 (.v 7)) (.int .u64 128)))]])
(.seq
(.seq
(.st [.asg [] [(9, (.bin .mul (N 7) (.v 6)))]])
(.block 2
(.seq
(.seq
(.st [.asg [] [(27, (.bin .geq (.v 9) (N 64)))]])
(.cond (.v 27)
.skip
(.seq
(.st [.asg [(.gd (.bin .gtr (.bin .add (.v 9) (N 7)) (N 64)) true (.bin .sub (N 64) (.v 9))), (.gd (.bin .gtr (.bin .add (.v 9) (N 7)) (N 64)) true (.bin .shr (.v 8) (.bin .sub (N 64) (.v 9)))), (.gd (.bin .gtr (.bin .add (.v 9) (N 7)) (N 64)) true (.bin .neq (.bin .shr (.v 8) (.bin .sub (N 64) (.v 9))) (.int .u64 0)))] [(27, (.ite (.bin .gtr (.bin .add (.v 9) (N 7)) (N 64)) (.bin .neq (.bin .shr (.v 8) (.bin .sub (N 64) (.v 9))) (.int .u64 0)) (.boo false)))]])
(.cond (.v 27)
.skip
(.st [.asg [(.gd (.bin .eql (.v 7) (.int .u8 0)) true (.bin .gtr (.v 6) (N 0)))] [(27, (.ite (.bin .eql (.v 7) (.int .u8 0)) (.bin .gtr (.v 6) (N 0)) (.boo false)))]])))))
(.cond (.v 27)
(.seq
(.st [.asg [] [(4, (N 2)), (3, (N 0)), (2, (N 0))]])
(.ret (.tup (.cn (.v 2) (.cn (.v 3) (.cn (.v 4) .nl)))) []))
(.st [.asg [] [(5, (.bin .or (.v 5) (.bin .shl (.v 8) (.v 9))))]])))))
(.seq
(.st [.asg [(.bin .lss (.v 7) (.int .u8 128))] []])
(.cond (.bin .lss (.v 7) (.int .u8 128))
(.seq
(.st [.asg [] [(4, (N 0)), (3, (.bin .add (.v 6) (N 1))), (2, (.bin .xor (.toInt .i64 (.bin .shr (.v 5) (.int .u64 1))) (.un .neg (.toInt .i64 (.bin .and (.v 5) (.int .u64 1))))))]])
(.ret (.tup (.cn (.v 2) (.cn (.v 3) (.cn (.v 4) .nl)))) []))
.skip)))))
(.st [.asg [] [(12, (.bin .add (.v 12) (N 1)))]]))))
def v_wire_Take : VFun := ⟨⟨[.F], (.T [.F, .F, .F]), true⟩, [],
(.seq
(.st [.asg [] [(5, (.int .u64 0))]])
(.seq
(.seq
(.st [.asg [] [(12, (N 0)), (11, (.len (.v 0))), (10, (.v 0))]])
(.block 0
(.loop v_wire_Take_L1)))
(.seq
(.st [.asg [] [(4, (N 2)), (3, (N 0)), (2, (N 0))]])
(.ret (.tup (.cn (.v 2) (.cn (.v 3) (.cn (.v 4) .nl)))) []))))⟩
def v_law22_small : VFun := ⟨⟨[.F], .F, true⟩, [],
(.seq
(.st [.asg [(.chk (some 11) (.v 0))] [(1, (.lp (.cn (fA 0 0) (.cn (fA 0 1) (.cn (fA 0 2) (.cn (fA 0 3) (.cn (fA 0 4) (.cn (fA 0 5) (.cn (fA 0 6) (.cn (fA 0 7) (.cn (fA 0 8) (.cn (fA 0 9) (.cn (fA 0 10) .nl)))))))))))))], .call [] none 5 46 [(.agg (.cn (lA 1 0) (.cn (lA 1 1) (.cn (lA 1 2) (.cn (lA 1 3) .nl)))))] [], .call [(.gd (.v 5) true .nl), (.gd (.v 5) true .nl)] (some ((.v 5), true)) 9 47 [(lA 1 4)] [], .asg [] [(2, (.ite (.v 5) (.v 9) (.boo false)))]])
(.ret (.v 2) []))⟩
def v_wire_Encode_L1 : VC :=
(.seq
(.st [.asg [(.bin .lss (.v 20) (.v 19))] []])
(.seq
(.cond (.bin .lss (.v 20) (.v 19))
.skip
(.exit 0))
(.seq
(.block 1
(.st [.asg [] [(6, (.ld none (.ia 1 (.v 18) (.v 20)) 0))], .call [] none 26 50 [(.v 4), (.v 6)] [], .asg [] [(4, (.v 26))]]))
(.st [.asg [] [(20, (.bin .add (.v 20) (N 1)))]]))))
def v_wire_Encode : VFun := ⟨⟨[.F], (.T [.F, .F]), false⟩, [],
(.seq
(.st [.asg [(.chk (some 11) (.v 0))] [(1, (.lp (.cn (fA 0 0) (.cn (fA 0 1) (.cn (fA 0 2) (.cn (fA 0 3) (.cn (fA 0 4) (.cn (fA 0 5) (.cn (fA 0 6) (.cn (fA 0 7) (.cn (fA 0 8) (.cn (fA 0 9) (.cn (fA 0 10) .nl)))))))))))))], .call [(.pos (.lst (.cn (.int .u8 71) (.cn (.int .u8 65) (.cn (.int .u8 86) (.cn (.int .u8 49) .nl))))))] none 11 49 [(.lst (.cn (.int .u8 71) (.cn (.int .u8 65) (.cn (.int .u8 86) (.cn (.int .u8 49) .nl))))), (.agg (.cn (lA 1 0) (.cn (lA 1 1) (.cn (lA 1 2) (.cn (lA 1 3) .nl)))))] [], .call [(.len (lA 1 4))] none 16 48 [(.v 11), (.lst (.cn (.len (lA 1 4)) .nl))] [], .asg [] [(4, (.v 16))]])
(.seq
(.seq
(.st [.asg [] [(20, (N 0)), (19, (.len (lA 1 4))), (18, (lA 1 4))]])
(.block 0
(.loop v_wire_Encode_L1)))
(.seq
(.st [.call [] none 48 48 [(.v 4), (.lst (.cn (lA 1 5) (.cn (lA 1 6) (.cn (lA 1 7) (.cn (lA 1 8) (.cn (lA 1 9) (.cn (lA 1 10) .nl)))))))] [], .asg [] [(4, (.v 48))]])
(.seq
(.seq
(.st [.asg [(.bin .gtr (.len (.v 4)) (N 65536))] []])
(.cond (.bin .gtr (.len (.v 4)) (N 65536))
(.seq
(.st [.asg [] [(3, (N 3)), (2, (.lst .nl))]])
(.ret (.tup (.cn (.v 2) (.cn (.v 3) .nl))) []))
.skip))
(.seq
(.st [.asg [] [(3, (N 0)), (2, (.v 4))]])
(.ret (.tup (.cn (.v 2) (.cn (.v 3) .nl))) []))))))⟩
def v_law22_task : VFun := ⟨⟨[.F], .F, false⟩, [],
(.seq
(.st [.asg [(.chk (some 11) (.v 0))] [(2, (.lp (.cn (.lst .nl) (.cn (.lst .nl) (.cn (.lst .nl) (.cn (N 0) (.cn (.lst .nl) (.cn (N 0) (.cn (N 0) (.cn (N 0) (.cn (N 0) (.cn (N 0) (.cn (N 0) .nl))))))))))))), (1, (.lp (.cn (fA 0 0) (.cn (fA 0 1) (.cn (fA 0 2) (.cn (fA 0 3) (.cn (fA 0 4) (.cn (fA 0 5) (.cn (fA 0 6) (.cn (fA 0 7) (.cn (fA 0 8) (.cn (fA 0 9) (.cn (fA 0 10) .nl)))))))))))))], .asg [] [(2, (.lp (.cn (lA 1 0) (.cn (lA 1 1) (.cn (lA 1 2) (.cn (lA 1 3) (.cn (lA 1 4) (.cn (lA 1 5) (.cn (lA 1 6) (.cn (lA 1 7) (.cn (lA 1 8) (.cn (lA 1 9) (.cn (lA 1 10) .nl)))))))))))))]])
(.ret (.agg (.cn (lA 2 0) (.cn (lA 2 1) (.cn (lA 2 2) (.cn (lA 2 3) (.cn (lA 2 4) (.cn (lA 2 5) (.cn (lA 2 6) (.cn (lA 2 7) (.cn (lA 2 8) (.cn (lA 2 9) (.cn (lA 2 10) .nl)))))))))))) []))⟩
def v_wire_Decode_L1 : VC :=
(.seq
(.st [.asg [(.bin .lss (.v 17) (.v 16))] []])
(.seq
(.cond (.bin .lss (.v 17) (.v 16))
.skip
(.exit 0))
(.seq
(.block 1
(.st [.call [] none 22 57 [(.lp (.cn (lA 10704 0) (.cn (lA 10704 1) .nl)))] [10704], .asg [(.chk none (.v 22))] [(5, (.lp (.cn (lA 5 0) (.cn (lA 5 1) (.cn (lA 5 2) (.cn (lA 5 3) (.cn (.app 1 (lA 5 4) (.lst (.cn (.v 22) .nl))) (.cn (lA 5 5) (.cn (lA 5 6) (.cn (lA 5 7) (.cn (lA 5 8) (.cn (lA 5 9) (.cn (lA 5 10) .nl)))))))))))))]]))
(.st [.asg [] [(17, (.bin .add (.v 17) (N 1)))]]))))
def v_wire_Decode : VFun := ⟨⟨[.F], (.T [.F, .F]), false⟩, [],
(.seq
(.st [.asg [] [(2, (.lp (.cn (.lst .nl) (.cn (.lst .nl) (.cn (.lst .nl) (.cn (N 0) (.cn (.lst .nl) (.cn (N 0) (.cn (N 0) (.cn (N 0) (.cn (N 0) (.cn (N 0) (.cn (N 0) .nl)))))))))))))]])
(.seq
(.seq
(.st [.asg [(.bin .gtr (.len (.v 0)) (N 65536))] []])
(.cond (.bin .gtr (.len (.v 0)) (N 65536))
(.seq
(.st [.asg [] [(3, (N 3)), (2, (.lp (.cn (.lst .nl) (.cn (.lst .nl) (.cn (.lst .nl) (.cn (N 0) (.cn (.lst .nl) (.cn (N 0) (.cn (N 0) (.cn (N 0) (.cn (N 0) (.cn (N 0) (.cn (N 0) .nl)))))))))))))]])
(.ret (.tup (.cn (.agg (.cn (lA 2 0) (.cn (lA 2 1) (.cn (lA 2 2) (.cn (lA 2 3) (.cn (lA 2 4) (.cn (lA 2 5) (.cn (lA 2 6) (.cn (lA 2 7) (.cn (lA 2 8) (.cn (lA 2 9) (.cn (lA 2 10) .nl)))))))))))) (.cn (.v 3) .nl))) []))
.skip))
(.seq
(.st [.call [] none 11 54 [(.v 0), (.str [71, 65, 86, 49])] [], .asg [] [(10704, (.lp (.cn (lA 11 0) (.cn (lA 11 1) .nl))))], .call [] none 13 55 [(.lp (.cn (lA 10704 0) (.cn (lA 10704 1) .nl)))] [10704], .asg [(.chk (some 4) (.v 13))] [(5, (.lp (.cn (fA 13 0) (.cn (fA 13 1) (.cn (fA 13 2) (.cn (fA 13 3) (.cn (.lst .nl) (.cn (N 0) (.cn (N 0) (.cn (N 0) (.cn (N 0) (.cn (N 0) (.cn (N 0) .nl)))))))))))))]])
(.seq
(.seq
(.st [.call [] none 16 56 [(.lp (.cn (lA 10704 0) (.cn (lA 10704 1) .nl)))] [10704], .asg [] [(17, (N 0))]])
(.block 0
(.loop v_wire_Decode_L1)))
(.seq
(.st [.call [] none 28 58 [(.lp (.cn (lA 10704 0) (.cn (lA 10704 1) .nl)))] [10704], .call [] none 30 58 [(.lp (.cn (lA 10704 0) (.cn (lA 10704 1) .nl)))] [10704], .call [] none 32 58 [(.lp (.cn (lA 10704 0) (.cn (lA 10704 1) .nl)))] [10704], .call [] none 34 58 [(.lp (.cn (lA 10704 0) (.cn (lA 10704 1) .nl)))] [10704], .asg [(.chk none (.v 28)), (.chk none (.v 30)), (.chk none (.v 32)), (.chk none (.v 34))] [(5, (.lp (.cn (lA 5 0) (.cn (lA 5 1) (.cn (lA 5 2) (.cn (lA 5 3) (.cn (lA 5 4) (.cn (.v 28) (.cn (.v 30) (.cn (.v 32) (.cn (.v 34) (.cn (lA 5 9) (.cn (lA 5 10) .nl)))))))))))))], .call [] none 38 58 [(.lp (.cn (lA 10704 0) (.cn (lA 10704 1) .nl)))] [10704], .call [] none 40 58 [(.lp (.cn (lA 10704 0) (.cn (lA 10704 1) .nl)))] [10704], .asg [(.chk none (.v 38)), (.chk none (.v 40))] [(5, (.lp (.cn (lA 5 0) (.cn (lA 5 1) (.cn (lA 5 2) (.cn (lA 5 3) (.cn (lA 5 4) (.cn (lA 5 5) (.cn (lA 5 6) (.cn (lA 5 7) (.cn (lA 5 8) (.cn (.v 38) (.cn (.v 40) .nl)))))))))))))]])
(.seq
(.seq
(.st [.call [] none 44 59 [(.lp (.cn (lA 10704 0) (.cn (lA 10704 1) .nl)))] [10704], .asg [(.un .not (.v 44))] []])
(.cond (.un .not (.v 44))
(.seq
(.st [.asg [] [(3, (N 2)), (2, (.lp (.cn (.lst .nl) (.cn (.lst .nl) (.cn (.lst .nl) (.cn (N 0) (.cn (.lst .nl) (.cn (N 0) (.cn (N 0) (.cn (N 0) (.cn (N 0) (.cn (N 0) (.cn (N 0) .nl)))))))))))))]])
(.ret (.tup (.cn (.agg (.cn (lA 2 0) (.cn (lA 2 1) (.cn (lA 2 2) (.cn (lA 2 3) (.cn (lA 2 4) (.cn (lA 2 5) (.cn (lA 2 6) (.cn (lA 2 7) (.cn (lA 2 8) (.cn (lA 2 9) (.cn (lA 2 10) .nl)))))))))))) (.cn (.v 3) .nl))) []))
.skip))
(.seq
(.st [.asg [] [(3, (N 0)), (2, (.lp (.cn (lA 5 0) (.cn (lA 5 1) (.cn (lA 5 2) (.cn (lA 5 3) (.cn (lA 5 4) (.cn (lA 5 5) (.cn (lA 5 6) (.cn (lA 5 7) (.cn (lA 5 8) (.cn (lA 5 9) (.cn (lA 5 10) .nl)))))))))))))]])
(.ret (.tup (.cn (.agg (.cn (lA 2 0) (.cn (lA 2 1) (.cn (lA 2 2) (.cn (lA 2 3) (.cn (lA 2 4) (.cn (lA 2 5) (.cn (lA 2 6) (.cn (lA 2 7) (.cn (lA 2 8) (.cn (lA 2 9) (.cn (lA 2 10) .nl)))))))))))) (.cn (.v 3) .nl))) []))))))))⟩
def v_ref20_SameTask_L1 : VC :=
(.seq
(.seq
(.st [.asg [(.bin .lss (.v 5) (.len (lA 2 4)))] []])
(.cond (.bin .lss (.v 5) (.len (lA 2 4)))
.skip
(.exit 0)))
(.seq
(.block 1
(.seq
(.st [.call [(.ld none (.ia 1 (lA 2 4) (.v 5)) 0), (.ld none (.ia 1 (lA 3 4) (.v 5)) 0)] none 52 65 [(.ld none (.ia 1 (lA 2 4) (.v 5)) 0), (.ld none (.ia 1 (lA 3 4) (.v 5)) 0)] [], .asg [(.un .not (.v 52))] []])
(.cond (.un .not (.v 52))
(.seq
(.st [.asg [] [(4, (.boo false))]])
(.ret (.v 4) []))
.skip)))
(.st [.asg [] [(5, (.bin .add (.v 5) (N 1)))]])))
def v_ref20_SameTask : VFun := ⟨⟨[.F, .F], .F, true⟩, [],
(.seq
(.st [.asg [(.chk (some 11) (.v 0)), (.chk (some 11) (.v 1))] [(3, (.lp (.cn (fA 1 0) (.cn (fA 1 1) (.cn (fA 1 2) (.cn (fA 1 3) (.cn (fA 1 4) (.cn (fA 1 5) (.cn (fA 1 6) (.cn (fA 1 7) (.cn (fA 1 8) (.cn (fA 1 9) (.cn (fA 1 10) .nl))))))))))))), (2, (.lp (.cn (fA 0 0) (.cn (fA 0 1) (.cn (fA 0 2) (.cn (fA 0 3) (.cn (fA 0 4) (.cn (fA 0 5) (.cn (fA 0 6) (.cn (fA 0 7) (.cn (fA 0 8) (.cn (fA 0 9) (.cn (fA 0 10) .nl)))))))))))))]])
(.seq
(.seq
(.st [.call [] none 10 64 [(.agg (.cn (lA 2 0) (.cn (lA 2 1) (.cn (lA 2 2) (.cn (lA 2 3) .nl))))), (.agg (.cn (lA 3 0) (.cn (lA 3 1) (.cn (lA 3 2) (.cn (lA 3 3) .nl)))))] [], .asg [(.gd (.un .not (.v 10)) false (.eqs true [false, false, false, false] (.agg (.cn (lA 2 5) (.cn (lA 2 6) (.cn (lA 2 7) (.cn (lA 2 8) .nl))))) (.agg (.cn (lA 3 5) (.cn (lA 3 6) (.cn (lA 3 7) (.cn (lA 3 8) .nl))))))), (.gd (.ite (.un .not (.v 10)) (.boo true) (.eqs true [false, false, false, false] (.agg (.cn (lA 2 5) (.cn (lA 2 6) (.cn (lA 2 7) (.cn (lA 2 8) .nl))))) (.agg (.cn (lA 3 5) (.cn (lA 3 6) (.cn (lA 3 7) (.cn (lA 3 8) .nl))))))) false (.eqs true [false, false] (.agg (.cn (lA 2 9) (.cn (lA 2 10) .nl))) (.agg (.cn (lA 3 9) (.cn (lA 3 10) .nl))))), (.gd (.ite (.ite (.un .not (.v 10)) (.boo true) (.eqs true [false, false, false, false] (.agg (.cn (lA 2 5) (.cn (lA 2 6) (.cn (lA 2 7) (.cn (lA 2 8) .nl))))) (.agg (.cn (lA 3 5) (.cn (lA 3 6) (.cn (lA 3 7) (.cn (lA 3 8) .nl))))))) (.boo true) (.eqs true [false, false] (.agg (.cn (lA 2 9) (.cn (lA 2 10) .nl))) (.agg (.cn (lA 3 9) (.cn (lA 3 10) .nl))))) false (.len (lA 2 4))), (.gd (.ite (.ite (.un .not (.v 10)) (.boo true) (.eqs true [false, false, false, false] (.agg (.cn (lA 2 5) (.cn (lA 2 6) (.cn (lA 2 7) (.cn (lA 2 8) .nl))))) (.agg (.cn (lA 3 5) (.cn (lA 3 6) (.cn (lA 3 7) (.cn (lA 3 8) .nl))))))) (.boo true) (.eqs true [false, false] (.agg (.cn (lA 2 9) (.cn (lA 2 10) .nl))) (.agg (.cn (lA 3 9) (.cn (lA 3 10) .nl))))) false (.len (lA 3 4))), (.gd (.ite (.ite (.un .not (.v 10)) (.boo true) (.eqs true [false, false, false, false] (.agg (.cn (lA 2 5) (.cn (lA 2 6) (.cn (lA 2 7) (.cn (lA 2 8) .nl))))) (.agg (.cn (lA 3 5) (.cn (lA 3 6) (.cn (lA 3 7) (.cn (lA 3 8) .nl))))))) (.boo true) (.eqs true [false, false] (.agg (.cn (lA 2 9) (.cn (lA 2 10) .nl))) (.agg (.cn (lA 3 9) (.cn (lA 3 10) .nl))))) false (.bin .neq (.len (lA 2 4)) (.len (lA 3 4)))), (.ite (.ite (.ite (.un .not (.v 10)) (.boo true) (.eqs true [false, false, false, false] (.agg (.cn (lA 2 5) (.cn (lA 2 6) (.cn (lA 2 7) (.cn (lA 2 8) .nl))))) (.agg (.cn (lA 3 5) (.cn (lA 3 6) (.cn (lA 3 7) (.cn (lA 3 8) .nl))))))) (.boo true) (.eqs true [false, false] (.agg (.cn (lA 2 9) (.cn (lA 2 10) .nl))) (.agg (.cn (lA 3 9) (.cn (lA 3 10) .nl))))) (.boo true) (.bin .neq (.len (lA 2 4)) (.len (lA 3 4))))] []])
(.cond (.ite (.ite (.ite (.un .not (.v 10)) (.boo true) (.eqs true [false, false, false, false] (.agg (.cn (lA 2 5) (.cn (lA 2 6) (.cn (lA 2 7) (.cn (lA 2 8) .nl))))) (.agg (.cn (lA 3 5) (.cn (lA 3 6) (.cn (lA 3 7) (.cn (lA 3 8) .nl))))))) (.boo true) (.eqs true [false, false] (.agg (.cn (lA 2 9) (.cn (lA 2 10) .nl))) (.agg (.cn (lA 3 9) (.cn (lA 3 10) .nl))))) (.boo true) (.bin .neq (.len (lA 2 4)) (.len (lA 3 4))))
(.seq
(.st [.asg [] [(4, (.boo false))]])
(.ret (.v 4) []))
.skip))
(.seq
(.seq
(.st [.asg [] [(5, (N 0))]])
(.block 0
(.loop v_ref20_SameTask_L1)))
(.seq
(.st [.asg [] [(4, (.boo true))]])
(.ret (.v 4) [])))))⟩
def v_wire_Same : VFun := ⟨⟨[.F, .F], .F, true⟩, [],
(.seq
(.st [.asg [(.chk (some 11) (.v 0)), (.chk (some 11) (.v 1))] [(3, (.lp (.cn (fA 1 0) (.cn (fA 1 1) (.cn (fA 1 2) (.cn (fA 1 3) (.cn (fA 1 4) (.cn (fA 1 5) (.cn (fA 1 6) (.cn (fA 1 7) (.cn (fA 1 8) (.cn (fA 1 9) (.cn (fA 1 10) .nl))))))))))))), (2, (.lp (.cn (fA 0 0) (.cn (fA 0 1) (.cn (fA 0 2) (.cn (fA 0 3) (.cn (fA 0 4) (.cn (fA 0 5) (.cn (fA 0 6) (.cn (fA 0 7) (.cn (fA 0 8) (.cn (fA 0 9) (.cn (fA 0 10) .nl)))))))))))))], .asg [] [(5, (.fn 66 .nl))], .call [] none 10 68 [(.agg (.cn (lA 2 0) (.cn (lA 2 1) (.cn (lA 2 2) (.cn (lA 2 3) .nl))))), (.agg (.cn (lA 3 0) (.cn (lA 3 1) (.cn (lA 3 2) (.cn (lA 3 3) .nl)))))] [], .call [(.gd (.v 10) true .nl), (.gd (.v 10) true .nl)] (some ((.v 10), true)) 17 69 [(lA 2 4), (lA 3 4), (.v 5)] [], .asg [(.gd (.ite (.v 10) (.v 17) (.boo false)) true .nl), (.gd (.ite (.v 10) (.v 17) (.boo false)) true (.eqs false [false, false, false, false] (.agg (.cn (lA 2 5) (.cn (lA 2 6) (.cn (lA 2 7) (.cn (lA 2 8) .nl))))) (.agg (.cn (lA 3 5) (.cn (lA 3 6) (.cn (lA 3 7) (.cn (lA 3 8) .nl))))))), (.gd (.ite (.ite (.v 10) (.v 17) (.boo false)) (.eqs false [false, false, false, false] (.agg (.cn (lA 2 5) (.cn (lA 2 6) (.cn (lA 2 7) (.cn (lA 2 8) .nl))))) (.agg (.cn (lA 3 5) (.cn (lA 3 6) (.cn (lA 3 7) (.cn (lA 3 8) .nl)))))) (.boo false)) true (.eqs false [false, false] (.agg (.cn (lA 2 9) (.cn (lA 2 10) .nl))) (.agg (.cn (lA 3 9) (.cn (lA 3 10) .nl)))))] [(4, (.ite (.ite (.ite (.v 10) (.v 17) (.boo false)) (.eqs false [false, false, false, false] (.agg (.cn (lA 2 5) (.cn (lA 2 6) (.cn (lA 2 7) (.cn (lA 2 8) .nl))))) (.agg (.cn (lA 3 5) (.cn (lA 3 6) (.cn (lA 3 7) (.cn (lA 3 8) .nl)))))) (.boo false)) (.eqs false [false, false] (.agg (.cn (lA 2 9) (.cn (lA 2 10) .nl))) (.agg (.cn (lA 3 9) (.cn (lA 3 10) .nl)))) (.boo false)))]])
(.ret (.v 4) []))⟩
def v_alike_Round : VFun := ⟨⟨[.F, .F], .F, true⟩, [],
(.seq
(.st [.asg [] [(4, (.bin .rem (.bin .add (.bin .rem (.v 0) (.v 1)) (.v 1)) (.v 1)))]])
(.ret (.v 4) []))⟩
def v_alike_Small_L1 : VC :=
(.seq
(.seq
(.st [.asg [(.bin .lss (.v 3) (.len (lA 1 0)))] []])
(.cond (.bin .lss (.v 3) (.len (lA 1 0)))
.skip
(.exit 0)))
(.seq
(.block 1
(.seq
(.st [.asg [(.bin .gtr (.len (.ld none (.fa (.ia 2 (lA 1 0) (.v 3)) 1) 0)) (N 70))] []])
(.cond (.bin .gtr (.len (.ld none (.fa (.ia 2 (lA 1 0) (.v 3)) 1) 0)) (N 70))
(.seq
(.st [.asg [] [(2, (.boo false))]])
(.ret (.v 2) []))
.skip)))
(.st [.asg [] [(3, (.bin .add (.v 3) (N 1)))]])))
def v_alike_Small_L2 : VC :=
(.seq
(.seq
(.st [.asg [(.bin .lss (.v 4) (.len (lA 1 1)))] []])
(.cond (.bin .lss (.v 4) (.len (lA 1 1)))
.skip
(.exit 2)))
(.seq
(.block 3
(.seq
(.st [.asg [(.bin .gtr (.len (.ld none (.fa (.ia 4 (lA 1 1) (.v 4)) 0) 0)) (N 10))] []])
(.cond (.bin .gtr (.len (.ld none (.fa (.ia 4 (lA 1 1) (.v 4)) 0) 0)) (N 10))
(.seq
(.st [.asg [] [(2, (.boo false))]])
(.ret (.v 2) []))
.skip)))
(.st [.asg [] [(4, (.bin .add (.v 4) (N 1)))]])))
def v_alike_Small_L3 : VC :=
(.seq
(.seq
(.st [.asg [(.bin .lss (.v 5) (.len (lA 1 2)))] []])
(.cond (.bin .lss (.v 5) (.len (lA 1 2)))
.skip
(.exit 4)))
(.seq
(.block 5
(.seq
(.st [.asg [(.bin .gtr (.len (.ld none (.fa (.ia 3 (lA 1 2) (.v 5)) 2) 0)) (N 6))] []])
(.cond (.bin .gtr (.len (.ld none (.fa (.ia 3 (lA 1 2) (.v 5)) 2) 0)) (N 6))
(.seq
(.st [.asg [] [(2, (.boo false))]])
(.ret (.v 2) []))
.skip)))
(.st [.asg [] [(5, (.bin .add (.v 5) (N 1)))]])))
def v_alike_Small : VFun := ⟨⟨[.F], .F, true⟩, [],
(.seq
(.st [.asg [(.chk (some 4) (.v 0))] [(1, (.lp (.cn (fA 0 0) (.cn (fA 0 1) (.cn (fA 0 2) (.cn (fA 0 3) .nl))))))]])
(.seq
(.seq
(.st [.asg [(.gd (.bin .gtr (.len (lA 1 0)) (N 18)) false (.len (lA 1 1))), (.gd (.bin .gtr (.len (lA 1 0)) (N 18)) false (.bin .gtr (.len (lA 1 1)) (N 10))), (.gd (.ite (.bin .gtr (.len (lA 1 0)) (N 18)) (.boo true) (.bin .gtr (.len (lA 1 1)) (N 10))) false (.len (lA 1 2))), (.gd (.ite (.bin .gtr (.len (lA 1 0)) (N 18)) (.boo true) (.bin .gtr (.len (lA 1 1)) (N 10))) false (.bin .gtr (.len (lA 1 2)) (N 18))), (.ite (.ite (.bin .gtr (.len (lA 1 0)) (N 18)) (.boo true) (.bin .gtr (.len (lA 1 1)) (N 10))) (.boo true) (.bin .gtr (.len (lA 1 2)) (N 18)))] []])
(.cond (.ite (.ite (.bin .gtr (.len (lA 1 0)) (N 18)) (.boo true) (.bin .gtr (.len (lA 1 1)) (N 10))) (.boo true) (.bin .gtr (.len (lA 1 2)) (N 18)))
(.seq
(.st [.asg [] [(2, (.boo false))]])
(.ret (.v 2) []))
.skip))
(.seq
(.seq
(.st [.asg [] [(3, (N 0))]])
(.block 0
(.loop v_alike_Small_L1)))
(.seq
(.seq
(.st [.asg [] [(4, (N 0))]])
(.block 2
(.loop v_alike_Small_L2)))
(.seq
(.seq
(.st [.asg [] [(5, (N 0))]])
(.block 4
(.loop v_alike_Small_L3)))
(.seq
(.st [.asg [] [(2, (.boo true))]])
(.ret (.v 2) [])))))))⟩
def v_alike_Watches_L1 : VC :=
(.seq
(.seq
(.st [.asg [(.gd (.bin .lss (.v 3) (.len (.v 0))) true (.bin .lss (.v 3) (N 12))), (.ite (.bin .lss (.v 3) (.len (.v 0))) (.bin .lss (.v 3) (N 12)) (.boo false))] []])
(.cond (.ite (.bin .lss (.v 3) (.len (.v 0))) (.bin .lss (.v 3) (N 12)) (.boo false))
.skip
(.exit 0)))
(.seq
(.block 1
(.seq
(.st [.asg [(.bin .gtr (.len (.ld none (.ia 1 (.v 0) (.v 3)) 0)) (N 70))] []])
(.cond (.bin .gtr (.len (.ld none (.ia 1 (.v 0) (.v 3)) 0)) (N 70))
(.seq
(.st [.asg [] [(2, (.boo false))]])
(.ret (.v 2) []))
.skip)))
(.st [.asg [] [(3, (.bin .add (.v 3) (N 1)))]])))
def v_alike_Watches : VFun := ⟨⟨[.F], .F, true⟩, [],
(.seq
(.st [])
(.seq
(.seq
(.st [.asg [] [(3, (N 0))]])
(.block 0
(.loop v_alike_Watches_L1)))
(.seq
(.st [.asg [] [(2, (.bin .leq (.len (.v 0)) (N 10)))]])
(.ret (.v 2) []))))⟩
def v_wire_put_L1 : VC :=
(.seq
(.st [.asg [(.bin .lss (.v 9) (.v 8))] []])
(.seq
(.cond (.bin .lss (.v 9) (.v 8))
.skip
(.exit 0))
(.seq
(.block 1
(.st [.asg [] [(6, (.ld none (.ia 1 (.v 7) (.v 9)) 0))], .call [] none 15 11 [(.v 6)] [], .asg [] [(0, (.app 1 (.v 0) (.v 15)))]]))
(.st [.asg [] [(9, (.bin .add (.v 9) (N 1)))]]))))
def v_wire_put : VFun := ⟨⟨[(.O 1 true), .F], (.O 1 true), false⟩, [],
(.seq
(.st [])
(.seq
(.seq
(.st [.asg [] [(9, (N 0)), (8, (.len (.v 1))), (7, (.v 1))]])
(.block 0
(.loop v_wire_put_L1)))
(.seq
(.st [.asg [] [(4, (.v 0))]])
(.ret (.v 4) []))))⟩
def v_wire_putProgram_L1 : VC :=
(.seq
(.st [.asg [(.bin .lss (.v 20) (.v 19))] []])
(.seq
(.cond (.bin .lss (.v 20) (.v 19))
.skip
(.exit 0))
(.seq
(.block 1
(.st [.asg [] [(6, (.lp (.cn (.fld none (.ld (some 2) (.ia 2 (.v 18) (.v 20)) 0) 0) (.cn (.fld none (.ld (some 2) (.ia 2 (.v 18) (.v 20)) 0) 1) .nl))))], .call [] none 28 48 [(.v 0), (.lst (.cn (lA 6 0) .nl))] [], .call [] none 31 50 [(.v 28), (lA 6 1)] [], .asg [] [(0, (.v 31))]]))
(.st [.asg [] [(20, (.bin .add (.v 20) (N 1)))]]))))
def v_wire_putProgram_L2 : VC :=
(.seq
(.st [.asg [(.bin .lss (.v 42) (.v 41))] []])
(.seq
(.cond (.bin .lss (.v 42) (.v 41))
.skip
(.exit 2))
(.seq
(.block 3
(.st [.asg [] [(8, (.lp (.cn (.fld none (.ld (some 4) (.ia 4 (.v 40) (.v 42)) 0) 0) (.cn (.fld none (.ld (some 4) (.ia 4 (.v 40) (.v 42)) 0) 1) (.cn (.fld none (.ld (some 4) (.ia 4 (.v 40) (.v 42)) 0) 2) (.cn (.fld none (.ld (some 4) (.ia 4 (.v 40) (.v 42)) 0) 3) .nl))))))], .call [] none 49 85 [(.v 0), (lA 8 0)] [], .call [] none 56 86 [(lA 8 3)] [], .call [(.chk none (.v 56))] none 58 48 [(.v 49), (.lst (.cn (lA 8 1) (.cn (lA 8 2) (.cn (.v 56) .nl))))] [], .asg [] [(0, (.v 58))]]))
(.st [.asg [] [(42, (.bin .add (.v 42) (N 1)))]]))))
def v_wire_putProgram_L3 : VC :=
(.seq
(.st [.asg [(.bin .lss (.v 69) (.v 68))] []])
(.seq
(.cond (.bin .lss (.v 69) (.v 68))
.skip
(.exit 4))
(.seq
(.block 5
(.st [.asg [] [(10, (.lp (.cn (.fld none (.ld (some 3) (.ia 3 (.v 67) (.v 69)) 0) 0) (.cn (.fld none (.ld (some 3) (.ia 3 (.v 67) (.v 69)) 0) 1) (.cn (.fld none (.ld (some 3) (.ia 3 (.v 67) (.v 69)) 0) 2) .nl)))))], .call [] none 79 48 [(.v 0), (.lst (.cn (lA 10 0) (.cn (lA 10 1) .nl)))] [], .call [] none 82 85 [(.v 79), (lA 10 2)] [], .asg [] [(0, (.v 82))]]))
(.st [.asg [] [(69, (.bin .add (.v 69) (N 1)))]]))))
def v_wire_putProgram : VFun := ⟨⟨[(.O 1 true), .F], (.O 1 true), false⟩, [],
(.seq
(.st [.asg [(.chk (some 4) (.v 1))] [(3, (.lp (.cn (fA 1 0) (.cn (fA 1 1) (.cn (fA 1 2) (.cn (fA 1 3) .nl))))))], .call [(.len (lA 3 0))] none 16 48 [(.v 0), (.lst (.cn (.len (lA 3 0)) .nl))] [], .asg [] [(0, (.v 16))]])
(.seq
(.seq
(.st [.asg [] [(20, (N 0)), (19, (.len (lA 3 0))), (18, (lA 3 0))]])
(.block 0
(.loop v_wire_putProgram_L1)))
(.seq
(.st [.call [(.len (lA 3 1))] none 38 48 [(.v 0), (.lst (.cn (.len (lA 3 1)) .nl))] [], .asg [] [(0, (.v 38))]])
(.seq
(.seq
(.st [.asg [] [(42, (N 0)), (41, (.len (lA 3 1))), (40, (lA 3 1))]])
(.block 2
(.loop v_wire_putProgram_L2)))
(.seq
(.st [.call [(.len (lA 3 2))] none 65 48 [(.v 0), (.lst (.cn (.len (lA 3 2)) .nl))] [], .asg [] [(0, (.v 65))]])
(.seq
(.seq
(.st [.asg [] [(69, (N 0)), (68, (.len (lA 3 2))), (67, (lA 3 2))]])
(.block 4
(.loop v_wire_putProgram_L3)))
(.seq
(.st [.call [] none 88 48 [(.v 0), (.lst (.cn (lA 3 3) .nl))] [], .asg [] [(4, (.v 88))]])
(.ret (.v 4) []))))))))⟩
def v_wire_putCode_L1 : VC :=
(.seq
(.st [.asg [(.bin .lss (.v 14) (.v 13))] []])
(.seq
(.cond (.bin .lss (.v 14) (.v 13))
.skip
(.exit 0))
(.seq
(.block 1
(.st [.asg [] [(6, (.lp (.cn (.fld none (.ld (some 2) (.ia 2 (.v 12) (.v 14)) 0) 0) (.cn (.fld none (.ld (some 2) (.ia 2 (.v 12) (.v 14)) 0) 1) .nl))))], .call [] none 24 48 [(.v 0), (.lst (.cn (lA 6 0) (.cn (lA 6 1) .nl)))] [], .asg [] [(0, (.v 24))]]))
(.st [.asg [] [(14, (.bin .add (.v 14) (N 1)))]]))))
def v_wire_putCode : VFun := ⟨⟨[(.O 1 true), .F], (.O 1 true), false⟩, [],
(.seq
(.st [.call [(.len (.v 1))] none 11 48 [(.v 0), (.lst (.cn (.len (.v 1)) .nl))] [], .asg [] [(0, (.v 11))]])
(.seq
(.seq
(.st [.asg [] [(14, (N 0)), (13, (.len (.v 1))), (12, (.v 1))]])
(.block 0
(.loop v_wire_putCode_L1)))
(.seq
(.st [.asg [] [(4, (.v 0))]])
(.ret (.v 4) []))))⟩
def v_wire_Read : VFun := ⟨⟨[.F, .F], (.B false [.F, .F]), false⟩, [],
(.seq
(.st [])
(.seq
(.seq
(.st [.asg [(.gd (.bin .lss (.len (.v 0)) (.lenS (.v 1))) false (.lenS (.v 1))), (.gd (.bin .lss (.len (.v 0)) (.lenS (.v 1))) false (.slice 1 (.v 0) .nl (.lenS (.v 1)) .nl)), (.gd (.bin .lss (.len (.v 0)) (.lenS (.v 1))) false (.b2s (.slice 1 (.v 0) .nl (.lenS (.v 1)) .nl))), (.gd (.bin .lss (.len (.v 0)) (.lenS (.v 1))) false (.bin .neq (.b2s (.slice 1 (.v 0) .nl (.lenS (.v 1)) .nl)) (.v 1))), (.ite (.bin .lss (.len (.v 0)) (.lenS (.v 1))) (.boo true) (.bin .neq (.b2s (.slice 1 (.v 0) .nl (.lenS (.v 1)) .nl)) (.v 1)))] []])
(.cond (.ite (.bin .lss (.len (.v 0)) (.lenS (.v 1))) (.boo true) (.bin .neq (.b2s (.slice 1 (.v 0) .nl (.lenS (.v 1)) .nl)) (.v 1)))
(.seq
(.st [.asg [] [(20, (.lp (.cn (.lst .nl) (.cn (.boo true) .nl))))]])
(.ret (.lp (.cn (lA 20 0) (.cn (lA 20 1) .nl))) []))
.skip))
(.seq
(.st [.asg [(.chk none (.slice 1 (.v 0) (.lenS (.v 1)) .nl .nl))] [(26, (.lp (.cn (.slice 1 (.v 0) (.lenS (.v 1)) .nl .nl) (.cn (.boo false) .nl))))]])
(.ret (.lp (.cn (lA 26 0) (.cn (lA 26 1) .nl))) []))))⟩
def v_wire_Reader_program_L1 : VC :=
(.seq
(.st [.asg [(.bin .lss (.v 5) (.v 4))] []])
(.seq
(.cond (.bin .lss (.v 5) (.v 4))
.skip
(.exit 0))
(.seq
(.block 1
(.st [.call [] none 10 58 [(.lp (.cn (lA 4000 0) (.cn (lA 4000 1) .nl)))] [4000], .call [] none 12 57 [(.lp (.cn (lA 4000 0) (.cn (lA 4000 1) .nl)))] [4000], .asg [(.chk none (.v 10)), (.chk none (.v 12)), (.chk (some 2) (.agg (.cn (.v 10) (.cn (.v 12) .nl))))] [(2, (.lp (.cn (.app 2 (lA 2 0) (.lst (.cn (.agg (.cn (.v 10) (.cn (.v 12) .nl))) .nl))) (.cn (lA 2 1) (.cn (lA 2 2) (.cn (lA 2 3) .nl))))))]]))
(.st [.asg [] [(5, (.bin .add (.v 5) (N 1)))]]))))
def v_wire_Reader_program_L2 : VC :=
(.seq
(.st [.asg [(.bin .lss (.v 20) (.v 19))] []])
(.seq
(.cond (.bin .lss (.v 20) (.v 19))
.skip
(.exit 2))
(.seq
(.block 3
(.st [.call [] none 25 87 [(.lp (.cn (lA 4000 0) (.cn (lA 4000 1) .nl)))] [4000], .call [] none 27 58 [(.lp (.cn (lA 4000 0) (.cn (lA 4000 1) .nl)))] [4000], .call [] none 29 58 [(.lp (.cn (lA 4000 0) (.cn (lA 4000 1) .nl)))] [4000], .call [] none 31 88 [(.lp (.cn (lA 4000 0) (.cn (lA 4000 1) .nl)))] [4000], .asg [(.chk none (.v 25)), (.chk none (.v 27)), (.chk none (.v 29)), (.chk none (.v 31)), (.chk (some 4) (.agg (.cn (.v 25) (.cn (.v 27) (.cn (.v 29) (.cn (.v 31) .nl))))))] [(2, (.lp (.cn (lA 2 0) (.cn (.app 4 (lA 2 1) (.lst (.cn (.agg (.cn (.v 25) (.cn (.v 27) (.cn (.v 29) (.cn (.v 31) .nl))))) .nl))) (.cn (lA 2 2) (.cn (lA 2 3) .nl))))))]]))
(.st [.asg [] [(20, (.bin .add (.v 20) (N 1)))]]))))
def v_wire_Reader_program_L3 : VC :=
(.seq
(.st [.asg [(.bin .lss (.v 39) (.v 38))] []])
(.seq
(.cond (.bin .lss (.v 39) (.v 38))
.skip
(.exit 4))
(.seq
(.block 5
(.st [.call [] none 44 58 [(.lp (.cn (lA 4000 0) (.cn (lA 4000 1) .nl)))] [4000], .call [] none 46 58 [(.lp (.cn (lA 4000 0) (.cn (lA 4000 1) .nl)))] [4000], .call [] none 48 87 [(.lp (.cn (lA 4000 0) (.cn (lA 4000 1) .nl)))] [4000], .asg [(.chk none (.v 44)), (.chk none (.v 46)), (.chk none (.v 48)), (.chk (some 3) (.agg (.cn (.v 44) (.cn (.v 46) (.cn (.v 48) .nl)))))] [(2, (.lp (.cn (lA 2 0) (.cn (lA 2 1) (.cn (.app 3 (lA 2 2) (.lst (.cn (.agg (.cn (.v 44) (.cn (.v 46) (.cn (.v 48) .nl)))) .nl))) (.cn (lA 2 3) .nl))))))]]))
(.st [.asg [] [(39, (.bin .add (.v 39) (N 1)))]]))))
def v_wire_Reader_program : VFun := ⟨⟨[(.B false [.F, .F])], .F, false⟩, [],
(.seq
(.st [.asg [] [(2, (.lp (.cn (.lst .nl) (.cn (.lst .nl) (.cn (.lst .nl) (.cn (N 0) .nl)))))), (4000, (.lp (.cn (lA 0 0) (.cn (lA 0 1) .nl))))]])
(.seq
(.seq
(.st [.call [] none 4 56 [(.lp (.cn (lA 4000 0) (.cn (lA 4000 1) .nl)))] [4000], .asg [] [(5, (N 0))]])
(.block 0
(.loop v_wire_Reader_program_L1)))
(.seq
(.seq
(.st [.call [] none 19 56 [(.lp (.cn (lA 4000 0) (.cn (lA 4000 1) .nl)))] [4000], .asg [] [(20, (N 0))]])
(.block 2
(.loop v_wire_Reader_program_L2)))
(.seq
(.seq
(.st [.call [] none 38 56 [(.lp (.cn (lA 4000 0) (.cn (lA 4000 1) .nl)))] [4000], .asg [] [(39, (N 0))]])
(.block 4
(.loop v_wire_Reader_program_L3)))
(.seq
(.st [.call [] none 55 58 [(.lp (.cn (lA 4000 0) (.cn (lA 4000 1) .nl)))] [4000], .asg [(.chk none (.v 55))] [(2, (.lp (.cn (lA 2 0) (.cn (lA 2 1) (.cn (lA 2 2) (.cn (.v 55) .nl))))))]])
(.ret (.agg (.cn (lA 2 0) (.cn (lA 2 1) (.cn (lA 2 2) (.cn (lA 2 3) .nl))))) [(.lp (.cn (lA 4000 0) (.cn (lA 4000 1) .nl)))]))))))⟩
def v_wire_Reader_Count : VFun := ⟨⟨[(.B false [.F, .F])], .F, true⟩, [],
(.seq
(.st [.asg [] [(4000, (.lp (.cn (lA 0 0) (.cn (lA 0 1) .nl))))], .call [] none 5 58 [(.lp (.cn (lA 4000 0) (.cn (lA 4000 1) .nl)))] [4000], .asg [] [(3, (.v 5))]])
(.seq
(.seq
(.st [.asg [(.gd (lA 4000 1) false .nl), (.gd (lA 4000 1) false (.bin .lss (.v 3) (N 0))), (.gd (.ite (lA 4000 1) (.boo true) (.bin .lss (.v 3) (N 0))) false (.len (lA 4000 0))), (.gd (.ite (lA 4000 1) (.boo true) (.bin .lss (.v 3) (N 0))) false (.bin .gtr (.v 3) (.len (lA 4000 0))))] [(4000, (.lp (.cn (lA 4000 0) (.cn (.ite (.ite (lA 4000 1) (.boo true) (.bin .lss (.v 3) (N 0))) (.boo true) (.bin .gtr (.v 3) (.len (lA 4000 0)))) .nl))))]])
(.cond (lA 4000 1)
(.seq
(.st [.asg [] [(2, (N 0))]])
(.ret (.v 2) [(.lp (.cn (lA 4000 0) (.cn (lA 4000 1) .nl)))]))
.skip))
(.seq
(.st [.asg [] [(2, (.v 3))]])
(.ret (.v 2) [(.lp (.cn (lA 4000 0) (.cn (lA 4000 1) .nl)))]))))⟩
def v_wire_Reader_code_L1 : VC :=
(.seq
(.st [.asg [(.bin .lss (.v 5) (.v 4))] []])
(.seq
(.cond (.bin .lss (.v 5) (.v 4))
.skip
(.exit 0))
(.seq
(.block 1
(.st [.call [] none 9 58 [(.lp (.cn (lA 4000 0) (.cn (lA 4000 1) .nl)))] [4000], .call [] none 11 58 [(.lp (.cn (lA 4000 0) (.cn (lA 4000 1) .nl)))] [4000], .asg [(.chk none (.v 9)), (.chk none (.v 11)), (.chk (some 2) (.agg (.cn (.v 9) (.cn (.v 11) .nl))))] [(2, (.app 2 (.v 2) (.lst (.cn (.agg (.cn (.v 9) (.cn (.v 11) .nl))) .nl))))]]))
(.st [.asg [] [(5, (.bin .add (.v 5) (N 1)))]]))))
def v_wire_Reader_code : VFun := ⟨⟨[(.B false [.F, .F])], .F, false⟩, [],
(.seq
(.st [.asg [] [(2, (.lst .nl)), (4000, (.lp (.cn (lA 0 0) (.cn (lA 0 1) .nl))))]])
(.seq
(.seq
(.st [.call [] none 4 56 [(.lp (.cn (lA 4000 0) (.cn (lA 4000 1) .nl)))] [4000], .asg [] [(5, (N 0))]])
(.block 0
(.loop v_wire_Reader_code_L1)))
(.seq
(.st [])
(.ret (.v 2) [(.lp (.cn (lA 4000 0) (.cn (lA 4000 1) .nl)))]))))⟩
def v_wire_Reader_Num : VFun := ⟨⟨[(.B false [.F, .F])], .F, true⟩, [],
(.seq
(.st [.asg [] [(4000, (.lp (.cn (lA 0 0) (.cn (lA 0 1) .nl))))], .call [] none 11 12 [(lA 4000 0)] [], .asg [] [(5, (.ext (.v 11) 2)), (4, (.ext (.v 11) 1)), (3, (.ext (.v 11) 0))]])
(.seq
(.seq
(.st [.asg [(.gd (lA 4000 1) false .nl), (.gd (lA 4000 1) false (.bin .neq (.v 5) (N 0)))] [(4000, (.lp (.cn (lA 4000 0) (.cn (.ite (lA 4000 1) (.boo true) (.bin .neq (.v 5) (N 0))) .nl))))]])
(.cond (lA 4000 1)
(.seq
(.st [.asg [] [(2, (N 0))]])
(.ret (.v 2) [(.lp (.cn (lA 4000 0) (.cn (lA 4000 1) .nl)))]))
.skip))
(.seq
(.st [.asg [(.chk none (.slice 1 (lA 4000 0) (.v 4) .nl .nl))] [(4000, (.lp (.cn (.slice 1 (lA 4000 0) (.v 4) .nl .nl) (.cn (lA 4000 1) .nl))))], .asg [] [(2, (.v 3))]])
(.ret (.v 2) [(.lp (.cn (lA 4000 0) (.cn (lA 4000 1) .nl)))]))))⟩
def v_wire_Reader_Good : VFun := ⟨⟨[(.B false [.F, .F])], .F, true⟩, [],
(.seq
(.st [.asg [] [(4000, (.lp (.cn (lA 0 0) (.cn (lA 0 1) .nl))))], .asg [(.gd (.un .not (lA 4000 1)) true (.len (lA 4000 0))), (.gd (.un .not (lA 4000 1)) true (.bin .eql (.len (lA 4000 0)) (N 0)))] [(2, (.ite (.un .not (lA 4000 1)) (.bin .eql (.len (lA 4000 0)) (N 0)) (.boo false)))]])
(.ret (.v 2) [(.lp (.cn (lA 4000 0) (.cn (lA 4000 1) .nl)))]))⟩
def v_ref1_SameProg_L1 : VC :=
(.seq
(.seq
(.st [.asg [(.bin .lss (.v 5) (.len (lA 2 0)))] []])
(.cond (.bin .lss (.v 5) (.len (lA 2 0)))
.skip
(.exit 0)))
(.seq
(.block 1
(.seq
(.st [.call [(.gd (.bin .neq (.ld none (.fa (.ia 2 (lA 2 0) (.v 5)) 0) 0) (.ld none (.fa (.ia 2 (lA 3 0) (.v 5)) 0) 0)) false (.ia 2 (lA 2 0) (.v 5))), (.gd (.bin .neq (.ld none (.fa (.ia 2 (lA 2 0) (.v 5)) 0) 0) (.ld none (.fa (.ia 2 (lA 3 0) (.v 5)) 0) 0)) false (.fa (.ia 2 (lA 2 0) (.v 5)) 1)), (.gd (.bin .neq (.ld none (.fa (.ia 2 (lA 2 0) (.v 5)) 0) 0) (.ld none (.fa (.ia 2 (lA 3 0) (.v 5)) 0) 0)) false (.ld none (.fa (.ia 2 (lA 2 0) (.v 5)) 1) 0)), (.gd (.bin .neq (.ld none (.fa (.ia 2 (lA 2 0) (.v 5)) 0) 0) (.ld none (.fa (.ia 2 (lA 3 0) (.v 5)) 0) 0)) false (.ia 2 (lA 3 0) (.v 5))), (.gd (.bin .neq (.ld none (.fa (.ia 2 (lA 2 0) (.v 5)) 0) 0) (.ld none (.fa (.ia 2 (lA 3 0) (.v 5)) 0) 0)) false (.fa (.ia 2 (lA 3 0) (.v 5)) 1)), (.gd (.bin .neq (.ld none (.fa (.ia 2 (lA 2 0) (.v 5)) 0) 0) (.ld none (.fa (.ia 2 (lA 3 0) (.v 5)) 0) 0)) false (.ld none (.fa (.ia 2 (lA 3 0) (.v 5)) 1) 0))] (some ((.bin .neq (.ld none (.fa (.ia 2 (lA 2 0) (.v 5)) 0) 0) (.ld none (.fa (.ia 2 (lA 3 0) (.v 5)) 0) 0)), false)) 73 65 [(.ld none (.fa (.ia 2 (lA 2 0) (.v 5)) 1) 0), (.ld none (.fa (.ia 2 (lA 3 0) (.v 5)) 1) 0)] [], .asg [(.gd (.bin .neq (.ld none (.fa (.ia 2 (lA 2 0) (.v 5)) 0) 0) (.ld none (.fa (.ia 2 (lA 3 0) (.v 5)) 0) 0)) false (.un .not (.v 73))), (.ite (.bin .neq (.ld none (.fa (.ia 2 (lA 2 0) (.v 5)) 0) 0) (.ld none (.fa (.ia 2 (lA 3 0) (.v 5)) 0) 0)) (.boo true) (.un .not (.v 73)))] []])
(.cond (.ite (.bin .neq (.ld none (.fa (.ia 2 (lA 2 0) (.v 5)) 0) 0) (.ld none (.fa (.ia 2 (lA 3 0) (.v 5)) 0) 0)) (.boo true) (.un .not (.v 73)))
(.seq
(.st [.asg [] [(4, (.boo false))]])
(.ret (.v 4) []))
.skip)))
(.st [.asg [] [(5, (.bin .add (.v 5) (N 1)))]])))
def v_ref1_SameProg_L2 : VC :=
(.seq
(.seq
(.st [.asg [(.bin .lss (.v 6) (.len (lA 2 1)))] []])
(.cond (.bin .lss (.v 6) (.len (lA 2 1)))
.skip
(.exit 2)))
(.seq
(.block 3
(.seq
(.st [.asg [] [(8, (.lp (.cn (.fld none (.ld (some 4) (.ia 4 (lA 3 1) (.v 6)) 0) 0) (.cn (.fld none (.ld (some 4) (.ia 4 (lA 3 1) (.v 6)) 0) 1) (.cn (.fld none (.ld (some 4) (.ia 4 (lA 3 1) (.v 6)) 0) 2) (.cn (.fld none (.ld (some 4) (.ia 4 (lA 3 1) (.v 6)) 0) 3) .nl)))))), (7, (.lp (.cn (.fld none (.ld (some 4) (.ia 4 (lA 2 1) (.v 6)) 0) 0) (.cn (.fld none (.ld (some 4) (.ia 4 (lA 2 1) (.v 6)) 0) 1) (.cn (.fld none (.ld (some 4) (.ia 4 (lA 2 1) (.v 6)) 0) 2) (.cn (.fld none (.ld (some 4) (.ia 4 (lA 2 1) (.v 6)) 0) 3) .nl))))))], .call [] none 97 90 [(lA 7 0), (lA 8 0)] [], .asg [(.gd (.un .not (.v 97)) false (.bin .neq (lA 7 1) (lA 8 1))), (.gd (.ite (.un .not (.v 97)) (.boo true) (.bin .neq (lA 7 1) (lA 8 1))) false (.bin .neq (lA 7 2) (lA 8 2))), (.gd (.ite (.ite (.un .not (.v 97)) (.boo true) (.bin .neq (lA 7 1) (lA 8 1))) (.boo true) (.bin .neq (lA 7 2) (lA 8 2))) false (.eqb true (lA 7 3) (lA 8 3))), (.ite (.ite (.ite (.un .not (.v 97)) (.boo true) (.bin .neq (lA 7 1) (lA 8 1))) (.boo true) (.bin .neq (lA 7 2) (lA 8 2))) (.boo true) (.eqb true (lA 7 3) (lA 8 3)))] []])
(.cond (.ite (.ite (.ite (.un .not (.v 97)) (.boo true) (.bin .neq (lA 7 1) (lA 8 1))) (.boo true) (.bin .neq (lA 7 2) (lA 8 2))) (.boo true) (.eqb true (lA 7 3) (lA 8 3)))
(.seq
(.st [.asg [] [(4, (.boo false))]])
(.ret (.v 4) []))
.skip)))
(.st [.asg [] [(6, (.bin .add (.v 6) (N 1)))]])))
def v_ref1_SameProg : VFun := ⟨⟨[.F, .F], .F, true⟩, [],
(.seq
(.st [.asg [(.chk (some 4) (.v 0)), (.chk (some 4) (.v 1))] [(3, (.lp (.cn (fA 1 0) (.cn (fA 1 1) (.cn (fA 1 2) (.cn (fA 1 3) .nl)))))), (2, (.lp (.cn (fA 0 0) (.cn (fA 0 1) (.cn (fA 0 2) (.cn (fA 0 3) .nl))))))]])
(.seq
(.seq
(.st [.call [(.gd (.bin .neq (.len (lA 2 0)) (.len (lA 3 0))) false (.len (lA 2 1))), (.gd (.bin .neq (.len (lA 2 0)) (.len (lA 3 0))) false (.len (lA 3 1))), (.gd (.bin .neq (.len (lA 2 0)) (.len (lA 3 0))) false (.bin .neq (.len (lA 2 1)) (.len (lA 3 1)))), (.gd (.ite (.bin .neq (.len (lA 2 0)) (.len (lA 3 0))) (.boo true) (.bin .neq (.len (lA 2 1)) (.len (lA 3 1)))) false (.bin .neq (lA 2 3) (lA 3 3))), (.ite (.ite (.bin .neq (.len (lA 2 0)) (.len (lA 3 0))) (.boo true) (.bin .neq (.len (lA 2 1)) (.len (lA 3 1)))) (.boo true) (.bin .neq (lA 2 3) (lA 3 3)))] (some ((.ite (.ite (.bin .neq (.len (lA 2 0)) (.len (lA 3 0))) (.boo true) (.bin .neq (.len (lA 2 1)) (.len (lA 3 1)))) (.boo true) (.bin .neq (lA 2 3) (lA 3 3))), false)) 37 89 [(lA 2 2), (lA 3 2)] [], .asg [(.gd (.ite (.ite (.bin .neq (.len (lA 2 0)) (.len (lA 3 0))) (.boo true) (.bin .neq (.len (lA 2 1)) (.len (lA 3 1)))) (.boo true) (.bin .neq (lA 2 3) (lA 3 3))) false (.un .not (.v 37))), (.ite (.ite (.ite (.bin .neq (.len (lA 2 0)) (.len (lA 3 0))) (.boo true) (.bin .neq (.len (lA 2 1)) (.len (lA 3 1)))) (.boo true) (.bin .neq (lA 2 3) (lA 3 3))) (.boo true) (.un .not (.v 37)))] []])
(.cond (.ite (.ite (.ite (.bin .neq (.len (lA 2 0)) (.len (lA 3 0))) (.boo true) (.bin .neq (.len (lA 2 1)) (.len (lA 3 1)))) (.boo true) (.bin .neq (lA 2 3) (lA 3 3))) (.boo true) (.un .not (.v 37)))
(.seq
(.st [.asg [] [(4, (.boo false))]])
(.ret (.v 4) []))
.skip))
(.seq
(.seq
(.st [.asg [] [(5, (N 0))]])
(.block 0
(.loop v_ref1_SameProg_L1)))
(.seq
(.seq
(.st [.asg [] [(6, (N 0))]])
(.block 2
(.loop v_ref1_SameProg_L2)))
(.seq
(.st [.asg [] [(4, (.boo true))]])
(.ret (.v 4) []))))))⟩
def v_ref1_Code_L1 : VC :=
(.seq
(.seq
(.st [.asg [(.bin .lss (.v 5) (.len (.v 0)))] []])
(.cond (.bin .lss (.v 5) (.len (.v 0)))
.skip
(.exit 0)))
(.seq
(.block 1
(.seq
(.st [.asg [(.eqs true [false, false] (.ld (some 2) (.ia 2 (.v 0) (.v 5)) 0) (.ld (some 2) (.ia 2 (.v 1) (.v 5)) 0))] []])
(.cond (.eqs true [false, false] (.ld (some 2) (.ia 2 (.v 0) (.v 5)) 0) (.ld (some 2) (.ia 2 (.v 1) (.v 5)) 0))
(.seq
(.st [.asg [] [(4, (.boo false))]])
(.ret (.v 4) []))
.skip)))
(.st [.asg [] [(5, (.bin .add (.v 5) (N 1)))]])))
def v_ref1_Code : VFun := ⟨⟨[.F, .F], .F, true⟩, [],
(.seq
(.st [])
(.seq
(.seq
(.st [.asg [(.bin .neq (.len (.v 0)) (.len (.v 1)))] []])
(.cond (.bin .neq (.len (.v 0)) (.len (.v 1)))
(.seq
(.st [.asg [] [(4, (.boo false))]])
(.ret (.v 4) []))
.skip))
(.seq
(.seq
(.st [.asg [] [(5, (N 0))]])
(.block 0
(.loop v_ref1_Code_L1)))
(.seq
(.st [.asg [] [(4, (.boo true))]])
(.ret (.v 4) [])))))⟩
def v_wire_Same_1 : VFun := ⟨⟨[.F, .F], .F, true⟩, [],
(.seq
(.st [.call [] none 7 67 [(.v 0), (.v 1)] [], .asg [] [(4, (.v 7))]])
(.ret (.v 4) []))⟩
def v_slices_Equal_api_Watch_api_Instr_L1 : VC :=
(.seq
(.st [.asg [(.bin .lss (.v 13) (.v 12))] []])
(.seq
(.cond (.bin .lss (.v 13) (.v 12))
.skip
(.exit 0))
(.seq
(.block 1
(.seq
(.st [.asg [] [(5, (.v 13))], .asg [(.eqs true [false, false] (.ld (some 2) (.ia 2 (.v 0) (.v 5)) 0) (.ld (some 2) (.ia 2 (.v 1) (.v 5)) 0))] []])
(.cond (.eqs true [false, false] (.ld (some 2) (.ia 2 (.v 0) (.v 5)) 0) (.ld (some 2) (.ia 2 (.v 1) (.v 5)) 0))
(.seq
(.st [.asg [] [(4, (.boo false))]])
(.ret (.v 4) []))
.skip)))
(.st [.asg [] [(13, (.bin .add (.v 13) (N 1)))]]))))
def v_slices_Equal_api_Watch_api_Instr : VFun := ⟨⟨[.F, .F], .F, true⟩, [],
(.seq
(.st [])
(.seq
(.seq
(.st [.asg [(.bin .neq (.len (.v 0)) (.len (.v 1)))] []])
(.cond (.bin .neq (.len (.v 0)) (.len (.v 1)))
(.seq
(.st [.asg [] [(4, (.boo false))]])
(.ret (.v 4) []))
.skip))
(.seq
(.seq
(.st [.asg [] [(13, (N 0)), (12, (.len (.v 0)))]])
(.block 0
(.loop v_slices_Equal_api_Watch_api_Instr_L1)))
(.seq
(.st [.asg [] [(4, (.boo true))]])
(.ret (.v 4) [])))))⟩
def v_prog_Same : VFun := ⟨⟨[.F, .F], .F, true⟩, [],
(.seq
(.st [.asg [(.chk (some 4) (.v 0)), (.chk (some 4) (.v 1))] [(3, (.lp (.cn (fA 1 0) (.cn (fA 1 1) (.cn (fA 1 2) (.cn (fA 1 3) .nl)))))), (2, (.lp (.cn (fA 0 0) (.cn (fA 0 1) (.cn (fA 0 2) (.cn (fA 0 3) .nl))))))], .call [] none 9 91 [(lA 2 0), (lA 3 0), (.fn 92 .nl)] [], .call [(.gd (.v 9) true .nl), (.gd (.v 9) true .nl)] (some ((.v 9), true)) 15 93 [(lA 2 1), (lA 3 1), (.fn 94 .nl)] [], .call [(.gd (.ite (.v 9) (.v 15) (.boo false)) true .nl), (.gd (.ite (.v 9) (.v 15) (.boo false)) true .nl)] (some ((.ite (.v 9) (.v 15) (.boo false)), true)) 22 95 [(lA 2 2), (lA 3 2), (.fn 84 .nl)] [], .asg [(.gd (.ite (.ite (.v 9) (.v 15) (.boo false)) (.v 22) (.boo false)) true .nl), (.gd (.ite (.ite (.v 9) (.v 15) (.boo false)) (.v 22) (.boo false)) true (.bin .eql (lA 2 3) (lA 3 3)))] [(4, (.ite (.ite (.ite (.v 9) (.v 15) (.boo false)) (.v 22) (.boo false)) (.bin .eql (lA 2 3) (lA 3 3)) (.boo false)))]])
(.ret (.v 4) []))⟩
def v_slices_EqualFunc_api_Watch_api_Watch_api_Watch_api_Watch_L1 : VC :=
(.seq
(.st [.asg [(.bin .lss (.v 17) (.v 16))] []])
(.seq
(.cond (.bin .lss (.v 17) (.v 16))
.skip
(.exit 0))
(.seq
(.block 1
(.seq
(.st [.asg [] [(8, (.ld none (.ia 1 (.v 15) (.v 17)) 0)), (7, (.v 17))], .asg [] [(9, (.ld none (.ia 1 (.v 1) (.v 7)) 0))], .callv [] none 29 (.v 2) [(.v 8), (.v 9)], .asg [(.un .not (.v 29))] []])
(.cond (.un .not (.v 29))
(.seq
(.st [.asg [] [(6, (.boo false))]])
(.ret (.v 6) []))
.skip)))
(.st [.asg [] [(17, (.bin .add (.v 17) (N 1)))]]))))
def v_slices_EqualFunc_api_Watch_api_Watch_api_Watch_api_Watch : VFun := ⟨⟨[.F, .F, .F], .F, true⟩, [],
(.seq
(.st [])
(.seq
(.seq
(.st [.asg [(.bin .neq (.len (.v 0)) (.len (.v 1)))] []])
(.cond (.bin .neq (.len (.v 0)) (.len (.v 1)))
(.seq
(.st [.asg [] [(6, (.boo false))]])
(.ret (.v 6) []))
.skip))
(.seq
(.seq
(.st [.asg [] [(17, (N 0)), (16, (.len (.v 0))), (15, (.v 0))]])
(.block 0
(.loop v_slices_EqualFunc_api_Watch_api_Watch_api_Watch_api_Watch_L1)))
(.seq
(.st [.asg [] [(6, (.boo true))]])
(.ret (.v 6) [])))))⟩
def v_ref1_SameNote : VFun := ⟨⟨[.F, .F], .F, true⟩, [],
(.seq
(.st [.asg [(.chk (some 3) (.v 0)), (.chk (some 3) (.v 1))] [(3, (.lp (.cn (fA 1 0) (.cn (fA 1 1) (.cn (fA 1 2) .nl))))), (2, (.lp (.cn (fA 0 0) (.cn (fA 0 1) (.cn (fA 0 2) .nl)))))], .call [(.gd (.bin .eql (lA 2 0) (lA 3 0)) true (.bin .eql (lA 2 1) (lA 3 1))), (.ite (.bin .eql (lA 2 0) (lA 3 0)) (.bin .eql (lA 2 1) (lA 3 1)) (.boo false))] (some ((.ite (.bin .eql (lA 2 0) (lA 3 0)) (.bin .eql (lA 2 1) (lA 3 1)) (.boo false)), true)) 22 90 [(lA 2 2), (lA 3 2)] [], .asg [] [(4, (.ite (.ite (.bin .eql (lA 2 0) (lA 3 0)) (.bin .eql (lA 2 1) (lA 3 1)) (.boo false)) (.v 22) (.boo false)))]])
(.ret (.v 4) []))⟩
def v_prog_SameNote : VFun := ⟨⟨[.F, .F], .F, true⟩, [],
(.seq
(.st [.asg [(.chk (some 3) (.v 0)), (.chk (some 3) (.v 1))] [(3, (.lp (.cn (fA 1 0) (.cn (fA 1 1) (.cn (fA 1 2) .nl))))), (2, (.lp (.cn (fA 0 0) (.cn (fA 0 1) (.cn (fA 0 2) .nl)))))], .call [(.gd (.bin .eql (lA 2 0) (lA 3 0)) true (.bin .eql (lA 2 1) (lA 3 1))), (.ite (.bin .eql (lA 2 0) (lA 3 0)) (.bin .eql (lA 2 1) (lA 3 1)) (.boo false))] (some ((.ite (.bin .eql (lA 2 0) (lA 3 0)) (.bin .eql (lA 2 1) (lA 3 1)) (.boo false)), true)) 22 100 [(lA 2 2), (lA 3 2)] [], .asg [] [(4, (.ite (.ite (.bin .eql (lA 2 0) (lA 3 0)) (.bin .eql (lA 2 1) (lA 3 1)) (.boo false)) (.v 22) (.boo false)))]])
(.ret (.v 4) []))⟩
def v_wire_putNumbers : VFun := ⟨⟨[(.O 1 true), .F], (.O 1 true), false⟩, [],
(.seq
(.st [.call [(.len (.v 1))] none 9 48 [(.v 0), (.lst (.cn (.len (.v 1)) .nl))] [], .call [] none 11 48 [(.v 9), (.v 1)] [], .asg [] [(4, (.v 11))]])
(.ret (.v 4) []))⟩
def v_wire_flag : VFun := ⟨⟨[.F], .F, true⟩, [],
(.seq
(.st [])
(.seq
(.seq
(.st [])
(.cond (.v 0)
(.seq
(.st [.asg [] [(2, (N 1))]])
(.ret (.v 2) []))
.skip))
(.seq
(.st [.asg [] [(2, (N 0))]])
(.ret (.v 2) []))))⟩
def v_wire_Reader_numbers_L1 : VC :=
(.seq
(.st [.asg [(.bin .lss (.v 5) (.v 4))] []])
(.seq
(.cond (.bin .lss (.v 5) (.v 4))
.skip
(.exit 0))
(.seq
(.block 1
(.st [.call [] none 9 58 [(.lp (.cn (lA 4000 0) (.cn (lA 4000 1) .nl)))] [4000], .asg [(.chk none (.v 9))] [(2, (.app 1 (.v 2) (.lst (.cn (.v 9) .nl))))]]))
(.st [.asg [] [(5, (.bin .add (.v 5) (N 1)))]]))))
def v_wire_Reader_numbers : VFun := ⟨⟨[(.B false [.F, .F])], .F, false⟩, [],
(.seq
(.st [.asg [] [(2, (.lst .nl)), (4000, (.lp (.cn (lA 0 0) (.cn (lA 0 1) .nl))))]])
(.seq
(.seq
(.st [.call [] none 4 56 [(.lp (.cn (lA 4000 0) (.cn (lA 4000 1) .nl)))] [4000], .asg [] [(5, (N 0))]])
(.block 0
(.loop v_wire_Reader_numbers_L1)))
(.seq
(.st [])
(.ret (.v 2) [(.lp (.cn (lA 4000 0) (.cn (lA 4000 1) .nl)))]))))⟩
def v_wire_Reader_flag : VFun := ⟨⟨[(.B false [.F, .F])], .F, true⟩, [],
(.seq
(.st [.asg [] [(4000, (.lp (.cn (lA 0 0) (.cn (lA 0 1) .nl))))], .call [] none 5 58 [(.lp (.cn (lA 4000 0) (.cn (lA 4000 1) .nl)))] [4000], .asg [] [(3, (.v 5))], .asg [(.gd (.gd (lA 4000 1) false (.bin .neq (.v 3) (N 0))) true (.bin .neq (.v 3) (N 1))), (.gd (lA 4000 1) false .nl), (.gd (lA 4000 1) false (.ite (.bin .neq (.v 3) (N 0)) (.bin .neq (.v 3) (N 1)) (.boo false)))] [(4000, (.lp (.cn (lA 4000 0) (.cn (.ite (lA 4000 1) (.boo true) (.ite (.bin .neq (.v 3) (N 0)) (.bin .neq (.v 3) (N 1)) (.boo false))) .nl))))], .asg [] [(2, (.bin .eql (.v 3) (N 1)))]])
(.ret (.v 2) [(.lp (.cn (lA 4000 0) (.cn (lA 4000 1) .nl)))]))⟩
def v_ref1_SameNotes_L1 : VC :=
(.seq
(.seq
(.st [.asg [(.bin .lss (.v 5) (.len (.v 0)))] []])
(.cond (.bin .lss (.v 5) (.len (.v 0)))
.skip
(.exit 0)))
(.seq
(.block 1
(.seq
(.st [.call [(.ld (some 3) (.ia 3 (.v 0) (.v 5)) 0), (.ld (some 3) (.ia 3 (.v 1) (.v 5)) 0)] none 25 80 [(.ld (some 3) (.ia 3 (.v 0) (.v 5)) 0), (.ld (some 3) (.ia 3 (.v 1) (.v 5)) 0)] [], .asg [(.un .not (.v 25))] []])
(.cond (.un .not (.v 25))
(.seq
(.st [.asg [] [(4, (.boo false))]])
(.ret (.v 4) []))
.skip)))
(.st [.asg [] [(5, (.bin .add (.v 5) (N 1)))]])))
def v_ref1_SameNotes : VFun := ⟨⟨[.F, .F], .F, true⟩, [],
(.seq
(.st [])
(.seq
(.seq
(.st [.asg [(.bin .neq (.len (.v 0)) (.len (.v 1)))] []])
(.cond (.bin .neq (.len (.v 0)) (.len (.v 1)))
(.seq
(.st [.asg [] [(4, (.boo false))]])
(.ret (.v 4) []))
.skip))
(.seq
(.seq
(.st [.asg [] [(5, (N 0))]])
(.block 0
(.loop v_ref1_SameNotes_L1)))
(.seq
(.st [.asg [] [(4, (.boo true))]])
(.ret (.v 4) [])))))⟩
def v_ref1_Ints_L1 : VC :=
(.seq
(.seq
(.st [.asg [(.bin .lss (.v 5) (.len (.v 0)))] []])
(.cond (.bin .lss (.v 5) (.len (.v 0)))
.skip
(.exit 0)))
(.seq
(.block 1
(.seq
(.st [.asg [(.bin .neq (.ld none (.ia 1 (.v 0) (.v 5)) 0) (.ld none (.ia 1 (.v 1) (.v 5)) 0))] []])
(.cond (.bin .neq (.ld none (.ia 1 (.v 0) (.v 5)) 0) (.ld none (.ia 1 (.v 1) (.v 5)) 0))
(.seq
(.st [.asg [] [(4, (.boo false))]])
(.ret (.v 4) []))
.skip)))
(.st [.asg [] [(5, (.bin .add (.v 5) (N 1)))]])))
def v_ref1_Ints : VFun := ⟨⟨[.F, .F], .F, true⟩, [],
(.seq
(.st [])
(.seq
(.seq
(.st [.asg [(.bin .neq (.len (.v 0)) (.len (.v 1)))] []])
(.cond (.bin .neq (.len (.v 0)) (.len (.v 1)))
(.seq
(.st [.asg [] [(4, (.boo false))]])
(.ret (.v 4) []))
.skip))
(.seq
(.seq
(.st [.asg [] [(5, (N 0))]])
(.block 0
(.loop v_ref1_Ints_L1)))
(.seq
(.st [.asg [] [(4, (.boo true))]])
(.ret (.v 4) [])))))⟩
def v_slices_EqualFunc_api_Handler_api_Handler_api_Handler_api_Handler_L1 : VC :=
(.seq
(.st [.asg [(.bin .lss (.v 17) (.v 16))] []])
(.seq
(.cond (.bin .lss (.v 17) (.v 16))
.skip
(.exit 0))
(.seq
(.block 1
(.seq
(.st [.asg [] [(7, (.v 17)), (8, (.lp (.cn (.fld none (.ld (some 2) (.ia 2 (.v 15) (.v 17)) 0) 0) (.cn (.fld none (.ld (some 2) (.ia 2 (.v 15) (.v 17)) 0) 1) .nl))))], .asg [] [(9, (.lp (.cn (.fld none (.ld (some 2) (.ia 2 (.v 1) (.v 7)) 0) 0) (.cn (.fld none (.ld (some 2) (.ia 2 (.v 1) (.v 7)) 0) 1) .nl))))], .callv [] none 29 (.v 2) [(.agg (.cn (lA 8 0) (.cn (lA 8 1) .nl))), (.agg (.cn (lA 9 0) (.cn (lA 9 1) .nl)))], .asg [(.un .not (.v 29))] []])
(.cond (.un .not (.v 29))
(.seq
(.st [.asg [] [(6, (.boo false))]])
(.ret (.v 6) []))
.skip)))
(.st [.asg [] [(17, (.bin .add (.v 17) (N 1)))]]))))
def v_slices_EqualFunc_api_Handler_api_Handler_api_Handler_api_Handler : VFun := ⟨⟨[.F, .F, .F], .F, true⟩, [],
(.seq
(.st [])
(.seq
(.seq
(.st [.asg [(.bin .neq (.len (.v 0)) (.len (.v 1)))] []])
(.cond (.bin .neq (.len (.v 0)) (.len (.v 1)))
(.seq
(.st [.asg [] [(6, (.boo false))]])
(.ret (.v 6) []))
.skip))
(.seq
(.seq
(.st [.asg [] [(17, (N 0)), (16, (.len (.v 0))), (15, (.v 0))]])
(.block 0
(.loop v_slices_EqualFunc_api_Handler_api_Handler_api_Handler_api_Handler_L1)))
(.seq
(.st [.asg [] [(6, (.boo true))]])
(.ret (.v 6) [])))))⟩
def v_prog_sameHandler : VFun := ⟨⟨[.F, .F], .F, true⟩, [],
(.seq
(.st [.asg [(.chk (some 2) (.v 0)), (.chk (some 2) (.v 1))] [(3, (.lp (.cn (fA 1 0) (.cn (fA 1 1) .nl)))), (2, (.lp (.cn (fA 0 0) (.cn (fA 0 1) .nl))))], .call [(.bin .eql (lA 2 0) (lA 3 0))] (some ((.bin .eql (lA 2 0) (lA 3 0)), true)) 15 101 [(lA 2 1), (lA 3 1)] [], .asg [] [(4, (.ite (.bin .eql (lA 2 0) (lA 3 0)) (.v 15) (.boo false)))]])
(.ret (.v 4) []))⟩
def v_slices_EqualFunc_api_Actor_api_Actor_api_Actor_api_Actor_L1 : VC :=
(.seq
(.st [.asg [(.bin .lss (.v 17) (.v 16))] []])
(.seq
(.cond (.bin .lss (.v 17) (.v 16))
.skip
(.exit 0))
(.seq
(.block 1
(.seq
(.st [.asg [] [(7, (.v 17)), (8, (.lp (.cn (.fld none (.ld (some 4) (.ia 4 (.v 15) (.v 17)) 0) 0) (.cn (.fld none (.ld (some 4) (.ia 4 (.v 15) (.v 17)) 0) 1) (.cn (.fld none (.ld (some 4) (.ia 4 (.v 15) (.v 17)) 0) 2) (.cn (.fld none (.ld (some 4) (.ia 4 (.v 15) (.v 17)) 0) 3) .nl))))))], .asg [] [(9, (.lp (.cn (.fld none (.ld (some 4) (.ia 4 (.v 1) (.v 7)) 0) 0) (.cn (.fld none (.ld (some 4) (.ia 4 (.v 1) (.v 7)) 0) 1) (.cn (.fld none (.ld (some 4) (.ia 4 (.v 1) (.v 7)) 0) 2) (.cn (.fld none (.ld (some 4) (.ia 4 (.v 1) (.v 7)) 0) 3) .nl))))))], .callv [] none 29 (.v 2) [(.agg (.cn (lA 8 0) (.cn (lA 8 1) (.cn (lA 8 2) (.cn (lA 8 3) .nl))))), (.agg (.cn (lA 9 0) (.cn (lA 9 1) (.cn (lA 9 2) (.cn (lA 9 3) .nl)))))], .asg [(.un .not (.v 29))] []])
(.cond (.un .not (.v 29))
(.seq
(.st [.asg [] [(6, (.boo false))]])
(.ret (.v 6) []))
.skip)))
(.st [.asg [] [(17, (.bin .add (.v 17) (N 1)))]]))))
def v_slices_EqualFunc_api_Actor_api_Actor_api_Actor_api_Actor : VFun := ⟨⟨[.F, .F, .F], .F, true⟩, [],
(.seq
(.st [])
(.seq
(.seq
(.st [.asg [(.bin .neq (.len (.v 0)) (.len (.v 1)))] []])
(.cond (.bin .neq (.len (.v 0)) (.len (.v 1)))
(.seq
(.st [.asg [] [(6, (.boo false))]])
(.ret (.v 6) []))
.skip))
(.seq
(.seq
(.st [.asg [] [(17, (N 0)), (16, (.len (.v 0))), (15, (.v 0))]])
(.block 0
(.loop v_slices_EqualFunc_api_Actor_api_Actor_api_Actor_api_Actor_L1)))
(.seq
(.st [.asg [] [(6, (.boo true))]])
(.ret (.v 6) [])))))⟩
def v_prog_sameActor : VFun := ⟨⟨[.F, .F], .F, true⟩, [],
(.seq
(.st [.asg [(.chk (some 4) (.v 0)), (.chk (some 4) (.v 1))] [(3, (.lp (.cn (fA 1 0) (.cn (fA 1 1) (.cn (fA 1 2) (.cn (fA 1 3) .nl)))))), (2, (.lp (.cn (fA 0 0) (.cn (fA 0 1) (.cn (fA 0 2) (.cn (fA 0 3) .nl))))))], .call [] none 9 100 [(lA 2 0), (lA 3 0)] [], .asg [(.gd (.v 9) true .nl), (.gd (.v 9) true (.bin .eql (lA 2 1) (lA 3 1))), (.gd (.ite (.v 9) (.bin .eql (lA 2 1) (lA 3 1)) (.boo false)) true (.bin .eql (lA 2 2) (lA 3 2))), (.gd (.ite (.ite (.v 9) (.bin .eql (lA 2 1) (lA 3 1)) (.boo false)) (.bin .eql (lA 2 2) (lA 3 2)) (.boo false)) true (.eqb false (lA 2 3) (lA 3 3)))] [(4, (.ite (.ite (.ite (.v 9) (.bin .eql (lA 2 1) (lA 3 1)) (.boo false)) (.bin .eql (lA 2 2) (lA 3 2)) (.boo false)) (.eqb false (lA 2 3) (lA 3 3)) (.boo false)))]])
(.ret (.v 4) []))⟩
def v_slices_EqualFunc_api_Note_api_Note_api_Note_api_Note_L1 : VC :=
(.seq
(.st [.asg [(.bin .lss (.v 17) (.v 16))] []])
(.seq
(.cond (.bin .lss (.v 17) (.v 16))
.skip
(.exit 0))
(.seq
(.block 1
(.seq
(.st [.asg [] [(7, (.v 17)), (8, (.lp (.cn (.fld none (.ld (some 3) (.ia 3 (.v 15) (.v 17)) 0) 0) (.cn (.fld none (.ld (some 3) (.ia 3 (.v 15) (.v 17)) 0) 1) (.cn (.fld none (.ld (some 3) (.ia 3 (.v 15) (.v 17)) 0) 2) .nl)))))], .asg [] [(9, (.lp (.cn (.fld none (.ld (some 3) (.ia 3 (.v 1) (.v 7)) 0) 0) (.cn (.fld none (.ld (some 3) (.ia 3 (.v 1) (.v 7)) 0) 1) (.cn (.fld none (.ld (some 3) (.ia 3 (.v 1) (.v 7)) 0) 2) .nl)))))], .callv [] none 29 (.v 2) [(.agg (.cn (lA 8 0) (.cn (lA 8 1) (.cn (lA 8 2) .nl)))), (.agg (.cn (lA 9 0) (.cn (lA 9 1) (.cn (lA 9 2) .nl))))], .asg [(.un .not (.v 29))] []])
(.cond (.un .not (.v 29))
(.seq
(.st [.asg [] [(6, (.boo false))]])
(.ret (.v 6) []))
.skip)))
(.st [.asg [] [(17, (.bin .add (.v 17) (N 1)))]]))))
def v_slices_EqualFunc_api_Note_api_Note_api_Note_api_Note : VFun := ⟨⟨[.F, .F, .F], .F, true⟩, [],
(.seq
(.st [])
(.seq
(.seq
(.st [.asg [(.bin .neq (.len (.v 0)) (.len (.v 1)))] []])
(.cond (.bin .neq (.len (.v 0)) (.len (.v 1)))
(.seq
(.st [.asg [] [(6, (.boo false))]])
(.ret (.v 6) []))
.skip))
(.seq
(.seq
(.st [.asg [] [(17, (N 0)), (16, (.len (.v 0))), (15, (.v 0))]])
(.block 0
(.loop v_slices_EqualFunc_api_Note_api_Note_api_Note_api_Note_L1)))
(.seq
(.st [.asg [] [(6, (.boo true))]])
(.ret (.v 6) [])))))⟩
def v_slices_Equal_int_int_L1 : VC :=
(.seq
(.st [.asg [(.bin .lss (.v 13) (.v 12))] []])
(.seq
(.cond (.bin .lss (.v 13) (.v 12))
.skip
(.exit 0))
(.seq
(.block 1
(.seq
(.st [.asg [] [(5, (.v 13))], .asg [(.bin .neq (.ld none (.ia 1 (.v 0) (.v 5)) 0) (.ld none (.ia 1 (.v 1) (.v 5)) 0))] []])
(.cond (.bin .neq (.ld none (.ia 1 (.v 0) (.v 5)) 0) (.ld none (.ia 1 (.v 1) (.v 5)) 0))
(.seq
(.st [.asg [] [(4, (.boo false))]])
(.ret (.v 4) []))
.skip)))
(.st [.asg [] [(13, (.bin .add (.v 13) (N 1)))]]))))
def v_slices_Equal_int_int : VFun := ⟨⟨[.F, .F], .F, true⟩, [],
(.seq
(.st [])
(.seq
(.seq
(.st [.asg [(.bin .neq (.len (.v 0)) (.len (.v 1)))] []])
(.cond (.bin .neq (.len (.v 0)) (.len (.v 1)))
(.seq
(.st [.asg [] [(4, (.boo false))]])
(.ret (.v 4) []))
.skip))
(.seq
(.seq
(.st [.asg [] [(13, (N 0)), (12, (.len (.v 0)))]])
(.block 0
(.loop v_slices_Equal_int_int_L1)))
(.seq
(.st [.asg [] [(4, (.boo true))]])
(.ret (.v 4) [])))))⟩
def v_slices_Equal_api_Instr_api_Instr_L1 : VC :=
(.seq
(.st [.asg [(.bin .lss (.v 13) (.v 12))] []])
(.seq
(.cond (.bin .lss (.v 13) (.v 12))
.skip
(.exit 0))
(.seq
(.block 1
(.seq
(.st [.asg [] [(5, (.v 13))], .asg [(.eqs true [false, false] (.ld (some 2) (.ia 2 (.v 0) (.v 5)) 0) (.ld (some 2) (.ia 2 (.v 1) (.v 5)) 0))] []])
(.cond (.eqs true [false, false] (.ld (some 2) (.ia 2 (.v 0) (.v 5)) 0) (.ld (some 2) (.ia 2 (.v 1) (.v 5)) 0))
(.seq
(.st [.asg [] [(4, (.boo false))]])
(.ret (.v 4) []))
.skip)))
(.st [.asg [] [(13, (.bin .add (.v 13) (N 1)))]]))))
def v_slices_Equal_api_Instr_api_Instr : VFun := ⟨⟨[.F, .F], .F, true⟩, [],
(.seq
(.st [])
(.seq
(.seq
(.st [.asg [(.bin .neq (.len (.v 0)) (.len (.v 1)))] []])
(.cond (.bin .neq (.len (.v 0)) (.len (.v 1)))
(.seq
(.st [.asg [] [(4, (.boo false))]])
(.ret (.v 4) []))
.skip))
(.seq
(.seq
(.st [.asg [] [(13, (N 0)), (12, (.len (.v 0)))]])
(.block 0
(.loop v_slices_Equal_api_Instr_api_Instr_L1)))
(.seq
(.st [.asg [] [(4, (.boo true))]])
(.ret (.v 4) [])))))⟩
def VTL : List (Option VFun) := [none, none, some v_law22_WireBack, none, none, none, none, none, none, none, some yesV, some v_wire_Number, some v_wire_Take, none, none, some v_law22_small, some v_wire_Encode, none, some v_law22_task, some v_wire_Decode, none, some v_ref20_SameTask, some v_wire_Same, some v_alike_Round, none, none, none, none, none, none, none, none, none, none, none, none, none, none, none, none, none, none, none, none, none, none, some v_alike_Small, some v_alike_Watches, some v_wire_put, some v_wire_putProgram, some v_wire_putCode, none, none, none, some v_wire_Read, some v_wire_Reader_program, some v_wire_Reader_Count, some v_wire_Reader_code, some v_wire_Reader_Num, some v_wire_Reader_Good, none, none, none, none, some v_ref1_SameProg, some v_ref1_Code, some v_wire_Same_1, some v_slices_Equal_api_Watch_api_Instr, some v_prog_Same, some v_slices_EqualFunc_api_Watch_api_Watch_api_Watch_api_Watch, none, none, none, none, none, none, none, none, none, none, some v_ref1_SameNote, none, none, none, some v_prog_SameNote, some v_wire_putNumbers, some v_wire_flag, some v_wire_Reader_numbers, some v_wire_Reader_flag, some v_ref1_SameNotes, some v_ref1_Ints, some v_slices_EqualFunc_api_Handler_api_Handler_api_Handler_api_Handler, some v_prog_sameHandler, some v_slices_EqualFunc_api_Actor_api_Actor_api_Actor_api_Actor, some v_prog_sameActor, some v_slices_EqualFunc_api_Note_api_Note_api_Note_api_Note, none, none, none, none, some v_slices_Equal_int_int, some v_slices_Equal_api_Instr_api_Instr]
def tVT : Nat → Option VFun := tabV VTL
def tVS : Nat → Option Sig := fun g => (tVT g).map VFun.sig
end Gv

namespace Gv
open Go
theorem mk2 : EntOk (tabOf FTL) tVS 2 v_law22_WireBack := .inl ⟨f_law22_WireBack, rfl, by kernel_rfl⟩
theorem mk11 : EntOk (tabOf FTL) tVS 11 v_wire_Number := .inl ⟨f_wire_Number, rfl, by kernel_rfl⟩
theorem mk12 : EntOk (tabOf FTL) tVS 12 v_wire_Take := .inl ⟨f_wire_Take, rfl, by kernel_rfl⟩
theorem mk15 : EntOk (tabOf FTL) tVS 15 v_law22_small := .inl ⟨f_law22_small, rfl, by kernel_rfl⟩
theorem mk16 : EntOk (tabOf FTL) tVS 16 v_wire_Encode := .inl ⟨f_wire_Encode, rfl, by kernel_rfl⟩
theorem mk18 : EntOk (tabOf FTL) tVS 18 v_law22_task := .inl ⟨f_law22_task, rfl, by kernel_rfl⟩
theorem mk19 : EntOk (tabOf FTL) tVS 19 v_wire_Decode := .inl ⟨f_wire_Decode, rfl, by kernel_rfl⟩
theorem mk21 : EntOk (tabOf FTL) tVS 21 v_ref20_SameTask := .inl ⟨f_ref20_SameTask, rfl, by kernel_rfl⟩
theorem mk22 : EntOk (tabOf FTL) tVS 22 v_wire_Same := .inl ⟨f_wire_Same, rfl, by kernel_rfl⟩
theorem mk23 : EntOk (tabOf FTL) tVS 23 v_alike_Round := .inl ⟨f_alike_Round, rfl, by kernel_rfl⟩
theorem mk46 : EntOk (tabOf FTL) tVS 46 v_alike_Small := .inl ⟨f_alike_Small, rfl, by kernel_rfl⟩
theorem mk47 : EntOk (tabOf FTL) tVS 47 v_alike_Watches := .inl ⟨f_alike_Watches, rfl, by kernel_rfl⟩
theorem mk48 : EntOk (tabOf FTL) tVS 48 v_wire_put := .inl ⟨f_wire_put, rfl, by kernel_rfl⟩
theorem mk49 : EntOk (tabOf FTL) tVS 49 v_wire_putProgram := .inl ⟨f_wire_putProgram, rfl, by kernel_rfl⟩
theorem mk50 : EntOk (tabOf FTL) tVS 50 v_wire_putCode := .inl ⟨f_wire_putCode, rfl, by kernel_rfl⟩
theorem mk54 : EntOk (tabOf FTL) tVS 54 v_wire_Read := .inl ⟨f_wire_Read, rfl, by kernel_rfl⟩
theorem mk55 : EntOk (tabOf FTL) tVS 55 v_wire_Reader_program := .inl ⟨f_wire_Reader_program, rfl, by kernel_rfl⟩
theorem mk56 : EntOk (tabOf FTL) tVS 56 v_wire_Reader_Count := .inl ⟨f_wire_Reader_Count, rfl, by kernel_rfl⟩
theorem mk57 : EntOk (tabOf FTL) tVS 57 v_wire_Reader_code := .inl ⟨f_wire_Reader_code, rfl, by kernel_rfl⟩
theorem mk58 : EntOk (tabOf FTL) tVS 58 v_wire_Reader_Num := .inl ⟨f_wire_Reader_Num, rfl, by kernel_rfl⟩
theorem mk59 : EntOk (tabOf FTL) tVS 59 v_wire_Reader_Good := .inl ⟨f_wire_Reader_Good, rfl, by kernel_rfl⟩
theorem mk64 : EntOk (tabOf FTL) tVS 64 v_ref1_SameProg := .inl ⟨f_ref1_SameProg, rfl, by kernel_rfl⟩
theorem mk65 : EntOk (tabOf FTL) tVS 65 v_ref1_Code := .inl ⟨f_ref1_Code, rfl, by kernel_rfl⟩
theorem mk66 : EntOk (tabOf FTL) tVS 66 v_wire_Same_1 := .inl ⟨f_wire_Same_1, rfl, by kernel_rfl⟩
theorem mk67 : EntOk (tabOf FTL) tVS 67 v_slices_Equal_api_Watch_api_Instr := .inl ⟨f_slices_Equal_api_Watch_api_Instr, rfl, by kernel_rfl⟩
theorem mk68 : EntOk (tabOf FTL) tVS 68 v_prog_Same := .inl ⟨f_prog_Same, rfl, by kernel_rfl⟩
theorem mk69 : EntOk (tabOf FTL) tVS 69 v_slices_EqualFunc_api_Watch_api_Watch_api_Watch_api_Watch := .inl ⟨f_slices_EqualFunc_api_Watch_api_Watch_api_Watch_api_Watch, rfl, by kernel_rfl⟩
theorem mk80 : EntOk (tabOf FTL) tVS 80 v_ref1_SameNote := .inl ⟨f_ref1_SameNote, rfl, by kernel_rfl⟩
theorem mk84 : EntOk (tabOf FTL) tVS 84 v_prog_SameNote := .inl ⟨f_prog_SameNote, rfl, by kernel_rfl⟩
theorem mk85 : EntOk (tabOf FTL) tVS 85 v_wire_putNumbers := .inl ⟨f_wire_putNumbers, rfl, by kernel_rfl⟩
theorem mk86 : EntOk (tabOf FTL) tVS 86 v_wire_flag := .inl ⟨f_wire_flag, rfl, by kernel_rfl⟩
theorem mk87 : EntOk (tabOf FTL) tVS 87 v_wire_Reader_numbers := .inl ⟨f_wire_Reader_numbers, rfl, by kernel_rfl⟩
theorem mk88 : EntOk (tabOf FTL) tVS 88 v_wire_Reader_flag := .inl ⟨f_wire_Reader_flag, rfl, by kernel_rfl⟩
theorem mk89 : EntOk (tabOf FTL) tVS 89 v_ref1_SameNotes := .inl ⟨f_ref1_SameNotes, rfl, by kernel_rfl⟩
theorem mk90 : EntOk (tabOf FTL) tVS 90 v_ref1_Ints := .inl ⟨f_ref1_Ints, rfl, by kernel_rfl⟩
theorem mk91 : EntOk (tabOf FTL) tVS 91 v_slices_EqualFunc_api_Handler_api_Handler_api_Handler_api_Handler := .inl ⟨f_slices_EqualFunc_api_Handler_api_Handler_api_Handler_api_Handler, rfl, by kernel_rfl⟩
theorem mk92 : EntOk (tabOf FTL) tVS 92 v_prog_sameHandler := .inl ⟨f_prog_sameHandler, rfl, by kernel_rfl⟩
theorem mk93 : EntOk (tabOf FTL) tVS 93 v_slices_EqualFunc_api_Actor_api_Actor_api_Actor_api_Actor := .inl ⟨f_slices_EqualFunc_api_Actor_api_Actor_api_Actor_api_Actor, rfl, by kernel_rfl⟩
theorem mk94 : EntOk (tabOf FTL) tVS 94 v_prog_sameActor := .inl ⟨f_prog_sameActor, rfl, by kernel_rfl⟩
theorem mk95 : EntOk (tabOf FTL) tVS 95 v_slices_EqualFunc_api_Note_api_Note_api_Note_api_Note := .inl ⟨f_slices_EqualFunc_api_Note_api_Note_api_Note_api_Note, rfl, by kernel_rfl⟩
theorem mk100 : EntOk (tabOf FTL) tVS 100 v_slices_Equal_int_int := .inl ⟨f_slices_Equal_int_int, rfl, by kernel_rfl⟩
theorem mk101 : EntOk (tabOf FTL) tVS 101 v_slices_Equal_api_Instr_api_Instr := .inl ⟨f_slices_Equal_api_Instr_api_Instr, rfl, by kernel_rfl⟩
end Gv

namespace Gv
open Go
theorem tVT_ok : VTOk' (tabOf FTL) tVT := by
  have key : ∀ n, ∀ f F, tabV VTL f = some F → f < n → F.binds = [] ∧ EntOk (tabOf FTL) tVS f F := by
    intro n f F h hn
    match f, h with
    | 0, h => cases h
    | 1, h => cases h
    | 2, h => cases h; exact ⟨rfl, mk2⟩
    | 3, h => cases h
    | 4, h => cases h
    | 5, h => cases h
    | 6, h => cases h
    | 7, h => cases h
    | 8, h => cases h
    | 9, h => cases h
    | 10, h => cases h; exact ⟨rfl, yes_ent awakeV⟩
    | 11, h => cases h; exact ⟨rfl, mk11⟩
    | 12, h => cases h; exact ⟨rfl, mk12⟩
    | 13, h => cases h
    | 14, h => cases h
    | 15, h => cases h; exact ⟨rfl, mk15⟩
    | 16, h => cases h; exact ⟨rfl, mk16⟩
    | 17, h => cases h
    | 18, h => cases h; exact ⟨rfl, mk18⟩
    | 19, h => cases h; exact ⟨rfl, mk19⟩
    | 20, h => cases h
    | 21, h => cases h; exact ⟨rfl, mk21⟩
    | 22, h => cases h; exact ⟨rfl, mk22⟩
    | 23, h => cases h; exact ⟨rfl, mk23⟩
    | 24, h => cases h
    | 25, h => cases h
    | 26, h => cases h
    | 27, h => cases h
    | 28, h => cases h
    | 29, h => cases h
    | 30, h => cases h
    | 31, h => cases h
    | 32, h => cases h
    | 33, h => cases h
    | 34, h => cases h
    | 35, h => cases h
    | 36, h => cases h
    | 37, h => cases h
    | 38, h => cases h
    | 39, h => cases h
    | 40, h => cases h
    | 41, h => cases h
    | 42, h => cases h
    | 43, h => cases h
    | 44, h => cases h
    | 45, h => cases h
    | 46, h => cases h; exact ⟨rfl, mk46⟩
    | 47, h => cases h; exact ⟨rfl, mk47⟩
    | 48, h => cases h; exact ⟨rfl, mk48⟩
    | 49, h => cases h; exact ⟨rfl, mk49⟩
    | 50, h => cases h; exact ⟨rfl, mk50⟩
    | 51, h => cases h
    | 52, h => cases h
    | 53, h => cases h
    | 54, h => cases h; exact ⟨rfl, mk54⟩
    | 55, h => cases h; exact ⟨rfl, mk55⟩
    | 56, h => cases h; exact ⟨rfl, mk56⟩
    | 57, h => cases h; exact ⟨rfl, mk57⟩
    | 58, h => cases h; exact ⟨rfl, mk58⟩
    | 59, h => cases h; exact ⟨rfl, mk59⟩
    | 60, h => cases h
    | 61, h => cases h
    | 62, h => cases h
    | 63, h => cases h
    | 64, h => cases h; exact ⟨rfl, mk64⟩
    | 65, h => cases h; exact ⟨rfl, mk65⟩
    | 66, h => cases h; exact ⟨rfl, mk66⟩
    | 67, h => cases h; exact ⟨rfl, mk67⟩
    | 68, h => cases h; exact ⟨rfl, mk68⟩
    | 69, h => cases h; exact ⟨rfl, mk69⟩
    | 70, h => cases h
    | 71, h => cases h
    | 72, h => cases h
    | 73, h => cases h
    | 74, h => cases h
    | 75, h => cases h
    | 76, h => cases h
    | 77, h => cases h
    | 78, h => cases h
    | 79, h => cases h
    | 80, h => cases h; exact ⟨rfl, mk80⟩
    | 81, h => cases h
    | 82, h => cases h
    | 83, h => cases h
    | 84, h => cases h; exact ⟨rfl, mk84⟩
    | 85, h => cases h; exact ⟨rfl, mk85⟩
    | 86, h => cases h; exact ⟨rfl, mk86⟩
    | 87, h => cases h; exact ⟨rfl, mk87⟩
    | 88, h => cases h; exact ⟨rfl, mk88⟩
    | 89, h => cases h; exact ⟨rfl, mk89⟩
    | 90, h => cases h; exact ⟨rfl, mk90⟩
    | 91, h => cases h; exact ⟨rfl, mk91⟩
    | 92, h => cases h; exact ⟨rfl, mk92⟩
    | 93, h => cases h; exact ⟨rfl, mk93⟩
    | 94, h => cases h; exact ⟨rfl, mk94⟩
    | 95, h => cases h; exact ⟨rfl, mk95⟩
    | 96, h => cases h
    | 97, h => cases h
    | 98, h => cases h
    | 99, h => cases h
    | 100, h => cases h; exact ⟨rfl, mk100⟩
    | 101, h => cases h; exact ⟨rfl, mk101⟩
    | f + 102, h => cases h
  exact fun f F h => key (f + 1) f F h (by omega)
end Gv
