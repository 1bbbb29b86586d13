/- What this file proves: one part of the proof that the law answers true for every input, by an interpreter that is proved sound against the given model. -/
import Derived.Test.YtkjefeclbdjkcaaVn
import Derived.Test.YtkjefeclbdjkcaaIrm
import Derived.KernelRfl
namespace Gv
open Go
abbrev N (n : Int) : X := .int .i64 n
abbrev lA (a b : Nat) : X := .ld none (.v a) b
abbrev fA (a b : Nat) : X := .fld none (.v a) b
def v_law8_MailTells : VFun := ⟨⟨[.F, .F, .F, .F], .F, true⟩, [],
(.seq
(.st [.asg [(.chk (some 6) (.v 2))] [(6, (.lp (.cn (fA 2 0) (.cn (fA 2 1) (.cn (fA 2 2) (.cn (fA 2 3) (.cn (fA 2 4) (.cn (fA 2 5) .nl))))))))]])
(.seq
(.seq
(.st [.call [] none 20 30 [(.v 0)] [], .call [(.un .not (.v 20))] (some ((.un .not (.v 20)), false)) 24 30 [(.v 1)] [], .asg [(.gd (.un .not (.v 20)) false (.un .not (.v 24))), (.gd (.ite (.un .not (.v 20)) (.boo true) (.un .not (.v 24))) false (.len (lA 6 5))), (.gd (.ite (.un .not (.v 20)) (.boo true) (.un .not (.v 24))) false (.bin .gtr (.len (lA 6 5)) (N 6))), (.ite (.ite (.un .not (.v 20)) (.boo true) (.un .not (.v 24))) (.boo true) (.bin .gtr (.len (lA 6 5)) (N 6)))] []])
(.cond (.ite (.ite (.un .not (.v 20)) (.boo true) (.un .not (.v 24))) (.boo true) (.bin .gtr (.len (lA 6 5)) (N 6)))
(.seq
(.st [.call [] none 34 31 [] [], .asg [] [(8, (.v 34))]])
(.ret (.v 8) []))
.skip))
(.seq
(.st [.call [] none 38 32 [(.v 0), (.agg (.cn (lA 6 0) (.cn (lA 6 1) (.cn (lA 6 2) (.cn (lA 6 3) (.cn (lA 6 4) (.cn (lA 6 5) .nl)))))))] [], .asg [] [(10, (.ext (.v 38) 1)), (9, (.ext (.v 38) 0))], .call [] none 44 33 [(.v 0), (.agg (.cn (lA 6 0) (.cn (lA 6 1) (.cn (lA 6 2) (.cn (lA 6 3) (.cn (lA 6 4) (.cn (lA 6 5) .nl)))))))] [], .asg [] [(12, (.ext (.v 44) 1)), (11, (.ext (.v 44) 0))], .call [] none 51 34 [(.v 0), (.agg (.cn (lA 6 0) (.cn (lA 6 1) (.cn (lA 6 2) .nl))))] [], .asg [(.chk (some 6) (.ext (.v 51) 1))] [(15, (.ext (.v 51) 2)), (13, (.ext (.v 51) 0)), (14, (.lp (.cn (.fld none (.ext (.v 51) 1) 0) (.cn (.fld none (.ext (.v 51) 1) 1) (.cn (.fld none (.ext (.v 51) 1) 2) (.cn (.fld none (.ext (.v 51) 1) 3) (.cn (.fld none (.ext (.v 51) 1) 4) (.cn (.fld none (.ext (.v 51) 1) 5) .nl))))))))], .call [] none 59 35 [(.v 0), (.agg (.cn (lA 6 0) (.cn (lA 6 1) (.cn (lA 6 2) .nl))))] [], .asg [(.chk (some 6) (.ext (.v 59) 1))] [(18, (.ext (.v 59) 2)), (16, (.ext (.v 59) 0)), (17, (.lp (.cn (.fld none (.ext (.v 59) 1) 0) (.cn (.fld none (.ext (.v 59) 1) 1) (.cn (.fld none (.ext (.v 59) 1) 2) (.cn (.fld none (.ext (.v 59) 1) 3) (.cn (.fld none (.ext (.v 59) 1) 4) (.cn (.fld none (.ext (.v 59) 1) 5) .nl))))))))]])
(.seq
(.seq
(.st [.call [] none 65 36 [(.v 9), (.v 11)] [], .call [(.gd (.un .not (.v 65)) false (.bin .eql (.v 10) (N 0))), (.gd (.un .not (.v 65)) false (.eqb true (.bin .eql (.v 10) (N 0)) (.v 12))), (.gd (.gd (.ite (.un .not (.v 65)) (.boo true) (.eqb true (.bin .eql (.v 10) (N 0)) (.v 12))) false (.un .not (.v 12))) true (.bin .neq (.v 10) (N 1))), (.gd (.ite (.un .not (.v 65)) (.boo true) (.eqb true (.bin .eql (.v 10) (N 0)) (.v 12))) false (.ite (.un .not (.v 12)) (.bin .neq (.v 10) (N 1)) (.boo false))), (.ite (.ite (.un .not (.v 65)) (.boo true) (.eqb true (.bin .eql (.v 10) (N 0)) (.v 12))) (.boo true) (.ite (.un .not (.v 12)) (.bin .neq (.v 10) (N 1)) (.boo false)))] (some ((.ite (.ite (.un .not (.v 65)) (.boo true) (.eqb true (.bin .eql (.v 10) (N 0)) (.v 12))) (.boo true) (.ite (.un .not (.v 12)) (.bin .neq (.v 10) (N 1)) (.boo false))), false)) 84 36 [(.v 13), (.v 16)] [], .call [(.gd (.ite (.ite (.un .not (.v 65)) (.boo true) (.eqb true (.bin .eql (.v 10) (N 0)) (.v 12))) (.boo true) (.ite (.un .not (.v 12)) (.bin .neq (.v 10) (N 1)) (.boo false))) false (.un .not (.v 84))), (.gd (.ite (.ite (.ite (.un .not (.v 65)) (.boo true) (.eqb true (.bin .eql (.v 10) (N 0)) (.v 12))) (.boo true) (.ite (.un .not (.v 12)) (.bin .neq (.v 10) (N 1)) (.boo false))) (.boo true) (.un .not (.v 84))) false (.chk (some 6) (.agg (.cn (lA 14 0) (.cn (lA 14 1) (.cn (lA 14 2) (.cn (lA 14 3) (.cn (lA 14 4) (.cn (lA 14 5) .nl))))))))), (.gd (.ite (.ite (.ite (.un .not (.v 65)) (.boo true) (.eqb true (.bin .eql (.v 10) (N 0)) (.v 12))) (.boo true) (.ite (.un .not (.v 12)) (.bin .neq (.v 10) (N 1)) (.boo false))) (.boo true) (.un .not (.v 84))) false (.chk (some 6) (.agg (.cn (lA 17 0) (.cn (lA 17 1) (.cn (lA 17 2) (.cn (lA 17 3) (.cn (lA 17 4) (.cn (lA 17 5) .nl)))))))))] (some ((.ite (.ite (.ite (.un .not (.v 65)) (.boo true) (.eqb true (.bin .eql (.v 10) (N 0)) (.v 12))) (.boo true) (.ite (.un .not (.v 12)) (.bin .neq (.v 10) (N 1)) (.boo false))) (.boo true) (.un .not (.v 84))), false)) 92 36 [(.lst (.cn (.agg (.cn (lA 14 0) (.cn (lA 14 1) (.cn (lA 14 2) (.cn (lA 14 3) (.cn (lA 14 4) (.cn (lA 14 5) .nl))))))) .nl)), (.lst (.cn (.agg (.cn (lA 17 0) (.cn (lA 17 1) (.cn (lA 17 2) (.cn (lA 17 3) (.cn (lA 17 4) (.cn (lA 17 5) .nl))))))) .nl))] [], .asg [(.gd (.ite (.ite (.ite (.un .not (.v 65)) (.boo true) (.eqb true (.bin .eql (.v 10) (N 0)) (.v 12))) (.boo true) (.ite (.un .not (.v 12)) (.bin .neq (.v 10) (N 1)) (.boo false))) (.boo true) (.un .not (.v 84))) false (.un .not (.v 92))), (.gd (.ite (.ite (.ite (.ite (.un .not (.v 65)) (.boo true) (.eqb true (.bin .eql (.v 10) (N 0)) (.v 12))) (.boo true) (.ite (.un .not (.v 12)) (.bin .neq (.v 10) (N 1)) (.boo false))) (.boo true) (.un .not (.v 84))) (.boo true) (.un .not (.v 92))) false (.bin .eql (.v 15) (N 0))), (.gd (.ite (.ite (.ite (.ite (.un .not (.v 65)) (.boo true) (.eqb true (.bin .eql (.v 10) (N 0)) (.v 12))) (.boo true) (.ite (.un .not (.v 12)) (.bin .neq (.v 10) (N 1)) (.boo false))) (.boo true) (.un .not (.v 84))) (.boo true) (.un .not (.v 92))) false (.eqb true (.bin .eql (.v 15) (N 0)) (.v 18))), (.gd (.gd (.ite (.ite (.ite (.ite (.ite (.un .not (.v 65)) (.boo true) (.eqb true (.bin .eql (.v 10) (N 0)) (.v 12))) (.boo true) (.ite (.un .not (.v 12)) (.bin .neq (.v 10) (N 1)) (.boo false))) (.boo true) (.un .not (.v 84))) (.boo true) (.un .not (.v 92))) (.boo true) (.eqb true (.bin .eql (.v 15) (N 0)) (.v 18))) false (.un .not (.v 18))) true (.bin .neq (.v 15) (N 8))), (.gd (.ite (.ite (.ite (.ite (.ite (.un .not (.v 65)) (.boo true) (.eqb true (.bin .eql (.v 10) (N 0)) (.v 12))) (.boo true) (.ite (.un .not (.v 12)) (.bin .neq (.v 10) (N 1)) (.boo false))) (.boo true) (.un .not (.v 84))) (.boo true) (.un .not (.v 92))) (.boo true) (.eqb true (.bin .eql (.v 15) (N 0)) (.v 18))) false (.ite (.un .not (.v 18)) (.bin .neq (.v 15) (N 8)) (.boo false))), (.ite (.ite (.ite (.ite (.ite (.ite (.un .not (.v 65)) (.boo true) (.eqb true (.bin .eql (.v 10) (N 0)) (.v 12))) (.boo true) (.ite (.un .not (.v 12)) (.bin .neq (.v 10) (N 1)) (.boo false))) (.boo true) (.un .not (.v 84))) (.boo true) (.un .not (.v 92))) (.boo true) (.eqb true (.bin .eql (.v 15) (N 0)) (.v 18))) (.boo true) (.ite (.un .not (.v 18)) (.bin .neq (.v 15) (N 8)) (.boo false)))] []])
(.cond (.ite (.ite (.ite (.ite (.ite (.ite (.un .not (.v 65)) (.boo true) (.eqb true (.bin .eql (.v 10) (N 0)) (.v 12))) (.boo true) (.ite (.un .not (.v 12)) (.bin .neq (.v 10) (N 1)) (.boo false))) (.boo true) (.un .not (.v 84))) (.boo true) (.un .not (.v 92))) (.boo true) (.eqb true (.bin .eql (.v 15) (N 0)) (.v 18))) (.boo true) (.ite (.un .not (.v 18)) (.bin .neq (.v 15) (N 8)) (.boo false)))
(.seq
(.st [.asg [] [(8, (.boo false))]])
(.ret (.v 8) []))
.skip))
(.seq
(.st [.call [] none 110 37 [(.v 0)] [], .call [] none 112 38 [(.v 0)] [], .call [(.eqb false (.v 110) (.v 112))] (some ((.eqb false (.v 110) (.v 112)), true)) 118 39 [(.v 0), (.agg (.cn (lA 6 0) (.cn (lA 6 1) (.cn (lA 6 2) .nl))))] [], .call [] (some ((.eqb false (.v 110) (.v 112)), true)) 122 40 [(.v 0), (.agg (.cn (lA 6 0) (.cn (lA 6 1) (.cn (lA 6 2) .nl))))] [], .call [(.gd (.eqb false (.v 110) (.v 112)) true (.bin .eql (.v 118) (.v 122))), (.ite (.eqb false (.v 110) (.v 112)) (.bin .eql (.v 118) (.v 122)) (.boo false))] (some ((.ite (.eqb false (.v 110) (.v 112)) (.bin .eql (.v 118) (.v 122)) (.boo false)), true)) 128 41 [(.v 0), (.v 3)] [], .call [] (some ((.ite (.eqb false (.v 110) (.v 112)) (.bin .eql (.v 118) (.v 122)) (.boo false)), true)) 131 42 [(.v 0), (.v 3)] [], .call [(.gd (.ite (.eqb false (.v 110) (.v 112)) (.bin .eql (.v 118) (.v 122)) (.boo false)) true (.bin .eql (.v 128) (.v 131))), (.ite (.ite (.eqb false (.v 110) (.v 112)) (.bin .eql (.v 118) (.v 122)) (.boo false)) (.bin .eql (.v 128) (.v 131)) (.boo false))] (some ((.ite (.ite (.eqb false (.v 110) (.v 112)) (.bin .eql (.v 118) (.v 122)) (.boo false)) (.bin .eql (.v 128) (.v 131)) (.boo false)), true)) 137 43 [(.v 0), (.v 1)] [], .call [] (some ((.ite (.ite (.eqb false (.v 110) (.v 112)) (.bin .eql (.v 118) (.v 122)) (.boo false)) (.bin .eql (.v 128) (.v 131)) (.boo false)), true)) 140 36 [(.v 0), (.v 1)] [], .call [(.gd (.ite (.ite (.eqb false (.v 110) (.v 112)) (.bin .eql (.v 118) (.v 122)) (.boo false)) (.bin .eql (.v 128) (.v 131)) (.boo false)) true (.eqb false (.v 137) (.v 140))), (.ite (.ite (.ite (.eqb false (.v 110) (.v 112)) (.bin .eql (.v 118) (.v 122)) (.boo false)) (.bin .eql (.v 128) (.v 131)) (.boo false)) (.eqb false (.v 137) (.v 140)) (.boo false))] (some ((.ite (.ite (.ite (.eqb false (.v 110) (.v 112)) (.bin .eql (.v 118) (.v 122)) (.boo false)) (.bin .eql (.v 128) (.v 131)) (.boo false)) (.eqb false (.v 137) (.v 140)) (.boo false)), true)) 145 312 [(.v 0)] [], .call [] (some ((.ite (.ite (.ite (.eqb false (.v 110) (.v 112)) (.bin .eql (.v 118) (.v 122)) (.boo false)) (.bin .eql (.v 128) (.v 131)) (.boo false)) (.eqb false (.v 137) (.v 140)) (.boo false)), true)) 147 43 [(.v 145), (.v 0)] [], .call [(.gd (.ite (.ite (.ite (.ite (.eqb false (.v 110) (.v 112)) (.bin .eql (.v 118) (.v 122)) (.boo false)) (.bin .eql (.v 128) (.v 131)) (.boo false)) (.eqb false (.v 137) (.v 140)) (.boo false)) (.v 147) (.boo false)) true .nl), (.ite (.ite (.ite (.ite (.eqb false (.v 110) (.v 112)) (.bin .eql (.v 118) (.v 122)) (.boo false)) (.bin .eql (.v 128) (.v 131)) (.boo false)) (.eqb false (.v 137) (.v 140)) (.boo false)) (.v 147) (.boo false))] (some ((.ite (.ite (.ite (.ite (.eqb false (.v 110) (.v 112)) (.bin .eql (.v 118) (.v 122)) (.boo false)) (.bin .eql (.v 128) (.v 131)) (.boo false)) (.eqb false (.v 137) (.v 140)) (.boo false)) (.v 147) (.boo false)), true)) 150 31 [] [], .asg [] [(8, (.ite (.ite (.ite (.ite (.ite (.eqb false (.v 110) (.v 112)) (.bin .eql (.v 118) (.v 122)) (.boo false)) (.bin .eql (.v 128) (.v 131)) (.boo false)) (.eqb false (.v 137) (.v 140)) (.boo false)) (.v 147) (.boo false)) (.v 150) (.boo false)))]])
(.ret (.v 8) []))))))⟩
def v_law8_MailActs_L1 : VC :=
(.seq
(.seq
(.st [.asg [(.bin .lss (.v 5) (.len (.v 0)))] []])
(.cond (.bin .lss (.v 5) (.len (.v 0)))
.skip
(.exit 0)))
(.seq
(.block 1
(.seq
(.st [.asg [] [(6, (.lp (.cn (.fld none (.ld (some 6) (.fa (.ia 7 (.v 0) (.v 5)) 1) 0) 0) (.cn (.fld none (.ld (some 6) (.fa (.ia 7 (.v 0) (.v 5)) 1) 0) 1) (.cn (.fld none (.ld (some 6) (.fa (.ia 7 (.v 0) (.v 5)) 1) 0) 2) (.cn (.fld none (.ld (some 6) (.fa (.ia 7 (.v 0) (.v 5)) 1) 0) 3) (.cn (.fld none (.ld (some 6) (.fa (.ia 7 (.v 0) (.v 5)) 1) 0) 4) (.cn (.fld none (.ld (some 6) (.fa (.ia 7 (.v 0) (.v 5)) 1) 0) 5) .nl))))))))]])
(.seq
(.seq
(.st [.asg [(.bin .gtr (.len (lA 6 5)) (N 6))] []])
(.cond (.bin .gtr (.len (lA 6 5)) (N 6))
(.seq
(.st [.call [] none 36 31 [] [], .asg [] [(2, (.v 36))]])
(.ret (.v 2) []))
.skip))
(.seq
(.st [.call [] none 40 40 [(.v 4), (.agg (.cn (lA 6 0) (.cn (lA 6 1) (.cn (lA 6 2) .nl))))] [], .asg [] [(7, (.v 40))], .call [] none 42 44 [(.v 3)] [], .asg [] [(8, (.v 42))]])
(.seq
(.seq
(.st [.asg [(.bin .eql (.ld none (.fa (.ia 7 (.v 0) (.v 5)) 0) 0) (N 1))] []])
(.cond (.bin .eql (.ld none (.fa (.ia 7 (.v 0) (.v 5)) 0) 0) (N 1))
(.seq
(.st [.call [] none 52 311 [(.v 3), (.agg (.cn (lA 6 0) (.cn (lA 6 1) (.cn (lA 6 2) (.cn (lA 6 3) (.cn (lA 6 4) (.cn (lA 6 5) .nl)))))))] [], .asg [] [(10, (.ext (.v 52) 1)), (9, (.ext (.v 52) 0))]])
(.seq
(.seq
(.st [.call [(.eqb true (.bin .eql (.v 10) (N 0)) (.bin .lss (.v 7) (N 0)))] (some ((.eqb true (.bin .eql (.v 10) (N 0)) (.bin .lss (.v 7) (N 0))), false)) 63 43 [(.v 3), (.v 8)] [], .asg [(.gd (.eqb true (.bin .eql (.v 10) (N 0)) (.bin .lss (.v 7) (N 0))) false (.un .not (.v 63))), (.ite (.eqb true (.bin .eql (.v 10) (N 0)) (.bin .lss (.v 7) (N 0))) (.boo true) (.un .not (.v 63)))] []])
(.cond (.ite (.eqb true (.bin .eql (.v 10) (N 0)) (.bin .lss (.v 7) (N 0))) (.boo true) (.un .not (.v 63)))
(.seq
(.st [.asg [] [(2, (.boo false))]])
(.ret (.v 2) []))
.skip))
(.seq
(.st [.asg [(.bin .eql (.v 10) (N 0))] []])
(.cond (.bin .eql (.v 10) (N 0))
(.st [.asg [] [(3, (.v 9))], .asg [(.chk (some 6) (.agg (.cn (lA 6 0) (.cn (lA 6 1) (.cn (lA 6 2) (.cn (lA 6 3) (.cn (lA 6 4) (.cn (lA 6 5) .nl))))))))] [(4, (.app 6 (.v 4) (.lst (.cn (.agg (.cn (lA 6 0) (.cn (lA 6 1) (.cn (lA 6 2) (.cn (lA 6 3) (.cn (lA 6 4) (.cn (lA 6 5) .nl))))))) .nl))))]])
.skip))))
(.seq
(.st [.call [] none 77 34 [(.v 3), (.agg (.cn (lA 6 0) (.cn (lA 6 1) (.cn (lA 6 2) .nl))))] [], .asg [(.chk (some 6) (.ext (.v 77) 1))] [(13, (.ext (.v 77) 2)), (11, (.ext (.v 77) 0)), (12, (.lp (.cn (.fld none (.ext (.v 77) 1) 0) (.cn (.fld none (.ext (.v 77) 1) 1) (.cn (.fld none (.ext (.v 77) 1) 2) (.cn (.fld none (.ext (.v 77) 1) 3) (.cn (.fld none (.ext (.v 77) 1) 4) (.cn (.fld none (.ext (.v 77) 1) 5) .nl))))))))]])
(.seq
(.seq
(.st [.call [(.eqb true (.bin .eql (.v 13) (N 0)) (.bin .geq (.v 7) (N 0)))] (some ((.eqb true (.bin .eql (.v 13) (N 0)) (.bin .geq (.v 7) (N 0))), false)) 89 43 [(.v 3), (.v 8)] [], .asg [(.gd (.eqb true (.bin .eql (.v 13) (N 0)) (.bin .geq (.v 7) (N 0))) false (.un .not (.v 89))), (.ite (.eqb true (.bin .eql (.v 13) (N 0)) (.bin .geq (.v 7) (N 0))) (.boo true) (.un .not (.v 89)))] []])
(.cond (.ite (.eqb true (.bin .eql (.v 13) (N 0)) (.bin .geq (.v 7) (N 0))) (.boo true) (.un .not (.v 89)))
(.seq
(.st [.asg [] [(2, (.boo false))]])
(.ret (.v 2) []))
.skip))
(.seq
(.st [.asg [(.bin .eql (.v 13) (N 0))] []])
(.cond (.bin .eql (.v 13) (N 0))
(.seq
(.seq
(.st [.call [(.chk (some 6) (.agg (.cn (lA 12 0) (.cn (lA 12 1) (.cn (lA 12 2) (.cn (lA 12 3) (.cn (lA 12 4) (.cn (lA 12 5) .nl)))))))), (.ld (some 6) (.ia 6 (.v 4) (.v 7)) 0)] none 101 36 [(.lst (.cn (.agg (.cn (lA 12 0) (.cn (lA 12 1) (.cn (lA 12 2) (.cn (lA 12 3) (.cn (lA 12 4) (.cn (lA 12 5) .nl))))))) .nl)), (.lst (.cn (.ld (some 6) (.ia 6 (.v 4) (.v 7)) 0) .nl))] [], .asg [(.un .not (.v 101))] []])
(.cond (.un .not (.v 101))
(.seq
(.st [.asg [] [(2, (.boo false))]])
(.ret (.v 2) []))
.skip))
(.st [.asg [] [(3, (.v 11))], .asg [] [(4, (.app 6 (.app 6 (.lst .nl) (.slice 6 (.v 4) .nl (.v 7) .nl)) (.slice 6 (.v 4) (.bin .add (.v 7) (N 1)) .nl .nl)))]]))
.skip))))))
(.seq
(.st [.call [] none 115 37 [(.v 3)] [], .asg [(.gd (.un .not (.v 115)) false (.len (.v 3))), (.gd (.un .not (.v 115)) false (.len (.v 4))), (.gd (.un .not (.v 115)) false (.bin .neq (.len (.v 3)) (.len (.v 4)))), (.ite (.un .not (.v 115)) (.boo true) (.bin .neq (.len (.v 3)) (.len (.v 4))))] []])
(.cond (.ite (.un .not (.v 115)) (.boo true) (.bin .neq (.len (.v 3)) (.len (.v 4))))
(.seq
(.st [.asg [] [(2, (.boo false))]])
(.ret (.v 2) []))
.skip)))))))
(.st [.asg [] [(5, (.bin .add (.v 5) (N 1)))]])))
def v_law8_MailActs_L2 : VC :=
(.seq
(.seq
(.st [.asg [(.bin .lss (.v 14) (.len (.v 4)))] []])
(.cond (.bin .lss (.v 14) (.len (.v 4)))
.skip
(.exit 2)))
(.seq
(.block 3
(.seq
(.st [.call [(.ld (some 3) (.ia 6 (.v 4) (.v 14)) 0)] none 136 39 [(.v 3), (.ld (some 3) (.ia 6 (.v 4) (.v 14)) 0)] [], .asg [] [(15, (.v 136))], .call [(.gd (.bin .lss (.v 15) (N 0)) false (.len (.v 3))), (.gd (.bin .lss (.v 15) (N 0)) false (.bin .geq (.v 15) (.len (.v 3)))), (.gd (.ite (.bin .lss (.v 15) (N 0)) (.boo true) (.bin .geq (.v 15) (.len (.v 3)))) false (.ia 6 (.v 3) (.v 15))), (.gd (.ite (.bin .lss (.v 15) (N 0)) (.boo true) (.bin .geq (.v 15) (.len (.v 3)))) false (.ld (some 6) (.ia 6 (.v 3) (.v 15)) 0)), (.gd (.ite (.bin .lss (.v 15) (N 0)) (.boo true) (.bin .geq (.v 15) (.len (.v 3)))) false (.ia 6 (.v 4) (.v 14))), (.gd (.ite (.bin .lss (.v 15) (N 0)) (.boo true) (.bin .geq (.v 15) (.len (.v 3)))) false (.ld (some 6) (.ia 6 (.v 4) (.v 14)) 0))] (some ((.ite (.bin .lss (.v 15) (N 0)) (.boo true) (.bin .geq (.v 15) (.len (.v 3)))), false)) 156 36 [(.lst (.cn (.ld (some 6) (.ia 6 (.v 3) (.v 15)) 0) .nl)), (.lst (.cn (.ld (some 6) (.ia 6 (.v 4) (.v 14)) 0) .nl))] [], .asg [(.gd (.ite (.bin .lss (.v 15) (N 0)) (.boo true) (.bin .geq (.v 15) (.len (.v 3)))) false (.un .not (.v 156))), (.ite (.ite (.bin .lss (.v 15) (N 0)) (.boo true) (.bin .geq (.v 15) (.len (.v 3)))) (.boo true) (.un .not (.v 156)))] []])
(.cond (.ite (.ite (.bin .lss (.v 15) (N 0)) (.boo true) (.bin .geq (.v 15) (.len (.v 3)))) (.boo true) (.un .not (.v 156)))
(.seq
(.st [.asg [] [(2, (.boo false))]])
(.ret (.v 2) []))
.skip)))
(.st [.asg [] [(14, (.bin .add (.v 14) (N 1)))]])))
def v_law8_MailActs : VFun := ⟨⟨[.F], .F, true⟩, [],
(.seq
(.st [])
(.seq
(.seq
(.st [.asg [(.bin .gtr (.len (.v 0)) (N 40))] []])
(.cond (.bin .gtr (.len (.v 0)) (N 40))
(.seq
(.st [.call [] none 19 31 [] [], .asg [] [(2, (.v 19))]])
(.ret (.v 2) []))
.skip))
(.seq
(.st [.asg [] [(3, (.lst .nl))], .asg [] [(4, (.lst .nl))]])
(.seq
(.seq
(.st [.asg [] [(5, (N 0))]])
(.block 0
(.loop v_law8_MailActs_L1)))
(.seq
(.seq
(.st [.asg [] [(14, (N 0))]])
(.block 2
(.loop v_law8_MailActs_L2)))
(.seq
(.st [.call [] none 159 31 [] [], .asg [] [(2, (.v 159))]])
(.ret (.v 2) [])))))))⟩
def v_law8_MailSorted_L1 : VC :=
(.seq
(.seq
(.st [.asg [(.bin .lss (.v 6) (.len (.v 0)))] []])
(.cond (.bin .lss (.v 6) (.len (.v 0)))
.skip
(.exit 0)))
(.seq
(.block 1
(.seq
(.st [.call [(.ld none (.ia 1 (.v 0) (.v 6)) 0)] none 29 23 [(.ld none (.ia 1 (.v 0) (.v 6)) 0), (N 30)] [], .asg [] [(7, (.v 29))], .call [] none 33 45 [(.v 7)] [], .call [] none 34 311 [(.v 3), (.v 33)] [], .asg [] [(9, (.ext (.v 34) 1)), (8, (.ext (.v 34) 0))]])
(.seq
(.seq
(.st [.asg [(.eqb true (.bin .eql (.v 9) (N 0)) (.un .not (.ld none (.ia 1 (.v 4) (.v 7)) 0)))] []])
(.cond (.eqb true (.bin .eql (.v 9) (N 0)) (.un .not (.ld none (.ia 1 (.v 4) (.v 7)) 0)))
(.seq
(.st [.asg [] [(2, (.boo false))]])
(.ret (.v 2) []))
.skip))
(.seq
(.st [.asg [(.bin .eql (.v 9) (N 0))] []])
(.cond (.bin .eql (.v 9) (N 0))
(.st [.asg [] [(3, (.v 8))], .asg [(.ia 1 (.v 4) (.v 7))] [(4, (.upd none (.v 4) (.v 7) 0 (.boo true)))], .asg [] [(5, (.bin .add (.v 5) (N 1)))]])
.skip)))))
(.st [.asg [] [(6, (.bin .add (.v 6) (N 1)))]])))
def v_law8_MailSorted_L2 : VC :=
(.seq
(.seq
(.st [.asg [(.bin .geq (.v 10) (N 0))] []])
(.cond (.bin .geq (.v 10) (N 0))
.skip
(.exit 2)))
(.seq
(.block 3
(.seq
(.st [.call [] none 78 45 [(.v 10)] [], .call [(.fld (some 3) (.v 78) 0)] none 80 34 [(.v 3), (.fld (some 3) (.v 78) 0)] [], .asg [(.chk (some 6) (.ext (.v 80) 1))] [(13, (.ext (.v 80) 2)), (11, (.ext (.v 80) 0)), (12, (.lp (.cn (.fld none (.ext (.v 80) 1) 0) (.cn (.fld none (.ext (.v 80) 1) 1) (.cn (.fld none (.ext (.v 80) 1) 2) (.cn (.fld none (.ext (.v 80) 1) 3) (.cn (.fld none (.ext (.v 80) 1) 4) (.cn (.fld none (.ext (.v 80) 1) 5) .nl))))))))]])
(.seq
(.seq
(.st [.asg [(.eqb true (.bin .eql (.v 13) (N 0)) (.ld none (.ia 1 (.v 4) (.v 10)) 0))] []])
(.cond (.eqb true (.bin .eql (.v 13) (N 0)) (.ld none (.ia 1 (.v 4) (.v 10)) 0))
(.seq
(.st [.asg [] [(2, (.boo false))]])
(.ret (.v 2) []))
.skip))
(.seq
(.st [.asg [(.bin .eql (.v 13) (N 0))] []])
(.cond (.bin .eql (.v 13) (N 0))
(.seq
(.seq
(.st [.call [(.chk (some 6) (.agg (.cn (lA 12 0) (.cn (lA 12 1) (.cn (lA 12 2) (.cn (lA 12 3) (.cn (lA 12 4) (.cn (lA 12 5) .nl))))))))] none 96 45 [(.v 10)] [], .call [(.chk (some 6) (.v 96))] none 98 43 [(.lst (.cn (.agg (.cn (lA 12 0) (.cn (lA 12 1) (.cn (lA 12 2) (.cn (lA 12 3) (.cn (lA 12 4) (.cn (lA 12 5) .nl))))))) .nl)), (.lst (.cn (.v 96) .nl))] [], .asg [(.gd (.un .not (.v 98)) false (.len (.v 11))), (.gd (.un .not (.v 98)) false (.len (.v 3))), (.gd (.un .not (.v 98)) false (.bin .sub (.len (.v 3)) (N 1))), (.gd (.un .not (.v 98)) false (.bin .neq (.len (.v 11)) (.bin .sub (.len (.v 3)) (N 1)))), (.ite (.un .not (.v 98)) (.boo true) (.bin .neq (.len (.v 11)) (.bin .sub (.len (.v 3)) (N 1))))] []])
(.cond (.ite (.un .not (.v 98)) (.boo true) (.bin .neq (.len (.v 11)) (.bin .sub (.len (.v 3)) (N 1))))
(.seq
(.st [.asg [] [(2, (.boo false))]])
(.ret (.v 2) []))
.skip))
(.st [.asg [] [(3, (.v 11))]]))
.skip)))))
(.st [.asg [] [(10, (.bin .sub (.v 10) (N 1)))]])))
def v_law8_MailSorted : VFun := ⟨⟨[.F], .F, true⟩, [],
(.seq
(.st [])
(.seq
(.seq
(.st [.asg [(.bin .gtr (.len (.v 0)) (N 30))] []])
(.cond (.bin .gtr (.len (.v 0)) (N 30))
(.seq
(.st [.call [] none 17 31 [] [], .asg [] [(2, (.v 17))]])
(.ret (.v 2) []))
.skip))
(.seq
(.st [.asg [] [(3, (.lst .nl))], .asg [] [(4, (.mks 1 (.boo false) (N 30)))], .asg [] [(5, (N 0))]])
(.seq
(.seq
(.st [.asg [] [(6, (N 0))]])
(.block 0
(.loop v_law8_MailSorted_L1)))
(.seq
(.seq
(.st [.call [(.bin .neq (.len (.v 3)) (.v 5))] (some ((.bin .neq (.len (.v 3)) (.v 5)), false)) 59 37 [(.v 3)] [], .call [(.gd (.bin .neq (.len (.v 3)) (.v 5)) false (.un .not (.v 59))), (.ite (.bin .neq (.len (.v 3)) (.v 5)) (.boo true) (.un .not (.v 59)))] (some ((.ite (.bin .neq (.len (.v 3)) (.v 5)) (.boo true) (.un .not (.v 59))), false)) 64 41 [(.v 3), (N 0)] [], .call [] (some ((.ite (.bin .neq (.len (.v 3)) (.v 5)) (.boo true) (.un .not (.v 59))), false)) 66 41 [(.v 3), (N 1)] [], .asg [(.gd (.ite (.bin .neq (.len (.v 3)) (.v 5)) (.boo true) (.un .not (.v 59))) false (.bin .add (.v 64) (.v 66))), (.gd (.ite (.bin .neq (.len (.v 3)) (.v 5)) (.boo true) (.un .not (.v 59))) false (.bin .neq (.bin .add (.v 64) (.v 66)) (.v 5))), (.ite (.ite (.bin .neq (.len (.v 3)) (.v 5)) (.boo true) (.un .not (.v 59))) (.boo true) (.bin .neq (.bin .add (.v 64) (.v 66)) (.v 5)))] []])
(.cond (.ite (.ite (.bin .neq (.len (.v 3)) (.v 5)) (.boo true) (.un .not (.v 59))) (.boo true) (.bin .neq (.bin .add (.v 64) (.v 66)) (.v 5)))
(.seq
(.st [.asg [] [(2, (.boo false))]])
(.ret (.v 2) []))
.skip))
(.seq
(.seq
(.st [.asg [] [(10, (N 29))]])
(.block 2
(.loop v_law8_MailSorted_L2)))
(.seq
(.st [.call [(.bin .eql (.len (.v 3)) (N 0))] (some ((.bin .eql (.len (.v 3)) (N 0)), true)) 113 31 [] [], .asg [] [(2, (.ite (.bin .eql (.len (.v 3)) (N 0)) (.v 113) (.boo false)))]])
(.ret (.v 2) []))))))))⟩
def v_alike_Round : VFun := ⟨⟨[.F, .F], .F, true⟩, [],
(.seq
(.st [.asg [] [(4, (.bin .rem (.bin .add (.bin .rem (.v 0) (.v 1)) (.v 1)) (.v 1)))]])
(.ret (.v 4) []))⟩
def v_alike_Mail_L1 : VC :=
(.seq
(.seq
(.st [.asg [(.gd (.bin .lss (.v 3) (.len (.v 0))) true (.bin .lss (.v 3) (N 60))), (.ite (.bin .lss (.v 3) (.len (.v 0))) (.bin .lss (.v 3) (N 60)) (.boo false))] []])
(.cond (.ite (.bin .lss (.v 3) (.len (.v 0))) (.bin .lss (.v 3) (N 60)) (.boo false))
.skip
(.exit 0)))
(.seq
(.block 1
(.seq
(.st [.asg [(.bin .gtr (.len (.ld none (.fa (.fa (.ia 6 (.v 0) (.v 3)) 3) 2) 0)) (N 6))] []])
(.cond (.bin .gtr (.len (.ld none (.fa (.fa (.ia 6 (.v 0) (.v 3)) 3) 2) 0)) (N 6))
(.seq
(.st [.asg [] [(2, (.boo false))]])
(.ret (.v 2) []))
.skip)))
(.st [.asg [] [(3, (.bin .add (.v 3) (N 1)))]])))
def v_alike_Mail : VFun := ⟨⟨[.F], .F, true⟩, [],
(.seq
(.st [])
(.seq
(.seq
(.st [.asg [] [(3, (N 0))]])
(.block 0
(.loop v_alike_Mail_L1)))
(.seq
(.st [.asg [] [(2, (.bin .leq (.len (.v 0)) (N 50)))]])
(.ret (.v 2) []))))⟩
def v_law8_awake : VFun := ⟨⟨[], .F, true⟩, [],
(.seq
(.st [.call [] none 14 45 [(N 4)] [], .call [] none 15 32 [(.lst .nl), (.v 14)] [], .asg [] [(2, (.ext (.v 15) 1)), (1, (.ext (.v 15) 0))], .call [] none 20 45 [(N 1)] [], .call [] none 21 32 [(.v 1), (.v 20)] [], .asg [] [(4, (.ext (.v 21) 1)), (3, (.ext (.v 21) 0))], .call [] none 26 45 [(N 4)] [], .call [] none 27 32 [(.v 3), (.v 26)] [], .asg [] [(6, (.ext (.v 27) 1))], .call [] none 32 45 [(N 1)] [], .call [(.fld (some 3) (.v 32) 0)] none 34 34 [(.v 3), (.fld (some 3) (.v 32) 0)] [], .asg [(.chk (some 6) (.ext (.v 34) 1))] [(9, (.ext (.v 34) 2)), (7, (.ext (.v 34) 0)), (8, (.lp (.cn (.fld none (.ext (.v 34) 1) 0) (.cn (.fld none (.ext (.v 34) 1) 1) (.cn (.fld none (.ext (.v 34) 1) 2) (.cn (.fld none (.ext (.v 34) 1) 3) (.cn (.fld none (.ext (.v 34) 1) 4) (.cn (.fld none (.ext (.v 34) 1) 5) .nl))))))))], .call [] none 40 45 [(N 1)] [], .call [(.fld (some 3) (.v 40) 0)] none 42 34 [(.v 1), (.fld (some 3) (.v 40) 0)] [], .asg [(.chk (some 6) (.ext (.v 42) 1))] [(12, (.ext (.v 42) 2))], .call [(.gd (.bin .eql (.v 2) (N 0)) true (.bin .eql (.v 4) (N 0))), (.gd (.ite (.bin .eql (.v 2) (N 0)) (.bin .eql (.v 4) (N 0)) (.boo false)) true (.bin .eql (.v 6) (N 1))), (.gd (.ite (.ite (.bin .eql (.v 2) (N 0)) (.bin .eql (.v 4) (N 0)) (.boo false)) (.bin .eql (.v 6) (N 1)) (.boo false)) true (.bin .eql (.v 9) (N 0))), (.gd (.ite (.ite (.ite (.bin .eql (.v 2) (N 0)) (.bin .eql (.v 4) (N 0)) (.boo false)) (.bin .eql (.v 6) (N 1)) (.boo false)) (.bin .eql (.v 9) (N 0)) (.boo false)) true (.bin .eql (.v 12) (N 8))), (.gd (.ite (.ite (.ite (.ite (.bin .eql (.v 2) (N 0)) (.bin .eql (.v 4) (N 0)) (.boo false)) (.bin .eql (.v 6) (N 1)) (.boo false)) (.bin .eql (.v 9) (N 0)) (.boo false)) (.bin .eql (.v 12) (N 8)) (.boo false)) true (.len (.v 3))), (.gd (.ite (.ite (.ite (.ite (.bin .eql (.v 2) (N 0)) (.bin .eql (.v 4) (N 0)) (.boo false)) (.bin .eql (.v 6) (N 1)) (.boo false)) (.bin .eql (.v 9) (N 0)) (.boo false)) (.bin .eql (.v 12) (N 8)) (.boo false)) true (.bin .eql (.len (.v 3)) (N 2))), (.ite (.ite (.ite (.ite (.ite (.bin .eql (.v 2) (N 0)) (.bin .eql (.v 4) (N 0)) (.boo false)) (.bin .eql (.v 6) (N 1)) (.boo false)) (.bin .eql (.v 9) (N 0)) (.boo false)) (.bin .eql (.v 12) (N 8)) (.boo false)) (.bin .eql (.len (.v 3)) (N 2)) (.boo false))] (some ((.ite (.ite (.ite (.ite (.ite (.bin .eql (.v 2) (N 0)) (.bin .eql (.v 4) (N 0)) (.boo false)) (.bin .eql (.v 6) (N 1)) (.boo false)) (.bin .eql (.v 9) (N 0)) (.boo false)) (.bin .eql (.v 12) (N 8)) (.boo false)) (.bin .eql (.len (.v 3)) (N 2)) (.boo false)), true)) 71 37 [(.v 3)] [], .call [(.gd (.ite (.ite (.ite (.ite (.ite (.ite (.bin .eql (.v 2) (N 0)) (.bin .eql (.v 4) (N 0)) (.boo false)) (.bin .eql (.v 6) (N 1)) (.boo false)) (.bin .eql (.v 9) (N 0)) (.boo false)) (.bin .eql (.v 12) (N 8)) (.boo false)) (.bin .eql (.len (.v 3)) (N 2)) (.boo false)) (.v 71) (.boo false)) true .nl), (.gd (.ite (.ite (.ite (.ite (.ite (.ite (.bin .eql (.v 2) (N 0)) (.bin .eql (.v 4) (N 0)) (.boo false)) (.bin .eql (.v 6) (N 1)) (.boo false)) (.bin .eql (.v 9) (N 0)) (.boo false)) (.bin .eql (.v 12) (N 8)) (.boo false)) (.bin .eql (.len (.v 3)) (N 2)) (.boo false)) (.v 71) (.boo false)) true .nl)] (some ((.ite (.ite (.ite (.ite (.ite (.ite (.bin .eql (.v 2) (N 0)) (.bin .eql (.v 4) (N 0)) (.boo false)) (.bin .eql (.v 6) (N 1)) (.boo false)) (.bin .eql (.v 9) (N 0)) (.boo false)) (.bin .eql (.v 12) (N 8)) (.boo false)) (.bin .eql (.len (.v 3)) (N 2)) (.boo false)) (.v 71) (.boo false)), true)) 76 43 [(.v 7), (.v 1)] [], .call [(.gd (.ite (.ite (.ite (.ite (.ite (.ite (.ite (.bin .eql (.v 2) (N 0)) (.bin .eql (.v 4) (N 0)) (.boo false)) (.bin .eql (.v 6) (N 1)) (.boo false)) (.bin .eql (.v 9) (N 0)) (.boo false)) (.bin .eql (.v 12) (N 8)) (.boo false)) (.bin .eql (.len (.v 3)) (N 2)) (.boo false)) (.v 71) (.boo false)) (.v 76) (.boo false)) true .nl), (.gd (.ite (.ite (.ite (.ite (.ite (.ite (.ite (.bin .eql (.v 2) (N 0)) (.bin .eql (.v 4) (N 0)) (.boo false)) (.bin .eql (.v 6) (N 1)) (.boo false)) (.bin .eql (.v 9) (N 0)) (.boo false)) (.bin .eql (.v 12) (N 8)) (.boo false)) (.bin .eql (.len (.v 3)) (N 2)) (.boo false)) (.v 71) (.boo false)) (.v 76) (.boo false)) true (.bin .eql (lA 8 3) (N 1))), (.ite (.ite (.ite (.ite (.ite (.ite (.ite (.ite (.bin .eql (.v 2) (N 0)) (.bin .eql (.v 4) (N 0)) (.boo false)) (.bin .eql (.v 6) (N 1)) (.boo false)) (.bin .eql (.v 9) (N 0)) (.boo false)) (.bin .eql (.v 12) (N 8)) (.boo false)) (.bin .eql (.len (.v 3)) (N 2)) (.boo false)) (.v 71) (.boo false)) (.v 76) (.boo false)) (.bin .eql (lA 8 3) (N 1)) (.boo false))] (some ((.ite (.ite (.ite (.ite (.ite (.ite (.ite (.ite (.bin .eql (.v 2) (N 0)) (.bin .eql (.v 4) (N 0)) (.boo false)) (.bin .eql (.v 6) (N 1)) (.boo false)) (.bin .eql (.v 9) (N 0)) (.boo false)) (.bin .eql (.v 12) (N 8)) (.boo false)) (.bin .eql (.len (.v 3)) (N 2)) (.boo false)) (.v 71) (.boo false)) (.v 76) (.boo false)) (.bin .eql (lA 8 3) (N 1)) (.boo false)), true)) 86 45 [(N 4)] [], .call [(.gd (.ite (.ite (.ite (.ite (.ite (.ite (.ite (.ite (.bin .eql (.v 2) (N 0)) (.bin .eql (.v 4) (N 0)) (.boo false)) (.bin .eql (.v 6) (N 1)) (.boo false)) (.bin .eql (.v 9) (N 0)) (.boo false)) (.bin .eql (.v 12) (N 8)) (.boo false)) (.bin .eql (.len (.v 3)) (N 2)) (.boo false)) (.v 71) (.boo false)) (.v 76) (.boo false)) (.bin .eql (lA 8 3) (N 1)) (.boo false)) true (.fld (some 3) (.v 86) 0))] (some ((.ite (.ite (.ite (.ite (.ite (.ite (.ite (.ite (.bin .eql (.v 2) (N 0)) (.bin .eql (.v 4) (N 0)) (.boo false)) (.bin .eql (.v 6) (N 1)) (.boo false)) (.bin .eql (.v 9) (N 0)) (.boo false)) (.bin .eql (.v 12) (N 8)) (.boo false)) (.bin .eql (.len (.v 3)) (N 2)) (.boo false)) (.v 71) (.boo false)) (.v 76) (.boo false)) (.bin .eql (lA 8 3) (N 1)) (.boo false)), true)) 88 39 [(.v 3), (.fld (some 3) (.v 86) 0)] [], .call [(.gd (.ite (.ite (.ite (.ite (.ite (.ite (.ite (.ite (.bin .eql (.v 2) (N 0)) (.bin .eql (.v 4) (N 0)) (.boo false)) (.bin .eql (.v 6) (N 1)) (.boo false)) (.bin .eql (.v 9) (N 0)) (.boo false)) (.bin .eql (.v 12) (N 8)) (.boo false)) (.bin .eql (.len (.v 3)) (N 2)) (.boo false)) (.v 71) (.boo false)) (.v 76) (.boo false)) (.bin .eql (lA 8 3) (N 1)) (.boo false)) true (.bin .eql (.v 88) (N 1))), (.ite (.ite (.ite (.ite (.ite (.ite (.ite (.ite (.ite (.bin .eql (.v 2) (N 0)) (.bin .eql (.v 4) (N 0)) (.boo false)) (.bin .eql (.v 6) (N 1)) (.boo false)) (.bin .eql (.v 9) (N 0)) (.boo false)) (.bin .eql (.v 12) (N 8)) (.boo false)) (.bin .eql (.len (.v 3)) (N 2)) (.boo false)) (.v 71) (.boo false)) (.v 76) (.boo false)) (.bin .eql (lA 8 3) (N 1)) (.boo false)) (.bin .eql (.v 88) (N 1)) (.boo false))] (some ((.ite (.ite (.ite (.ite (.ite (.ite (.ite (.ite (.ite (.bin .eql (.v 2) (N 0)) (.bin .eql (.v 4) (N 0)) (.boo false)) (.bin .eql (.v 6) (N 1)) (.boo false)) (.bin .eql (.v 9) (N 0)) (.boo false)) (.bin .eql (.v 12) (N 8)) (.boo false)) (.bin .eql (.len (.v 3)) (N 2)) (.boo false)) (.v 71) (.boo false)) (.v 76) (.boo false)) (.bin .eql (lA 8 3) (N 1)) (.boo false)) (.bin .eql (.v 88) (N 1)) (.boo false)), true)) 93 45 [(N 1)] [], .call [(.gd (.ite (.ite (.ite (.ite (.ite (.ite (.ite (.ite (.ite (.bin .eql (.v 2) (N 0)) (.bin .eql (.v 4) (N 0)) (.boo false)) (.bin .eql (.v 6) (N 1)) (.boo false)) (.bin .eql (.v 9) (N 0)) (.boo false)) (.bin .eql (.v 12) (N 8)) (.boo false)) (.bin .eql (.len (.v 3)) (N 2)) (.boo false)) (.v 71) (.boo false)) (.v 76) (.boo false)) (.bin .eql (lA 8 3) (N 1)) (.boo false)) (.bin .eql (.v 88) (N 1)) (.boo false)) true (.fld (some 3) (.v 93) 0))] (some ((.ite (.ite (.ite (.ite (.ite (.ite (.ite (.ite (.ite (.bin .eql (.v 2) (N 0)) (.bin .eql (.v 4) (N 0)) (.boo false)) (.bin .eql (.v 6) (N 1)) (.boo false)) (.bin .eql (.v 9) (N 0)) (.boo false)) (.bin .eql (.v 12) (N 8)) (.boo false)) (.bin .eql (.len (.v 3)) (N 2)) (.boo false)) (.v 71) (.boo false)) (.v 76) (.boo false)) (.bin .eql (lA 8 3) (N 1)) (.boo false)) (.bin .eql (.v 88) (N 1)) (.boo false)), true)) 95 39 [(.v 1), (.fld (some 3) (.v 93) 0)] [], .call [(.gd (.ite (.ite (.ite (.ite (.ite (.ite (.ite (.ite (.ite (.bin .eql (.v 2) (N 0)) (.bin .eql (.v 4) (N 0)) (.boo false)) (.bin .eql (.v 6) (N 1)) (.boo false)) (.bin .eql (.v 9) (N 0)) (.boo false)) (.bin .eql (.v 12) (N 8)) (.boo false)) (.bin .eql (.len (.v 3)) (N 2)) (.boo false)) (.v 71) (.boo false)) (.v 76) (.boo false)) (.bin .eql (lA 8 3) (N 1)) (.boo false)) (.bin .eql (.v 88) (N 1)) (.boo false)) true (.bin .eql (.v 95) (N (-1)))), (.ite (.ite (.ite (.ite (.ite (.ite (.ite (.ite (.ite (.ite (.bin .eql (.v 2) (N 0)) (.bin .eql (.v 4) (N 0)) (.boo false)) (.bin .eql (.v 6) (N 1)) (.boo false)) (.bin .eql (.v 9) (N 0)) (.boo false)) (.bin .eql (.v 12) (N 8)) (.boo false)) (.bin .eql (.len (.v 3)) (N 2)) (.boo false)) (.v 71) (.boo false)) (.v 76) (.boo false)) (.bin .eql (lA 8 3) (N 1)) (.boo false)) (.bin .eql (.v 88) (N 1)) (.boo false)) (.bin .eql (.v 95) (N (-1))) (.boo false))] (some ((.ite (.ite (.ite (.ite (.ite (.ite (.ite (.ite (.ite (.ite (.bin .eql (.v 2) (N 0)) (.bin .eql (.v 4) (N 0)) (.boo false)) (.bin .eql (.v 6) (N 1)) (.boo false)) (.bin .eql (.v 9) (N 0)) (.boo false)) (.bin .eql (.v 12) (N 8)) (.boo false)) (.bin .eql (.len (.v 3)) (N 2)) (.boo false)) (.v 71) (.boo false)) (.v 76) (.boo false)) (.bin .eql (lA 8 3) (N 1)) (.boo false)) (.bin .eql (.v 88) (N 1)) (.boo false)) (.bin .eql (.v 95) (N (-1))) (.boo false)), true)) 100 41 [(.v 3), (N 0)] [], .asg [(.gd (.ite (.ite (.ite (.ite (.ite (.ite (.ite (.ite (.ite (.ite (.bin .eql (.v 2) (N 0)) (.bin .eql (.v 4) (N 0)) (.boo false)) (.bin .eql (.v 6) (N 1)) (.boo false)) (.bin .eql (.v 9) (N 0)) (.boo false)) (.bin .eql (.v 12) (N 8)) (.boo false)) (.bin .eql (.len (.v 3)) (N 2)) (.boo false)) (.v 71) (.boo false)) (.v 76) (.boo false)) (.bin .eql (lA 8 3) (N 1)) (.boo false)) (.bin .eql (.v 88) (N 1)) (.boo false)) (.bin .eql (.v 95) (N (-1))) (.boo false)) true (.bin .eql (.v 100) (N 1)))] [(0, (.ite (.ite (.ite (.ite (.ite (.ite (.ite (.ite (.ite (.ite (.ite (.bin .eql (.v 2) (N 0)) (.bin .eql (.v 4) (N 0)) (.boo false)) (.bin .eql (.v 6) (N 1)) (.boo false)) (.bin .eql (.v 9) (N 0)) (.boo false)) (.bin .eql (.v 12) (N 8)) (.boo false)) (.bin .eql (.len (.v 3)) (N 2)) (.boo false)) (.v 71) (.boo false)) (.v 76) (.boo false)) (.bin .eql (lA 8 3) (N 1)) (.boo false)) (.bin .eql (.v 88) (N 1)) (.boo false)) (.bin .eql (.v 95) (N (-1))) (.boo false)) (.bin .eql (.v 100) (N 1)) (.boo false)))]])
(.ret (.v 0) []))⟩
def v_mail_Put : VFun := ⟨⟨[.F, .F], (.T [(.O 6 true), .F]), false⟩, [],
(.seq
(.st [.asg [(.chk (some 6) (.v 1))] [(3, (.lp (.cn (fA 1 0) (.cn (fA 1 1) (.cn (fA 1 2) (.cn (fA 1 3) (.cn (fA 1 4) (.cn (fA 1 5) .nl))))))))]])
(.seq
(.seq
(.st [.call [] none 10 39 [(.v 0), (.agg (.cn (lA 3 0) (.cn (lA 3 1) (.cn (lA 3 2) .nl))))] [], .asg [(.bin .geq (.v 10) (N 0))] []])
(.cond (.bin .geq (.v 10) (N 0))
(.seq
(.st [.asg [] [(5, (N 1)), (4, (.lst .nl))]])
(.ret (.tup (.cn (.v 4) (.cn (.v 5) .nl))) []))
.skip))
(.seq
(.st [.call [] none 14 73 [(.v 0), (.fn 74 (.cn (.lp (.cn (lA 3 0) (.cn (lA 3 1) (.cn (lA 3 2) (.cn (lA 3 3) (.cn (lA 3 4) (.cn (lA 3 5) .nl))))))) .nl))] [], .asg [] [(6, (.v 14))]])
(.seq
(.seq
(.st [.asg [(.bin .lss (.v 6) (N 0))] []])
(.cond (.bin .lss (.v 6) (N 0))
(.st [.asg [] [(6, (.len (.v 0)))]])
.skip))
(.seq
(.st [.call [] none 20 44 [(.v 0)] [], .call [] none 23 77 [(.agg (.cn (lA 3 0) (.cn (lA 3 1) (.cn (lA 3 2) (.cn (lA 3 3) (.cn (lA 3 4) (.cn (lA 3 5) .nl)))))))] [], .call [(.chk (some 6) (.v 23))] none 25 76 [(.v 20), (.v 6), (.lst (.cn (.v 23) .nl))] [], .asg [] [(5, (N 0)), (4, (.v 25))]])
(.ret (.tup (.cn (.v 4) (.cn (.v 5) .nl))) []))))))⟩
def v_ref7_Put_L1 : VC :=
(.seq
(.seq
(.st [.call [(.gd (.bin .lss (.v 6) (.len (.v 0))) true (.ia 6 (.v 0) (.v 6))), (.gd (.bin .lss (.v 6) (.len (.v 0))) true (.fa (.ia 6 (.v 0) (.v 6)) 0)), (.gd (.bin .lss (.v 6) (.len (.v 0))) true (.ld (some 3) (.fa (.ia 6 (.v 0) (.v 6)) 0) 0))] (some ((.bin .lss (.v 6) (.len (.v 0))), true)) 24 78 [(.ld (some 3) (.fa (.ia 6 (.v 0) (.v 6)) 0) 0), (.agg (.cn (lA 3 0) (.cn (lA 3 1) (.cn (lA 3 2) .nl))))] [], .asg [(.ite (.bin .lss (.v 6) (.len (.v 0))) (.v 24) (.boo false))] []])
(.cond (.ite (.bin .lss (.v 6) (.len (.v 0))) (.v 24) (.boo false))
.skip
(.exit 0)))
(.block 1
(.st [.asg [] [(6, (.bin .add (.v 6) (N 1)))]])))
def v_ref7_Put : VFun := ⟨⟨[.F, .F], (.T [.F, .F]), false⟩, [],
(.seq
(.st [.asg [(.chk (some 6) (.v 1))] [(3, (.lp (.cn (fA 1 0) (.cn (fA 1 1) (.cn (fA 1 2) (.cn (fA 1 3) (.cn (fA 1 4) (.cn (fA 1 5) .nl))))))))]])
(.seq
(.seq
(.st [.call [] none 10 40 [(.v 0), (.agg (.cn (lA 3 0) (.cn (lA 3 1) (.cn (lA 3 2) .nl))))] [], .asg [(.bin .geq (.v 10) (N 0))] []])
(.cond (.bin .geq (.v 10) (N 0))
(.seq
(.st [.asg [] [(5, (.boo false)), (4, (.lst .nl))]])
(.ret (.tup (.cn (.v 4) (.cn (.v 5) .nl))) []))
.skip))
(.seq
(.st [.asg [] [(6, (N 0))]])
(.seq
(.block 0
(.loop v_ref7_Put_L1))
(.seq
(.st [.asg [(.chk (some 6) (.agg (.cn (lA 3 0) (.cn (lA 3 1) (.cn (lA 3 2) (.cn (lA 3 3) (.cn (lA 3 4) (.cn (lA 3 5) .nl))))))))] [(5, (.boo true)), (4, (.app 6 (.app 6 (.app 6 (.lst .nl) (.slice 6 (.v 0) .nl (.v 6) .nl)) (.lst (.cn (.agg (.cn (lA 3 0) (.cn (lA 3 1) (.cn (lA 3 2) (.cn (lA 3 3) (.cn (lA 3 4) (.cn (lA 3 5) .nl))))))) .nl))) (.slice 6 (.v 0) (.v 6) .nl .nl)))]])
(.ret (.tup (.cn (.v 4) (.cn (.v 5) .nl))) []))))))⟩
def v_mail_Take : VFun := ⟨⟨[.F, .F], (.T [.F, .F, .F]), false⟩, [],
(.seq
(.st [.asg [(.chk (some 3) (.v 1))] [(5, (.lp (.cn (N 0) (.cn (N 0) (.cn (N 0) (.cn (N 0) (.cn (N 0) (.cn (.lst .nl) .nl)))))))), (3, (.lp (.cn (fA 1 0) (.cn (fA 1 1) (.cn (fA 1 2) .nl)))))], .call [] none 10 39 [(.v 0), (.agg (.cn (lA 3 0) (.cn (lA 3 1) (.cn (lA 3 2) .nl))))] [], .asg [] [(7, (.v 10))]])
(.seq
(.seq
(.st [.asg [(.bin .lss (.v 7) (N 0))] []])
(.cond (.bin .lss (.v 7) (N 0))
(.seq
(.st [.asg [] [(6, (N 8)), (4, (.lst .nl)), (5, (.lp (.cn (N 0) (.cn (N 0) (.cn (N 0) (.cn (N 0) (.cn (N 0) (.cn (.lst .nl) .nl))))))))]])
(.ret (.tup (.cn (.v 4) (.cn (.agg (.cn (lA 5 0) (.cn (lA 5 1) (.cn (lA 5 2) (.cn (lA 5 3) (.cn (lA 5 4) (.cn (lA 5 5) .nl))))))) (.cn (.v 6) .nl)))) []))
.skip))
(.seq
(.st [.call [] none 15 44 [(.v 0)] [], .call [(.bin .add (.v 7) (N 1))] none 19 79 [(.v 15), (.v 7), (.bin .add (.v 7) (N 1))] [], .call [(.ld (some 6) (.ia 6 (.v 0) (.v 7)) 0)] none 24 77 [(.ld (some 6) (.ia 6 (.v 0) (.v 7)) 0)] [], .asg [(.chk (some 6) (.v 24))] [(6, (N 0)), (4, (.v 19)), (5, (.lp (.cn (fA 24 0) (.cn (fA 24 1) (.cn (fA 24 2) (.cn (fA 24 3) (.cn (fA 24 4) (.cn (fA 24 5) .nl))))))))]])
(.ret (.tup (.cn (.v 4) (.cn (.agg (.cn (lA 5 0) (.cn (lA 5 1) (.cn (lA 5 2) (.cn (lA 5 3) (.cn (lA 5 4) (.cn (lA 5 5) .nl))))))) (.cn (.v 6) .nl)))) []))))⟩
def v_ref7_Take : VFun := ⟨⟨[.F, .F], (.T [.F, .F, .F]), false⟩, [],
(.seq
(.st [.asg [(.chk (some 3) (.v 1))] [(5, (.lp (.cn (N 0) (.cn (N 0) (.cn (N 0) (.cn (N 0) (.cn (N 0) (.cn (.lst .nl) .nl)))))))), (3, (.lp (.cn (fA 1 0) (.cn (fA 1 1) (.cn (fA 1 2) .nl)))))], .call [] none 10 40 [(.v 0), (.agg (.cn (lA 3 0) (.cn (lA 3 1) (.cn (lA 3 2) .nl))))] [], .asg [] [(7, (.v 10))]])
(.seq
(.seq
(.st [.asg [(.bin .lss (.v 7) (N 0))] []])
(.cond (.bin .lss (.v 7) (N 0))
(.seq
(.st [.asg [] [(6, (.boo false)), (4, (.lst .nl)), (5, (.lp (.cn (N 0) (.cn (N 0) (.cn (N 0) (.cn (N 0) (.cn (N 0) (.cn (.lst .nl) .nl))))))))]])
(.ret (.tup (.cn (.v 4) (.cn (.agg (.cn (lA 5 0) (.cn (lA 5 1) (.cn (lA 5 2) (.cn (lA 5 3) (.cn (lA 5 4) (.cn (lA 5 5) .nl))))))) (.cn (.v 6) .nl)))) []))
.skip))
(.seq
(.st [.asg [] [(6, (.boo true)), (4, (.app 6 (.app 6 (.lst .nl) (.slice 6 (.v 0) .nl (.v 7) .nl)) (.slice 6 (.v 0) (.bin .add (.v 7) (N 1)) .nl .nl))), (5, (.lp (.cn (.fld none (.ld (some 6) (.ia 6 (.v 0) (.v 7)) 0) 0) (.cn (.fld none (.ld (some 6) (.ia 6 (.v 0) (.v 7)) 0) 1) (.cn (.fld none (.ld (some 6) (.ia 6 (.v 0) (.v 7)) 0) 2) (.cn (.fld none (.ld (some 6) (.ia 6 (.v 0) (.v 7)) 0) 3) (.cn (.fld none (.ld (some 6) (.ia 6 (.v 0) (.v 7)) 0) 4) (.cn (.fld none (.ld (some 6) (.ia 6 (.v 0) (.v 7)) 0) 5) .nl))))))))]])
(.ret (.tup (.cn (.v 4) (.cn (.agg (.cn (lA 5 0) (.cn (lA 5 1) (.cn (lA 5 2) (.cn (lA 5 3) (.cn (lA 5 4) (.cn (lA 5 5) .nl))))))) (.cn (.v 6) .nl)))) []))))⟩
def v_ref7_SameMail_L1 : VC :=
(.seq
(.seq
(.st [.asg [(.bin .lss (.v 5) (.len (.v 0)))] []])
(.cond (.bin .lss (.v 5) (.len (.v 0)))
.skip
(.exit 0)))
(.seq
(.block 1
(.seq
(.st [.call [(.gd (.eqs true [false, false, false] (.ld (some 3) (.fa (.ia 6 (.v 0) (.v 5)) 0) 0) (.ld (some 3) (.fa (.ia 6 (.v 1) (.v 5)) 0) 0)) false (.ia 6 (.v 0) (.v 5))), (.gd (.eqs true [false, false, false] (.ld (some 3) (.fa (.ia 6 (.v 0) (.v 5)) 0) 0) (.ld (some 3) (.fa (.ia 6 (.v 1) (.v 5)) 0) 0)) false (.fa (.ia 6 (.v 0) (.v 5)) 3)), (.gd (.eqs true [false, false, false] (.ld (some 3) (.fa (.ia 6 (.v 0) (.v 5)) 0) 0) (.ld (some 3) (.fa (.ia 6 (.v 1) (.v 5)) 0) 0)) false (.ld (some 3) (.fa (.ia 6 (.v 0) (.v 5)) 3) 0)), (.gd (.eqs true [false, false, false] (.ld (some 3) (.fa (.ia 6 (.v 0) (.v 5)) 0) 0) (.ld (some 3) (.fa (.ia 6 (.v 1) (.v 5)) 0) 0)) false (.ia 6 (.v 1) (.v 5))), (.gd (.eqs true [false, false, false] (.ld (some 3) (.fa (.ia 6 (.v 0) (.v 5)) 0) 0) (.ld (some 3) (.fa (.ia 6 (.v 1) (.v 5)) 0) 0)) false (.fa (.ia 6 (.v 1) (.v 5)) 3)), (.gd (.eqs true [false, false, false] (.ld (some 3) (.fa (.ia 6 (.v 0) (.v 5)) 0) 0) (.ld (some 3) (.fa (.ia 6 (.v 1) (.v 5)) 0) 0)) false (.ld (some 3) (.fa (.ia 6 (.v 1) (.v 5)) 3) 0))] (some ((.eqs true [false, false, false] (.ld (some 3) (.fa (.ia 6 (.v 0) (.v 5)) 0) 0) (.ld (some 3) (.fa (.ia 6 (.v 1) (.v 5)) 0) 0)), false)) 39 80 [(.ld (some 3) (.fa (.ia 6 (.v 0) (.v 5)) 3) 0), (.ld (some 3) (.fa (.ia 6 (.v 1) (.v 5)) 3) 0)] [], .asg [(.gd (.eqs true [false, false, false] (.ld (some 3) (.fa (.ia 6 (.v 0) (.v 5)) 0) 0) (.ld (some 3) (.fa (.ia 6 (.v 1) (.v 5)) 0) 0)) false (.un .not (.v 39))), (.ite (.eqs true [false, false, false] (.ld (some 3) (.fa (.ia 6 (.v 0) (.v 5)) 0) 0) (.ld (some 3) (.fa (.ia 6 (.v 1) (.v 5)) 0) 0)) (.boo true) (.un .not (.v 39)))] []])
(.cond (.ite (.eqs true [false, false, false] (.ld (some 3) (.fa (.ia 6 (.v 0) (.v 5)) 0) 0) (.ld (some 3) (.fa (.ia 6 (.v 1) (.v 5)) 0) 0)) (.boo true) (.un .not (.v 39)))
(.seq
(.st [.asg [] [(4, (.boo false))]])
(.ret (.v 4) []))
.skip)))
(.st [.asg [] [(5, (.bin .add (.v 5) (N 1)))]])))
def v_ref7_SameMail : VFun := ⟨⟨[.F, .F], .F, true⟩, [],
(.seq
(.st [])
(.seq
(.seq
(.st [.asg [(.bin .neq (.len (.v 0)) (.len (.v 1)))] []])
(.cond (.bin .neq (.len (.v 0)) (.len (.v 1)))
(.seq
(.st [.asg [] [(4, (.boo false))]])
(.ret (.v 4) []))
.skip))
(.seq
(.seq
(.st [.asg [] [(5, (N 0))]])
(.block 0
(.loop v_ref7_SameMail_L1)))
(.seq
(.st [.asg [] [(4, (.boo true))]])
(.ret (.v 4) [])))))⟩
def v_mail_Sorted_L1 : VC :=
(.seq
(.st [.asg [(.bin .lss (.v 6) (.v 5))] []])
(.seq
(.cond (.bin .lss (.v 6) (.v 5))
.skip
(.exit 0))
(.seq
(.block 1
(.seq
(.st [.asg [] [(3, (.v 6))], .call [(.gd (.bin .gtr (.v 3) (N 0)) true (.bin .sub (.v 3) (N 1))), (.gd (.bin .gtr (.v 3) (N 0)) true (.ia 6 (.v 0) (.bin .sub (.v 3) (N 1)))), (.gd (.bin .gtr (.v 3) (N 0)) true (.fa (.ia 6 (.v 0) (.bin .sub (.v 3) (N 1))) 0)), (.gd (.bin .gtr (.v 3) (N 0)) true (.ld (some 3) (.fa (.ia 6 (.v 0) (.bin .sub (.v 3) (N 1))) 0) 0)), (.gd (.bin .gtr (.v 3) (N 0)) true (.ia 6 (.v 0) (.v 3))), (.gd (.bin .gtr (.v 3) (N 0)) true (.fa (.ia 6 (.v 0) (.v 3)) 0)), (.gd (.bin .gtr (.v 3) (N 0)) true (.ld (some 3) (.fa (.ia 6 (.v 0) (.v 3)) 0) 0))] (some ((.bin .gtr (.v 3) (N 0)), true)) 23 75 [(.ld (some 3) (.fa (.ia 6 (.v 0) (.bin .sub (.v 3) (N 1))) 0) 0), (.ld (some 3) (.fa (.ia 6 (.v 0) (.v 3)) 0) 0)] [], .asg [(.gd (.bin .gtr (.v 3) (N 0)) true (.un .not (.v 23))), (.ite (.bin .gtr (.v 3) (N 0)) (.un .not (.v 23)) (.boo false))] []])
(.cond (.ite (.bin .gtr (.v 3) (N 0)) (.un .not (.v 23)) (.boo false))
(.seq
(.st [.asg [] [(2, (.boo false))]])
(.ret (.v 2) []))
.skip)))
(.st [.asg [] [(6, (.bin .add (.v 6) (N 1)))]]))))
def v_mail_Sorted : VFun := ⟨⟨[.F], .F, true⟩, [],
(.seq
(.st [])
(.seq
(.seq
(.st [.asg [] [(6, (N 0)), (5, (.len (.v 0)))]])
(.block 0
(.loop v_mail_Sorted_L1)))
(.seq
(.st [.asg [] [(2, (.boo true))]])
(.ret (.v 2) []))))⟩
def v_ref7_Sorted_L1 : VC :=
(.seq
(.seq
(.st [.asg [(.bin .lss (.v 3) (.len (.v 0)))] []])
(.cond (.bin .lss (.v 3) (.len (.v 0)))
.skip
(.exit 0)))
(.seq
(.block 1
(.seq
(.st [.call [(.ld (some 3) (.fa (.ia 6 (.v 0) (.bin .sub (.v 3) (N 1))) 0) 0), (.ld (some 3) (.fa (.ia 6 (.v 0) (.v 3)) 0) 0)] none 21 78 [(.ld (some 3) (.fa (.ia 6 (.v 0) (.bin .sub (.v 3) (N 1))) 0) 0), (.ld (some 3) (.fa (.ia 6 (.v 0) (.v 3)) 0) 0)] [], .asg [(.un .not (.v 21))] []])
(.cond (.un .not (.v 21))
(.seq
(.st [.asg [] [(2, (.boo false))]])
(.ret (.v 2) []))
.skip)))
(.st [.asg [] [(3, (.bin .add (.v 3) (N 1)))]])))
def v_ref7_Sorted : VFun := ⟨⟨[.F], .F, true⟩, [],
(.seq
(.st [])
(.seq
(.seq
(.st [.asg [] [(3, (N 1))]])
(.block 0
(.loop v_ref7_Sorted_L1)))
(.seq
(.st [.asg [] [(2, (.boo true))]])
(.ret (.v 2) []))))⟩
def v_mail_Find : VFun := ⟨⟨[.F, .F], .F, true⟩, [],
(.seq
(.st [.asg [(.chk (some 3) (.v 1))] [(3, (.lp (.cn (fA 1 0) (.cn (fA 1 1) (.cn (fA 1 2) .nl)))))], .call [] none 7 73 [(.v 0), (.fn 81 (.cn (.lp (.cn (lA 3 0) (.cn (lA 3 1) (.cn (lA 3 2) .nl)))) .nl))] [], .asg [] [(4, (.v 7))]])
(.ret (.v 4) []))⟩
def v_ref7_FindID_L1 : VC :=
(.seq
(.seq
(.st [.asg [(.bin .lss (.v 5) (.len (.v 0)))] []])
(.cond (.bin .lss (.v 5) (.len (.v 0)))
.skip
(.exit 0)))
(.seq
(.block 1
(.seq
(.st [.asg [(.eqs false [false, false, false] (.ld (some 3) (.fa (.ia 6 (.v 0) (.v 5)) 0) 0) (.agg (.cn (lA 3 0) (.cn (lA 3 1) (.cn (lA 3 2) .nl)))))] []])
(.cond (.eqs false [false, false, false] (.ld (some 3) (.fa (.ia 6 (.v 0) (.v 5)) 0) 0) (.agg (.cn (lA 3 0) (.cn (lA 3 1) (.cn (lA 3 2) .nl)))))
(.seq
(.st [.asg [] [(4, (.v 5))]])
(.ret (.v 4) []))
.skip)))
(.st [.asg [] [(5, (.bin .add (.v 5) (N 1)))]])))
def v_ref7_FindID : VFun := ⟨⟨[.F, .F], .F, true⟩, [],
(.seq
(.st [.asg [(.chk (some 3) (.v 1))] [(3, (.lp (.cn (fA 1 0) (.cn (fA 1 1) (.cn (fA 1 2) .nl)))))]])
(.seq
(.seq
(.st [.asg [] [(5, (N 0))]])
(.block 0
(.loop v_ref7_FindID_L1)))
(.seq
(.st [.asg [] [(4, (N (-1)))]])
(.ret (.v 4) []))))⟩
def v_mail_To_L1 : VC :=
(.seq
(.st [.asg [(.bin .lss (.v 9) (.v 8))] []])
(.seq
(.cond (.bin .lss (.v 9) (.v 8))
.skip
(.exit 0))
(.seq
(.block 1
(.seq
(.st [.asg [] [(6, (.lp (.cn (.fld none (.ld (some 6) (.ia 6 (.v 7) (.v 9)) 0) 0) (.cn (.fld none (.ld (some 6) (.ia 6 (.v 7) (.v 9)) 0) 1) (.cn (.fld none (.ld (some 6) (.ia 6 (.v 7) (.v 9)) 0) 2) (.cn (.fld none (.ld (some 6) (.ia 6 (.v 7) (.v 9)) 0) 3) (.cn (.fld none (.ld (some 6) (.ia 6 (.v 7) (.v 9)) 0) 4) (.cn (.fld none (.ld (some 6) (.ia 6 (.v 7) (.v 9)) 0) 5) .nl))))))))], .asg [(.bin .eql (lA 6 3) (.v 1))] []])
(.cond (.bin .eql (lA 6 3) (.v 1))
(.st [.asg [] [(4, (.bin .add (.v 4) (N 1)))]])
.skip)))
(.st [.asg [] [(9, (.bin .add (.v 9) (N 1)))]]))))
def v_mail_To : VFun := ⟨⟨[.F, .F], .F, true⟩, [],
(.seq
(.st [.asg [] [(4, (N 0))]])
(.seq
(.seq
(.st [.asg [] [(9, (N 0)), (8, (.len (.v 0))), (7, (.v 0))]])
(.block 0
(.loop v_mail_To_L1)))
(.seq
(.st [])
(.ret (.v 4) []))))⟩
def v_ref7_To_L1 : VC :=
(.seq
(.seq
(.st [.asg [(.bin .lss (.v 6) (.len (.v 0)))] []])
(.cond (.bin .lss (.v 6) (.len (.v 0)))
.skip
(.exit 0)))
(.seq
(.block 1
(.seq
(.st [.asg [(.bin .eql (.ld none (.fa (.fa (.ia 6 (.v 0) (.v 6)) 3) 0) 0) (.v 1))] []])
(.cond (.bin .eql (.ld none (.fa (.fa (.ia 6 (.v 0) (.v 6)) 3) 0) 0) (.v 1))
(.st [.asg [] [(5, (.bin .add (.v 5) (N 1)))]])
.skip)))
(.st [.asg [] [(6, (.bin .add (.v 6) (N 1)))]])))
def v_ref7_To : VFun := ⟨⟨[.F, .F], .F, true⟩, [],
(.seq
(.st [.asg [] [(5, (N 0))]])
(.seq
(.seq
(.st [.asg [] [(6, (N 0))]])
(.block 0
(.loop v_ref7_To_L1)))
(.seq
(.st [.asg [] [(4, (.v 5))]])
(.ret (.v 4) []))))⟩
def v_mail_Same : VFun := ⟨⟨[.F, .F], .F, true⟩, [],
(.seq
(.st [.call [] none 7 82 [(.v 0), (.v 1), (.fn 83 .nl)] [], .asg [] [(4, (.v 7))]])
(.ret (.v 4) []))⟩
def v_mail_Copy_L1 : VC :=
(.seq
(.st [.asg [(.bin .lss (.v 7) (.v 6))] []])
(.seq
(.cond (.bin .lss (.v 7) (.v 6))
.skip
(.exit 0))
(.seq
(.block 1
(.st [.asg [] [(4, (.lp (.cn (.fld none (.ld (some 6) (.ia 6 (.v 5) (.v 7)) 0) 0) (.cn (.fld none (.ld (some 6) (.ia 6 (.v 5) (.v 7)) 0) 1) (.cn (.fld none (.ld (some 6) (.ia 6 (.v 5) (.v 7)) 0) 2) (.cn (.fld none (.ld (some 6) (.ia 6 (.v 5) (.v 7)) 0) 3) (.cn (.fld none (.ld (some 6) (.ia 6 (.v 5) (.v 7)) 0) 4) (.cn (.fld none (.ld (some 6) (.ia 6 (.v 5) (.v 7)) 0) 5) .nl))))))))], .call [] none 13 77 [(.agg (.cn (lA 4 0) (.cn (lA 4 1) (.cn (lA 4 2) (.cn (lA 4 3) (.cn (lA 4 4) (.cn (lA 4 5) .nl)))))))] [], .asg [(.chk (some 6) (.v 13))] [(2, (.app 6 (.v 2) (.lst (.cn (.v 13) .nl))))]]))
(.st [.asg [] [(7, (.bin .add (.v 7) (N 1)))]]))))
def v_mail_Copy : VFun := ⟨⟨[.F], (.O 6 true), false⟩, [],
(.seq
(.st [.asg [] [(2, (.lst .nl))]])
(.seq
(.seq
(.st [.asg [] [(7, (N 0)), (6, (.len (.v 0))), (5, (.v 0))]])
(.block 0
(.loop v_mail_Copy_L1)))
(.seq
(.st [])
(.ret (.v 2) []))))⟩
def v_law8_message : VFun := ⟨⟨[.F], .F, false⟩, [],
(.seq
(.st [.asg [] [(2, (.lp (.cn (N 0) (.cn (N 0) (.cn (N 0) (.cn (N 0) (.cn (N 0) (.cn (.lst .nl) .nl))))))))], .asg [(.chk none (.v 0))] [(2, (.lp (.cn (.bin .rem (.v 0) (N 3)) (.cn (.bin .quo (.v 0) (N 3)) (.cn (N 0) (.cn (.bin .rem (.v 0) (N 2)) (.cn (N 0) (.cn (.lst (.cn (.v 0) .nl)) .nl))))))))]])
(.ret (.agg (.cn (lA 2 0) (.cn (lA 2 1) (.cn (lA 2 2) (.cn (lA 2 3) (.cn (lA 2 4) (.cn (lA 2 5) .nl))))))) []))⟩
def v_slices_IndexFunc_api_Message_api_Message_L1 : VC :=
(.seq
(.st [.asg [(.bin .lss (.v 8) (.v 7))] []])
(.seq
(.cond (.bin .lss (.v 8) (.v 7))
.skip
(.exit 0))
(.seq
(.block 1
(.seq
(.st [.asg [] [(5, (.v 8))], .callv [(.ld (some 6) (.ia 6 (.v 0) (.v 5)) 0)] none 16 (.v 1) [(.ld (some 6) (.ia 6 (.v 0) (.v 5)) 0)]])
(.cond (.v 16)
(.seq
(.st [.asg [] [(4, (.v 5))]])
(.ret (.v 4) []))
.skip)))
(.st [.asg [] [(8, (.bin .add (.v 8) (N 1)))]]))))
def v_slices_IndexFunc_api_Message_api_Message : VFun := ⟨⟨[.F, .Q], .F, true⟩, [],
(.seq
(.st [])
(.seq
(.seq
(.st [.asg [] [(8, (N 0)), (7, (.len (.v 0)))]])
(.block 0
(.loop v_slices_IndexFunc_api_Message_api_Message_L1)))
(.seq
(.st [.asg [] [(4, (N (-1)))]])
(.ret (.v 4) []))))⟩
def v_mail_Put_1 : VFun := ⟨⟨[.F, (.B true [.F, .F, .F, .F, .F, .F])], .F, true⟩, [],
(.seq
(.st [.asg [(.chk (some 6) (.v 0))] [(2, (.lp (.cn (fA 0 0) (.cn (fA 0 1) (.cn (fA 0 2) (.cn (fA 0 3) (.cn (fA 0 4) (.cn (fA 0 5) .nl)))))))), (4000, (.lp (.cn (lA 1 0) (.cn (lA 1 1) (.cn (lA 1 2) (.cn (lA 1 3) (.cn (lA 1 4) (.cn (lA 1 5) .nl))))))))], .call [] none 8 75 [(.agg (.cn (lA 2 0) (.cn (lA 2 1) (.cn (lA 2 2) .nl)))), (.agg (.cn (lA 4000 0) (.cn (lA 4000 1) (.cn (lA 4000 2) .nl))))] [], .asg [] [(3, (.un .not (.v 8)))]])
(.ret (.v 3) []))⟩
def v_ident_Less : VFun := ⟨⟨[.F, .F], .F, true⟩, [],
(.seq
(.st [.asg [(.chk (some 3) (.v 0)), (.chk (some 3) (.v 1))] [(3, (.lp (.cn (fA 1 0) (.cn (fA 1 1) (.cn (fA 1 2) .nl))))), (2, (.lp (.cn (fA 0 0) (.cn (fA 0 1) (.cn (fA 0 2) .nl)))))], .call [] none 7 96 [(.agg (.cn (lA 2 0) (.cn (lA 2 1) (.cn (lA 2 2) .nl)))), (.agg (.cn (lA 3 0) (.cn (lA 3 1) (.cn (lA 3 2) .nl))))] [], .asg [] [(4, (.bin .lss (.v 7) (N 0)))]])
(.ret (.v 4) []))⟩
def v_mail_own : VFun := ⟨⟨[.F], .F, false⟩, [],
(.seq
(.st [.asg [(.chk (some 6) (.v 0))] [(2, (.lp (.cn (N 0) (.cn (N 0) (.cn (N 0) (.cn (N 0) (.cn (N 0) (.cn (.lst .nl) .nl)))))))), (1, (.lp (.cn (fA 0 0) (.cn (fA 0 1) (.cn (fA 0 2) (.cn (fA 0 3) (.cn (fA 0 4) (.cn (fA 0 5) .nl))))))))], .call [] none 5 99 [(.agg (.cn (lA 1 3) (.cn (lA 1 4) (.cn (lA 1 5) .nl))))] [], .asg [(.chk (some 3) (.v 5))] [(1, (.lp (.cn (lA 1 0) (.cn (lA 1 1) (.cn (lA 1 2) (.cn (fA 5 0) (.cn (fA 5 1) (.cn (fA 5 2) .nl))))))))], .asg [] [(2, (.lp (.cn (lA 1 0) (.cn (lA 1 1) (.cn (lA 1 2) (.cn (lA 1 3) (.cn (lA 1 4) (.cn (lA 1 5) .nl))))))))]])
(.ret (.agg (.cn (lA 2 0) (.cn (lA 2 1) (.cn (lA 2 2) (.cn (lA 2 3) (.cn (lA 2 4) (.cn (lA 2 5) .nl))))))) []))⟩
def v_ref7_Less : VFun := ⟨⟨[.F, .F], .F, true⟩, [],
(.seq
(.st [.asg [(.chk (some 3) (.v 0)), (.chk (some 3) (.v 1))] [(3, (.lp (.cn (fA 1 0) (.cn (fA 1 1) (.cn (fA 1 2) .nl))))), (2, (.lp (.cn (fA 0 0) (.cn (fA 0 1) (.cn (fA 0 2) .nl)))))]])
(.seq
(.block 0
(.seq
(.st [.asg [(.bin .neq (lA 2 0) (lA 3 0))] []])
(.cond (.bin .neq (lA 2 0) (lA 3 0))
(.seq
(.st [.asg [] [(4, (.bin .lss (lA 2 0) (lA 3 0)))]])
(.ret (.v 4) []))
(.seq
(.st [.asg [(.bin .neq (lA 2 1) (lA 3 1))] []])
(.cond (.bin .neq (lA 2 1) (lA 3 1))
(.seq
(.st [.asg [] [(4, (.bin .lss (lA 2 1) (lA 3 1)))]])
(.ret (.v 4) []))
.skip)))))
(.seq
(.st [.asg [] [(4, (.bin .lss (lA 2 2) (lA 3 2)))]])
(.ret (.v 4) []))))⟩
def v_ref1_SameNote : VFun := ⟨⟨[.F, .F], .F, true⟩, [],
(.seq
(.st [.asg [(.chk (some 3) (.v 0)), (.chk (some 3) (.v 1))] [(3, (.lp (.cn (fA 1 0) (.cn (fA 1 1) (.cn (fA 1 2) .nl))))), (2, (.lp (.cn (fA 0 0) (.cn (fA 0 1) (.cn (fA 0 2) .nl)))))], .call [(.gd (.bin .eql (lA 2 0) (lA 3 0)) true (.bin .eql (lA 2 1) (lA 3 1))), (.ite (.bin .eql (lA 2 0) (lA 3 0)) (.bin .eql (lA 2 1) (lA 3 1)) (.boo false))] (some ((.ite (.bin .eql (lA 2 0) (lA 3 0)) (.bin .eql (lA 2 1) (lA 3 1)) (.boo false)), true)) 22 90 [(lA 2 2), (lA 3 2)] [], .asg [] [(4, (.ite (.ite (.bin .eql (lA 2 0) (lA 3 0)) (.bin .eql (lA 2 1) (lA 3 1)) (.boo false)) (.v 22) (.boo false)))]])
(.ret (.v 4) []))⟩
def v_mail_Find_1 : VFun := ⟨⟨[.F, (.B true [.F, .F, .F])], .F, true⟩, [],
(.seq
(.st [.asg [(.chk (some 6) (.v 0))] [(2, (.lp (.cn (fA 0 0) (.cn (fA 0 1) (.cn (fA 0 2) (.cn (fA 0 3) (.cn (fA 0 4) (.cn (fA 0 5) .nl)))))))), (4000, (.lp (.cn (lA 1 0) (.cn (lA 1 1) (.cn (lA 1 2) .nl)))))], .asg [] [(3, (.eqs false [false, false, false] (.agg (.cn (lA 2 0) (.cn (lA 2 1) (.cn (lA 2 2) .nl)))) (.agg (.cn (lA 4000 0) (.cn (lA 4000 1) (.cn (lA 4000 2) .nl))))))]])
(.ret (.v 3) []))⟩
def v_slices_EqualFunc_api_Message_api_Message_api_Message_api_Message_L1 : VC :=
(.seq
(.st [.asg [(.bin .lss (.v 17) (.v 16))] []])
(.seq
(.cond (.bin .lss (.v 17) (.v 16))
.skip
(.exit 0))
(.seq
(.block 1
(.seq
(.st [.asg [] [(7, (.v 17)), (8, (.lp (.cn (.fld none (.ld (some 6) (.ia 6 (.v 15) (.v 17)) 0) 0) (.cn (.fld none (.ld (some 6) (.ia 6 (.v 15) (.v 17)) 0) 1) (.cn (.fld none (.ld (some 6) (.ia 6 (.v 15) (.v 17)) 0) 2) (.cn (.fld none (.ld (some 6) (.ia 6 (.v 15) (.v 17)) 0) 3) (.cn (.fld none (.ld (some 6) (.ia 6 (.v 15) (.v 17)) 0) 4) (.cn (.fld none (.ld (some 6) (.ia 6 (.v 15) (.v 17)) 0) 5) .nl))))))))], .asg [] [(9, (.lp (.cn (.fld none (.ld (some 6) (.ia 6 (.v 1) (.v 7)) 0) 0) (.cn (.fld none (.ld (some 6) (.ia 6 (.v 1) (.v 7)) 0) 1) (.cn (.fld none (.ld (some 6) (.ia 6 (.v 1) (.v 7)) 0) 2) (.cn (.fld none (.ld (some 6) (.ia 6 (.v 1) (.v 7)) 0) 3) (.cn (.fld none (.ld (some 6) (.ia 6 (.v 1) (.v 7)) 0) 4) (.cn (.fld none (.ld (some 6) (.ia 6 (.v 1) (.v 7)) 0) 5) .nl))))))))], .callv [] none 29 (.v 2) [(.agg (.cn (lA 8 0) (.cn (lA 8 1) (.cn (lA 8 2) (.cn (lA 8 3) (.cn (lA 8 4) (.cn (lA 8 5) .nl))))))), (.agg (.cn (lA 9 0) (.cn (lA 9 1) (.cn (lA 9 2) (.cn (lA 9 3) (.cn (lA 9 4) (.cn (lA 9 5) .nl)))))))], .asg [(.un .not (.v 29))] []])
(.cond (.un .not (.v 29))
(.seq
(.st [.asg [] [(6, (.boo false))]])
(.ret (.v 6) []))
.skip)))
(.st [.asg [] [(17, (.bin .add (.v 17) (N 1)))]]))))
def v_slices_EqualFunc_api_Message_api_Message_api_Message_api_Message : VFun := ⟨⟨[.F, .F, .F], .F, true⟩, [],
(.seq
(.st [])
(.seq
(.seq
(.st [.asg [(.bin .neq (.len (.v 0)) (.len (.v 1)))] []])
(.cond (.bin .neq (.len (.v 0)) (.len (.v 1)))
(.seq
(.st [.asg [] [(6, (.boo false))]])
(.ret (.v 6) []))
.skip))
(.seq
(.seq
(.st [.asg [] [(17, (N 0)), (16, (.len (.v 0))), (15, (.v 0))]])
(.block 0
(.loop v_slices_EqualFunc_api_Message_api_Message_api_Message_api_Message_L1)))
(.seq
(.st [.asg [] [(6, (.boo true))]])
(.ret (.v 6) [])))))⟩
def v_mail_Same_1 : VFun := ⟨⟨[.F, .F], .F, true⟩, [],
(.seq
(.st [.asg [(.chk (some 6) (.v 0)), (.chk (some 6) (.v 1))] [(3, (.lp (.cn (fA 1 0) (.cn (fA 1 1) (.cn (fA 1 2) (.cn (fA 1 3) (.cn (fA 1 4) (.cn (fA 1 5) .nl)))))))), (2, (.lp (.cn (fA 0 0) (.cn (fA 0 1) (.cn (fA 0 2) (.cn (fA 0 3) (.cn (fA 0 4) (.cn (fA 0 5) .nl))))))))], .call [(.eqs false [false, false, false] (.agg (.cn (lA 2 0) (.cn (lA 2 1) (.cn (lA 2 2) .nl)))) (.agg (.cn (lA 3 0) (.cn (lA 3 1) (.cn (lA 3 2) .nl)))))] (some ((.eqs false [false, false, false] (.agg (.cn (lA 2 0) (.cn (lA 2 1) (.cn (lA 2 2) .nl)))) (.agg (.cn (lA 3 0) (.cn (lA 3 1) (.cn (lA 3 2) .nl))))), true)) 15 84 [(.agg (.cn (lA 2 3) (.cn (lA 2 4) (.cn (lA 2 5) .nl)))), (.agg (.cn (lA 3 3) (.cn (lA 3 4) (.cn (lA 3 5) .nl))))] [], .asg [] [(4, (.ite (.eqs false [false, false, false] (.agg (.cn (lA 2 0) (.cn (lA 2 1) (.cn (lA 2 2) .nl)))) (.agg (.cn (lA 3 0) (.cn (lA 3 1) (.cn (lA 3 2) .nl))))) (.v 15) (.boo false)))]])
(.ret (.v 4) []))⟩
def v_prog_SameNote : VFun := ⟨⟨[.F, .F], .F, true⟩, [],
(.seq
(.st [.asg [(.chk (some 3) (.v 0)), (.chk (some 3) (.v 1))] [(3, (.lp (.cn (fA 1 0) (.cn (fA 1 1) (.cn (fA 1 2) .nl))))), (2, (.lp (.cn (fA 0 0) (.cn (fA 0 1) (.cn (fA 0 2) .nl)))))], .call [(.gd (.bin .eql (lA 2 0) (lA 3 0)) true (.bin .eql (lA 2 1) (lA 3 1))), (.ite (.bin .eql (lA 2 0) (lA 3 0)) (.bin .eql (lA 2 1) (lA 3 1)) (.boo false))] (some ((.ite (.bin .eql (lA 2 0) (lA 3 0)) (.bin .eql (lA 2 1) (lA 3 1)) (.boo false)), true)) 22 100 [(lA 2 2), (lA 3 2)] [], .asg [] [(4, (.ite (.ite (.bin .eql (lA 2 0) (lA 3 0)) (.bin .eql (lA 2 1) (lA 3 1)) (.boo false)) (.v 22) (.boo false)))]])
(.ret (.v 4) []))⟩
def v_ref1_Ints_L1 : VC :=
(.seq
(.seq
(.st [.asg [(.bin .lss (.v 5) (.len (.v 0)))] []])
(.cond (.bin .lss (.v 5) (.len (.v 0)))
.skip
(.exit 0)))
(.seq
(.block 1
(.seq
(.st [.asg [(.bin .neq (.ld none (.ia 1 (.v 0) (.v 5)) 0) (.ld none (.ia 1 (.v 1) (.v 5)) 0))] []])
(.cond (.bin .neq (.ld none (.ia 1 (.v 0) (.v 5)) 0) (.ld none (.ia 1 (.v 1) (.v 5)) 0))
(.seq
(.st [.asg [] [(4, (.boo false))]])
(.ret (.v 4) []))
.skip)))
(.st [.asg [] [(5, (.bin .add (.v 5) (N 1)))]])))
def v_ref1_Ints : VFun := ⟨⟨[.F, .F], .F, true⟩, [],
(.seq
(.st [])
(.seq
(.seq
(.st [.asg [(.bin .neq (.len (.v 0)) (.len (.v 1)))] []])
(.cond (.bin .neq (.len (.v 0)) (.len (.v 1)))
(.seq
(.st [.asg [] [(4, (.boo false))]])
(.ret (.v 4) []))
.skip))
(.seq
(.seq
(.st [.asg [] [(5, (N 0))]])
(.block 0
(.loop v_ref1_Ints_L1)))
(.seq
(.st [.asg [] [(4, (.boo true))]])
(.ret (.v 4) [])))))⟩
def v_ident_order : VFun := ⟨⟨[.F, .F], .F, true⟩, [],
(.seq
(.st [.asg [(.chk (some 3) (.v 0)), (.chk (some 3) (.v 1))] [(3, (.lp (.cn (fA 1 0) (.cn (fA 1 1) (.cn (fA 1 2) .nl))))), (2, (.lp (.cn (fA 0 0) (.cn (fA 0 1) (.cn (fA 0 2) .nl)))))], .call [] none 9 103 [(lA 2 0), (lA 3 0)] [], .call [] none 14 103 [(lA 2 1), (lA 3 1)] [], .call [] none 19 103 [(lA 2 2), (lA 3 2)] [], .call [(.chk none (.v 9)), (.chk none (.v 14)), (.chk none (.v 19))] none 21 102 [(.lst (.cn (.v 9) (.cn (.v 14) (.cn (.v 19) .nl))))] [], .asg [] [(4, (.v 21))]])
(.ret (.v 4) []))⟩
def v_prog_CopyNote : VFun := ⟨⟨[.F], .F, false⟩, [],
(.seq
(.st [.asg [(.chk (some 3) (.v 0))] [(2, (.lp (.cn (N 0) (.cn (N 0) (.cn (.lst .nl) .nl))))), (1, (.lp (.cn (fA 0 0) (.cn (fA 0 1) (.cn (fA 0 2) .nl)))))], .call [] none 5 105 [(lA 1 2)] [], .asg [] [(1, (.lp (.cn (lA 1 0) (.cn (lA 1 1) (.cn (.v 5) .nl)))))], .asg [] [(2, (.lp (.cn (lA 1 0) (.cn (lA 1 1) (.cn (lA 1 2) .nl)))))]])
(.ret (.agg (.cn (lA 2 0) (.cn (lA 2 1) (.cn (lA 2 2) .nl)))) []))⟩
def v_slices_Equal_int_int_L1 : VC :=
(.seq
(.st [.asg [(.bin .lss (.v 13) (.v 12))] []])
(.seq
(.cond (.bin .lss (.v 13) (.v 12))
.skip
(.exit 0))
(.seq
(.block 1
(.seq
(.st [.asg [] [(5, (.v 13))], .asg [(.bin .neq (.ld none (.ia 1 (.v 0) (.v 5)) 0) (.ld none (.ia 1 (.v 1) (.v 5)) 0))] []])
(.cond (.bin .neq (.ld none (.ia 1 (.v 0) (.v 5)) 0) (.ld none (.ia 1 (.v 1) (.v 5)) 0))
(.seq
(.st [.asg [] [(4, (.boo false))]])
(.ret (.v 4) []))
.skip)))
(.st [.asg [] [(13, (.bin .add (.v 13) (N 1)))]]))))
def v_slices_Equal_int_int : VFun := ⟨⟨[.F, .F], .F, true⟩, [],
(.seq
(.st [])
(.seq
(.seq
(.st [.asg [(.bin .neq (.len (.v 0)) (.len (.v 1)))] []])
(.cond (.bin .neq (.len (.v 0)) (.len (.v 1)))
(.seq
(.st [.asg [] [(4, (.boo false))]])
(.ret (.v 4) []))
.skip))
(.seq
(.seq
(.st [.asg [] [(13, (N 0)), (12, (.len (.v 0)))]])
(.block 0
(.loop v_slices_Equal_int_int_L1)))
(.seq
(.st [.asg [] [(4, (.boo true))]])
(.ret (.v 4) [])))))⟩
def v_cmp_Or_int_L1 : VC :=
(.seq
(.st [.asg [(.bin .lss (.v 8) (.v 7))] []])
(.seq
(.cond (.bin .lss (.v 8) (.v 7))
.skip
(.exit 0))
(.seq
(.block 1
(.seq
(.st [.asg [] [(5, (.ld none (.ia 1 (.v 6) (.v 8)) 0))], .asg [(.bin .neq (.v 5) (.v 3))] []])
(.cond (.bin .neq (.v 5) (.v 3))
(.seq
(.st [.asg [] [(2, (.v 5))]])
(.ret (.v 2) []))
.skip)))
(.st [.asg [] [(8, (.bin .add (.v 8) (N 1)))]]))))
def v_cmp_Or_int : VFun := ⟨⟨[.F], .F, true⟩, [],
(.seq
(.st [.asg [] [(3, (N 0))]])
(.seq
(.seq
(.st [.asg [] [(8, (N 0)), (7, (.len (.v 0))), (6, (.v 0))]])
(.block 0
(.loop v_cmp_Or_int_L1)))
(.seq
(.st [.asg [] [(2, (.v 3))]])
(.ret (.v 2) []))))⟩
def v_cmp_Compare_int : VFun := ⟨⟨[.F, .F], .F, true⟩, [],
(.seq
(.st [.call [] none 8 106 [(.v 0)] [], .asg [] [(5, (.v 8))], .call [] none 10 106 [(.v 1)] [], .asg [] [(6, (.v 10))]])
(.seq
(.seq
(.st [])
(.cond (.v 5)
(.seq
(.seq
(.st [])
(.cond (.v 6)
(.seq
(.st [.asg [] [(4, (N 0))]])
(.ret (.v 4) []))
.skip))
(.seq
(.st [.asg [] [(4, (N (-1)))]])
(.ret (.v 4) [])))
.skip))
(.seq
(.seq
(.st [])
(.cond (.v 6)
(.seq
(.st [.asg [] [(4, (N 1))]])
(.ret (.v 4) []))
.skip))
(.seq
(.seq
(.st [.asg [(.bin .lss (.v 0) (.v 1))] []])
(.cond (.bin .lss (.v 0) (.v 1))
(.seq
(.st [.asg [] [(4, (N (-1)))]])
(.ret (.v 4) []))
.skip))
(.seq
(.seq
(.st [.asg [(.bin .gtr (.v 0) (.v 1))] []])
(.cond (.bin .gtr (.v 0) (.v 1))
(.seq
(.st [.asg [] [(4, (N 1))]])
(.ret (.v 4) []))
.skip))
(.seq
(.st [.asg [] [(4, (N 0))]])
(.ret (.v 4) [])))))))⟩
def v_cmp_isNaN_int : VFun := ⟨⟨[.F], .F, true⟩, [],
(.seq
(.st [.asg [] [(2, (.bin .neq (.v 0) (.v 0)))]])
(.ret (.v 2) []))⟩
def v_mail_Put_F : VFun := ⟨⟨[.F, .F], (.T [.F, .F]), false⟩, [],
(.seq
(.st [.asg [(.chk (some 6) (.v 1))] [(3, (.lp (.cn (fA 1 0) (.cn (fA 1 1) (.cn (fA 1 2) (.cn (fA 1 3) (.cn (fA 1 4) (.cn (fA 1 5) .nl))))))))]])
(.seq
(.seq
(.st [.call [] none 10 39 [(.v 0), (.agg (.cn (lA 3 0) (.cn (lA 3 1) (.cn (lA 3 2) .nl))))] [], .asg [(.bin .geq (.v 10) (N 0))] []])
(.cond (.bin .geq (.v 10) (N 0))
(.seq
(.st [.asg [] [(5, (N 1)), (4, (.lst .nl))]])
(.ret (.tup (.cn (.v 4) (.cn (.v 5) .nl))) []))
.skip))
(.seq
(.st [.call [] none 14 73 [(.v 0), (.fn 74 (.cn (.lp (.cn (lA 3 0) (.cn (lA 3 1) (.cn (lA 3 2) (.cn (lA 3 3) (.cn (lA 3 4) (.cn (lA 3 5) .nl))))))) .nl))] [], .asg [] [(6, (.v 14))]])
(.seq
(.seq
(.st [.asg [(.bin .lss (.v 6) (N 0))] []])
(.cond (.bin .lss (.v 6) (N 0))
(.st [.asg [] [(6, (.len (.v 0)))]])
.skip))
(.seq
(.st [.call [] none 20 44 [(.v 0)] [], .call [] none 23 77 [(.agg (.cn (lA 3 0) (.cn (lA 3 1) (.cn (lA 3 2) (.cn (lA 3 3) (.cn (lA 3 4) (.cn (lA 3 5) .nl)))))))] [], .call [(.chk (some 6) (.v 23))] none 25 76 [(.v 20), (.v 6), (.lst (.cn (.v 23) .nl))] [], .asg [] [(5, (N 0)), (4, (.v 25))]])
(.ret (.tup (.cn (.v 4) (.cn (.v 5) .nl))) []))))))⟩
def v_mail_Copy_F_L1 : VC :=
(.seq
(.st [.asg [(.bin .lss (.v 7) (.v 6))] []])
(.seq
(.cond (.bin .lss (.v 7) (.v 6))
.skip
(.exit 0))
(.seq
(.block 1
(.st [.asg [] [(4, (.lp (.cn (.fld none (.ld (some 6) (.ia 6 (.v 5) (.v 7)) 0) 0) (.cn (.fld none (.ld (some 6) (.ia 6 (.v 5) (.v 7)) 0) 1) (.cn (.fld none (.ld (some 6) (.ia 6 (.v 5) (.v 7)) 0) 2) (.cn (.fld none (.ld (some 6) (.ia 6 (.v 5) (.v 7)) 0) 3) (.cn (.fld none (.ld (some 6) (.ia 6 (.v 5) (.v 7)) 0) 4) (.cn (.fld none (.ld (some 6) (.ia 6 (.v 5) (.v 7)) 0) 5) .nl))))))))], .call [] none 13 77 [(.agg (.cn (lA 4 0) (.cn (lA 4 1) (.cn (lA 4 2) (.cn (lA 4 3) (.cn (lA 4 4) (.cn (lA 4 5) .nl)))))))] [], .asg [(.chk (some 6) (.v 13))] [(2, (.app 6 (.v 2) (.lst (.cn (.v 13) .nl))))]]))
(.st [.asg [] [(7, (.bin .add (.v 7) (N 1)))]]))))
def v_mail_Copy_F : VFun := ⟨⟨[.F], .F, false⟩, [],
(.seq
(.st [.asg [] [(2, (.lst .nl))]])
(.seq
(.seq
(.st [.asg [] [(7, (N 0)), (6, (.len (.v 0))), (5, (.v 0))]])
(.block 0
(.loop v_mail_Copy_F_L1)))
(.seq
(.st [])
(.ret (.v 2) []))))⟩
/-- The table: slices.Insert is known otherwise. -/
noncomputable abbrev FTM : Nat → Option IFun := setT (tabOf FTL) 76 insF
def VTL : List (Option VFun) := [none, none, none, none, none, none, none, some v_law8_MailTells, some v_law8_MailActs, some v_law8_MailSorted, none, none, none, none, none, none, none, none, none, none, none, none, none, some v_alike_Round, none, none, none, none, none, none, some v_alike_Mail, some v_law8_awake, some v_mail_Put, some v_ref7_Put, some v_mail_Take, some v_ref7_Take, some v_ref7_SameMail, some v_mail_Sorted, some v_ref7_Sorted, some v_mail_Find, some v_ref7_FindID, some v_mail_To, some v_ref7_To, some v_mail_Same, some v_mail_Copy, some v_law8_message, none, none, none, none, none, none, none, none, none, none, none, none, none, none, none, none, none, none, none, none, none, none, none, none, none, none, none, some v_slices_IndexFunc_api_Message_api_Message, some v_mail_Put_1, some v_ident_Less, some vIns, some v_mail_own, some v_ref7_Less, some vDel, some v_ref1_SameNote, some v_mail_Find_1, some v_slices_EqualFunc_api_Message_api_Message_api_Message_api_Message, some v_mail_Same_1, some v_prog_SameNote, none, none, none, none, none, some v_ref1_Ints, none, none, none, none, none, some v_ident_order, none, none, some v_prog_CopyNote, some v_slices_Equal_int_int, none, some v_cmp_Or_int, some v_cmp_Compare_int, none, some vCl', some v_cmp_isNaN_int, none, none, none, none, none, none, none, none, none, none, none, none, none, none, none, none, none, none, none, none, none, none, none, none, none, none, none, none, none, none, none, none, none, none, none, none, none, none, none, none, none, none, none, none, none, none, none, none, none, none, none, none, none, none, none, none, none, none, none, none, none, none, none, none, none, none, none, none, none, none, none, none, none, none, none, none, none, none, none, none, none, none, none, none, none, none, none, none, none, none, none, none, none, none, none, none, none, none, none, none, none, none, none, none, none, none, none, none, none, none, none, none, none, none, none, none, none, none, none, none, none, none, none, none, none, none, none, none, none, none, none, none, none, none, none, none, none, none, none, none, none, none, none, none, none, none, none, none, none, none, none, none, none, none, none, none, none, none, none, none, none, none, none, none, none, none, none, none, none, none, none, none, none, none, none, none, none, none, none, none, none, none, none, none, none, none, none, none, none, none, none, none, none, none, none, none, none, none, none, none, none, none, none, none, some v_mail_Put_F, some v_mail_Copy_F]
def tVT : Nat → Option VFun := tabV VTL
def tVS : Nat → Option Sig := fun g => (tVT g).map VFun.sig
end Gv

namespace Gv
open Go
theorem mk7 : EntOk FTM tVS 7 v_law8_MailTells := .inl ⟨f_law8_MailTells, rfl, by kernel_rfl⟩
theorem mk8 : EntOk FTM tVS 8 v_law8_MailActs := .inl ⟨f_law8_MailActs, rfl, by kernel_rfl⟩
theorem mk9 : EntOk FTM tVS 9 v_law8_MailSorted := .inl ⟨f_law8_MailSorted, rfl, by kernel_rfl⟩
theorem mk23 : EntOk FTM tVS 23 v_alike_Round := .inl ⟨f_alike_Round, rfl, by kernel_rfl⟩
theorem mk30 : EntOk FTM tVS 30 v_alike_Mail := .inl ⟨f_alike_Mail, rfl, by kernel_rfl⟩
theorem mk31 : EntOk FTM tVS 31 v_law8_awake := .inl ⟨f_law8_awake, rfl, by kernel_rfl⟩
theorem mk32 : EntOk FTM tVS 32 v_mail_Put := .inl ⟨f_mail_Put, rfl, by kernel_rfl⟩
theorem mk33 : EntOk FTM tVS 33 v_ref7_Put := .inl ⟨f_ref7_Put, rfl, by kernel_rfl⟩
theorem mk34 : EntOk FTM tVS 34 v_mail_Take := .inl ⟨f_mail_Take, rfl, by kernel_rfl⟩
theorem mk35 : EntOk FTM tVS 35 v_ref7_Take := .inl ⟨f_ref7_Take, rfl, by kernel_rfl⟩
theorem mk36 : EntOk FTM tVS 36 v_ref7_SameMail := .inl ⟨f_ref7_SameMail, rfl, by kernel_rfl⟩
theorem mk37 : EntOk FTM tVS 37 v_mail_Sorted := .inl ⟨f_mail_Sorted, rfl, by kernel_rfl⟩
theorem mk38 : EntOk FTM tVS 38 v_ref7_Sorted := .inl ⟨f_ref7_Sorted, rfl, by kernel_rfl⟩
theorem mk39 : EntOk FTM tVS 39 v_mail_Find := .inl ⟨f_mail_Find, rfl, by kernel_rfl⟩
theorem mk40 : EntOk FTM tVS 40 v_ref7_FindID := .inl ⟨f_ref7_FindID, rfl, by kernel_rfl⟩
theorem mk41 : EntOk FTM tVS 41 v_mail_To := .inl ⟨f_mail_To, rfl, by kernel_rfl⟩
theorem mk42 : EntOk FTM tVS 42 v_ref7_To := .inl ⟨f_ref7_To, rfl, by kernel_rfl⟩
theorem mk43 : EntOk FTM tVS 43 v_mail_Same := .inl ⟨f_mail_Same, rfl, by kernel_rfl⟩
theorem mk44 : EntOk FTM tVS 44 v_mail_Copy := .inl ⟨f_mail_Copy, rfl, by kernel_rfl⟩
theorem mk45 : EntOk FTM tVS 45 v_law8_message := .inl ⟨f_law8_message, rfl, by kernel_rfl⟩
theorem mk73 : EntOk FTM tVS 73 v_slices_IndexFunc_api_Message_api_Message := .inl ⟨f_slices_IndexFunc_api_Message_api_Message, rfl, by kernel_rfl⟩
theorem mk74 : EntOk FTM tVS 74 v_mail_Put_1 := .inl ⟨f_mail_Put_1, rfl, by kernel_rfl⟩
theorem mk75 : EntOk FTM tVS 75 v_ident_Less := .inl ⟨f_ident_Less, rfl, by kernel_rfl⟩
theorem mk77 : EntOk FTM tVS 77 v_mail_own := .inl ⟨f_mail_own, rfl, by kernel_rfl⟩
theorem mk78 : EntOk FTM tVS 78 v_ref7_Less := .inl ⟨f_ref7_Less, rfl, by kernel_rfl⟩
theorem mk80 : EntOk FTM tVS 80 v_ref1_SameNote := .inl ⟨f_ref1_SameNote, rfl, by kernel_rfl⟩
theorem mk81 : EntOk FTM tVS 81 v_mail_Find_1 := .inl ⟨f_mail_Find_1, rfl, by kernel_rfl⟩
theorem mk82 : EntOk FTM tVS 82 v_slices_EqualFunc_api_Message_api_Message_api_Message_api_Message := .inl ⟨f_slices_EqualFunc_api_Message_api_Message_api_Message_api_Message, rfl, by kernel_rfl⟩
theorem mk83 : EntOk FTM tVS 83 v_mail_Same_1 := .inl ⟨f_mail_Same_1, rfl, by kernel_rfl⟩
theorem mk84 : EntOk FTM tVS 84 v_prog_SameNote := .inl ⟨f_prog_SameNote, rfl, by kernel_rfl⟩
theorem mk90 : EntOk FTM tVS 90 v_ref1_Ints := .inl ⟨f_ref1_Ints, rfl, by kernel_rfl⟩
theorem mk96 : EntOk FTM tVS 96 v_ident_order := .inl ⟨f_ident_order, rfl, by kernel_rfl⟩
theorem mk99 : EntOk FTM tVS 99 v_prog_CopyNote := .inl ⟨f_prog_CopyNote, rfl, by kernel_rfl⟩
theorem mk100 : EntOk FTM tVS 100 v_slices_Equal_int_int := .inl ⟨f_slices_Equal_int_int, rfl, by kernel_rfl⟩
theorem mk102 : EntOk FTM tVS 102 v_cmp_Or_int := .inl ⟨f_cmp_Or_int, rfl, by kernel_rfl⟩
theorem mk103 : EntOk FTM tVS 103 v_cmp_Compare_int := .inl ⟨f_cmp_Compare_int, rfl, by kernel_rfl⟩
theorem mk106 : EntOk FTM tVS 106 v_cmp_isNaN_int := .inl ⟨f_cmp_isNaN_int, rfl, by kernel_rfl⟩
theorem mk311 : EntOk FTM tVS 311 v_mail_Put_F := .inl ⟨f_mail_Put_F, rfl, by kernel_rfl⟩
theorem mk312 : EntOk FTM tVS 312 v_mail_Copy_F := .inl ⟨f_mail_Copy_F, rfl, by kernel_rfl⟩
theorem del_ent79 : EntOk FTM tVS 79 vDel := del_ent (by rfl)
theorem cl_ent105 : EntOk FTM tVS 105 vCl' := cl_ent (by rfl)
end Gv

namespace Gv
open Go
theorem tVT_ok : VTOk' FTM tVT := vtok_of ⟨⟨rfl, mk7⟩, ⟨⟨rfl, mk8⟩, ⟨⟨rfl, mk9⟩, ⟨⟨rfl, mk23⟩, ⟨⟨rfl, mk30⟩, ⟨⟨rfl, mk31⟩, ⟨⟨rfl, mk32⟩, ⟨⟨rfl, mk33⟩, ⟨⟨rfl, mk34⟩, ⟨⟨rfl, mk35⟩, ⟨⟨rfl, mk36⟩, ⟨⟨rfl, mk37⟩, ⟨⟨rfl, mk38⟩, ⟨⟨rfl, mk39⟩, ⟨⟨rfl, mk40⟩, ⟨⟨rfl, mk41⟩, ⟨⟨rfl, mk42⟩, ⟨⟨rfl, mk43⟩, ⟨⟨rfl, mk44⟩, ⟨⟨rfl, mk45⟩, ⟨⟨rfl, mk73⟩, ⟨⟨rfl, mk74⟩, ⟨⟨rfl, mk75⟩, ⟨⟨rfl, ins_ent⟩, ⟨⟨rfl, mk77⟩, ⟨⟨rfl, mk78⟩, ⟨⟨rfl, del_ent79⟩, ⟨⟨rfl, mk80⟩, ⟨⟨rfl, mk81⟩, ⟨⟨rfl, mk82⟩, ⟨⟨rfl, mk83⟩, ⟨⟨rfl, mk84⟩, ⟨⟨rfl, mk90⟩, ⟨⟨rfl, mk96⟩, ⟨⟨rfl, mk99⟩, ⟨⟨rfl, mk100⟩, ⟨⟨rfl, mk102⟩, ⟨⟨rfl, mk103⟩, ⟨⟨rfl, cl_ent105⟩, ⟨⟨rfl, mk106⟩, ⟨⟨rfl, mk311⟩, ⟨⟨rfl, mk312⟩, trivial⟩⟩⟩⟩⟩⟩⟩⟩⟩⟩⟩⟩⟩⟩⟩⟩⟩⟩⟩⟩⟩⟩⟩⟩⟩⟩⟩⟩⟩⟩⟩⟩⟩⟩⟩⟩⟩⟩⟩⟩⟩⟩
end Gv
